/- What functions of the translation come to, and their calls' proofs; by a program of mine over the kit's print, with contracts given by hand beside. Conditions: where a plain function tells none, nothing is said. -/
import Derived.Test.YtbmimcpllpgcaaaG0
import Derived.Test.YtbmimcpllpgcaaaG2
import Derived.Test.YtbmimcpllpgcaaaG3
import Derived.Test.YtbmimcpllpgcaaaG5
import Derived.Test.YtbmimcpllpgcaaaG6
import Derived.Test.YtbmimcpllpgcaaaGMay
namespace Go.Proofs.Ytbmimcpllpgcaaa.G
open Go.RowKit Go.Proofs.YtbmimcpllpgcaaaW.PrintWords Go.Proofs.YtbmimcpllpgcaaaW.PrintLast Go.Proofs.YtbmimcpllpgcaaaW.PrintMore
attribute [local go_sem] max2_int min2_int max_two min_two max_three min_three max_four min_four   -- for this text's walks alone
set_option linter.unusedVariables false
set_option linter.unusedSimpArgs false

/-! ### caravanlaw5_ItemTime: function 7 -/
def caravanlaw5_ItemTime.f (k : Nat) (l0 : List Int) (a1 : Int) (a2 : Int) : Option (Bool) := (caravanlaw5_Make.f k l0 1).bind fun bt262 => ((item_Alive.f bt262.1 bt262.2.1 bt262.2.2.1 bt262.2.2.2.1 (wrap64 (1 + (wrap64 (a1)))) (wrap64 (a2))).bind fun t273 => (if (t273 == (decide ((wrap64 (a2)) ≤ (wrap64 (a1))))) = true then ((item_Alive.f bt262.1 bt262.2.1 bt262.2.2.1 bt262.2.2.2.1 0 (wrap64 (a2))).bind fun t274 => (if t274 = true then ((item_May.f bt262.1 bt262.2.1 bt262.2.2.1 bt262.2.2.2.1 (wrap64 (1 + (wrap64 (a1))))).bind fun t275 => (if t275 = true then ((item_Same.f k bt262.1 bt262.2.1 bt262.2.2.1 bt262.2.2.2.1 (wrap64 (1 + (wrap64 (a1)))) bt262.1 bt262.2.1 bt262.2.2.1 bt262.2.2.2.1 0).bind fun t276 => ((caravanref5_SameItem.f k bt262.1 bt262.2.1 bt262.2.2.1 bt262.2.2.2.1 (wrap64 (1 + (wrap64 (a1)))) bt262.1 bt262.2.1 bt262.2.2.1 bt262.2.2.2.1 0).bind fun t277 => (if (t276 == t277) = true then ((item_Same.f k bt262.1 bt262.2.1 bt262.2.2.1 bt262.2.2.2.1 (wrap64 (1 + (wrap64 (a1)))) bt262.1 bt262.2.1 bt262.2.2.1 bt262.2.2.2.1 0).bind fun t278 => (if t278 = true then (some false) else ((caravanlaw5_awake.f k).bind fun t279 => (some t279)))) else (some false)))) else (some false))) else (some false))) else (some false)))
theorem caravanlaw5_ItemTime.mono : ∀ a0 a1 a2 k, LeO (caravanlaw5_ItemTime.f k a0 a1 a2) (caravanlaw5_ItemTime.f (k + 1) a0 a1 a2) := by
 intro a0 a1 a2 k
 unfold caravanlaw5_ItemTime.f
 repeat' first
  | (with_reducible exact caravanlaw5_Make.mono _ _ _)
  | (with_reducible exact caravanlaw5_awake.mono _)
  | (with_reducible exact caravanref5_SameItem.mono _ _ _ _ _ _ _ _ _ _ _)
  | (with_reducible exact item_Same.mono _ _ _ _ _ _ _ _ _ _ _)
  | (with_reducible exact LeO.refl _)
  | (with_reducible exact LeO.none _)
  | (with_reducible refine LeO.ite ?_ ?_)
  | (with_reducible refine LeO.bind ?_ (fun _ => ?_))
  | exact caravanlaw5_Make.mono _ _ _
  | exact caravanlaw5_awake.mono _
  | exact caravanref5_SameItem.mono _ _ _ _ _ _ _ _ _ _ _
  | exact item_Same.mono _ _ _ _ _ _ _ _ _ _ _
  | exact LeO.none _
  | refine LeO.ite ?_ ?_
  | refine LeO.bind ?_ (fun _ => ?_)
def caravanlaw5_ItemTime.T5 : Bool × List (List Nat × List Nat) := (true, [([], []), ([], []), ([1], [1]), ([0, 2], [0, 2]), ([], []), ([4], [4]), ([], []), ([6], [6]), ([5, 7], [5, 7]), ([3, 8], [3, 8]), ([9, 3], [9]), ([10], [10]), ([10], [10]), ([12, 10], [10, 12]), ([11, 13, 10, 10], [10, 11, 13]), ([10, 14], [10, 14]), ([15, 14], [15]), ([16], [16]), ([17, 16, 16], [16, 17]), ([16, 18], [16, 18]), ([19, 18], [19]), ([20], [20]), ([20], [20]), ([21, 22, 20, 20], [20, 21, 22]), ([20], [20]), ([20], [20]), ([24, 25, 23, 20], [20, 24, 25]), ([23, 26, 20], [20, 23, 26]), ([20, 27], [20, 27]), ([28, 26], [28]), ([29], [29]), ([29], [29]), ([30, 31, 29, 29], [29, 30, 31]), ([32, 29], [29, 32]), ([29, 33], [29, 33]), ([34, 32], [34]), ([35, 35], [35]), ([35, 36], [35, 36]), ([37, 36, 0, 1, 2, 3, 4, 5, 6, 7, 8, 9, 10, 11, 12, 13, 14, 15, 16, 17, 18, 19, 20, 21, 22, 23, 24, 25, 26, 27, 28, 29, 30, 31, 32, 33, 34, 35, 36, 37], [37])])
def caravanlaw5_ItemTime.B5 : List Nat := [0, 0, 2, 7, 0, 16, 0, 64, 240, 511, 1023, 2047, 2047, 6143, 16383, 32767, 65535, 131071, 262143, 524287, 1048575, 2097151, 2097151, 8388607, 2097151, 2097151, 67108863, 134217727, 268435455, 536870911, 1073741823, 1073741823, 4294967295, 8589934591, 17179869183, 34359738367, 68719476735, 137438953471, 274877906943]
theorem caravanlaw5_ItemTime.tab5 : rtab .any (opsOf Try.f7 5) = caravanlaw5_ItemTime.T5 := by kernel_rfl
theorem caravanlaw5_ItemTime.bits5 : waitsOk caravanlaw5_ItemTime.T5.2 caravanlaw5_ItemTime.B5 = true := by kernel_rfl
set_option maxHeartbeats 8000000 in
set_option maxRecDepth 100000 in
theorem caravanlaw5_ItemTime.calls (k : Nat) (A0 : Option Addr) (c0 : Nat) (l0 : List Int) (a1 : Int) (a2 : Int) (r : Bool) (w : World) (hr0 : Kd.C (Kd.int .u8) w A0 l0.length l0) (hc0 : l0.length ≤ c0) (h : caravanlaw5_ItemTime.f k l0 a1 a2 = some r) :
 Calls Try.prog 7 #[.slice A0 l0.length c0, .int .u16 a1, .int .u16 a2] w fun e w' => e = .returned (.bool r) ∧ Below w.heap.size w w' := by
 have hu26 := Try.underlying26
 have HR0 := Aside0.mk hr0
 have HC0 := Aside0.mk hc0
 clear hr0 hc0
 have HB := Aside0.mk (Below.refl w.heap.size w)
 have H : ((caravanlaw5_Make.f k l0 1).bind fun bt262 => ((item_Alive.f bt262.1 bt262.2.1 bt262.2.2.1 bt262.2.2.2.1 (wrap64 (1 + (wrap64 (a1)))) (wrap64 (a2))).bind fun t273 => (if (t273 == (decide ((wrap64 (a2)) ≤ (wrap64 (a1))))) = true then ((item_Alive.f bt262.1 bt262.2.1 bt262.2.2.1 bt262.2.2.2.1 0 (wrap64 (a2))).bind fun t274 => (if t274 = true then ((item_May.f bt262.1 bt262.2.1 bt262.2.2.1 bt262.2.2.2.1 (wrap64 (1 + (wrap64 (a1))))).bind fun t275 => (if t275 = true then ((item_Same.f k bt262.1 bt262.2.1 bt262.2.2.1 bt262.2.2.2.1 (wrap64 (1 + (wrap64 (a1)))) bt262.1 bt262.2.1 bt262.2.2.1 bt262.2.2.2.1 0).bind fun t276 => ((caravanref5_SameItem.f k bt262.1 bt262.2.1 bt262.2.2.1 bt262.2.2.2.1 (wrap64 (1 + (wrap64 (a1)))) bt262.1 bt262.2.1 bt262.2.2.1 bt262.2.2.2.1 0).bind fun t277 => (if (t276 == t277) = true then ((item_Same.f k bt262.1 bt262.2.1 bt262.2.2.1 bt262.2.2.2.1 (wrap64 (1 + (wrap64 (a1)))) bt262.1 bt262.2.1 bt262.2.2.1 bt262.2.2.2.1 0).bind fun t278 => (if t278 = true then (some false) else ((caravanlaw5_awake.f k).bind fun t279 => (some t279)))) else (some false)))) else (some false))) else (some false))) else (some false)))) = some r := h
 clear h
 replace H := Option.bind_eq_some_iff.mp H
 obtain ⟨⟨t262, t263, t264, t267, t270⟩, A40, H⟩ := H
 replace H : ((item_Alive.f t262 t263 t264 t267 (wrap64 (1 + (wrap64 (a1)))) (wrap64 (a2))).bind fun t273 => (if (t273 == (decide ((wrap64 (a2)) ≤ (wrap64 (a1))))) = true then ((item_Alive.f t262 t263 t264 t267 0 (wrap64 (a2))).bind fun t274 => (if t274 = true then ((item_May.f t262 t263 t264 t267 (wrap64 (1 + (wrap64 (a1))))).bind fun t275 => (if t275 = true then ((item_Same.f k t262 t263 t264 t267 (wrap64 (1 + (wrap64 (a1)))) t262 t263 t264 t267 0).bind fun t276 => ((caravanref5_SameItem.f k t262 t263 t264 t267 (wrap64 (1 + (wrap64 (a1)))) t262 t263 t264 t267 0).bind fun t277 => (if (t276 == t277) = true then ((item_Same.f k t262 t263 t264 t267 (wrap64 (1 + (wrap64 (a1)))) t262 t263 t264 t267 0).bind fun t278 => (if t278 = true then (some false) else ((caravanlaw5_awake.f k).bind fun t279 => (some t279)))) else (some false)))) else (some false))) else (some false))) else (some false))) = some r := H
 have A4 := Aside0.mk A40
 clear A40
 replace H := Option.bind_eq_some_iff.mp H
 obtain ⟨t273, A50, H⟩ := H
 replace H : (if (t273 == (decide ((wrap64 (a2)) ≤ (wrap64 (a1))))) = true then ((item_Alive.f t262 t263 t264 t267 0 (wrap64 (a2))).bind fun t274 => (if t274 = true then ((item_May.f t262 t263 t264 t267 (wrap64 (1 + (wrap64 (a1))))).bind fun t275 => (if t275 = true then ((item_Same.f k t262 t263 t264 t267 (wrap64 (1 + (wrap64 (a1)))) t262 t263 t264 t267 0).bind fun t276 => ((caravanref5_SameItem.f k t262 t263 t264 t267 (wrap64 (1 + (wrap64 (a1)))) t262 t263 t264 t267 0).bind fun t277 => (if (t276 == t277) = true then ((item_Same.f k t262 t263 t264 t267 (wrap64 (1 + (wrap64 (a1)))) t262 t263 t264 t267 0).bind fun t278 => (if t278 = true then (some false) else ((caravanlaw5_awake.f k).bind fun t279 => (some t279)))) else (some false)))) else (some false))) else (some false))) else (some false)) = some r := H
 have A5 := Aside0.mk A50
 clear A50
 by_cases c6 : (t273 == (decide ((wrap64 (a2)) ≤ (wrap64 (a1))))) = true
 ·rw [if_pos c6] at H
  have c6b0 : (t273 == (decide ((wrap64 (a2)) ≤ (wrap64 (a1))))) = true := c6
  (try (have c6b1 : decide (t273 = (decide ((wrap64 (a2)) ≤ (wrap64 (a1))))) = true := by simpa using c6))
  (try (have c6b2 : (t273 == (decide ((wrap64 (a2)) ≤ (wrap64 (a1))))) = true := by simpa using c6))
  clear c6
  replace H := Option.bind_eq_some_iff.mp H
  obtain ⟨t274, A70, H⟩ := H
  replace H : (if t274 = true then ((item_May.f t262 t263 t264 t267 (wrap64 (1 + (wrap64 (a1))))).bind fun t275 => (if t275 = true then ((item_Same.f k t262 t263 t264 t267 (wrap64 (1 + (wrap64 (a1)))) t262 t263 t264 t267 0).bind fun t276 => ((caravanref5_SameItem.f k t262 t263 t264 t267 (wrap64 (1 + (wrap64 (a1)))) t262 t263 t264 t267 0).bind fun t277 => (if (t276 == t277) = true then ((item_Same.f k t262 t263 t264 t267 (wrap64 (1 + (wrap64 (a1)))) t262 t263 t264 t267 0).bind fun t278 => (if t278 = true then (some false) else ((caravanlaw5_awake.f k).bind fun t279 => (some t279)))) else (some false)))) else (some false))) else (some false)) = some r := H
  have A7 := Aside0.mk A70
  clear A70
  by_cases c8 : t274 = true
  ·subst c8
   have H1 : ((item_May.f t262 t263 t264 t267 (wrap64 (1 + (wrap64 (a1))))).bind fun t275 => (if t275 = true then ((item_Same.f k t262 t263 t264 t267 (wrap64 (1 + (wrap64 (a1)))) t262 t263 t264 t267 0).bind fun t276 => ((caravanref5_SameItem.f k t262 t263 t264 t267 (wrap64 (1 + (wrap64 (a1)))) t262 t263 t264 t267 0).bind fun t277 => (if (t276 == t277) = true then ((item_Same.f k t262 t263 t264 t267 (wrap64 (1 + (wrap64 (a1)))) t262 t263 t264 t267 0).bind fun t278 => (if t278 = true then (some false) else ((caravanlaw5_awake.f k).bind fun t279 => (some t279)))) else (some false)))) else (some false))) = some r := by rw [if_pos rfl] at H; exact H
   clear H
   have H := H1
   clear H1
   replace H := Option.bind_eq_some_iff.mp H
   obtain ⟨t275, A90, H⟩ := H
   replace H : (if t275 = true then ((item_Same.f k t262 t263 t264 t267 (wrap64 (1 + (wrap64 (a1)))) t262 t263 t264 t267 0).bind fun t276 => ((caravanref5_SameItem.f k t262 t263 t264 t267 (wrap64 (1 + (wrap64 (a1)))) t262 t263 t264 t267 0).bind fun t277 => (if (t276 == t277) = true then ((item_Same.f k t262 t263 t264 t267 (wrap64 (1 + (wrap64 (a1)))) t262 t263 t264 t267 0).bind fun t278 => (if t278 = true then (some false) else ((caravanlaw5_awake.f k).bind fun t279 => (some t279)))) else (some false)))) else (some false)) = some r := H
   have A9 := Aside0.mk A90
   clear A90
   by_cases c10 : t275 = true
   ·subst c10
    have H1 : ((item_Same.f k t262 t263 t264 t267 (wrap64 (1 + (wrap64 (a1)))) t262 t263 t264 t267 0).bind fun t276 => ((caravanref5_SameItem.f k t262 t263 t264 t267 (wrap64 (1 + (wrap64 (a1)))) t262 t263 t264 t267 0).bind fun t277 => (if (t276 == t277) = true then ((item_Same.f k t262 t263 t264 t267 (wrap64 (1 + (wrap64 (a1)))) t262 t263 t264 t267 0).bind fun t278 => (if t278 = true then (some false) else ((caravanlaw5_awake.f k).bind fun t279 => (some t279)))) else (some false)))) = some r := by rw [if_pos rfl] at H; exact H
    clear H
    have H := H1
    clear H1
    replace H := Option.bind_eq_some_iff.mp H
    obtain ⟨t276, A110, H⟩ := H
    replace H : ((caravanref5_SameItem.f k t262 t263 t264 t267 (wrap64 (1 + (wrap64 (a1)))) t262 t263 t264 t267 0).bind fun t277 => (if (t276 == t277) = true then ((item_Same.f k t262 t263 t264 t267 (wrap64 (1 + (wrap64 (a1)))) t262 t263 t264 t267 0).bind fun t278 => (if t278 = true then (some false) else ((caravanlaw5_awake.f k).bind fun t279 => (some t279)))) else (some false))) = some r := H
    have A11 := Aside0.mk A110
    clear A110
    replace H := Option.bind_eq_some_iff.mp H
    obtain ⟨t277, A120, H⟩ := H
    replace H : (if (t276 == t277) = true then ((item_Same.f k t262 t263 t264 t267 (wrap64 (1 + (wrap64 (a1)))) t262 t263 t264 t267 0).bind fun t278 => (if t278 = true then (some false) else ((caravanlaw5_awake.f k).bind fun t279 => (some t279)))) else (some false)) = some r := H
    have A12 := Aside0.mk A120
    clear A120
    by_cases c13 : (t276 == t277) = true
    ·rw [if_pos c13] at H
     have c13b0 : (t276 == t277) = true := c13
     (try (have c13b1 : decide (t276 = t277) = true := by simpa using c13))
     (try (have c13b2 : (t276 == t277) = true := by simpa using c13))
     clear c13
     replace H := Option.bind_eq_some_iff.mp H
     obtain ⟨t278, A140, H⟩ := H
     replace H : (if t278 = true then (some false) else ((caravanlaw5_awake.f k).bind fun t279 => (some t279))) = some r := H
     have A14 := Aside0.mk A140
     clear A140
     by_cases c15 : t278 = true
     ·subst c15
      have H1 : (some false) = some r := by rw [if_pos rfl] at H; exact H
      clear H
      have H := H1
      clear H1
      obtain rfl := Option.some.inj H
      go_enter Try.func7, Try.ntmps7
      try go_wp2_with (first | ((with_reducible refine gate_callee (f := 20) rfl ?_); refine goesL_ (some 10) rfl rfl Try.func20 (by kernel_rfl) rfl #[.slice A0 l0.length c0, .int .u8 1] rfl qM_ ?_; (with_reducible refine (caravanlaw5_Make.calls k _ _ l0 1 t262 t263 t264 t267 t270 _ ?side1 ?side2 A4.out).mono ?_); (case side1 => exact qC_ (HR0.out)); (case side2 => exact HC0.out); rintro e w16 ⟨v265, v268, rfl, ho0, ho1, hb⟩; refine ⟨_, rfl, ?_⟩; have n0_ := Aside0.mk (Kd.R_lower ho0 (below_size (qdb35_ HB.out))); have n1_ := Aside0.mk (Kd.R_lower ho1 (below_size (qdb35_ HB.out))); have n2_ := Aside0.mk (below_step (qdb35_ HB.out) hb); clear HB; have HO266 := n0_; have HO269 := n1_; have HB := n2_; clear n0_ n1_ n2_; (try clear hb); (try clear hb2); (try clear hk); (try clear hi); (try clear ho0); (try clear ho1)) | ((with_reducible refine gate_dst (N := 7) rfl ?_); refine box_event ?hg (N := 7) ?hd (cs := #[.int .i64 0, .string (⟨#[]⟩ : ByteArray), .slice none 0 0, .slice none 0 0, .int .i64 0]) (t := 26) ?hr ?_; (case hd => rfl); (case hg => rfl); (case hr => first | (go_simp; done) | (go_simp; rfl)); intro gb271 hg w17 hbox hb; have n0_ := Aside0.mk (Kd.R_below (q8524_ HO266.out) hb); have n1_ := Aside0.mk (Kd.R_below (q8524_ HO269.out) hb); have n2_ := Aside0.mk (below_step (qdb35_ HB.out) hb); have n3_ := Aside0.mk (hbox); have n4_ := Aside0.mk ((by rw [hg]; exact (below_size (qdb35_ HB.out)) : w.heap.size ≤ gb271)); have n5_ := Aside0.mk ((by rw [hg]; exact (below_size (qdb35_ HB.out)) : w.heap.size ≤ gb271)); clear HO266; clear HO269; clear HB; have HO266 := n0_; have HO269 := n1_; have HB := n2_; have BK271 := n3_; have GW271 := n4_; have GE271 := n5_; clear n0_ n1_ n2_ n3_ n4_ n5_; clear hb hbox hg; have hcz18_0 : w17.cell? ⟨gb271, 0, none⟩ = some (.int .i64 0) := (blk_cell BK271.out 0).trans rfl; have hcz18_1 : w17.cell? ⟨gb271, 1, none⟩ = some (.string (⟨#[]⟩ : ByteArray)) := (blk_cell BK271.out 1).trans rfl; have hcz18_2 : w17.cell? ⟨gb271, 2, none⟩ = some (.slice none 0 0) := (blk_cell BK271.out 2).trans rfl; have hcz18_3 : w17.cell? ⟨gb271, 3, none⟩ = some (.slice none 0 0) := (blk_cell BK271.out 3).trans rfl; have hcz18_4 : w17.cell? ⟨gb271, 4, none⟩ = some (.int .i64 0) := (blk_cell BK271.out 4).trans rfl; have hfz18_0 := blk_frozen BK271.out 0; have hfz18_1 := blk_frozen BK271.out 1; have hfz18_2 := blk_frozen BK271.out 2; have hfz18_3 := blk_frozen BK271.out 3; have hfz18_4 := blk_frozen BK271.out 4; obtain ⟨Ao19, co19, eo19⟩ := Kd.R_slice HO266.out; subst eo19; obtain ⟨Ao20, co20, eo20⟩ := Kd.R_slice HO269.out; subst eo20) | ((with_reducible refine gate_store (t := 26) (p := 7) rfl ?_); refine store_event (t := 26) (p := 7) (v := ?vo_w21) (w1 := (((((w17.setCell ⟨gb271, 0, none⟩ (.int .i64 t262)).setCell ⟨gb271, 1, none⟩ (.string t263)).setCell ⟨gb271, 2, none⟩ (.slice Ao19 t264.length co19)).setCell ⟨gb271, 3, none⟩ (.slice Ao20 t267.length co20)).setCell ⟨gb271, 4, none⟩ (.int .i64 t270))) ?hg ?ho ?hn ?hr ?_; (case ho => rfl); (case hg => rfl); (case hn => rfl); (case hr => first | (go_simp; done) | (go_simp; rfl)); intro w21 hw; have n0_ : Aside0 (Kd.R k29 29 w21 w.heap.size (fun _ => True) (.slice Ao19 t264.length co19) t264) := ⟨(by rw [hw]; exact (by (with_reducible repeat (first | apply Kd.R_alloc | apply Kd.R_drewN | apply Kd.R_drew)); exact Kd.R_mono (Kd.R_far (p := ⟨gb271, 4, none⟩) (Kd.R_far (p := ⟨gb271, 3, none⟩) (Kd.R_far (p := ⟨gb271, 2, none⟩) (Kd.R_far (p := ⟨gb271, 1, none⟩) (Kd.R_far (p := ⟨gb271, 0, none⟩) (Kd.R_types HO266.out BK271.out (by decide)) (fun _ hk => hk.2) (.int .i64 t262)) (fun _ hk => hk.2) (.string t263)) (fun _ hk => hk.2) (.slice Ao19 t264.length co19)) (fun _ hk => hk.2) (.slice Ao20 t267.length co20)) (fun _ hk => hk.2) (.int .i64 t270)) (fun _ hk => trivial)))⟩; have n1_ : Aside0 (Kd.R Kd.string 9 w21 w.heap.size (fun _ => True) (.slice Ao20 t267.length co20) t267) := ⟨(by rw [hw]; exact (by (with_reducible repeat (first | apply Kd.R_alloc | apply Kd.R_drewN | apply Kd.R_drew)); exact Kd.R_mono (Kd.R_far (p := ⟨gb271, 4, none⟩) (Kd.R_far (p := ⟨gb271, 3, none⟩) (Kd.R_far (p := ⟨gb271, 2, none⟩) (Kd.R_far (p := ⟨gb271, 1, none⟩) (Kd.R_far (p := ⟨gb271, 0, none⟩) (Kd.R_types HO269.out BK271.out (by decide)) (fun _ hk => hk.2) (.int .i64 t262)) (fun _ hk => hk.2) (.string t263)) (fun _ hk => hk.2) (.slice Ao19 t264.length co19)) (fun _ hk => hk.2) (.slice Ao20 t267.length co20)) (fun _ hk => hk.2) (.int .i64 t270)) (fun _ hk => trivial)))⟩; have n2_ : Aside0 (w21.heap[gb271]? = some (.cells #[.int .i64 t262, .string t263, .slice Ao19 t264.length co19, .slice Ao20 t267.length co20, .int .i64 t270] 26 (0, 0))) := ⟨(by rw [hw]; exact (by (with_reducible repeat (first | refine blk_drewN ?_ _ | refine blk_drew ?_ | refine blk_alloc ?_ _)); refine blk_put (cs := #[.int .i64 t262, .string t263, .slice Ao19 t264.length co19, .slice Ao20 t267.length co20, .int .i64 0]) ?_ 4 _ rfl; (with_reducible repeat (first | refine blk_drewN ?_ _ | refine blk_drew ?_ | refine blk_alloc ?_ _)); refine blk_put (cs := #[.int .i64 t262, .string t263, .slice Ao19 t264.length co19, .slice none 0 0, .int .i64 0]) ?_ 3 _ rfl; (with_reducible repeat (first | refine blk_drewN ?_ _ | refine blk_drew ?_ | refine blk_alloc ?_ _)); refine blk_put (cs := #[.int .i64 t262, .string t263, .slice none 0 0, .slice none 0 0, .int .i64 0]) ?_ 2 _ rfl; (with_reducible repeat (first | refine blk_drewN ?_ _ | refine blk_drew ?_ | refine blk_alloc ?_ _)); refine blk_put (cs := #[.int .i64 t262, .string (⟨#[]⟩ : ByteArray), .slice none 0 0, .slice none 0 0, .int .i64 0]) ?_ 1 _ rfl; (with_reducible repeat (first | refine blk_drewN ?_ _ | refine blk_drew ?_ | refine blk_alloc ?_ _)); refine blk_put (cs := #[.int .i64 0, .string (⟨#[]⟩ : ByteArray), .slice none 0 0, .slice none 0 0, .int .i64 0]) ?_ 0 _ rfl; (with_reducible repeat (first | refine blk_drewN ?_ _ | refine blk_drew ?_ | refine blk_alloc ?_ _)); exact BK271.out))⟩; have n3_ : Aside0 (Below w.heap.size w w21) := ⟨(q5b6b_ HB.out GE271.out)⟩; clear hw; clear HO266; clear HO269; clear BK271; clear HB; have HO266 := n0_; have HO269 := n1_; have BK271 := n2_; have HB := n3_; clear n0_ n1_ n2_ n3_; have hcz22_0 : w21.cell? ⟨gb271, 0, none⟩ = some (.int .i64 t262) := (blk_cell BK271.out 0).trans rfl; have hcz22_1 : w21.cell? ⟨gb271, 1, none⟩ = some (.string t263) := (blk_cell BK271.out 1).trans rfl; have hcz22_2 : w21.cell? ⟨gb271, 2, none⟩ = some (.slice Ao19 t264.length co19) := (blk_cell BK271.out 2).trans rfl; have hcz22_3 : w21.cell? ⟨gb271, 3, none⟩ = some (.slice Ao20 t267.length co20) := (blk_cell BK271.out 3).trans rfl; have hcz22_4 : w21.cell? ⟨gb271, 4, none⟩ = some (.int .i64 t270) := (blk_cell BK271.out 4).trans rfl; have hfz22_0 := blk_frozen BK271.out 0; have hfz22_1 := blk_frozen BK271.out 1; have hfz22_2 := blk_frozen BK271.out 2; have hfz22_3 := blk_frozen BK271.out 3; have hfz22_4 := blk_frozen BK271.out 4) | ((with_reducible refine gate_store (t := 3) (p := 14) rfl ?_); refine store_event (t := 3) (p := 14) (v := ?vo_w23) (w1 := (w21.setCell ⟨gb271, 4, none⟩ (.int .i64 (wrap64 (1 + (wrap64 (a1))))))) ?hg ?ho ?hn ?hr ?_; (case ho => rfl); (case hg => rfl); (case hn => rfl); (case hr => first | (go_simp; done) | (go_simp; rfl)); intro w23 hw; have n0_ : Aside0 (Kd.R k29 29 w23 w.heap.size (fun _ => True) (.slice Ao19 t264.length co19) t264) := ⟨(by rw [hw]; exact (by (with_reducible repeat (first | apply Kd.R_alloc | apply Kd.R_drewN | apply Kd.R_drew)); exact Kd.R_mono (Kd.R_far (p := ⟨gb271, 4, none⟩) (Kd.R_types HO266.out BK271.out (by decide)) (fun _ hk => hk.2) (.int .i64 (wrap64 (1 + (wrap64 (a1)))))) (fun _ hk => trivial)))⟩; have n1_ : Aside0 (Kd.R Kd.string 9 w23 w.heap.size (fun _ => True) (.slice Ao20 t267.length co20) t267) := ⟨(by rw [hw]; exact (by (with_reducible repeat (first | apply Kd.R_alloc | apply Kd.R_drewN | apply Kd.R_drew)); exact Kd.R_mono (Kd.R_far (p := ⟨gb271, 4, none⟩) (Kd.R_types HO269.out BK271.out (by decide)) (fun _ hk => hk.2) (.int .i64 (wrap64 (1 + (wrap64 (a1)))))) (fun _ hk => trivial)))⟩; have n2_ : Aside0 (w23.heap[gb271]? = some (.cells #[.int .i64 t262, .string t263, .slice Ao19 t264.length co19, .slice Ao20 t267.length co20, .int .i64 (wrap64 (1 + (wrap64 (a1))))] 26 (0, 0))) := ⟨(by rw [hw]; exact (by (with_reducible repeat (first | refine blk_drewN ?_ _ | refine blk_drew ?_ | refine blk_alloc ?_ _)); refine blk_put (cs := #[.int .i64 t262, .string t263, .slice Ao19 t264.length co19, .slice Ao20 t267.length co20, .int .i64 t270]) ?_ 4 _ rfl; (with_reducible repeat (first | refine blk_drewN ?_ _ | refine blk_drew ?_ | refine blk_alloc ?_ _)); exact BK271.out))⟩; have n3_ : Aside0 (Below w.heap.size w w23) := ⟨(q5b6b_ HB.out GE271.out)⟩; clear hw; clear HO266; clear HO269; clear BK271; clear HB; have HO266 := n0_; have HO269 := n1_; have BK271 := n2_; have HB := n3_; clear n0_ n1_ n2_ n3_; have hcz24_0 : w23.cell? ⟨gb271, 0, none⟩ = some (.int .i64 t262) := (blk_cell BK271.out 0).trans rfl; have hcz24_1 : w23.cell? ⟨gb271, 1, none⟩ = some (.string t263) := (blk_cell BK271.out 1).trans rfl; have hcz24_2 : w23.cell? ⟨gb271, 2, none⟩ = some (.slice Ao19 t264.length co19) := (blk_cell BK271.out 2).trans rfl; have hcz24_3 : w23.cell? ⟨gb271, 3, none⟩ = some (.slice Ao20 t267.length co20) := (blk_cell BK271.out 3).trans rfl; have hcz24_4 : w23.cell? ⟨gb271, 4, none⟩ = some (.int .i64 (wrap64 (1 + (wrap64 (a1))))) := (blk_cell BK271.out 4).trans rfl; have hfz24_0 := blk_frozen BK271.out 0; have hfz24_1 := blk_frozen BK271.out 1; have hfz24_2 := blk_frozen BK271.out 2; have hfz24_3 := blk_frozen BK271.out 3; have hfz24_4 := blk_frozen BK271.out 4) | ((with_reducible refine gate_dst (N := 8) rfl ?_); refine box_event ?hg (N := 8) ?hd (cs := #[.int .i64 0, .string (⟨#[]⟩ : ByteArray), .slice none 0 0, .slice none 0 0, .int .i64 0]) (t := 26) ?hr ?_; (case hd => rfl); (case hg => rfl); (case hr => first | (go_simp; done) | (go_simp; rfl)); intro gb272 hg w25 hbox hb; have n0_ := Aside0.mk (Kd.R_below (q8524_ HO266.out) hb); have n1_ := Aside0.mk (Kd.R_below (q8524_ HO269.out) hb); have n2_ := Aside0.mk (blk_below (g := gb271) (o := .cells #[.int .i64 t262, .string t263, .slice Ao19 t264.length co19, .slice Ao20 t267.length co20, .int .i64 (wrap64 (1 + (wrap64 (a1))))] 26 (0, 0)) (q1466_ BK271.out) hb); have n3_ := Aside0.mk (below_step (qed14_ HB.out GE271.out) hb); have n4_ := Aside0.mk (hbox); have n5_ := Aside0.mk ((by rw [hg]; exact (below_size (qed14_ HB.out GE271.out)) : w.heap.size ≤ gb272)); have n6_ := Aside0.mk ((by rw [hg]; exact (below_size (qed14_ HB.out GE271.out)) : w.heap.size ≤ gb272)); have n7_ := Aside0.mk ((by rw [hg]; exact Nat.ne_of_lt (blk_lt (g := gb271) (o := .cells #[.int .i64 t262, .string t263, .slice Ao19 t264.length co19, .slice Ao20 t267.length co20, .int .i64 (wrap64 (1 + (wrap64 (a1))))] 26 (0, 0)) (q1466_ BK271.out)) : gb271 ≠ gb272)); have n8_ := Aside0.mk ((by rw [hg]; exact Nat.ne_of_gt (blk_lt (g := gb271) (o := .cells #[.int .i64 t262, .string t263, .slice Ao19 t264.length co19, .slice Ao20 t267.length co20, .int .i64 (wrap64 (1 + (wrap64 (a1))))] 26 (0, 0)) (q1466_ BK271.out)) : gb272 ≠ gb271)); clear HO266; clear HO269; clear BK271; clear HB; have HO266 := n0_; have HO269 := n1_; have BK271 := n2_; have HB := n3_; have BK272 := n4_; have GW272 := n5_; have GE272 := n6_; have NB271_272 := n7_; have NB272_271 := n8_; clear n0_ n1_ n2_ n3_ n4_ n5_ n6_ n7_ n8_; clear hb hbox hg; have hnb26 := NB272_271.out; have hnc26 := NB271_272.out; have hcz27_0 : w25.cell? ⟨gb272, 0, none⟩ = some (.int .i64 0) := (blk_cell BK272.out 0).trans rfl; have hcz27_1 : w25.cell? ⟨gb272, 1, none⟩ = some (.string (⟨#[]⟩ : ByteArray)) := (blk_cell BK272.out 1).trans rfl; have hcz27_2 : w25.cell? ⟨gb272, 2, none⟩ = some (.slice none 0 0) := (blk_cell BK272.out 2).trans rfl; have hcz27_3 : w25.cell? ⟨gb272, 3, none⟩ = some (.slice none 0 0) := (blk_cell BK272.out 3).trans rfl; have hcz27_4 : w25.cell? ⟨gb272, 4, none⟩ = some (.int .i64 0) := (blk_cell BK272.out 4).trans rfl; have hfz27_0 := blk_frozen BK272.out 0; have hfz27_1 := blk_frozen BK272.out 1; have hfz27_2 := blk_frozen BK272.out 2; have hfz27_3 := blk_frozen BK272.out 3; have hfz27_4 := blk_frozen BK272.out 4))
      have n0_ : Aside0 (Kd.R k29 29 ((((((w25.setCell ⟨gb272, 0, none⟩ (.int .i64 t262)).setCell ⟨gb272, 1, none⟩ (.string t263)).setCell ⟨gb272, 2, none⟩ (.slice Ao19 t264.length co19)).setCell ⟨gb272, 3, none⟩ (.slice Ao20 t267.length co20)).setCell ⟨gb272, 4, none⟩ (.int .i64 (wrap64 (1 + (wrap64 (a1)))))).setCell ⟨gb272, 4, none⟩ (.int .i64 0)) w.heap.size (fun _ => True) (.slice Ao19 t264.length co19) t264) := ⟨by (with_reducible repeat (first | apply Kd.R_alloc | apply Kd.R_drewN | apply Kd.R_drew)); exact Kd.R_mono (Kd.R_far (p := ⟨gb272, 4, none⟩) (Kd.R_far (p := ⟨gb272, 4, none⟩) (Kd.R_far (p := ⟨gb272, 3, none⟩) (Kd.R_far (p := ⟨gb272, 2, none⟩) (Kd.R_far (p := ⟨gb272, 1, none⟩) (Kd.R_far (p := ⟨gb272, 0, none⟩) (Kd.R_types HO266.out BK272.out (by decide)) (fun _ hk => hk.2) (.int .i64 t262)) (fun _ hk => hk.2) (.string t263)) (fun _ hk => hk.2) (.slice Ao19 t264.length co19)) (fun _ hk => hk.2) (.slice Ao20 t267.length co20)) (fun _ hk => hk.2) (.int .i64 (wrap64 (1 + (wrap64 (a1)))))) (fun _ hk => hk.2) (.int .i64 0)) (fun _ hk => trivial)⟩
      have n1_ : Aside0 (Kd.R Kd.string 9 ((((((w25.setCell ⟨gb272, 0, none⟩ (.int .i64 t262)).setCell ⟨gb272, 1, none⟩ (.string t263)).setCell ⟨gb272, 2, none⟩ (.slice Ao19 t264.length co19)).setCell ⟨gb272, 3, none⟩ (.slice Ao20 t267.length co20)).setCell ⟨gb272, 4, none⟩ (.int .i64 (wrap64 (1 + (wrap64 (a1)))))).setCell ⟨gb272, 4, none⟩ (.int .i64 0)) w.heap.size (fun _ => True) (.slice Ao20 t267.length co20) t267) := ⟨by (with_reducible repeat (first | apply Kd.R_alloc | apply Kd.R_drewN | apply Kd.R_drew)); exact Kd.R_mono (Kd.R_far (p := ⟨gb272, 4, none⟩) (Kd.R_far (p := ⟨gb272, 4, none⟩) (Kd.R_far (p := ⟨gb272, 3, none⟩) (Kd.R_far (p := ⟨gb272, 2, none⟩) (Kd.R_far (p := ⟨gb272, 1, none⟩) (Kd.R_far (p := ⟨gb272, 0, none⟩) (Kd.R_types HO269.out BK272.out (by decide)) (fun _ hk => hk.2) (.int .i64 t262)) (fun _ hk => hk.2) (.string t263)) (fun _ hk => hk.2) (.slice Ao19 t264.length co19)) (fun _ hk => hk.2) (.slice Ao20 t267.length co20)) (fun _ hk => hk.2) (.int .i64 (wrap64 (1 + (wrap64 (a1)))))) (fun _ hk => hk.2) (.int .i64 0)) (fun _ hk => trivial)⟩
      have n2_ : Aside0 (((((((w25.setCell ⟨gb272, 0, none⟩ (.int .i64 t262)).setCell ⟨gb272, 1, none⟩ (.string t263)).setCell ⟨gb272, 2, none⟩ (.slice Ao19 t264.length co19)).setCell ⟨gb272, 3, none⟩ (.slice Ao20 t267.length co20)).setCell ⟨gb272, 4, none⟩ (.int .i64 (wrap64 (1 + (wrap64 (a1)))))).setCell ⟨gb272, 4, none⟩ (.int .i64 0)).heap[gb271]? = some (.cells #[.int .i64 t262, .string t263, .slice Ao19 t264.length co19, .slice Ao20 t267.length co20, .int .i64 (wrap64 (1 + (wrap64 (a1))))] 26 (0, 0))) := ⟨by (with_reducible repeat (first | refine blk_drewN ?_ _ | refine blk_drew ?_ | refine blk_alloc ?_ _)); refine blk_far ?_ NB271_272.out _; (with_reducible repeat (first | refine blk_drewN ?_ _ | refine blk_drew ?_ | refine blk_alloc ?_ _)); refine blk_far ?_ NB271_272.out _; (with_reducible repeat (first | refine blk_drewN ?_ _ | refine blk_drew ?_ | refine blk_alloc ?_ _)); refine blk_far ?_ NB271_272.out _; (with_reducible repeat (first | refine blk_drewN ?_ _ | refine blk_drew ?_ | refine blk_alloc ?_ _)); refine blk_far ?_ NB271_272.out _; (with_reducible repeat (first | refine blk_drewN ?_ _ | refine blk_drew ?_ | refine blk_alloc ?_ _)); refine blk_far ?_ NB271_272.out _; (with_reducible repeat (first | refine blk_drewN ?_ _ | refine blk_drew ?_ | refine blk_alloc ?_ _)); refine blk_far ?_ NB271_272.out _; (with_reducible repeat (first | refine blk_drewN ?_ _ | refine blk_drew ?_ | refine blk_alloc ?_ _)); exact BK271.out⟩
      have n3_ : Aside0 (((((((w25.setCell ⟨gb272, 0, none⟩ (.int .i64 t262)).setCell ⟨gb272, 1, none⟩ (.string t263)).setCell ⟨gb272, 2, none⟩ (.slice Ao19 t264.length co19)).setCell ⟨gb272, 3, none⟩ (.slice Ao20 t267.length co20)).setCell ⟨gb272, 4, none⟩ (.int .i64 (wrap64 (1 + (wrap64 (a1)))))).setCell ⟨gb272, 4, none⟩ (.int .i64 0)).heap[gb272]? = some (.cells #[.int .i64 t262, .string t263, .slice Ao19 t264.length co19, .slice Ao20 t267.length co20, .int .i64 0] 26 (0, 0))) := ⟨by (with_reducible repeat (first | refine blk_drewN ?_ _ | refine blk_drew ?_ | refine blk_alloc ?_ _)); refine blk_put (cs := #[.int .i64 t262, .string t263, .slice Ao19 t264.length co19, .slice Ao20 t267.length co20, .int .i64 (wrap64 (1 + (wrap64 (a1))))]) ?_ 4 _ rfl; (with_reducible repeat (first | refine blk_drewN ?_ _ | refine blk_drew ?_ | refine blk_alloc ?_ _)); refine blk_put (cs := #[.int .i64 t262, .string t263, .slice Ao19 t264.length co19, .slice Ao20 t267.length co20, .int .i64 0]) ?_ 4 _ rfl; (with_reducible repeat (first | refine blk_drewN ?_ _ | refine blk_drew ?_ | refine blk_alloc ?_ _)); refine blk_put (cs := #[.int .i64 t262, .string t263, .slice Ao19 t264.length co19, .slice none 0 0, .int .i64 0]) ?_ 3 _ rfl; (with_reducible repeat (first | refine blk_drewN ?_ _ | refine blk_drew ?_ | refine blk_alloc ?_ _)); refine blk_put (cs := #[.int .i64 t262, .string t263, .slice none 0 0, .slice none 0 0, .int .i64 0]) ?_ 2 _ rfl; (with_reducible repeat (first | refine blk_drewN ?_ _ | refine blk_drew ?_ | refine blk_alloc ?_ _)); refine blk_put (cs := #[.int .i64 t262, .string (⟨#[]⟩ : ByteArray), .slice none 0 0, .slice none 0 0, .int .i64 0]) ?_ 1 _ rfl; (with_reducible repeat (first | refine blk_drewN ?_ _ | refine blk_drew ?_ | refine blk_alloc ?_ _)); refine blk_put (cs := #[.int .i64 0, .string (⟨#[]⟩ : ByteArray), .slice none 0 0, .slice none 0 0, .int .i64 0]) ?_ 0 _ rfl; (with_reducible repeat (first | refine blk_drewN ?_ _ | refine blk_drew ?_ | refine blk_alloc ?_ _)); exact BK272.out⟩
      have n4_ : Aside0 (Below w.heap.size w ((((((w25.setCell ⟨gb272, 0, none⟩ (.int .i64 t262)).setCell ⟨gb272, 1, none⟩ (.string t263)).setCell ⟨gb272, 2, none⟩ (.slice Ao19 t264.length co19)).setCell ⟨gb272, 3, none⟩ (.slice Ao20 t267.length co20)).setCell ⟨gb272, 4, none⟩ (.int .i64 (wrap64 (1 + (wrap64 (a1)))))).setCell ⟨gb272, 4, none⟩ (.int .i64 0))) := ⟨(q8f57_ HB.out GE271.out GE272.out)⟩
      (try clear HO266)
      (try clear HO269)
      (try clear BK271)
      (try clear BK272)
      (try clear HB)
      generalize ((((((w25.setCell ⟨gb272, 0, none⟩ (.int .i64 t262)).setCell ⟨gb272, 1, none⟩ (.string t263)).setCell ⟨gb272, 2, none⟩ (.slice Ao19 t264.length co19)).setCell ⟨gb272, 3, none⟩ (.slice Ao20 t267.length co20)).setCell ⟨gb272, 4, none⟩ (.int .i64 (wrap64 (1 + (wrap64 (a1)))))).setCell ⟨gb272, 4, none⟩ (.int .i64 0)) = w28 at n0_ n1_ n2_ n3_ n4_ ⊢
      have HO266 := n0_
      have HO269 := n1_
      have BK271 := n2_
      have BK272 := n3_
      have HB := n4_
      clear n0_ n1_ n2_ n3_ n4_
      have n0_ := Aside0.mk (Kd.R_drew HO266.out)
      have n1_ := Aside0.mk (Kd.R_drew HO269.out)
      have n2_ := Aside0.mk (blk_drew BK271.out)
      have n3_ := Aside0.mk (blk_drew BK272.out)
      have n4_ := Aside0.mk (below_drew1 HB.out)
      clear HO266
      clear HO269
      clear BK271
      clear BK272
      clear HB
      have HO266 := n0_
      have HO269 := n1_
      have BK271 := n2_
      have BK272 := n3_
      have HB := n4_
      clear n0_ n1_ n2_ n3_ n4_
      refine start_ (n := 39) (S := fun w' => w'.cell? ⟨gb271, 0, none⟩ = some (.int .i64 t262) ∧ w'.cell? ⟨gb271, 1, none⟩ = some (.string t263) ∧ w'.cell? ⟨gb271, 2, none⟩ = some (.slice Ao19 t264.length co19) ∧ w'.cell? ⟨gb271, 3, none⟩ = some (.slice Ao20 t267.length co20) ∧ w'.cell? ⟨gb271, 4, none⟩ = some (.int .i64 (wrap64 (1 + (wrap64 (a1))))) ∧ w'.cell? ⟨gb272, 0, none⟩ = some (.int .i64 t262) ∧ w'.cell? ⟨gb272, 1, none⟩ = some (.string t263) ∧ w'.cell? ⟨gb272, 2, none⟩ = some (.slice Ao19 t264.length co19) ∧ w'.cell? ⟨gb272, 3, none⟩ = some (.slice Ao20 t267.length co20) ∧ w'.cell? ⟨gb272, 4, none⟩ = some (.int .i64 0)) (ds := []) (ml_ 39 0) (by kernel_rfl) rfl rfl ⟨(blk_cell BK271.out 0).trans rfl, (blk_cell BK271.out 1).trans rfl, (blk_cell BK271.out 2).trans rfl, (blk_cell BK271.out 3).trans rfl, (blk_cell BK271.out 4).trans rfl, (blk_cell BK272.out 0).trans rfl, (blk_cell BK272.out 1).trans rfl, (blk_cell BK272.out 2).trans rfl, (blk_cell BK272.out 3).trans rfl, (blk_cell BK272.out 4).trans rfl⟩ (fun hHeld => ?_); refine with_tabW caravanlaw5_ItemTime.tab5 caravanlaw5_ItemTime.bits5 (fun HT_ HW_ => ?_)
      generalize w28.drew = w29 at HO266 HO269 BK271 BK272 HB hHeld ⊢
      refine pA_ 1 18 (ml_ 39 2) rfl rfl HT_.out ?_
      refine pA_ 2 19 (ml_ 39 6) rfl rfl HT_.out ?_
      refine pA_ 4 21 (ml_ 39 22) rfl rfl HT_.out ?_
      refine pA_ 5 22 (ml_ 39 54) rfl rfl HT_.out ?_
      refine pA_ 6 23 (ml_ 39 118) rfl rfl HT_.out ?_
      refine pA_ 7 24 (ml_ 39 246) rfl rfl HT_.out ?_
      refine pA_ 8 25 (ml_ 39 502) rfl rfl HT_.out ?_
      refine t10_ 0 17 (ml_ 39 503) rfl rfl HT_.out HW_.out hHeld ?_
      refine one_ (i := 3) (N := some 20) (ml_ 39 511) rfl rfl (one_of HT_.out (by kernel_rfl)) (by decide) (fun K hK => ?_)
      refine goes_ Try.func13 (by kernel_rfl) rfl #[.agg #[.int .i64 t262, .string t263, .slice Ao19 t264.length co19, .slice Ao20 t267.length co20, .int .i64 (wrap64 (1 + (wrap64 (a1))))], .int .i64 (wrap64 (a2))] (by rfl) rfl rfl qM_ ?_
      with_reducible refine (item_Alive.calls t262 t263 _ _ t264 _ _ t267 (wrap64 (1 + (wrap64 (a1)))) (wrap64 (a2)) t273 _ ?side1 ?side2 ?side3 ?side4 A5.out).mono ?_
      (case side1 => exact qC_ ((Kd.R_reads' HO266.out).2.2))
      (case side2 => exact (Kd.R_reads' HO266.out).2.1)
      (case side3 => exact qC_ ((Kd.R_reads' HO269.out).2.2))
      (case side4 => exact (Kd.R_reads' HO269.out).2.1)
      rintro e w30 ⟨rfl, hb⟩
      refine ⟨_, rfl, ?_⟩
      have n0_ := Aside0.mk (Kd.R_below (q8524_ HO266.out) hb)
      have n1_ := Aside0.mk (Kd.R_below (q8524_ HO269.out) hb)
      have n2_ := Aside0.mk (blk_below (g := gb271) (o := .cells #[.int .i64 t262, .string t263, .slice Ao19 t264.length co19, .slice Ao20 t267.length co20, .int .i64 (wrap64 (1 + (wrap64 (a1))))] 26 (0, 0)) (q1466_ BK271.out) hb)
      have n3_ := Aside0.mk (blk_below (g := gb272) (o := .cells #[.int .i64 t262, .string t263, .slice Ao19 t264.length co19, .slice Ao20 t267.length co20, .int .i64 0] 26 (0, 0)) (q1466_ BK272.out) hb)
      have n4_ := Aside0.mk (below_step (q8f57_ HB.out GE271.out GE272.out) hb)
      clear HO266
      clear HO269
      clear BK271
      clear BK272
      clear HB
      have HO266 := n0_
      have HO269 := n1_
      have BK271 := n2_
      have BK272 := n3_
      have HB := n4_
      clear n0_ n1_ n2_ n3_ n4_
      (try clear hb)
      (try clear hb2)
      (try clear hk)
      (try clear hi)
      refine hK.out _ _ ⟨(blk_cell BK271.out 0).trans rfl, (blk_cell BK271.out 1).trans rfl, (blk_cell BK271.out 2).trans rfl, (blk_cell BK271.out 3).trans rfl, (blk_cell BK271.out 4).trans rfl, (blk_cell BK272.out 0).trans rfl, (blk_cell BK272.out 1).trans rfl, (blk_cell BK272.out 2).trans rfl, (blk_cell BK272.out 3).trans rfl, (blk_cell BK272.out 4).trans rfl⟩ (fun hHeld => ?_)
      clear hK K
      refine nA_ 20 ?_
      refine pA_ 9 26 (ml_ 39 1023) rfl rfl HT_.out ?_
      refine pA_ 10 27 (ml_ 39 2047) rfl rfl HT_.out ?_
      refine pA_ 12 29 (ml_ 39 6143) rfl rfl HT_.out ?_
      refine pA_ 13 30 (ml_ 39 14335) rfl rfl HT_.out ?_
      refine t10_ 11 28 (ml_ 39 16383) rfl rfl HT_.out HW_.out hHeld ?_
      refine one_ (i := 14) (N := some 31) (ml_ 39 32767) rfl rfl (one_of HT_.out (by kernel_rfl)) (by decide) (fun K hK => ?_)
      refine goes_ Try.func13 (by kernel_rfl) rfl #[.agg #[.int .i64 t262, .string t263, .slice Ao19 t264.length co19, .slice Ao20 t267.length co20, .int .i64 0], .int .i64 (wrap64 (a2))] (by rfl) rfl rfl qM_ ?_
      with_reducible refine (item_Alive.calls t262 t263 _ _ t264 _ _ t267 0 (wrap64 (a2)) true _ ?side1 ?side2 ?side3 ?side4 A7.out).mono ?_
      (case side1 => exact qC_ ((Kd.R_reads' HO266.out).2.2))
      (case side2 => exact (Kd.R_reads' HO266.out).2.1)
      (case side3 => exact qC_ ((Kd.R_reads' HO269.out).2.2))
      (case side4 => exact (Kd.R_reads' HO269.out).2.1)
      rintro e w31 ⟨rfl, hb⟩
      refine ⟨_, rfl, ?_⟩
      have n0_ := Aside0.mk (Kd.R_below (q8524_ HO266.out) hb)
      have n1_ := Aside0.mk (Kd.R_below (q8524_ HO269.out) hb)
      have n2_ := Aside0.mk (blk_below (g := gb271) (o := .cells #[.int .i64 t262, .string t263, .slice Ao19 t264.length co19, .slice Ao20 t267.length co20, .int .i64 (wrap64 (1 + (wrap64 (a1))))] 26 (0, 0)) (q1466_ BK271.out) hb)
      have n3_ := Aside0.mk (blk_below (g := gb272) (o := .cells #[.int .i64 t262, .string t263, .slice Ao19 t264.length co19, .slice Ao20 t267.length co20, .int .i64 0] 26 (0, 0)) (q1466_ BK272.out) hb)
      have n4_ := Aside0.mk (below_step (q8f57_ HB.out GE271.out GE272.out) hb)
      clear HO266
      clear HO269
      clear BK271
      clear BK272
      clear HB
      have HO266 := n0_
      have HO269 := n1_
      have BK271 := n2_
      have BK272 := n3_
      have HB := n4_
      clear n0_ n1_ n2_ n3_ n4_
      (try clear hb)
      (try clear hb2)
      (try clear hk)
      (try clear hi)
      refine hK.out _ _ ⟨(blk_cell BK271.out 0).trans rfl, (blk_cell BK271.out 1).trans rfl, (blk_cell BK271.out 2).trans rfl, (blk_cell BK271.out 3).trans rfl, (blk_cell BK271.out 4).trans rfl, (blk_cell BK272.out 0).trans rfl, (blk_cell BK272.out 1).trans rfl, (blk_cell BK272.out 2).trans rfl, (blk_cell BK272.out 3).trans rfl, (blk_cell BK272.out 4).trans rfl⟩ (fun hHeld => ?_)
      clear hK K
      refine nA_ 31 ?_
      refine pA_ 15 32 (ml_ 39 65535) rfl rfl HT_.out ?_
      refine pA_ 16 33 (ml_ 39 131071) rfl rfl HT_.out ?_
      refine t10_ 17 34 (ml_ 39 262143) rfl rfl HT_.out HW_.out hHeld ?_
      refine one_ (i := 18) (N := some 35) (ml_ 39 524287) rfl rfl (one_of HT_.out (by kernel_rfl)) (by decide) (fun K hK => ?_)
      refine goes_ Try.func9 (by kernel_rfl) rfl #[.agg #[.int .i64 t262, .string t263, .slice Ao19 t264.length co19, .slice Ao20 t267.length co20, .int .i64 (wrap64 (1 + (wrap64 (a1))))]] (by rfl) rfl rfl qM_ ?_
      with_reducible refine (item_May.calls t262 t263 _ _ t264 _ _ t267 (wrap64 (1 + (wrap64 (a1)))) true _ ?side1 ?side2 ?side3 ?side4 A9.out).mono ?_
      (case side1 => exact qC_ ((Kd.R_reads' HO266.out).2.2))
      (case side2 => exact (Kd.R_reads' HO266.out).2.1)
      (case side3 => exact qC_ ((Kd.R_reads' HO269.out).2.2))
      (case side4 => exact (Kd.R_reads' HO269.out).2.1)
      rintro e w32 ⟨rfl, hb⟩
      refine ⟨_, rfl, ?_⟩
      have n0_ := Aside0.mk (Kd.R_below (q8524_ HO266.out) hb)
      have n1_ := Aside0.mk (Kd.R_below (q8524_ HO269.out) hb)
      have n2_ := Aside0.mk (blk_below (g := gb271) (o := .cells #[.int .i64 t262, .string t263, .slice Ao19 t264.length co19, .slice Ao20 t267.length co20, .int .i64 (wrap64 (1 + (wrap64 (a1))))] 26 (0, 0)) (q1466_ BK271.out) hb)
      have n3_ := Aside0.mk (blk_below (g := gb272) (o := .cells #[.int .i64 t262, .string t263, .slice Ao19 t264.length co19, .slice Ao20 t267.length co20, .int .i64 0] 26 (0, 0)) (q1466_ BK272.out) hb)
      have n4_ := Aside0.mk (below_step (q8f57_ HB.out GE271.out GE272.out) hb)
      clear HO266
      clear HO269
      clear BK271
      clear BK272
      clear HB
      have HO266 := n0_
      have HO269 := n1_
      have BK271 := n2_
      have BK272 := n3_
      have HB := n4_
      clear n0_ n1_ n2_ n3_ n4_
      (try clear hb)
      (try clear hb2)
      (try clear hk)
      (try clear hi)
      refine hK.out _ _ ⟨(blk_cell BK271.out 0).trans rfl, (blk_cell BK271.out 1).trans rfl, (blk_cell BK271.out 2).trans rfl, (blk_cell BK271.out 3).trans rfl, (blk_cell BK271.out 4).trans rfl, (blk_cell BK272.out 0).trans rfl, (blk_cell BK272.out 1).trans rfl, (blk_cell BK272.out 2).trans rfl, (blk_cell BK272.out 3).trans rfl, (blk_cell BK272.out 4).trans rfl⟩ (fun hHeld => ?_)
      clear hK K
      refine nA_ 35 ?_
      refine pA_ 19 36 (ml_ 39 1048575) rfl rfl HT_.out ?_
      refine pA_ 20 37 (ml_ 39 2097151) rfl rfl HT_.out ?_
      refine t10_ 21 38 (ml_ 39 4194303) rfl rfl HT_.out HW_.out hHeld ?_
      refine t10_ 22 39 (ml_ 39 8388607) rfl rfl HT_.out HW_.out hHeld ?_
      refine t10_ 24 41 (ml_ 39 25165823) rfl rfl HT_.out HW_.out hHeld ?_
      refine t10_ 25 42 (ml_ 39 58720255) rfl rfl HT_.out HW_.out hHeld ?_
      refine one_ (i := 23) (N := some 40) (ml_ 39 67108863) rfl rfl (one_of HT_.out (by kernel_rfl)) (by decide) (fun K hK => ?_)
      refine goes_ Try.func17 (by kernel_rfl) rfl #[.agg #[.int .i64 t262, .string t263, .slice Ao19 t264.length co19, .slice Ao20 t267.length co20, .int .i64 (wrap64 (1 + (wrap64 (a1))))], .agg #[.int .i64 t262, .string t263, .slice Ao19 t264.length co19, .slice Ao20 t267.length co20, .int .i64 0]] (by rfl) rfl rfl qM_ ?_
      with_reducible refine (item_Same.calls k t262 t263 _ _ t264 _ _ t267 (wrap64 (1 + (wrap64 (a1)))) t262 t263 _ _ t264 _ _ t267 0 t276 _ ?side1 ?side2 ?side3 ?side4 ?side5 ?side6 ?side7 ?side8 A11.out).mono ?_
      (case side1 => exact qC_ ((Kd.R_reads' HO266.out).2.2))
      (case side2 => exact (Kd.R_reads' HO266.out).2.1)
      (case side3 => exact qC_ ((Kd.R_reads' HO269.out).2.2))
      (case side4 => exact (Kd.R_reads' HO269.out).2.1)
      (case side5 => exact qC_ ((Kd.R_reads' HO266.out).2.2))
      (case side6 => exact (Kd.R_reads' HO266.out).2.1)
      (case side7 => exact qC_ ((Kd.R_reads' HO269.out).2.2))
      (case side8 => exact (Kd.R_reads' HO269.out).2.1)
      rintro e w33 ⟨rfl, hb⟩
      refine ⟨_, rfl, ?_⟩
      have n0_ := Aside0.mk (Kd.R_below (q8524_ HO266.out) hb)
      have n1_ := Aside0.mk (Kd.R_below (q8524_ HO269.out) hb)
      have n2_ := Aside0.mk (blk_below (g := gb271) (o := .cells #[.int .i64 t262, .string t263, .slice Ao19 t264.length co19, .slice Ao20 t267.length co20, .int .i64 (wrap64 (1 + (wrap64 (a1))))] 26 (0, 0)) (q1466_ BK271.out) hb)
      have n3_ := Aside0.mk (blk_below (g := gb272) (o := .cells #[.int .i64 t262, .string t263, .slice Ao19 t264.length co19, .slice Ao20 t267.length co20, .int .i64 0] 26 (0, 0)) (q1466_ BK272.out) hb)
      have n4_ := Aside0.mk (below_step (q8f57_ HB.out GE271.out GE272.out) hb)
      clear HO266
      clear HO269
      clear BK271
      clear BK272
      clear HB
      have HO266 := n0_
      have HO269 := n1_
      have BK271 := n2_
      have BK272 := n3_
      have HB := n4_
      clear n0_ n1_ n2_ n3_ n4_
      (try clear hb)
      (try clear hb2)
      (try clear hk)
      (try clear hi)
      refine hK.out _ _ ⟨(blk_cell BK271.out 0).trans rfl, (blk_cell BK271.out 1).trans rfl, (blk_cell BK271.out 2).trans rfl, (blk_cell BK271.out 3).trans rfl, (blk_cell BK271.out 4).trans rfl, (blk_cell BK272.out 0).trans rfl, (blk_cell BK272.out 1).trans rfl, (blk_cell BK272.out 2).trans rfl, (blk_cell BK272.out 3).trans rfl, (blk_cell BK272.out 4).trans rfl⟩ (fun hHeld => ?_)
      clear hK K
      refine nA_ 40 ?_
      refine one_ (i := 26) (N := some 43) (ml_ 39 134217727) rfl rfl (one_of HT_.out (by kernel_rfl)) (by decide) (fun K hK => ?_)
      refine goes_ Try.func18 (by kernel_rfl) rfl #[.agg #[.int .i64 t262, .string t263, .slice Ao19 t264.length co19, .slice Ao20 t267.length co20, .int .i64 (wrap64 (1 + (wrap64 (a1))))], .agg #[.int .i64 t262, .string t263, .slice Ao19 t264.length co19, .slice Ao20 t267.length co20, .int .i64 0]] (by rfl) rfl rfl qM_ ?_
      with_reducible refine (caravanref5_SameItem.calls k t262 t263 _ _ t264 _ _ t267 (wrap64 (1 + (wrap64 (a1)))) t262 t263 _ _ t264 _ _ t267 0 t277 _ ?side1 ?side2 ?side3 ?side4 ?side5 ?side6 ?side7 ?side8 A12.out).mono ?_
      (case side1 => exact qC_ ((Kd.R_reads' HO266.out).2.2))
      (case side2 => exact (Kd.R_reads' HO266.out).2.1)
      (case side3 => exact qC_ ((Kd.R_reads' HO269.out).2.2))
      (case side4 => exact (Kd.R_reads' HO269.out).2.1)
      (case side5 => exact qC_ ((Kd.R_reads' HO266.out).2.2))
      (case side6 => exact (Kd.R_reads' HO266.out).2.1)
      (case side7 => exact qC_ ((Kd.R_reads' HO269.out).2.2))
      (case side8 => exact (Kd.R_reads' HO269.out).2.1)
      rintro e w34 ⟨rfl, hb⟩
      refine ⟨_, rfl, ?_⟩
      have n0_ := Aside0.mk (Kd.R_below (q8524_ HO266.out) hb)
      have n1_ := Aside0.mk (Kd.R_below (q8524_ HO269.out) hb)
      have n2_ := Aside0.mk (blk_below (g := gb271) (o := .cells #[.int .i64 t262, .string t263, .slice Ao19 t264.length co19, .slice Ao20 t267.length co20, .int .i64 (wrap64 (1 + (wrap64 (a1))))] 26 (0, 0)) (q1466_ BK271.out) hb)
      have n3_ := Aside0.mk (blk_below (g := gb272) (o := .cells #[.int .i64 t262, .string t263, .slice Ao19 t264.length co19, .slice Ao20 t267.length co20, .int .i64 0] 26 (0, 0)) (q1466_ BK272.out) hb)
      have n4_ := Aside0.mk (below_step (q8f57_ HB.out GE271.out GE272.out) hb)
      clear HO266
      clear HO269
      clear BK271
      clear BK272
      clear HB
      have HO266 := n0_
      have HO269 := n1_
      have BK271 := n2_
      have BK272 := n3_
      have HB := n4_
      clear n0_ n1_ n2_ n3_ n4_
      (try clear hb)
      (try clear hb2)
      (try clear hk)
      (try clear hi)
      refine hK.out _ _ ⟨(blk_cell BK271.out 0).trans rfl, (blk_cell BK271.out 1).trans rfl, (blk_cell BK271.out 2).trans rfl, (blk_cell BK271.out 3).trans rfl, (blk_cell BK271.out 4).trans rfl, (blk_cell BK272.out 0).trans rfl, (blk_cell BK272.out 1).trans rfl, (blk_cell BK272.out 2).trans rfl, (blk_cell BK272.out 3).trans rfl, (blk_cell BK272.out 4).trans rfl⟩ (fun hHeld => ?_)
      clear hK K
      refine nA_ 43 ?_
      refine pA_ 27 44 (ml_ 39 268435455) rfl rfl HT_.out ?_
      refine pA_ 28 45 (ml_ 39 536870911) rfl rfl HT_.out ?_
      refine pA_ 29 46 (ml_ 39 1073741823) rfl rfl HT_.out ?_
      refine t10_ 30 47 (ml_ 39 2147483647) rfl rfl HT_.out HW_.out hHeld ?_
      refine t10_ 31 48 (ml_ 39 4294967295) rfl rfl HT_.out HW_.out hHeld ?_
      refine one_ (i := 32) (N := some 49) (ml_ 39 8589934591) rfl rfl (one_of HT_.out (by kernel_rfl)) (by decide) (fun K hK => ?_)
      refine goes_ Try.func17 (by kernel_rfl) rfl #[.agg #[.int .i64 t262, .string t263, .slice Ao19 t264.length co19, .slice Ao20 t267.length co20, .int .i64 (wrap64 (1 + (wrap64 (a1))))], .agg #[.int .i64 t262, .string t263, .slice Ao19 t264.length co19, .slice Ao20 t267.length co20, .int .i64 0]] (by rfl) rfl rfl qM_ ?_
      with_reducible refine (item_Same.calls k t262 t263 _ _ t264 _ _ t267 (wrap64 (1 + (wrap64 (a1)))) t262 t263 _ _ t264 _ _ t267 0 true _ ?side1 ?side2 ?side3 ?side4 ?side5 ?side6 ?side7 ?side8 A14.out).mono ?_
      (case side1 => exact qC_ ((Kd.R_reads' HO266.out).2.2))
      (case side2 => exact (Kd.R_reads' HO266.out).2.1)
      (case side3 => exact qC_ ((Kd.R_reads' HO269.out).2.2))
      (case side4 => exact (Kd.R_reads' HO269.out).2.1)
      (case side5 => exact qC_ ((Kd.R_reads' HO266.out).2.2))
      (case side6 => exact (Kd.R_reads' HO266.out).2.1)
      (case side7 => exact qC_ ((Kd.R_reads' HO269.out).2.2))
      (case side8 => exact (Kd.R_reads' HO269.out).2.1)
      rintro e w35 ⟨rfl, hb⟩
      refine ⟨_, rfl, ?_⟩
      have n0_ := Aside0.mk (Kd.R_below (q8524_ HO266.out) hb)
      have n1_ := Aside0.mk (Kd.R_below (q8524_ HO269.out) hb)
      have n2_ := Aside0.mk (blk_below (g := gb271) (o := .cells #[.int .i64 t262, .string t263, .slice Ao19 t264.length co19, .slice Ao20 t267.length co20, .int .i64 (wrap64 (1 + (wrap64 (a1))))] 26 (0, 0)) (q1466_ BK271.out) hb)
      have n3_ := Aside0.mk (blk_below (g := gb272) (o := .cells #[.int .i64 t262, .string t263, .slice Ao19 t264.length co19, .slice Ao20 t267.length co20, .int .i64 0] 26 (0, 0)) (q1466_ BK272.out) hb)
      have n4_ := Aside0.mk (below_step (q8f57_ HB.out GE271.out GE272.out) hb)
      clear HO266
      clear HO269
      clear BK271
      clear BK272
      clear HB
      have HO266 := n0_
      have HO269 := n1_
      have BK271 := n2_
      have BK272 := n3_
      have HB := n4_
      clear n0_ n1_ n2_ n3_ n4_
      (try clear hb)
      (try clear hb2)
      (try clear hk)
      (try clear hi)
      refine hK.out _ _ ⟨(blk_cell BK271.out 0).trans rfl, (blk_cell BK271.out 1).trans rfl, (blk_cell BK271.out 2).trans rfl, (blk_cell BK271.out 3).trans rfl, (blk_cell BK271.out 4).trans rfl, (blk_cell BK272.out 0).trans rfl, (blk_cell BK272.out 1).trans rfl, (blk_cell BK272.out 2).trans rfl, (blk_cell BK272.out 3).trans rfl, (blk_cell BK272.out 4).trans rfl⟩ (fun hHeld => ?_)
      clear hK K
      refine nA_ 49 ?_
      refine pA_ 33 50 (ml_ 39 17179869183) rfl rfl HT_.out ?_
      refine pA_ 34 51 (ml_ 39 34359738367) rfl rfl HT_.out ?_
      refine pA_ 35 52 (ml_ 39 68719476735) rfl rfl HT_.out ?_
      refine pU_ 36 53 (ml_ 39 137438953471) rfl rfl HT_.out ?_
      refine pA_ 37 54 (ml_ 39 274877906943) rfl rfl HT_.out ?_
      refine pA_ 38 6 (ml_ 39 549755813887) rfl rfl HT_.out ?_
      refine done_ (done_of HT_.out (by kernel_rfl)) ?_
      try go_wp2
      go_ret
      exact ⟨by first | rfl | (simp [errW_none, errW_some] <;> rfl) | (simp [*, errW_none, errW_some] <;> rfl), (q8f57_ HB.out GE271.out GE272.out)⟩
     ·replace c15 := Bool.eq_false_iff.mpr c15
      subst c15
      have H1 : ((caravanlaw5_awake.f k).bind fun t279 => (some t279)) = some r := by rw [if_neg (show ¬ (false = true) by decide)] at H; exact H
      clear H
      have H := H1
      clear H1
      replace H := Option.bind_eq_some_iff.mp H
      obtain ⟨t279, A360, H⟩ := H
      replace H : (some t279) = some r := H
      have A36 := Aside0.mk A360
      clear A360
      obtain rfl := Option.some.inj H
      go_enter Try.func7, Try.ntmps7
      try go_wp2_with (first | ((with_reducible refine gate_callee (f := 20) rfl ?_); refine goesL_ (some 10) rfl rfl Try.func20 (by kernel_rfl) rfl #[.slice A0 l0.length c0, .int .u8 1] rfl qM_ ?_; (with_reducible refine (caravanlaw5_Make.calls k _ _ l0 1 t262 t263 t264 t267 t270 _ ?side1 ?side2 A4.out).mono ?_); (case side1 => exact qC_ (HR0.out)); (case side2 => exact HC0.out); rintro e w37 ⟨v265, v268, rfl, ho0, ho1, hb⟩; refine ⟨_, rfl, ?_⟩; have n0_ := Aside0.mk (Kd.R_lower ho0 (below_size (qdb35_ HB.out))); have n1_ := Aside0.mk (Kd.R_lower ho1 (below_size (qdb35_ HB.out))); have n2_ := Aside0.mk (below_step (qdb35_ HB.out) hb); clear HB; have HO266 := n0_; have HO269 := n1_; have HB := n2_; clear n0_ n1_ n2_; (try clear hb); (try clear hb2); (try clear hk); (try clear hi); (try clear ho0); (try clear ho1)) | ((with_reducible refine gate_dst (N := 7) rfl ?_); refine box_event ?hg (N := 7) ?hd (cs := #[.int .i64 0, .string (⟨#[]⟩ : ByteArray), .slice none 0 0, .slice none 0 0, .int .i64 0]) (t := 26) ?hr ?_; (case hd => rfl); (case hg => rfl); (case hr => first | (go_simp; done) | (go_simp; rfl)); intro gb271 hg w38 hbox hb; have n0_ := Aside0.mk (Kd.R_below (q8524_ HO266.out) hb); have n1_ := Aside0.mk (Kd.R_below (q8524_ HO269.out) hb); have n2_ := Aside0.mk (below_step (qdb35_ HB.out) hb); have n3_ := Aside0.mk (hbox); have n4_ := Aside0.mk ((by rw [hg]; exact (below_size (qdb35_ HB.out)) : w.heap.size ≤ gb271)); have n5_ := Aside0.mk ((by rw [hg]; exact (below_size (qdb35_ HB.out)) : w.heap.size ≤ gb271)); clear HO266; clear HO269; clear HB; have HO266 := n0_; have HO269 := n1_; have HB := n2_; have BK271 := n3_; have GW271 := n4_; have GE271 := n5_; clear n0_ n1_ n2_ n3_ n4_ n5_; clear hb hbox hg; have hcz39_0 : w38.cell? ⟨gb271, 0, none⟩ = some (.int .i64 0) := (blk_cell BK271.out 0).trans rfl; have hcz39_1 : w38.cell? ⟨gb271, 1, none⟩ = some (.string (⟨#[]⟩ : ByteArray)) := (blk_cell BK271.out 1).trans rfl; have hcz39_2 : w38.cell? ⟨gb271, 2, none⟩ = some (.slice none 0 0) := (blk_cell BK271.out 2).trans rfl; have hcz39_3 : w38.cell? ⟨gb271, 3, none⟩ = some (.slice none 0 0) := (blk_cell BK271.out 3).trans rfl; have hcz39_4 : w38.cell? ⟨gb271, 4, none⟩ = some (.int .i64 0) := (blk_cell BK271.out 4).trans rfl; have hfz39_0 := blk_frozen BK271.out 0; have hfz39_1 := blk_frozen BK271.out 1; have hfz39_2 := blk_frozen BK271.out 2; have hfz39_3 := blk_frozen BK271.out 3; have hfz39_4 := blk_frozen BK271.out 4; obtain ⟨Ao40, co40, eo40⟩ := Kd.R_slice HO266.out; subst eo40; obtain ⟨Ao41, co41, eo41⟩ := Kd.R_slice HO269.out; subst eo41) | ((with_reducible refine gate_store (t := 26) (p := 7) rfl ?_); refine store_event (t := 26) (p := 7) (v := ?vo_w42) (w1 := (((((w38.setCell ⟨gb271, 0, none⟩ (.int .i64 t262)).setCell ⟨gb271, 1, none⟩ (.string t263)).setCell ⟨gb271, 2, none⟩ (.slice Ao40 t264.length co40)).setCell ⟨gb271, 3, none⟩ (.slice Ao41 t267.length co41)).setCell ⟨gb271, 4, none⟩ (.int .i64 t270))) ?hg ?ho ?hn ?hr ?_; (case ho => rfl); (case hg => rfl); (case hn => rfl); (case hr => first | (go_simp; done) | (go_simp; rfl)); intro w42 hw; have n0_ : Aside0 (Kd.R k29 29 w42 w.heap.size (fun _ => True) (.slice Ao40 t264.length co40) t264) := ⟨(by rw [hw]; exact (by (with_reducible repeat (first | apply Kd.R_alloc | apply Kd.R_drewN | apply Kd.R_drew)); exact Kd.R_mono (Kd.R_far (p := ⟨gb271, 4, none⟩) (Kd.R_far (p := ⟨gb271, 3, none⟩) (Kd.R_far (p := ⟨gb271, 2, none⟩) (Kd.R_far (p := ⟨gb271, 1, none⟩) (Kd.R_far (p := ⟨gb271, 0, none⟩) (Kd.R_types HO266.out BK271.out (by decide)) (fun _ hk => hk.2) (.int .i64 t262)) (fun _ hk => hk.2) (.string t263)) (fun _ hk => hk.2) (.slice Ao40 t264.length co40)) (fun _ hk => hk.2) (.slice Ao41 t267.length co41)) (fun _ hk => hk.2) (.int .i64 t270)) (fun _ hk => trivial)))⟩; have n1_ : Aside0 (Kd.R Kd.string 9 w42 w.heap.size (fun _ => True) (.slice Ao41 t267.length co41) t267) := ⟨(by rw [hw]; exact (by (with_reducible repeat (first | apply Kd.R_alloc | apply Kd.R_drewN | apply Kd.R_drew)); exact Kd.R_mono (Kd.R_far (p := ⟨gb271, 4, none⟩) (Kd.R_far (p := ⟨gb271, 3, none⟩) (Kd.R_far (p := ⟨gb271, 2, none⟩) (Kd.R_far (p := ⟨gb271, 1, none⟩) (Kd.R_far (p := ⟨gb271, 0, none⟩) (Kd.R_types HO269.out BK271.out (by decide)) (fun _ hk => hk.2) (.int .i64 t262)) (fun _ hk => hk.2) (.string t263)) (fun _ hk => hk.2) (.slice Ao40 t264.length co40)) (fun _ hk => hk.2) (.slice Ao41 t267.length co41)) (fun _ hk => hk.2) (.int .i64 t270)) (fun _ hk => trivial)))⟩; have n2_ : Aside0 (w42.heap[gb271]? = some (.cells #[.int .i64 t262, .string t263, .slice Ao40 t264.length co40, .slice Ao41 t267.length co41, .int .i64 t270] 26 (0, 0))) := ⟨(by rw [hw]; exact (by (with_reducible repeat (first | refine blk_drewN ?_ _ | refine blk_drew ?_ | refine blk_alloc ?_ _)); refine blk_put (cs := #[.int .i64 t262, .string t263, .slice Ao40 t264.length co40, .slice Ao41 t267.length co41, .int .i64 0]) ?_ 4 _ rfl; (with_reducible repeat (first | refine blk_drewN ?_ _ | refine blk_drew ?_ | refine blk_alloc ?_ _)); refine blk_put (cs := #[.int .i64 t262, .string t263, .slice Ao40 t264.length co40, .slice none 0 0, .int .i64 0]) ?_ 3 _ rfl; (with_reducible repeat (first | refine blk_drewN ?_ _ | refine blk_drew ?_ | refine blk_alloc ?_ _)); refine blk_put (cs := #[.int .i64 t262, .string t263, .slice none 0 0, .slice none 0 0, .int .i64 0]) ?_ 2 _ rfl; (with_reducible repeat (first | refine blk_drewN ?_ _ | refine blk_drew ?_ | refine blk_alloc ?_ _)); refine blk_put (cs := #[.int .i64 t262, .string (⟨#[]⟩ : ByteArray), .slice none 0 0, .slice none 0 0, .int .i64 0]) ?_ 1 _ rfl; (with_reducible repeat (first | refine blk_drewN ?_ _ | refine blk_drew ?_ | refine blk_alloc ?_ _)); refine blk_put (cs := #[.int .i64 0, .string (⟨#[]⟩ : ByteArray), .slice none 0 0, .slice none 0 0, .int .i64 0]) ?_ 0 _ rfl; (with_reducible repeat (first | refine blk_drewN ?_ _ | refine blk_drew ?_ | refine blk_alloc ?_ _)); exact BK271.out))⟩; have n3_ : Aside0 (Below w.heap.size w w42) := ⟨(q5b6b_ HB.out GE271.out)⟩; clear hw; clear HO266; clear HO269; clear BK271; clear HB; have HO266 := n0_; have HO269 := n1_; have BK271 := n2_; have HB := n3_; clear n0_ n1_ n2_ n3_; have hcz43_0 : w42.cell? ⟨gb271, 0, none⟩ = some (.int .i64 t262) := (blk_cell BK271.out 0).trans rfl; have hcz43_1 : w42.cell? ⟨gb271, 1, none⟩ = some (.string t263) := (blk_cell BK271.out 1).trans rfl; have hcz43_2 : w42.cell? ⟨gb271, 2, none⟩ = some (.slice Ao40 t264.length co40) := (blk_cell BK271.out 2).trans rfl; have hcz43_3 : w42.cell? ⟨gb271, 3, none⟩ = some (.slice Ao41 t267.length co41) := (blk_cell BK271.out 3).trans rfl; have hcz43_4 : w42.cell? ⟨gb271, 4, none⟩ = some (.int .i64 t270) := (blk_cell BK271.out 4).trans rfl; have hfz43_0 := blk_frozen BK271.out 0; have hfz43_1 := blk_frozen BK271.out 1; have hfz43_2 := blk_frozen BK271.out 2; have hfz43_3 := blk_frozen BK271.out 3; have hfz43_4 := blk_frozen BK271.out 4) | ((with_reducible refine gate_store (t := 3) (p := 14) rfl ?_); refine store_event (t := 3) (p := 14) (v := ?vo_w44) (w1 := (w42.setCell ⟨gb271, 4, none⟩ (.int .i64 (wrap64 (1 + (wrap64 (a1))))))) ?hg ?ho ?hn ?hr ?_; (case ho => rfl); (case hg => rfl); (case hn => rfl); (case hr => first | (go_simp; done) | (go_simp; rfl)); intro w44 hw; have n0_ : Aside0 (Kd.R k29 29 w44 w.heap.size (fun _ => True) (.slice Ao40 t264.length co40) t264) := ⟨(by rw [hw]; exact (by (with_reducible repeat (first | apply Kd.R_alloc | apply Kd.R_drewN | apply Kd.R_drew)); exact Kd.R_mono (Kd.R_far (p := ⟨gb271, 4, none⟩) (Kd.R_types HO266.out BK271.out (by decide)) (fun _ hk => hk.2) (.int .i64 (wrap64 (1 + (wrap64 (a1)))))) (fun _ hk => trivial)))⟩; have n1_ : Aside0 (Kd.R Kd.string 9 w44 w.heap.size (fun _ => True) (.slice Ao41 t267.length co41) t267) := ⟨(by rw [hw]; exact (by (with_reducible repeat (first | apply Kd.R_alloc | apply Kd.R_drewN | apply Kd.R_drew)); exact Kd.R_mono (Kd.R_far (p := ⟨gb271, 4, none⟩) (Kd.R_types HO269.out BK271.out (by decide)) (fun _ hk => hk.2) (.int .i64 (wrap64 (1 + (wrap64 (a1)))))) (fun _ hk => trivial)))⟩; have n2_ : Aside0 (w44.heap[gb271]? = some (.cells #[.int .i64 t262, .string t263, .slice Ao40 t264.length co40, .slice Ao41 t267.length co41, .int .i64 (wrap64 (1 + (wrap64 (a1))))] 26 (0, 0))) := ⟨(by rw [hw]; exact (by (with_reducible repeat (first | refine blk_drewN ?_ _ | refine blk_drew ?_ | refine blk_alloc ?_ _)); refine blk_put (cs := #[.int .i64 t262, .string t263, .slice Ao40 t264.length co40, .slice Ao41 t267.length co41, .int .i64 t270]) ?_ 4 _ rfl; (with_reducible repeat (first | refine blk_drewN ?_ _ | refine blk_drew ?_ | refine blk_alloc ?_ _)); exact BK271.out))⟩; have n3_ : Aside0 (Below w.heap.size w w44) := ⟨(q5b6b_ HB.out GE271.out)⟩; clear hw; clear HO266; clear HO269; clear BK271; clear HB; have HO266 := n0_; have HO269 := n1_; have BK271 := n2_; have HB := n3_; clear n0_ n1_ n2_ n3_; have hcz45_0 : w44.cell? ⟨gb271, 0, none⟩ = some (.int .i64 t262) := (blk_cell BK271.out 0).trans rfl; have hcz45_1 : w44.cell? ⟨gb271, 1, none⟩ = some (.string t263) := (blk_cell BK271.out 1).trans rfl; have hcz45_2 : w44.cell? ⟨gb271, 2, none⟩ = some (.slice Ao40 t264.length co40) := (blk_cell BK271.out 2).trans rfl; have hcz45_3 : w44.cell? ⟨gb271, 3, none⟩ = some (.slice Ao41 t267.length co41) := (blk_cell BK271.out 3).trans rfl; have hcz45_4 : w44.cell? ⟨gb271, 4, none⟩ = some (.int .i64 (wrap64 (1 + (wrap64 (a1))))) := (blk_cell BK271.out 4).trans rfl; have hfz45_0 := blk_frozen BK271.out 0; have hfz45_1 := blk_frozen BK271.out 1; have hfz45_2 := blk_frozen BK271.out 2; have hfz45_3 := blk_frozen BK271.out 3; have hfz45_4 := blk_frozen BK271.out 4) | ((with_reducible refine gate_dst (N := 8) rfl ?_); refine box_event ?hg (N := 8) ?hd (cs := #[.int .i64 0, .string (⟨#[]⟩ : ByteArray), .slice none 0 0, .slice none 0 0, .int .i64 0]) (t := 26) ?hr ?_; (case hd => rfl); (case hg => rfl); (case hr => first | (go_simp; done) | (go_simp; rfl)); intro gb272 hg w46 hbox hb; have n0_ := Aside0.mk (Kd.R_below (q8524_ HO266.out) hb); have n1_ := Aside0.mk (Kd.R_below (q8524_ HO269.out) hb); have n2_ := Aside0.mk (blk_below (g := gb271) (o := .cells #[.int .i64 t262, .string t263, .slice Ao40 t264.length co40, .slice Ao41 t267.length co41, .int .i64 (wrap64 (1 + (wrap64 (a1))))] 26 (0, 0)) (q1466_ BK271.out) hb); have n3_ := Aside0.mk (below_step (qed14_ HB.out GE271.out) hb); have n4_ := Aside0.mk (hbox); have n5_ := Aside0.mk ((by rw [hg]; exact (below_size (qed14_ HB.out GE271.out)) : w.heap.size ≤ gb272)); have n6_ := Aside0.mk ((by rw [hg]; exact (below_size (qed14_ HB.out GE271.out)) : w.heap.size ≤ gb272)); have n7_ := Aside0.mk ((by rw [hg]; exact Nat.ne_of_lt (blk_lt (g := gb271) (o := .cells #[.int .i64 t262, .string t263, .slice Ao40 t264.length co40, .slice Ao41 t267.length co41, .int .i64 (wrap64 (1 + (wrap64 (a1))))] 26 (0, 0)) (q1466_ BK271.out)) : gb271 ≠ gb272)); have n8_ := Aside0.mk ((by rw [hg]; exact Nat.ne_of_gt (blk_lt (g := gb271) (o := .cells #[.int .i64 t262, .string t263, .slice Ao40 t264.length co40, .slice Ao41 t267.length co41, .int .i64 (wrap64 (1 + (wrap64 (a1))))] 26 (0, 0)) (q1466_ BK271.out)) : gb272 ≠ gb271)); clear HO266; clear HO269; clear BK271; clear HB; have HO266 := n0_; have HO269 := n1_; have BK271 := n2_; have HB := n3_; have BK272 := n4_; have GW272 := n5_; have GE272 := n6_; have NB271_272 := n7_; have NB272_271 := n8_; clear n0_ n1_ n2_ n3_ n4_ n5_ n6_ n7_ n8_; clear hb hbox hg; have hnb47 := NB272_271.out; have hnc47 := NB271_272.out; have hcz48_0 : w46.cell? ⟨gb272, 0, none⟩ = some (.int .i64 0) := (blk_cell BK272.out 0).trans rfl; have hcz48_1 : w46.cell? ⟨gb272, 1, none⟩ = some (.string (⟨#[]⟩ : ByteArray)) := (blk_cell BK272.out 1).trans rfl; have hcz48_2 : w46.cell? ⟨gb272, 2, none⟩ = some (.slice none 0 0) := (blk_cell BK272.out 2).trans rfl; have hcz48_3 : w46.cell? ⟨gb272, 3, none⟩ = some (.slice none 0 0) := (blk_cell BK272.out 3).trans rfl; have hcz48_4 : w46.cell? ⟨gb272, 4, none⟩ = some (.int .i64 0) := (blk_cell BK272.out 4).trans rfl; have hfz48_0 := blk_frozen BK272.out 0; have hfz48_1 := blk_frozen BK272.out 1; have hfz48_2 := blk_frozen BK272.out 2; have hfz48_3 := blk_frozen BK272.out 3; have hfz48_4 := blk_frozen BK272.out 4))
      have n0_ : Aside0 (Kd.R k29 29 ((((((w46.setCell ⟨gb272, 0, none⟩ (.int .i64 t262)).setCell ⟨gb272, 1, none⟩ (.string t263)).setCell ⟨gb272, 2, none⟩ (.slice Ao40 t264.length co40)).setCell ⟨gb272, 3, none⟩ (.slice Ao41 t267.length co41)).setCell ⟨gb272, 4, none⟩ (.int .i64 (wrap64 (1 + (wrap64 (a1)))))).setCell ⟨gb272, 4, none⟩ (.int .i64 0)) w.heap.size (fun _ => True) (.slice Ao40 t264.length co40) t264) := ⟨by (with_reducible repeat (first | apply Kd.R_alloc | apply Kd.R_drewN | apply Kd.R_drew)); exact Kd.R_mono (Kd.R_far (p := ⟨gb272, 4, none⟩) (Kd.R_far (p := ⟨gb272, 4, none⟩) (Kd.R_far (p := ⟨gb272, 3, none⟩) (Kd.R_far (p := ⟨gb272, 2, none⟩) (Kd.R_far (p := ⟨gb272, 1, none⟩) (Kd.R_far (p := ⟨gb272, 0, none⟩) (Kd.R_types HO266.out BK272.out (by decide)) (fun _ hk => hk.2) (.int .i64 t262)) (fun _ hk => hk.2) (.string t263)) (fun _ hk => hk.2) (.slice Ao40 t264.length co40)) (fun _ hk => hk.2) (.slice Ao41 t267.length co41)) (fun _ hk => hk.2) (.int .i64 (wrap64 (1 + (wrap64 (a1)))))) (fun _ hk => hk.2) (.int .i64 0)) (fun _ hk => trivial)⟩
      have n1_ : Aside0 (Kd.R Kd.string 9 ((((((w46.setCell ⟨gb272, 0, none⟩ (.int .i64 t262)).setCell ⟨gb272, 1, none⟩ (.string t263)).setCell ⟨gb272, 2, none⟩ (.slice Ao40 t264.length co40)).setCell ⟨gb272, 3, none⟩ (.slice Ao41 t267.length co41)).setCell ⟨gb272, 4, none⟩ (.int .i64 (wrap64 (1 + (wrap64 (a1)))))).setCell ⟨gb272, 4, none⟩ (.int .i64 0)) w.heap.size (fun _ => True) (.slice Ao41 t267.length co41) t267) := ⟨by (with_reducible repeat (first | apply Kd.R_alloc | apply Kd.R_drewN | apply Kd.R_drew)); exact Kd.R_mono (Kd.R_far (p := ⟨gb272, 4, none⟩) (Kd.R_far (p := ⟨gb272, 4, none⟩) (Kd.R_far (p := ⟨gb272, 3, none⟩) (Kd.R_far (p := ⟨gb272, 2, none⟩) (Kd.R_far (p := ⟨gb272, 1, none⟩) (Kd.R_far (p := ⟨gb272, 0, none⟩) (Kd.R_types HO269.out BK272.out (by decide)) (fun _ hk => hk.2) (.int .i64 t262)) (fun _ hk => hk.2) (.string t263)) (fun _ hk => hk.2) (.slice Ao40 t264.length co40)) (fun _ hk => hk.2) (.slice Ao41 t267.length co41)) (fun _ hk => hk.2) (.int .i64 (wrap64 (1 + (wrap64 (a1)))))) (fun _ hk => hk.2) (.int .i64 0)) (fun _ hk => trivial)⟩
      have n2_ : Aside0 (((((((w46.setCell ⟨gb272, 0, none⟩ (.int .i64 t262)).setCell ⟨gb272, 1, none⟩ (.string t263)).setCell ⟨gb272, 2, none⟩ (.slice Ao40 t264.length co40)).setCell ⟨gb272, 3, none⟩ (.slice Ao41 t267.length co41)).setCell ⟨gb272, 4, none⟩ (.int .i64 (wrap64 (1 + (wrap64 (a1)))))).setCell ⟨gb272, 4, none⟩ (.int .i64 0)).heap[gb271]? = some (.cells #[.int .i64 t262, .string t263, .slice Ao40 t264.length co40, .slice Ao41 t267.length co41, .int .i64 (wrap64 (1 + (wrap64 (a1))))] 26 (0, 0))) := ⟨by (with_reducible repeat (first | refine blk_drewN ?_ _ | refine blk_drew ?_ | refine blk_alloc ?_ _)); refine blk_far ?_ NB271_272.out _; (with_reducible repeat (first | refine blk_drewN ?_ _ | refine blk_drew ?_ | refine blk_alloc ?_ _)); refine blk_far ?_ NB271_272.out _; (with_reducible repeat (first | refine blk_drewN ?_ _ | refine blk_drew ?_ | refine blk_alloc ?_ _)); refine blk_far ?_ NB271_272.out _; (with_reducible repeat (first | refine blk_drewN ?_ _ | refine blk_drew ?_ | refine blk_alloc ?_ _)); refine blk_far ?_ NB271_272.out _; (with_reducible repeat (first | refine blk_drewN ?_ _ | refine blk_drew ?_ | refine blk_alloc ?_ _)); refine blk_far ?_ NB271_272.out _; (with_reducible repeat (first | refine blk_drewN ?_ _ | refine blk_drew ?_ | refine blk_alloc ?_ _)); refine blk_far ?_ NB271_272.out _; (with_reducible repeat (first | refine blk_drewN ?_ _ | refine blk_drew ?_ | refine blk_alloc ?_ _)); exact BK271.out⟩
      have n3_ : Aside0 (((((((w46.setCell ⟨gb272, 0, none⟩ (.int .i64 t262)).setCell ⟨gb272, 1, none⟩ (.string t263)).setCell ⟨gb272, 2, none⟩ (.slice Ao40 t264.length co40)).setCell ⟨gb272, 3, none⟩ (.slice Ao41 t267.length co41)).setCell ⟨gb272, 4, none⟩ (.int .i64 (wrap64 (1 + (wrap64 (a1)))))).setCell ⟨gb272, 4, none⟩ (.int .i64 0)).heap[gb272]? = some (.cells #[.int .i64 t262, .string t263, .slice Ao40 t264.length co40, .slice Ao41 t267.length co41, .int .i64 0] 26 (0, 0))) := ⟨by (with_reducible repeat (first | refine blk_drewN ?_ _ | refine blk_drew ?_ | refine blk_alloc ?_ _)); refine blk_put (cs := #[.int .i64 t262, .string t263, .slice Ao40 t264.length co40, .slice Ao41 t267.length co41, .int .i64 (wrap64 (1 + (wrap64 (a1))))]) ?_ 4 _ rfl; (with_reducible repeat (first | refine blk_drewN ?_ _ | refine blk_drew ?_ | refine blk_alloc ?_ _)); refine blk_put (cs := #[.int .i64 t262, .string t263, .slice Ao40 t264.length co40, .slice Ao41 t267.length co41, .int .i64 0]) ?_ 4 _ rfl; (with_reducible repeat (first | refine blk_drewN ?_ _ | refine blk_drew ?_ | refine blk_alloc ?_ _)); refine blk_put (cs := #[.int .i64 t262, .string t263, .slice Ao40 t264.length co40, .slice none 0 0, .int .i64 0]) ?_ 3 _ rfl; (with_reducible repeat (first | refine blk_drewN ?_ _ | refine blk_drew ?_ | refine blk_alloc ?_ _)); refine blk_put (cs := #[.int .i64 t262, .string t263, .slice none 0 0, .slice none 0 0, .int .i64 0]) ?_ 2 _ rfl; (with_reducible repeat (first | refine blk_drewN ?_ _ | refine blk_drew ?_ | refine blk_alloc ?_ _)); refine blk_put (cs := #[.int .i64 t262, .string (⟨#[]⟩ : ByteArray), .slice none 0 0, .slice none 0 0, .int .i64 0]) ?_ 1 _ rfl; (with_reducible repeat (first | refine blk_drewN ?_ _ | refine blk_drew ?_ | refine blk_alloc ?_ _)); refine blk_put (cs := #[.int .i64 0, .string (⟨#[]⟩ : ByteArray), .slice none 0 0, .slice none 0 0, .int .i64 0]) ?_ 0 _ rfl; (with_reducible repeat (first | refine blk_drewN ?_ _ | refine blk_drew ?_ | refine blk_alloc ?_ _)); exact BK272.out⟩
      have n4_ : Aside0 (Below w.heap.size w ((((((w46.setCell ⟨gb272, 0, none⟩ (.int .i64 t262)).setCell ⟨gb272, 1, none⟩ (.string t263)).setCell ⟨gb272, 2, none⟩ (.slice Ao40 t264.length co40)).setCell ⟨gb272, 3, none⟩ (.slice Ao41 t267.length co41)).setCell ⟨gb272, 4, none⟩ (.int .i64 (wrap64 (1 + (wrap64 (a1)))))).setCell ⟨gb272, 4, none⟩ (.int .i64 0))) := ⟨(q8f57_ HB.out GE271.out GE272.out)⟩
      (try clear HO266)
      (try clear HO269)
      (try clear BK271)
      (try clear BK272)
      (try clear HB)
      generalize ((((((w46.setCell ⟨gb272, 0, none⟩ (.int .i64 t262)).setCell ⟨gb272, 1, none⟩ (.string t263)).setCell ⟨gb272, 2, none⟩ (.slice Ao40 t264.length co40)).setCell ⟨gb272, 3, none⟩ (.slice Ao41 t267.length co41)).setCell ⟨gb272, 4, none⟩ (.int .i64 (wrap64 (1 + (wrap64 (a1)))))).setCell ⟨gb272, 4, none⟩ (.int .i64 0)) = w49 at n0_ n1_ n2_ n3_ n4_ ⊢
      have HO266 := n0_
      have HO269 := n1_
      have BK271 := n2_
      have BK272 := n3_
      have HB := n4_
      clear n0_ n1_ n2_ n3_ n4_
      have n0_ := Aside0.mk (Kd.R_drew HO266.out)
      have n1_ := Aside0.mk (Kd.R_drew HO269.out)
      have n2_ := Aside0.mk (blk_drew BK271.out)
      have n3_ := Aside0.mk (blk_drew BK272.out)
      have n4_ := Aside0.mk (below_drew1 HB.out)
      clear HO266
      clear HO269
      clear BK271
      clear BK272
      clear HB
      have HO266 := n0_
      have HO269 := n1_
      have BK271 := n2_
      have BK272 := n3_
      have HB := n4_
      clear n0_ n1_ n2_ n3_ n4_
      refine start_ (n := 39) (S := fun w' => w'.cell? ⟨gb271, 0, none⟩ = some (.int .i64 t262) ∧ w'.cell? ⟨gb271, 1, none⟩ = some (.string t263) ∧ w'.cell? ⟨gb271, 2, none⟩ = some (.slice Ao40 t264.length co40) ∧ w'.cell? ⟨gb271, 3, none⟩ = some (.slice Ao41 t267.length co41) ∧ w'.cell? ⟨gb271, 4, none⟩ = some (.int .i64 (wrap64 (1 + (wrap64 (a1))))) ∧ w'.cell? ⟨gb272, 0, none⟩ = some (.int .i64 t262) ∧ w'.cell? ⟨gb272, 1, none⟩ = some (.string t263) ∧ w'.cell? ⟨gb272, 2, none⟩ = some (.slice Ao40 t264.length co40) ∧ w'.cell? ⟨gb272, 3, none⟩ = some (.slice Ao41 t267.length co41) ∧ w'.cell? ⟨gb272, 4, none⟩ = some (.int .i64 0)) (ds := []) (ml_ 39 0) (by kernel_rfl) rfl rfl ⟨(blk_cell BK271.out 0).trans rfl, (blk_cell BK271.out 1).trans rfl, (blk_cell BK271.out 2).trans rfl, (blk_cell BK271.out 3).trans rfl, (blk_cell BK271.out 4).trans rfl, (blk_cell BK272.out 0).trans rfl, (blk_cell BK272.out 1).trans rfl, (blk_cell BK272.out 2).trans rfl, (blk_cell BK272.out 3).trans rfl, (blk_cell BK272.out 4).trans rfl⟩ (fun hHeld => ?_); refine with_tabW caravanlaw5_ItemTime.tab5 caravanlaw5_ItemTime.bits5 (fun HT_ HW_ => ?_)
      generalize w49.drew = w50 at HO266 HO269 BK271 BK272 HB hHeld ⊢
      refine pA_ 1 18 (ml_ 39 2) rfl rfl HT_.out ?_
      refine pA_ 2 19 (ml_ 39 6) rfl rfl HT_.out ?_
      refine pA_ 4 21 (ml_ 39 22) rfl rfl HT_.out ?_
      refine pA_ 5 22 (ml_ 39 54) rfl rfl HT_.out ?_
      refine pA_ 6 23 (ml_ 39 118) rfl rfl HT_.out ?_
      refine pA_ 7 24 (ml_ 39 246) rfl rfl HT_.out ?_
      refine pA_ 8 25 (ml_ 39 502) rfl rfl HT_.out ?_
      refine t10_ 0 17 (ml_ 39 503) rfl rfl HT_.out HW_.out hHeld ?_
      refine one_ (i := 3) (N := some 20) (ml_ 39 511) rfl rfl (one_of HT_.out (by kernel_rfl)) (by decide) (fun K hK => ?_)
      refine goes_ Try.func13 (by kernel_rfl) rfl #[.agg #[.int .i64 t262, .string t263, .slice Ao40 t264.length co40, .slice Ao41 t267.length co41, .int .i64 (wrap64 (1 + (wrap64 (a1))))], .int .i64 (wrap64 (a2))] (by rfl) rfl rfl qM_ ?_
      with_reducible refine (item_Alive.calls t262 t263 _ _ t264 _ _ t267 (wrap64 (1 + (wrap64 (a1)))) (wrap64 (a2)) t273 _ ?side1 ?side2 ?side3 ?side4 A5.out).mono ?_
      (case side1 => exact qC_ ((Kd.R_reads' HO266.out).2.2))
      (case side2 => exact (Kd.R_reads' HO266.out).2.1)
      (case side3 => exact qC_ ((Kd.R_reads' HO269.out).2.2))
      (case side4 => exact (Kd.R_reads' HO269.out).2.1)
      rintro e w51 ⟨rfl, hb⟩
      refine ⟨_, rfl, ?_⟩
      have n0_ := Aside0.mk (Kd.R_below (q8524_ HO266.out) hb)
      have n1_ := Aside0.mk (Kd.R_below (q8524_ HO269.out) hb)
      have n2_ := Aside0.mk (blk_below (g := gb271) (o := .cells #[.int .i64 t262, .string t263, .slice Ao40 t264.length co40, .slice Ao41 t267.length co41, .int .i64 (wrap64 (1 + (wrap64 (a1))))] 26 (0, 0)) (q1466_ BK271.out) hb)
      have n3_ := Aside0.mk (blk_below (g := gb272) (o := .cells #[.int .i64 t262, .string t263, .slice Ao40 t264.length co40, .slice Ao41 t267.length co41, .int .i64 0] 26 (0, 0)) (q1466_ BK272.out) hb)
      have n4_ := Aside0.mk (below_step (q8f57_ HB.out GE271.out GE272.out) hb)
      clear HO266
      clear HO269
      clear BK271
      clear BK272
      clear HB
      have HO266 := n0_
      have HO269 := n1_
      have BK271 := n2_
      have BK272 := n3_
      have HB := n4_
      clear n0_ n1_ n2_ n3_ n4_
      (try clear hb)
      (try clear hb2)
      (try clear hk)
      (try clear hi)
      refine hK.out _ _ ⟨(blk_cell BK271.out 0).trans rfl, (blk_cell BK271.out 1).trans rfl, (blk_cell BK271.out 2).trans rfl, (blk_cell BK271.out 3).trans rfl, (blk_cell BK271.out 4).trans rfl, (blk_cell BK272.out 0).trans rfl, (blk_cell BK272.out 1).trans rfl, (blk_cell BK272.out 2).trans rfl, (blk_cell BK272.out 3).trans rfl, (blk_cell BK272.out 4).trans rfl⟩ (fun hHeld => ?_)
      clear hK K
      refine nA_ 20 ?_
      refine pA_ 9 26 (ml_ 39 1023) rfl rfl HT_.out ?_
      refine pA_ 10 27 (ml_ 39 2047) rfl rfl HT_.out ?_
      refine pA_ 12 29 (ml_ 39 6143) rfl rfl HT_.out ?_
      refine pA_ 13 30 (ml_ 39 14335) rfl rfl HT_.out ?_
      refine t10_ 11 28 (ml_ 39 16383) rfl rfl HT_.out HW_.out hHeld ?_
      refine one_ (i := 14) (N := some 31) (ml_ 39 32767) rfl rfl (one_of HT_.out (by kernel_rfl)) (by decide) (fun K hK => ?_)
      refine goes_ Try.func13 (by kernel_rfl) rfl #[.agg #[.int .i64 t262, .string t263, .slice Ao40 t264.length co40, .slice Ao41 t267.length co41, .int .i64 0], .int .i64 (wrap64 (a2))] (by rfl) rfl rfl qM_ ?_
      with_reducible refine (item_Alive.calls t262 t263 _ _ t264 _ _ t267 0 (wrap64 (a2)) true _ ?side1 ?side2 ?side3 ?side4 A7.out).mono ?_
      (case side1 => exact qC_ ((Kd.R_reads' HO266.out).2.2))
      (case side2 => exact (Kd.R_reads' HO266.out).2.1)
      (case side3 => exact qC_ ((Kd.R_reads' HO269.out).2.2))
      (case side4 => exact (Kd.R_reads' HO269.out).2.1)
      rintro e w52 ⟨rfl, hb⟩
      refine ⟨_, rfl, ?_⟩
      have n0_ := Aside0.mk (Kd.R_below (q8524_ HO266.out) hb)
      have n1_ := Aside0.mk (Kd.R_below (q8524_ HO269.out) hb)
      have n2_ := Aside0.mk (blk_below (g := gb271) (o := .cells #[.int .i64 t262, .string t263, .slice Ao40 t264.length co40, .slice Ao41 t267.length co41, .int .i64 (wrap64 (1 + (wrap64 (a1))))] 26 (0, 0)) (q1466_ BK271.out) hb)
      have n3_ := Aside0.mk (blk_below (g := gb272) (o := .cells #[.int .i64 t262, .string t263, .slice Ao40 t264.length co40, .slice Ao41 t267.length co41, .int .i64 0] 26 (0, 0)) (q1466_ BK272.out) hb)
      have n4_ := Aside0.mk (below_step (q8f57_ HB.out GE271.out GE272.out) hb)
      clear HO266
      clear HO269
      clear BK271
      clear BK272
      clear HB
      have HO266 := n0_
      have HO269 := n1_
      have BK271 := n2_
      have BK272 := n3_
      have HB := n4_
      clear n0_ n1_ n2_ n3_ n4_
      (try clear hb)
      (try clear hb2)
      (try clear hk)
      (try clear hi)
      refine hK.out _ _ ⟨(blk_cell BK271.out 0).trans rfl, (blk_cell BK271.out 1).trans rfl, (blk_cell BK271.out 2).trans rfl, (blk_cell BK271.out 3).trans rfl, (blk_cell BK271.out 4).trans rfl, (blk_cell BK272.out 0).trans rfl, (blk_cell BK272.out 1).trans rfl, (blk_cell BK272.out 2).trans rfl, (blk_cell BK272.out 3).trans rfl, (blk_cell BK272.out 4).trans rfl⟩ (fun hHeld => ?_)
      clear hK K
      refine nA_ 31 ?_
      refine pA_ 15 32 (ml_ 39 65535) rfl rfl HT_.out ?_
      refine pA_ 16 33 (ml_ 39 131071) rfl rfl HT_.out ?_
      refine t10_ 17 34 (ml_ 39 262143) rfl rfl HT_.out HW_.out hHeld ?_
      refine one_ (i := 18) (N := some 35) (ml_ 39 524287) rfl rfl (one_of HT_.out (by kernel_rfl)) (by decide) (fun K hK => ?_)
      refine goes_ Try.func9 (by kernel_rfl) rfl #[.agg #[.int .i64 t262, .string t263, .slice Ao40 t264.length co40, .slice Ao41 t267.length co41, .int .i64 (wrap64 (1 + (wrap64 (a1))))]] (by rfl) rfl rfl qM_ ?_
      with_reducible refine (item_May.calls t262 t263 _ _ t264 _ _ t267 (wrap64 (1 + (wrap64 (a1)))) true _ ?side1 ?side2 ?side3 ?side4 A9.out).mono ?_
      (case side1 => exact qC_ ((Kd.R_reads' HO266.out).2.2))
      (case side2 => exact (Kd.R_reads' HO266.out).2.1)
      (case side3 => exact qC_ ((Kd.R_reads' HO269.out).2.2))
      (case side4 => exact (Kd.R_reads' HO269.out).2.1)
      rintro e w53 ⟨rfl, hb⟩
      refine ⟨_, rfl, ?_⟩
      have n0_ := Aside0.mk (Kd.R_below (q8524_ HO266.out) hb)
      have n1_ := Aside0.mk (Kd.R_below (q8524_ HO269.out) hb)
      have n2_ := Aside0.mk (blk_below (g := gb271) (o := .cells #[.int .i64 t262, .string t263, .slice Ao40 t264.length co40, .slice Ao41 t267.length co41, .int .i64 (wrap64 (1 + (wrap64 (a1))))] 26 (0, 0)) (q1466_ BK271.out) hb)
      have n3_ := Aside0.mk (blk_below (g := gb272) (o := .cells #[.int .i64 t262, .string t263, .slice Ao40 t264.length co40, .slice Ao41 t267.length co41, .int .i64 0] 26 (0, 0)) (q1466_ BK272.out) hb)
      have n4_ := Aside0.mk (below_step (q8f57_ HB.out GE271.out GE272.out) hb)
      clear HO266
      clear HO269
      clear BK271
      clear BK272
      clear HB
      have HO266 := n0_
      have HO269 := n1_
      have BK271 := n2_
      have BK272 := n3_
      have HB := n4_
      clear n0_ n1_ n2_ n3_ n4_
      (try clear hb)
      (try clear hb2)
      (try clear hk)
      (try clear hi)
      refine hK.out _ _ ⟨(blk_cell BK271.out 0).trans rfl, (blk_cell BK271.out 1).trans rfl, (blk_cell BK271.out 2).trans rfl, (blk_cell BK271.out 3).trans rfl, (blk_cell BK271.out 4).trans rfl, (blk_cell BK272.out 0).trans rfl, (blk_cell BK272.out 1).trans rfl, (blk_cell BK272.out 2).trans rfl, (blk_cell BK272.out 3).trans rfl, (blk_cell BK272.out 4).trans rfl⟩ (fun hHeld => ?_)
      clear hK K
      refine nA_ 35 ?_
      refine pA_ 19 36 (ml_ 39 1048575) rfl rfl HT_.out ?_
      refine pA_ 20 37 (ml_ 39 2097151) rfl rfl HT_.out ?_
      refine t10_ 21 38 (ml_ 39 4194303) rfl rfl HT_.out HW_.out hHeld ?_
      refine t10_ 22 39 (ml_ 39 8388607) rfl rfl HT_.out HW_.out hHeld ?_
      refine t10_ 24 41 (ml_ 39 25165823) rfl rfl HT_.out HW_.out hHeld ?_
      refine t10_ 25 42 (ml_ 39 58720255) rfl rfl HT_.out HW_.out hHeld ?_
      refine one_ (i := 23) (N := some 40) (ml_ 39 67108863) rfl rfl (one_of HT_.out (by kernel_rfl)) (by decide) (fun K hK => ?_)
      refine goes_ Try.func17 (by kernel_rfl) rfl #[.agg #[.int .i64 t262, .string t263, .slice Ao40 t264.length co40, .slice Ao41 t267.length co41, .int .i64 (wrap64 (1 + (wrap64 (a1))))], .agg #[.int .i64 t262, .string t263, .slice Ao40 t264.length co40, .slice Ao41 t267.length co41, .int .i64 0]] (by rfl) rfl rfl qM_ ?_
      with_reducible refine (item_Same.calls k t262 t263 _ _ t264 _ _ t267 (wrap64 (1 + (wrap64 (a1)))) t262 t263 _ _ t264 _ _ t267 0 t276 _ ?side1 ?side2 ?side3 ?side4 ?side5 ?side6 ?side7 ?side8 A11.out).mono ?_
      (case side1 => exact qC_ ((Kd.R_reads' HO266.out).2.2))
      (case side2 => exact (Kd.R_reads' HO266.out).2.1)
      (case side3 => exact qC_ ((Kd.R_reads' HO269.out).2.2))
      (case side4 => exact (Kd.R_reads' HO269.out).2.1)
      (case side5 => exact qC_ ((Kd.R_reads' HO266.out).2.2))
      (case side6 => exact (Kd.R_reads' HO266.out).2.1)
      (case side7 => exact qC_ ((Kd.R_reads' HO269.out).2.2))
      (case side8 => exact (Kd.R_reads' HO269.out).2.1)
      rintro e w54 ⟨rfl, hb⟩
      refine ⟨_, rfl, ?_⟩
      have n0_ := Aside0.mk (Kd.R_below (q8524_ HO266.out) hb)
      have n1_ := Aside0.mk (Kd.R_below (q8524_ HO269.out) hb)
      have n2_ := Aside0.mk (blk_below (g := gb271) (o := .cells #[.int .i64 t262, .string t263, .slice Ao40 t264.length co40, .slice Ao41 t267.length co41, .int .i64 (wrap64 (1 + (wrap64 (a1))))] 26 (0, 0)) (q1466_ BK271.out) hb)
      have n3_ := Aside0.mk (blk_below (g := gb272) (o := .cells #[.int .i64 t262, .string t263, .slice Ao40 t264.length co40, .slice Ao41 t267.length co41, .int .i64 0] 26 (0, 0)) (q1466_ BK272.out) hb)
      have n4_ := Aside0.mk (below_step (q8f57_ HB.out GE271.out GE272.out) hb)
      clear HO266
      clear HO269
      clear BK271
      clear BK272
      clear HB
      have HO266 := n0_
      have HO269 := n1_
      have BK271 := n2_
      have BK272 := n3_
      have HB := n4_
      clear n0_ n1_ n2_ n3_ n4_
      (try clear hb)
      (try clear hb2)
      (try clear hk)
      (try clear hi)
      refine hK.out _ _ ⟨(blk_cell BK271.out 0).trans rfl, (blk_cell BK271.out 1).trans rfl, (blk_cell BK271.out 2).trans rfl, (blk_cell BK271.out 3).trans rfl, (blk_cell BK271.out 4).trans rfl, (blk_cell BK272.out 0).trans rfl, (blk_cell BK272.out 1).trans rfl, (blk_cell BK272.out 2).trans rfl, (blk_cell BK272.out 3).trans rfl, (blk_cell BK272.out 4).trans rfl⟩ (fun hHeld => ?_)
      clear hK K
      refine nA_ 40 ?_
      refine one_ (i := 26) (N := some 43) (ml_ 39 134217727) rfl rfl (one_of HT_.out (by kernel_rfl)) (by decide) (fun K hK => ?_)
      refine goes_ Try.func18 (by kernel_rfl) rfl #[.agg #[.int .i64 t262, .string t263, .slice Ao40 t264.length co40, .slice Ao41 t267.length co41, .int .i64 (wrap64 (1 + (wrap64 (a1))))], .agg #[.int .i64 t262, .string t263, .slice Ao40 t264.length co40, .slice Ao41 t267.length co41, .int .i64 0]] (by rfl) rfl rfl qM_ ?_
      with_reducible refine (caravanref5_SameItem.calls k t262 t263 _ _ t264 _ _ t267 (wrap64 (1 + (wrap64 (a1)))) t262 t263 _ _ t264 _ _ t267 0 t277 _ ?side1 ?side2 ?side3 ?side4 ?side5 ?side6 ?side7 ?side8 A12.out).mono ?_
      (case side1 => exact qC_ ((Kd.R_reads' HO266.out).2.2))
      (case side2 => exact (Kd.R_reads' HO266.out).2.1)
      (case side3 => exact qC_ ((Kd.R_reads' HO269.out).2.2))
      (case side4 => exact (Kd.R_reads' HO269.out).2.1)
      (case side5 => exact qC_ ((Kd.R_reads' HO266.out).2.2))
      (case side6 => exact (Kd.R_reads' HO266.out).2.1)
      (case side7 => exact qC_ ((Kd.R_reads' HO269.out).2.2))
      (case side8 => exact (Kd.R_reads' HO269.out).2.1)
      rintro e w55 ⟨rfl, hb⟩
      refine ⟨_, rfl, ?_⟩
      have n0_ := Aside0.mk (Kd.R_below (q8524_ HO266.out) hb)
      have n1_ := Aside0.mk (Kd.R_below (q8524_ HO269.out) hb)
      have n2_ := Aside0.mk (blk_below (g := gb271) (o := .cells #[.int .i64 t262, .string t263, .slice Ao40 t264.length co40, .slice Ao41 t267.length co41, .int .i64 (wrap64 (1 + (wrap64 (a1))))] 26 (0, 0)) (q1466_ BK271.out) hb)
      have n3_ := Aside0.mk (blk_below (g := gb272) (o := .cells #[.int .i64 t262, .string t263, .slice Ao40 t264.length co40, .slice Ao41 t267.length co41, .int .i64 0] 26 (0, 0)) (q1466_ BK272.out) hb)
      have n4_ := Aside0.mk (below_step (q8f57_ HB.out GE271.out GE272.out) hb)
      clear HO266
      clear HO269
      clear BK271
      clear BK272
      clear HB
      have HO266 := n0_
      have HO269 := n1_
      have BK271 := n2_
      have BK272 := n3_
      have HB := n4_
      clear n0_ n1_ n2_ n3_ n4_
      (try clear hb)
      (try clear hb2)
      (try clear hk)
      (try clear hi)
      refine hK.out _ _ ⟨(blk_cell BK271.out 0).trans rfl, (blk_cell BK271.out 1).trans rfl, (blk_cell BK271.out 2).trans rfl, (blk_cell BK271.out 3).trans rfl, (blk_cell BK271.out 4).trans rfl, (blk_cell BK272.out 0).trans rfl, (blk_cell BK272.out 1).trans rfl, (blk_cell BK272.out 2).trans rfl, (blk_cell BK272.out 3).trans rfl, (blk_cell BK272.out 4).trans rfl⟩ (fun hHeld => ?_)
      clear hK K
      refine nA_ 43 ?_
      refine pA_ 27 44 (ml_ 39 268435455) rfl rfl HT_.out ?_
      refine pA_ 28 45 (ml_ 39 536870911) rfl rfl HT_.out ?_
      refine pA_ 29 46 (ml_ 39 1073741823) rfl rfl HT_.out ?_
      refine t10_ 30 47 (ml_ 39 2147483647) rfl rfl HT_.out HW_.out hHeld ?_
      refine t10_ 31 48 (ml_ 39 4294967295) rfl rfl HT_.out HW_.out hHeld ?_
      refine one_ (i := 32) (N := some 49) (ml_ 39 8589934591) rfl rfl (one_of HT_.out (by kernel_rfl)) (by decide) (fun K hK => ?_)
      refine goes_ Try.func17 (by kernel_rfl) rfl #[.agg #[.int .i64 t262, .string t263, .slice Ao40 t264.length co40, .slice Ao41 t267.length co41, .int .i64 (wrap64 (1 + (wrap64 (a1))))], .agg #[.int .i64 t262, .string t263, .slice Ao40 t264.length co40, .slice Ao41 t267.length co41, .int .i64 0]] (by rfl) rfl rfl qM_ ?_
      with_reducible refine (item_Same.calls k t262 t263 _ _ t264 _ _ t267 (wrap64 (1 + (wrap64 (a1)))) t262 t263 _ _ t264 _ _ t267 0 false _ ?side1 ?side2 ?side3 ?side4 ?side5 ?side6 ?side7 ?side8 A14.out).mono ?_
      (case side1 => exact qC_ ((Kd.R_reads' HO266.out).2.2))
      (case side2 => exact (Kd.R_reads' HO266.out).2.1)
      (case side3 => exact qC_ ((Kd.R_reads' HO269.out).2.2))
      (case side4 => exact (Kd.R_reads' HO269.out).2.1)
      (case side5 => exact qC_ ((Kd.R_reads' HO266.out).2.2))
      (case side6 => exact (Kd.R_reads' HO266.out).2.1)
      (case side7 => exact qC_ ((Kd.R_reads' HO269.out).2.2))
      (case side8 => exact (Kd.R_reads' HO269.out).2.1)
      rintro e w56 ⟨rfl, hb⟩
      refine ⟨_, rfl, ?_⟩
      have n0_ := Aside0.mk (Kd.R_below (q8524_ HO266.out) hb)
      have n1_ := Aside0.mk (Kd.R_below (q8524_ HO269.out) hb)
      have n2_ := Aside0.mk (blk_below (g := gb271) (o := .cells #[.int .i64 t262, .string t263, .slice Ao40 t264.length co40, .slice Ao41 t267.length co41, .int .i64 (wrap64 (1 + (wrap64 (a1))))] 26 (0, 0)) (q1466_ BK271.out) hb)
      have n3_ := Aside0.mk (blk_below (g := gb272) (o := .cells #[.int .i64 t262, .string t263, .slice Ao40 t264.length co40, .slice Ao41 t267.length co41, .int .i64 0] 26 (0, 0)) (q1466_ BK272.out) hb)
      have n4_ := Aside0.mk (below_step (q8f57_ HB.out GE271.out GE272.out) hb)
      clear HO266
      clear HO269
      clear BK271
      clear BK272
      clear HB
      have HO266 := n0_
      have HO269 := n1_
      have BK271 := n2_
      have BK272 := n3_
      have HB := n4_
      clear n0_ n1_ n2_ n3_ n4_
      (try clear hb)
      (try clear hb2)
      (try clear hk)
      (try clear hi)
      refine hK.out _ _ ⟨(blk_cell BK271.out 0).trans rfl, (blk_cell BK271.out 1).trans rfl, (blk_cell BK271.out 2).trans rfl, (blk_cell BK271.out 3).trans rfl, (blk_cell BK271.out 4).trans rfl, (blk_cell BK272.out 0).trans rfl, (blk_cell BK272.out 1).trans rfl, (blk_cell BK272.out 2).trans rfl, (blk_cell BK272.out 3).trans rfl, (blk_cell BK272.out 4).trans rfl⟩ (fun hHeld => ?_)
      clear hK K
      refine nA_ 49 ?_
      refine pA_ 33 50 (ml_ 39 17179869183) rfl rfl HT_.out ?_
      refine pA_ 34 51 (ml_ 39 34359738367) rfl rfl HT_.out ?_
      refine pA_ 35 52 (ml_ 39 68719476735) rfl rfl HT_.out ?_
      refine one_ (i := 36) (N := some 53) (ml_ 39 137438953471) rfl rfl (one_of HT_.out (by kernel_rfl)) (by decide) (fun K hK => ?_)
      refine goes_ Try.func10 (by kernel_rfl) rfl #[] (by rfl) rfl rfl qM_ ?_
      with_reducible refine (caravanlaw5_awake.calls k  t279 _ A36.out).mono ?_
      rintro e w57 ⟨rfl, hb⟩
      refine ⟨_, rfl, ?_⟩
      have n0_ := Aside0.mk (Kd.R_below (q8524_ HO266.out) hb)
      have n1_ := Aside0.mk (Kd.R_below (q8524_ HO269.out) hb)
      have n2_ := Aside0.mk (blk_below (g := gb271) (o := .cells #[.int .i64 t262, .string t263, .slice Ao40 t264.length co40, .slice Ao41 t267.length co41, .int .i64 (wrap64 (1 + (wrap64 (a1))))] 26 (0, 0)) (q1466_ BK271.out) hb)
      have n3_ := Aside0.mk (blk_below (g := gb272) (o := .cells #[.int .i64 t262, .string t263, .slice Ao40 t264.length co40, .slice Ao41 t267.length co41, .int .i64 0] 26 (0, 0)) (q1466_ BK272.out) hb)
      have n4_ := Aside0.mk (below_step (q8f57_ HB.out GE271.out GE272.out) hb)
      clear HO266
      clear HO269
      clear BK271
      clear BK272
      clear HB
      have HO266 := n0_
      have HO269 := n1_
      have BK271 := n2_
      have BK272 := n3_
      have HB := n4_
      clear n0_ n1_ n2_ n3_ n4_
      (try clear hb)
      (try clear hb2)
      (try clear hk)
      (try clear hi)
      refine hK.out _ _ ⟨(blk_cell BK271.out 0).trans rfl, (blk_cell BK271.out 1).trans rfl, (blk_cell BK271.out 2).trans rfl, (blk_cell BK271.out 3).trans rfl, (blk_cell BK271.out 4).trans rfl, (blk_cell BK272.out 0).trans rfl, (blk_cell BK272.out 1).trans rfl, (blk_cell BK272.out 2).trans rfl, (blk_cell BK272.out 3).trans rfl, (blk_cell BK272.out 4).trans rfl⟩ (fun hHeld => ?_)
      clear hK K
      refine nA_ 53 ?_
      refine pA_ 37 54 (ml_ 39 274877906943) rfl rfl HT_.out ?_
      refine pA_ 38 6 (ml_ 39 549755813887) rfl rfl HT_.out ?_
      refine done_ (done_of HT_.out (by kernel_rfl)) ?_
      try go_wp2
      go_ret
      exact ⟨by first | rfl | (simp [errW_none, errW_some] <;> rfl) | (simp [*, errW_none, errW_some] <;> rfl), (q8f57_ HB.out GE271.out GE272.out)⟩
    ·rw [if_neg c13] at H
     have c13b0 : (t276 == t277) = false := by simpa using c13
     (try (have c13b1 : decide (t276 = t277) = false := by simpa using c13))
     (try (have c13b2 : (t276 == t277) = false := by simpa using c13))
     (try (have c13b3 : ¬ (t276 = t277) := by simpa using c13))
     clear c13
     obtain rfl := Option.some.inj H
     go_enter Try.func7, Try.ntmps7
     try go_wp2_with (first | ((with_reducible refine gate_callee (f := 20) rfl ?_); refine goesL_ (some 10) rfl rfl Try.func20 (by kernel_rfl) rfl #[.slice A0 l0.length c0, .int .u8 1] rfl qM_ ?_; (with_reducible refine (caravanlaw5_Make.calls k _ _ l0 1 t262 t263 t264 t267 t270 _ ?side1 ?side2 A4.out).mono ?_); (case side1 => exact qC_ (HR0.out)); (case side2 => exact HC0.out); rintro e w58 ⟨v265, v268, rfl, ho0, ho1, hb⟩; refine ⟨_, rfl, ?_⟩; have n0_ := Aside0.mk (Kd.R_lower ho0 (below_size (qdb35_ HB.out))); have n1_ := Aside0.mk (Kd.R_lower ho1 (below_size (qdb35_ HB.out))); have n2_ := Aside0.mk (below_step (qdb35_ HB.out) hb); clear HB; have HO266 := n0_; have HO269 := n1_; have HB := n2_; clear n0_ n1_ n2_; (try clear hb); (try clear hb2); (try clear hk); (try clear hi); (try clear ho0); (try clear ho1)) | ((with_reducible refine gate_dst (N := 7) rfl ?_); refine box_event ?hg (N := 7) ?hd (cs := #[.int .i64 0, .string (⟨#[]⟩ : ByteArray), .slice none 0 0, .slice none 0 0, .int .i64 0]) (t := 26) ?hr ?_; (case hd => rfl); (case hg => rfl); (case hr => first | (go_simp; done) | (go_simp; rfl)); intro gb271 hg w59 hbox hb; have n0_ := Aside0.mk (Kd.R_below (q8524_ HO266.out) hb); have n1_ := Aside0.mk (Kd.R_below (q8524_ HO269.out) hb); have n2_ := Aside0.mk (below_step (qdb35_ HB.out) hb); have n3_ := Aside0.mk (hbox); have n4_ := Aside0.mk ((by rw [hg]; exact (below_size (qdb35_ HB.out)) : w.heap.size ≤ gb271)); have n5_ := Aside0.mk ((by rw [hg]; exact (below_size (qdb35_ HB.out)) : w.heap.size ≤ gb271)); clear HO266; clear HO269; clear HB; have HO266 := n0_; have HO269 := n1_; have HB := n2_; have BK271 := n3_; have GW271 := n4_; have GE271 := n5_; clear n0_ n1_ n2_ n3_ n4_ n5_; clear hb hbox hg; have hcz60_0 : w59.cell? ⟨gb271, 0, none⟩ = some (.int .i64 0) := (blk_cell BK271.out 0).trans rfl; have hcz60_1 : w59.cell? ⟨gb271, 1, none⟩ = some (.string (⟨#[]⟩ : ByteArray)) := (blk_cell BK271.out 1).trans rfl; have hcz60_2 : w59.cell? ⟨gb271, 2, none⟩ = some (.slice none 0 0) := (blk_cell BK271.out 2).trans rfl; have hcz60_3 : w59.cell? ⟨gb271, 3, none⟩ = some (.slice none 0 0) := (blk_cell BK271.out 3).trans rfl; have hcz60_4 : w59.cell? ⟨gb271, 4, none⟩ = some (.int .i64 0) := (blk_cell BK271.out 4).trans rfl; have hfz60_0 := blk_frozen BK271.out 0; have hfz60_1 := blk_frozen BK271.out 1; have hfz60_2 := blk_frozen BK271.out 2; have hfz60_3 := blk_frozen BK271.out 3; have hfz60_4 := blk_frozen BK271.out 4; obtain ⟨Ao61, co61, eo61⟩ := Kd.R_slice HO266.out; subst eo61; obtain ⟨Ao62, co62, eo62⟩ := Kd.R_slice HO269.out; subst eo62) | ((with_reducible refine gate_store (t := 26) (p := 7) rfl ?_); refine store_event (t := 26) (p := 7) (v := ?vo_w63) (w1 := (((((w59.setCell ⟨gb271, 0, none⟩ (.int .i64 t262)).setCell ⟨gb271, 1, none⟩ (.string t263)).setCell ⟨gb271, 2, none⟩ (.slice Ao61 t264.length co61)).setCell ⟨gb271, 3, none⟩ (.slice Ao62 t267.length co62)).setCell ⟨gb271, 4, none⟩ (.int .i64 t270))) ?hg ?ho ?hn ?hr ?_; (case ho => rfl); (case hg => rfl); (case hn => rfl); (case hr => first | (go_simp; done) | (go_simp; rfl)); intro w63 hw; have n0_ : Aside0 (Kd.R k29 29 w63 w.heap.size (fun _ => True) (.slice Ao61 t264.length co61) t264) := ⟨(by rw [hw]; exact (by (with_reducible repeat (first | apply Kd.R_alloc | apply Kd.R_drewN | apply Kd.R_drew)); exact Kd.R_mono (Kd.R_far (p := ⟨gb271, 4, none⟩) (Kd.R_far (p := ⟨gb271, 3, none⟩) (Kd.R_far (p := ⟨gb271, 2, none⟩) (Kd.R_far (p := ⟨gb271, 1, none⟩) (Kd.R_far (p := ⟨gb271, 0, none⟩) (Kd.R_types HO266.out BK271.out (by decide)) (fun _ hk => hk.2) (.int .i64 t262)) (fun _ hk => hk.2) (.string t263)) (fun _ hk => hk.2) (.slice Ao61 t264.length co61)) (fun _ hk => hk.2) (.slice Ao62 t267.length co62)) (fun _ hk => hk.2) (.int .i64 t270)) (fun _ hk => trivial)))⟩; have n1_ : Aside0 (Kd.R Kd.string 9 w63 w.heap.size (fun _ => True) (.slice Ao62 t267.length co62) t267) := ⟨(by rw [hw]; exact (by (with_reducible repeat (first | apply Kd.R_alloc | apply Kd.R_drewN | apply Kd.R_drew)); exact Kd.R_mono (Kd.R_far (p := ⟨gb271, 4, none⟩) (Kd.R_far (p := ⟨gb271, 3, none⟩) (Kd.R_far (p := ⟨gb271, 2, none⟩) (Kd.R_far (p := ⟨gb271, 1, none⟩) (Kd.R_far (p := ⟨gb271, 0, none⟩) (Kd.R_types HO269.out BK271.out (by decide)) (fun _ hk => hk.2) (.int .i64 t262)) (fun _ hk => hk.2) (.string t263)) (fun _ hk => hk.2) (.slice Ao61 t264.length co61)) (fun _ hk => hk.2) (.slice Ao62 t267.length co62)) (fun _ hk => hk.2) (.int .i64 t270)) (fun _ hk => trivial)))⟩; have n2_ : Aside0 (w63.heap[gb271]? = some (.cells #[.int .i64 t262, .string t263, .slice Ao61 t264.length co61, .slice Ao62 t267.length co62, .int .i64 t270] 26 (0, 0))) := ⟨(by rw [hw]; exact (by (with_reducible repeat (first | refine blk_drewN ?_ _ | refine blk_drew ?_ | refine blk_alloc ?_ _)); refine blk_put (cs := #[.int .i64 t262, .string t263, .slice Ao61 t264.length co61, .slice Ao62 t267.length co62, .int .i64 0]) ?_ 4 _ rfl; (with_reducible repeat (first | refine blk_drewN ?_ _ | refine blk_drew ?_ | refine blk_alloc ?_ _)); refine blk_put (cs := #[.int .i64 t262, .string t263, .slice Ao61 t264.length co61, .slice none 0 0, .int .i64 0]) ?_ 3 _ rfl; (with_reducible repeat (first | refine blk_drewN ?_ _ | refine blk_drew ?_ | refine blk_alloc ?_ _)); refine blk_put (cs := #[.int .i64 t262, .string t263, .slice none 0 0, .slice none 0 0, .int .i64 0]) ?_ 2 _ rfl; (with_reducible repeat (first | refine blk_drewN ?_ _ | refine blk_drew ?_ | refine blk_alloc ?_ _)); refine blk_put (cs := #[.int .i64 t262, .string (⟨#[]⟩ : ByteArray), .slice none 0 0, .slice none 0 0, .int .i64 0]) ?_ 1 _ rfl; (with_reducible repeat (first | refine blk_drewN ?_ _ | refine blk_drew ?_ | refine blk_alloc ?_ _)); refine blk_put (cs := #[.int .i64 0, .string (⟨#[]⟩ : ByteArray), .slice none 0 0, .slice none 0 0, .int .i64 0]) ?_ 0 _ rfl; (with_reducible repeat (first | refine blk_drewN ?_ _ | refine blk_drew ?_ | refine blk_alloc ?_ _)); exact BK271.out))⟩; have n3_ : Aside0 (Below w.heap.size w w63) := ⟨(q5b6b_ HB.out GE271.out)⟩; clear hw; clear HO266; clear HO269; clear BK271; clear HB; have HO266 := n0_; have HO269 := n1_; have BK271 := n2_; have HB := n3_; clear n0_ n1_ n2_ n3_; have hcz64_0 : w63.cell? ⟨gb271, 0, none⟩ = some (.int .i64 t262) := (blk_cell BK271.out 0).trans rfl; have hcz64_1 : w63.cell? ⟨gb271, 1, none⟩ = some (.string t263) := (blk_cell BK271.out 1).trans rfl; have hcz64_2 : w63.cell? ⟨gb271, 2, none⟩ = some (.slice Ao61 t264.length co61) := (blk_cell BK271.out 2).trans rfl; have hcz64_3 : w63.cell? ⟨gb271, 3, none⟩ = some (.slice Ao62 t267.length co62) := (blk_cell BK271.out 3).trans rfl; have hcz64_4 : w63.cell? ⟨gb271, 4, none⟩ = some (.int .i64 t270) := (blk_cell BK271.out 4).trans rfl; have hfz64_0 := blk_frozen BK271.out 0; have hfz64_1 := blk_frozen BK271.out 1; have hfz64_2 := blk_frozen BK271.out 2; have hfz64_3 := blk_frozen BK271.out 3; have hfz64_4 := blk_frozen BK271.out 4) | ((with_reducible refine gate_store (t := 3) (p := 14) rfl ?_); refine store_event (t := 3) (p := 14) (v := ?vo_w65) (w1 := (w63.setCell ⟨gb271, 4, none⟩ (.int .i64 (wrap64 (1 + (wrap64 (a1))))))) ?hg ?ho ?hn ?hr ?_; (case ho => rfl); (case hg => rfl); (case hn => rfl); (case hr => first | (go_simp; done) | (go_simp; rfl)); intro w65 hw; have n0_ : Aside0 (Kd.R k29 29 w65 w.heap.size (fun _ => True) (.slice Ao61 t264.length co61) t264) := ⟨(by rw [hw]; exact (by (with_reducible repeat (first | apply Kd.R_alloc | apply Kd.R_drewN | apply Kd.R_drew)); exact Kd.R_mono (Kd.R_far (p := ⟨gb271, 4, none⟩) (Kd.R_types HO266.out BK271.out (by decide)) (fun _ hk => hk.2) (.int .i64 (wrap64 (1 + (wrap64 (a1)))))) (fun _ hk => trivial)))⟩; have n1_ : Aside0 (Kd.R Kd.string 9 w65 w.heap.size (fun _ => True) (.slice Ao62 t267.length co62) t267) := ⟨(by rw [hw]; exact (by (with_reducible repeat (first | apply Kd.R_alloc | apply Kd.R_drewN | apply Kd.R_drew)); exact Kd.R_mono (Kd.R_far (p := ⟨gb271, 4, none⟩) (Kd.R_types HO269.out BK271.out (by decide)) (fun _ hk => hk.2) (.int .i64 (wrap64 (1 + (wrap64 (a1)))))) (fun _ hk => trivial)))⟩; have n2_ : Aside0 (w65.heap[gb271]? = some (.cells #[.int .i64 t262, .string t263, .slice Ao61 t264.length co61, .slice Ao62 t267.length co62, .int .i64 (wrap64 (1 + (wrap64 (a1))))] 26 (0, 0))) := ⟨(by rw [hw]; exact (by (with_reducible repeat (first | refine blk_drewN ?_ _ | refine blk_drew ?_ | refine blk_alloc ?_ _)); refine blk_put (cs := #[.int .i64 t262, .string t263, .slice Ao61 t264.length co61, .slice Ao62 t267.length co62, .int .i64 t270]) ?_ 4 _ rfl; (with_reducible repeat (first | refine blk_drewN ?_ _ | refine blk_drew ?_ | refine blk_alloc ?_ _)); exact BK271.out))⟩; have n3_ : Aside0 (Below w.heap.size w w65) := ⟨(q5b6b_ HB.out GE271.out)⟩; clear hw; clear HO266; clear HO269; clear BK271; clear HB; have HO266 := n0_; have HO269 := n1_; have BK271 := n2_; have HB := n3_; clear n0_ n1_ n2_ n3_; have hcz66_0 : w65.cell? ⟨gb271, 0, none⟩ = some (.int .i64 t262) := (blk_cell BK271.out 0).trans rfl; have hcz66_1 : w65.cell? ⟨gb271, 1, none⟩ = some (.string t263) := (blk_cell BK271.out 1).trans rfl; have hcz66_2 : w65.cell? ⟨gb271, 2, none⟩ = some (.slice Ao61 t264.length co61) := (blk_cell BK271.out 2).trans rfl; have hcz66_3 : w65.cell? ⟨gb271, 3, none⟩ = some (.slice Ao62 t267.length co62) := (blk_cell BK271.out 3).trans rfl; have hcz66_4 : w65.cell? ⟨gb271, 4, none⟩ = some (.int .i64 (wrap64 (1 + (wrap64 (a1))))) := (blk_cell BK271.out 4).trans rfl; have hfz66_0 := blk_frozen BK271.out 0; have hfz66_1 := blk_frozen BK271.out 1; have hfz66_2 := blk_frozen BK271.out 2; have hfz66_3 := blk_frozen BK271.out 3; have hfz66_4 := blk_frozen BK271.out 4) | ((with_reducible refine gate_dst (N := 8) rfl ?_); refine box_event ?hg (N := 8) ?hd (cs := #[.int .i64 0, .string (⟨#[]⟩ : ByteArray), .slice none 0 0, .slice none 0 0, .int .i64 0]) (t := 26) ?hr ?_; (case hd => rfl); (case hg => rfl); (case hr => first | (go_simp; done) | (go_simp; rfl)); intro gb272 hg w67 hbox hb; have n0_ := Aside0.mk (Kd.R_below (q8524_ HO266.out) hb); have n1_ := Aside0.mk (Kd.R_below (q8524_ HO269.out) hb); have n2_ := Aside0.mk (blk_below (g := gb271) (o := .cells #[.int .i64 t262, .string t263, .slice Ao61 t264.length co61, .slice Ao62 t267.length co62, .int .i64 (wrap64 (1 + (wrap64 (a1))))] 26 (0, 0)) (q1466_ BK271.out) hb); have n3_ := Aside0.mk (below_step (qed14_ HB.out GE271.out) hb); have n4_ := Aside0.mk (hbox); have n5_ := Aside0.mk ((by rw [hg]; exact (below_size (qed14_ HB.out GE271.out)) : w.heap.size ≤ gb272)); have n6_ := Aside0.mk ((by rw [hg]; exact (below_size (qed14_ HB.out GE271.out)) : w.heap.size ≤ gb272)); have n7_ := Aside0.mk ((by rw [hg]; exact Nat.ne_of_lt (blk_lt (g := gb271) (o := .cells #[.int .i64 t262, .string t263, .slice Ao61 t264.length co61, .slice Ao62 t267.length co62, .int .i64 (wrap64 (1 + (wrap64 (a1))))] 26 (0, 0)) (q1466_ BK271.out)) : gb271 ≠ gb272)); have n8_ := Aside0.mk ((by rw [hg]; exact Nat.ne_of_gt (blk_lt (g := gb271) (o := .cells #[.int .i64 t262, .string t263, .slice Ao61 t264.length co61, .slice Ao62 t267.length co62, .int .i64 (wrap64 (1 + (wrap64 (a1))))] 26 (0, 0)) (q1466_ BK271.out)) : gb272 ≠ gb271)); clear HO266; clear HO269; clear BK271; clear HB; have HO266 := n0_; have HO269 := n1_; have BK271 := n2_; have HB := n3_; have BK272 := n4_; have GW272 := n5_; have GE272 := n6_; have NB271_272 := n7_; have NB272_271 := n8_; clear n0_ n1_ n2_ n3_ n4_ n5_ n6_ n7_ n8_; clear hb hbox hg; have hnb68 := NB272_271.out; have hnc68 := NB271_272.out; have hcz69_0 : w67.cell? ⟨gb272, 0, none⟩ = some (.int .i64 0) := (blk_cell BK272.out 0).trans rfl; have hcz69_1 : w67.cell? ⟨gb272, 1, none⟩ = some (.string (⟨#[]⟩ : ByteArray)) := (blk_cell BK272.out 1).trans rfl; have hcz69_2 : w67.cell? ⟨gb272, 2, none⟩ = some (.slice none 0 0) := (blk_cell BK272.out 2).trans rfl; have hcz69_3 : w67.cell? ⟨gb272, 3, none⟩ = some (.slice none 0 0) := (blk_cell BK272.out 3).trans rfl; have hcz69_4 : w67.cell? ⟨gb272, 4, none⟩ = some (.int .i64 0) := (blk_cell BK272.out 4).trans rfl; have hfz69_0 := blk_frozen BK272.out 0; have hfz69_1 := blk_frozen BK272.out 1; have hfz69_2 := blk_frozen BK272.out 2; have hfz69_3 := blk_frozen BK272.out 3; have hfz69_4 := blk_frozen BK272.out 4))
     have n0_ : Aside0 (Kd.R k29 29 ((((((w67.setCell ⟨gb272, 0, none⟩ (.int .i64 t262)).setCell ⟨gb272, 1, none⟩ (.string t263)).setCell ⟨gb272, 2, none⟩ (.slice Ao61 t264.length co61)).setCell ⟨gb272, 3, none⟩ (.slice Ao62 t267.length co62)).setCell ⟨gb272, 4, none⟩ (.int .i64 (wrap64 (1 + (wrap64 (a1)))))).setCell ⟨gb272, 4, none⟩ (.int .i64 0)) w.heap.size (fun _ => True) (.slice Ao61 t264.length co61) t264) := ⟨by (with_reducible repeat (first | apply Kd.R_alloc | apply Kd.R_drewN | apply Kd.R_drew)); exact Kd.R_mono (Kd.R_far (p := ⟨gb272, 4, none⟩) (Kd.R_far (p := ⟨gb272, 4, none⟩) (Kd.R_far (p := ⟨gb272, 3, none⟩) (Kd.R_far (p := ⟨gb272, 2, none⟩) (Kd.R_far (p := ⟨gb272, 1, none⟩) (Kd.R_far (p := ⟨gb272, 0, none⟩) (Kd.R_types HO266.out BK272.out (by decide)) (fun _ hk => hk.2) (.int .i64 t262)) (fun _ hk => hk.2) (.string t263)) (fun _ hk => hk.2) (.slice Ao61 t264.length co61)) (fun _ hk => hk.2) (.slice Ao62 t267.length co62)) (fun _ hk => hk.2) (.int .i64 (wrap64 (1 + (wrap64 (a1)))))) (fun _ hk => hk.2) (.int .i64 0)) (fun _ hk => trivial)⟩
     have n1_ : Aside0 (Kd.R Kd.string 9 ((((((w67.setCell ⟨gb272, 0, none⟩ (.int .i64 t262)).setCell ⟨gb272, 1, none⟩ (.string t263)).setCell ⟨gb272, 2, none⟩ (.slice Ao61 t264.length co61)).setCell ⟨gb272, 3, none⟩ (.slice Ao62 t267.length co62)).setCell ⟨gb272, 4, none⟩ (.int .i64 (wrap64 (1 + (wrap64 (a1)))))).setCell ⟨gb272, 4, none⟩ (.int .i64 0)) w.heap.size (fun _ => True) (.slice Ao62 t267.length co62) t267) := ⟨by (with_reducible repeat (first | apply Kd.R_alloc | apply Kd.R_drewN | apply Kd.R_drew)); exact Kd.R_mono (Kd.R_far (p := ⟨gb272, 4, none⟩) (Kd.R_far (p := ⟨gb272, 4, none⟩) (Kd.R_far (p := ⟨gb272, 3, none⟩) (Kd.R_far (p := ⟨gb272, 2, none⟩) (Kd.R_far (p := ⟨gb272, 1, none⟩) (Kd.R_far (p := ⟨gb272, 0, none⟩) (Kd.R_types HO269.out BK272.out (by decide)) (fun _ hk => hk.2) (.int .i64 t262)) (fun _ hk => hk.2) (.string t263)) (fun _ hk => hk.2) (.slice Ao61 t264.length co61)) (fun _ hk => hk.2) (.slice Ao62 t267.length co62)) (fun _ hk => hk.2) (.int .i64 (wrap64 (1 + (wrap64 (a1)))))) (fun _ hk => hk.2) (.int .i64 0)) (fun _ hk => trivial)⟩
     have n2_ : Aside0 (((((((w67.setCell ⟨gb272, 0, none⟩ (.int .i64 t262)).setCell ⟨gb272, 1, none⟩ (.string t263)).setCell ⟨gb272, 2, none⟩ (.slice Ao61 t264.length co61)).setCell ⟨gb272, 3, none⟩ (.slice Ao62 t267.length co62)).setCell ⟨gb272, 4, none⟩ (.int .i64 (wrap64 (1 + (wrap64 (a1)))))).setCell ⟨gb272, 4, none⟩ (.int .i64 0)).heap[gb271]? = some (.cells #[.int .i64 t262, .string t263, .slice Ao61 t264.length co61, .slice Ao62 t267.length co62, .int .i64 (wrap64 (1 + (wrap64 (a1))))] 26 (0, 0))) := ⟨by (with_reducible repeat (first | refine blk_drewN ?_ _ | refine blk_drew ?_ | refine blk_alloc ?_ _)); refine blk_far ?_ NB271_272.out _; (with_reducible repeat (first | refine blk_drewN ?_ _ | refine blk_drew ?_ | refine blk_alloc ?_ _)); refine blk_far ?_ NB271_272.out _; (with_reducible repeat (first | refine blk_drewN ?_ _ | refine blk_drew ?_ | refine blk_alloc ?_ _)); refine blk_far ?_ NB271_272.out _; (with_reducible repeat (first | refine blk_drewN ?_ _ | refine blk_drew ?_ | refine blk_alloc ?_ _)); refine blk_far ?_ NB271_272.out _; (with_reducible repeat (first | refine blk_drewN ?_ _ | refine blk_drew ?_ | refine blk_alloc ?_ _)); refine blk_far ?_ NB271_272.out _; (with_reducible repeat (first | refine blk_drewN ?_ _ | refine blk_drew ?_ | refine blk_alloc ?_ _)); refine blk_far ?_ NB271_272.out _; (with_reducible repeat (first | refine blk_drewN ?_ _ | refine blk_drew ?_ | refine blk_alloc ?_ _)); exact BK271.out⟩
     have n3_ : Aside0 (((((((w67.setCell ⟨gb272, 0, none⟩ (.int .i64 t262)).setCell ⟨gb272, 1, none⟩ (.string t263)).setCell ⟨gb272, 2, none⟩ (.slice Ao61 t264.length co61)).setCell ⟨gb272, 3, none⟩ (.slice Ao62 t267.length co62)).setCell ⟨gb272, 4, none⟩ (.int .i64 (wrap64 (1 + (wrap64 (a1)))))).setCell ⟨gb272, 4, none⟩ (.int .i64 0)).heap[gb272]? = some (.cells #[.int .i64 t262, .string t263, .slice Ao61 t264.length co61, .slice Ao62 t267.length co62, .int .i64 0] 26 (0, 0))) := ⟨by (with_reducible repeat (first | refine blk_drewN ?_ _ | refine blk_drew ?_ | refine blk_alloc ?_ _)); refine blk_put (cs := #[.int .i64 t262, .string t263, .slice Ao61 t264.length co61, .slice Ao62 t267.length co62, .int .i64 (wrap64 (1 + (wrap64 (a1))))]) ?_ 4 _ rfl; (with_reducible repeat (first | refine blk_drewN ?_ _ | refine blk_drew ?_ | refine blk_alloc ?_ _)); refine blk_put (cs := #[.int .i64 t262, .string t263, .slice Ao61 t264.length co61, .slice Ao62 t267.length co62, .int .i64 0]) ?_ 4 _ rfl; (with_reducible repeat (first | refine blk_drewN ?_ _ | refine blk_drew ?_ | refine blk_alloc ?_ _)); refine blk_put (cs := #[.int .i64 t262, .string t263, .slice Ao61 t264.length co61, .slice none 0 0, .int .i64 0]) ?_ 3 _ rfl; (with_reducible repeat (first | refine blk_drewN ?_ _ | refine blk_drew ?_ | refine blk_alloc ?_ _)); refine blk_put (cs := #[.int .i64 t262, .string t263, .slice none 0 0, .slice none 0 0, .int .i64 0]) ?_ 2 _ rfl; (with_reducible repeat (first | refine blk_drewN ?_ _ | refine blk_drew ?_ | refine blk_alloc ?_ _)); refine blk_put (cs := #[.int .i64 t262, .string (⟨#[]⟩ : ByteArray), .slice none 0 0, .slice none 0 0, .int .i64 0]) ?_ 1 _ rfl; (with_reducible repeat (first | refine blk_drewN ?_ _ | refine blk_drew ?_ | refine blk_alloc ?_ _)); refine blk_put (cs := #[.int .i64 0, .string (⟨#[]⟩ : ByteArray), .slice none 0 0, .slice none 0 0, .int .i64 0]) ?_ 0 _ rfl; (with_reducible repeat (first | refine blk_drewN ?_ _ | refine blk_drew ?_ | refine blk_alloc ?_ _)); exact BK272.out⟩
     have n4_ : Aside0 (Below w.heap.size w ((((((w67.setCell ⟨gb272, 0, none⟩ (.int .i64 t262)).setCell ⟨gb272, 1, none⟩ (.string t263)).setCell ⟨gb272, 2, none⟩ (.slice Ao61 t264.length co61)).setCell ⟨gb272, 3, none⟩ (.slice Ao62 t267.length co62)).setCell ⟨gb272, 4, none⟩ (.int .i64 (wrap64 (1 + (wrap64 (a1)))))).setCell ⟨gb272, 4, none⟩ (.int .i64 0))) := ⟨(q8f57_ HB.out GE271.out GE272.out)⟩
     (try clear HO266)
     (try clear HO269)
     (try clear BK271)
     (try clear BK272)
     (try clear HB)
     generalize ((((((w67.setCell ⟨gb272, 0, none⟩ (.int .i64 t262)).setCell ⟨gb272, 1, none⟩ (.string t263)).setCell ⟨gb272, 2, none⟩ (.slice Ao61 t264.length co61)).setCell ⟨gb272, 3, none⟩ (.slice Ao62 t267.length co62)).setCell ⟨gb272, 4, none⟩ (.int .i64 (wrap64 (1 + (wrap64 (a1)))))).setCell ⟨gb272, 4, none⟩ (.int .i64 0)) = w70 at n0_ n1_ n2_ n3_ n4_ ⊢
     have HO266 := n0_
     have HO269 := n1_
     have BK271 := n2_
     have BK272 := n3_
     have HB := n4_
     clear n0_ n1_ n2_ n3_ n4_
     have n0_ := Aside0.mk (Kd.R_drew HO266.out)
     have n1_ := Aside0.mk (Kd.R_drew HO269.out)
     have n2_ := Aside0.mk (blk_drew BK271.out)
     have n3_ := Aside0.mk (blk_drew BK272.out)
     have n4_ := Aside0.mk (below_drew1 HB.out)
     clear HO266
     clear HO269
     clear BK271
     clear BK272
     clear HB
     have HO266 := n0_
     have HO269 := n1_
     have BK271 := n2_
     have BK272 := n3_
     have HB := n4_
     clear n0_ n1_ n2_ n3_ n4_
     refine start_ (n := 39) (S := fun w' => w'.cell? ⟨gb271, 0, none⟩ = some (.int .i64 t262) ∧ w'.cell? ⟨gb271, 1, none⟩ = some (.string t263) ∧ w'.cell? ⟨gb271, 2, none⟩ = some (.slice Ao61 t264.length co61) ∧ w'.cell? ⟨gb271, 3, none⟩ = some (.slice Ao62 t267.length co62) ∧ w'.cell? ⟨gb271, 4, none⟩ = some (.int .i64 (wrap64 (1 + (wrap64 (a1))))) ∧ w'.cell? ⟨gb272, 0, none⟩ = some (.int .i64 t262) ∧ w'.cell? ⟨gb272, 1, none⟩ = some (.string t263) ∧ w'.cell? ⟨gb272, 2, none⟩ = some (.slice Ao61 t264.length co61) ∧ w'.cell? ⟨gb272, 3, none⟩ = some (.slice Ao62 t267.length co62) ∧ w'.cell? ⟨gb272, 4, none⟩ = some (.int .i64 0)) (ds := []) (ml_ 39 0) (by kernel_rfl) rfl rfl ⟨(blk_cell BK271.out 0).trans rfl, (blk_cell BK271.out 1).trans rfl, (blk_cell BK271.out 2).trans rfl, (blk_cell BK271.out 3).trans rfl, (blk_cell BK271.out 4).trans rfl, (blk_cell BK272.out 0).trans rfl, (blk_cell BK272.out 1).trans rfl, (blk_cell BK272.out 2).trans rfl, (blk_cell BK272.out 3).trans rfl, (blk_cell BK272.out 4).trans rfl⟩ (fun hHeld => ?_); refine with_tabW caravanlaw5_ItemTime.tab5 caravanlaw5_ItemTime.bits5 (fun HT_ HW_ => ?_)
     generalize w70.drew = w71 at HO266 HO269 BK271 BK272 HB hHeld ⊢
     refine pA_ 1 18 (ml_ 39 2) rfl rfl HT_.out ?_
     refine pA_ 2 19 (ml_ 39 6) rfl rfl HT_.out ?_
     refine pA_ 4 21 (ml_ 39 22) rfl rfl HT_.out ?_
     refine pA_ 5 22 (ml_ 39 54) rfl rfl HT_.out ?_
     refine pA_ 6 23 (ml_ 39 118) rfl rfl HT_.out ?_
     refine pA_ 7 24 (ml_ 39 246) rfl rfl HT_.out ?_
     refine pA_ 8 25 (ml_ 39 502) rfl rfl HT_.out ?_
     refine t10_ 0 17 (ml_ 39 503) rfl rfl HT_.out HW_.out hHeld ?_
     refine one_ (i := 3) (N := some 20) (ml_ 39 511) rfl rfl (one_of HT_.out (by kernel_rfl)) (by decide) (fun K hK => ?_)
     refine goes_ Try.func13 (by kernel_rfl) rfl #[.agg #[.int .i64 t262, .string t263, .slice Ao61 t264.length co61, .slice Ao62 t267.length co62, .int .i64 (wrap64 (1 + (wrap64 (a1))))], .int .i64 (wrap64 (a2))] (by rfl) rfl rfl qM_ ?_
     with_reducible refine (item_Alive.calls t262 t263 _ _ t264 _ _ t267 (wrap64 (1 + (wrap64 (a1)))) (wrap64 (a2)) t273 _ ?side1 ?side2 ?side3 ?side4 A5.out).mono ?_
     (case side1 => exact qC_ ((Kd.R_reads' HO266.out).2.2))
     (case side2 => exact (Kd.R_reads' HO266.out).2.1)
     (case side3 => exact qC_ ((Kd.R_reads' HO269.out).2.2))
     (case side4 => exact (Kd.R_reads' HO269.out).2.1)
     rintro e w72 ⟨rfl, hb⟩
     refine ⟨_, rfl, ?_⟩
     have n0_ := Aside0.mk (Kd.R_below (q8524_ HO266.out) hb)
     have n1_ := Aside0.mk (Kd.R_below (q8524_ HO269.out) hb)
     have n2_ := Aside0.mk (blk_below (g := gb271) (o := .cells #[.int .i64 t262, .string t263, .slice Ao61 t264.length co61, .slice Ao62 t267.length co62, .int .i64 (wrap64 (1 + (wrap64 (a1))))] 26 (0, 0)) (q1466_ BK271.out) hb)
     have n3_ := Aside0.mk (blk_below (g := gb272) (o := .cells #[.int .i64 t262, .string t263, .slice Ao61 t264.length co61, .slice Ao62 t267.length co62, .int .i64 0] 26 (0, 0)) (q1466_ BK272.out) hb)
     have n4_ := Aside0.mk (below_step (q8f57_ HB.out GE271.out GE272.out) hb)
     clear HO266
     clear HO269
     clear BK271
     clear BK272
     clear HB
     have HO266 := n0_
     have HO269 := n1_
     have BK271 := n2_
     have BK272 := n3_
     have HB := n4_
     clear n0_ n1_ n2_ n3_ n4_
     (try clear hb)
     (try clear hb2)
     (try clear hk)
     (try clear hi)
     refine hK.out _ _ ⟨(blk_cell BK271.out 0).trans rfl, (blk_cell BK271.out 1).trans rfl, (blk_cell BK271.out 2).trans rfl, (blk_cell BK271.out 3).trans rfl, (blk_cell BK271.out 4).trans rfl, (blk_cell BK272.out 0).trans rfl, (blk_cell BK272.out 1).trans rfl, (blk_cell BK272.out 2).trans rfl, (blk_cell BK272.out 3).trans rfl, (blk_cell BK272.out 4).trans rfl⟩ (fun hHeld => ?_)
     clear hK K
     refine nA_ 20 ?_
     refine pA_ 9 26 (ml_ 39 1023) rfl rfl HT_.out ?_
     refine pA_ 10 27 (ml_ 39 2047) rfl rfl HT_.out ?_
     refine pA_ 12 29 (ml_ 39 6143) rfl rfl HT_.out ?_
     refine pA_ 13 30 (ml_ 39 14335) rfl rfl HT_.out ?_
     refine t10_ 11 28 (ml_ 39 16383) rfl rfl HT_.out HW_.out hHeld ?_
     refine one_ (i := 14) (N := some 31) (ml_ 39 32767) rfl rfl (one_of HT_.out (by kernel_rfl)) (by decide) (fun K hK => ?_)
     refine goes_ Try.func13 (by kernel_rfl) rfl #[.agg #[.int .i64 t262, .string t263, .slice Ao61 t264.length co61, .slice Ao62 t267.length co62, .int .i64 0], .int .i64 (wrap64 (a2))] (by rfl) rfl rfl qM_ ?_
     with_reducible refine (item_Alive.calls t262 t263 _ _ t264 _ _ t267 0 (wrap64 (a2)) true _ ?side1 ?side2 ?side3 ?side4 A7.out).mono ?_
     (case side1 => exact qC_ ((Kd.R_reads' HO266.out).2.2))
     (case side2 => exact (Kd.R_reads' HO266.out).2.1)
     (case side3 => exact qC_ ((Kd.R_reads' HO269.out).2.2))
     (case side4 => exact (Kd.R_reads' HO269.out).2.1)
     rintro e w73 ⟨rfl, hb⟩
     refine ⟨_, rfl, ?_⟩
     have n0_ := Aside0.mk (Kd.R_below (q8524_ HO266.out) hb)
     have n1_ := Aside0.mk (Kd.R_below (q8524_ HO269.out) hb)
     have n2_ := Aside0.mk (blk_below (g := gb271) (o := .cells #[.int .i64 t262, .string t263, .slice Ao61 t264.length co61, .slice Ao62 t267.length co62, .int .i64 (wrap64 (1 + (wrap64 (a1))))] 26 (0, 0)) (q1466_ BK271.out) hb)
     have n3_ := Aside0.mk (blk_below (g := gb272) (o := .cells #[.int .i64 t262, .string t263, .slice Ao61 t264.length co61, .slice Ao62 t267.length co62, .int .i64 0] 26 (0, 0)) (q1466_ BK272.out) hb)
     have n4_ := Aside0.mk (below_step (q8f57_ HB.out GE271.out GE272.out) hb)
     clear HO266
     clear HO269
     clear BK271
     clear BK272
     clear HB
     have HO266 := n0_
     have HO269 := n1_
     have BK271 := n2_
     have BK272 := n3_
     have HB := n4_
     clear n0_ n1_ n2_ n3_ n4_
     (try clear hb)
     (try clear hb2)
     (try clear hk)
     (try clear hi)
     refine hK.out _ _ ⟨(blk_cell BK271.out 0).trans rfl, (blk_cell BK271.out 1).trans rfl, (blk_cell BK271.out 2).trans rfl, (blk_cell BK271.out 3).trans rfl, (blk_cell BK271.out 4).trans rfl, (blk_cell BK272.out 0).trans rfl, (blk_cell BK272.out 1).trans rfl, (blk_cell BK272.out 2).trans rfl, (blk_cell BK272.out 3).trans rfl, (blk_cell BK272.out 4).trans rfl⟩ (fun hHeld => ?_)
     clear hK K
     refine nA_ 31 ?_
     refine pA_ 15 32 (ml_ 39 65535) rfl rfl HT_.out ?_
     refine pA_ 16 33 (ml_ 39 131071) rfl rfl HT_.out ?_
     refine t10_ 17 34 (ml_ 39 262143) rfl rfl HT_.out HW_.out hHeld ?_
     refine one_ (i := 18) (N := some 35) (ml_ 39 524287) rfl rfl (one_of HT_.out (by kernel_rfl)) (by decide) (fun K hK => ?_)
     refine goes_ Try.func9 (by kernel_rfl) rfl #[.agg #[.int .i64 t262, .string t263, .slice Ao61 t264.length co61, .slice Ao62 t267.length co62, .int .i64 (wrap64 (1 + (wrap64 (a1))))]] (by rfl) rfl rfl qM_ ?_
     with_reducible refine (item_May.calls t262 t263 _ _ t264 _ _ t267 (wrap64 (1 + (wrap64 (a1)))) true _ ?side1 ?side2 ?side3 ?side4 A9.out).mono ?_
     (case side1 => exact qC_ ((Kd.R_reads' HO266.out).2.2))
     (case side2 => exact (Kd.R_reads' HO266.out).2.1)
     (case side3 => exact qC_ ((Kd.R_reads' HO269.out).2.2))
     (case side4 => exact (Kd.R_reads' HO269.out).2.1)
     rintro e w74 ⟨rfl, hb⟩
     refine ⟨_, rfl, ?_⟩
     have n0_ := Aside0.mk (Kd.R_below (q8524_ HO266.out) hb)
     have n1_ := Aside0.mk (Kd.R_below (q8524_ HO269.out) hb)
     have n2_ := Aside0.mk (blk_below (g := gb271) (o := .cells #[.int .i64 t262, .string t263, .slice Ao61 t264.length co61, .slice Ao62 t267.length co62, .int .i64 (wrap64 (1 + (wrap64 (a1))))] 26 (0, 0)) (q1466_ BK271.out) hb)
     have n3_ := Aside0.mk (blk_below (g := gb272) (o := .cells #[.int .i64 t262, .string t263, .slice Ao61 t264.length co61, .slice Ao62 t267.length co62, .int .i64 0] 26 (0, 0)) (q1466_ BK272.out) hb)
     have n4_ := Aside0.mk (below_step (q8f57_ HB.out GE271.out GE272.out) hb)
     clear HO266
     clear HO269
     clear BK271
     clear BK272
     clear HB
     have HO266 := n0_
     have HO269 := n1_
     have BK271 := n2_
     have BK272 := n3_
     have HB := n4_
     clear n0_ n1_ n2_ n3_ n4_
     (try clear hb)
     (try clear hb2)
     (try clear hk)
     (try clear hi)
     refine hK.out _ _ ⟨(blk_cell BK271.out 0).trans rfl, (blk_cell BK271.out 1).trans rfl, (blk_cell BK271.out 2).trans rfl, (blk_cell BK271.out 3).trans rfl, (blk_cell BK271.out 4).trans rfl, (blk_cell BK272.out 0).trans rfl, (blk_cell BK272.out 1).trans rfl, (blk_cell BK272.out 2).trans rfl, (blk_cell BK272.out 3).trans rfl, (blk_cell BK272.out 4).trans rfl⟩ (fun hHeld => ?_)
     clear hK K
     refine nA_ 35 ?_
     refine pA_ 19 36 (ml_ 39 1048575) rfl rfl HT_.out ?_
     refine pA_ 20 37 (ml_ 39 2097151) rfl rfl HT_.out ?_
     refine t10_ 21 38 (ml_ 39 4194303) rfl rfl HT_.out HW_.out hHeld ?_
     refine t10_ 22 39 (ml_ 39 8388607) rfl rfl HT_.out HW_.out hHeld ?_
     refine t10_ 24 41 (ml_ 39 25165823) rfl rfl HT_.out HW_.out hHeld ?_
     refine t10_ 25 42 (ml_ 39 58720255) rfl rfl HT_.out HW_.out hHeld ?_
     refine one_ (i := 23) (N := some 40) (ml_ 39 67108863) rfl rfl (one_of HT_.out (by kernel_rfl)) (by decide) (fun K hK => ?_)
     refine goes_ Try.func17 (by kernel_rfl) rfl #[.agg #[.int .i64 t262, .string t263, .slice Ao61 t264.length co61, .slice Ao62 t267.length co62, .int .i64 (wrap64 (1 + (wrap64 (a1))))], .agg #[.int .i64 t262, .string t263, .slice Ao61 t264.length co61, .slice Ao62 t267.length co62, .int .i64 0]] (by rfl) rfl rfl qM_ ?_
     with_reducible refine (item_Same.calls k t262 t263 _ _ t264 _ _ t267 (wrap64 (1 + (wrap64 (a1)))) t262 t263 _ _ t264 _ _ t267 0 t276 _ ?side1 ?side2 ?side3 ?side4 ?side5 ?side6 ?side7 ?side8 A11.out).mono ?_
     (case side1 => exact qC_ ((Kd.R_reads' HO266.out).2.2))
     (case side2 => exact (Kd.R_reads' HO266.out).2.1)
     (case side3 => exact qC_ ((Kd.R_reads' HO269.out).2.2))
     (case side4 => exact (Kd.R_reads' HO269.out).2.1)
     (case side5 => exact qC_ ((Kd.R_reads' HO266.out).2.2))
     (case side6 => exact (Kd.R_reads' HO266.out).2.1)
     (case side7 => exact qC_ ((Kd.R_reads' HO269.out).2.2))
     (case side8 => exact (Kd.R_reads' HO269.out).2.1)
     rintro e w75 ⟨rfl, hb⟩
     refine ⟨_, rfl, ?_⟩
     have n0_ := Aside0.mk (Kd.R_below (q8524_ HO266.out) hb)
     have n1_ := Aside0.mk (Kd.R_below (q8524_ HO269.out) hb)
     have n2_ := Aside0.mk (blk_below (g := gb271) (o := .cells #[.int .i64 t262, .string t263, .slice Ao61 t264.length co61, .slice Ao62 t267.length co62, .int .i64 (wrap64 (1 + (wrap64 (a1))))] 26 (0, 0)) (q1466_ BK271.out) hb)
     have n3_ := Aside0.mk (blk_below (g := gb272) (o := .cells #[.int .i64 t262, .string t263, .slice Ao61 t264.length co61, .slice Ao62 t267.length co62, .int .i64 0] 26 (0, 0)) (q1466_ BK272.out) hb)
     have n4_ := Aside0.mk (below_step (q8f57_ HB.out GE271.out GE272.out) hb)
     clear HO266
     clear HO269
     clear BK271
     clear BK272
     clear HB
     have HO266 := n0_
     have HO269 := n1_
     have BK271 := n2_
     have BK272 := n3_
     have HB := n4_
     clear n0_ n1_ n2_ n3_ n4_
     (try clear hb)
     (try clear hb2)
     (try clear hk)
     (try clear hi)
     refine hK.out _ _ ⟨(blk_cell BK271.out 0).trans rfl, (blk_cell BK271.out 1).trans rfl, (blk_cell BK271.out 2).trans rfl, (blk_cell BK271.out 3).trans rfl, (blk_cell BK271.out 4).trans rfl, (blk_cell BK272.out 0).trans rfl, (blk_cell BK272.out 1).trans rfl, (blk_cell BK272.out 2).trans rfl, (blk_cell BK272.out 3).trans rfl, (blk_cell BK272.out 4).trans rfl⟩ (fun hHeld => ?_)
     clear hK K
     refine nA_ 40 ?_
     refine one_ (i := 26) (N := some 43) (ml_ 39 134217727) rfl rfl (one_of HT_.out (by kernel_rfl)) (by decide) (fun K hK => ?_)
     refine goes_ Try.func18 (by kernel_rfl) rfl #[.agg #[.int .i64 t262, .string t263, .slice Ao61 t264.length co61, .slice Ao62 t267.length co62, .int .i64 (wrap64 (1 + (wrap64 (a1))))], .agg #[.int .i64 t262, .string t263, .slice Ao61 t264.length co61, .slice Ao62 t267.length co62, .int .i64 0]] (by rfl) rfl rfl qM_ ?_
     with_reducible refine (caravanref5_SameItem.calls k t262 t263 _ _ t264 _ _ t267 (wrap64 (1 + (wrap64 (a1)))) t262 t263 _ _ t264 _ _ t267 0 t277 _ ?side1 ?side2 ?side3 ?side4 ?side5 ?side6 ?side7 ?side8 A12.out).mono ?_
     (case side1 => exact qC_ ((Kd.R_reads' HO266.out).2.2))
     (case side2 => exact (Kd.R_reads' HO266.out).2.1)
     (case side3 => exact qC_ ((Kd.R_reads' HO269.out).2.2))
     (case side4 => exact (Kd.R_reads' HO269.out).2.1)
     (case side5 => exact qC_ ((Kd.R_reads' HO266.out).2.2))
     (case side6 => exact (Kd.R_reads' HO266.out).2.1)
     (case side7 => exact qC_ ((Kd.R_reads' HO269.out).2.2))
     (case side8 => exact (Kd.R_reads' HO269.out).2.1)
     rintro e w76 ⟨rfl, hb⟩
     refine ⟨_, rfl, ?_⟩
     have n0_ := Aside0.mk (Kd.R_below (q8524_ HO266.out) hb)
     have n1_ := Aside0.mk (Kd.R_below (q8524_ HO269.out) hb)
     have n2_ := Aside0.mk (blk_below (g := gb271) (o := .cells #[.int .i64 t262, .string t263, .slice Ao61 t264.length co61, .slice Ao62 t267.length co62, .int .i64 (wrap64 (1 + (wrap64 (a1))))] 26 (0, 0)) (q1466_ BK271.out) hb)
     have n3_ := Aside0.mk (blk_below (g := gb272) (o := .cells #[.int .i64 t262, .string t263, .slice Ao61 t264.length co61, .slice Ao62 t267.length co62, .int .i64 0] 26 (0, 0)) (q1466_ BK272.out) hb)
     have n4_ := Aside0.mk (below_step (q8f57_ HB.out GE271.out GE272.out) hb)
     clear HO266
     clear HO269
     clear BK271
     clear BK272
     clear HB
     have HO266 := n0_
     have HO269 := n1_
     have BK271 := n2_
     have BK272 := n3_
     have HB := n4_
     clear n0_ n1_ n2_ n3_ n4_
     (try clear hb)
     (try clear hb2)
     (try clear hk)
     (try clear hi)
     refine hK.out _ _ ⟨(blk_cell BK271.out 0).trans rfl, (blk_cell BK271.out 1).trans rfl, (blk_cell BK271.out 2).trans rfl, (blk_cell BK271.out 3).trans rfl, (blk_cell BK271.out 4).trans rfl, (blk_cell BK272.out 0).trans rfl, (blk_cell BK272.out 1).trans rfl, (blk_cell BK272.out 2).trans rfl, (blk_cell BK272.out 3).trans rfl, (blk_cell BK272.out 4).trans rfl⟩ (fun hHeld => ?_)
     clear hK K
     refine nA_ 43 ?_
     refine pA_ 27 44 (ml_ 39 268435455) rfl rfl HT_.out ?_
     refine pA_ 28 45 (ml_ 39 536870911) rfl rfl HT_.out ?_
     refine pA_ 29 46 (ml_ 39 1073741823) rfl rfl HT_.out ?_
     refine pU_ 30 47 (ml_ 39 2147483647) rfl rfl HT_.out ?_
     refine pU_ 31 48 (ml_ 39 4294967295) rfl rfl HT_.out ?_
     refine pU_ 32 49 (ml_ 39 8589934591) rfl rfl HT_.out ?_
     refine pU_ 33 50 (ml_ 39 17179869183) rfl rfl HT_.out ?_
     refine pA_ 34 51 (ml_ 39 34359738367) rfl rfl HT_.out ?_
     refine pA_ 35 52 (ml_ 39 68719476735) rfl rfl HT_.out ?_
     refine pU_ 36 53 (ml_ 39 137438953471) rfl rfl HT_.out ?_
     refine pA_ 37 54 (ml_ 39 274877906943) rfl rfl HT_.out ?_
     refine pA_ 38 6 (ml_ 39 549755813887) rfl rfl HT_.out ?_
     refine done_ (done_of HT_.out (by kernel_rfl)) ?_
     try go_wp2
     go_ret
     exact ⟨by first | rfl | (simp [errW_none, errW_some] <;> rfl) | (simp [*, errW_none, errW_some] <;> rfl), (q8f57_ HB.out GE271.out GE272.out)⟩
   ·replace c10 := Bool.eq_false_iff.mpr c10
    subst c10
    have H1 : (some false) = some r := by rw [if_neg (show ¬ (false = true) by decide)] at H; exact H
    clear H
    have H := H1
    clear H1
    obtain rfl := Option.some.inj H
    go_enter Try.func7, Try.ntmps7
    try go_wp2_with (first | ((with_reducible refine gate_callee (f := 20) rfl ?_); refine goesL_ (some 10) rfl rfl Try.func20 (by kernel_rfl) rfl #[.slice A0 l0.length c0, .int .u8 1] rfl qM_ ?_; (with_reducible refine (caravanlaw5_Make.calls k _ _ l0 1 t262 t263 t264 t267 t270 _ ?side1 ?side2 A4.out).mono ?_); (case side1 => exact qC_ (HR0.out)); (case side2 => exact HC0.out); rintro e w77 ⟨v265, v268, rfl, ho0, ho1, hb⟩; refine ⟨_, rfl, ?_⟩; have n0_ := Aside0.mk (Kd.R_lower ho0 (below_size (qdb35_ HB.out))); have n1_ := Aside0.mk (Kd.R_lower ho1 (below_size (qdb35_ HB.out))); have n2_ := Aside0.mk (below_step (qdb35_ HB.out) hb); clear HB; have HO266 := n0_; have HO269 := n1_; have HB := n2_; clear n0_ n1_ n2_; (try clear hb); (try clear hb2); (try clear hk); (try clear hi); (try clear ho0); (try clear ho1)) | ((with_reducible refine gate_dst (N := 7) rfl ?_); refine box_event ?hg (N := 7) ?hd (cs := #[.int .i64 0, .string (⟨#[]⟩ : ByteArray), .slice none 0 0, .slice none 0 0, .int .i64 0]) (t := 26) ?hr ?_; (case hd => rfl); (case hg => rfl); (case hr => first | (go_simp; done) | (go_simp; rfl)); intro gb271 hg w78 hbox hb; have n0_ := Aside0.mk (Kd.R_below (q8524_ HO266.out) hb); have n1_ := Aside0.mk (Kd.R_below (q8524_ HO269.out) hb); have n2_ := Aside0.mk (below_step (qdb35_ HB.out) hb); have n3_ := Aside0.mk (hbox); have n4_ := Aside0.mk ((by rw [hg]; exact (below_size (qdb35_ HB.out)) : w.heap.size ≤ gb271)); have n5_ := Aside0.mk ((by rw [hg]; exact (below_size (qdb35_ HB.out)) : w.heap.size ≤ gb271)); clear HO266; clear HO269; clear HB; have HO266 := n0_; have HO269 := n1_; have HB := n2_; have BK271 := n3_; have GW271 := n4_; have GE271 := n5_; clear n0_ n1_ n2_ n3_ n4_ n5_; clear hb hbox hg; have hcz79_0 : w78.cell? ⟨gb271, 0, none⟩ = some (.int .i64 0) := (blk_cell BK271.out 0).trans rfl; have hcz79_1 : w78.cell? ⟨gb271, 1, none⟩ = some (.string (⟨#[]⟩ : ByteArray)) := (blk_cell BK271.out 1).trans rfl; have hcz79_2 : w78.cell? ⟨gb271, 2, none⟩ = some (.slice none 0 0) := (blk_cell BK271.out 2).trans rfl; have hcz79_3 : w78.cell? ⟨gb271, 3, none⟩ = some (.slice none 0 0) := (blk_cell BK271.out 3).trans rfl; have hcz79_4 : w78.cell? ⟨gb271, 4, none⟩ = some (.int .i64 0) := (blk_cell BK271.out 4).trans rfl; have hfz79_0 := blk_frozen BK271.out 0; have hfz79_1 := blk_frozen BK271.out 1; have hfz79_2 := blk_frozen BK271.out 2; have hfz79_3 := blk_frozen BK271.out 3; have hfz79_4 := blk_frozen BK271.out 4; obtain ⟨Ao80, co80, eo80⟩ := Kd.R_slice HO266.out; subst eo80; obtain ⟨Ao81, co81, eo81⟩ := Kd.R_slice HO269.out; subst eo81) | ((with_reducible refine gate_store (t := 26) (p := 7) rfl ?_); refine store_event (t := 26) (p := 7) (v := ?vo_w82) (w1 := (((((w78.setCell ⟨gb271, 0, none⟩ (.int .i64 t262)).setCell ⟨gb271, 1, none⟩ (.string t263)).setCell ⟨gb271, 2, none⟩ (.slice Ao80 t264.length co80)).setCell ⟨gb271, 3, none⟩ (.slice Ao81 t267.length co81)).setCell ⟨gb271, 4, none⟩ (.int .i64 t270))) ?hg ?ho ?hn ?hr ?_; (case ho => rfl); (case hg => rfl); (case hn => rfl); (case hr => first | (go_simp; done) | (go_simp; rfl)); intro w82 hw; have n0_ : Aside0 (Kd.R k29 29 w82 w.heap.size (fun _ => True) (.slice Ao80 t264.length co80) t264) := ⟨(by rw [hw]; exact (by (with_reducible repeat (first | apply Kd.R_alloc | apply Kd.R_drewN | apply Kd.R_drew)); exact Kd.R_mono (Kd.R_far (p := ⟨gb271, 4, none⟩) (Kd.R_far (p := ⟨gb271, 3, none⟩) (Kd.R_far (p := ⟨gb271, 2, none⟩) (Kd.R_far (p := ⟨gb271, 1, none⟩) (Kd.R_far (p := ⟨gb271, 0, none⟩) (Kd.R_types HO266.out BK271.out (by decide)) (fun _ hk => hk.2) (.int .i64 t262)) (fun _ hk => hk.2) (.string t263)) (fun _ hk => hk.2) (.slice Ao80 t264.length co80)) (fun _ hk => hk.2) (.slice Ao81 t267.length co81)) (fun _ hk => hk.2) (.int .i64 t270)) (fun _ hk => trivial)))⟩; have n1_ : Aside0 (Kd.R Kd.string 9 w82 w.heap.size (fun _ => True) (.slice Ao81 t267.length co81) t267) := ⟨(by rw [hw]; exact (by (with_reducible repeat (first | apply Kd.R_alloc | apply Kd.R_drewN | apply Kd.R_drew)); exact Kd.R_mono (Kd.R_far (p := ⟨gb271, 4, none⟩) (Kd.R_far (p := ⟨gb271, 3, none⟩) (Kd.R_far (p := ⟨gb271, 2, none⟩) (Kd.R_far (p := ⟨gb271, 1, none⟩) (Kd.R_far (p := ⟨gb271, 0, none⟩) (Kd.R_types HO269.out BK271.out (by decide)) (fun _ hk => hk.2) (.int .i64 t262)) (fun _ hk => hk.2) (.string t263)) (fun _ hk => hk.2) (.slice Ao80 t264.length co80)) (fun _ hk => hk.2) (.slice Ao81 t267.length co81)) (fun _ hk => hk.2) (.int .i64 t270)) (fun _ hk => trivial)))⟩; have n2_ : Aside0 (w82.heap[gb271]? = some (.cells #[.int .i64 t262, .string t263, .slice Ao80 t264.length co80, .slice Ao81 t267.length co81, .int .i64 t270] 26 (0, 0))) := ⟨(by rw [hw]; exact (by (with_reducible repeat (first | refine blk_drewN ?_ _ | refine blk_drew ?_ | refine blk_alloc ?_ _)); refine blk_put (cs := #[.int .i64 t262, .string t263, .slice Ao80 t264.length co80, .slice Ao81 t267.length co81, .int .i64 0]) ?_ 4 _ rfl; (with_reducible repeat (first | refine blk_drewN ?_ _ | refine blk_drew ?_ | refine blk_alloc ?_ _)); refine blk_put (cs := #[.int .i64 t262, .string t263, .slice Ao80 t264.length co80, .slice none 0 0, .int .i64 0]) ?_ 3 _ rfl; (with_reducible repeat (first | refine blk_drewN ?_ _ | refine blk_drew ?_ | refine blk_alloc ?_ _)); refine blk_put (cs := #[.int .i64 t262, .string t263, .slice none 0 0, .slice none 0 0, .int .i64 0]) ?_ 2 _ rfl; (with_reducible repeat (first | refine blk_drewN ?_ _ | refine blk_drew ?_ | refine blk_alloc ?_ _)); refine blk_put (cs := #[.int .i64 t262, .string (⟨#[]⟩ : ByteArray), .slice none 0 0, .slice none 0 0, .int .i64 0]) ?_ 1 _ rfl; (with_reducible repeat (first | refine blk_drewN ?_ _ | refine blk_drew ?_ | refine blk_alloc ?_ _)); refine blk_put (cs := #[.int .i64 0, .string (⟨#[]⟩ : ByteArray), .slice none 0 0, .slice none 0 0, .int .i64 0]) ?_ 0 _ rfl; (with_reducible repeat (first | refine blk_drewN ?_ _ | refine blk_drew ?_ | refine blk_alloc ?_ _)); exact BK271.out))⟩; have n3_ : Aside0 (Below w.heap.size w w82) := ⟨(q5b6b_ HB.out GE271.out)⟩; clear hw; clear HO266; clear HO269; clear BK271; clear HB; have HO266 := n0_; have HO269 := n1_; have BK271 := n2_; have HB := n3_; clear n0_ n1_ n2_ n3_; have hcz83_0 : w82.cell? ⟨gb271, 0, none⟩ = some (.int .i64 t262) := (blk_cell BK271.out 0).trans rfl; have hcz83_1 : w82.cell? ⟨gb271, 1, none⟩ = some (.string t263) := (blk_cell BK271.out 1).trans rfl; have hcz83_2 : w82.cell? ⟨gb271, 2, none⟩ = some (.slice Ao80 t264.length co80) := (blk_cell BK271.out 2).trans rfl; have hcz83_3 : w82.cell? ⟨gb271, 3, none⟩ = some (.slice Ao81 t267.length co81) := (blk_cell BK271.out 3).trans rfl; have hcz83_4 : w82.cell? ⟨gb271, 4, none⟩ = some (.int .i64 t270) := (blk_cell BK271.out 4).trans rfl; have hfz83_0 := blk_frozen BK271.out 0; have hfz83_1 := blk_frozen BK271.out 1; have hfz83_2 := blk_frozen BK271.out 2; have hfz83_3 := blk_frozen BK271.out 3; have hfz83_4 := blk_frozen BK271.out 4) | ((with_reducible refine gate_store (t := 3) (p := 14) rfl ?_); refine store_event (t := 3) (p := 14) (v := ?vo_w84) (w1 := (w82.setCell ⟨gb271, 4, none⟩ (.int .i64 (wrap64 (1 + (wrap64 (a1))))))) ?hg ?ho ?hn ?hr ?_; (case ho => rfl); (case hg => rfl); (case hn => rfl); (case hr => first | (go_simp; done) | (go_simp; rfl)); intro w84 hw; have n0_ : Aside0 (Kd.R k29 29 w84 w.heap.size (fun _ => True) (.slice Ao80 t264.length co80) t264) := ⟨(by rw [hw]; exact (by (with_reducible repeat (first | apply Kd.R_alloc | apply Kd.R_drewN | apply Kd.R_drew)); exact Kd.R_mono (Kd.R_far (p := ⟨gb271, 4, none⟩) (Kd.R_types HO266.out BK271.out (by decide)) (fun _ hk => hk.2) (.int .i64 (wrap64 (1 + (wrap64 (a1)))))) (fun _ hk => trivial)))⟩; have n1_ : Aside0 (Kd.R Kd.string 9 w84 w.heap.size (fun _ => True) (.slice Ao81 t267.length co81) t267) := ⟨(by rw [hw]; exact (by (with_reducible repeat (first | apply Kd.R_alloc | apply Kd.R_drewN | apply Kd.R_drew)); exact Kd.R_mono (Kd.R_far (p := ⟨gb271, 4, none⟩) (Kd.R_types HO269.out BK271.out (by decide)) (fun _ hk => hk.2) (.int .i64 (wrap64 (1 + (wrap64 (a1)))))) (fun _ hk => trivial)))⟩; have n2_ : Aside0 (w84.heap[gb271]? = some (.cells #[.int .i64 t262, .string t263, .slice Ao80 t264.length co80, .slice Ao81 t267.length co81, .int .i64 (wrap64 (1 + (wrap64 (a1))))] 26 (0, 0))) := ⟨(by rw [hw]; exact (by (with_reducible repeat (first | refine blk_drewN ?_ _ | refine blk_drew ?_ | refine blk_alloc ?_ _)); refine blk_put (cs := #[.int .i64 t262, .string t263, .slice Ao80 t264.length co80, .slice Ao81 t267.length co81, .int .i64 t270]) ?_ 4 _ rfl; (with_reducible repeat (first | refine blk_drewN ?_ _ | refine blk_drew ?_ | refine blk_alloc ?_ _)); exact BK271.out))⟩; have n3_ : Aside0 (Below w.heap.size w w84) := ⟨(q5b6b_ HB.out GE271.out)⟩; clear hw; clear HO266; clear HO269; clear BK271; clear HB; have HO266 := n0_; have HO269 := n1_; have BK271 := n2_; have HB := n3_; clear n0_ n1_ n2_ n3_; have hcz85_0 : w84.cell? ⟨gb271, 0, none⟩ = some (.int .i64 t262) := (blk_cell BK271.out 0).trans rfl; have hcz85_1 : w84.cell? ⟨gb271, 1, none⟩ = some (.string t263) := (blk_cell BK271.out 1).trans rfl; have hcz85_2 : w84.cell? ⟨gb271, 2, none⟩ = some (.slice Ao80 t264.length co80) := (blk_cell BK271.out 2).trans rfl; have hcz85_3 : w84.cell? ⟨gb271, 3, none⟩ = some (.slice Ao81 t267.length co81) := (blk_cell BK271.out 3).trans rfl; have hcz85_4 : w84.cell? ⟨gb271, 4, none⟩ = some (.int .i64 (wrap64 (1 + (wrap64 (a1))))) := (blk_cell BK271.out 4).trans rfl; have hfz85_0 := blk_frozen BK271.out 0; have hfz85_1 := blk_frozen BK271.out 1; have hfz85_2 := blk_frozen BK271.out 2; have hfz85_3 := blk_frozen BK271.out 3; have hfz85_4 := blk_frozen BK271.out 4) | ((with_reducible refine gate_dst (N := 8) rfl ?_); refine box_event ?hg (N := 8) ?hd (cs := #[.int .i64 0, .string (⟨#[]⟩ : ByteArray), .slice none 0 0, .slice none 0 0, .int .i64 0]) (t := 26) ?hr ?_; (case hd => rfl); (case hg => rfl); (case hr => first | (go_simp; done) | (go_simp; rfl)); intro gb272 hg w86 hbox hb; have n0_ := Aside0.mk (Kd.R_below (q8524_ HO266.out) hb); have n1_ := Aside0.mk (Kd.R_below (q8524_ HO269.out) hb); have n2_ := Aside0.mk (blk_below (g := gb271) (o := .cells #[.int .i64 t262, .string t263, .slice Ao80 t264.length co80, .slice Ao81 t267.length co81, .int .i64 (wrap64 (1 + (wrap64 (a1))))] 26 (0, 0)) (q1466_ BK271.out) hb); have n3_ := Aside0.mk (below_step (qed14_ HB.out GE271.out) hb); have n4_ := Aside0.mk (hbox); have n5_ := Aside0.mk ((by rw [hg]; exact (below_size (qed14_ HB.out GE271.out)) : w.heap.size ≤ gb272)); have n6_ := Aside0.mk ((by rw [hg]; exact (below_size (qed14_ HB.out GE271.out)) : w.heap.size ≤ gb272)); have n7_ := Aside0.mk ((by rw [hg]; exact Nat.ne_of_lt (blk_lt (g := gb271) (o := .cells #[.int .i64 t262, .string t263, .slice Ao80 t264.length co80, .slice Ao81 t267.length co81, .int .i64 (wrap64 (1 + (wrap64 (a1))))] 26 (0, 0)) (q1466_ BK271.out)) : gb271 ≠ gb272)); have n8_ := Aside0.mk ((by rw [hg]; exact Nat.ne_of_gt (blk_lt (g := gb271) (o := .cells #[.int .i64 t262, .string t263, .slice Ao80 t264.length co80, .slice Ao81 t267.length co81, .int .i64 (wrap64 (1 + (wrap64 (a1))))] 26 (0, 0)) (q1466_ BK271.out)) : gb272 ≠ gb271)); clear HO266; clear HO269; clear BK271; clear HB; have HO266 := n0_; have HO269 := n1_; have BK271 := n2_; have HB := n3_; have BK272 := n4_; have GW272 := n5_; have GE272 := n6_; have NB271_272 := n7_; have NB272_271 := n8_; clear n0_ n1_ n2_ n3_ n4_ n5_ n6_ n7_ n8_; clear hb hbox hg; have hnb87 := NB272_271.out; have hnc87 := NB271_272.out; have hcz88_0 : w86.cell? ⟨gb272, 0, none⟩ = some (.int .i64 0) := (blk_cell BK272.out 0).trans rfl; have hcz88_1 : w86.cell? ⟨gb272, 1, none⟩ = some (.string (⟨#[]⟩ : ByteArray)) := (blk_cell BK272.out 1).trans rfl; have hcz88_2 : w86.cell? ⟨gb272, 2, none⟩ = some (.slice none 0 0) := (blk_cell BK272.out 2).trans rfl; have hcz88_3 : w86.cell? ⟨gb272, 3, none⟩ = some (.slice none 0 0) := (blk_cell BK272.out 3).trans rfl; have hcz88_4 : w86.cell? ⟨gb272, 4, none⟩ = some (.int .i64 0) := (blk_cell BK272.out 4).trans rfl; have hfz88_0 := blk_frozen BK272.out 0; have hfz88_1 := blk_frozen BK272.out 1; have hfz88_2 := blk_frozen BK272.out 2; have hfz88_3 := blk_frozen BK272.out 3; have hfz88_4 := blk_frozen BK272.out 4))
    have n0_ : Aside0 (Kd.R k29 29 ((((((w86.setCell ⟨gb272, 0, none⟩ (.int .i64 t262)).setCell ⟨gb272, 1, none⟩ (.string t263)).setCell ⟨gb272, 2, none⟩ (.slice Ao80 t264.length co80)).setCell ⟨gb272, 3, none⟩ (.slice Ao81 t267.length co81)).setCell ⟨gb272, 4, none⟩ (.int .i64 (wrap64 (1 + (wrap64 (a1)))))).setCell ⟨gb272, 4, none⟩ (.int .i64 0)) w.heap.size (fun _ => True) (.slice Ao80 t264.length co80) t264) := ⟨by (with_reducible repeat (first | apply Kd.R_alloc | apply Kd.R_drewN | apply Kd.R_drew)); exact Kd.R_mono (Kd.R_far (p := ⟨gb272, 4, none⟩) (Kd.R_far (p := ⟨gb272, 4, none⟩) (Kd.R_far (p := ⟨gb272, 3, none⟩) (Kd.R_far (p := ⟨gb272, 2, none⟩) (Kd.R_far (p := ⟨gb272, 1, none⟩) (Kd.R_far (p := ⟨gb272, 0, none⟩) (Kd.R_types HO266.out BK272.out (by decide)) (fun _ hk => hk.2) (.int .i64 t262)) (fun _ hk => hk.2) (.string t263)) (fun _ hk => hk.2) (.slice Ao80 t264.length co80)) (fun _ hk => hk.2) (.slice Ao81 t267.length co81)) (fun _ hk => hk.2) (.int .i64 (wrap64 (1 + (wrap64 (a1)))))) (fun _ hk => hk.2) (.int .i64 0)) (fun _ hk => trivial)⟩
    have n1_ : Aside0 (Kd.R Kd.string 9 ((((((w86.setCell ⟨gb272, 0, none⟩ (.int .i64 t262)).setCell ⟨gb272, 1, none⟩ (.string t263)).setCell ⟨gb272, 2, none⟩ (.slice Ao80 t264.length co80)).setCell ⟨gb272, 3, none⟩ (.slice Ao81 t267.length co81)).setCell ⟨gb272, 4, none⟩ (.int .i64 (wrap64 (1 + (wrap64 (a1)))))).setCell ⟨gb272, 4, none⟩ (.int .i64 0)) w.heap.size (fun _ => True) (.slice Ao81 t267.length co81) t267) := ⟨by (with_reducible repeat (first | apply Kd.R_alloc | apply Kd.R_drewN | apply Kd.R_drew)); exact Kd.R_mono (Kd.R_far (p := ⟨gb272, 4, none⟩) (Kd.R_far (p := ⟨gb272, 4, none⟩) (Kd.R_far (p := ⟨gb272, 3, none⟩) (Kd.R_far (p := ⟨gb272, 2, none⟩) (Kd.R_far (p := ⟨gb272, 1, none⟩) (Kd.R_far (p := ⟨gb272, 0, none⟩) (Kd.R_types HO269.out BK272.out (by decide)) (fun _ hk => hk.2) (.int .i64 t262)) (fun _ hk => hk.2) (.string t263)) (fun _ hk => hk.2) (.slice Ao80 t264.length co80)) (fun _ hk => hk.2) (.slice Ao81 t267.length co81)) (fun _ hk => hk.2) (.int .i64 (wrap64 (1 + (wrap64 (a1)))))) (fun _ hk => hk.2) (.int .i64 0)) (fun _ hk => trivial)⟩
    have n2_ : Aside0 (((((((w86.setCell ⟨gb272, 0, none⟩ (.int .i64 t262)).setCell ⟨gb272, 1, none⟩ (.string t263)).setCell ⟨gb272, 2, none⟩ (.slice Ao80 t264.length co80)).setCell ⟨gb272, 3, none⟩ (.slice Ao81 t267.length co81)).setCell ⟨gb272, 4, none⟩ (.int .i64 (wrap64 (1 + (wrap64 (a1)))))).setCell ⟨gb272, 4, none⟩ (.int .i64 0)).heap[gb271]? = some (.cells #[.int .i64 t262, .string t263, .slice Ao80 t264.length co80, .slice Ao81 t267.length co81, .int .i64 (wrap64 (1 + (wrap64 (a1))))] 26 (0, 0))) := ⟨by (with_reducible repeat (first | refine blk_drewN ?_ _ | refine blk_drew ?_ | refine blk_alloc ?_ _)); refine blk_far ?_ NB271_272.out _; (with_reducible repeat (first | refine blk_drewN ?_ _ | refine blk_drew ?_ | refine blk_alloc ?_ _)); refine blk_far ?_ NB271_272.out _; (with_reducible repeat (first | refine blk_drewN ?_ _ | refine blk_drew ?_ | refine blk_alloc ?_ _)); refine blk_far ?_ NB271_272.out _; (with_reducible repeat (first | refine blk_drewN ?_ _ | refine blk_drew ?_ | refine blk_alloc ?_ _)); refine blk_far ?_ NB271_272.out _; (with_reducible repeat (first | refine blk_drewN ?_ _ | refine blk_drew ?_ | refine blk_alloc ?_ _)); refine blk_far ?_ NB271_272.out _; (with_reducible repeat (first | refine blk_drewN ?_ _ | refine blk_drew ?_ | refine blk_alloc ?_ _)); refine blk_far ?_ NB271_272.out _; (with_reducible repeat (first | refine blk_drewN ?_ _ | refine blk_drew ?_ | refine blk_alloc ?_ _)); exact BK271.out⟩
    have n3_ : Aside0 (((((((w86.setCell ⟨gb272, 0, none⟩ (.int .i64 t262)).setCell ⟨gb272, 1, none⟩ (.string t263)).setCell ⟨gb272, 2, none⟩ (.slice Ao80 t264.length co80)).setCell ⟨gb272, 3, none⟩ (.slice Ao81 t267.length co81)).setCell ⟨gb272, 4, none⟩ (.int .i64 (wrap64 (1 + (wrap64 (a1)))))).setCell ⟨gb272, 4, none⟩ (.int .i64 0)).heap[gb272]? = some (.cells #[.int .i64 t262, .string t263, .slice Ao80 t264.length co80, .slice Ao81 t267.length co81, .int .i64 0] 26 (0, 0))) := ⟨by (with_reducible repeat (first | refine blk_drewN ?_ _ | refine blk_drew ?_ | refine blk_alloc ?_ _)); refine blk_put (cs := #[.int .i64 t262, .string t263, .slice Ao80 t264.length co80, .slice Ao81 t267.length co81, .int .i64 (wrap64 (1 + (wrap64 (a1))))]) ?_ 4 _ rfl; (with_reducible repeat (first | refine blk_drewN ?_ _ | refine blk_drew ?_ | refine blk_alloc ?_ _)); refine blk_put (cs := #[.int .i64 t262, .string t263, .slice Ao80 t264.length co80, .slice Ao81 t267.length co81, .int .i64 0]) ?_ 4 _ rfl; (with_reducible repeat (first | refine blk_drewN ?_ _ | refine blk_drew ?_ | refine blk_alloc ?_ _)); refine blk_put (cs := #[.int .i64 t262, .string t263, .slice Ao80 t264.length co80, .slice none 0 0, .int .i64 0]) ?_ 3 _ rfl; (with_reducible repeat (first | refine blk_drewN ?_ _ | refine blk_drew ?_ | refine blk_alloc ?_ _)); refine blk_put (cs := #[.int .i64 t262, .string t263, .slice none 0 0, .slice none 0 0, .int .i64 0]) ?_ 2 _ rfl; (with_reducible repeat (first | refine blk_drewN ?_ _ | refine blk_drew ?_ | refine blk_alloc ?_ _)); refine blk_put (cs := #[.int .i64 t262, .string (⟨#[]⟩ : ByteArray), .slice none 0 0, .slice none 0 0, .int .i64 0]) ?_ 1 _ rfl; (with_reducible repeat (first | refine blk_drewN ?_ _ | refine blk_drew ?_ | refine blk_alloc ?_ _)); refine blk_put (cs := #[.int .i64 0, .string (⟨#[]⟩ : ByteArray), .slice none 0 0, .slice none 0 0, .int .i64 0]) ?_ 0 _ rfl; (with_reducible repeat (first | refine blk_drewN ?_ _ | refine blk_drew ?_ | refine blk_alloc ?_ _)); exact BK272.out⟩
    have n4_ : Aside0 (Below w.heap.size w ((((((w86.setCell ⟨gb272, 0, none⟩ (.int .i64 t262)).setCell ⟨gb272, 1, none⟩ (.string t263)).setCell ⟨gb272, 2, none⟩ (.slice Ao80 t264.length co80)).setCell ⟨gb272, 3, none⟩ (.slice Ao81 t267.length co81)).setCell ⟨gb272, 4, none⟩ (.int .i64 (wrap64 (1 + (wrap64 (a1)))))).setCell ⟨gb272, 4, none⟩ (.int .i64 0))) := ⟨(q8f57_ HB.out GE271.out GE272.out)⟩
    (try clear HO266)
    (try clear HO269)
    (try clear BK271)
    (try clear BK272)
    (try clear HB)
    generalize ((((((w86.setCell ⟨gb272, 0, none⟩ (.int .i64 t262)).setCell ⟨gb272, 1, none⟩ (.string t263)).setCell ⟨gb272, 2, none⟩ (.slice Ao80 t264.length co80)).setCell ⟨gb272, 3, none⟩ (.slice Ao81 t267.length co81)).setCell ⟨gb272, 4, none⟩ (.int .i64 (wrap64 (1 + (wrap64 (a1)))))).setCell ⟨gb272, 4, none⟩ (.int .i64 0)) = w89 at n0_ n1_ n2_ n3_ n4_ ⊢
    have HO266 := n0_
    have HO269 := n1_
    have BK271 := n2_
    have BK272 := n3_
    have HB := n4_
    clear n0_ n1_ n2_ n3_ n4_
    have n0_ := Aside0.mk (Kd.R_drew HO266.out)
    have n1_ := Aside0.mk (Kd.R_drew HO269.out)
    have n2_ := Aside0.mk (blk_drew BK271.out)
    have n3_ := Aside0.mk (blk_drew BK272.out)
    have n4_ := Aside0.mk (below_drew1 HB.out)
    clear HO266
    clear HO269
    clear BK271
    clear BK272
    clear HB
    have HO266 := n0_
    have HO269 := n1_
    have BK271 := n2_
    have BK272 := n3_
    have HB := n4_
    clear n0_ n1_ n2_ n3_ n4_
    refine start_ (n := 39) (S := fun w' => w'.cell? ⟨gb271, 0, none⟩ = some (.int .i64 t262) ∧ w'.cell? ⟨gb271, 1, none⟩ = some (.string t263) ∧ w'.cell? ⟨gb271, 2, none⟩ = some (.slice Ao80 t264.length co80) ∧ w'.cell? ⟨gb271, 3, none⟩ = some (.slice Ao81 t267.length co81) ∧ w'.cell? ⟨gb271, 4, none⟩ = some (.int .i64 (wrap64 (1 + (wrap64 (a1))))) ∧ w'.cell? ⟨gb272, 0, none⟩ = some (.int .i64 t262) ∧ w'.cell? ⟨gb272, 1, none⟩ = some (.string t263) ∧ w'.cell? ⟨gb272, 2, none⟩ = some (.slice Ao80 t264.length co80) ∧ w'.cell? ⟨gb272, 3, none⟩ = some (.slice Ao81 t267.length co81) ∧ w'.cell? ⟨gb272, 4, none⟩ = some (.int .i64 0)) (ds := []) (ml_ 39 0) (by kernel_rfl) rfl rfl ⟨(blk_cell BK271.out 0).trans rfl, (blk_cell BK271.out 1).trans rfl, (blk_cell BK271.out 2).trans rfl, (blk_cell BK271.out 3).trans rfl, (blk_cell BK271.out 4).trans rfl, (blk_cell BK272.out 0).trans rfl, (blk_cell BK272.out 1).trans rfl, (blk_cell BK272.out 2).trans rfl, (blk_cell BK272.out 3).trans rfl, (blk_cell BK272.out 4).trans rfl⟩ (fun hHeld => ?_); refine with_tabW caravanlaw5_ItemTime.tab5 caravanlaw5_ItemTime.bits5 (fun HT_ HW_ => ?_)
    generalize w89.drew = w90 at HO266 HO269 BK271 BK272 HB hHeld ⊢
    refine pA_ 1 18 (ml_ 39 2) rfl rfl HT_.out ?_
    refine pA_ 2 19 (ml_ 39 6) rfl rfl HT_.out ?_
    refine pA_ 4 21 (ml_ 39 22) rfl rfl HT_.out ?_
    refine pA_ 5 22 (ml_ 39 54) rfl rfl HT_.out ?_
    refine pA_ 6 23 (ml_ 39 118) rfl rfl HT_.out ?_
    refine pA_ 7 24 (ml_ 39 246) rfl rfl HT_.out ?_
    refine pA_ 8 25 (ml_ 39 502) rfl rfl HT_.out ?_
    refine t10_ 0 17 (ml_ 39 503) rfl rfl HT_.out HW_.out hHeld ?_
    refine one_ (i := 3) (N := some 20) (ml_ 39 511) rfl rfl (one_of HT_.out (by kernel_rfl)) (by decide) (fun K hK => ?_)
    refine goes_ Try.func13 (by kernel_rfl) rfl #[.agg #[.int .i64 t262, .string t263, .slice Ao80 t264.length co80, .slice Ao81 t267.length co81, .int .i64 (wrap64 (1 + (wrap64 (a1))))], .int .i64 (wrap64 (a2))] (by rfl) rfl rfl qM_ ?_
    with_reducible refine (item_Alive.calls t262 t263 _ _ t264 _ _ t267 (wrap64 (1 + (wrap64 (a1)))) (wrap64 (a2)) t273 _ ?side1 ?side2 ?side3 ?side4 A5.out).mono ?_
    (case side1 => exact qC_ ((Kd.R_reads' HO266.out).2.2))
    (case side2 => exact (Kd.R_reads' HO266.out).2.1)
    (case side3 => exact qC_ ((Kd.R_reads' HO269.out).2.2))
    (case side4 => exact (Kd.R_reads' HO269.out).2.1)
    rintro e w91 ⟨rfl, hb⟩
    refine ⟨_, rfl, ?_⟩
    have n0_ := Aside0.mk (Kd.R_below (q8524_ HO266.out) hb)
    have n1_ := Aside0.mk (Kd.R_below (q8524_ HO269.out) hb)
    have n2_ := Aside0.mk (blk_below (g := gb271) (o := .cells #[.int .i64 t262, .string t263, .slice Ao80 t264.length co80, .slice Ao81 t267.length co81, .int .i64 (wrap64 (1 + (wrap64 (a1))))] 26 (0, 0)) (q1466_ BK271.out) hb)
    have n3_ := Aside0.mk (blk_below (g := gb272) (o := .cells #[.int .i64 t262, .string t263, .slice Ao80 t264.length co80, .slice Ao81 t267.length co81, .int .i64 0] 26 (0, 0)) (q1466_ BK272.out) hb)
    have n4_ := Aside0.mk (below_step (q8f57_ HB.out GE271.out GE272.out) hb)
    clear HO266
    clear HO269
    clear BK271
    clear BK272
    clear HB
    have HO266 := n0_
    have HO269 := n1_
    have BK271 := n2_
    have BK272 := n3_
    have HB := n4_
    clear n0_ n1_ n2_ n3_ n4_
    (try clear hb)
    (try clear hb2)
    (try clear hk)
    (try clear hi)
    refine hK.out _ _ ⟨(blk_cell BK271.out 0).trans rfl, (blk_cell BK271.out 1).trans rfl, (blk_cell BK271.out 2).trans rfl, (blk_cell BK271.out 3).trans rfl, (blk_cell BK271.out 4).trans rfl, (blk_cell BK272.out 0).trans rfl, (blk_cell BK272.out 1).trans rfl, (blk_cell BK272.out 2).trans rfl, (blk_cell BK272.out 3).trans rfl, (blk_cell BK272.out 4).trans rfl⟩ (fun hHeld => ?_)
    clear hK K
    refine nA_ 20 ?_
    refine pA_ 9 26 (ml_ 39 1023) rfl rfl HT_.out ?_
    refine pA_ 10 27 (ml_ 39 2047) rfl rfl HT_.out ?_
    refine pA_ 12 29 (ml_ 39 6143) rfl rfl HT_.out ?_
    refine pA_ 13 30 (ml_ 39 14335) rfl rfl HT_.out ?_
    refine t10_ 11 28 (ml_ 39 16383) rfl rfl HT_.out HW_.out hHeld ?_
    refine one_ (i := 14) (N := some 31) (ml_ 39 32767) rfl rfl (one_of HT_.out (by kernel_rfl)) (by decide) (fun K hK => ?_)
    refine goes_ Try.func13 (by kernel_rfl) rfl #[.agg #[.int .i64 t262, .string t263, .slice Ao80 t264.length co80, .slice Ao81 t267.length co81, .int .i64 0], .int .i64 (wrap64 (a2))] (by rfl) rfl rfl qM_ ?_
    with_reducible refine (item_Alive.calls t262 t263 _ _ t264 _ _ t267 0 (wrap64 (a2)) true _ ?side1 ?side2 ?side3 ?side4 A7.out).mono ?_
    (case side1 => exact qC_ ((Kd.R_reads' HO266.out).2.2))
    (case side2 => exact (Kd.R_reads' HO266.out).2.1)
    (case side3 => exact qC_ ((Kd.R_reads' HO269.out).2.2))
    (case side4 => exact (Kd.R_reads' HO269.out).2.1)
    rintro e w92 ⟨rfl, hb⟩
    refine ⟨_, rfl, ?_⟩
    have n0_ := Aside0.mk (Kd.R_below (q8524_ HO266.out) hb)
    have n1_ := Aside0.mk (Kd.R_below (q8524_ HO269.out) hb)
    have n2_ := Aside0.mk (blk_below (g := gb271) (o := .cells #[.int .i64 t262, .string t263, .slice Ao80 t264.length co80, .slice Ao81 t267.length co81, .int .i64 (wrap64 (1 + (wrap64 (a1))))] 26 (0, 0)) (q1466_ BK271.out) hb)
    have n3_ := Aside0.mk (blk_below (g := gb272) (o := .cells #[.int .i64 t262, .string t263, .slice Ao80 t264.length co80, .slice Ao81 t267.length co81, .int .i64 0] 26 (0, 0)) (q1466_ BK272.out) hb)
    have n4_ := Aside0.mk (below_step (q8f57_ HB.out GE271.out GE272.out) hb)
    clear HO266
    clear HO269
    clear BK271
    clear BK272
    clear HB
    have HO266 := n0_
    have HO269 := n1_
    have BK271 := n2_
    have BK272 := n3_
    have HB := n4_
    clear n0_ n1_ n2_ n3_ n4_
    (try clear hb)
    (try clear hb2)
    (try clear hk)
    (try clear hi)
    refine hK.out _ _ ⟨(blk_cell BK271.out 0).trans rfl, (blk_cell BK271.out 1).trans rfl, (blk_cell BK271.out 2).trans rfl, (blk_cell BK271.out 3).trans rfl, (blk_cell BK271.out 4).trans rfl, (blk_cell BK272.out 0).trans rfl, (blk_cell BK272.out 1).trans rfl, (blk_cell BK272.out 2).trans rfl, (blk_cell BK272.out 3).trans rfl, (blk_cell BK272.out 4).trans rfl⟩ (fun hHeld => ?_)
    clear hK K
    refine nA_ 31 ?_
    refine pA_ 15 32 (ml_ 39 65535) rfl rfl HT_.out ?_
    refine pA_ 16 33 (ml_ 39 131071) rfl rfl HT_.out ?_
    refine t10_ 17 34 (ml_ 39 262143) rfl rfl HT_.out HW_.out hHeld ?_
    refine one_ (i := 18) (N := some 35) (ml_ 39 524287) rfl rfl (one_of HT_.out (by kernel_rfl)) (by decide) (fun K hK => ?_)
    refine goes_ Try.func9 (by kernel_rfl) rfl #[.agg #[.int .i64 t262, .string t263, .slice Ao80 t264.length co80, .slice Ao81 t267.length co81, .int .i64 (wrap64 (1 + (wrap64 (a1))))]] (by rfl) rfl rfl qM_ ?_
    with_reducible refine (item_May.calls t262 t263 _ _ t264 _ _ t267 (wrap64 (1 + (wrap64 (a1)))) false _ ?side1 ?side2 ?side3 ?side4 A9.out).mono ?_
    (case side1 => exact qC_ ((Kd.R_reads' HO266.out).2.2))
    (case side2 => exact (Kd.R_reads' HO266.out).2.1)
    (case side3 => exact qC_ ((Kd.R_reads' HO269.out).2.2))
    (case side4 => exact (Kd.R_reads' HO269.out).2.1)
    rintro e w93 ⟨rfl, hb⟩
    refine ⟨_, rfl, ?_⟩
    have n0_ := Aside0.mk (Kd.R_below (q8524_ HO266.out) hb)
    have n1_ := Aside0.mk (Kd.R_below (q8524_ HO269.out) hb)
    have n2_ := Aside0.mk (blk_below (g := gb271) (o := .cells #[.int .i64 t262, .string t263, .slice Ao80 t264.length co80, .slice Ao81 t267.length co81, .int .i64 (wrap64 (1 + (wrap64 (a1))))] 26 (0, 0)) (q1466_ BK271.out) hb)
    have n3_ := Aside0.mk (blk_below (g := gb272) (o := .cells #[.int .i64 t262, .string t263, .slice Ao80 t264.length co80, .slice Ao81 t267.length co81, .int .i64 0] 26 (0, 0)) (q1466_ BK272.out) hb)
    have n4_ := Aside0.mk (below_step (q8f57_ HB.out GE271.out GE272.out) hb)
    clear HO266
    clear HO269
    clear BK271
    clear BK272
    clear HB
    have HO266 := n0_
    have HO269 := n1_
    have BK271 := n2_
    have BK272 := n3_
    have HB := n4_
    clear n0_ n1_ n2_ n3_ n4_
    (try clear hb)
    (try clear hb2)
    (try clear hk)
    (try clear hi)
    refine hK.out _ _ ⟨(blk_cell BK271.out 0).trans rfl, (blk_cell BK271.out 1).trans rfl, (blk_cell BK271.out 2).trans rfl, (blk_cell BK271.out 3).trans rfl, (blk_cell BK271.out 4).trans rfl, (blk_cell BK272.out 0).trans rfl, (blk_cell BK272.out 1).trans rfl, (blk_cell BK272.out 2).trans rfl, (blk_cell BK272.out 3).trans rfl, (blk_cell BK272.out 4).trans rfl⟩ (fun hHeld => ?_)
    clear hK K
    refine nA_ 35 ?_
    refine pA_ 19 36 (ml_ 39 1048575) rfl rfl HT_.out ?_
    refine pA_ 20 37 (ml_ 39 2097151) rfl rfl HT_.out ?_
    refine pU_ 21 38 (ml_ 39 4194303) rfl rfl HT_.out ?_
    refine pU_ 22 39 (ml_ 39 8388607) rfl rfl HT_.out ?_
    refine pU_ 23 40 (ml_ 39 16777215) rfl rfl HT_.out ?_
    refine pU_ 24 41 (ml_ 39 33554431) rfl rfl HT_.out ?_
    refine pU_ 25 42 (ml_ 39 67108863) rfl rfl HT_.out ?_
    refine pU_ 26 43 (ml_ 39 134217727) rfl rfl HT_.out ?_
    refine pU_ 27 44 (ml_ 39 268435455) rfl rfl HT_.out ?_
    refine pA_ 28 45 (ml_ 39 536870911) rfl rfl HT_.out ?_
    refine pA_ 29 46 (ml_ 39 1073741823) rfl rfl HT_.out ?_
    refine pU_ 30 47 (ml_ 39 2147483647) rfl rfl HT_.out ?_
    refine pU_ 31 48 (ml_ 39 4294967295) rfl rfl HT_.out ?_
    refine pU_ 32 49 (ml_ 39 8589934591) rfl rfl HT_.out ?_
    refine pU_ 33 50 (ml_ 39 17179869183) rfl rfl HT_.out ?_
    refine pA_ 34 51 (ml_ 39 34359738367) rfl rfl HT_.out ?_
    refine pA_ 35 52 (ml_ 39 68719476735) rfl rfl HT_.out ?_
    refine pU_ 36 53 (ml_ 39 137438953471) rfl rfl HT_.out ?_
    refine pA_ 37 54 (ml_ 39 274877906943) rfl rfl HT_.out ?_
    refine pA_ 38 6 (ml_ 39 549755813887) rfl rfl HT_.out ?_
    refine done_ (done_of HT_.out (by kernel_rfl)) ?_
    try go_wp2
    go_ret
    exact ⟨by first | rfl | (simp [errW_none, errW_some] <;> rfl) | (simp [*, errW_none, errW_some] <;> rfl), (q8f57_ HB.out GE271.out GE272.out)⟩
  ·replace c8 := Bool.eq_false_iff.mpr c8
   subst c8
   have H1 : (some false) = some r := by rw [if_neg (show ¬ (false = true) by decide)] at H; exact H
   clear H
   have H := H1
   clear H1
   obtain rfl := Option.some.inj H
   go_enter Try.func7, Try.ntmps7
   try go_wp2_with (first | ((with_reducible refine gate_callee (f := 20) rfl ?_); refine goesL_ (some 10) rfl rfl Try.func20 (by kernel_rfl) rfl #[.slice A0 l0.length c0, .int .u8 1] rfl qM_ ?_; (with_reducible refine (caravanlaw5_Make.calls k _ _ l0 1 t262 t263 t264 t267 t270 _ ?side1 ?side2 A4.out).mono ?_); (case side1 => exact qC_ (HR0.out)); (case side2 => exact HC0.out); rintro e w94 ⟨v265, v268, rfl, ho0, ho1, hb⟩; refine ⟨_, rfl, ?_⟩; have n0_ := Aside0.mk (Kd.R_lower ho0 (below_size (qdb35_ HB.out))); have n1_ := Aside0.mk (Kd.R_lower ho1 (below_size (qdb35_ HB.out))); have n2_ := Aside0.mk (below_step (qdb35_ HB.out) hb); clear HB; have HO266 := n0_; have HO269 := n1_; have HB := n2_; clear n0_ n1_ n2_; (try clear hb); (try clear hb2); (try clear hk); (try clear hi); (try clear ho0); (try clear ho1)) | ((with_reducible refine gate_dst (N := 7) rfl ?_); refine box_event ?hg (N := 7) ?hd (cs := #[.int .i64 0, .string (⟨#[]⟩ : ByteArray), .slice none 0 0, .slice none 0 0, .int .i64 0]) (t := 26) ?hr ?_; (case hd => rfl); (case hg => rfl); (case hr => first | (go_simp; done) | (go_simp; rfl)); intro gb271 hg w95 hbox hb; have n0_ := Aside0.mk (Kd.R_below (q8524_ HO266.out) hb); have n1_ := Aside0.mk (Kd.R_below (q8524_ HO269.out) hb); have n2_ := Aside0.mk (below_step (qdb35_ HB.out) hb); have n3_ := Aside0.mk (hbox); have n4_ := Aside0.mk ((by rw [hg]; exact (below_size (qdb35_ HB.out)) : w.heap.size ≤ gb271)); have n5_ := Aside0.mk ((by rw [hg]; exact (below_size (qdb35_ HB.out)) : w.heap.size ≤ gb271)); clear HO266; clear HO269; clear HB; have HO266 := n0_; have HO269 := n1_; have HB := n2_; have BK271 := n3_; have GW271 := n4_; have GE271 := n5_; clear n0_ n1_ n2_ n3_ n4_ n5_; clear hb hbox hg; have hcz96_0 : w95.cell? ⟨gb271, 0, none⟩ = some (.int .i64 0) := (blk_cell BK271.out 0).trans rfl; have hcz96_1 : w95.cell? ⟨gb271, 1, none⟩ = some (.string (⟨#[]⟩ : ByteArray)) := (blk_cell BK271.out 1).trans rfl; have hcz96_2 : w95.cell? ⟨gb271, 2, none⟩ = some (.slice none 0 0) := (blk_cell BK271.out 2).trans rfl; have hcz96_3 : w95.cell? ⟨gb271, 3, none⟩ = some (.slice none 0 0) := (blk_cell BK271.out 3).trans rfl; have hcz96_4 : w95.cell? ⟨gb271, 4, none⟩ = some (.int .i64 0) := (blk_cell BK271.out 4).trans rfl; have hfz96_0 := blk_frozen BK271.out 0; have hfz96_1 := blk_frozen BK271.out 1; have hfz96_2 := blk_frozen BK271.out 2; have hfz96_3 := blk_frozen BK271.out 3; have hfz96_4 := blk_frozen BK271.out 4; obtain ⟨Ao97, co97, eo97⟩ := Kd.R_slice HO266.out; subst eo97; obtain ⟨Ao98, co98, eo98⟩ := Kd.R_slice HO269.out; subst eo98) | ((with_reducible refine gate_store (t := 26) (p := 7) rfl ?_); refine store_event (t := 26) (p := 7) (v := ?vo_w99) (w1 := (((((w95.setCell ⟨gb271, 0, none⟩ (.int .i64 t262)).setCell ⟨gb271, 1, none⟩ (.string t263)).setCell ⟨gb271, 2, none⟩ (.slice Ao97 t264.length co97)).setCell ⟨gb271, 3, none⟩ (.slice Ao98 t267.length co98)).setCell ⟨gb271, 4, none⟩ (.int .i64 t270))) ?hg ?ho ?hn ?hr ?_; (case ho => rfl); (case hg => rfl); (case hn => rfl); (case hr => first | (go_simp; done) | (go_simp; rfl)); intro w99 hw; have n0_ : Aside0 (Kd.R k29 29 w99 w.heap.size (fun _ => True) (.slice Ao97 t264.length co97) t264) := ⟨(by rw [hw]; exact (by (with_reducible repeat (first | apply Kd.R_alloc | apply Kd.R_drewN | apply Kd.R_drew)); exact Kd.R_mono (Kd.R_far (p := ⟨gb271, 4, none⟩) (Kd.R_far (p := ⟨gb271, 3, none⟩) (Kd.R_far (p := ⟨gb271, 2, none⟩) (Kd.R_far (p := ⟨gb271, 1, none⟩) (Kd.R_far (p := ⟨gb271, 0, none⟩) (Kd.R_types HO266.out BK271.out (by decide)) (fun _ hk => hk.2) (.int .i64 t262)) (fun _ hk => hk.2) (.string t263)) (fun _ hk => hk.2) (.slice Ao97 t264.length co97)) (fun _ hk => hk.2) (.slice Ao98 t267.length co98)) (fun _ hk => hk.2) (.int .i64 t270)) (fun _ hk => trivial)))⟩; have n1_ : Aside0 (Kd.R Kd.string 9 w99 w.heap.size (fun _ => True) (.slice Ao98 t267.length co98) t267) := ⟨(by rw [hw]; exact (by (with_reducible repeat (first | apply Kd.R_alloc | apply Kd.R_drewN | apply Kd.R_drew)); exact Kd.R_mono (Kd.R_far (p := ⟨gb271, 4, none⟩) (Kd.R_far (p := ⟨gb271, 3, none⟩) (Kd.R_far (p := ⟨gb271, 2, none⟩) (Kd.R_far (p := ⟨gb271, 1, none⟩) (Kd.R_far (p := ⟨gb271, 0, none⟩) (Kd.R_types HO269.out BK271.out (by decide)) (fun _ hk => hk.2) (.int .i64 t262)) (fun _ hk => hk.2) (.string t263)) (fun _ hk => hk.2) (.slice Ao97 t264.length co97)) (fun _ hk => hk.2) (.slice Ao98 t267.length co98)) (fun _ hk => hk.2) (.int .i64 t270)) (fun _ hk => trivial)))⟩; have n2_ : Aside0 (w99.heap[gb271]? = some (.cells #[.int .i64 t262, .string t263, .slice Ao97 t264.length co97, .slice Ao98 t267.length co98, .int .i64 t270] 26 (0, 0))) := ⟨(by rw [hw]; exact (by (with_reducible repeat (first | refine blk_drewN ?_ _ | refine blk_drew ?_ | refine blk_alloc ?_ _)); refine blk_put (cs := #[.int .i64 t262, .string t263, .slice Ao97 t264.length co97, .slice Ao98 t267.length co98, .int .i64 0]) ?_ 4 _ rfl; (with_reducible repeat (first | refine blk_drewN ?_ _ | refine blk_drew ?_ | refine blk_alloc ?_ _)); refine blk_put (cs := #[.int .i64 t262, .string t263, .slice Ao97 t264.length co97, .slice none 0 0, .int .i64 0]) ?_ 3 _ rfl; (with_reducible repeat (first | refine blk_drewN ?_ _ | refine blk_drew ?_ | refine blk_alloc ?_ _)); refine blk_put (cs := #[.int .i64 t262, .string t263, .slice none 0 0, .slice none 0 0, .int .i64 0]) ?_ 2 _ rfl; (with_reducible repeat (first | refine blk_drewN ?_ _ | refine blk_drew ?_ | refine blk_alloc ?_ _)); refine blk_put (cs := #[.int .i64 t262, .string (⟨#[]⟩ : ByteArray), .slice none 0 0, .slice none 0 0, .int .i64 0]) ?_ 1 _ rfl; (with_reducible repeat (first | refine blk_drewN ?_ _ | refine blk_drew ?_ | refine blk_alloc ?_ _)); refine blk_put (cs := #[.int .i64 0, .string (⟨#[]⟩ : ByteArray), .slice none 0 0, .slice none 0 0, .int .i64 0]) ?_ 0 _ rfl; (with_reducible repeat (first | refine blk_drewN ?_ _ | refine blk_drew ?_ | refine blk_alloc ?_ _)); exact BK271.out))⟩; have n3_ : Aside0 (Below w.heap.size w w99) := ⟨(q5b6b_ HB.out GE271.out)⟩; clear hw; clear HO266; clear HO269; clear BK271; clear HB; have HO266 := n0_; have HO269 := n1_; have BK271 := n2_; have HB := n3_; clear n0_ n1_ n2_ n3_; have hcz100_0 : w99.cell? ⟨gb271, 0, none⟩ = some (.int .i64 t262) := (blk_cell BK271.out 0).trans rfl; have hcz100_1 : w99.cell? ⟨gb271, 1, none⟩ = some (.string t263) := (blk_cell BK271.out 1).trans rfl; have hcz100_2 : w99.cell? ⟨gb271, 2, none⟩ = some (.slice Ao97 t264.length co97) := (blk_cell BK271.out 2).trans rfl; have hcz100_3 : w99.cell? ⟨gb271, 3, none⟩ = some (.slice Ao98 t267.length co98) := (blk_cell BK271.out 3).trans rfl; have hcz100_4 : w99.cell? ⟨gb271, 4, none⟩ = some (.int .i64 t270) := (blk_cell BK271.out 4).trans rfl; have hfz100_0 := blk_frozen BK271.out 0; have hfz100_1 := blk_frozen BK271.out 1; have hfz100_2 := blk_frozen BK271.out 2; have hfz100_3 := blk_frozen BK271.out 3; have hfz100_4 := blk_frozen BK271.out 4) | ((with_reducible refine gate_store (t := 3) (p := 14) rfl ?_); refine store_event (t := 3) (p := 14) (v := ?vo_w101) (w1 := (w99.setCell ⟨gb271, 4, none⟩ (.int .i64 (wrap64 (1 + (wrap64 (a1))))))) ?hg ?ho ?hn ?hr ?_; (case ho => rfl); (case hg => rfl); (case hn => rfl); (case hr => first | (go_simp; done) | (go_simp; rfl)); intro w101 hw; have n0_ : Aside0 (Kd.R k29 29 w101 w.heap.size (fun _ => True) (.slice Ao97 t264.length co97) t264) := ⟨(by rw [hw]; exact (by (with_reducible repeat (first | apply Kd.R_alloc | apply Kd.R_drewN | apply Kd.R_drew)); exact Kd.R_mono (Kd.R_far (p := ⟨gb271, 4, none⟩) (Kd.R_types HO266.out BK271.out (by decide)) (fun _ hk => hk.2) (.int .i64 (wrap64 (1 + (wrap64 (a1)))))) (fun _ hk => trivial)))⟩; have n1_ : Aside0 (Kd.R Kd.string 9 w101 w.heap.size (fun _ => True) (.slice Ao98 t267.length co98) t267) := ⟨(by rw [hw]; exact (by (with_reducible repeat (first | apply Kd.R_alloc | apply Kd.R_drewN | apply Kd.R_drew)); exact Kd.R_mono (Kd.R_far (p := ⟨gb271, 4, none⟩) (Kd.R_types HO269.out BK271.out (by decide)) (fun _ hk => hk.2) (.int .i64 (wrap64 (1 + (wrap64 (a1)))))) (fun _ hk => trivial)))⟩; have n2_ : Aside0 (w101.heap[gb271]? = some (.cells #[.int .i64 t262, .string t263, .slice Ao97 t264.length co97, .slice Ao98 t267.length co98, .int .i64 (wrap64 (1 + (wrap64 (a1))))] 26 (0, 0))) := ⟨(by rw [hw]; exact (by (with_reducible repeat (first | refine blk_drewN ?_ _ | refine blk_drew ?_ | refine blk_alloc ?_ _)); refine blk_put (cs := #[.int .i64 t262, .string t263, .slice Ao97 t264.length co97, .slice Ao98 t267.length co98, .int .i64 t270]) ?_ 4 _ rfl; (with_reducible repeat (first | refine blk_drewN ?_ _ | refine blk_drew ?_ | refine blk_alloc ?_ _)); exact BK271.out))⟩; have n3_ : Aside0 (Below w.heap.size w w101) := ⟨(q5b6b_ HB.out GE271.out)⟩; clear hw; clear HO266; clear HO269; clear BK271; clear HB; have HO266 := n0_; have HO269 := n1_; have BK271 := n2_; have HB := n3_; clear n0_ n1_ n2_ n3_; have hcz102_0 : w101.cell? ⟨gb271, 0, none⟩ = some (.int .i64 t262) := (blk_cell BK271.out 0).trans rfl; have hcz102_1 : w101.cell? ⟨gb271, 1, none⟩ = some (.string t263) := (blk_cell BK271.out 1).trans rfl; have hcz102_2 : w101.cell? ⟨gb271, 2, none⟩ = some (.slice Ao97 t264.length co97) := (blk_cell BK271.out 2).trans rfl; have hcz102_3 : w101.cell? ⟨gb271, 3, none⟩ = some (.slice Ao98 t267.length co98) := (blk_cell BK271.out 3).trans rfl; have hcz102_4 : w101.cell? ⟨gb271, 4, none⟩ = some (.int .i64 (wrap64 (1 + (wrap64 (a1))))) := (blk_cell BK271.out 4).trans rfl; have hfz102_0 := blk_frozen BK271.out 0; have hfz102_1 := blk_frozen BK271.out 1; have hfz102_2 := blk_frozen BK271.out 2; have hfz102_3 := blk_frozen BK271.out 3; have hfz102_4 := blk_frozen BK271.out 4) | ((with_reducible refine gate_dst (N := 8) rfl ?_); refine box_event ?hg (N := 8) ?hd (cs := #[.int .i64 0, .string (⟨#[]⟩ : ByteArray), .slice none 0 0, .slice none 0 0, .int .i64 0]) (t := 26) ?hr ?_; (case hd => rfl); (case hg => rfl); (case hr => first | (go_simp; done) | (go_simp; rfl)); intro gb272 hg w103 hbox hb; have n0_ := Aside0.mk (Kd.R_below (q8524_ HO266.out) hb); have n1_ := Aside0.mk (Kd.R_below (q8524_ HO269.out) hb); have n2_ := Aside0.mk (blk_below (g := gb271) (o := .cells #[.int .i64 t262, .string t263, .slice Ao97 t264.length co97, .slice Ao98 t267.length co98, .int .i64 (wrap64 (1 + (wrap64 (a1))))] 26 (0, 0)) (q1466_ BK271.out) hb); have n3_ := Aside0.mk (below_step (qed14_ HB.out GE271.out) hb); have n4_ := Aside0.mk (hbox); have n5_ := Aside0.mk ((by rw [hg]; exact (below_size (qed14_ HB.out GE271.out)) : w.heap.size ≤ gb272)); have n6_ := Aside0.mk ((by rw [hg]; exact (below_size (qed14_ HB.out GE271.out)) : w.heap.size ≤ gb272)); have n7_ := Aside0.mk ((by rw [hg]; exact Nat.ne_of_lt (blk_lt (g := gb271) (o := .cells #[.int .i64 t262, .string t263, .slice Ao97 t264.length co97, .slice Ao98 t267.length co98, .int .i64 (wrap64 (1 + (wrap64 (a1))))] 26 (0, 0)) (q1466_ BK271.out)) : gb271 ≠ gb272)); have n8_ := Aside0.mk ((by rw [hg]; exact Nat.ne_of_gt (blk_lt (g := gb271) (o := .cells #[.int .i64 t262, .string t263, .slice Ao97 t264.length co97, .slice Ao98 t267.length co98, .int .i64 (wrap64 (1 + (wrap64 (a1))))] 26 (0, 0)) (q1466_ BK271.out)) : gb272 ≠ gb271)); clear HO266; clear HO269; clear BK271; clear HB; have HO266 := n0_; have HO269 := n1_; have BK271 := n2_; have HB := n3_; have BK272 := n4_; have GW272 := n5_; have GE272 := n6_; have NB271_272 := n7_; have NB272_271 := n8_; clear n0_ n1_ n2_ n3_ n4_ n5_ n6_ n7_ n8_; clear hb hbox hg; have hnb104 := NB272_271.out; have hnc104 := NB271_272.out; have hcz105_0 : w103.cell? ⟨gb272, 0, none⟩ = some (.int .i64 0) := (blk_cell BK272.out 0).trans rfl; have hcz105_1 : w103.cell? ⟨gb272, 1, none⟩ = some (.string (⟨#[]⟩ : ByteArray)) := (blk_cell BK272.out 1).trans rfl; have hcz105_2 : w103.cell? ⟨gb272, 2, none⟩ = some (.slice none 0 0) := (blk_cell BK272.out 2).trans rfl; have hcz105_3 : w103.cell? ⟨gb272, 3, none⟩ = some (.slice none 0 0) := (blk_cell BK272.out 3).trans rfl; have hcz105_4 : w103.cell? ⟨gb272, 4, none⟩ = some (.int .i64 0) := (blk_cell BK272.out 4).trans rfl; have hfz105_0 := blk_frozen BK272.out 0; have hfz105_1 := blk_frozen BK272.out 1; have hfz105_2 := blk_frozen BK272.out 2; have hfz105_3 := blk_frozen BK272.out 3; have hfz105_4 := blk_frozen BK272.out 4))
   have n0_ : Aside0 (Kd.R k29 29 ((((((w103.setCell ⟨gb272, 0, none⟩ (.int .i64 t262)).setCell ⟨gb272, 1, none⟩ (.string t263)).setCell ⟨gb272, 2, none⟩ (.slice Ao97 t264.length co97)).setCell ⟨gb272, 3, none⟩ (.slice Ao98 t267.length co98)).setCell ⟨gb272, 4, none⟩ (.int .i64 (wrap64 (1 + (wrap64 (a1)))))).setCell ⟨gb272, 4, none⟩ (.int .i64 0)) w.heap.size (fun _ => True) (.slice Ao97 t264.length co97) t264) := ⟨by (with_reducible repeat (first | apply Kd.R_alloc | apply Kd.R_drewN | apply Kd.R_drew)); exact Kd.R_mono (Kd.R_far (p := ⟨gb272, 4, none⟩) (Kd.R_far (p := ⟨gb272, 4, none⟩) (Kd.R_far (p := ⟨gb272, 3, none⟩) (Kd.R_far (p := ⟨gb272, 2, none⟩) (Kd.R_far (p := ⟨gb272, 1, none⟩) (Kd.R_far (p := ⟨gb272, 0, none⟩) (Kd.R_types HO266.out BK272.out (by decide)) (fun _ hk => hk.2) (.int .i64 t262)) (fun _ hk => hk.2) (.string t263)) (fun _ hk => hk.2) (.slice Ao97 t264.length co97)) (fun _ hk => hk.2) (.slice Ao98 t267.length co98)) (fun _ hk => hk.2) (.int .i64 (wrap64 (1 + (wrap64 (a1)))))) (fun _ hk => hk.2) (.int .i64 0)) (fun _ hk => trivial)⟩
   have n1_ : Aside0 (Kd.R Kd.string 9 ((((((w103.setCell ⟨gb272, 0, none⟩ (.int .i64 t262)).setCell ⟨gb272, 1, none⟩ (.string t263)).setCell ⟨gb272, 2, none⟩ (.slice Ao97 t264.length co97)).setCell ⟨gb272, 3, none⟩ (.slice Ao98 t267.length co98)).setCell ⟨gb272, 4, none⟩ (.int .i64 (wrap64 (1 + (wrap64 (a1)))))).setCell ⟨gb272, 4, none⟩ (.int .i64 0)) w.heap.size (fun _ => True) (.slice Ao98 t267.length co98) t267) := ⟨by (with_reducible repeat (first | apply Kd.R_alloc | apply Kd.R_drewN | apply Kd.R_drew)); exact Kd.R_mono (Kd.R_far (p := ⟨gb272, 4, none⟩) (Kd.R_far (p := ⟨gb272, 4, none⟩) (Kd.R_far (p := ⟨gb272, 3, none⟩) (Kd.R_far (p := ⟨gb272, 2, none⟩) (Kd.R_far (p := ⟨gb272, 1, none⟩) (Kd.R_far (p := ⟨gb272, 0, none⟩) (Kd.R_types HO269.out BK272.out (by decide)) (fun _ hk => hk.2) (.int .i64 t262)) (fun _ hk => hk.2) (.string t263)) (fun _ hk => hk.2) (.slice Ao97 t264.length co97)) (fun _ hk => hk.2) (.slice Ao98 t267.length co98)) (fun _ hk => hk.2) (.int .i64 (wrap64 (1 + (wrap64 (a1)))))) (fun _ hk => hk.2) (.int .i64 0)) (fun _ hk => trivial)⟩
   have n2_ : Aside0 (((((((w103.setCell ⟨gb272, 0, none⟩ (.int .i64 t262)).setCell ⟨gb272, 1, none⟩ (.string t263)).setCell ⟨gb272, 2, none⟩ (.slice Ao97 t264.length co97)).setCell ⟨gb272, 3, none⟩ (.slice Ao98 t267.length co98)).setCell ⟨gb272, 4, none⟩ (.int .i64 (wrap64 (1 + (wrap64 (a1)))))).setCell ⟨gb272, 4, none⟩ (.int .i64 0)).heap[gb271]? = some (.cells #[.int .i64 t262, .string t263, .slice Ao97 t264.length co97, .slice Ao98 t267.length co98, .int .i64 (wrap64 (1 + (wrap64 (a1))))] 26 (0, 0))) := ⟨by (with_reducible repeat (first | refine blk_drewN ?_ _ | refine blk_drew ?_ | refine blk_alloc ?_ _)); refine blk_far ?_ NB271_272.out _; (with_reducible repeat (first | refine blk_drewN ?_ _ | refine blk_drew ?_ | refine blk_alloc ?_ _)); refine blk_far ?_ NB271_272.out _; (with_reducible repeat (first | refine blk_drewN ?_ _ | refine blk_drew ?_ | refine blk_alloc ?_ _)); refine blk_far ?_ NB271_272.out _; (with_reducible repeat (first | refine blk_drewN ?_ _ | refine blk_drew ?_ | refine blk_alloc ?_ _)); refine blk_far ?_ NB271_272.out _; (with_reducible repeat (first | refine blk_drewN ?_ _ | refine blk_drew ?_ | refine blk_alloc ?_ _)); refine blk_far ?_ NB271_272.out _; (with_reducible repeat (first | refine blk_drewN ?_ _ | refine blk_drew ?_ | refine blk_alloc ?_ _)); refine blk_far ?_ NB271_272.out _; (with_reducible repeat (first | refine blk_drewN ?_ _ | refine blk_drew ?_ | refine blk_alloc ?_ _)); exact BK271.out⟩
   have n3_ : Aside0 (((((((w103.setCell ⟨gb272, 0, none⟩ (.int .i64 t262)).setCell ⟨gb272, 1, none⟩ (.string t263)).setCell ⟨gb272, 2, none⟩ (.slice Ao97 t264.length co97)).setCell ⟨gb272, 3, none⟩ (.slice Ao98 t267.length co98)).setCell ⟨gb272, 4, none⟩ (.int .i64 (wrap64 (1 + (wrap64 (a1)))))).setCell ⟨gb272, 4, none⟩ (.int .i64 0)).heap[gb272]? = some (.cells #[.int .i64 t262, .string t263, .slice Ao97 t264.length co97, .slice Ao98 t267.length co98, .int .i64 0] 26 (0, 0))) := ⟨by (with_reducible repeat (first | refine blk_drewN ?_ _ | refine blk_drew ?_ | refine blk_alloc ?_ _)); refine blk_put (cs := #[.int .i64 t262, .string t263, .slice Ao97 t264.length co97, .slice Ao98 t267.length co98, .int .i64 (wrap64 (1 + (wrap64 (a1))))]) ?_ 4 _ rfl; (with_reducible repeat (first | refine blk_drewN ?_ _ | refine blk_drew ?_ | refine blk_alloc ?_ _)); refine blk_put (cs := #[.int .i64 t262, .string t263, .slice Ao97 t264.length co97, .slice Ao98 t267.length co98, .int .i64 0]) ?_ 4 _ rfl; (with_reducible repeat (first | refine blk_drewN ?_ _ | refine blk_drew ?_ | refine blk_alloc ?_ _)); refine blk_put (cs := #[.int .i64 t262, .string t263, .slice Ao97 t264.length co97, .slice none 0 0, .int .i64 0]) ?_ 3 _ rfl; (with_reducible repeat (first | refine blk_drewN ?_ _ | refine blk_drew ?_ | refine blk_alloc ?_ _)); refine blk_put (cs := #[.int .i64 t262, .string t263, .slice none 0 0, .slice none 0 0, .int .i64 0]) ?_ 2 _ rfl; (with_reducible repeat (first | refine blk_drewN ?_ _ | refine blk_drew ?_ | refine blk_alloc ?_ _)); refine blk_put (cs := #[.int .i64 t262, .string (⟨#[]⟩ : ByteArray), .slice none 0 0, .slice none 0 0, .int .i64 0]) ?_ 1 _ rfl; (with_reducible repeat (first | refine blk_drewN ?_ _ | refine blk_drew ?_ | refine blk_alloc ?_ _)); refine blk_put (cs := #[.int .i64 0, .string (⟨#[]⟩ : ByteArray), .slice none 0 0, .slice none 0 0, .int .i64 0]) ?_ 0 _ rfl; (with_reducible repeat (first | refine blk_drewN ?_ _ | refine blk_drew ?_ | refine blk_alloc ?_ _)); exact BK272.out⟩
   have n4_ : Aside0 (Below w.heap.size w ((((((w103.setCell ⟨gb272, 0, none⟩ (.int .i64 t262)).setCell ⟨gb272, 1, none⟩ (.string t263)).setCell ⟨gb272, 2, none⟩ (.slice Ao97 t264.length co97)).setCell ⟨gb272, 3, none⟩ (.slice Ao98 t267.length co98)).setCell ⟨gb272, 4, none⟩ (.int .i64 (wrap64 (1 + (wrap64 (a1)))))).setCell ⟨gb272, 4, none⟩ (.int .i64 0))) := ⟨(q8f57_ HB.out GE271.out GE272.out)⟩
   (try clear HO266)
   (try clear HO269)
   (try clear BK271)
   (try clear BK272)
   (try clear HB)
   generalize ((((((w103.setCell ⟨gb272, 0, none⟩ (.int .i64 t262)).setCell ⟨gb272, 1, none⟩ (.string t263)).setCell ⟨gb272, 2, none⟩ (.slice Ao97 t264.length co97)).setCell ⟨gb272, 3, none⟩ (.slice Ao98 t267.length co98)).setCell ⟨gb272, 4, none⟩ (.int .i64 (wrap64 (1 + (wrap64 (a1)))))).setCell ⟨gb272, 4, none⟩ (.int .i64 0)) = w106 at n0_ n1_ n2_ n3_ n4_ ⊢
   have HO266 := n0_
   have HO269 := n1_
   have BK271 := n2_
   have BK272 := n3_
   have HB := n4_
   clear n0_ n1_ n2_ n3_ n4_
   have n0_ := Aside0.mk (Kd.R_drew HO266.out)
   have n1_ := Aside0.mk (Kd.R_drew HO269.out)
   have n2_ := Aside0.mk (blk_drew BK271.out)
   have n3_ := Aside0.mk (blk_drew BK272.out)
   have n4_ := Aside0.mk (below_drew1 HB.out)
   clear HO266
   clear HO269
   clear BK271
   clear BK272
   clear HB
   have HO266 := n0_
   have HO269 := n1_
   have BK271 := n2_
   have BK272 := n3_
   have HB := n4_
   clear n0_ n1_ n2_ n3_ n4_
   refine start_ (n := 39) (S := fun w' => w'.cell? ⟨gb271, 0, none⟩ = some (.int .i64 t262) ∧ w'.cell? ⟨gb271, 1, none⟩ = some (.string t263) ∧ w'.cell? ⟨gb271, 2, none⟩ = some (.slice Ao97 t264.length co97) ∧ w'.cell? ⟨gb271, 3, none⟩ = some (.slice Ao98 t267.length co98) ∧ w'.cell? ⟨gb271, 4, none⟩ = some (.int .i64 (wrap64 (1 + (wrap64 (a1))))) ∧ w'.cell? ⟨gb272, 0, none⟩ = some (.int .i64 t262) ∧ w'.cell? ⟨gb272, 1, none⟩ = some (.string t263) ∧ w'.cell? ⟨gb272, 2, none⟩ = some (.slice Ao97 t264.length co97) ∧ w'.cell? ⟨gb272, 3, none⟩ = some (.slice Ao98 t267.length co98) ∧ w'.cell? ⟨gb272, 4, none⟩ = some (.int .i64 0)) (ds := []) (ml_ 39 0) (by kernel_rfl) rfl rfl ⟨(blk_cell BK271.out 0).trans rfl, (blk_cell BK271.out 1).trans rfl, (blk_cell BK271.out 2).trans rfl, (blk_cell BK271.out 3).trans rfl, (blk_cell BK271.out 4).trans rfl, (blk_cell BK272.out 0).trans rfl, (blk_cell BK272.out 1).trans rfl, (blk_cell BK272.out 2).trans rfl, (blk_cell BK272.out 3).trans rfl, (blk_cell BK272.out 4).trans rfl⟩ (fun hHeld => ?_); refine with_tabW caravanlaw5_ItemTime.tab5 caravanlaw5_ItemTime.bits5 (fun HT_ HW_ => ?_)
   generalize w106.drew = w107 at HO266 HO269 BK271 BK272 HB hHeld ⊢
   refine pA_ 1 18 (ml_ 39 2) rfl rfl HT_.out ?_
   refine pA_ 2 19 (ml_ 39 6) rfl rfl HT_.out ?_
   refine pA_ 4 21 (ml_ 39 22) rfl rfl HT_.out ?_
   refine pA_ 5 22 (ml_ 39 54) rfl rfl HT_.out ?_
   refine pA_ 6 23 (ml_ 39 118) rfl rfl HT_.out ?_
   refine pA_ 7 24 (ml_ 39 246) rfl rfl HT_.out ?_
   refine pA_ 8 25 (ml_ 39 502) rfl rfl HT_.out ?_
   refine t10_ 0 17 (ml_ 39 503) rfl rfl HT_.out HW_.out hHeld ?_
   refine one_ (i := 3) (N := some 20) (ml_ 39 511) rfl rfl (one_of HT_.out (by kernel_rfl)) (by decide) (fun K hK => ?_)
   refine goes_ Try.func13 (by kernel_rfl) rfl #[.agg #[.int .i64 t262, .string t263, .slice Ao97 t264.length co97, .slice Ao98 t267.length co98, .int .i64 (wrap64 (1 + (wrap64 (a1))))], .int .i64 (wrap64 (a2))] (by rfl) rfl rfl qM_ ?_
   with_reducible refine (item_Alive.calls t262 t263 _ _ t264 _ _ t267 (wrap64 (1 + (wrap64 (a1)))) (wrap64 (a2)) t273 _ ?side1 ?side2 ?side3 ?side4 A5.out).mono ?_
   (case side1 => exact qC_ ((Kd.R_reads' HO266.out).2.2))
   (case side2 => exact (Kd.R_reads' HO266.out).2.1)
   (case side3 => exact qC_ ((Kd.R_reads' HO269.out).2.2))
   (case side4 => exact (Kd.R_reads' HO269.out).2.1)
   rintro e w108 ⟨rfl, hb⟩
   refine ⟨_, rfl, ?_⟩
   have n0_ := Aside0.mk (Kd.R_below (q8524_ HO266.out) hb)
   have n1_ := Aside0.mk (Kd.R_below (q8524_ HO269.out) hb)
   have n2_ := Aside0.mk (blk_below (g := gb271) (o := .cells #[.int .i64 t262, .string t263, .slice Ao97 t264.length co97, .slice Ao98 t267.length co98, .int .i64 (wrap64 (1 + (wrap64 (a1))))] 26 (0, 0)) (q1466_ BK271.out) hb)
   have n3_ := Aside0.mk (blk_below (g := gb272) (o := .cells #[.int .i64 t262, .string t263, .slice Ao97 t264.length co97, .slice Ao98 t267.length co98, .int .i64 0] 26 (0, 0)) (q1466_ BK272.out) hb)
   have n4_ := Aside0.mk (below_step (q8f57_ HB.out GE271.out GE272.out) hb)
   clear HO266
   clear HO269
   clear BK271
   clear BK272
   clear HB
   have HO266 := n0_
   have HO269 := n1_
   have BK271 := n2_
   have BK272 := n3_
   have HB := n4_
   clear n0_ n1_ n2_ n3_ n4_
   (try clear hb)
   (try clear hb2)
   (try clear hk)
   (try clear hi)
   refine hK.out _ _ ⟨(blk_cell BK271.out 0).trans rfl, (blk_cell BK271.out 1).trans rfl, (blk_cell BK271.out 2).trans rfl, (blk_cell BK271.out 3).trans rfl, (blk_cell BK271.out 4).trans rfl, (blk_cell BK272.out 0).trans rfl, (blk_cell BK272.out 1).trans rfl, (blk_cell BK272.out 2).trans rfl, (blk_cell BK272.out 3).trans rfl, (blk_cell BK272.out 4).trans rfl⟩ (fun hHeld => ?_)
   clear hK K
   refine nA_ 20 ?_
   refine pA_ 9 26 (ml_ 39 1023) rfl rfl HT_.out ?_
   refine pA_ 10 27 (ml_ 39 2047) rfl rfl HT_.out ?_
   refine pA_ 12 29 (ml_ 39 6143) rfl rfl HT_.out ?_
   refine pA_ 13 30 (ml_ 39 14335) rfl rfl HT_.out ?_
   refine t10_ 11 28 (ml_ 39 16383) rfl rfl HT_.out HW_.out hHeld ?_
   refine one_ (i := 14) (N := some 31) (ml_ 39 32767) rfl rfl (one_of HT_.out (by kernel_rfl)) (by decide) (fun K hK => ?_)
   refine goes_ Try.func13 (by kernel_rfl) rfl #[.agg #[.int .i64 t262, .string t263, .slice Ao97 t264.length co97, .slice Ao98 t267.length co98, .int .i64 0], .int .i64 (wrap64 (a2))] (by rfl) rfl rfl qM_ ?_
   with_reducible refine (item_Alive.calls t262 t263 _ _ t264 _ _ t267 0 (wrap64 (a2)) false _ ?side1 ?side2 ?side3 ?side4 A7.out).mono ?_
   (case side1 => exact qC_ ((Kd.R_reads' HO266.out).2.2))
   (case side2 => exact (Kd.R_reads' HO266.out).2.1)
   (case side3 => exact qC_ ((Kd.R_reads' HO269.out).2.2))
   (case side4 => exact (Kd.R_reads' HO269.out).2.1)
   rintro e w109 ⟨rfl, hb⟩
   refine ⟨_, rfl, ?_⟩
   have n0_ := Aside0.mk (Kd.R_below (q8524_ HO266.out) hb)
   have n1_ := Aside0.mk (Kd.R_below (q8524_ HO269.out) hb)
   have n2_ := Aside0.mk (blk_below (g := gb271) (o := .cells #[.int .i64 t262, .string t263, .slice Ao97 t264.length co97, .slice Ao98 t267.length co98, .int .i64 (wrap64 (1 + (wrap64 (a1))))] 26 (0, 0)) (q1466_ BK271.out) hb)
   have n3_ := Aside0.mk (blk_below (g := gb272) (o := .cells #[.int .i64 t262, .string t263, .slice Ao97 t264.length co97, .slice Ao98 t267.length co98, .int .i64 0] 26 (0, 0)) (q1466_ BK272.out) hb)
   have n4_ := Aside0.mk (below_step (q8f57_ HB.out GE271.out GE272.out) hb)
   clear HO266
   clear HO269
   clear BK271
   clear BK272
   clear HB
   have HO266 := n0_
   have HO269 := n1_
   have BK271 := n2_
   have BK272 := n3_
   have HB := n4_
   clear n0_ n1_ n2_ n3_ n4_
   (try clear hb)
   (try clear hb2)
   (try clear hk)
   (try clear hi)
   refine hK.out _ _ ⟨(blk_cell BK271.out 0).trans rfl, (blk_cell BK271.out 1).trans rfl, (blk_cell BK271.out 2).trans rfl, (blk_cell BK271.out 3).trans rfl, (blk_cell BK271.out 4).trans rfl, (blk_cell BK272.out 0).trans rfl, (blk_cell BK272.out 1).trans rfl, (blk_cell BK272.out 2).trans rfl, (blk_cell BK272.out 3).trans rfl, (blk_cell BK272.out 4).trans rfl⟩ (fun hHeld => ?_)
   clear hK K
   refine nA_ 31 ?_
   refine pA_ 15 32 (ml_ 39 65535) rfl rfl HT_.out ?_
   refine pA_ 16 33 (ml_ 39 131071) rfl rfl HT_.out ?_
   refine pU_ 17 34 (ml_ 39 262143) rfl rfl HT_.out ?_
   refine pU_ 18 35 (ml_ 39 524287) rfl rfl HT_.out ?_
   refine pA_ 19 36 (ml_ 39 1048575) rfl rfl HT_.out ?_
   refine pA_ 20 37 (ml_ 39 2097151) rfl rfl HT_.out ?_
   refine pU_ 21 38 (ml_ 39 4194303) rfl rfl HT_.out ?_
   refine pU_ 22 39 (ml_ 39 8388607) rfl rfl HT_.out ?_
   refine pU_ 23 40 (ml_ 39 16777215) rfl rfl HT_.out ?_
   refine pU_ 24 41 (ml_ 39 33554431) rfl rfl HT_.out ?_
   refine pU_ 25 42 (ml_ 39 67108863) rfl rfl HT_.out ?_
   refine pU_ 26 43 (ml_ 39 134217727) rfl rfl HT_.out ?_
   refine pU_ 27 44 (ml_ 39 268435455) rfl rfl HT_.out ?_
   refine pA_ 28 45 (ml_ 39 536870911) rfl rfl HT_.out ?_
   refine pA_ 29 46 (ml_ 39 1073741823) rfl rfl HT_.out ?_
   refine pU_ 30 47 (ml_ 39 2147483647) rfl rfl HT_.out ?_
   refine pU_ 31 48 (ml_ 39 4294967295) rfl rfl HT_.out ?_
   refine pU_ 32 49 (ml_ 39 8589934591) rfl rfl HT_.out ?_
   refine pU_ 33 50 (ml_ 39 17179869183) rfl rfl HT_.out ?_
   refine pA_ 34 51 (ml_ 39 34359738367) rfl rfl HT_.out ?_
   refine pA_ 35 52 (ml_ 39 68719476735) rfl rfl HT_.out ?_
   refine pU_ 36 53 (ml_ 39 137438953471) rfl rfl HT_.out ?_
   refine pA_ 37 54 (ml_ 39 274877906943) rfl rfl HT_.out ?_
   refine pA_ 38 6 (ml_ 39 549755813887) rfl rfl HT_.out ?_
   refine done_ (done_of HT_.out (by kernel_rfl)) ?_
   try go_wp2
   go_ret
   exact ⟨by first | rfl | (simp [errW_none, errW_some] <;> rfl) | (simp [*, errW_none, errW_some] <;> rfl), (q8f57_ HB.out GE271.out GE272.out)⟩
 ·rw [if_neg c6] at H
  have c6b0 : (t273 == (decide ((wrap64 (a2)) ≤ (wrap64 (a1))))) = false := by simpa using c6
  (try (have c6b1 : decide (t273 = (decide ((wrap64 (a2)) ≤ (wrap64 (a1))))) = false := by simpa using c6))
  (try (have c6b2 : (t273 == (decide ((wrap64 (a2)) ≤ (wrap64 (a1))))) = false := by simpa using c6))
  (try (have c6b3 : ¬ (t273 = (decide ((wrap64 (a2)) ≤ (wrap64 (a1))))) := by simpa using c6))
  clear c6
  obtain rfl := Option.some.inj H
  go_enter Try.func7, Try.ntmps7
  try go_wp2_with (first | ((with_reducible refine gate_callee (f := 20) rfl ?_); refine goesL_ (some 10) rfl rfl Try.func20 (by kernel_rfl) rfl #[.slice A0 l0.length c0, .int .u8 1] rfl qM_ ?_; (with_reducible refine (caravanlaw5_Make.calls k _ _ l0 1 t262 t263 t264 t267 t270 _ ?side1 ?side2 A4.out).mono ?_); (case side1 => exact qC_ (HR0.out)); (case side2 => exact HC0.out); rintro e w110 ⟨v265, v268, rfl, ho0, ho1, hb⟩; refine ⟨_, rfl, ?_⟩; have n0_ := Aside0.mk (Kd.R_lower ho0 (below_size (qdb35_ HB.out))); have n1_ := Aside0.mk (Kd.R_lower ho1 (below_size (qdb35_ HB.out))); have n2_ := Aside0.mk (below_step (qdb35_ HB.out) hb); clear HB; have HO266 := n0_; have HO269 := n1_; have HB := n2_; clear n0_ n1_ n2_; (try clear hb); (try clear hb2); (try clear hk); (try clear hi); (try clear ho0); (try clear ho1)) | ((with_reducible refine gate_dst (N := 7) rfl ?_); refine box_event ?hg (N := 7) ?hd (cs := #[.int .i64 0, .string (⟨#[]⟩ : ByteArray), .slice none 0 0, .slice none 0 0, .int .i64 0]) (t := 26) ?hr ?_; (case hd => rfl); (case hg => rfl); (case hr => first | (go_simp; done) | (go_simp; rfl)); intro gb271 hg w111 hbox hb; have n0_ := Aside0.mk (Kd.R_below (q8524_ HO266.out) hb); have n1_ := Aside0.mk (Kd.R_below (q8524_ HO269.out) hb); have n2_ := Aside0.mk (below_step (qdb35_ HB.out) hb); have n3_ := Aside0.mk (hbox); have n4_ := Aside0.mk ((by rw [hg]; exact (below_size (qdb35_ HB.out)) : w.heap.size ≤ gb271)); have n5_ := Aside0.mk ((by rw [hg]; exact (below_size (qdb35_ HB.out)) : w.heap.size ≤ gb271)); clear HO266; clear HO269; clear HB; have HO266 := n0_; have HO269 := n1_; have HB := n2_; have BK271 := n3_; have GW271 := n4_; have GE271 := n5_; clear n0_ n1_ n2_ n3_ n4_ n5_; clear hb hbox hg; have hcz112_0 : w111.cell? ⟨gb271, 0, none⟩ = some (.int .i64 0) := (blk_cell BK271.out 0).trans rfl; have hcz112_1 : w111.cell? ⟨gb271, 1, none⟩ = some (.string (⟨#[]⟩ : ByteArray)) := (blk_cell BK271.out 1).trans rfl; have hcz112_2 : w111.cell? ⟨gb271, 2, none⟩ = some (.slice none 0 0) := (blk_cell BK271.out 2).trans rfl; have hcz112_3 : w111.cell? ⟨gb271, 3, none⟩ = some (.slice none 0 0) := (blk_cell BK271.out 3).trans rfl; have hcz112_4 : w111.cell? ⟨gb271, 4, none⟩ = some (.int .i64 0) := (blk_cell BK271.out 4).trans rfl; have hfz112_0 := blk_frozen BK271.out 0; have hfz112_1 := blk_frozen BK271.out 1; have hfz112_2 := blk_frozen BK271.out 2; have hfz112_3 := blk_frozen BK271.out 3; have hfz112_4 := blk_frozen BK271.out 4; obtain ⟨Ao113, co113, eo113⟩ := Kd.R_slice HO266.out; subst eo113; obtain ⟨Ao114, co114, eo114⟩ := Kd.R_slice HO269.out; subst eo114) | ((with_reducible refine gate_store (t := 26) (p := 7) rfl ?_); refine store_event (t := 26) (p := 7) (v := ?vo_w115) (w1 := (((((w111.setCell ⟨gb271, 0, none⟩ (.int .i64 t262)).setCell ⟨gb271, 1, none⟩ (.string t263)).setCell ⟨gb271, 2, none⟩ (.slice Ao113 t264.length co113)).setCell ⟨gb271, 3, none⟩ (.slice Ao114 t267.length co114)).setCell ⟨gb271, 4, none⟩ (.int .i64 t270))) ?hg ?ho ?hn ?hr ?_; (case ho => rfl); (case hg => rfl); (case hn => rfl); (case hr => first | (go_simp; done) | (go_simp; rfl)); intro w115 hw; have n0_ : Aside0 (Kd.R k29 29 w115 w.heap.size (fun _ => True) (.slice Ao113 t264.length co113) t264) := ⟨(by rw [hw]; exact (by (with_reducible repeat (first | apply Kd.R_alloc | apply Kd.R_drewN | apply Kd.R_drew)); exact Kd.R_mono (Kd.R_far (p := ⟨gb271, 4, none⟩) (Kd.R_far (p := ⟨gb271, 3, none⟩) (Kd.R_far (p := ⟨gb271, 2, none⟩) (Kd.R_far (p := ⟨gb271, 1, none⟩) (Kd.R_far (p := ⟨gb271, 0, none⟩) (Kd.R_types HO266.out BK271.out (by decide)) (fun _ hk => hk.2) (.int .i64 t262)) (fun _ hk => hk.2) (.string t263)) (fun _ hk => hk.2) (.slice Ao113 t264.length co113)) (fun _ hk => hk.2) (.slice Ao114 t267.length co114)) (fun _ hk => hk.2) (.int .i64 t270)) (fun _ hk => trivial)))⟩; have n1_ : Aside0 (Kd.R Kd.string 9 w115 w.heap.size (fun _ => True) (.slice Ao114 t267.length co114) t267) := ⟨(by rw [hw]; exact (by (with_reducible repeat (first | apply Kd.R_alloc | apply Kd.R_drewN | apply Kd.R_drew)); exact Kd.R_mono (Kd.R_far (p := ⟨gb271, 4, none⟩) (Kd.R_far (p := ⟨gb271, 3, none⟩) (Kd.R_far (p := ⟨gb271, 2, none⟩) (Kd.R_far (p := ⟨gb271, 1, none⟩) (Kd.R_far (p := ⟨gb271, 0, none⟩) (Kd.R_types HO269.out BK271.out (by decide)) (fun _ hk => hk.2) (.int .i64 t262)) (fun _ hk => hk.2) (.string t263)) (fun _ hk => hk.2) (.slice Ao113 t264.length co113)) (fun _ hk => hk.2) (.slice Ao114 t267.length co114)) (fun _ hk => hk.2) (.int .i64 t270)) (fun _ hk => trivial)))⟩; have n2_ : Aside0 (w115.heap[gb271]? = some (.cells #[.int .i64 t262, .string t263, .slice Ao113 t264.length co113, .slice Ao114 t267.length co114, .int .i64 t270] 26 (0, 0))) := ⟨(by rw [hw]; exact (by (with_reducible repeat (first | refine blk_drewN ?_ _ | refine blk_drew ?_ | refine blk_alloc ?_ _)); refine blk_put (cs := #[.int .i64 t262, .string t263, .slice Ao113 t264.length co113, .slice Ao114 t267.length co114, .int .i64 0]) ?_ 4 _ rfl; (with_reducible repeat (first | refine blk_drewN ?_ _ | refine blk_drew ?_ | refine blk_alloc ?_ _)); refine blk_put (cs := #[.int .i64 t262, .string t263, .slice Ao113 t264.length co113, .slice none 0 0, .int .i64 0]) ?_ 3 _ rfl; (with_reducible repeat (first | refine blk_drewN ?_ _ | refine blk_drew ?_ | refine blk_alloc ?_ _)); refine blk_put (cs := #[.int .i64 t262, .string t263, .slice none 0 0, .slice none 0 0, .int .i64 0]) ?_ 2 _ rfl; (with_reducible repeat (first | refine blk_drewN ?_ _ | refine blk_drew ?_ | refine blk_alloc ?_ _)); refine blk_put (cs := #[.int .i64 t262, .string (⟨#[]⟩ : ByteArray), .slice none 0 0, .slice none 0 0, .int .i64 0]) ?_ 1 _ rfl; (with_reducible repeat (first | refine blk_drewN ?_ _ | refine blk_drew ?_ | refine blk_alloc ?_ _)); refine blk_put (cs := #[.int .i64 0, .string (⟨#[]⟩ : ByteArray), .slice none 0 0, .slice none 0 0, .int .i64 0]) ?_ 0 _ rfl; (with_reducible repeat (first | refine blk_drewN ?_ _ | refine blk_drew ?_ | refine blk_alloc ?_ _)); exact BK271.out))⟩; have n3_ : Aside0 (Below w.heap.size w w115) := ⟨(q5b6b_ HB.out GE271.out)⟩; clear hw; clear HO266; clear HO269; clear BK271; clear HB; have HO266 := n0_; have HO269 := n1_; have BK271 := n2_; have HB := n3_; clear n0_ n1_ n2_ n3_; have hcz116_0 : w115.cell? ⟨gb271, 0, none⟩ = some (.int .i64 t262) := (blk_cell BK271.out 0).trans rfl; have hcz116_1 : w115.cell? ⟨gb271, 1, none⟩ = some (.string t263) := (blk_cell BK271.out 1).trans rfl; have hcz116_2 : w115.cell? ⟨gb271, 2, none⟩ = some (.slice Ao113 t264.length co113) := (blk_cell BK271.out 2).trans rfl; have hcz116_3 : w115.cell? ⟨gb271, 3, none⟩ = some (.slice Ao114 t267.length co114) := (blk_cell BK271.out 3).trans rfl; have hcz116_4 : w115.cell? ⟨gb271, 4, none⟩ = some (.int .i64 t270) := (blk_cell BK271.out 4).trans rfl; have hfz116_0 := blk_frozen BK271.out 0; have hfz116_1 := blk_frozen BK271.out 1; have hfz116_2 := blk_frozen BK271.out 2; have hfz116_3 := blk_frozen BK271.out 3; have hfz116_4 := blk_frozen BK271.out 4) | ((with_reducible refine gate_store (t := 3) (p := 14) rfl ?_); refine store_event (t := 3) (p := 14) (v := ?vo_w117) (w1 := (w115.setCell ⟨gb271, 4, none⟩ (.int .i64 (wrap64 (1 + (wrap64 (a1))))))) ?hg ?ho ?hn ?hr ?_; (case ho => rfl); (case hg => rfl); (case hn => rfl); (case hr => first | (go_simp; done) | (go_simp; rfl)); intro w117 hw; have n0_ : Aside0 (Kd.R k29 29 w117 w.heap.size (fun _ => True) (.slice Ao113 t264.length co113) t264) := ⟨(by rw [hw]; exact (by (with_reducible repeat (first | apply Kd.R_alloc | apply Kd.R_drewN | apply Kd.R_drew)); exact Kd.R_mono (Kd.R_far (p := ⟨gb271, 4, none⟩) (Kd.R_types HO266.out BK271.out (by decide)) (fun _ hk => hk.2) (.int .i64 (wrap64 (1 + (wrap64 (a1)))))) (fun _ hk => trivial)))⟩; have n1_ : Aside0 (Kd.R Kd.string 9 w117 w.heap.size (fun _ => True) (.slice Ao114 t267.length co114) t267) := ⟨(by rw [hw]; exact (by (with_reducible repeat (first | apply Kd.R_alloc | apply Kd.R_drewN | apply Kd.R_drew)); exact Kd.R_mono (Kd.R_far (p := ⟨gb271, 4, none⟩) (Kd.R_types HO269.out BK271.out (by decide)) (fun _ hk => hk.2) (.int .i64 (wrap64 (1 + (wrap64 (a1)))))) (fun _ hk => trivial)))⟩; have n2_ : Aside0 (w117.heap[gb271]? = some (.cells #[.int .i64 t262, .string t263, .slice Ao113 t264.length co113, .slice Ao114 t267.length co114, .int .i64 (wrap64 (1 + (wrap64 (a1))))] 26 (0, 0))) := ⟨(by rw [hw]; exact (by (with_reducible repeat (first | refine blk_drewN ?_ _ | refine blk_drew ?_ | refine blk_alloc ?_ _)); refine blk_put (cs := #[.int .i64 t262, .string t263, .slice Ao113 t264.length co113, .slice Ao114 t267.length co114, .int .i64 t270]) ?_ 4 _ rfl; (with_reducible repeat (first | refine blk_drewN ?_ _ | refine blk_drew ?_ | refine blk_alloc ?_ _)); exact BK271.out))⟩; have n3_ : Aside0 (Below w.heap.size w w117) := ⟨(q5b6b_ HB.out GE271.out)⟩; clear hw; clear HO266; clear HO269; clear BK271; clear HB; have HO266 := n0_; have HO269 := n1_; have BK271 := n2_; have HB := n3_; clear n0_ n1_ n2_ n3_; have hcz118_0 : w117.cell? ⟨gb271, 0, none⟩ = some (.int .i64 t262) := (blk_cell BK271.out 0).trans rfl; have hcz118_1 : w117.cell? ⟨gb271, 1, none⟩ = some (.string t263) := (blk_cell BK271.out 1).trans rfl; have hcz118_2 : w117.cell? ⟨gb271, 2, none⟩ = some (.slice Ao113 t264.length co113) := (blk_cell BK271.out 2).trans rfl; have hcz118_3 : w117.cell? ⟨gb271, 3, none⟩ = some (.slice Ao114 t267.length co114) := (blk_cell BK271.out 3).trans rfl; have hcz118_4 : w117.cell? ⟨gb271, 4, none⟩ = some (.int .i64 (wrap64 (1 + (wrap64 (a1))))) := (blk_cell BK271.out 4).trans rfl; have hfz118_0 := blk_frozen BK271.out 0; have hfz118_1 := blk_frozen BK271.out 1; have hfz118_2 := blk_frozen BK271.out 2; have hfz118_3 := blk_frozen BK271.out 3; have hfz118_4 := blk_frozen BK271.out 4) | ((with_reducible refine gate_dst (N := 8) rfl ?_); refine box_event ?hg (N := 8) ?hd (cs := #[.int .i64 0, .string (⟨#[]⟩ : ByteArray), .slice none 0 0, .slice none 0 0, .int .i64 0]) (t := 26) ?hr ?_; (case hd => rfl); (case hg => rfl); (case hr => first | (go_simp; done) | (go_simp; rfl)); intro gb272 hg w119 hbox hb; have n0_ := Aside0.mk (Kd.R_below (q8524_ HO266.out) hb); have n1_ := Aside0.mk (Kd.R_below (q8524_ HO269.out) hb); have n2_ := Aside0.mk (blk_below (g := gb271) (o := .cells #[.int .i64 t262, .string t263, .slice Ao113 t264.length co113, .slice Ao114 t267.length co114, .int .i64 (wrap64 (1 + (wrap64 (a1))))] 26 (0, 0)) (q1466_ BK271.out) hb); have n3_ := Aside0.mk (below_step (qed14_ HB.out GE271.out) hb); have n4_ := Aside0.mk (hbox); have n5_ := Aside0.mk ((by rw [hg]; exact (below_size (qed14_ HB.out GE271.out)) : w.heap.size ≤ gb272)); have n6_ := Aside0.mk ((by rw [hg]; exact (below_size (qed14_ HB.out GE271.out)) : w.heap.size ≤ gb272)); have n7_ := Aside0.mk ((by rw [hg]; exact Nat.ne_of_lt (blk_lt (g := gb271) (o := .cells #[.int .i64 t262, .string t263, .slice Ao113 t264.length co113, .slice Ao114 t267.length co114, .int .i64 (wrap64 (1 + (wrap64 (a1))))] 26 (0, 0)) (q1466_ BK271.out)) : gb271 ≠ gb272)); have n8_ := Aside0.mk ((by rw [hg]; exact Nat.ne_of_gt (blk_lt (g := gb271) (o := .cells #[.int .i64 t262, .string t263, .slice Ao113 t264.length co113, .slice Ao114 t267.length co114, .int .i64 (wrap64 (1 + (wrap64 (a1))))] 26 (0, 0)) (q1466_ BK271.out)) : gb272 ≠ gb271)); clear HO266; clear HO269; clear BK271; clear HB; have HO266 := n0_; have HO269 := n1_; have BK271 := n2_; have HB := n3_; have BK272 := n4_; have GW272 := n5_; have GE272 := n6_; have NB271_272 := n7_; have NB272_271 := n8_; clear n0_ n1_ n2_ n3_ n4_ n5_ n6_ n7_ n8_; clear hb hbox hg; have hnb120 := NB272_271.out; have hnc120 := NB271_272.out; have hcz121_0 : w119.cell? ⟨gb272, 0, none⟩ = some (.int .i64 0) := (blk_cell BK272.out 0).trans rfl; have hcz121_1 : w119.cell? ⟨gb272, 1, none⟩ = some (.string (⟨#[]⟩ : ByteArray)) := (blk_cell BK272.out 1).trans rfl; have hcz121_2 : w119.cell? ⟨gb272, 2, none⟩ = some (.slice none 0 0) := (blk_cell BK272.out 2).trans rfl; have hcz121_3 : w119.cell? ⟨gb272, 3, none⟩ = some (.slice none 0 0) := (blk_cell BK272.out 3).trans rfl; have hcz121_4 : w119.cell? ⟨gb272, 4, none⟩ = some (.int .i64 0) := (blk_cell BK272.out 4).trans rfl; have hfz121_0 := blk_frozen BK272.out 0; have hfz121_1 := blk_frozen BK272.out 1; have hfz121_2 := blk_frozen BK272.out 2; have hfz121_3 := blk_frozen BK272.out 3; have hfz121_4 := blk_frozen BK272.out 4))
  have n0_ : Aside0 (Kd.R k29 29 ((((((w119.setCell ⟨gb272, 0, none⟩ (.int .i64 t262)).setCell ⟨gb272, 1, none⟩ (.string t263)).setCell ⟨gb272, 2, none⟩ (.slice Ao113 t264.length co113)).setCell ⟨gb272, 3, none⟩ (.slice Ao114 t267.length co114)).setCell ⟨gb272, 4, none⟩ (.int .i64 (wrap64 (1 + (wrap64 (a1)))))).setCell ⟨gb272, 4, none⟩ (.int .i64 0)) w.heap.size (fun _ => True) (.slice Ao113 t264.length co113) t264) := ⟨by (with_reducible repeat (first | apply Kd.R_alloc | apply Kd.R_drewN | apply Kd.R_drew)); exact Kd.R_mono (Kd.R_far (p := ⟨gb272, 4, none⟩) (Kd.R_far (p := ⟨gb272, 4, none⟩) (Kd.R_far (p := ⟨gb272, 3, none⟩) (Kd.R_far (p := ⟨gb272, 2, none⟩) (Kd.R_far (p := ⟨gb272, 1, none⟩) (Kd.R_far (p := ⟨gb272, 0, none⟩) (Kd.R_types HO266.out BK272.out (by decide)) (fun _ hk => hk.2) (.int .i64 t262)) (fun _ hk => hk.2) (.string t263)) (fun _ hk => hk.2) (.slice Ao113 t264.length co113)) (fun _ hk => hk.2) (.slice Ao114 t267.length co114)) (fun _ hk => hk.2) (.int .i64 (wrap64 (1 + (wrap64 (a1)))))) (fun _ hk => hk.2) (.int .i64 0)) (fun _ hk => trivial)⟩
  have n1_ : Aside0 (Kd.R Kd.string 9 ((((((w119.setCell ⟨gb272, 0, none⟩ (.int .i64 t262)).setCell ⟨gb272, 1, none⟩ (.string t263)).setCell ⟨gb272, 2, none⟩ (.slice Ao113 t264.length co113)).setCell ⟨gb272, 3, none⟩ (.slice Ao114 t267.length co114)).setCell ⟨gb272, 4, none⟩ (.int .i64 (wrap64 (1 + (wrap64 (a1)))))).setCell ⟨gb272, 4, none⟩ (.int .i64 0)) w.heap.size (fun _ => True) (.slice Ao114 t267.length co114) t267) := ⟨by (with_reducible repeat (first | apply Kd.R_alloc | apply Kd.R_drewN | apply Kd.R_drew)); exact Kd.R_mono (Kd.R_far (p := ⟨gb272, 4, none⟩) (Kd.R_far (p := ⟨gb272, 4, none⟩) (Kd.R_far (p := ⟨gb272, 3, none⟩) (Kd.R_far (p := ⟨gb272, 2, none⟩) (Kd.R_far (p := ⟨gb272, 1, none⟩) (Kd.R_far (p := ⟨gb272, 0, none⟩) (Kd.R_types HO269.out BK272.out (by decide)) (fun _ hk => hk.2) (.int .i64 t262)) (fun _ hk => hk.2) (.string t263)) (fun _ hk => hk.2) (.slice Ao113 t264.length co113)) (fun _ hk => hk.2) (.slice Ao114 t267.length co114)) (fun _ hk => hk.2) (.int .i64 (wrap64 (1 + (wrap64 (a1)))))) (fun _ hk => hk.2) (.int .i64 0)) (fun _ hk => trivial)⟩
  have n2_ : Aside0 (((((((w119.setCell ⟨gb272, 0, none⟩ (.int .i64 t262)).setCell ⟨gb272, 1, none⟩ (.string t263)).setCell ⟨gb272, 2, none⟩ (.slice Ao113 t264.length co113)).setCell ⟨gb272, 3, none⟩ (.slice Ao114 t267.length co114)).setCell ⟨gb272, 4, none⟩ (.int .i64 (wrap64 (1 + (wrap64 (a1)))))).setCell ⟨gb272, 4, none⟩ (.int .i64 0)).heap[gb271]? = some (.cells #[.int .i64 t262, .string t263, .slice Ao113 t264.length co113, .slice Ao114 t267.length co114, .int .i64 (wrap64 (1 + (wrap64 (a1))))] 26 (0, 0))) := ⟨by (with_reducible repeat (first | refine blk_drewN ?_ _ | refine blk_drew ?_ | refine blk_alloc ?_ _)); refine blk_far ?_ NB271_272.out _; (with_reducible repeat (first | refine blk_drewN ?_ _ | refine blk_drew ?_ | refine blk_alloc ?_ _)); refine blk_far ?_ NB271_272.out _; (with_reducible repeat (first | refine blk_drewN ?_ _ | refine blk_drew ?_ | refine blk_alloc ?_ _)); refine blk_far ?_ NB271_272.out _; (with_reducible repeat (first | refine blk_drewN ?_ _ | refine blk_drew ?_ | refine blk_alloc ?_ _)); refine blk_far ?_ NB271_272.out _; (with_reducible repeat (first | refine blk_drewN ?_ _ | refine blk_drew ?_ | refine blk_alloc ?_ _)); refine blk_far ?_ NB271_272.out _; (with_reducible repeat (first | refine blk_drewN ?_ _ | refine blk_drew ?_ | refine blk_alloc ?_ _)); refine blk_far ?_ NB271_272.out _; (with_reducible repeat (first | refine blk_drewN ?_ _ | refine blk_drew ?_ | refine blk_alloc ?_ _)); exact BK271.out⟩
  have n3_ : Aside0 (((((((w119.setCell ⟨gb272, 0, none⟩ (.int .i64 t262)).setCell ⟨gb272, 1, none⟩ (.string t263)).setCell ⟨gb272, 2, none⟩ (.slice Ao113 t264.length co113)).setCell ⟨gb272, 3, none⟩ (.slice Ao114 t267.length co114)).setCell ⟨gb272, 4, none⟩ (.int .i64 (wrap64 (1 + (wrap64 (a1)))))).setCell ⟨gb272, 4, none⟩ (.int .i64 0)).heap[gb272]? = some (.cells #[.int .i64 t262, .string t263, .slice Ao113 t264.length co113, .slice Ao114 t267.length co114, .int .i64 0] 26 (0, 0))) := ⟨by (with_reducible repeat (first | refine blk_drewN ?_ _ | refine blk_drew ?_ | refine blk_alloc ?_ _)); refine blk_put (cs := #[.int .i64 t262, .string t263, .slice Ao113 t264.length co113, .slice Ao114 t267.length co114, .int .i64 (wrap64 (1 + (wrap64 (a1))))]) ?_ 4 _ rfl; (with_reducible repeat (first | refine blk_drewN ?_ _ | refine blk_drew ?_ | refine blk_alloc ?_ _)); refine blk_put (cs := #[.int .i64 t262, .string t263, .slice Ao113 t264.length co113, .slice Ao114 t267.length co114, .int .i64 0]) ?_ 4 _ rfl; (with_reducible repeat (first | refine blk_drewN ?_ _ | refine blk_drew ?_ | refine blk_alloc ?_ _)); refine blk_put (cs := #[.int .i64 t262, .string t263, .slice Ao113 t264.length co113, .slice none 0 0, .int .i64 0]) ?_ 3 _ rfl; (with_reducible repeat (first | refine blk_drewN ?_ _ | refine blk_drew ?_ | refine blk_alloc ?_ _)); refine blk_put (cs := #[.int .i64 t262, .string t263, .slice none 0 0, .slice none 0 0, .int .i64 0]) ?_ 2 _ rfl; (with_reducible repeat (first | refine blk_drewN ?_ _ | refine blk_drew ?_ | refine blk_alloc ?_ _)); refine blk_put (cs := #[.int .i64 t262, .string (⟨#[]⟩ : ByteArray), .slice none 0 0, .slice none 0 0, .int .i64 0]) ?_ 1 _ rfl; (with_reducible repeat (first | refine blk_drewN ?_ _ | refine blk_drew ?_ | refine blk_alloc ?_ _)); refine blk_put (cs := #[.int .i64 0, .string (⟨#[]⟩ : ByteArray), .slice none 0 0, .slice none 0 0, .int .i64 0]) ?_ 0 _ rfl; (with_reducible repeat (first | refine blk_drewN ?_ _ | refine blk_drew ?_ | refine blk_alloc ?_ _)); exact BK272.out⟩
  have n4_ : Aside0 (Below w.heap.size w ((((((w119.setCell ⟨gb272, 0, none⟩ (.int .i64 t262)).setCell ⟨gb272, 1, none⟩ (.string t263)).setCell ⟨gb272, 2, none⟩ (.slice Ao113 t264.length co113)).setCell ⟨gb272, 3, none⟩ (.slice Ao114 t267.length co114)).setCell ⟨gb272, 4, none⟩ (.int .i64 (wrap64 (1 + (wrap64 (a1)))))).setCell ⟨gb272, 4, none⟩ (.int .i64 0))) := ⟨(q8f57_ HB.out GE271.out GE272.out)⟩
  (try clear HO266)
  (try clear HO269)
  (try clear BK271)
  (try clear BK272)
  (try clear HB)
  generalize ((((((w119.setCell ⟨gb272, 0, none⟩ (.int .i64 t262)).setCell ⟨gb272, 1, none⟩ (.string t263)).setCell ⟨gb272, 2, none⟩ (.slice Ao113 t264.length co113)).setCell ⟨gb272, 3, none⟩ (.slice Ao114 t267.length co114)).setCell ⟨gb272, 4, none⟩ (.int .i64 (wrap64 (1 + (wrap64 (a1)))))).setCell ⟨gb272, 4, none⟩ (.int .i64 0)) = w122 at n0_ n1_ n2_ n3_ n4_ ⊢
  have HO266 := n0_
  have HO269 := n1_
  have BK271 := n2_
  have BK272 := n3_
  have HB := n4_
  clear n0_ n1_ n2_ n3_ n4_
  have n0_ := Aside0.mk (Kd.R_drew HO266.out)
  have n1_ := Aside0.mk (Kd.R_drew HO269.out)
  have n2_ := Aside0.mk (blk_drew BK271.out)
  have n3_ := Aside0.mk (blk_drew BK272.out)
  have n4_ := Aside0.mk (below_drew1 HB.out)
  clear HO266
  clear HO269
  clear BK271
  clear BK272
  clear HB
  have HO266 := n0_
  have HO269 := n1_
  have BK271 := n2_
  have BK272 := n3_
  have HB := n4_
  clear n0_ n1_ n2_ n3_ n4_
  refine start_ (n := 39) (S := fun w' => w'.cell? ⟨gb271, 0, none⟩ = some (.int .i64 t262) ∧ w'.cell? ⟨gb271, 1, none⟩ = some (.string t263) ∧ w'.cell? ⟨gb271, 2, none⟩ = some (.slice Ao113 t264.length co113) ∧ w'.cell? ⟨gb271, 3, none⟩ = some (.slice Ao114 t267.length co114) ∧ w'.cell? ⟨gb271, 4, none⟩ = some (.int .i64 (wrap64 (1 + (wrap64 (a1)))))) (ds := []) (ml_ 39 0) (by kernel_rfl) rfl rfl ⟨(blk_cell BK271.out 0).trans rfl, (blk_cell BK271.out 1).trans rfl, (blk_cell BK271.out 2).trans rfl, (blk_cell BK271.out 3).trans rfl, (blk_cell BK271.out 4).trans rfl⟩ (fun hHeld => ?_); refine with_tabW caravanlaw5_ItemTime.tab5 caravanlaw5_ItemTime.bits5 (fun HT_ HW_ => ?_)
  generalize w122.drew = w123 at HO266 HO269 BK271 BK272 HB hHeld ⊢
  refine pA_ 1 18 (ml_ 39 2) rfl rfl HT_.out ?_
  refine pA_ 2 19 (ml_ 39 6) rfl rfl HT_.out ?_
  refine pA_ 4 21 (ml_ 39 22) rfl rfl HT_.out ?_
  refine pA_ 5 22 (ml_ 39 54) rfl rfl HT_.out ?_
  refine pA_ 6 23 (ml_ 39 118) rfl rfl HT_.out ?_
  refine pA_ 7 24 (ml_ 39 246) rfl rfl HT_.out ?_
  refine pA_ 8 25 (ml_ 39 502) rfl rfl HT_.out ?_
  refine t5_ 0 17 (ml_ 39 503) rfl rfl HT_.out HW_.out hHeld ?_
  refine one_ (i := 3) (N := some 20) (ml_ 39 511) rfl rfl (one_of HT_.out (by kernel_rfl)) (by decide) (fun K hK => ?_)
  refine goes_ Try.func13 (by kernel_rfl) rfl #[.agg #[.int .i64 t262, .string t263, .slice Ao113 t264.length co113, .slice Ao114 t267.length co114, .int .i64 (wrap64 (1 + (wrap64 (a1))))], .int .i64 (wrap64 (a2))] (by rfl) rfl rfl qM_ ?_
  with_reducible refine (item_Alive.calls t262 t263 _ _ t264 _ _ t267 (wrap64 (1 + (wrap64 (a1)))) (wrap64 (a2)) t273 _ ?side1 ?side2 ?side3 ?side4 A5.out).mono ?_
  (case side1 => exact qC_ ((Kd.R_reads' HO266.out).2.2))
  (case side2 => exact (Kd.R_reads' HO266.out).2.1)
  (case side3 => exact qC_ ((Kd.R_reads' HO269.out).2.2))
  (case side4 => exact (Kd.R_reads' HO269.out).2.1)
  rintro e w124 ⟨rfl, hb⟩
  refine ⟨_, rfl, ?_⟩
  have n0_ := Aside0.mk (Kd.R_below (q8524_ HO266.out) hb)
  have n1_ := Aside0.mk (Kd.R_below (q8524_ HO269.out) hb)
  have n2_ := Aside0.mk (blk_below (g := gb271) (o := .cells #[.int .i64 t262, .string t263, .slice Ao113 t264.length co113, .slice Ao114 t267.length co114, .int .i64 (wrap64 (1 + (wrap64 (a1))))] 26 (0, 0)) (q1466_ BK271.out) hb)
  have n3_ := Aside0.mk (blk_below (g := gb272) (o := .cells #[.int .i64 t262, .string t263, .slice Ao113 t264.length co113, .slice Ao114 t267.length co114, .int .i64 0] 26 (0, 0)) (q1466_ BK272.out) hb)
  have n4_ := Aside0.mk (below_step (q8f57_ HB.out GE271.out GE272.out) hb)
  clear HO266
  clear HO269
  clear BK271
  clear BK272
  clear HB
  have HO266 := n0_
  have HO269 := n1_
  have BK271 := n2_
  have BK272 := n3_
  have HB := n4_
  clear n0_ n1_ n2_ n3_ n4_
  (try clear hb)
  (try clear hb2)
  (try clear hk)
  (try clear hi)
  refine hK.out _ _ ⟨(blk_cell BK271.out 0).trans rfl, (blk_cell BK271.out 1).trans rfl, (blk_cell BK271.out 2).trans rfl, (blk_cell BK271.out 3).trans rfl, (blk_cell BK271.out 4).trans rfl⟩ (fun hHeld => ?_)
  clear hK K
  refine nA_ 20 ?_
  refine pA_ 9 26 (ml_ 39 1023) rfl rfl HT_.out ?_
  refine pA_ 10 27 (ml_ 39 2047) rfl rfl HT_.out ?_
  refine pU_ 11 28 (ml_ 39 4095) rfl rfl HT_.out ?_
  refine pU_ 12 29 (ml_ 39 8191) rfl rfl HT_.out ?_
  refine pU_ 13 30 (ml_ 39 16383) rfl rfl HT_.out ?_
  refine pU_ 14 31 (ml_ 39 32767) rfl rfl HT_.out ?_
  refine pA_ 15 32 (ml_ 39 65535) rfl rfl HT_.out ?_
  refine pA_ 16 33 (ml_ 39 131071) rfl rfl HT_.out ?_
  refine pU_ 17 34 (ml_ 39 262143) rfl rfl HT_.out ?_
  refine pU_ 18 35 (ml_ 39 524287) rfl rfl HT_.out ?_
  refine pA_ 19 36 (ml_ 39 1048575) rfl rfl HT_.out ?_
  refine pA_ 20 37 (ml_ 39 2097151) rfl rfl HT_.out ?_
  refine pU_ 21 38 (ml_ 39 4194303) rfl rfl HT_.out ?_
  refine pU_ 22 39 (ml_ 39 8388607) rfl rfl HT_.out ?_
  refine pU_ 23 40 (ml_ 39 16777215) rfl rfl HT_.out ?_
  refine pU_ 24 41 (ml_ 39 33554431) rfl rfl HT_.out ?_
  refine pU_ 25 42 (ml_ 39 67108863) rfl rfl HT_.out ?_
  refine pU_ 26 43 (ml_ 39 134217727) rfl rfl HT_.out ?_
  refine pU_ 27 44 (ml_ 39 268435455) rfl rfl HT_.out ?_
  refine pA_ 28 45 (ml_ 39 536870911) rfl rfl HT_.out ?_
  refine pA_ 29 46 (ml_ 39 1073741823) rfl rfl HT_.out ?_
  refine pU_ 30 47 (ml_ 39 2147483647) rfl rfl HT_.out ?_
  refine pU_ 31 48 (ml_ 39 4294967295) rfl rfl HT_.out ?_
  refine pU_ 32 49 (ml_ 39 8589934591) rfl rfl HT_.out ?_
  refine pU_ 33 50 (ml_ 39 17179869183) rfl rfl HT_.out ?_
  refine pA_ 34 51 (ml_ 39 34359738367) rfl rfl HT_.out ?_
  refine pA_ 35 52 (ml_ 39 68719476735) rfl rfl HT_.out ?_
  refine pU_ 36 53 (ml_ 39 137438953471) rfl rfl HT_.out ?_
  refine pA_ 37 54 (ml_ 39 274877906943) rfl rfl HT_.out ?_
  refine pA_ 38 6 (ml_ 39 549755813887) rfl rfl HT_.out ?_
  refine done_ (done_of HT_.out (by kernel_rfl)) ?_
  try go_wp2
  go_ret
  exact ⟨by first | rfl | (simp [errW_none, errW_some] <;> rfl) | (simp [*, errW_none, errW_some] <;> rfl), (q8f57_ HB.out GE271.out GE272.out)⟩

/-- THE ONE PURE STATEMENT of caravanlaw5_ItemTime: yours. -/
def caravanlaw5_ItemTime.Pure : Prop := ∀ (l0 : List Int) (a1 : Int) (a2 : Int), l0.length ≤ maxLen → l0.length * 1 ≤ 140737488351232 → (∀ x ∈ l0, (Lit.int .u8 x).wf = true) → (Lit.int .u16 a1).wf = true → (Lit.int .u16 a2).wf = true → ∃ k, caravanlaw5_ItemTime.f k l0 a1 a2 = some true
theorem caravanlaw5_ItemTime.walk (P : caravanlaw5_ItemTime.Pure) (a0 : Option Addr) (len0 cap0 : Nat) (z0 : List Int) (a1 : Int) (a2 : Int) (w : World) (w0 : (a0 = none ∧ len0 = 0 ∧ cap0 = 0 ∧ z0 = []) ∨ ∃ x, a0 = some x ∧ len0 ≤ cap0 ∧ cap0 ≤ maxLen ∧ z0.length = cap0 ∧ (∀ i, i < z0.length → w.cell? (x.add i) = some (.int .u8 (z0.getD i 0))) ∧ ∀ n ∈ z0, (Lit.int .u8 n).wf = true) (y0 : len0 * 1 ≤ 140737488351232) (w1 : (Lit.int .u16 a1).wf = true) (w2 : (Lit.int .u16 a2).wf = true) :
 Calls Try.prog 7 #[.slice a0 len0 cap0, .int .u16 a1, .int .u16 a2] w fun e w' => e = .returned (.bool true) ∧ Below w.heap.size w w' := by
 obtain ⟨l0, rfl, hr0, hm0, hw0, hc0⟩ := ReadsInt.ofRowC w0
 obtain ⟨k, h⟩ := P l0 a1 a2 hm0 y0 hw0 w1 w2
 refine (caravanlaw5_ItemTime.calls k _ _ l0 a1 a2 true w (Kd.C_of_reads (d := (0 : Int)) (h1 := fun _ => rfl) hr0) hc0 h).mono ?_
 rintro e w' ⟨rfl, hd⟩
 exact ⟨rfl, hd⟩

end Go.Proofs.Ytbmimcpllpgcaaa.G
