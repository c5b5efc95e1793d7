/- What functions of the translation come to, and their calls' proofs; by a program of mine over the kit's print, with contracts given by hand beside. Conditions: where a plain function tells none, nothing is said. -/
import Derived.Test.YtbmimcpllpgcaaaG0
import Derived.Test.YtbmimcpllpgcaaaG3
import Derived.Test.YtbmimcpllpgcaaaG5
import Derived.Test.YtbmimcpllpgcaaaGMay
namespace Go.Proofs.Ytbmimcpllpgcaaa.G
open Go.RowKit Go.Proofs.YtbmimcpllpgcaaaW.PrintWords Go.Proofs.YtbmimcpllpgcaaaW.PrintLast Go.Proofs.YtbmimcpllpgcaaaW.PrintMore
attribute [local go_sem] max2_int min2_int max_two min_two max_three min_three max_four min_four   -- for this text's walks alone
set_option linter.unusedVariables false
set_option linter.unusedSimpArgs false

/-! ### caravanlaw5_ItemLimits: function 3 -/
mutual
def caravanlaw5_ItemLimits.l0 : Nat → Int → Int → Int → Int → ByteArray → Option (Bool)
 | 0, _, _, _, _, _ => none
 | k + 1, x0, x3, x9, x10, x11 => if (x11.size : Int) < x10 then (if x11.size + 1 ≤ 9223372036854775807 then (caravanlaw5_ItemLimits.l0 k x0 x3 x9 x10 (x11 ++ (⟨#[120]⟩ : ByteArray))) else (none)) else (caravanlaw5_ItemLimits.l1 k x3 x9 x10 x11 0 (wrap64 (2 + (Int.tmod (wrap64 (x0)) 3))) (⟨#[]⟩ : ByteArray) ([] : List (S29)) ([] : List ByteArray) x3 1 x11 x3)
def caravanlaw5_ItemLimits.l1 : Nat → Int → Int → Int → ByteArray → Int → Int → ByteArray → List (S29) → List ByteArray → Int → Int → ByteArray → Int → Option (Bool)
 | 0, _, _, _, _, _, _, _, _, _, _, _, _, _ => none
 | k + 1, x3, x9, x10, x11, x14, x281000, x281001, x281002, x281003, x281004, x282000, x282001, x282004 => if x14 < x9 then ((caravanref1_Digits.f k (wrap64 (100 + x14))).bind fun t282 => (if x281000 = 2 then (if x281002.length < 4398046511104 then (caravanlaw5_ItemLimits.l1 k x3 x9 x10 x11 (wrap64 (x14 + 1)) x281000 x281001 (x281002 ++ [(⟨t282, x11⟩ : S29)]) x281003 x281004 x282000 x282001 x282004) else (none)) else (if t282.size + x11.size ≤ 9223372036854775807 then (if x281003.length < 8796093022208 then (caravanlaw5_ItemLimits.l1 k x3 x9 x10 x11 (wrap64 (x14 + 1)) x281000 x281001 x281002 (x281003 ++ [t282 ++ x11]) x281004 x282000 x282001 x282004) else (none)) else (none)))) else (if x3 ≥ 0 then (caravanlaw5_ItemLimits.j2 k x9 x10 (decide (x3 ≤ 9007199254740992)) x281000 x281001 x281002 x281003 x281004 x282000 x282001 x282004) else (caravanlaw5_ItemLimits.j2 k x9 x10 false x281000 x281001 x281002 x281003 x281004 x282000 x282001 x282004))
def caravanlaw5_ItemLimits.j2 : Nat → Int → Int → Bool → Int → ByteArray → List (S29) → List ByteArray → Int → Int → ByteArray → Int → Option (Bool)
 | 0, _, _, _, _, _, _, _, _, _, _, _ => none
 | k + 1, x9, x10, x16, x281000, x281001, x281002, x281003, x281004, x282000, x282001, x282004 => if x281000 = 2 then (caravanlaw5_ItemLimits.j3 k x9 x10 x16 (decide (x10 ≤ 300)) x281000 x281001 x281002 x281003 x281004 x282000 x282001 x282004) else (caravanlaw5_ItemLimits.j3 k x9 x10 x16 (decide (x10 ≤ 297)) x281000 x281001 x281002 x281003 x281004 x282000 x282001 x282004)
def caravanlaw5_ItemLimits.j3 : Nat → Int → Int → Bool → Bool → Int → ByteArray → List (S29) → List ByteArray → Int → Int → ByteArray → Int → Option (Bool)
 | 0, _, _, _, _, _, _, _, _, _, _, _, _ => none
 | k + 1, x9, x10, x16, x17, x281000, x281001, x281002, x281003, x281004, x282000, x282001, x282004 => (item_May.f x282000 x282001 ([] : List (S29)) ([] : List ByteArray) x282004).bind fun t289 => (if x10 ≤ 300 then (if (t289 == x16) = true then ((item_May.f x281000 x281001 x281002 x281003 x281004).bind fun t290 => (if x9 ≥ 1 then (if x9 ≤ 40 then (if x17 = true then (if (t290 == x16) = true then ((caravanlaw5_awake.f k).bind fun t291 => (some t291)) else (some false)) else (if (t290 == false) = true then ((caravanlaw5_awake.f k).bind fun t292 => (some t292)) else (some false))) else (if (t290 == false) = true then ((caravanlaw5_awake.f k).bind fun t293 => (some t293)) else (some false))) else (if (t290 == false) = true then ((caravanlaw5_awake.f k).bind fun t294 => (some t294)) else (some false)))) else (some false)) else (if (t289 == false) = true then ((item_May.f x281000 x281001 x281002 x281003 x281004).bind fun t295 => (if x9 ≥ 1 then (if x9 ≤ 40 then (if x17 = true then (if (t295 == x16) = true then ((caravanlaw5_awake.f k).bind fun t296 => (some t296)) else (some false)) else (if (t295 == false) = true then ((caravanlaw5_awake.f k).bind fun t297 => (some t297)) else (some false))) else (if (t295 == false) = true then ((caravanlaw5_awake.f k).bind fun t298 => (some t298)) else (some false))) else (if (t295 == false) = true then ((caravanlaw5_awake.f k).bind fun t299 => (some t299)) else (some false)))) else (some false)))
end
def caravanlaw5_ItemLimits.f (k : Nat) (a0 : Int) (a1 : Int) (a2 : Int) (a3 : Int) : Option (Bool) := caravanlaw5_ItemLimits.l0 k a0 a3 (Int.tmod (wrap64 (a1)) 50) (Int.tmod (wrap64 (a2)) 400) (⟨#[]⟩ : ByteArray)
theorem caravanlaw5_ItemLimits.mono_l : ∀ k, (∀ y0 y1 y2 y3 y4, LeO (caravanlaw5_ItemLimits.l0 k y0 y1 y2 y3 y4) (caravanlaw5_ItemLimits.l0 (k + 1) y0 y1 y2 y3 y4)) ∧ (∀ y0 y1 y2 y3 y4 y5 y6 y7 y8 y9 y10 y11 y12, LeO (caravanlaw5_ItemLimits.l1 k y0 y1 y2 y3 y4 y5 y6 y7 y8 y9 y10 y11 y12) (caravanlaw5_ItemLimits.l1 (k + 1) y0 y1 y2 y3 y4 y5 y6 y7 y8 y9 y10 y11 y12)) ∧ (∀ y0 y1 y2 y3 y4 y5 y6 y7 y8 y9 y10, LeO (caravanlaw5_ItemLimits.j2 k y0 y1 y2 y3 y4 y5 y6 y7 y8 y9 y10) (caravanlaw5_ItemLimits.j2 (k + 1) y0 y1 y2 y3 y4 y5 y6 y7 y8 y9 y10)) ∧ (∀ y0 y1 y2 y3 y4 y5 y6 y7 y8 y9 y10 y11, LeO (caravanlaw5_ItemLimits.j3 k y0 y1 y2 y3 y4 y5 y6 y7 y8 y9 y10 y11) (caravanlaw5_ItemLimits.j3 (k + 1) y0 y1 y2 y3 y4 y5 y6 y7 y8 y9 y10 y11))
 | 0 => ⟨fun _ _ _ _ _ r h => by simp [caravanlaw5_ItemLimits.l0] at h, fun _ _ _ _ _ _ _ _ _ _ _ _ _ r h => by simp [caravanlaw5_ItemLimits.l1] at h, fun _ _ _ _ _ _ _ _ _ _ _ r h => by simp [caravanlaw5_ItemLimits.j2] at h, fun _ _ _ _ _ _ _ _ _ _ _ _ r h => by simp [caravanlaw5_ItemLimits.j3] at h⟩
 | k + 1 => by
  obtain ⟨ih0, ih1, ih2, ih3⟩ := caravanlaw5_ItemLimits.mono_l k
  refine ⟨?_, ?_, ?_, ?_⟩
  ·intro y0 y1 y2 y3 y4
   unfold caravanlaw5_ItemLimits.l0
   repeat' first
   | (with_reducible exact ih0 _ _ _ _ _)
   | (with_reducible exact ih1 _ _ _ _ _ _ _ _ _ _ _ _ _)
   | (with_reducible exact ih2 _ _ _ _ _ _ _ _ _ _ _)
   | (with_reducible exact ih3 _ _ _ _ _ _ _ _ _ _ _ _)
   | (with_reducible exact caravanlaw5_awake.mono _)
   | (with_reducible exact caravanref1_Digits.mono _ _)
   | (with_reducible exact LeO.refl _)
   | (with_reducible exact LeO.none _)
   | (with_reducible refine LeO.ite ?_ ?_)
   | (with_reducible refine LeO.bind ?_ (fun _ => ?_))
   | exact ih0 _ _ _ _ _
   | exact ih1 _ _ _ _ _ _ _ _ _ _ _ _ _
   | exact ih2 _ _ _ _ _ _ _ _ _ _ _
   | exact ih3 _ _ _ _ _ _ _ _ _ _ _ _
   | exact caravanlaw5_awake.mono _
   | exact caravanref1_Digits.mono _ _
   | exact LeO.none _
   | refine LeO.ite ?_ ?_
   | refine LeO.bind ?_ (fun _ => ?_)
  ·intro y0 y1 y2 y3 y4 y5 y6 y7 y8 y9 y10 y11 y12
   unfold caravanlaw5_ItemLimits.l1
   repeat' first
   | (with_reducible exact ih0 _ _ _ _ _)
   | (with_reducible exact ih1 _ _ _ _ _ _ _ _ _ _ _ _ _)
   | (with_reducible exact ih2 _ _ _ _ _ _ _ _ _ _ _)
   | (with_reducible exact ih3 _ _ _ _ _ _ _ _ _ _ _ _)
   | (with_reducible exact caravanlaw5_awake.mono _)
   | (with_reducible exact caravanref1_Digits.mono _ _)
   | (with_reducible exact LeO.refl _)
   | (with_reducible exact LeO.none _)
   | (with_reducible refine LeO.ite ?_ ?_)
   | (with_reducible refine LeO.bind ?_ (fun _ => ?_))
   | exact ih0 _ _ _ _ _
   | exact ih1 _ _ _ _ _ _ _ _ _ _ _ _ _
   | exact ih2 _ _ _ _ _ _ _ _ _ _ _
   | exact ih3 _ _ _ _ _ _ _ _ _ _ _ _
   | exact caravanlaw5_awake.mono _
   | exact caravanref1_Digits.mono _ _
   | exact LeO.none _
   | refine LeO.ite ?_ ?_
   | refine LeO.bind ?_ (fun _ => ?_)
  ·intro y0 y1 y2 y3 y4 y5 y6 y7 y8 y9 y10
   unfold caravanlaw5_ItemLimits.j2
   repeat' first
   | (with_reducible exact ih0 _ _ _ _ _)
   | (with_reducible exact ih1 _ _ _ _ _ _ _ _ _ _ _ _ _)
   | (with_reducible exact ih2 _ _ _ _ _ _ _ _ _ _ _)
   | (with_reducible exact ih3 _ _ _ _ _ _ _ _ _ _ _ _)
   | (with_reducible exact caravanlaw5_awake.mono _)
   | (with_reducible exact caravanref1_Digits.mono _ _)
   | (with_reducible exact LeO.refl _)
   | (with_reducible exact LeO.none _)
   | (with_reducible refine LeO.ite ?_ ?_)
   | (with_reducible refine LeO.bind ?_ (fun _ => ?_))
   | exact ih0 _ _ _ _ _
   | exact ih1 _ _ _ _ _ _ _ _ _ _ _ _ _
   | exact ih2 _ _ _ _ _ _ _ _ _ _ _
   | exact ih3 _ _ _ _ _ _ _ _ _ _ _ _
   | exact caravanlaw5_awake.mono _
   | exact caravanref1_Digits.mono _ _
   | exact LeO.none _
   | refine LeO.ite ?_ ?_
   | refine LeO.bind ?_ (fun _ => ?_)
  ·intro y0 y1 y2 y3 y4 y5 y6 y7 y8 y9 y10 y11
   unfold caravanlaw5_ItemLimits.j3
   repeat' first
   | (with_reducible exact ih0 _ _ _ _ _)
   | (with_reducible exact ih1 _ _ _ _ _ _ _ _ _ _ _ _ _)
   | (with_reducible exact ih2 _ _ _ _ _ _ _ _ _ _ _)
   | (with_reducible exact ih3 _ _ _ _ _ _ _ _ _ _ _ _)
   | (with_reducible exact caravanlaw5_awake.mono _)
   | (with_reducible exact caravanref1_Digits.mono _ _)
   | (with_reducible exact LeO.refl _)
   | (with_reducible exact LeO.none _)
   | (with_reducible refine LeO.ite ?_ ?_)
   | (with_reducible refine LeO.bind ?_ (fun _ => ?_))
   | exact ih0 _ _ _ _ _
   | exact ih1 _ _ _ _ _ _ _ _ _ _ _ _ _
   | exact ih2 _ _ _ _ _ _ _ _ _ _ _
   | exact ih3 _ _ _ _ _ _ _ _ _ _ _ _
   | exact caravanlaw5_awake.mono _
   | exact caravanref1_Digits.mono _ _
   | exact LeO.none _
   | refine LeO.ite ?_ ?_
   | refine LeO.bind ?_ (fun _ => ?_)
theorem caravanlaw5_ItemLimits.mono : ∀ a0 a1 a2 a3 k, LeO (caravanlaw5_ItemLimits.f k a0 a1 a2 a3) (caravanlaw5_ItemLimits.f (k + 1) a0 a1 a2 a3) := by
 intro a0 a1 a2 a3 k
 obtain ⟨ih0, ih1, ih2, ih3⟩ := caravanlaw5_ItemLimits.mono_l k
 unfold caravanlaw5_ItemLimits.f
 repeat' first
  | (with_reducible exact ih0 _ _ _ _ _)
  | (with_reducible exact ih1 _ _ _ _ _ _ _ _ _ _ _ _ _)
  | (with_reducible exact ih2 _ _ _ _ _ _ _ _ _ _ _)
  | (with_reducible exact ih3 _ _ _ _ _ _ _ _ _ _ _ _)
  | (with_reducible exact caravanlaw5_awake.mono _)
  | (with_reducible exact caravanref1_Digits.mono _ _)
  | (with_reducible exact LeO.refl _)
  | (with_reducible exact LeO.none _)
  | (with_reducible refine LeO.ite ?_ ?_)
  | (with_reducible refine LeO.bind ?_ (fun _ => ?_))
  | exact ih0 _ _ _ _ _
  | exact ih1 _ _ _ _ _ _ _ _ _ _ _ _ _
  | exact ih2 _ _ _ _ _ _ _ _ _ _ _
  | exact ih3 _ _ _ _ _ _ _ _ _ _ _ _
  | exact caravanlaw5_awake.mono _
  | exact caravanref1_Digits.mono _ _
  | exact LeO.none _
  | refine LeO.ite ?_ ?_
  | refine LeO.bind ?_ (fun _ => ?_)
set_option maxHeartbeats 8000000 in
set_option maxRecDepth 100000 in
theorem caravanlaw5_ItemLimits.calls (k : Nat) (a0 : Int) (a1 : Int) (a2 : Int) (a3 : Int) (r : Bool) (w : World) (h : caravanlaw5_ItemLimits.f k a0 a1 a2 a3 = some r) :
 Calls Try.prog 3 #[.int .u8 a0, .int .u8 a1, .int .u16 a2, .int .i64 a3] w fun e w' => e = .returned (.bool r) ∧ Below w.heap.size w w' := by
 have hu26 := Try.underlying26
 have hu29 := Try.underlying29
 have HB := Aside0.mk (Below.refl w.heap.size w)
 have H : (caravanlaw5_ItemLimits.l0 k a0 a3 (Int.tmod (wrap64 (a1)) 50) (Int.tmod (wrap64 (a2)) 400) (⟨#[]⟩ : ByteArray)) = some r := h
 clear h
 have H' := Aside0.mk H
 clear H
 go_enter Try.func3, Try.ntmps3
 go_wp2
 go_loopg [11] k (fun kq v11 w' => ∃ (x11_1 : ByteArray), v11 = .string x11_1 ∧ Aside0 (caravanlaw5_ItemLimits.l0 kq a0 a3 (Int.tmod (wrap64 (a1)) 50) (Int.tmod (wrap64 (a2)) 400) x11_1 = some r) ∧ Aside0 (kq ≤ k) ∧ Aside0 (Below w.heap.size w w'))
 case atStart => exact ⟨((⟨#[]⟩ : ByteArray)), (by first | rfl | (simp; done) | (simp [*]; done)), H', ⟨Nat.le_refl _⟩, ⟨(q2_ HB.out)⟩⟩
 case round =>
  clear H'
  try clear p2
  try clear c3
  obtain ⟨x11_1, rfl, HA, HK1, HB⟩ := hrel
  cases gk with
  | zero => exact absurd HA.out (by simp [caravanlaw5_ItemLimits.l0])
  | succ k1 =>
   have H := HA.out
   clear HA
   simp only [caravanlaw5_ItemLimits.l0] at H
   by_cases c5 : (x11_1.size : Int) < (Int.tmod (wrap64 (a2)) 400)
   ·rw [if_pos c5] at H
    have c5b0 : decide ((x11_1.size : Int) < (Int.tmod (wrap64 (a2)) 400)) = true := decide_eq_true c5
    clear c5
    by_cases c6 : x11_1.size + 1 ≤ 9223372036854775807
    ·rw [if_pos c6] at H
     have c6b0 := eq_true c6
     have c6b1 : decide (x11_1.size + 1 ≤ 9223372036854775807) = true := decide_eq_true c6
     try have c6b2 : (9223372036854775807 < x11_1.size + 1) = False := eq_false (Nat.not_lt.2 c6)
     have H' := Aside0.mk H
     clear H
     go_wp2
     go_roundg k1
     case measure => have := HK1.out; omega
     case rel => exact ⟨(x11_1 ++ (⟨#[120]⟩ : ByteArray)), (by first | rfl | (simp; done) | (simp [*]; done)), H', ⟨by have := HK1.out; omega⟩, ⟨(q2_ HB.out)⟩⟩
    ·rw [if_neg c6] at H
     exact absurd H (by simp)
   ·rw [if_neg c5] at H
    have c5b0 : decide ((x11_1.size : Int) < (Int.tmod (wrap64 (a2)) 400)) = false := decide_eq_false c5
    clear c5
    have H' := Aside0.mk H
    clear H
    go_wp2_with (first | ((with_reducible refine gate_dst (N := 12) rfl ?_); refine box_event ?hg (N := 12) ?hd (cs := #[.int .i64 0, .string (⟨#[]⟩ : ByteArray), .slice none 0 0, .slice none 0 0, .int .i64 0]) (t := 26) ?hr ?_; (case hd => rfl); (case hg => rfl); (case hr => first | (go_simp; done) | (go_simp; rfl)); intro gb280 hg w7 hbox hb; have n0_ := Aside0.mk (below_step (q2_ HB.out) hb); have n1_ := Aside0.mk (hbox); have n2_ := Aside0.mk ((by rw [hg]; exact (below_size (q2_ HB.out)) : w.heap.size ≤ gb280)); have n3_ := Aside0.mk ((by rw [hg]; exact (below_size (q2_ HB.out)) : w.heap.size ≤ gb280)); clear HB; have HB := n0_; have BK280 := n1_; have GW280 := n2_; have GE280 := n3_; clear n0_ n1_ n2_ n3_; clear hb hbox hg; have hcz8_0 : w7.cell? ⟨gb280, 0, none⟩ = some (.int .i64 0) := (blk_cell BK280.out 0).trans rfl; have hcz8_1 : w7.cell? ⟨gb280, 1, none⟩ = some (.string (⟨#[]⟩ : ByteArray)) := (blk_cell BK280.out 1).trans rfl; have hcz8_2 : w7.cell? ⟨gb280, 2, none⟩ = some (.slice none 0 0) := (blk_cell BK280.out 2).trans rfl; have hcz8_3 : w7.cell? ⟨gb280, 3, none⟩ = some (.slice none 0 0) := (blk_cell BK280.out 3).trans rfl; have hcz8_4 : w7.cell? ⟨gb280, 4, none⟩ = some (.int .i64 0) := (blk_cell BK280.out 4).trans rfl; have hfz8_0 := blk_frozen BK280.out 0; have hfz8_1 := blk_frozen BK280.out 1; have hfz8_2 := blk_frozen BK280.out 2; have hfz8_3 := blk_frozen BK280.out 3; have hfz8_4 := blk_frozen BK280.out 4) | ((with_reducible refine gate_dst (N := 13) rfl ?_); refine box_event ?hg (N := 13) ?hd (cs := #[.int .i64 0, .string (⟨#[]⟩ : ByteArray), .slice none 0 0, .slice none 0 0, .int .i64 0]) (t := 26) ?hr ?_; (case hd => rfl); (case hg => rfl); (case hr => first | (go_simp; done) | (go_simp; rfl)); intro gb281 hg w9 hbox hb; have n0_ := Aside0.mk (blk_below (g := gb280) (o := .cells #[.int .i64 (wrap64 (2 + (Int.tmod (wrap64 (a0)) 3))), .string (⟨#[]⟩ : ByteArray), .slice none 0 0, .slice none 0 0, .int .i64 a3] 26 (0, 0)) (by (with_reducible repeat (first | refine blk_drewN ?_ _ | refine blk_drew ?_ | refine blk_alloc ?_ _)); refine blk_put (cs := #[.int .i64 (wrap64 (2 + (Int.tmod (wrap64 (a0)) 3))), .string (⟨#[]⟩ : ByteArray), .slice none 0 0, .slice none 0 0, .int .i64 0]) ?_ 4 _ rfl; (with_reducible repeat (first | refine blk_drewN ?_ _ | refine blk_drew ?_ | refine blk_alloc ?_ _)); refine blk_put (cs := #[.int .i64 (wrap64 (2 + (Int.tmod (wrap64 (a0)) 3))), .string (⟨#[]⟩ : ByteArray), .slice none 0 0, .slice none 0 0, .int .i64 0]) ?_ 3 _ rfl; (with_reducible repeat (first | refine blk_drewN ?_ _ | refine blk_drew ?_ | refine blk_alloc ?_ _)); refine blk_put (cs := #[.int .i64 (wrap64 (2 + (Int.tmod (wrap64 (a0)) 3))), .string (⟨#[]⟩ : ByteArray), .slice none 0 0, .slice none 0 0, .int .i64 0]) ?_ 2 _ rfl; (with_reducible repeat (first | refine blk_drewN ?_ _ | refine blk_drew ?_ | refine blk_alloc ?_ _)); refine blk_put (cs := #[.int .i64 (wrap64 (2 + (Int.tmod (wrap64 (a0)) 3))), .string (⟨#[]⟩ : ByteArray), .slice none 0 0, .slice none 0 0, .int .i64 0]) ?_ 1 _ rfl; (with_reducible repeat (first | refine blk_drewN ?_ _ | refine blk_drew ?_ | refine blk_alloc ?_ _)); refine blk_put (cs := #[.int .i64 0, .string (⟨#[]⟩ : ByteArray), .slice none 0 0, .slice none 0 0, .int .i64 0]) ?_ 0 _ rfl; (with_reducible repeat (first | refine blk_drewN ?_ _ | refine blk_drew ?_ | refine blk_alloc ?_ _)); exact BK280.out) hb); have n1_ := Aside0.mk (below_step (q4_ HB.out GE280.out) hb); have n2_ := Aside0.mk (hbox); have n3_ := Aside0.mk ((by rw [hg]; exact (below_size (q4_ HB.out GE280.out)) : w.heap.size ≤ gb281)); have n4_ := Aside0.mk ((by rw [hg]; exact (below_size (q4_ HB.out GE280.out)) : w.heap.size ≤ gb281)); have n5_ := Aside0.mk ((by rw [hg]; exact Nat.ne_of_lt (blk_lt (g := gb280) (o := .cells #[.int .i64 (wrap64 (2 + (Int.tmod (wrap64 (a0)) 3))), .string (⟨#[]⟩ : ByteArray), .slice none 0 0, .slice none 0 0, .int .i64 a3] 26 (0, 0)) (by (with_reducible repeat (first | refine blk_drewN ?_ _ | refine blk_drew ?_ | refine blk_alloc ?_ _)); refine blk_put (cs := #[.int .i64 (wrap64 (2 + (Int.tmod (wrap64 (a0)) 3))), .string (⟨#[]⟩ : ByteArray), .slice none 0 0, .slice none 0 0, .int .i64 0]) ?_ 4 _ rfl; (with_reducible repeat (first | refine blk_drewN ?_ _ | refine blk_drew ?_ | refine blk_alloc ?_ _)); refine blk_put (cs := #[.int .i64 (wrap64 (2 + (Int.tmod (wrap64 (a0)) 3))), .string (⟨#[]⟩ : ByteArray), .slice none 0 0, .slice none 0 0, .int .i64 0]) ?_ 3 _ rfl; (with_reducible repeat (first | refine blk_drewN ?_ _ | refine blk_drew ?_ | refine blk_alloc ?_ _)); refine blk_put (cs := #[.int .i64 (wrap64 (2 + (Int.tmod (wrap64 (a0)) 3))), .string (⟨#[]⟩ : ByteArray), .slice none 0 0, .slice none 0 0, .int .i64 0]) ?_ 2 _ rfl; (with_reducible repeat (first | refine blk_drewN ?_ _ | refine blk_drew ?_ | refine blk_alloc ?_ _)); refine blk_put (cs := #[.int .i64 (wrap64 (2 + (Int.tmod (wrap64 (a0)) 3))), .string (⟨#[]⟩ : ByteArray), .slice none 0 0, .slice none 0 0, .int .i64 0]) ?_ 1 _ rfl; (with_reducible repeat (first | refine blk_drewN ?_ _ | refine blk_drew ?_ | refine blk_alloc ?_ _)); refine blk_put (cs := #[.int .i64 0, .string (⟨#[]⟩ : ByteArray), .slice none 0 0, .slice none 0 0, .int .i64 0]) ?_ 0 _ rfl; (with_reducible repeat (first | refine blk_drewN ?_ _ | refine blk_drew ?_ | refine blk_alloc ?_ _)); exact BK280.out)) : gb280 ≠ gb281)); have n6_ := Aside0.mk ((by rw [hg]; exact Nat.ne_of_gt (blk_lt (g := gb280) (o := .cells #[.int .i64 (wrap64 (2 + (Int.tmod (wrap64 (a0)) 3))), .string (⟨#[]⟩ : ByteArray), .slice none 0 0, .slice none 0 0, .int .i64 a3] 26 (0, 0)) (by (with_reducible repeat (first | refine blk_drewN ?_ _ | refine blk_drew ?_ | refine blk_alloc ?_ _)); refine blk_put (cs := #[.int .i64 (wrap64 (2 + (Int.tmod (wrap64 (a0)) 3))), .string (⟨#[]⟩ : ByteArray), .slice none 0 0, .slice none 0 0, .int .i64 0]) ?_ 4 _ rfl; (with_reducible repeat (first | refine blk_drewN ?_ _ | refine blk_drew ?_ | refine blk_alloc ?_ _)); refine blk_put (cs := #[.int .i64 (wrap64 (2 + (Int.tmod (wrap64 (a0)) 3))), .string (⟨#[]⟩ : ByteArray), .slice none 0 0, .slice none 0 0, .int .i64 0]) ?_ 3 _ rfl; (with_reducible repeat (first | refine blk_drewN ?_ _ | refine blk_drew ?_ | refine blk_alloc ?_ _)); refine blk_put (cs := #[.int .i64 (wrap64 (2 + (Int.tmod (wrap64 (a0)) 3))), .string (⟨#[]⟩ : ByteArray), .slice none 0 0, .slice none 0 0, .int .i64 0]) ?_ 2 _ rfl; (with_reducible repeat (first | refine blk_drewN ?_ _ | refine blk_drew ?_ | refine blk_alloc ?_ _)); refine blk_put (cs := #[.int .i64 (wrap64 (2 + (Int.tmod (wrap64 (a0)) 3))), .string (⟨#[]⟩ : ByteArray), .slice none 0 0, .slice none 0 0, .int .i64 0]) ?_ 1 _ rfl; (with_reducible repeat (first | refine blk_drewN ?_ _ | refine blk_drew ?_ | refine blk_alloc ?_ _)); refine blk_put (cs := #[.int .i64 0, .string (⟨#[]⟩ : ByteArray), .slice none 0 0, .slice none 0 0, .int .i64 0]) ?_ 0 _ rfl; (with_reducible repeat (first | refine blk_drewN ?_ _ | refine blk_drew ?_ | refine blk_alloc ?_ _)); exact BK280.out)) : gb281 ≠ gb280)); clear BK280; clear HB; have BK280 := n0_; have HB := n1_; have BK281 := n2_; have GW281 := n3_; have GE281 := n4_; have NB280_281 := n5_; have NB281_280 := n6_; clear n0_ n1_ n2_ n3_ n4_ n5_ n6_; clear hb hbox hg; have hnb10 := NB281_280.out; have hnc10 := NB280_281.out; have hcz11_0 : w9.cell? ⟨gb281, 0, none⟩ = some (.int .i64 0) := (blk_cell BK281.out 0).trans rfl; have hcz11_1 : w9.cell? ⟨gb281, 1, none⟩ = some (.string (⟨#[]⟩ : ByteArray)) := (blk_cell BK281.out 1).trans rfl; have hcz11_2 : w9.cell? ⟨gb281, 2, none⟩ = some (.slice none 0 0) := (blk_cell BK281.out 2).trans rfl; have hcz11_3 : w9.cell? ⟨gb281, 3, none⟩ = some (.slice none 0 0) := (blk_cell BK281.out 3).trans rfl; have hcz11_4 : w9.cell? ⟨gb281, 4, none⟩ = some (.int .i64 0) := (blk_cell BK281.out 4).trans rfl; have hfz11_0 := blk_frozen BK281.out 0; have hfz11_1 := blk_frozen BK281.out 1; have hfz11_2 := blk_frozen BK281.out 2; have hfz11_3 := blk_frozen BK281.out 3; have hfz11_4 := blk_frozen BK281.out 4))
    go_loopg [14] k1 (fun kq v14 w' => ∃ (x14_2 : Int) (x281002_2 : List (S29)) (x281003_2 : List ByteArray) (u281002 : Value) (u281003 : Value), v14 = .int .i64 x14_2 ∧ Aside0 (caravanlaw5_ItemLimits.l1 kq a3 (Int.tmod (wrap64 (a1)) 50) (Int.tmod (wrap64 (a2)) 400) x11_1 x14_2 (wrap64 (2 + (Int.tmod (wrap64 (a0)) 3))) (⟨#[]⟩ : ByteArray) x281002_2 x281003_2 a3 1 x11_1 a3 = some r) ∧ Aside0 (kq ≤ k1) ∧ Aside0 (Kd.R k29 29 w' w.heap.size (fun _ => True) u281002 x281002_2) ∧ Aside0 (Kd.R Kd.string 9 w' w.heap.size (fun _ => True) u281003 x281003_2) ∧ Aside0 (w'.heap[gb280]? = some (.cells #[.int .i64 (wrap64 (2 + (Int.tmod (wrap64 (a0)) 3))), .string (⟨#[]⟩ : ByteArray), u281002, u281003, .int .i64 a3] 26 (0, 0))) ∧ Aside0 (w'.heap[gb281]? = some (.cells #[.int .i64 1, .string x11_1, (.slice none 0 0), (.slice none 0 0), .int .i64 a3] 26 (0, 0))) ∧ Aside0 (Below w.heap.size w w'))
    case atStart => exact ⟨(0), (([] : List (S29))), (([] : List ByteArray)), (.slice none 0 0), (.slice none 0 0), (by first | rfl | (simp; done) | (simp [*]; done)), H', ⟨Nat.le_refl _⟩, ⟨by first | exact Kd.R_nil _ _ _ _ _ | exact Kd.N_nil _ _ _ _ _ | exact Kd.V_nil _ _ _ _ _ | exact Kd.Q_nil _ _ _ _ _ | exact Kd.S_nil _ _ _ _ _⟩, ⟨by first | exact Kd.R_nil _ _ _ _ _ | exact Kd.N_nil _ _ _ _ _ | exact Kd.V_nil _ _ _ _ _ | exact Kd.Q_nil _ _ _ _ _ | exact Kd.S_nil _ _ _ _ _⟩, ⟨by (with_reducible repeat (first | refine blk_drewN ?_ _ | refine blk_drew ?_ | refine blk_alloc ?_ _)); refine blk_far ?_ NB280_281.out _; (with_reducible repeat (first | refine blk_drewN ?_ _ | refine blk_drew ?_ | refine blk_alloc ?_ _)); refine blk_far ?_ NB280_281.out _; (with_reducible repeat (first | refine blk_drewN ?_ _ | refine blk_drew ?_ | refine blk_alloc ?_ _)); refine blk_far ?_ NB280_281.out _; (with_reducible repeat (first | refine blk_drewN ?_ _ | refine blk_drew ?_ | refine blk_alloc ?_ _)); refine blk_far ?_ NB280_281.out _; (with_reducible repeat (first | refine blk_drewN ?_ _ | refine blk_drew ?_ | refine blk_alloc ?_ _)); refine blk_far ?_ NB280_281.out _; (with_reducible repeat (first | refine blk_drewN ?_ _ | refine blk_drew ?_ | refine blk_alloc ?_ _)); exact BK280.out⟩, ⟨by (with_reducible repeat (first | refine blk_drewN ?_ _ | refine blk_drew ?_ | refine blk_alloc ?_ _)); refine blk_put (cs := #[.int .i64 1, .string x11_1, .slice none 0 0, .slice none 0 0, .int .i64 0]) ?_ 4 _ rfl; (with_reducible repeat (first | refine blk_drewN ?_ _ | refine blk_drew ?_ | refine blk_alloc ?_ _)); refine blk_put (cs := #[.int .i64 1, .string x11_1, .slice none 0 0, .slice none 0 0, .int .i64 0]) ?_ 3 _ rfl; (with_reducible repeat (first | refine blk_drewN ?_ _ | refine blk_drew ?_ | refine blk_alloc ?_ _)); refine blk_put (cs := #[.int .i64 1, .string x11_1, .slice none 0 0, .slice none 0 0, .int .i64 0]) ?_ 2 _ rfl; (with_reducible repeat (first | refine blk_drewN ?_ _ | refine blk_drew ?_ | refine blk_alloc ?_ _)); refine blk_put (cs := #[.int .i64 1, .string (⟨#[]⟩ : ByteArray), .slice none 0 0, .slice none 0 0, .int .i64 0]) ?_ 1 _ rfl; (with_reducible repeat (first | refine blk_drewN ?_ _ | refine blk_drew ?_ | refine blk_alloc ?_ _)); refine blk_put (cs := #[.int .i64 0, .string (⟨#[]⟩ : ByteArray), .slice none 0 0, .slice none 0 0, .int .i64 0]) ?_ 0 _ rfl; (with_reducible repeat (first | refine blk_drewN ?_ _ | refine blk_drew ?_ | refine blk_alloc ?_ _)); exact BK281.out⟩, ⟨(q5_ HB.out GE280.out GE281.out)⟩⟩
    case round =>
     clear H'
     try clear c1
     try clear p2
     try clear c3
     try clear c5
     try clear c5b0
     try clear c6
     try clear c6b0
     try clear c6b1
     try clear c6b2
     try clear p6
     try clear c10
     try clear hcz11_0
     try clear hcz11_1
     try clear hcz11_2
     try clear hcz11_3
     try clear hcz11_4
     try clear hcz8_0
     try clear hcz8_1
     try clear hcz8_2
     try clear hcz8_3
     try clear hcz8_4
     try clear hfz11_0
     try clear hfz11_1
     try clear hfz11_2
     try clear hfz11_3
     try clear hfz11_4
     try clear hfz8_0
     try clear hfz8_1
     try clear hfz8_2
     try clear hfz8_3
     try clear hfz8_4
     try clear p2
     obtain ⟨x14_2, x281002_2, x281003_2, u281002, u281003, rfl, HA, HK2, HO_281002, HO_281003, BK280, BK281, HB⟩ := hrel
     cases gk with
     | zero => exact absurd HA.out (by simp [caravanlaw5_ItemLimits.l1])
     | succ k2 =>
      have H := HA.out
      clear HA
      simp only [caravanlaw5_ItemLimits.l1] at H
      by_cases c12 : x14_2 < (Int.tmod (wrap64 (a1)) 50)
      ·rw [if_pos c12] at H
       have c12b0 : decide (x14_2 < (Int.tmod (wrap64 (a1)) 50)) = true := decide_eq_true c12
       clear c12
       replace H := Option.bind_eq_some_iff.mp H
       obtain ⟨t282, A130, H⟩ := H
       replace H : (if (wrap64 (2 + (Int.tmod (wrap64 (a0)) 3))) = 2 then (if x281002_2.length < 4398046511104 then (caravanlaw5_ItemLimits.l1 k2 a3 (Int.tmod (wrap64 (a1)) 50) (Int.tmod (wrap64 (a2)) 400) x11_1 (wrap64 (x14_2 + 1)) (wrap64 (2 + (Int.tmod (wrap64 (a0)) 3))) (⟨#[]⟩ : ByteArray) (x281002_2 ++ [(⟨t282, x11_1⟩ : S29)]) x281003_2 a3 1 x11_1 a3) else (none)) else (if t282.size + x11_1.size ≤ 9223372036854775807 then (if x281003_2.length < 8796093022208 then (caravanlaw5_ItemLimits.l1 k2 a3 (Int.tmod (wrap64 (a1)) 50) (Int.tmod (wrap64 (a2)) 400) x11_1 (wrap64 (x14_2 + 1)) (wrap64 (2 + (Int.tmod (wrap64 (a0)) 3))) (⟨#[]⟩ : ByteArray) x281002_2 (x281003_2 ++ [t282 ++ x11_1]) a3 1 x11_1 a3) else (none)) else (none))) = some r := H
       have A13 := Aside0.mk A130
       clear A130
       by_cases c14 : (wrap64 (2 + (Int.tmod (wrap64 (a0)) 3))) = 2
       ·rw [if_pos c14] at H
        have c14b0 : ((wrap64 (2 + (Int.tmod (wrap64 (a0)) 3))) == 2) = true := beq_iff_eq.mpr c14
        have c14b1 : ((wrap64 (2 + (Int.tmod (wrap64 (a0)) 3))) != 2) = false := bne_eq_false_iff_eq.mpr c14
        clear c14
        by_cases c15 : x281002_2.length < 4398046511104
        ·rw [if_pos c15] at H
         have LMc15 := Aside0.mk c15
         clear c15
         obtain ⟨y283, hy283⟩ : ∃ y_ : List (S29), y_ = (x281002_2 ++ [(⟨t282, x11_1⟩ : S29)]) := ⟨_, rfl⟩
         replace H : (caravanlaw5_ItemLimits.l1 k2 a3 (Int.tmod (wrap64 (a1)) 50) (Int.tmod (wrap64 (a2)) 400) x11_1 (wrap64 (x14_2 + 1)) (wrap64 (2 + (Int.tmod (wrap64 (a0)) 3))) (⟨#[]⟩ : ByteArray) y283 x281003_2 a3 1 x11_1 a3) = some r := by first | (rw [hy283]; with_reducible exact H) | (have H2_ := (Option.bind_some _ _).symm.trans H; rw [hy283]; with_reducible exact H2_) | (have H2_ := (Option.bind_some _ _).symm.trans H; with_reducible exact H2_) | with_reducible exact H | (rw [hy283]; exact H) | exact H
         have Ny283 := Aside0.mk hy283
         clear hy283
         have H' := Aside0.mk H
         clear H
         go_wp2_with (first | ((with_reducible refine gate_callee (f := 8) rfl ?_); refine goesL_ (some 46) rfl rfl Try.func8 (by kernel_rfl) rfl #[.int .i64 (wrap64 (100 + x14_2))] rfl qM_ ?_; (with_reducible refine (caravanref1_Digits.calls k2 (wrap64 (100 + x14_2)) t282 _ A13.out).mono ?_); rintro e w16 ⟨rfl, hb⟩; refine ⟨_, rfl, ?_⟩; have n0_ := Aside0.mk (Kd.R_below (q1_ HO_281002.out) hb); have n1_ := Aside0.mk (Kd.R_below (q1_ HO_281003.out) hb); have n2_ := Aside0.mk (blk_below (g := gb280) (o := .cells #[.int .i64 (wrap64 (2 + (Int.tmod (wrap64 (a0)) 3))), .string (⟨#[]⟩ : ByteArray), u281002, u281003, .int .i64 a3] 26 (0, 0)) (q3_ BK280.out) hb); have n3_ := Aside0.mk (blk_below (g := gb281) (o := .cells #[.int .i64 1, .string x11_1, .slice none 0 0, .slice none 0 0, .int .i64 a3] 26 (0, 0)) (q3_ BK281.out) hb); have n4_ := Aside0.mk (below_step (q5_ HB.out GE280.out GE281.out) hb); clear HO_281002; clear HO_281003; clear BK280; clear BK281; clear HB; have HO_281002 := n0_; have HO_281003 := n1_; have BK280 := n2_; have BK281 := n3_; have HB := n4_; clear n0_ n1_ n2_ n3_ n4_; (try clear hb); (try clear hb2); (try clear hk); (try clear hi); have hnb17 := NB280_281.out; have hnc17 := NB281_280.out; have hcz18_0 : w16.cell? ⟨gb280, 0, none⟩ = some (.int .i64 (wrap64 (2 + (Int.tmod (wrap64 (a0)) 3)))) := (blk_cell BK280.out 0).trans rfl; have hcz18_1 : w16.cell? ⟨gb280, 1, none⟩ = some (.string (⟨#[]⟩ : ByteArray)) := (blk_cell BK280.out 1).trans rfl; have hcz18_2 : w16.cell? ⟨gb280, 2, none⟩ = some (u281002) := (blk_cell BK280.out 2).trans rfl; have hcz18_3 : w16.cell? ⟨gb280, 3, none⟩ = some (u281003) := (blk_cell BK280.out 3).trans rfl; have hcz18_4 : w16.cell? ⟨gb280, 4, none⟩ = some (.int .i64 a3) := (blk_cell BK280.out 4).trans rfl; have hfz18_0 := blk_frozen BK280.out 0; have hfz18_1 := blk_frozen BK280.out 1; have hfz18_2 := blk_frozen BK280.out 2; have hfz18_3 := blk_frozen BK280.out 3; have hfz18_4 := blk_frozen BK280.out 4) | ((with_reducible refine gate_builtin (b := .append) (xs := #[.tmp 51, .tmp 55]) rfl ?_); at_builtin; refine Kd.R_append k29 (w0 := w) w.heap.size rfl (.tmp 51) (.tmp 55) 23 29 (.agg #[(.string ⟨#[]⟩), (.string ⟨#[]⟩)]) 32 rfl Try.underlying23 info29 rfl (by decide) (by omega) u281002 x281002_2 (⟨t282, x11_1⟩ : S29) [.string t282, .string x11_1] (fun _ => True) (fun _ => False) rfl rfl ?aP (fun _ hk => hk.elim) ?aF ?aO ?aB ?aS ?aL ?_; (case aP => exact k29_mkM _ _ _ (⟨t282, x11_1⟩ : S29)); (case aB => exact (q5_ HB.out GE280.out GE281.out)); (case aF => exact (fun _ _ => trivial)); (case aO => exact (q1_ HO_281002.out)); (case aS => exact (below_size (q5_ HB.out GE280.out GE281.out))); (case aL => have := LMc15.out; omega); intro v284 w19 ho hb hg hat; rw [← Ny283.out] at ho; have n0_ := Aside0.mk (Kd.R_over' (q1_ HO_281003.out) (Kd.R_typed (q1_ HO_281002.out)) (by decide) hg); have n1_ := Aside0.mk (blk_grown (g := gb280) (o := .cells #[.int .i64 (wrap64 (2 + (Int.tmod (wrap64 (a0)) 3))), .string (⟨#[]⟩ : ByteArray), u281002, u281003, .int .i64 a3] 26 (0, 0)) (q3_ BK280.out) hg (Kd.R_ne HO_281002.out BK280.out (by decide))); have n2_ := Aside0.mk (blk_grown (g := gb281) (o := .cells #[.int .i64 1, .string x11_1, .slice none 0 0, .slice none 0 0, .int .i64 a3] 26 (0, 0)) (q3_ BK281.out) hg (Kd.R_ne HO_281002.out BK281.out (by decide))); have n3_ := Aside0.mk (hb); have n4_ := Aside0.mk (ho); clear HO_281003; clear BK280; clear BK281; clear HB; clear HO_281002; have HO_281003 := n0_; have BK280 := n1_; have BK281 := n2_; have HB := n3_; have HO285 := n4_; clear n0_ n1_ n2_ n3_ n4_; clear ho hb hg hat; obtain ⟨Ao20, co20, eo20⟩ := Kd.R_slice HO285.out; subst eo20; have hcz21_0 : w19.cell? ⟨gb280, 0, none⟩ = some (.int .i64 (wrap64 (2 + (Int.tmod (wrap64 (a0)) 3)))) := (blk_cell BK280.out 0).trans rfl; have hcz21_1 : w19.cell? ⟨gb280, 1, none⟩ = some (.string (⟨#[]⟩ : ByteArray)) := (blk_cell BK280.out 1).trans rfl; have hcz21_2 : w19.cell? ⟨gb280, 2, none⟩ = some (u281002) := (blk_cell BK280.out 2).trans rfl; have hcz21_3 : w19.cell? ⟨gb280, 3, none⟩ = some (u281003) := (blk_cell BK280.out 3).trans rfl; have hcz21_4 : w19.cell? ⟨gb280, 4, none⟩ = some (.int .i64 a3) := (blk_cell BK280.out 4).trans rfl; have hfz21_0 := blk_frozen BK280.out 0; have hfz21_1 := blk_frozen BK280.out 1; have hfz21_2 := blk_frozen BK280.out 2; have hfz21_3 := blk_frozen BK280.out 3; have hfz21_4 := blk_frozen BK280.out 4))
         go_roundg k2
         case measure => have := HK1.out; have := HK2.out; omega
         case rel => exact ⟨(wrap64 (x14_2 + 1)), (y283), (x281003_2), (.slice Ao20 y283.length co20), (u281003), (by first | rfl | (simp; done) | (simp [*]; done)), H', ⟨by have := HK1.out; have := HK2.out; omega⟩, ⟨by (with_reducible repeat (first | apply Kd.R_alloc | apply Kd.R_drewN | apply Kd.R_drew)); exact Kd.R_mono (Kd.R_far (p := ⟨gb280, 2, none⟩) (Kd.R_types HO285.out BK280.out (by decide)) (fun _ hk => hk.2) (.slice Ao20 y283.length co20)) (fun _ hk => trivial)⟩, ⟨by (with_reducible repeat (first | apply Kd.R_alloc | apply Kd.R_drewN | apply Kd.R_drew)); exact Kd.R_mono (Kd.R_far (p := ⟨gb280, 2, none⟩) (Kd.R_types HO_281003.out BK280.out (by decide)) (fun _ hk => hk.2) (.slice Ao20 y283.length co20)) (fun _ hk => trivial)⟩, ⟨by (with_reducible repeat (first | refine blk_drewN ?_ _ | refine blk_drew ?_ | refine blk_alloc ?_ _)); refine blk_put (cs := #[.int .i64 (wrap64 (2 + (Int.tmod (wrap64 (a0)) 3))), .string (⟨#[]⟩ : ByteArray), u281002, u281003, .int .i64 a3]) ?_ 2 _ rfl; (with_reducible repeat (first | refine blk_drewN ?_ _ | refine blk_drew ?_ | refine blk_alloc ?_ _)); exact BK280.out⟩, ⟨by (with_reducible repeat (first | refine blk_drewN ?_ _ | refine blk_drew ?_ | refine blk_alloc ?_ _)); refine blk_far ?_ NB281_280.out _; (with_reducible repeat (first | refine blk_drewN ?_ _ | refine blk_drew ?_ | refine blk_alloc ?_ _)); exact BK281.out⟩, ⟨(q5_ HB.out GE280.out GE281.out)⟩⟩
        ·rw [if_neg c15] at H
         exact absurd H (by simp)
       ·rw [if_neg c14] at H
        have c14b0 : ((wrap64 (2 + (Int.tmod (wrap64 (a0)) 3))) == 2) = false := beq_eq_false_iff_ne.mpr c14
        have c14b1 : ((wrap64 (2 + (Int.tmod (wrap64 (a0)) 3))) != 2) = true := bne_iff_ne.mpr c14
        by_cases c22 : t282.size + x11_1.size ≤ 9223372036854775807
        ·rw [if_pos c22] at H
         have c22b0 := eq_true c22
         have c22b1 : decide (t282.size + x11_1.size ≤ 9223372036854775807) = true := decide_eq_true c22
         try have c22b2 : (9223372036854775807 < t282.size + x11_1.size) = False := eq_false (Nat.not_lt.2 c22)
         by_cases c23 : x281003_2.length < 8796093022208
         ·rw [if_pos c23] at H
          have LMc23 := Aside0.mk c23
          clear c23
          obtain ⟨y286, hy286⟩ : ∃ y_ : List ByteArray, y_ = (x281003_2 ++ [t282 ++ x11_1]) := ⟨_, rfl⟩
          replace H : (caravanlaw5_ItemLimits.l1 k2 a3 (Int.tmod (wrap64 (a1)) 50) (Int.tmod (wrap64 (a2)) 400) x11_1 (wrap64 (x14_2 + 1)) (wrap64 (2 + (Int.tmod (wrap64 (a0)) 3))) (⟨#[]⟩ : ByteArray) x281002_2 y286 a3 1 x11_1 a3) = some r := by first | (rw [hy286]; with_reducible exact H) | (have H2_ := (Option.bind_some _ _).symm.trans H; rw [hy286]; with_reducible exact H2_) | (have H2_ := (Option.bind_some _ _).symm.trans H; with_reducible exact H2_) | with_reducible exact H | (rw [hy286]; exact H) | exact H
          have Ny286 := Aside0.mk hy286
          clear hy286
          have H' := Aside0.mk H
          clear H
          go_wp2_with (first | ((with_reducible refine gate_callee (f := 8) rfl ?_); refine goesL_ (some 46) rfl rfl Try.func8 (by kernel_rfl) rfl #[.int .i64 (wrap64 (100 + x14_2))] rfl qM_ ?_; (with_reducible refine (caravanref1_Digits.calls k2 (wrap64 (100 + x14_2)) t282 _ A13.out).mono ?_); rintro e w24 ⟨rfl, hb⟩; refine ⟨_, rfl, ?_⟩; have n0_ := Aside0.mk (Kd.R_below (q1_ HO_281002.out) hb); have n1_ := Aside0.mk (Kd.R_below (q1_ HO_281003.out) hb); have n2_ := Aside0.mk (blk_below (g := gb280) (o := .cells #[.int .i64 (wrap64 (2 + (Int.tmod (wrap64 (a0)) 3))), .string (⟨#[]⟩ : ByteArray), u281002, u281003, .int .i64 a3] 26 (0, 0)) (q3_ BK280.out) hb); have n3_ := Aside0.mk (blk_below (g := gb281) (o := .cells #[.int .i64 1, .string x11_1, .slice none 0 0, .slice none 0 0, .int .i64 a3] 26 (0, 0)) (q3_ BK281.out) hb); have n4_ := Aside0.mk (below_step (q5_ HB.out GE280.out GE281.out) hb); clear HO_281002; clear HO_281003; clear BK280; clear BK281; clear HB; have HO_281002 := n0_; have HO_281003 := n1_; have BK280 := n2_; have BK281 := n3_; have HB := n4_; clear n0_ n1_ n2_ n3_ n4_; (try clear hb); (try clear hb2); (try clear hk); (try clear hi); have hnb25 := NB280_281.out; have hnc25 := NB281_280.out; have hcz26_0 : w24.cell? ⟨gb280, 0, none⟩ = some (.int .i64 (wrap64 (2 + (Int.tmod (wrap64 (a0)) 3)))) := (blk_cell BK280.out 0).trans rfl; have hcz26_1 : w24.cell? ⟨gb280, 1, none⟩ = some (.string (⟨#[]⟩ : ByteArray)) := (blk_cell BK280.out 1).trans rfl; have hcz26_2 : w24.cell? ⟨gb280, 2, none⟩ = some (u281002) := (blk_cell BK280.out 2).trans rfl; have hcz26_3 : w24.cell? ⟨gb280, 3, none⟩ = some (u281003) := (blk_cell BK280.out 3).trans rfl; have hcz26_4 : w24.cell? ⟨gb280, 4, none⟩ = some (.int .i64 a3) := (blk_cell BK280.out 4).trans rfl; have hfz26_0 := blk_frozen BK280.out 0; have hfz26_1 := blk_frozen BK280.out 1; have hfz26_2 := blk_frozen BK280.out 2; have hfz26_3 := blk_frozen BK280.out 3; have hfz26_4 := blk_frozen BK280.out 4) | ((with_reducible refine gate_builtin (b := .append) (xs := #[.tmp 59, .tmp 63]) rfl ?_); at_builtin; refine Kd.R_append Kd.string (w0 := w) w.heap.size rfl (.tmp 59) (.tmp 63) 24 9 (.string ⟨#[]⟩) 16 rfl Try.underlying24 info9 rfl (by decide) (by omega) u281003 x281003_2 (t282 ++ x11_1) [.string (t282 ++ x11_1)] (fun _ => True) (fun _ => False) rfl rfl ?aP (fun _ hk => hk.elim) ?aF ?aO ?aB ?aS ?aL ?_; (case aP => exact rfl); (case aB => exact (q5_ HB.out GE280.out GE281.out)); (case aF => exact (fun _ _ => trivial)); (case aO => exact (q1_ HO_281003.out)); (case aS => exact (below_size (q5_ HB.out GE280.out GE281.out))); (case aL => have := LMc23.out; omega); intro v287 w27 ho hb hg hat; rw [← Ny286.out] at ho; have n0_ := Aside0.mk (Kd.R_over' (q1_ HO_281002.out) (Kd.R_typed (q1_ HO_281003.out)) (by decide) hg); have n1_ := Aside0.mk (blk_grown (g := gb280) (o := .cells #[.int .i64 (wrap64 (2 + (Int.tmod (wrap64 (a0)) 3))), .string (⟨#[]⟩ : ByteArray), u281002, u281003, .int .i64 a3] 26 (0, 0)) (q3_ BK280.out) hg (Kd.R_ne HO_281003.out BK280.out (by decide))); have n2_ := Aside0.mk (blk_grown (g := gb281) (o := .cells #[.int .i64 1, .string x11_1, .slice none 0 0, .slice none 0 0, .int .i64 a3] 26 (0, 0)) (q3_ BK281.out) hg (Kd.R_ne HO_281003.out BK281.out (by decide))); have n3_ := Aside0.mk (hb); have n4_ := Aside0.mk (ho); clear HO_281002; clear BK280; clear BK281; clear HB; clear HO_281003; have HO_281002 := n0_; have BK280 := n1_; have BK281 := n2_; have HB := n3_; have HO288 := n4_; clear n0_ n1_ n2_ n3_ n4_; clear ho hb hg hat; obtain ⟨Ao28, co28, eo28⟩ := Kd.R_slice HO288.out; subst eo28; have hcz29_0 : w27.cell? ⟨gb280, 0, none⟩ = some (.int .i64 (wrap64 (2 + (Int.tmod (wrap64 (a0)) 3)))) := (blk_cell BK280.out 0).trans rfl; have hcz29_1 : w27.cell? ⟨gb280, 1, none⟩ = some (.string (⟨#[]⟩ : ByteArray)) := (blk_cell BK280.out 1).trans rfl; have hcz29_2 : w27.cell? ⟨gb280, 2, none⟩ = some (u281002) := (blk_cell BK280.out 2).trans rfl; have hcz29_3 : w27.cell? ⟨gb280, 3, none⟩ = some (u281003) := (blk_cell BK280.out 3).trans rfl; have hcz29_4 : w27.cell? ⟨gb280, 4, none⟩ = some (.int .i64 a3) := (blk_cell BK280.out 4).trans rfl; have hfz29_0 := blk_frozen BK280.out 0; have hfz29_1 := blk_frozen BK280.out 1; have hfz29_2 := blk_frozen BK280.out 2; have hfz29_3 := blk_frozen BK280.out 3; have hfz29_4 := blk_frozen BK280.out 4))
          go_roundg k2
          case measure => have := HK1.out; have := HK2.out; omega
          case rel => exact ⟨(wrap64 (x14_2 + 1)), (x281002_2), (y286), (u281002), (.slice Ao28 y286.length co28), (by first | rfl | (simp; done) | (simp [*]; done)), H', ⟨by have := HK1.out; have := HK2.out; omega⟩, ⟨by (with_reducible repeat (first | apply Kd.R_alloc | apply Kd.R_drewN | apply Kd.R_drew)); exact Kd.R_mono (Kd.R_far (p := ⟨gb280, 3, none⟩) (Kd.R_types HO_281002.out BK280.out (by decide)) (fun _ hk => hk.2) (.slice Ao28 y286.length co28)) (fun _ hk => trivial)⟩, ⟨by (with_reducible repeat (first | apply Kd.R_alloc | apply Kd.R_drewN | apply Kd.R_drew)); exact Kd.R_mono (Kd.R_far (p := ⟨gb280, 3, none⟩) (Kd.R_types HO288.out BK280.out (by decide)) (fun _ hk => hk.2) (.slice Ao28 y286.length co28)) (fun _ hk => trivial)⟩, ⟨by (with_reducible repeat (first | refine blk_drewN ?_ _ | refine blk_drew ?_ | refine blk_alloc ?_ _)); refine blk_put (cs := #[.int .i64 (wrap64 (2 + (Int.tmod (wrap64 (a0)) 3))), .string (⟨#[]⟩ : ByteArray), u281002, u281003, .int .i64 a3]) ?_ 3 _ rfl; (with_reducible repeat (first | refine blk_drewN ?_ _ | refine blk_drew ?_ | refine blk_alloc ?_ _)); exact BK280.out⟩, ⟨by (with_reducible repeat (first | refine blk_drewN ?_ _ | refine blk_drew ?_ | refine blk_alloc ?_ _)); refine blk_far ?_ NB281_280.out _; (with_reducible repeat (first | refine blk_drewN ?_ _ | refine blk_drew ?_ | refine blk_alloc ?_ _)); exact BK281.out⟩, ⟨(q5_ HB.out GE280.out GE281.out)⟩⟩
         ·rw [if_neg c23] at H
          exact absurd H (by simp)
        ·rw [if_neg c22] at H
         exact absurd H (by simp)
      ·rw [if_neg c12] at H
       have c12b0 : decide (x14_2 < (Int.tmod (wrap64 (a1)) 50)) = false := decide_eq_false c12
       clear c12
       have HC30 := Aside0.mk H
       clear H
       go_upto_region 14 with (fail)
       go_cut [16] (fun v16 wc => ∃ (kq : Nat) (x16_29 : Bool), v16 = .bool x16_29 ∧ Aside0 (caravanlaw5_ItemLimits.j2 kq (Int.tmod (wrap64 (a1)) 50) (Int.tmod (wrap64 (a2)) 400) x16_29 (wrap64 (2 + (Int.tmod (wrap64 (a0)) 3))) (⟨#[]⟩ : ByteArray) x281002_2 x281003_2 a3 1 x11_1 a3 = some r) ∧ Aside0 (kq ≤ k2) ∧ Aside0 (Kd.R k29 29 wc w.heap.size (fun _ => True) u281002 x281002_2) ∧ Aside0 (Kd.R Kd.string 9 wc w.heap.size (fun _ => True) u281003 x281003_2) ∧ Aside0 (wc.heap[gb280]? = some (.cells #[.int .i64 (wrap64 (2 + (Int.tmod (wrap64 (a0)) 3))), .string (⟨#[]⟩ : ByteArray), u281002, u281003, .int .i64 a3] 26 (0, 0))) ∧ Aside0 (wc.heap[gb281]? = some (.cells #[.int .i64 1, .string x11_1, (.slice none 0 0), (.slice none 0 0), .int .i64 a3] 26 (0, 0))) ∧ Aside0 (Below w.heap.size w wc))
       case first =>
        have H := HC30.out
        clear HC30
        by_cases c31 : a3 ≥ 0
        ·rw [if_pos c31] at H
         have c31b0 : decide (0 ≤ a3) = true := decide_eq_true c31
         clear c31
         (first | rw [c31b0] | (simp only [i64_w, i32_w]; rw [c31b0]) | skip)
         have H' := Aside0.mk H
         clear H
         go_wp2
         go_meet
         case rel => exact ⟨_, (decide (a3 ≤ 9007199254740992)), (by first | rfl | (simp; done) | (simp [*]; done)), H', ⟨by have := HK1.out; have := HK2.out; first | omega | exact Nat.le_refl _⟩, ⟨by (with_reducible repeat (first | apply Kd.R_alloc | apply Kd.R_drewN | apply Kd.R_drew)); exact HO_281002.out⟩, ⟨by (with_reducible repeat (first | apply Kd.R_alloc | apply Kd.R_drewN | apply Kd.R_drew)); exact HO_281003.out⟩, ⟨by (with_reducible repeat (first | refine blk_drewN ?_ _ | refine blk_drew ?_ | refine blk_alloc ?_ _)); exact BK280.out⟩, ⟨by (with_reducible repeat (first | refine blk_drewN ?_ _ | refine blk_drew ?_ | refine blk_alloc ?_ _)); exact BK281.out⟩, ⟨(q5_ HB.out GE280.out GE281.out)⟩⟩
        ·rw [if_neg c31] at H
         have c31b0 : decide (0 ≤ a3) = false := decide_eq_false c31
         clear c31
         (first | rw [c31b0] | (simp only [i64_w, i32_w]; rw [c31b0]) | skip)
         have H' := Aside0.mk H
         clear H
         go_wp2
         go_meet
         case rel => exact ⟨_, (false), (by first | rfl | (simp; done) | (simp [*]; done)), H', ⟨by have := HK1.out; have := HK2.out; first | omega | exact Nat.le_refl _⟩, ⟨by (with_reducible repeat (first | apply Kd.R_alloc | apply Kd.R_drewN | apply Kd.R_drew)); exact HO_281002.out⟩, ⟨by (with_reducible repeat (first | apply Kd.R_alloc | apply Kd.R_drewN | apply Kd.R_drew)); exact HO_281003.out⟩, ⟨by (with_reducible repeat (first | refine blk_drewN ?_ _ | refine blk_drew ?_ | refine blk_alloc ?_ _)); exact BK280.out⟩, ⟨by (with_reducible repeat (first | refine blk_drewN ?_ _ | refine blk_drew ?_ | refine blk_alloc ?_ _)); exact BK281.out⟩, ⟨(q5_ HB.out GE280.out GE281.out)⟩⟩
       case rest =>
        clear HC30
        try clear c1
        try clear c2
        try clear p2
        try clear c3
        try clear c5
        try clear c5b0
        try clear c6
        try clear c6b0
        try clear c6b1
        try clear c6b2
        try clear p6
        try clear c8
        try clear c10
        try clear c12
        try clear c12b0
        try clear c14
        try clear c14b0
        try clear c14b1
        try clear c15
        try clear c17
        try clear c22
        try clear c22b0
        try clear c22b1
        try clear c22b2
        try clear c23
        try clear c25
        try clear c31
        try clear c31b0
        try clear hcz11_0
        try clear hcz11_1
        try clear hcz11_2
        try clear hcz11_3
        try clear hcz11_4
        try clear hcz18_0
        try clear hcz18_1
        try clear hcz18_2
        try clear hcz18_3
        try clear hcz18_4
        try clear hcz21_0
        try clear hcz21_1
        try clear hcz21_2
        try clear hcz21_3
        try clear hcz21_4
        try clear hcz26_0
        try clear hcz26_1
        try clear hcz26_2
        try clear hcz26_3
        try clear hcz26_4
        try clear hcz29_0
        try clear hcz29_1
        try clear hcz29_2
        try clear hcz29_3
        try clear hcz29_4
        try clear hcz8_0
        try clear hcz8_1
        try clear hcz8_2
        try clear hcz8_3
        try clear hcz8_4
        try clear hfz11_0
        try clear hfz11_1
        try clear hfz11_2
        try clear hfz11_3
        try clear hfz11_4
        try clear hfz18_0
        try clear hfz18_1
        try clear hfz18_2
        try clear hfz18_3
        try clear hfz18_4
        try clear hfz21_0
        try clear hfz21_1
        try clear hfz21_2
        try clear hfz21_3
        try clear hfz21_4
        try clear hfz26_0
        try clear hfz26_1
        try clear hfz26_2
        try clear hfz26_3
        try clear hfz26_4
        try clear hfz29_0
        try clear hfz29_1
        try clear hfz29_2
        try clear hfz29_3
        try clear hfz29_4
        try clear hfz8_0
        try clear hfz8_1
        try clear hfz8_2
        try clear hfz8_3
        try clear hfz8_4
        try clear p2
        try clear p6
        obtain ⟨kq, x16_29, rfl, HA, HJ29, HO_281002, HO_281003, BK280, BK281, HB⟩ := hcut
        cases kq with
        | zero => exact absurd HA.out (by simp [caravanlaw5_ItemLimits.j2])
        | succ kj29 =>
         have H := HA.out
         clear HA
         simp only [caravanlaw5_ItemLimits.j2] at H
         have HC32 := Aside0.mk H
         clear H
         have hnb33 := NB280_281.out
         have hnc33 := NB281_280.out
         have hcz34_0 : wc.cell? ⟨gb280, 0, none⟩ = some (.int .i64 (wrap64 (2 + (Int.tmod (wrap64 (a0)) 3)))) := (blk_cell BK280.out 0).trans rfl
         have hcz34_1 : wc.cell? ⟨gb280, 1, none⟩ = some (.string (⟨#[]⟩ : ByteArray)) := (blk_cell BK280.out 1).trans rfl
         have hcz34_2 : wc.cell? ⟨gb280, 2, none⟩ = some (u281002) := (blk_cell BK280.out 2).trans rfl
         have hcz34_3 : wc.cell? ⟨gb280, 3, none⟩ = some (u281003) := (blk_cell BK280.out 3).trans rfl
         have hcz34_4 : wc.cell? ⟨gb280, 4, none⟩ = some (.int .i64 a3) := (blk_cell BK280.out 4).trans rfl
         have hfz34_0 := blk_frozen BK280.out 0
         have hfz34_1 := blk_frozen BK280.out 1
         have hfz34_2 := blk_frozen BK280.out 2
         have hfz34_3 := blk_frozen BK280.out 3
         have hfz34_4 := blk_frozen BK280.out 4
         go_upto_if 76 with (fail)
         go_cut [17] (fun v17 wc => ∃ (kq : Nat) (x17_31 : Bool), v17 = .bool x17_31 ∧ Aside0 (caravanlaw5_ItemLimits.j3 kq (Int.tmod (wrap64 (a1)) 50) (Int.tmod (wrap64 (a2)) 400) x16_29 x17_31 (wrap64 (2 + (Int.tmod (wrap64 (a0)) 3))) (⟨#[]⟩ : ByteArray) x281002_2 x281003_2 a3 1 x11_1 a3 = some r) ∧ Aside0 (kq ≤ kj29) ∧ Aside0 (Kd.R k29 29 wc w.heap.size (fun _ => True) u281002 x281002_2) ∧ Aside0 (Kd.R Kd.string 9 wc w.heap.size (fun _ => True) u281003 x281003_2) ∧ Aside0 (wc.heap[gb280]? = some (.cells #[.int .i64 (wrap64 (2 + (Int.tmod (wrap64 (a0)) 3))), .string (⟨#[]⟩ : ByteArray), u281002, u281003, .int .i64 a3] 26 (0, 0))) ∧ Aside0 (wc.heap[gb281]? = some (.cells #[.int .i64 1, .string x11_1, (.slice none 0 0), (.slice none 0 0), .int .i64 a3] 26 (0, 0))) ∧ Aside0 (Below w.heap.size w wc))
         case first =>
          have H := HC32.out
          clear HC32
          by_cases c35 : (wrap64 (2 + (Int.tmod (wrap64 (a0)) 3))) = 2
          ·rw [if_pos c35] at H
           have c35b0 : ((wrap64 (2 + (Int.tmod (wrap64 (a0)) 3))) == 2) = true := beq_iff_eq.mpr c35
           have c35b1 : ((wrap64 (2 + (Int.tmod (wrap64 (a0)) 3))) != 2) = false := bne_eq_false_iff_eq.mpr c35
           clear c35
           (first | rw [c35b0] | (simp only [i64_w, i32_w]; rw [c35b0]) | skip)
           have H' := Aside0.mk H
           clear H
           go_wp2
           go_meet
           case rel => exact ⟨_, (decide ((Int.tmod (wrap64 (a2)) 400) ≤ 300)), (by first | rfl | (simp; done) | (simp [*]; done)), H', ⟨by have := HK1.out; have := HK2.out; have := HJ29.out; first | omega | exact Nat.le_refl _⟩, ⟨by (with_reducible repeat (first | apply Kd.R_alloc | apply Kd.R_drewN | apply Kd.R_drew)); exact HO_281002.out⟩, ⟨by (with_reducible repeat (first | apply Kd.R_alloc | apply Kd.R_drewN | apply Kd.R_drew)); exact HO_281003.out⟩, ⟨by (with_reducible repeat (first | refine blk_drewN ?_ _ | refine blk_drew ?_ | refine blk_alloc ?_ _)); exact BK280.out⟩, ⟨by (with_reducible repeat (first | refine blk_drewN ?_ _ | refine blk_drew ?_ | refine blk_alloc ?_ _)); exact BK281.out⟩, ⟨(q5_ HB.out GE280.out GE281.out)⟩⟩
          ·rw [if_neg c35] at H
           have c35b0 : ((wrap64 (2 + (Int.tmod (wrap64 (a0)) 3))) == 2) = false := beq_eq_false_iff_ne.mpr c35
           have c35b1 : ((wrap64 (2 + (Int.tmod (wrap64 (a0)) 3))) != 2) = true := bne_iff_ne.mpr c35
           (first | rw [c35b0] | (simp only [i64_w, i32_w]; rw [c35b0]) | skip)
           have H' := Aside0.mk H
           clear H
           go_wp2
           go_meet
           case rel => exact ⟨_, (decide ((Int.tmod (wrap64 (a2)) 400) ≤ 297)), (by first | rfl | (simp; done) | (simp [*]; done)), H', ⟨by have := HK1.out; have := HK2.out; have := HJ29.out; first | omega | exact Nat.le_refl _⟩, ⟨by (with_reducible repeat (first | apply Kd.R_alloc | apply Kd.R_drewN | apply Kd.R_drew)); exact HO_281002.out⟩, ⟨by (with_reducible repeat (first | apply Kd.R_alloc | apply Kd.R_drewN | apply Kd.R_drew)); exact HO_281003.out⟩, ⟨by (with_reducible repeat (first | refine blk_drewN ?_ _ | refine blk_drew ?_ | refine blk_alloc ?_ _)); exact BK280.out⟩, ⟨by (with_reducible repeat (first | refine blk_drewN ?_ _ | refine blk_drew ?_ | refine blk_alloc ?_ _)); exact BK281.out⟩, ⟨(q5_ HB.out GE280.out GE281.out)⟩⟩
         case rest =>
          clear HC32
          try clear c1
          try clear c2
          try clear p2
          try clear c3
          try clear c5
          try clear c5b0
          try clear c6
          try clear c6b0
          try clear c6b1
          try clear c6b2
          try clear p6
          try clear c8
          try clear c10
          try clear c12
          try clear c12b0
          try clear c14
          try clear c14b0
          try clear c14b1
          try clear c15
          try clear c17
          try clear c22
          try clear c22b0
          try clear c22b1
          try clear c22b2
          try clear c23
          try clear c25
          try clear c31
          try clear c31b0
          try clear c33
          try clear c35
          try clear c35b0
          try clear c35b1
          try clear hcz11_0
          try clear hcz11_1
          try clear hcz11_2
          try clear hcz11_3
          try clear hcz11_4
          try clear hcz18_0
          try clear hcz18_1
          try clear hcz18_2
          try clear hcz18_3
          try clear hcz18_4
          try clear hcz21_0
          try clear hcz21_1
          try clear hcz21_2
          try clear hcz21_3
          try clear hcz21_4
          try clear hcz26_0
          try clear hcz26_1
          try clear hcz26_2
          try clear hcz26_3
          try clear hcz26_4
          try clear hcz29_0
          try clear hcz29_1
          try clear hcz29_2
          try clear hcz29_3
          try clear hcz29_4
          try clear hcz34_0
          try clear hcz34_1
          try clear hcz34_2
          try clear hcz34_3
          try clear hcz34_4
          try clear hcz8_0
          try clear hcz8_1
          try clear hcz8_2
          try clear hcz8_3
          try clear hcz8_4
          try clear hfz11_0
          try clear hfz11_1
          try clear hfz11_2
          try clear hfz11_3
          try clear hfz11_4
          try clear hfz18_0
          try clear hfz18_1
          try clear hfz18_2
          try clear hfz18_3
          try clear hfz18_4
          try clear hfz21_0
          try clear hfz21_1
          try clear hfz21_2
          try clear hfz21_3
          try clear hfz21_4
          try clear hfz26_0
          try clear hfz26_1
          try clear hfz26_2
          try clear hfz26_3
          try clear hfz26_4
          try clear hfz29_0
          try clear hfz29_1
          try clear hfz29_2
          try clear hfz29_3
          try clear hfz29_4
          try clear hfz34_0
          try clear hfz34_1
          try clear hfz34_2
          try clear hfz34_3
          try clear hfz34_4
          try clear hfz8_0
          try clear hfz8_1
          try clear hfz8_2
          try clear hfz8_3
          try clear hfz8_4
          try clear p2
          try clear p6
          obtain ⟨kq, x17_31, rfl, HA, HJ31, HO_281002, HO_281003, BK280, BK281, HB⟩ := hcut
          cases kq with
          | zero => exact absurd HA.out (by simp [caravanlaw5_ItemLimits.j3])
          | succ kj31 =>
           have H := HA.out
           clear HA
           simp only [caravanlaw5_ItemLimits.j3] at H
           replace H := Option.bind_eq_some_iff.mp H
           obtain ⟨t289, A360, H⟩ := H
           replace H : (if (Int.tmod (wrap64 (a2)) 400) ≤ 300 then (if (t289 == x16_29) = true then ((item_May.f (wrap64 (2 + (Int.tmod (wrap64 (a0)) 3))) (⟨#[]⟩ : ByteArray) x281002_2 x281003_2 a3).bind fun t290 => (if (Int.tmod (wrap64 (a1)) 50) ≥ 1 then (if (Int.tmod (wrap64 (a1)) 50) ≤ 40 then (if x17_31 = true then (if (t290 == x16_29) = true then ((caravanlaw5_awake.f kj31).bind fun t291 => (some t291)) else (some false)) else (if (t290 == false) = true then ((caravanlaw5_awake.f kj31).bind fun t292 => (some t292)) else (some false))) else (if (t290 == false) = true then ((caravanlaw5_awake.f kj31).bind fun t293 => (some t293)) else (some false))) else (if (t290 == false) = true then ((caravanlaw5_awake.f kj31).bind fun t294 => (some t294)) else (some false)))) else (some false)) else (if (t289 == false) = true then ((item_May.f (wrap64 (2 + (Int.tmod (wrap64 (a0)) 3))) (⟨#[]⟩ : ByteArray) x281002_2 x281003_2 a3).bind fun t295 => (if (Int.tmod (wrap64 (a1)) 50) ≥ 1 then (if (Int.tmod (wrap64 (a1)) 50) ≤ 40 then (if x17_31 = true then (if (t295 == x16_29) = true then ((caravanlaw5_awake.f kj31).bind fun t296 => (some t296)) else (some false)) else (if (t295 == false) = true then ((caravanlaw5_awake.f kj31).bind fun t297 => (some t297)) else (some false))) else (if (t295 == false) = true then ((caravanlaw5_awake.f kj31).bind fun t298 => (some t298)) else (some false))) else (if (t295 == false) = true then ((caravanlaw5_awake.f kj31).bind fun t299 => (some t299)) else (some false)))) else (some false))) = some r := H
           have A36 := Aside0.mk A360
           clear A360
           by_cases c37 : (Int.tmod (wrap64 (a2)) 400) ≤ 300
           ·rw [if_pos c37] at H
            have c37b0 : decide ((Int.tmod (wrap64 (a2)) 400) ≤ 300) = true := decide_eq_true c37
            clear c37
            by_cases c38 : (t289 == x16_29) = true
            ·rw [if_pos c38] at H
             have c38b0 : (t289 == x16_29) = true := c38
             (try (have c38b1 : decide (t289 = x16_29) = true := by simpa using c38))
             (try (have c38b2 : (t289 == x16_29) = true := by simpa using c38))
             clear c38
             replace H := Option.bind_eq_some_iff.mp H
             obtain ⟨t290, A390, H⟩ := H
             replace H : (if (Int.tmod (wrap64 (a1)) 50) ≥ 1 then (if (Int.tmod (wrap64 (a1)) 50) ≤ 40 then (if x17_31 = true then (if (t290 == x16_29) = true then ((caravanlaw5_awake.f kj31).bind fun t291 => (some t291)) else (some false)) else (if (t290 == false) = true then ((caravanlaw5_awake.f kj31).bind fun t292 => (some t292)) else (some false))) else (if (t290 == false) = true then ((caravanlaw5_awake.f kj31).bind fun t293 => (some t293)) else (some false))) else (if (t290 == false) = true then ((caravanlaw5_awake.f kj31).bind fun t294 => (some t294)) else (some false))) = some r := H
             have A39 := Aside0.mk A390
             clear A390
             by_cases c40 : (Int.tmod (wrap64 (a1)) 50) ≥ 1
             ·rw [if_pos c40] at H
              have c40b0 : decide (1 ≤ (Int.tmod (wrap64 (a1)) 50)) = true := decide_eq_true c40
              clear c40
              by_cases c41 : (Int.tmod (wrap64 (a1)) 50) ≤ 40
              ·rw [if_pos c41] at H
               have c41b0 : decide ((Int.tmod (wrap64 (a1)) 50) ≤ 40) = true := decide_eq_true c41
               clear c41
               by_cases c42 : x17_31 = true
               ·subst c42
                have H1 : (if (t290 == x16_29) = true then ((caravanlaw5_awake.f kj31).bind fun t291 => (some t291)) else (some false)) = some r := by rw [if_pos rfl] at H; exact H
                clear H
                have H := H1
                clear H1
                by_cases c43 : (t290 == x16_29) = true
                ·rw [if_pos c43] at H
                 have c43b0 : (t290 == x16_29) = true := c43
                 (try (have c43b1 : decide (t290 = x16_29) = true := by simpa using c43))
                 (try (have c43b2 : (t290 == x16_29) = true := by simpa using c43))
                 clear c43
                 replace H := Option.bind_eq_some_iff.mp H
                 obtain ⟨t291, A440, H⟩ := H
                 replace H : (some t291) = some r := H
                 have A44 := Aside0.mk A440
                 clear A440
                 obtain rfl := Option.some.inj H
                 have hnb45 := NB281_280.out
                 have hnc45 := NB280_281.out
                 have hcz46_0 : wc.cell? ⟨gb281, 0, none⟩ = some (.int .i64 1) := (blk_cell BK281.out 0).trans rfl
                 have hcz46_1 : wc.cell? ⟨gb281, 1, none⟩ = some (.string x11_1) := (blk_cell BK281.out 1).trans rfl
                 have hcz46_2 : wc.cell? ⟨gb281, 2, none⟩ = some (.slice none 0 0) := (blk_cell BK281.out 2).trans rfl
                 have hcz46_3 : wc.cell? ⟨gb281, 3, none⟩ = some (.slice none 0 0) := (blk_cell BK281.out 3).trans rfl
                 have hcz46_4 : wc.cell? ⟨gb281, 4, none⟩ = some (.int .i64 a3) := (blk_cell BK281.out 4).trans rfl
                 have hfz46_0 := blk_frozen BK281.out 0
                 have hfz46_1 := blk_frozen BK281.out 1
                 have hfz46_2 := blk_frozen BK281.out 2
                 have hfz46_3 := blk_frozen BK281.out 3
                 have hfz46_4 := blk_frozen BK281.out 4
                 go_wp2_with (first | ((with_reducible refine gate_callee (f := 9) rfl ?_); refine goesL_ (some 80) rfl rfl Try.func9 (by kernel_rfl) rfl #[.agg #[.int .i64 1, .string x11_1, .slice none 0 0, .slice none 0 0, .int .i64 a3]] rfl qM_ ?_; (refine (item_May.calls 1 x11_1 _ _ ([] : List (S29)) _ _ ([] : List ByteArray) a3 t289 _ ?side1 ?side2 ?side3 ?side4 A36.out).mono ?_); (case side1 => exact Kd.C_nil _ _); (case side2 => exact Nat.le_refl _); (case side3 => exact Kd.C_nil _ _); (case side4 => exact Nat.le_refl _); rintro e w47 ⟨rfl, hb⟩; refine ⟨_, rfl, ?_⟩; have n0_ := Aside0.mk (Kd.R_below (q1_ HO_281002.out) hb); have n1_ := Aside0.mk (Kd.R_below (q1_ HO_281003.out) hb); have n2_ := Aside0.mk (blk_below (g := gb280) (o := .cells #[.int .i64 (wrap64 (2 + (Int.tmod (wrap64 (a0)) 3))), .string (⟨#[]⟩ : ByteArray), u281002, u281003, .int .i64 a3] 26 (0, 0)) (q3_ BK280.out) hb); have n3_ := Aside0.mk (blk_below (g := gb281) (o := .cells #[.int .i64 1, .string x11_1, .slice none 0 0, .slice none 0 0, .int .i64 a3] 26 (0, 0)) (q3_ BK281.out) hb); have n4_ := Aside0.mk (below_step (q5_ HB.out GE280.out GE281.out) hb); clear HO_281002; clear HO_281003; clear BK280; clear BK281; clear HB; have HO_281002 := n0_; have HO_281003 := n1_; have BK280 := n2_; have BK281 := n3_; have HB := n4_; clear n0_ n1_ n2_ n3_ n4_; (try clear hb); (try clear hb2); (try clear hk); (try clear hi); have hcz48_0 : w47.cell? ⟨gb280, 0, none⟩ = some (.int .i64 (wrap64 (2 + (Int.tmod (wrap64 (a0)) 3)))) := (blk_cell BK280.out 0).trans rfl; have hcz48_1 : w47.cell? ⟨gb280, 1, none⟩ = some (.string (⟨#[]⟩ : ByteArray)) := (blk_cell BK280.out 1).trans rfl; have hcz48_2 : w47.cell? ⟨gb280, 2, none⟩ = some (u281002) := (blk_cell BK280.out 2).trans rfl; have hcz48_3 : w47.cell? ⟨gb280, 3, none⟩ = some (u281003) := (blk_cell BK280.out 3).trans rfl; have hcz48_4 : w47.cell? ⟨gb280, 4, none⟩ = some (.int .i64 a3) := (blk_cell BK280.out 4).trans rfl; have hfz48_0 := blk_frozen BK280.out 0; have hfz48_1 := blk_frozen BK280.out 1; have hfz48_2 := blk_frozen BK280.out 2; have hfz48_3 := blk_frozen BK280.out 3; have hfz48_4 := blk_frozen BK280.out 4; obtain ⟨Ao49, co49, eo49⟩ := Kd.R_slice HO_281002.out; subst eo49; obtain ⟨Ao50, co50, eo50⟩ := Kd.R_slice HO_281003.out; subst eo50) | (go_at_call 9; (with_reducible refine (item_May.calls (wrap64 (2 + (Int.tmod (wrap64 (a0)) 3))) (⟨#[]⟩ : ByteArray) _ _ x281002_2 _ _ x281003_2 a3 t290 _ ?side1 ?side2 ?side3 ?side4 A39.out).mono ?_); (case side1 => exact qC_ ((Kd.R_reads' HO_281002.out).2.2)); (case side2 => exact (Kd.R_reads' HO_281002.out).2.1); (case side3 => exact qC_ ((Kd.R_reads' HO_281003.out).2.2)); (case side4 => exact (Kd.R_reads' HO_281003.out).2.1); rintro e w51 ⟨rfl, hb⟩; have n0_ := Aside0.mk (Kd.R_below (q1_ HO_281002.out) hb); have n1_ := Aside0.mk (Kd.R_below (q1_ HO_281003.out) hb); have n2_ := Aside0.mk (blk_below (g := gb280) (o := .cells #[.int .i64 (wrap64 (2 + (Int.tmod (wrap64 (a0)) 3))), .string (⟨#[]⟩ : ByteArray), .slice Ao49 x281002_2.length co49, .slice Ao50 x281003_2.length co50, .int .i64 a3] 26 (0, 0)) (q3_ BK280.out) hb); have n3_ := Aside0.mk (blk_below (g := gb281) (o := .cells #[.int .i64 1, .string x11_1, .slice none 0 0, .slice none 0 0, .int .i64 a3] 26 (0, 0)) (q3_ BK281.out) hb); have n4_ := Aside0.mk (below_step (q5_ HB.out GE280.out GE281.out) hb); clear HO_281002; clear HO_281003; clear BK280; clear BK281; clear HB; have HO_281002 := n0_; have HO_281003 := n1_; have BK280 := n2_; have BK281 := n3_; have HB := n4_; clear n0_ n1_ n2_ n3_ n4_; (try clear hb); (try clear hb2); (try clear hk); (try clear hi)) | (go_at_call 10; (with_reducible refine (caravanlaw5_awake.calls kj31  t291 _ A44.out).mono ?_); rintro e w52 ⟨rfl, hb⟩; have n0_ := Aside0.mk (Kd.R_below (q1_ HO_281002.out) hb); have n1_ := Aside0.mk (Kd.R_below (q1_ HO_281003.out) hb); have n2_ := Aside0.mk (blk_below (g := gb280) (o := .cells #[.int .i64 (wrap64 (2 + (Int.tmod (wrap64 (a0)) 3))), .string (⟨#[]⟩ : ByteArray), .slice Ao49 x281002_2.length co49, .slice Ao50 x281003_2.length co50, .int .i64 a3] 26 (0, 0)) (q3_ BK280.out) hb); have n3_ := Aside0.mk (blk_below (g := gb281) (o := .cells #[.int .i64 1, .string x11_1, .slice none 0 0, .slice none 0 0, .int .i64 a3] 26 (0, 0)) (q3_ BK281.out) hb); have n4_ := Aside0.mk (below_step (q5_ HB.out GE280.out GE281.out) hb); clear HO_281002; clear HO_281003; clear BK280; clear BK281; clear HB; have HO_281002 := n0_; have HO_281003 := n1_; have BK280 := n2_; have BK281 := n3_; have HB := n4_; clear n0_ n1_ n2_ n3_ n4_; (try clear hb); (try clear hb2); (try clear hk); (try clear hi)))
                 go_ret
                 exact ⟨by first | rfl | (simp [errW_none, errW_some] <;> rfl) | (simp [*, errW_none, errW_some] <;> rfl), (q5_ HB.out GE280.out GE281.out)⟩
                ·rw [if_neg c43] at H
                 have c43b0 : (t290 == x16_29) = false := by simpa using c43
                 (try (have c43b1 : decide (t290 = x16_29) = false := by simpa using c43))
                 (try (have c43b2 : (t290 == x16_29) = false := by simpa using c43))
                 (try (have c43b3 : ¬ (t290 = x16_29) := by simpa using c43))
                 clear c43
                 obtain rfl := Option.some.inj H
                 have hnb53 := NB281_280.out
                 have hnc53 := NB280_281.out
                 have hcz54_0 : wc.cell? ⟨gb281, 0, none⟩ = some (.int .i64 1) := (blk_cell BK281.out 0).trans rfl
                 have hcz54_1 : wc.cell? ⟨gb281, 1, none⟩ = some (.string x11_1) := (blk_cell BK281.out 1).trans rfl
                 have hcz54_2 : wc.cell? ⟨gb281, 2, none⟩ = some (.slice none 0 0) := (blk_cell BK281.out 2).trans rfl
                 have hcz54_3 : wc.cell? ⟨gb281, 3, none⟩ = some (.slice none 0 0) := (blk_cell BK281.out 3).trans rfl
                 have hcz54_4 : wc.cell? ⟨gb281, 4, none⟩ = some (.int .i64 a3) := (blk_cell BK281.out 4).trans rfl
                 have hfz54_0 := blk_frozen BK281.out 0
                 have hfz54_1 := blk_frozen BK281.out 1
                 have hfz54_2 := blk_frozen BK281.out 2
                 have hfz54_3 := blk_frozen BK281.out 3
                 have hfz54_4 := blk_frozen BK281.out 4
                 go_wp2_with (first | ((with_reducible refine gate_callee (f := 9) rfl ?_); refine goesL_ (some 80) rfl rfl Try.func9 (by kernel_rfl) rfl #[.agg #[.int .i64 1, .string x11_1, .slice none 0 0, .slice none 0 0, .int .i64 a3]] rfl qM_ ?_; (refine (item_May.calls 1 x11_1 _ _ ([] : List (S29)) _ _ ([] : List ByteArray) a3 t289 _ ?side1 ?side2 ?side3 ?side4 A36.out).mono ?_); (case side1 => exact Kd.C_nil _ _); (case side2 => exact Nat.le_refl _); (case side3 => exact Kd.C_nil _ _); (case side4 => exact Nat.le_refl _); rintro e w55 ⟨rfl, hb⟩; refine ⟨_, rfl, ?_⟩; have n0_ := Aside0.mk (Kd.R_below (q1_ HO_281002.out) hb); have n1_ := Aside0.mk (Kd.R_below (q1_ HO_281003.out) hb); have n2_ := Aside0.mk (blk_below (g := gb280) (o := .cells #[.int .i64 (wrap64 (2 + (Int.tmod (wrap64 (a0)) 3))), .string (⟨#[]⟩ : ByteArray), u281002, u281003, .int .i64 a3] 26 (0, 0)) (q3_ BK280.out) hb); have n3_ := Aside0.mk (blk_below (g := gb281) (o := .cells #[.int .i64 1, .string x11_1, .slice none 0 0, .slice none 0 0, .int .i64 a3] 26 (0, 0)) (q3_ BK281.out) hb); have n4_ := Aside0.mk (below_step (q5_ HB.out GE280.out GE281.out) hb); clear HO_281002; clear HO_281003; clear BK280; clear BK281; clear HB; have HO_281002 := n0_; have HO_281003 := n1_; have BK280 := n2_; have BK281 := n3_; have HB := n4_; clear n0_ n1_ n2_ n3_ n4_; (try clear hb); (try clear hb2); (try clear hk); (try clear hi); have hcz56_0 : w55.cell? ⟨gb280, 0, none⟩ = some (.int .i64 (wrap64 (2 + (Int.tmod (wrap64 (a0)) 3)))) := (blk_cell BK280.out 0).trans rfl; have hcz56_1 : w55.cell? ⟨gb280, 1, none⟩ = some (.string (⟨#[]⟩ : ByteArray)) := (blk_cell BK280.out 1).trans rfl; have hcz56_2 : w55.cell? ⟨gb280, 2, none⟩ = some (u281002) := (blk_cell BK280.out 2).trans rfl; have hcz56_3 : w55.cell? ⟨gb280, 3, none⟩ = some (u281003) := (blk_cell BK280.out 3).trans rfl; have hcz56_4 : w55.cell? ⟨gb280, 4, none⟩ = some (.int .i64 a3) := (blk_cell BK280.out 4).trans rfl; have hfz56_0 := blk_frozen BK280.out 0; have hfz56_1 := blk_frozen BK280.out 1; have hfz56_2 := blk_frozen BK280.out 2; have hfz56_3 := blk_frozen BK280.out 3; have hfz56_4 := blk_frozen BK280.out 4; obtain ⟨Ao57, co57, eo57⟩ := Kd.R_slice HO_281002.out; subst eo57; obtain ⟨Ao58, co58, eo58⟩ := Kd.R_slice HO_281003.out; subst eo58) | (go_at_call 9; (with_reducible refine (item_May.calls (wrap64 (2 + (Int.tmod (wrap64 (a0)) 3))) (⟨#[]⟩ : ByteArray) _ _ x281002_2 _ _ x281003_2 a3 t290 _ ?side1 ?side2 ?side3 ?side4 A39.out).mono ?_); (case side1 => exact qC_ ((Kd.R_reads' HO_281002.out).2.2)); (case side2 => exact (Kd.R_reads' HO_281002.out).2.1); (case side3 => exact qC_ ((Kd.R_reads' HO_281003.out).2.2)); (case side4 => exact (Kd.R_reads' HO_281003.out).2.1); rintro e w59 ⟨rfl, hb⟩; have n0_ := Aside0.mk (Kd.R_below (q1_ HO_281002.out) hb); have n1_ := Aside0.mk (Kd.R_below (q1_ HO_281003.out) hb); have n2_ := Aside0.mk (blk_below (g := gb280) (o := .cells #[.int .i64 (wrap64 (2 + (Int.tmod (wrap64 (a0)) 3))), .string (⟨#[]⟩ : ByteArray), .slice Ao57 x281002_2.length co57, .slice Ao58 x281003_2.length co58, .int .i64 a3] 26 (0, 0)) (q3_ BK280.out) hb); have n3_ := Aside0.mk (blk_below (g := gb281) (o := .cells #[.int .i64 1, .string x11_1, .slice none 0 0, .slice none 0 0, .int .i64 a3] 26 (0, 0)) (q3_ BK281.out) hb); have n4_ := Aside0.mk (below_step (q5_ HB.out GE280.out GE281.out) hb); clear HO_281002; clear HO_281003; clear BK280; clear BK281; clear HB; have HO_281002 := n0_; have HO_281003 := n1_; have BK280 := n2_; have BK281 := n3_; have HB := n4_; clear n0_ n1_ n2_ n3_ n4_; (try clear hb); (try clear hb2); (try clear hk); (try clear hi)))
                 go_ret
                 exact ⟨by first | rfl | (simp [errW_none, errW_some] <;> rfl) | (simp [*, errW_none, errW_some] <;> rfl), (q5_ HB.out GE280.out GE281.out)⟩
               ·replace c42 := Bool.eq_false_iff.mpr c42
                subst c42
                have H1 : (if (t290 == false) = true then ((caravanlaw5_awake.f kj31).bind fun t292 => (some t292)) else (some false)) = some r := by rw [if_neg (show ¬ (false = true) by decide)] at H; exact H
                clear H
                have H := H1
                clear H1
                by_cases c60 : (t290 == false) = true
                ·rw [if_pos c60] at H
                 have c60b0 : (t290 == false) = true := c60
                 (try (have c60b1 : decide (t290 = false) = true := by simpa using c60))
                 (try (have c60b2 : (t290 == false) = true := by simpa using c60))
                 clear c60
                 replace H := Option.bind_eq_some_iff.mp H
                 obtain ⟨t292, A610, H⟩ := H
                 replace H : (some t292) = some r := H
                 have A61 := Aside0.mk A610
                 clear A610
                 obtain rfl := Option.some.inj H
                 have hnb62 := NB281_280.out
                 have hnc62 := NB280_281.out
                 have hcz63_0 : wc.cell? ⟨gb281, 0, none⟩ = some (.int .i64 1) := (blk_cell BK281.out 0).trans rfl
                 have hcz63_1 : wc.cell? ⟨gb281, 1, none⟩ = some (.string x11_1) := (blk_cell BK281.out 1).trans rfl
                 have hcz63_2 : wc.cell? ⟨gb281, 2, none⟩ = some (.slice none 0 0) := (blk_cell BK281.out 2).trans rfl
                 have hcz63_3 : wc.cell? ⟨gb281, 3, none⟩ = some (.slice none 0 0) := (blk_cell BK281.out 3).trans rfl
                 have hcz63_4 : wc.cell? ⟨gb281, 4, none⟩ = some (.int .i64 a3) := (blk_cell BK281.out 4).trans rfl
                 have hfz63_0 := blk_frozen BK281.out 0
                 have hfz63_1 := blk_frozen BK281.out 1
                 have hfz63_2 := blk_frozen BK281.out 2
                 have hfz63_3 := blk_frozen BK281.out 3
                 have hfz63_4 := blk_frozen BK281.out 4
                 go_wp2_with (first | ((with_reducible refine gate_callee (f := 9) rfl ?_); refine goesL_ (some 80) rfl rfl Try.func9 (by kernel_rfl) rfl #[.agg #[.int .i64 1, .string x11_1, .slice none 0 0, .slice none 0 0, .int .i64 a3]] rfl qM_ ?_; (refine (item_May.calls 1 x11_1 _ _ ([] : List (S29)) _ _ ([] : List ByteArray) a3 t289 _ ?side1 ?side2 ?side3 ?side4 A36.out).mono ?_); (case side1 => exact Kd.C_nil _ _); (case side2 => exact Nat.le_refl _); (case side3 => exact Kd.C_nil _ _); (case side4 => exact Nat.le_refl _); rintro e w64 ⟨rfl, hb⟩; refine ⟨_, rfl, ?_⟩; have n0_ := Aside0.mk (Kd.R_below (q1_ HO_281002.out) hb); have n1_ := Aside0.mk (Kd.R_below (q1_ HO_281003.out) hb); have n2_ := Aside0.mk (blk_below (g := gb280) (o := .cells #[.int .i64 (wrap64 (2 + (Int.tmod (wrap64 (a0)) 3))), .string (⟨#[]⟩ : ByteArray), u281002, u281003, .int .i64 a3] 26 (0, 0)) (q3_ BK280.out) hb); have n3_ := Aside0.mk (blk_below (g := gb281) (o := .cells #[.int .i64 1, .string x11_1, .slice none 0 0, .slice none 0 0, .int .i64 a3] 26 (0, 0)) (q3_ BK281.out) hb); have n4_ := Aside0.mk (below_step (q5_ HB.out GE280.out GE281.out) hb); clear HO_281002; clear HO_281003; clear BK280; clear BK281; clear HB; have HO_281002 := n0_; have HO_281003 := n1_; have BK280 := n2_; have BK281 := n3_; have HB := n4_; clear n0_ n1_ n2_ n3_ n4_; (try clear hb); (try clear hb2); (try clear hk); (try clear hi); have hcz65_0 : w64.cell? ⟨gb280, 0, none⟩ = some (.int .i64 (wrap64 (2 + (Int.tmod (wrap64 (a0)) 3)))) := (blk_cell BK280.out 0).trans rfl; have hcz65_1 : w64.cell? ⟨gb280, 1, none⟩ = some (.string (⟨#[]⟩ : ByteArray)) := (blk_cell BK280.out 1).trans rfl; have hcz65_2 : w64.cell? ⟨gb280, 2, none⟩ = some (u281002) := (blk_cell BK280.out 2).trans rfl; have hcz65_3 : w64.cell? ⟨gb280, 3, none⟩ = some (u281003) := (blk_cell BK280.out 3).trans rfl; have hcz65_4 : w64.cell? ⟨gb280, 4, none⟩ = some (.int .i64 a3) := (blk_cell BK280.out 4).trans rfl; have hfz65_0 := blk_frozen BK280.out 0; have hfz65_1 := blk_frozen BK280.out 1; have hfz65_2 := blk_frozen BK280.out 2; have hfz65_3 := blk_frozen BK280.out 3; have hfz65_4 := blk_frozen BK280.out 4; obtain ⟨Ao66, co66, eo66⟩ := Kd.R_slice HO_281002.out; subst eo66; obtain ⟨Ao67, co67, eo67⟩ := Kd.R_slice HO_281003.out; subst eo67) | (go_at_call 9; (with_reducible refine (item_May.calls (wrap64 (2 + (Int.tmod (wrap64 (a0)) 3))) (⟨#[]⟩ : ByteArray) _ _ x281002_2 _ _ x281003_2 a3 t290 _ ?side1 ?side2 ?side3 ?side4 A39.out).mono ?_); (case side1 => exact qC_ ((Kd.R_reads' HO_281002.out).2.2)); (case side2 => exact (Kd.R_reads' HO_281002.out).2.1); (case side3 => exact qC_ ((Kd.R_reads' HO_281003.out).2.2)); (case side4 => exact (Kd.R_reads' HO_281003.out).2.1); rintro e w68 ⟨rfl, hb⟩; have n0_ := Aside0.mk (Kd.R_below (q1_ HO_281002.out) hb); have n1_ := Aside0.mk (Kd.R_below (q1_ HO_281003.out) hb); have n2_ := Aside0.mk (blk_below (g := gb280) (o := .cells #[.int .i64 (wrap64 (2 + (Int.tmod (wrap64 (a0)) 3))), .string (⟨#[]⟩ : ByteArray), .slice Ao66 x281002_2.length co66, .slice Ao67 x281003_2.length co67, .int .i64 a3] 26 (0, 0)) (q3_ BK280.out) hb); have n3_ := Aside0.mk (blk_below (g := gb281) (o := .cells #[.int .i64 1, .string x11_1, .slice none 0 0, .slice none 0 0, .int .i64 a3] 26 (0, 0)) (q3_ BK281.out) hb); have n4_ := Aside0.mk (below_step (q5_ HB.out GE280.out GE281.out) hb); clear HO_281002; clear HO_281003; clear BK280; clear BK281; clear HB; have HO_281002 := n0_; have HO_281003 := n1_; have BK280 := n2_; have BK281 := n3_; have HB := n4_; clear n0_ n1_ n2_ n3_ n4_; (try clear hb); (try clear hb2); (try clear hk); (try clear hi)) | (go_at_call 10; (with_reducible refine (caravanlaw5_awake.calls kj31  t292 _ A61.out).mono ?_); rintro e w69 ⟨rfl, hb⟩; have n0_ := Aside0.mk (Kd.R_below (q1_ HO_281002.out) hb); have n1_ := Aside0.mk (Kd.R_below (q1_ HO_281003.out) hb); have n2_ := Aside0.mk (blk_below (g := gb280) (o := .cells #[.int .i64 (wrap64 (2 + (Int.tmod (wrap64 (a0)) 3))), .string (⟨#[]⟩ : ByteArray), .slice Ao66 x281002_2.length co66, .slice Ao67 x281003_2.length co67, .int .i64 a3] 26 (0, 0)) (q3_ BK280.out) hb); have n3_ := Aside0.mk (blk_below (g := gb281) (o := .cells #[.int .i64 1, .string x11_1, .slice none 0 0, .slice none 0 0, .int .i64 a3] 26 (0, 0)) (q3_ BK281.out) hb); have n4_ := Aside0.mk (below_step (q5_ HB.out GE280.out GE281.out) hb); clear HO_281002; clear HO_281003; clear BK280; clear BK281; clear HB; have HO_281002 := n0_; have HO_281003 := n1_; have BK280 := n2_; have BK281 := n3_; have HB := n4_; clear n0_ n1_ n2_ n3_ n4_; (try clear hb); (try clear hb2); (try clear hk); (try clear hi)))
                 go_ret
                 exact ⟨by first | rfl | (simp [errW_none, errW_some] <;> rfl) | (simp [*, errW_none, errW_some] <;> rfl), (q5_ HB.out GE280.out GE281.out)⟩
                ·rw [if_neg c60] at H
                 have c60b0 : (t290 == false) = false := by simpa using c60
                 (try (have c60b1 : decide (t290 = false) = false := by simpa using c60))
                 (try (have c60b2 : (t290 == false) = false := by simpa using c60))
                 (try (have c60b3 : ¬ (t290 = false) := by simpa using c60))
                 clear c60
                 obtain rfl := Option.some.inj H
                 have hnb70 := NB281_280.out
                 have hnc70 := NB280_281.out
                 have hcz71_0 : wc.cell? ⟨gb281, 0, none⟩ = some (.int .i64 1) := (blk_cell BK281.out 0).trans rfl
                 have hcz71_1 : wc.cell? ⟨gb281, 1, none⟩ = some (.string x11_1) := (blk_cell BK281.out 1).trans rfl
                 have hcz71_2 : wc.cell? ⟨gb281, 2, none⟩ = some (.slice none 0 0) := (blk_cell BK281.out 2).trans rfl
                 have hcz71_3 : wc.cell? ⟨gb281, 3, none⟩ = some (.slice none 0 0) := (blk_cell BK281.out 3).trans rfl
                 have hcz71_4 : wc.cell? ⟨gb281, 4, none⟩ = some (.int .i64 a3) := (blk_cell BK281.out 4).trans rfl
                 have hfz71_0 := blk_frozen BK281.out 0
                 have hfz71_1 := blk_frozen BK281.out 1
                 have hfz71_2 := blk_frozen BK281.out 2
                 have hfz71_3 := blk_frozen BK281.out 3
                 have hfz71_4 := blk_frozen BK281.out 4
                 go_wp2_with (first | ((with_reducible refine gate_callee (f := 9) rfl ?_); refine goesL_ (some 80) rfl rfl Try.func9 (by kernel_rfl) rfl #[.agg #[.int .i64 1, .string x11_1, .slice none 0 0, .slice none 0 0, .int .i64 a3]] rfl qM_ ?_; (refine (item_May.calls 1 x11_1 _ _ ([] : List (S29)) _ _ ([] : List ByteArray) a3 t289 _ ?side1 ?side2 ?side3 ?side4 A36.out).mono ?_); (case side1 => exact Kd.C_nil _ _); (case side2 => exact Nat.le_refl _); (case side3 => exact Kd.C_nil _ _); (case side4 => exact Nat.le_refl _); rintro e w72 ⟨rfl, hb⟩; refine ⟨_, rfl, ?_⟩; have n0_ := Aside0.mk (Kd.R_below (q1_ HO_281002.out) hb); have n1_ := Aside0.mk (Kd.R_below (q1_ HO_281003.out) hb); have n2_ := Aside0.mk (blk_below (g := gb280) (o := .cells #[.int .i64 (wrap64 (2 + (Int.tmod (wrap64 (a0)) 3))), .string (⟨#[]⟩ : ByteArray), u281002, u281003, .int .i64 a3] 26 (0, 0)) (q3_ BK280.out) hb); have n3_ := Aside0.mk (blk_below (g := gb281) (o := .cells #[.int .i64 1, .string x11_1, .slice none 0 0, .slice none 0 0, .int .i64 a3] 26 (0, 0)) (q3_ BK281.out) hb); have n4_ := Aside0.mk (below_step (q5_ HB.out GE280.out GE281.out) hb); clear HO_281002; clear HO_281003; clear BK280; clear BK281; clear HB; have HO_281002 := n0_; have HO_281003 := n1_; have BK280 := n2_; have BK281 := n3_; have HB := n4_; clear n0_ n1_ n2_ n3_ n4_; (try clear hb); (try clear hb2); (try clear hk); (try clear hi); have hcz73_0 : w72.cell? ⟨gb280, 0, none⟩ = some (.int .i64 (wrap64 (2 + (Int.tmod (wrap64 (a0)) 3)))) := (blk_cell BK280.out 0).trans rfl; have hcz73_1 : w72.cell? ⟨gb280, 1, none⟩ = some (.string (⟨#[]⟩ : ByteArray)) := (blk_cell BK280.out 1).trans rfl; have hcz73_2 : w72.cell? ⟨gb280, 2, none⟩ = some (u281002) := (blk_cell BK280.out 2).trans rfl; have hcz73_3 : w72.cell? ⟨gb280, 3, none⟩ = some (u281003) := (blk_cell BK280.out 3).trans rfl; have hcz73_4 : w72.cell? ⟨gb280, 4, none⟩ = some (.int .i64 a3) := (blk_cell BK280.out 4).trans rfl; have hfz73_0 := blk_frozen BK280.out 0; have hfz73_1 := blk_frozen BK280.out 1; have hfz73_2 := blk_frozen BK280.out 2; have hfz73_3 := blk_frozen BK280.out 3; have hfz73_4 := blk_frozen BK280.out 4; obtain ⟨Ao74, co74, eo74⟩ := Kd.R_slice HO_281002.out; subst eo74; obtain ⟨Ao75, co75, eo75⟩ := Kd.R_slice HO_281003.out; subst eo75) | (go_at_call 9; (with_reducible refine (item_May.calls (wrap64 (2 + (Int.tmod (wrap64 (a0)) 3))) (⟨#[]⟩ : ByteArray) _ _ x281002_2 _ _ x281003_2 a3 t290 _ ?side1 ?side2 ?side3 ?side4 A39.out).mono ?_); (case side1 => exact qC_ ((Kd.R_reads' HO_281002.out).2.2)); (case side2 => exact (Kd.R_reads' HO_281002.out).2.1); (case side3 => exact qC_ ((Kd.R_reads' HO_281003.out).2.2)); (case side4 => exact (Kd.R_reads' HO_281003.out).2.1); rintro e w76 ⟨rfl, hb⟩; have n0_ := Aside0.mk (Kd.R_below (q1_ HO_281002.out) hb); have n1_ := Aside0.mk (Kd.R_below (q1_ HO_281003.out) hb); have n2_ := Aside0.mk (blk_below (g := gb280) (o := .cells #[.int .i64 (wrap64 (2 + (Int.tmod (wrap64 (a0)) 3))), .string (⟨#[]⟩ : ByteArray), .slice Ao74 x281002_2.length co74, .slice Ao75 x281003_2.length co75, .int .i64 a3] 26 (0, 0)) (q3_ BK280.out) hb); have n3_ := Aside0.mk (blk_below (g := gb281) (o := .cells #[.int .i64 1, .string x11_1, .slice none 0 0, .slice none 0 0, .int .i64 a3] 26 (0, 0)) (q3_ BK281.out) hb); have n4_ := Aside0.mk (below_step (q5_ HB.out GE280.out GE281.out) hb); clear HO_281002; clear HO_281003; clear BK280; clear BK281; clear HB; have HO_281002 := n0_; have HO_281003 := n1_; have BK280 := n2_; have BK281 := n3_; have HB := n4_; clear n0_ n1_ n2_ n3_ n4_; (try clear hb); (try clear hb2); (try clear hk); (try clear hi)))
                 go_ret
                 exact ⟨by first | rfl | (simp [errW_none, errW_some] <;> rfl) | (simp [*, errW_none, errW_some] <;> rfl), (q5_ HB.out GE280.out GE281.out)⟩
              ·rw [if_neg c41] at H
               have c41b0 : decide ((Int.tmod (wrap64 (a1)) 50) ≤ 40) = false := decide_eq_false c41
               clear c41
               by_cases c77 : (t290 == false) = true
               ·rw [if_pos c77] at H
                have c77b0 : (t290 == false) = true := c77
                (try (have c77b1 : decide (t290 = false) = true := by simpa using c77))
                (try (have c77b2 : (t290 == false) = true := by simpa using c77))
                clear c77
                replace H := Option.bind_eq_some_iff.mp H
                obtain ⟨t293, A780, H⟩ := H
                replace H : (some t293) = some r := H
                have A78 := Aside0.mk A780
                clear A780
                obtain rfl := Option.some.inj H
                have hnb79 := NB281_280.out
                have hnc79 := NB280_281.out
                have hcz80_0 : wc.cell? ⟨gb281, 0, none⟩ = some (.int .i64 1) := (blk_cell BK281.out 0).trans rfl
                have hcz80_1 : wc.cell? ⟨gb281, 1, none⟩ = some (.string x11_1) := (blk_cell BK281.out 1).trans rfl
                have hcz80_2 : wc.cell? ⟨gb281, 2, none⟩ = some (.slice none 0 0) := (blk_cell BK281.out 2).trans rfl
                have hcz80_3 : wc.cell? ⟨gb281, 3, none⟩ = some (.slice none 0 0) := (blk_cell BK281.out 3).trans rfl
                have hcz80_4 : wc.cell? ⟨gb281, 4, none⟩ = some (.int .i64 a3) := (blk_cell BK281.out 4).trans rfl
                have hfz80_0 := blk_frozen BK281.out 0
                have hfz80_1 := blk_frozen BK281.out 1
                have hfz80_2 := blk_frozen BK281.out 2
                have hfz80_3 := blk_frozen BK281.out 3
                have hfz80_4 := blk_frozen BK281.out 4
                go_wp2_with (first | ((with_reducible refine gate_callee (f := 9) rfl ?_); refine goesL_ (some 80) rfl rfl Try.func9 (by kernel_rfl) rfl #[.agg #[.int .i64 1, .string x11_1, .slice none 0 0, .slice none 0 0, .int .i64 a3]] rfl qM_ ?_; (refine (item_May.calls 1 x11_1 _ _ ([] : List (S29)) _ _ ([] : List ByteArray) a3 t289 _ ?side1 ?side2 ?side3 ?side4 A36.out).mono ?_); (case side1 => exact Kd.C_nil _ _); (case side2 => exact Nat.le_refl _); (case side3 => exact Kd.C_nil _ _); (case side4 => exact Nat.le_refl _); rintro e w81 ⟨rfl, hb⟩; refine ⟨_, rfl, ?_⟩; have n0_ := Aside0.mk (Kd.R_below (q1_ HO_281002.out) hb); have n1_ := Aside0.mk (Kd.R_below (q1_ HO_281003.out) hb); have n2_ := Aside0.mk (blk_below (g := gb280) (o := .cells #[.int .i64 (wrap64 (2 + (Int.tmod (wrap64 (a0)) 3))), .string (⟨#[]⟩ : ByteArray), u281002, u281003, .int .i64 a3] 26 (0, 0)) (q3_ BK280.out) hb); have n3_ := Aside0.mk (blk_below (g := gb281) (o := .cells #[.int .i64 1, .string x11_1, .slice none 0 0, .slice none 0 0, .int .i64 a3] 26 (0, 0)) (q3_ BK281.out) hb); have n4_ := Aside0.mk (below_step (q5_ HB.out GE280.out GE281.out) hb); clear HO_281002; clear HO_281003; clear BK280; clear BK281; clear HB; have HO_281002 := n0_; have HO_281003 := n1_; have BK280 := n2_; have BK281 := n3_; have HB := n4_; clear n0_ n1_ n2_ n3_ n4_; (try clear hb); (try clear hb2); (try clear hk); (try clear hi); have hcz82_0 : w81.cell? ⟨gb280, 0, none⟩ = some (.int .i64 (wrap64 (2 + (Int.tmod (wrap64 (a0)) 3)))) := (blk_cell BK280.out 0).trans rfl; have hcz82_1 : w81.cell? ⟨gb280, 1, none⟩ = some (.string (⟨#[]⟩ : ByteArray)) := (blk_cell BK280.out 1).trans rfl; have hcz82_2 : w81.cell? ⟨gb280, 2, none⟩ = some (u281002) := (blk_cell BK280.out 2).trans rfl; have hcz82_3 : w81.cell? ⟨gb280, 3, none⟩ = some (u281003) := (blk_cell BK280.out 3).trans rfl; have hcz82_4 : w81.cell? ⟨gb280, 4, none⟩ = some (.int .i64 a3) := (blk_cell BK280.out 4).trans rfl; have hfz82_0 := blk_frozen BK280.out 0; have hfz82_1 := blk_frozen BK280.out 1; have hfz82_2 := blk_frozen BK280.out 2; have hfz82_3 := blk_frozen BK280.out 3; have hfz82_4 := blk_frozen BK280.out 4; obtain ⟨Ao83, co83, eo83⟩ := Kd.R_slice HO_281002.out; subst eo83; obtain ⟨Ao84, co84, eo84⟩ := Kd.R_slice HO_281003.out; subst eo84) | (go_at_call 9; (with_reducible refine (item_May.calls (wrap64 (2 + (Int.tmod (wrap64 (a0)) 3))) (⟨#[]⟩ : ByteArray) _ _ x281002_2 _ _ x281003_2 a3 t290 _ ?side1 ?side2 ?side3 ?side4 A39.out).mono ?_); (case side1 => exact qC_ ((Kd.R_reads' HO_281002.out).2.2)); (case side2 => exact (Kd.R_reads' HO_281002.out).2.1); (case side3 => exact qC_ ((Kd.R_reads' HO_281003.out).2.2)); (case side4 => exact (Kd.R_reads' HO_281003.out).2.1); rintro e w85 ⟨rfl, hb⟩; have n0_ := Aside0.mk (Kd.R_below (q1_ HO_281002.out) hb); have n1_ := Aside0.mk (Kd.R_below (q1_ HO_281003.out) hb); have n2_ := Aside0.mk (blk_below (g := gb280) (o := .cells #[.int .i64 (wrap64 (2 + (Int.tmod (wrap64 (a0)) 3))), .string (⟨#[]⟩ : ByteArray), .slice Ao83 x281002_2.length co83, .slice Ao84 x281003_2.length co84, .int .i64 a3] 26 (0, 0)) (q3_ BK280.out) hb); have n3_ := Aside0.mk (blk_below (g := gb281) (o := .cells #[.int .i64 1, .string x11_1, .slice none 0 0, .slice none 0 0, .int .i64 a3] 26 (0, 0)) (q3_ BK281.out) hb); have n4_ := Aside0.mk (below_step (q5_ HB.out GE280.out GE281.out) hb); clear HO_281002; clear HO_281003; clear BK280; clear BK281; clear HB; have HO_281002 := n0_; have HO_281003 := n1_; have BK280 := n2_; have BK281 := n3_; have HB := n4_; clear n0_ n1_ n2_ n3_ n4_; (try clear hb); (try clear hb2); (try clear hk); (try clear hi)) | (go_at_call 10; (with_reducible refine (caravanlaw5_awake.calls kj31  t293 _ A78.out).mono ?_); rintro e w86 ⟨rfl, hb⟩; have n0_ := Aside0.mk (Kd.R_below (q1_ HO_281002.out) hb); have n1_ := Aside0.mk (Kd.R_below (q1_ HO_281003.out) hb); have n2_ := Aside0.mk (blk_below (g := gb280) (o := .cells #[.int .i64 (wrap64 (2 + (Int.tmod (wrap64 (a0)) 3))), .string (⟨#[]⟩ : ByteArray), .slice Ao83 x281002_2.length co83, .slice Ao84 x281003_2.length co84, .int .i64 a3] 26 (0, 0)) (q3_ BK280.out) hb); have n3_ := Aside0.mk (blk_below (g := gb281) (o := .cells #[.int .i64 1, .string x11_1, .slice none 0 0, .slice none 0 0, .int .i64 a3] 26 (0, 0)) (q3_ BK281.out) hb); have n4_ := Aside0.mk (below_step (q5_ HB.out GE280.out GE281.out) hb); clear HO_281002; clear HO_281003; clear BK280; clear BK281; clear HB; have HO_281002 := n0_; have HO_281003 := n1_; have BK280 := n2_; have BK281 := n3_; have HB := n4_; clear n0_ n1_ n2_ n3_ n4_; (try clear hb); (try clear hb2); (try clear hk); (try clear hi)))
                go_ret
                exact ⟨by first | rfl | (simp [errW_none, errW_some] <;> rfl) | (simp [*, errW_none, errW_some] <;> rfl), (q5_ HB.out GE280.out GE281.out)⟩
               ·rw [if_neg c77] at H
                have c77b0 : (t290 == false) = false := by simpa using c77
                (try (have c77b1 : decide (t290 = false) = false := by simpa using c77))
                (try (have c77b2 : (t290 == false) = false := by simpa using c77))
                (try (have c77b3 : ¬ (t290 = false) := by simpa using c77))
                clear c77
                obtain rfl := Option.some.inj H
                have hnb87 := NB281_280.out
                have hnc87 := NB280_281.out
                have hcz88_0 : wc.cell? ⟨gb281, 0, none⟩ = some (.int .i64 1) := (blk_cell BK281.out 0).trans rfl
                have hcz88_1 : wc.cell? ⟨gb281, 1, none⟩ = some (.string x11_1) := (blk_cell BK281.out 1).trans rfl
                have hcz88_2 : wc.cell? ⟨gb281, 2, none⟩ = some (.slice none 0 0) := (blk_cell BK281.out 2).trans rfl
                have hcz88_3 : wc.cell? ⟨gb281, 3, none⟩ = some (.slice none 0 0) := (blk_cell BK281.out 3).trans rfl
                have hcz88_4 : wc.cell? ⟨gb281, 4, none⟩ = some (.int .i64 a3) := (blk_cell BK281.out 4).trans rfl
                have hfz88_0 := blk_frozen BK281.out 0
                have hfz88_1 := blk_frozen BK281.out 1
                have hfz88_2 := blk_frozen BK281.out 2
                have hfz88_3 := blk_frozen BK281.out 3
                have hfz88_4 := blk_frozen BK281.out 4
                go_wp2_with (first | ((with_reducible refine gate_callee (f := 9) rfl ?_); refine goesL_ (some 80) rfl rfl Try.func9 (by kernel_rfl) rfl #[.agg #[.int .i64 1, .string x11_1, .slice none 0 0, .slice none 0 0, .int .i64 a3]] rfl qM_ ?_; (refine (item_May.calls 1 x11_1 _ _ ([] : List (S29)) _ _ ([] : List ByteArray) a3 t289 _ ?side1 ?side2 ?side3 ?side4 A36.out).mono ?_); (case side1 => exact Kd.C_nil _ _); (case side2 => exact Nat.le_refl _); (case side3 => exact Kd.C_nil _ _); (case side4 => exact Nat.le_refl _); rintro e w89 ⟨rfl, hb⟩; refine ⟨_, rfl, ?_⟩; have n0_ := Aside0.mk (Kd.R_below (q1_ HO_281002.out) hb); have n1_ := Aside0.mk (Kd.R_below (q1_ HO_281003.out) hb); have n2_ := Aside0.mk (blk_below (g := gb280) (o := .cells #[.int .i64 (wrap64 (2 + (Int.tmod (wrap64 (a0)) 3))), .string (⟨#[]⟩ : ByteArray), u281002, u281003, .int .i64 a3] 26 (0, 0)) (q3_ BK280.out) hb); have n3_ := Aside0.mk (blk_below (g := gb281) (o := .cells #[.int .i64 1, .string x11_1, .slice none 0 0, .slice none 0 0, .int .i64 a3] 26 (0, 0)) (q3_ BK281.out) hb); have n4_ := Aside0.mk (below_step (q5_ HB.out GE280.out GE281.out) hb); clear HO_281002; clear HO_281003; clear BK280; clear BK281; clear HB; have HO_281002 := n0_; have HO_281003 := n1_; have BK280 := n2_; have BK281 := n3_; have HB := n4_; clear n0_ n1_ n2_ n3_ n4_; (try clear hb); (try clear hb2); (try clear hk); (try clear hi); have hcz90_0 : w89.cell? ⟨gb280, 0, none⟩ = some (.int .i64 (wrap64 (2 + (Int.tmod (wrap64 (a0)) 3)))) := (blk_cell BK280.out 0).trans rfl; have hcz90_1 : w89.cell? ⟨gb280, 1, none⟩ = some (.string (⟨#[]⟩ : ByteArray)) := (blk_cell BK280.out 1).trans rfl; have hcz90_2 : w89.cell? ⟨gb280, 2, none⟩ = some (u281002) := (blk_cell BK280.out 2).trans rfl; have hcz90_3 : w89.cell? ⟨gb280, 3, none⟩ = some (u281003) := (blk_cell BK280.out 3).trans rfl; have hcz90_4 : w89.cell? ⟨gb280, 4, none⟩ = some (.int .i64 a3) := (blk_cell BK280.out 4).trans rfl; have hfz90_0 := blk_frozen BK280.out 0; have hfz90_1 := blk_frozen BK280.out 1; have hfz90_2 := blk_frozen BK280.out 2; have hfz90_3 := blk_frozen BK280.out 3; have hfz90_4 := blk_frozen BK280.out 4; obtain ⟨Ao91, co91, eo91⟩ := Kd.R_slice HO_281002.out; subst eo91; obtain ⟨Ao92, co92, eo92⟩ := Kd.R_slice HO_281003.out; subst eo92) | (go_at_call 9; (with_reducible refine (item_May.calls (wrap64 (2 + (Int.tmod (wrap64 (a0)) 3))) (⟨#[]⟩ : ByteArray) _ _ x281002_2 _ _ x281003_2 a3 t290 _ ?side1 ?side2 ?side3 ?side4 A39.out).mono ?_); (case side1 => exact qC_ ((Kd.R_reads' HO_281002.out).2.2)); (case side2 => exact (Kd.R_reads' HO_281002.out).2.1); (case side3 => exact qC_ ((Kd.R_reads' HO_281003.out).2.2)); (case side4 => exact (Kd.R_reads' HO_281003.out).2.1); rintro e w93 ⟨rfl, hb⟩; have n0_ := Aside0.mk (Kd.R_below (q1_ HO_281002.out) hb); have n1_ := Aside0.mk (Kd.R_below (q1_ HO_281003.out) hb); have n2_ := Aside0.mk (blk_below (g := gb280) (o := .cells #[.int .i64 (wrap64 (2 + (Int.tmod (wrap64 (a0)) 3))), .string (⟨#[]⟩ : ByteArray), .slice Ao91 x281002_2.length co91, .slice Ao92 x281003_2.length co92, .int .i64 a3] 26 (0, 0)) (q3_ BK280.out) hb); have n3_ := Aside0.mk (blk_below (g := gb281) (o := .cells #[.int .i64 1, .string x11_1, .slice none 0 0, .slice none 0 0, .int .i64 a3] 26 (0, 0)) (q3_ BK281.out) hb); have n4_ := Aside0.mk (below_step (q5_ HB.out GE280.out GE281.out) hb); clear HO_281002; clear HO_281003; clear BK280; clear BK281; clear HB; have HO_281002 := n0_; have HO_281003 := n1_; have BK280 := n2_; have BK281 := n3_; have HB := n4_; clear n0_ n1_ n2_ n3_ n4_; (try clear hb); (try clear hb2); (try clear hk); (try clear hi)))
                go_ret
                exact ⟨by first | rfl | (simp [errW_none, errW_some] <;> rfl) | (simp [*, errW_none, errW_some] <;> rfl), (q5_ HB.out GE280.out GE281.out)⟩
             ·rw [if_neg c40] at H
              have c40b0 : decide (1 ≤ (Int.tmod (wrap64 (a1)) 50)) = false := decide_eq_false c40
              clear c40
              by_cases c94 : (t290 == false) = true
              ·rw [if_pos c94] at H
               have c94b0 : (t290 == false) = true := c94
               (try (have c94b1 : decide (t290 = false) = true := by simpa using c94))
               (try (have c94b2 : (t290 == false) = true := by simpa using c94))
               clear c94
               replace H := Option.bind_eq_some_iff.mp H
               obtain ⟨t294, A950, H⟩ := H
               replace H : (some t294) = some r := H
               have A95 := Aside0.mk A950
               clear A950
               obtain rfl := Option.some.inj H
               have hnb96 := NB281_280.out
               have hnc96 := NB280_281.out
               have hcz97_0 : wc.cell? ⟨gb281, 0, none⟩ = some (.int .i64 1) := (blk_cell BK281.out 0).trans rfl
               have hcz97_1 : wc.cell? ⟨gb281, 1, none⟩ = some (.string x11_1) := (blk_cell BK281.out 1).trans rfl
               have hcz97_2 : wc.cell? ⟨gb281, 2, none⟩ = some (.slice none 0 0) := (blk_cell BK281.out 2).trans rfl
               have hcz97_3 : wc.cell? ⟨gb281, 3, none⟩ = some (.slice none 0 0) := (blk_cell BK281.out 3).trans rfl
               have hcz97_4 : wc.cell? ⟨gb281, 4, none⟩ = some (.int .i64 a3) := (blk_cell BK281.out 4).trans rfl
               have hfz97_0 := blk_frozen BK281.out 0
               have hfz97_1 := blk_frozen BK281.out 1
               have hfz97_2 := blk_frozen BK281.out 2
               have hfz97_3 := blk_frozen BK281.out 3
               have hfz97_4 := blk_frozen BK281.out 4
               go_wp2_with (first | ((with_reducible refine gate_callee (f := 9) rfl ?_); refine goesL_ (some 80) rfl rfl Try.func9 (by kernel_rfl) rfl #[.agg #[.int .i64 1, .string x11_1, .slice none 0 0, .slice none 0 0, .int .i64 a3]] rfl qM_ ?_; (refine (item_May.calls 1 x11_1 _ _ ([] : List (S29)) _ _ ([] : List ByteArray) a3 t289 _ ?side1 ?side2 ?side3 ?side4 A36.out).mono ?_); (case side1 => exact Kd.C_nil _ _); (case side2 => exact Nat.le_refl _); (case side3 => exact Kd.C_nil _ _); (case side4 => exact Nat.le_refl _); rintro e w98 ⟨rfl, hb⟩; refine ⟨_, rfl, ?_⟩; have n0_ := Aside0.mk (Kd.R_below (q1_ HO_281002.out) hb); have n1_ := Aside0.mk (Kd.R_below (q1_ HO_281003.out) hb); have n2_ := Aside0.mk (blk_below (g := gb280) (o := .cells #[.int .i64 (wrap64 (2 + (Int.tmod (wrap64 (a0)) 3))), .string (⟨#[]⟩ : ByteArray), u281002, u281003, .int .i64 a3] 26 (0, 0)) (q3_ BK280.out) hb); have n3_ := Aside0.mk (blk_below (g := gb281) (o := .cells #[.int .i64 1, .string x11_1, .slice none 0 0, .slice none 0 0, .int .i64 a3] 26 (0, 0)) (q3_ BK281.out) hb); have n4_ := Aside0.mk (below_step (q5_ HB.out GE280.out GE281.out) hb); clear HO_281002; clear HO_281003; clear BK280; clear BK281; clear HB; have HO_281002 := n0_; have HO_281003 := n1_; have BK280 := n2_; have BK281 := n3_; have HB := n4_; clear n0_ n1_ n2_ n3_ n4_; (try clear hb); (try clear hb2); (try clear hk); (try clear hi); have hcz99_0 : w98.cell? ⟨gb280, 0, none⟩ = some (.int .i64 (wrap64 (2 + (Int.tmod (wrap64 (a0)) 3)))) := (blk_cell BK280.out 0).trans rfl; have hcz99_1 : w98.cell? ⟨gb280, 1, none⟩ = some (.string (⟨#[]⟩ : ByteArray)) := (blk_cell BK280.out 1).trans rfl; have hcz99_2 : w98.cell? ⟨gb280, 2, none⟩ = some (u281002) := (blk_cell BK280.out 2).trans rfl; have hcz99_3 : w98.cell? ⟨gb280, 3, none⟩ = some (u281003) := (blk_cell BK280.out 3).trans rfl; have hcz99_4 : w98.cell? ⟨gb280, 4, none⟩ = some (.int .i64 a3) := (blk_cell BK280.out 4).trans rfl; have hfz99_0 := blk_frozen BK280.out 0; have hfz99_1 := blk_frozen BK280.out 1; have hfz99_2 := blk_frozen BK280.out 2; have hfz99_3 := blk_frozen BK280.out 3; have hfz99_4 := blk_frozen BK280.out 4; obtain ⟨Ao100, co100, eo100⟩ := Kd.R_slice HO_281002.out; subst eo100; obtain ⟨Ao101, co101, eo101⟩ := Kd.R_slice HO_281003.out; subst eo101) | (go_at_call 9; (with_reducible refine (item_May.calls (wrap64 (2 + (Int.tmod (wrap64 (a0)) 3))) (⟨#[]⟩ : ByteArray) _ _ x281002_2 _ _ x281003_2 a3 t290 _ ?side1 ?side2 ?side3 ?side4 A39.out).mono ?_); (case side1 => exact qC_ ((Kd.R_reads' HO_281002.out).2.2)); (case side2 => exact (Kd.R_reads' HO_281002.out).2.1); (case side3 => exact qC_ ((Kd.R_reads' HO_281003.out).2.2)); (case side4 => exact (Kd.R_reads' HO_281003.out).2.1); rintro e w102 ⟨rfl, hb⟩; have n0_ := Aside0.mk (Kd.R_below (q1_ HO_281002.out) hb); have n1_ := Aside0.mk (Kd.R_below (q1_ HO_281003.out) hb); have n2_ := Aside0.mk (blk_below (g := gb280) (o := .cells #[.int .i64 (wrap64 (2 + (Int.tmod (wrap64 (a0)) 3))), .string (⟨#[]⟩ : ByteArray), .slice Ao100 x281002_2.length co100, .slice Ao101 x281003_2.length co101, .int .i64 a3] 26 (0, 0)) (q3_ BK280.out) hb); have n3_ := Aside0.mk (blk_below (g := gb281) (o := .cells #[.int .i64 1, .string x11_1, .slice none 0 0, .slice none 0 0, .int .i64 a3] 26 (0, 0)) (q3_ BK281.out) hb); have n4_ := Aside0.mk (below_step (q5_ HB.out GE280.out GE281.out) hb); clear HO_281002; clear HO_281003; clear BK280; clear BK281; clear HB; have HO_281002 := n0_; have HO_281003 := n1_; have BK280 := n2_; have BK281 := n3_; have HB := n4_; clear n0_ n1_ n2_ n3_ n4_; (try clear hb); (try clear hb2); (try clear hk); (try clear hi)) | (go_at_call 10; (with_reducible refine (caravanlaw5_awake.calls kj31  t294 _ A95.out).mono ?_); rintro e w103 ⟨rfl, hb⟩; have n0_ := Aside0.mk (Kd.R_below (q1_ HO_281002.out) hb); have n1_ := Aside0.mk (Kd.R_below (q1_ HO_281003.out) hb); have n2_ := Aside0.mk (blk_below (g := gb280) (o := .cells #[.int .i64 (wrap64 (2 + (Int.tmod (wrap64 (a0)) 3))), .string (⟨#[]⟩ : ByteArray), .slice Ao100 x281002_2.length co100, .slice Ao101 x281003_2.length co101, .int .i64 a3] 26 (0, 0)) (q3_ BK280.out) hb); have n3_ := Aside0.mk (blk_below (g := gb281) (o := .cells #[.int .i64 1, .string x11_1, .slice none 0 0, .slice none 0 0, .int .i64 a3] 26 (0, 0)) (q3_ BK281.out) hb); have n4_ := Aside0.mk (below_step (q5_ HB.out GE280.out GE281.out) hb); clear HO_281002; clear HO_281003; clear BK280; clear BK281; clear HB; have HO_281002 := n0_; have HO_281003 := n1_; have BK280 := n2_; have BK281 := n3_; have HB := n4_; clear n0_ n1_ n2_ n3_ n4_; (try clear hb); (try clear hb2); (try clear hk); (try clear hi)))
               go_ret
               exact ⟨by first | rfl | (simp [errW_none, errW_some] <;> rfl) | (simp [*, errW_none, errW_some] <;> rfl), (q5_ HB.out GE280.out GE281.out)⟩
              ·rw [if_neg c94] at H
               have c94b0 : (t290 == false) = false := by simpa using c94
               (try (have c94b1 : decide (t290 = false) = false := by simpa using c94))
               (try (have c94b2 : (t290 == false) = false := by simpa using c94))
               (try (have c94b3 : ¬ (t290 = false) := by simpa using c94))
               clear c94
               obtain rfl := Option.some.inj H
               have hnb104 := NB281_280.out
               have hnc104 := NB280_281.out
               have hcz105_0 : wc.cell? ⟨gb281, 0, none⟩ = some (.int .i64 1) := (blk_cell BK281.out 0).trans rfl
               have hcz105_1 : wc.cell? ⟨gb281, 1, none⟩ = some (.string x11_1) := (blk_cell BK281.out 1).trans rfl
               have hcz105_2 : wc.cell? ⟨gb281, 2, none⟩ = some (.slice none 0 0) := (blk_cell BK281.out 2).trans rfl
               have hcz105_3 : wc.cell? ⟨gb281, 3, none⟩ = some (.slice none 0 0) := (blk_cell BK281.out 3).trans rfl
               have hcz105_4 : wc.cell? ⟨gb281, 4, none⟩ = some (.int .i64 a3) := (blk_cell BK281.out 4).trans rfl
               have hfz105_0 := blk_frozen BK281.out 0
               have hfz105_1 := blk_frozen BK281.out 1
               have hfz105_2 := blk_frozen BK281.out 2
               have hfz105_3 := blk_frozen BK281.out 3
               have hfz105_4 := blk_frozen BK281.out 4
               go_wp2_with (first | ((with_reducible refine gate_callee (f := 9) rfl ?_); refine goesL_ (some 80) rfl rfl Try.func9 (by kernel_rfl) rfl #[.agg #[.int .i64 1, .string x11_1, .slice none 0 0, .slice none 0 0, .int .i64 a3]] rfl qM_ ?_; (refine (item_May.calls 1 x11_1 _ _ ([] : List (S29)) _ _ ([] : List ByteArray) a3 t289 _ ?side1 ?side2 ?side3 ?side4 A36.out).mono ?_); (case side1 => exact Kd.C_nil _ _); (case side2 => exact Nat.le_refl _); (case side3 => exact Kd.C_nil _ _); (case side4 => exact Nat.le_refl _); rintro e w106 ⟨rfl, hb⟩; refine ⟨_, rfl, ?_⟩; have n0_ := Aside0.mk (Kd.R_below (q1_ HO_281002.out) hb); have n1_ := Aside0.mk (Kd.R_below (q1_ HO_281003.out) hb); have n2_ := Aside0.mk (blk_below (g := gb280) (o := .cells #[.int .i64 (wrap64 (2 + (Int.tmod (wrap64 (a0)) 3))), .string (⟨#[]⟩ : ByteArray), u281002, u281003, .int .i64 a3] 26 (0, 0)) (q3_ BK280.out) hb); have n3_ := Aside0.mk (blk_below (g := gb281) (o := .cells #[.int .i64 1, .string x11_1, .slice none 0 0, .slice none 0 0, .int .i64 a3] 26 (0, 0)) (q3_ BK281.out) hb); have n4_ := Aside0.mk (below_step (q5_ HB.out GE280.out GE281.out) hb); clear HO_281002; clear HO_281003; clear BK280; clear BK281; clear HB; have HO_281002 := n0_; have HO_281003 := n1_; have BK280 := n2_; have BK281 := n3_; have HB := n4_; clear n0_ n1_ n2_ n3_ n4_; (try clear hb); (try clear hb2); (try clear hk); (try clear hi); have hcz107_0 : w106.cell? ⟨gb280, 0, none⟩ = some (.int .i64 (wrap64 (2 + (Int.tmod (wrap64 (a0)) 3)))) := (blk_cell BK280.out 0).trans rfl; have hcz107_1 : w106.cell? ⟨gb280, 1, none⟩ = some (.string (⟨#[]⟩ : ByteArray)) := (blk_cell BK280.out 1).trans rfl; have hcz107_2 : w106.cell? ⟨gb280, 2, none⟩ = some (u281002) := (blk_cell BK280.out 2).trans rfl; have hcz107_3 : w106.cell? ⟨gb280, 3, none⟩ = some (u281003) := (blk_cell BK280.out 3).trans rfl; have hcz107_4 : w106.cell? ⟨gb280, 4, none⟩ = some (.int .i64 a3) := (blk_cell BK280.out 4).trans rfl; have hfz107_0 := blk_frozen BK280.out 0; have hfz107_1 := blk_frozen BK280.out 1; have hfz107_2 := blk_frozen BK280.out 2; have hfz107_3 := blk_frozen BK280.out 3; have hfz107_4 := blk_frozen BK280.out 4; obtain ⟨Ao108, co108, eo108⟩ := Kd.R_slice HO_281002.out; subst eo108; obtain ⟨Ao109, co109, eo109⟩ := Kd.R_slice HO_281003.out; subst eo109) | (go_at_call 9; (with_reducible refine (item_May.calls (wrap64 (2 + (Int.tmod (wrap64 (a0)) 3))) (⟨#[]⟩ : ByteArray) _ _ x281002_2 _ _ x281003_2 a3 t290 _ ?side1 ?side2 ?side3 ?side4 A39.out).mono ?_); (case side1 => exact qC_ ((Kd.R_reads' HO_281002.out).2.2)); (case side2 => exact (Kd.R_reads' HO_281002.out).2.1); (case side3 => exact qC_ ((Kd.R_reads' HO_281003.out).2.2)); (case side4 => exact (Kd.R_reads' HO_281003.out).2.1); rintro e w110 ⟨rfl, hb⟩; have n0_ := Aside0.mk (Kd.R_below (q1_ HO_281002.out) hb); have n1_ := Aside0.mk (Kd.R_below (q1_ HO_281003.out) hb); have n2_ := Aside0.mk (blk_below (g := gb280) (o := .cells #[.int .i64 (wrap64 (2 + (Int.tmod (wrap64 (a0)) 3))), .string (⟨#[]⟩ : ByteArray), .slice Ao108 x281002_2.length co108, .slice Ao109 x281003_2.length co109, .int .i64 a3] 26 (0, 0)) (q3_ BK280.out) hb); have n3_ := Aside0.mk (blk_below (g := gb281) (o := .cells #[.int .i64 1, .string x11_1, .slice none 0 0, .slice none 0 0, .int .i64 a3] 26 (0, 0)) (q3_ BK281.out) hb); have n4_ := Aside0.mk (below_step (q5_ HB.out GE280.out GE281.out) hb); clear HO_281002; clear HO_281003; clear BK280; clear BK281; clear HB; have HO_281002 := n0_; have HO_281003 := n1_; have BK280 := n2_; have BK281 := n3_; have HB := n4_; clear n0_ n1_ n2_ n3_ n4_; (try clear hb); (try clear hb2); (try clear hk); (try clear hi)))
               go_ret
               exact ⟨by first | rfl | (simp [errW_none, errW_some] <;> rfl) | (simp [*, errW_none, errW_some] <;> rfl), (q5_ HB.out GE280.out GE281.out)⟩
            ·rw [if_neg c38] at H
             have c38b0 : (t289 == x16_29) = false := by simpa using c38
             (try (have c38b1 : decide (t289 = x16_29) = false := by simpa using c38))
             (try (have c38b2 : (t289 == x16_29) = false := by simpa using c38))
             (try (have c38b3 : ¬ (t289 = x16_29) := by simpa using c38))
             clear c38
             obtain rfl := Option.some.inj H
             have hnb111 := NB281_280.out
             have hnc111 := NB280_281.out
             have hcz112_0 : wc.cell? ⟨gb281, 0, none⟩ = some (.int .i64 1) := (blk_cell BK281.out 0).trans rfl
             have hcz112_1 : wc.cell? ⟨gb281, 1, none⟩ = some (.string x11_1) := (blk_cell BK281.out 1).trans rfl
             have hcz112_2 : wc.cell? ⟨gb281, 2, none⟩ = some (.slice none 0 0) := (blk_cell BK281.out 2).trans rfl
             have hcz112_3 : wc.cell? ⟨gb281, 3, none⟩ = some (.slice none 0 0) := (blk_cell BK281.out 3).trans rfl
             have hcz112_4 : wc.cell? ⟨gb281, 4, none⟩ = some (.int .i64 a3) := (blk_cell BK281.out 4).trans rfl
             have hfz112_0 := blk_frozen BK281.out 0
             have hfz112_1 := blk_frozen BK281.out 1
             have hfz112_2 := blk_frozen BK281.out 2
             have hfz112_3 := blk_frozen BK281.out 3
             have hfz112_4 := blk_frozen BK281.out 4
             go_wp2_with (first | ((with_reducible refine gate_callee (f := 9) rfl ?_); refine goesL_ (some 80) rfl rfl Try.func9 (by kernel_rfl) rfl #[.agg #[.int .i64 1, .string x11_1, .slice none 0 0, .slice none 0 0, .int .i64 a3]] rfl qM_ ?_; (refine (item_May.calls 1 x11_1 _ _ ([] : List (S29)) _ _ ([] : List ByteArray) a3 t289 _ ?side1 ?side2 ?side3 ?side4 A36.out).mono ?_); (case side1 => exact Kd.C_nil _ _); (case side2 => exact Nat.le_refl _); (case side3 => exact Kd.C_nil _ _); (case side4 => exact Nat.le_refl _); rintro e w113 ⟨rfl, hb⟩; refine ⟨_, rfl, ?_⟩; have n0_ := Aside0.mk (Kd.R_below (q1_ HO_281002.out) hb); have n1_ := Aside0.mk (Kd.R_below (q1_ HO_281003.out) hb); have n2_ := Aside0.mk (blk_below (g := gb280) (o := .cells #[.int .i64 (wrap64 (2 + (Int.tmod (wrap64 (a0)) 3))), .string (⟨#[]⟩ : ByteArray), u281002, u281003, .int .i64 a3] 26 (0, 0)) (q3_ BK280.out) hb); have n3_ := Aside0.mk (blk_below (g := gb281) (o := .cells #[.int .i64 1, .string x11_1, .slice none 0 0, .slice none 0 0, .int .i64 a3] 26 (0, 0)) (q3_ BK281.out) hb); have n4_ := Aside0.mk (below_step (q5_ HB.out GE280.out GE281.out) hb); clear HO_281002; clear HO_281003; clear BK280; clear BK281; clear HB; have HO_281002 := n0_; have HO_281003 := n1_; have BK280 := n2_; have BK281 := n3_; have HB := n4_; clear n0_ n1_ n2_ n3_ n4_; (try clear hb); (try clear hb2); (try clear hk); (try clear hi)))
             go_ret
             exact ⟨by first | rfl | (simp [errW_none, errW_some] <;> rfl) | (simp [*, errW_none, errW_some] <;> rfl), (q5_ HB.out GE280.out GE281.out)⟩
           ·rw [if_neg c37] at H
            have c37b0 : decide ((Int.tmod (wrap64 (a2)) 400) ≤ 300) = false := decide_eq_false c37
            clear c37
            by_cases c114 : (t289 == false) = true
            ·rw [if_pos c114] at H
             have c114b0 : (t289 == false) = true := c114
             (try (have c114b1 : decide (t289 = false) = true := by simpa using c114))
             (try (have c114b2 : (t289 == false) = true := by simpa using c114))
             clear c114
             replace H := Option.bind_eq_some_iff.mp H
             obtain ⟨t295, A1150, H⟩ := H
             replace H : (if (Int.tmod (wrap64 (a1)) 50) ≥ 1 then (if (Int.tmod (wrap64 (a1)) 50) ≤ 40 then (if x17_31 = true then (if (t295 == x16_29) = true then ((caravanlaw5_awake.f kj31).bind fun t296 => (some t296)) else (some false)) else (if (t295 == false) = true then ((caravanlaw5_awake.f kj31).bind fun t297 => (some t297)) else (some false))) else (if (t295 == false) = true then ((caravanlaw5_awake.f kj31).bind fun t298 => (some t298)) else (some false))) else (if (t295 == false) = true then ((caravanlaw5_awake.f kj31).bind fun t299 => (some t299)) else (some false))) = some r := H
             have A115 := Aside0.mk A1150
             clear A1150
             by_cases c116 : (Int.tmod (wrap64 (a1)) 50) ≥ 1
             ·rw [if_pos c116] at H
              have c116b0 : decide (1 ≤ (Int.tmod (wrap64 (a1)) 50)) = true := decide_eq_true c116
              clear c116
              by_cases c117 : (Int.tmod (wrap64 (a1)) 50) ≤ 40
              ·rw [if_pos c117] at H
               have c117b0 : decide ((Int.tmod (wrap64 (a1)) 50) ≤ 40) = true := decide_eq_true c117
               clear c117
               by_cases c118 : x17_31 = true
               ·subst c118
                have H1 : (if (t295 == x16_29) = true then ((caravanlaw5_awake.f kj31).bind fun t296 => (some t296)) else (some false)) = some r := by rw [if_pos rfl] at H; exact H
                clear H
                have H := H1
                clear H1
                by_cases c119 : (t295 == x16_29) = true
                ·rw [if_pos c119] at H
                 have c119b0 : (t295 == x16_29) = true := c119
                 (try (have c119b1 : decide (t295 = x16_29) = true := by simpa using c119))
                 (try (have c119b2 : (t295 == x16_29) = true := by simpa using c119))
                 clear c119
                 replace H := Option.bind_eq_some_iff.mp H
                 obtain ⟨t296, A1200, H⟩ := H
                 replace H : (some t296) = some r := H
                 have A120 := Aside0.mk A1200
                 clear A1200
                 obtain rfl := Option.some.inj H
                 have hnb121 := NB281_280.out
                 have hnc121 := NB280_281.out
                 have hcz122_0 : wc.cell? ⟨gb281, 0, none⟩ = some (.int .i64 1) := (blk_cell BK281.out 0).trans rfl
                 have hcz122_1 : wc.cell? ⟨gb281, 1, none⟩ = some (.string x11_1) := (blk_cell BK281.out 1).trans rfl
                 have hcz122_2 : wc.cell? ⟨gb281, 2, none⟩ = some (.slice none 0 0) := (blk_cell BK281.out 2).trans rfl
                 have hcz122_3 : wc.cell? ⟨gb281, 3, none⟩ = some (.slice none 0 0) := (blk_cell BK281.out 3).trans rfl
                 have hcz122_4 : wc.cell? ⟨gb281, 4, none⟩ = some (.int .i64 a3) := (blk_cell BK281.out 4).trans rfl
                 have hfz122_0 := blk_frozen BK281.out 0
                 have hfz122_1 := blk_frozen BK281.out 1
                 have hfz122_2 := blk_frozen BK281.out 2
                 have hfz122_3 := blk_frozen BK281.out 3
                 have hfz122_4 := blk_frozen BK281.out 4
                 go_wp2_with (first | ((with_reducible refine gate_callee (f := 9) rfl ?_); refine goesL_ (some 80) rfl rfl Try.func9 (by kernel_rfl) rfl #[.agg #[.int .i64 1, .string x11_1, .slice none 0 0, .slice none 0 0, .int .i64 a3]] rfl qM_ ?_; (refine (item_May.calls 1 x11_1 _ _ ([] : List (S29)) _ _ ([] : List ByteArray) a3 t289 _ ?side1 ?side2 ?side3 ?side4 A36.out).mono ?_); (case side1 => exact Kd.C_nil _ _); (case side2 => exact Nat.le_refl _); (case side3 => exact Kd.C_nil _ _); (case side4 => exact Nat.le_refl _); rintro e w123 ⟨rfl, hb⟩; refine ⟨_, rfl, ?_⟩; have n0_ := Aside0.mk (Kd.R_below (q1_ HO_281002.out) hb); have n1_ := Aside0.mk (Kd.R_below (q1_ HO_281003.out) hb); have n2_ := Aside0.mk (blk_below (g := gb280) (o := .cells #[.int .i64 (wrap64 (2 + (Int.tmod (wrap64 (a0)) 3))), .string (⟨#[]⟩ : ByteArray), u281002, u281003, .int .i64 a3] 26 (0, 0)) (q3_ BK280.out) hb); have n3_ := Aside0.mk (blk_below (g := gb281) (o := .cells #[.int .i64 1, .string x11_1, .slice none 0 0, .slice none 0 0, .int .i64 a3] 26 (0, 0)) (q3_ BK281.out) hb); have n4_ := Aside0.mk (below_step (q5_ HB.out GE280.out GE281.out) hb); clear HO_281002; clear HO_281003; clear BK280; clear BK281; clear HB; have HO_281002 := n0_; have HO_281003 := n1_; have BK280 := n2_; have BK281 := n3_; have HB := n4_; clear n0_ n1_ n2_ n3_ n4_; (try clear hb); (try clear hb2); (try clear hk); (try clear hi); have hcz124_0 : w123.cell? ⟨gb280, 0, none⟩ = some (.int .i64 (wrap64 (2 + (Int.tmod (wrap64 (a0)) 3)))) := (blk_cell BK280.out 0).trans rfl; have hcz124_1 : w123.cell? ⟨gb280, 1, none⟩ = some (.string (⟨#[]⟩ : ByteArray)) := (blk_cell BK280.out 1).trans rfl; have hcz124_2 : w123.cell? ⟨gb280, 2, none⟩ = some (u281002) := (blk_cell BK280.out 2).trans rfl; have hcz124_3 : w123.cell? ⟨gb280, 3, none⟩ = some (u281003) := (blk_cell BK280.out 3).trans rfl; have hcz124_4 : w123.cell? ⟨gb280, 4, none⟩ = some (.int .i64 a3) := (blk_cell BK280.out 4).trans rfl; have hfz124_0 := blk_frozen BK280.out 0; have hfz124_1 := blk_frozen BK280.out 1; have hfz124_2 := blk_frozen BK280.out 2; have hfz124_3 := blk_frozen BK280.out 3; have hfz124_4 := blk_frozen BK280.out 4; obtain ⟨Ao125, co125, eo125⟩ := Kd.R_slice HO_281002.out; subst eo125; obtain ⟨Ao126, co126, eo126⟩ := Kd.R_slice HO_281003.out; subst eo126) | (go_at_call 9; (with_reducible refine (item_May.calls (wrap64 (2 + (Int.tmod (wrap64 (a0)) 3))) (⟨#[]⟩ : ByteArray) _ _ x281002_2 _ _ x281003_2 a3 t295 _ ?side1 ?side2 ?side3 ?side4 A115.out).mono ?_); (case side1 => exact qC_ ((Kd.R_reads' HO_281002.out).2.2)); (case side2 => exact (Kd.R_reads' HO_281002.out).2.1); (case side3 => exact qC_ ((Kd.R_reads' HO_281003.out).2.2)); (case side4 => exact (Kd.R_reads' HO_281003.out).2.1); rintro e w127 ⟨rfl, hb⟩; have n0_ := Aside0.mk (Kd.R_below (q1_ HO_281002.out) hb); have n1_ := Aside0.mk (Kd.R_below (q1_ HO_281003.out) hb); have n2_ := Aside0.mk (blk_below (g := gb280) (o := .cells #[.int .i64 (wrap64 (2 + (Int.tmod (wrap64 (a0)) 3))), .string (⟨#[]⟩ : ByteArray), .slice Ao125 x281002_2.length co125, .slice Ao126 x281003_2.length co126, .int .i64 a3] 26 (0, 0)) (q3_ BK280.out) hb); have n3_ := Aside0.mk (blk_below (g := gb281) (o := .cells #[.int .i64 1, .string x11_1, .slice none 0 0, .slice none 0 0, .int .i64 a3] 26 (0, 0)) (q3_ BK281.out) hb); have n4_ := Aside0.mk (below_step (q5_ HB.out GE280.out GE281.out) hb); clear HO_281002; clear HO_281003; clear BK280; clear BK281; clear HB; have HO_281002 := n0_; have HO_281003 := n1_; have BK280 := n2_; have BK281 := n3_; have HB := n4_; clear n0_ n1_ n2_ n3_ n4_; (try clear hb); (try clear hb2); (try clear hk); (try clear hi)) | (go_at_call 10; (with_reducible refine (caravanlaw5_awake.calls kj31  t296 _ A120.out).mono ?_); rintro e w128 ⟨rfl, hb⟩; have n0_ := Aside0.mk (Kd.R_below (q1_ HO_281002.out) hb); have n1_ := Aside0.mk (Kd.R_below (q1_ HO_281003.out) hb); have n2_ := Aside0.mk (blk_below (g := gb280) (o := .cells #[.int .i64 (wrap64 (2 + (Int.tmod (wrap64 (a0)) 3))), .string (⟨#[]⟩ : ByteArray), .slice Ao125 x281002_2.length co125, .slice Ao126 x281003_2.length co126, .int .i64 a3] 26 (0, 0)) (q3_ BK280.out) hb); have n3_ := Aside0.mk (blk_below (g := gb281) (o := .cells #[.int .i64 1, .string x11_1, .slice none 0 0, .slice none 0 0, .int .i64 a3] 26 (0, 0)) (q3_ BK281.out) hb); have n4_ := Aside0.mk (below_step (q5_ HB.out GE280.out GE281.out) hb); clear HO_281002; clear HO_281003; clear BK280; clear BK281; clear HB; have HO_281002 := n0_; have HO_281003 := n1_; have BK280 := n2_; have BK281 := n3_; have HB := n4_; clear n0_ n1_ n2_ n3_ n4_; (try clear hb); (try clear hb2); (try clear hk); (try clear hi)))
                 go_ret
                 exact ⟨by first | rfl | (simp [errW_none, errW_some] <;> rfl) | (simp [*, errW_none, errW_some] <;> rfl), (q5_ HB.out GE280.out GE281.out)⟩
                ·rw [if_neg c119] at H
                 have c119b0 : (t295 == x16_29) = false := by simpa using c119
                 (try (have c119b1 : decide (t295 = x16_29) = false := by simpa using c119))
                 (try (have c119b2 : (t295 == x16_29) = false := by simpa using c119))
                 (try (have c119b3 : ¬ (t295 = x16_29) := by simpa using c119))
                 clear c119
                 obtain rfl := Option.some.inj H
                 have hnb129 := NB281_280.out
                 have hnc129 := NB280_281.out
                 have hcz130_0 : wc.cell? ⟨gb281, 0, none⟩ = some (.int .i64 1) := (blk_cell BK281.out 0).trans rfl
                 have hcz130_1 : wc.cell? ⟨gb281, 1, none⟩ = some (.string x11_1) := (blk_cell BK281.out 1).trans rfl
                 have hcz130_2 : wc.cell? ⟨gb281, 2, none⟩ = some (.slice none 0 0) := (blk_cell BK281.out 2).trans rfl
                 have hcz130_3 : wc.cell? ⟨gb281, 3, none⟩ = some (.slice none 0 0) := (blk_cell BK281.out 3).trans rfl
                 have hcz130_4 : wc.cell? ⟨gb281, 4, none⟩ = some (.int .i64 a3) := (blk_cell BK281.out 4).trans rfl
                 have hfz130_0 := blk_frozen BK281.out 0
                 have hfz130_1 := blk_frozen BK281.out 1
                 have hfz130_2 := blk_frozen BK281.out 2
                 have hfz130_3 := blk_frozen BK281.out 3
                 have hfz130_4 := blk_frozen BK281.out 4
                 go_wp2_with (first | ((with_reducible refine gate_callee (f := 9) rfl ?_); refine goesL_ (some 80) rfl rfl Try.func9 (by kernel_rfl) rfl #[.agg #[.int .i64 1, .string x11_1, .slice none 0 0, .slice none 0 0, .int .i64 a3]] rfl qM_ ?_; (refine (item_May.calls 1 x11_1 _ _ ([] : List (S29)) _ _ ([] : List ByteArray) a3 t289 _ ?side1 ?side2 ?side3 ?side4 A36.out).mono ?_); (case side1 => exact Kd.C_nil _ _); (case side2 => exact Nat.le_refl _); (case side3 => exact Kd.C_nil _ _); (case side4 => exact Nat.le_refl _); rintro e w131 ⟨rfl, hb⟩; refine ⟨_, rfl, ?_⟩; have n0_ := Aside0.mk (Kd.R_below (q1_ HO_281002.out) hb); have n1_ := Aside0.mk (Kd.R_below (q1_ HO_281003.out) hb); have n2_ := Aside0.mk (blk_below (g := gb280) (o := .cells #[.int .i64 (wrap64 (2 + (Int.tmod (wrap64 (a0)) 3))), .string (⟨#[]⟩ : ByteArray), u281002, u281003, .int .i64 a3] 26 (0, 0)) (q3_ BK280.out) hb); have n3_ := Aside0.mk (blk_below (g := gb281) (o := .cells #[.int .i64 1, .string x11_1, .slice none 0 0, .slice none 0 0, .int .i64 a3] 26 (0, 0)) (q3_ BK281.out) hb); have n4_ := Aside0.mk (below_step (q5_ HB.out GE280.out GE281.out) hb); clear HO_281002; clear HO_281003; clear BK280; clear BK281; clear HB; have HO_281002 := n0_; have HO_281003 := n1_; have BK280 := n2_; have BK281 := n3_; have HB := n4_; clear n0_ n1_ n2_ n3_ n4_; (try clear hb); (try clear hb2); (try clear hk); (try clear hi); have hcz132_0 : w131.cell? ⟨gb280, 0, none⟩ = some (.int .i64 (wrap64 (2 + (Int.tmod (wrap64 (a0)) 3)))) := (blk_cell BK280.out 0).trans rfl; have hcz132_1 : w131.cell? ⟨gb280, 1, none⟩ = some (.string (⟨#[]⟩ : ByteArray)) := (blk_cell BK280.out 1).trans rfl; have hcz132_2 : w131.cell? ⟨gb280, 2, none⟩ = some (u281002) := (blk_cell BK280.out 2).trans rfl; have hcz132_3 : w131.cell? ⟨gb280, 3, none⟩ = some (u281003) := (blk_cell BK280.out 3).trans rfl; have hcz132_4 : w131.cell? ⟨gb280, 4, none⟩ = some (.int .i64 a3) := (blk_cell BK280.out 4).trans rfl; have hfz132_0 := blk_frozen BK280.out 0; have hfz132_1 := blk_frozen BK280.out 1; have hfz132_2 := blk_frozen BK280.out 2; have hfz132_3 := blk_frozen BK280.out 3; have hfz132_4 := blk_frozen BK280.out 4; obtain ⟨Ao133, co133, eo133⟩ := Kd.R_slice HO_281002.out; subst eo133; obtain ⟨Ao134, co134, eo134⟩ := Kd.R_slice HO_281003.out; subst eo134) | (go_at_call 9; (with_reducible refine (item_May.calls (wrap64 (2 + (Int.tmod (wrap64 (a0)) 3))) (⟨#[]⟩ : ByteArray) _ _ x281002_2 _ _ x281003_2 a3 t295 _ ?side1 ?side2 ?side3 ?side4 A115.out).mono ?_); (case side1 => exact qC_ ((Kd.R_reads' HO_281002.out).2.2)); (case side2 => exact (Kd.R_reads' HO_281002.out).2.1); (case side3 => exact qC_ ((Kd.R_reads' HO_281003.out).2.2)); (case side4 => exact (Kd.R_reads' HO_281003.out).2.1); rintro e w135 ⟨rfl, hb⟩; have n0_ := Aside0.mk (Kd.R_below (q1_ HO_281002.out) hb); have n1_ := Aside0.mk (Kd.R_below (q1_ HO_281003.out) hb); have n2_ := Aside0.mk (blk_below (g := gb280) (o := .cells #[.int .i64 (wrap64 (2 + (Int.tmod (wrap64 (a0)) 3))), .string (⟨#[]⟩ : ByteArray), .slice Ao133 x281002_2.length co133, .slice Ao134 x281003_2.length co134, .int .i64 a3] 26 (0, 0)) (q3_ BK280.out) hb); have n3_ := Aside0.mk (blk_below (g := gb281) (o := .cells #[.int .i64 1, .string x11_1, .slice none 0 0, .slice none 0 0, .int .i64 a3] 26 (0, 0)) (q3_ BK281.out) hb); have n4_ := Aside0.mk (below_step (q5_ HB.out GE280.out GE281.out) hb); clear HO_281002; clear HO_281003; clear BK280; clear BK281; clear HB; have HO_281002 := n0_; have HO_281003 := n1_; have BK280 := n2_; have BK281 := n3_; have HB := n4_; clear n0_ n1_ n2_ n3_ n4_; (try clear hb); (try clear hb2); (try clear hk); (try clear hi)))
                 go_ret
                 exact ⟨by first | rfl | (simp [errW_none, errW_some] <;> rfl) | (simp [*, errW_none, errW_some] <;> rfl), (q5_ HB.out GE280.out GE281.out)⟩
               ·replace c118 := Bool.eq_false_iff.mpr c118
                subst c118
                have H1 : (if (t295 == false) = true then ((caravanlaw5_awake.f kj31).bind fun t297 => (some t297)) else (some false)) = some r := by rw [if_neg (show ¬ (false = true) by decide)] at H; exact H
                clear H
                have H := H1
                clear H1
                by_cases c136 : (t295 == false) = true
                ·rw [if_pos c136] at H
                 have c136b0 : (t295 == false) = true := c136
                 (try (have c136b1 : decide (t295 = false) = true := by simpa using c136))
                 (try (have c136b2 : (t295 == false) = true := by simpa using c136))
                 clear c136
                 replace H := Option.bind_eq_some_iff.mp H
                 obtain ⟨t297, A1370, H⟩ := H
                 replace H : (some t297) = some r := H
                 have A137 := Aside0.mk A1370
                 clear A1370
                 obtain rfl := Option.some.inj H
                 have hnb138 := NB281_280.out
                 have hnc138 := NB280_281.out
                 have hcz139_0 : wc.cell? ⟨gb281, 0, none⟩ = some (.int .i64 1) := (blk_cell BK281.out 0).trans rfl
                 have hcz139_1 : wc.cell? ⟨gb281, 1, none⟩ = some (.string x11_1) := (blk_cell BK281.out 1).trans rfl
                 have hcz139_2 : wc.cell? ⟨gb281, 2, none⟩ = some (.slice none 0 0) := (blk_cell BK281.out 2).trans rfl
                 have hcz139_3 : wc.cell? ⟨gb281, 3, none⟩ = some (.slice none 0 0) := (blk_cell BK281.out 3).trans rfl
                 have hcz139_4 : wc.cell? ⟨gb281, 4, none⟩ = some (.int .i64 a3) := (blk_cell BK281.out 4).trans rfl
                 have hfz139_0 := blk_frozen BK281.out 0
                 have hfz139_1 := blk_frozen BK281.out 1
                 have hfz139_2 := blk_frozen BK281.out 2
                 have hfz139_3 := blk_frozen BK281.out 3
                 have hfz139_4 := blk_frozen BK281.out 4
                 go_wp2_with (first | ((with_reducible refine gate_callee (f := 9) rfl ?_); refine goesL_ (some 80) rfl rfl Try.func9 (by kernel_rfl) rfl #[.agg #[.int .i64 1, .string x11_1, .slice none 0 0, .slice none 0 0, .int .i64 a3]] rfl qM_ ?_; (refine (item_May.calls 1 x11_1 _ _ ([] : List (S29)) _ _ ([] : List ByteArray) a3 t289 _ ?side1 ?side2 ?side3 ?side4 A36.out).mono ?_); (case side1 => exact Kd.C_nil _ _); (case side2 => exact Nat.le_refl _); (case side3 => exact Kd.C_nil _ _); (case side4 => exact Nat.le_refl _); rintro e w140 ⟨rfl, hb⟩; refine ⟨_, rfl, ?_⟩; have n0_ := Aside0.mk (Kd.R_below (q1_ HO_281002.out) hb); have n1_ := Aside0.mk (Kd.R_below (q1_ HO_281003.out) hb); have n2_ := Aside0.mk (blk_below (g := gb280) (o := .cells #[.int .i64 (wrap64 (2 + (Int.tmod (wrap64 (a0)) 3))), .string (⟨#[]⟩ : ByteArray), u281002, u281003, .int .i64 a3] 26 (0, 0)) (q3_ BK280.out) hb); have n3_ := Aside0.mk (blk_below (g := gb281) (o := .cells #[.int .i64 1, .string x11_1, .slice none 0 0, .slice none 0 0, .int .i64 a3] 26 (0, 0)) (q3_ BK281.out) hb); have n4_ := Aside0.mk (below_step (q5_ HB.out GE280.out GE281.out) hb); clear HO_281002; clear HO_281003; clear BK280; clear BK281; clear HB; have HO_281002 := n0_; have HO_281003 := n1_; have BK280 := n2_; have BK281 := n3_; have HB := n4_; clear n0_ n1_ n2_ n3_ n4_; (try clear hb); (try clear hb2); (try clear hk); (try clear hi); have hcz141_0 : w140.cell? ⟨gb280, 0, none⟩ = some (.int .i64 (wrap64 (2 + (Int.tmod (wrap64 (a0)) 3)))) := (blk_cell BK280.out 0).trans rfl; have hcz141_1 : w140.cell? ⟨gb280, 1, none⟩ = some (.string (⟨#[]⟩ : ByteArray)) := (blk_cell BK280.out 1).trans rfl; have hcz141_2 : w140.cell? ⟨gb280, 2, none⟩ = some (u281002) := (blk_cell BK280.out 2).trans rfl; have hcz141_3 : w140.cell? ⟨gb280, 3, none⟩ = some (u281003) := (blk_cell BK280.out 3).trans rfl; have hcz141_4 : w140.cell? ⟨gb280, 4, none⟩ = some (.int .i64 a3) := (blk_cell BK280.out 4).trans rfl; have hfz141_0 := blk_frozen BK280.out 0; have hfz141_1 := blk_frozen BK280.out 1; have hfz141_2 := blk_frozen BK280.out 2; have hfz141_3 := blk_frozen BK280.out 3; have hfz141_4 := blk_frozen BK280.out 4; obtain ⟨Ao142, co142, eo142⟩ := Kd.R_slice HO_281002.out; subst eo142; obtain ⟨Ao143, co143, eo143⟩ := Kd.R_slice HO_281003.out; subst eo143) | (go_at_call 9; (with_reducible refine (item_May.calls (wrap64 (2 + (Int.tmod (wrap64 (a0)) 3))) (⟨#[]⟩ : ByteArray) _ _ x281002_2 _ _ x281003_2 a3 t295 _ ?side1 ?side2 ?side3 ?side4 A115.out).mono ?_); (case side1 => exact qC_ ((Kd.R_reads' HO_281002.out).2.2)); (case side2 => exact (Kd.R_reads' HO_281002.out).2.1); (case side3 => exact qC_ ((Kd.R_reads' HO_281003.out).2.2)); (case side4 => exact (Kd.R_reads' HO_281003.out).2.1); rintro e w144 ⟨rfl, hb⟩; have n0_ := Aside0.mk (Kd.R_below (q1_ HO_281002.out) hb); have n1_ := Aside0.mk (Kd.R_below (q1_ HO_281003.out) hb); have n2_ := Aside0.mk (blk_below (g := gb280) (o := .cells #[.int .i64 (wrap64 (2 + (Int.tmod (wrap64 (a0)) 3))), .string (⟨#[]⟩ : ByteArray), .slice Ao142 x281002_2.length co142, .slice Ao143 x281003_2.length co143, .int .i64 a3] 26 (0, 0)) (q3_ BK280.out) hb); have n3_ := Aside0.mk (blk_below (g := gb281) (o := .cells #[.int .i64 1, .string x11_1, .slice none 0 0, .slice none 0 0, .int .i64 a3] 26 (0, 0)) (q3_ BK281.out) hb); have n4_ := Aside0.mk (below_step (q5_ HB.out GE280.out GE281.out) hb); clear HO_281002; clear HO_281003; clear BK280; clear BK281; clear HB; have HO_281002 := n0_; have HO_281003 := n1_; have BK280 := n2_; have BK281 := n3_; have HB := n4_; clear n0_ n1_ n2_ n3_ n4_; (try clear hb); (try clear hb2); (try clear hk); (try clear hi)) | (go_at_call 10; (with_reducible refine (caravanlaw5_awake.calls kj31  t297 _ A137.out).mono ?_); rintro e w145 ⟨rfl, hb⟩; have n0_ := Aside0.mk (Kd.R_below (q1_ HO_281002.out) hb); have n1_ := Aside0.mk (Kd.R_below (q1_ HO_281003.out) hb); have n2_ := Aside0.mk (blk_below (g := gb280) (o := .cells #[.int .i64 (wrap64 (2 + (Int.tmod (wrap64 (a0)) 3))), .string (⟨#[]⟩ : ByteArray), .slice Ao142 x281002_2.length co142, .slice Ao143 x281003_2.length co143, .int .i64 a3] 26 (0, 0)) (q3_ BK280.out) hb); have n3_ := Aside0.mk (blk_below (g := gb281) (o := .cells #[.int .i64 1, .string x11_1, .slice none 0 0, .slice none 0 0, .int .i64 a3] 26 (0, 0)) (q3_ BK281.out) hb); have n4_ := Aside0.mk (below_step (q5_ HB.out GE280.out GE281.out) hb); clear HO_281002; clear HO_281003; clear BK280; clear BK281; clear HB; have HO_281002 := n0_; have HO_281003 := n1_; have BK280 := n2_; have BK281 := n3_; have HB := n4_; clear n0_ n1_ n2_ n3_ n4_; (try clear hb); (try clear hb2); (try clear hk); (try clear hi)))
                 go_ret
                 exact ⟨by first | rfl | (simp [errW_none, errW_some] <;> rfl) | (simp [*, errW_none, errW_some] <;> rfl), (q5_ HB.out GE280.out GE281.out)⟩
                ·rw [if_neg c136] at H
                 have c136b0 : (t295 == false) = false := by simpa using c136
                 (try (have c136b1 : decide (t295 = false) = false := by simpa using c136))
                 (try (have c136b2 : (t295 == false) = false := by simpa using c136))
                 (try (have c136b3 : ¬ (t295 = false) := by simpa using c136))
                 clear c136
                 obtain rfl := Option.some.inj H
                 have hnb146 := NB281_280.out
                 have hnc146 := NB280_281.out
                 have hcz147_0 : wc.cell? ⟨gb281, 0, none⟩ = some (.int .i64 1) := (blk_cell BK281.out 0).trans rfl
                 have hcz147_1 : wc.cell? ⟨gb281, 1, none⟩ = some (.string x11_1) := (blk_cell BK281.out 1).trans rfl
                 have hcz147_2 : wc.cell? ⟨gb281, 2, none⟩ = some (.slice none 0 0) := (blk_cell BK281.out 2).trans rfl
                 have hcz147_3 : wc.cell? ⟨gb281, 3, none⟩ = some (.slice none 0 0) := (blk_cell BK281.out 3).trans rfl
                 have hcz147_4 : wc.cell? ⟨gb281, 4, none⟩ = some (.int .i64 a3) := (blk_cell BK281.out 4).trans rfl
                 have hfz147_0 := blk_frozen BK281.out 0
                 have hfz147_1 := blk_frozen BK281.out 1
                 have hfz147_2 := blk_frozen BK281.out 2
                 have hfz147_3 := blk_frozen BK281.out 3
                 have hfz147_4 := blk_frozen BK281.out 4
                 go_wp2_with (first | ((with_reducible refine gate_callee (f := 9) rfl ?_); refine goesL_ (some 80) rfl rfl Try.func9 (by kernel_rfl) rfl #[.agg #[.int .i64 1, .string x11_1, .slice none 0 0, .slice none 0 0, .int .i64 a3]] rfl qM_ ?_; (refine (item_May.calls 1 x11_1 _ _ ([] : List (S29)) _ _ ([] : List ByteArray) a3 t289 _ ?side1 ?side2 ?side3 ?side4 A36.out).mono ?_); (case side1 => exact Kd.C_nil _ _); (case side2 => exact Nat.le_refl _); (case side3 => exact Kd.C_nil _ _); (case side4 => exact Nat.le_refl _); rintro e w148 ⟨rfl, hb⟩; refine ⟨_, rfl, ?_⟩; have n0_ := Aside0.mk (Kd.R_below (q1_ HO_281002.out) hb); have n1_ := Aside0.mk (Kd.R_below (q1_ HO_281003.out) hb); have n2_ := Aside0.mk (blk_below (g := gb280) (o := .cells #[.int .i64 (wrap64 (2 + (Int.tmod (wrap64 (a0)) 3))), .string (⟨#[]⟩ : ByteArray), u281002, u281003, .int .i64 a3] 26 (0, 0)) (q3_ BK280.out) hb); have n3_ := Aside0.mk (blk_below (g := gb281) (o := .cells #[.int .i64 1, .string x11_1, .slice none 0 0, .slice none 0 0, .int .i64 a3] 26 (0, 0)) (q3_ BK281.out) hb); have n4_ := Aside0.mk (below_step (q5_ HB.out GE280.out GE281.out) hb); clear HO_281002; clear HO_281003; clear BK280; clear BK281; clear HB; have HO_281002 := n0_; have HO_281003 := n1_; have BK280 := n2_; have BK281 := n3_; have HB := n4_; clear n0_ n1_ n2_ n3_ n4_; (try clear hb); (try clear hb2); (try clear hk); (try clear hi); have hcz149_0 : w148.cell? ⟨gb280, 0, none⟩ = some (.int .i64 (wrap64 (2 + (Int.tmod (wrap64 (a0)) 3)))) := (blk_cell BK280.out 0).trans rfl; have hcz149_1 : w148.cell? ⟨gb280, 1, none⟩ = some (.string (⟨#[]⟩ : ByteArray)) := (blk_cell BK280.out 1).trans rfl; have hcz149_2 : w148.cell? ⟨gb280, 2, none⟩ = some (u281002) := (blk_cell BK280.out 2).trans rfl; have hcz149_3 : w148.cell? ⟨gb280, 3, none⟩ = some (u281003) := (blk_cell BK280.out 3).trans rfl; have hcz149_4 : w148.cell? ⟨gb280, 4, none⟩ = some (.int .i64 a3) := (blk_cell BK280.out 4).trans rfl; have hfz149_0 := blk_frozen BK280.out 0; have hfz149_1 := blk_frozen BK280.out 1; have hfz149_2 := blk_frozen BK280.out 2; have hfz149_3 := blk_frozen BK280.out 3; have hfz149_4 := blk_frozen BK280.out 4; obtain ⟨Ao150, co150, eo150⟩ := Kd.R_slice HO_281002.out; subst eo150; obtain ⟨Ao151, co151, eo151⟩ := Kd.R_slice HO_281003.out; subst eo151) | (go_at_call 9; (with_reducible refine (item_May.calls (wrap64 (2 + (Int.tmod (wrap64 (a0)) 3))) (⟨#[]⟩ : ByteArray) _ _ x281002_2 _ _ x281003_2 a3 t295 _ ?side1 ?side2 ?side3 ?side4 A115.out).mono ?_); (case side1 => exact qC_ ((Kd.R_reads' HO_281002.out).2.2)); (case side2 => exact (Kd.R_reads' HO_281002.out).2.1); (case side3 => exact qC_ ((Kd.R_reads' HO_281003.out).2.2)); (case side4 => exact (Kd.R_reads' HO_281003.out).2.1); rintro e w152 ⟨rfl, hb⟩; have n0_ := Aside0.mk (Kd.R_below (q1_ HO_281002.out) hb); have n1_ := Aside0.mk (Kd.R_below (q1_ HO_281003.out) hb); have n2_ := Aside0.mk (blk_below (g := gb280) (o := .cells #[.int .i64 (wrap64 (2 + (Int.tmod (wrap64 (a0)) 3))), .string (⟨#[]⟩ : ByteArray), .slice Ao150 x281002_2.length co150, .slice Ao151 x281003_2.length co151, .int .i64 a3] 26 (0, 0)) (q3_ BK280.out) hb); have n3_ := Aside0.mk (blk_below (g := gb281) (o := .cells #[.int .i64 1, .string x11_1, .slice none 0 0, .slice none 0 0, .int .i64 a3] 26 (0, 0)) (q3_ BK281.out) hb); have n4_ := Aside0.mk (below_step (q5_ HB.out GE280.out GE281.out) hb); clear HO_281002; clear HO_281003; clear BK280; clear BK281; clear HB; have HO_281002 := n0_; have HO_281003 := n1_; have BK280 := n2_; have BK281 := n3_; have HB := n4_; clear n0_ n1_ n2_ n3_ n4_; (try clear hb); (try clear hb2); (try clear hk); (try clear hi)))
                 go_ret
                 exact ⟨by first | rfl | (simp [errW_none, errW_some] <;> rfl) | (simp [*, errW_none, errW_some] <;> rfl), (q5_ HB.out GE280.out GE281.out)⟩
              ·rw [if_neg c117] at H
               have c117b0 : decide ((Int.tmod (wrap64 (a1)) 50) ≤ 40) = false := decide_eq_false c117
               clear c117
               by_cases c153 : (t295 == false) = true
               ·rw [if_pos c153] at H
                have c153b0 : (t295 == false) = true := c153
                (try (have c153b1 : decide (t295 = false) = true := by simpa using c153))
                (try (have c153b2 : (t295 == false) = true := by simpa using c153))
                clear c153
                replace H := Option.bind_eq_some_iff.mp H
                obtain ⟨t298, A1540, H⟩ := H
                replace H : (some t298) = some r := H
                have A154 := Aside0.mk A1540
                clear A1540
                obtain rfl := Option.some.inj H
                have hnb155 := NB281_280.out
                have hnc155 := NB280_281.out
                have hcz156_0 : wc.cell? ⟨gb281, 0, none⟩ = some (.int .i64 1) := (blk_cell BK281.out 0).trans rfl
                have hcz156_1 : wc.cell? ⟨gb281, 1, none⟩ = some (.string x11_1) := (blk_cell BK281.out 1).trans rfl
                have hcz156_2 : wc.cell? ⟨gb281, 2, none⟩ = some (.slice none 0 0) := (blk_cell BK281.out 2).trans rfl
                have hcz156_3 : wc.cell? ⟨gb281, 3, none⟩ = some (.slice none 0 0) := (blk_cell BK281.out 3).trans rfl
                have hcz156_4 : wc.cell? ⟨gb281, 4, none⟩ = some (.int .i64 a3) := (blk_cell BK281.out 4).trans rfl
                have hfz156_0 := blk_frozen BK281.out 0
                have hfz156_1 := blk_frozen BK281.out 1
                have hfz156_2 := blk_frozen BK281.out 2
                have hfz156_3 := blk_frozen BK281.out 3
                have hfz156_4 := blk_frozen BK281.out 4
                go_wp2_with (first | ((with_reducible refine gate_callee (f := 9) rfl ?_); refine goesL_ (some 80) rfl rfl Try.func9 (by kernel_rfl) rfl #[.agg #[.int .i64 1, .string x11_1, .slice none 0 0, .slice none 0 0, .int .i64 a3]] rfl qM_ ?_; (refine (item_May.calls 1 x11_1 _ _ ([] : List (S29)) _ _ ([] : List ByteArray) a3 t289 _ ?side1 ?side2 ?side3 ?side4 A36.out).mono ?_); (case side1 => exact Kd.C_nil _ _); (case side2 => exact Nat.le_refl _); (case side3 => exact Kd.C_nil _ _); (case side4 => exact Nat.le_refl _); rintro e w157 ⟨rfl, hb⟩; refine ⟨_, rfl, ?_⟩; have n0_ := Aside0.mk (Kd.R_below (q1_ HO_281002.out) hb); have n1_ := Aside0.mk (Kd.R_below (q1_ HO_281003.out) hb); have n2_ := Aside0.mk (blk_below (g := gb280) (o := .cells #[.int .i64 (wrap64 (2 + (Int.tmod (wrap64 (a0)) 3))), .string (⟨#[]⟩ : ByteArray), u281002, u281003, .int .i64 a3] 26 (0, 0)) (q3_ BK280.out) hb); have n3_ := Aside0.mk (blk_below (g := gb281) (o := .cells #[.int .i64 1, .string x11_1, .slice none 0 0, .slice none 0 0, .int .i64 a3] 26 (0, 0)) (q3_ BK281.out) hb); have n4_ := Aside0.mk (below_step (q5_ HB.out GE280.out GE281.out) hb); clear HO_281002; clear HO_281003; clear BK280; clear BK281; clear HB; have HO_281002 := n0_; have HO_281003 := n1_; have BK280 := n2_; have BK281 := n3_; have HB := n4_; clear n0_ n1_ n2_ n3_ n4_; (try clear hb); (try clear hb2); (try clear hk); (try clear hi); have hcz158_0 : w157.cell? ⟨gb280, 0, none⟩ = some (.int .i64 (wrap64 (2 + (Int.tmod (wrap64 (a0)) 3)))) := (blk_cell BK280.out 0).trans rfl; have hcz158_1 : w157.cell? ⟨gb280, 1, none⟩ = some (.string (⟨#[]⟩ : ByteArray)) := (blk_cell BK280.out 1).trans rfl; have hcz158_2 : w157.cell? ⟨gb280, 2, none⟩ = some (u281002) := (blk_cell BK280.out 2).trans rfl; have hcz158_3 : w157.cell? ⟨gb280, 3, none⟩ = some (u281003) := (blk_cell BK280.out 3).trans rfl; have hcz158_4 : w157.cell? ⟨gb280, 4, none⟩ = some (.int .i64 a3) := (blk_cell BK280.out 4).trans rfl; have hfz158_0 := blk_frozen BK280.out 0; have hfz158_1 := blk_frozen BK280.out 1; have hfz158_2 := blk_frozen BK280.out 2; have hfz158_3 := blk_frozen BK280.out 3; have hfz158_4 := blk_frozen BK280.out 4; obtain ⟨Ao159, co159, eo159⟩ := Kd.R_slice HO_281002.out; subst eo159; obtain ⟨Ao160, co160, eo160⟩ := Kd.R_slice HO_281003.out; subst eo160) | (go_at_call 9; (with_reducible refine (item_May.calls (wrap64 (2 + (Int.tmod (wrap64 (a0)) 3))) (⟨#[]⟩ : ByteArray) _ _ x281002_2 _ _ x281003_2 a3 t295 _ ?side1 ?side2 ?side3 ?side4 A115.out).mono ?_); (case side1 => exact qC_ ((Kd.R_reads' HO_281002.out).2.2)); (case side2 => exact (Kd.R_reads' HO_281002.out).2.1); (case side3 => exact qC_ ((Kd.R_reads' HO_281003.out).2.2)); (case side4 => exact (Kd.R_reads' HO_281003.out).2.1); rintro e w161 ⟨rfl, hb⟩; have n0_ := Aside0.mk (Kd.R_below (q1_ HO_281002.out) hb); have n1_ := Aside0.mk (Kd.R_below (q1_ HO_281003.out) hb); have n2_ := Aside0.mk (blk_below (g := gb280) (o := .cells #[.int .i64 (wrap64 (2 + (Int.tmod (wrap64 (a0)) 3))), .string (⟨#[]⟩ : ByteArray), .slice Ao159 x281002_2.length co159, .slice Ao160 x281003_2.length co160, .int .i64 a3] 26 (0, 0)) (q3_ BK280.out) hb); have n3_ := Aside0.mk (blk_below (g := gb281) (o := .cells #[.int .i64 1, .string x11_1, .slice none 0 0, .slice none 0 0, .int .i64 a3] 26 (0, 0)) (q3_ BK281.out) hb); have n4_ := Aside0.mk (below_step (q5_ HB.out GE280.out GE281.out) hb); clear HO_281002; clear HO_281003; clear BK280; clear BK281; clear HB; have HO_281002 := n0_; have HO_281003 := n1_; have BK280 := n2_; have BK281 := n3_; have HB := n4_; clear n0_ n1_ n2_ n3_ n4_; (try clear hb); (try clear hb2); (try clear hk); (try clear hi)) | (go_at_call 10; (with_reducible refine (caravanlaw5_awake.calls kj31  t298 _ A154.out).mono ?_); rintro e w162 ⟨rfl, hb⟩; have n0_ := Aside0.mk (Kd.R_below (q1_ HO_281002.out) hb); have n1_ := Aside0.mk (Kd.R_below (q1_ HO_281003.out) hb); have n2_ := Aside0.mk (blk_below (g := gb280) (o := .cells #[.int .i64 (wrap64 (2 + (Int.tmod (wrap64 (a0)) 3))), .string (⟨#[]⟩ : ByteArray), .slice Ao159 x281002_2.length co159, .slice Ao160 x281003_2.length co160, .int .i64 a3] 26 (0, 0)) (q3_ BK280.out) hb); have n3_ := Aside0.mk (blk_below (g := gb281) (o := .cells #[.int .i64 1, .string x11_1, .slice none 0 0, .slice none 0 0, .int .i64 a3] 26 (0, 0)) (q3_ BK281.out) hb); have n4_ := Aside0.mk (below_step (q5_ HB.out GE280.out GE281.out) hb); clear HO_281002; clear HO_281003; clear BK280; clear BK281; clear HB; have HO_281002 := n0_; have HO_281003 := n1_; have BK280 := n2_; have BK281 := n3_; have HB := n4_; clear n0_ n1_ n2_ n3_ n4_; (try clear hb); (try clear hb2); (try clear hk); (try clear hi)))
                go_ret
                exact ⟨by first | rfl | (simp [errW_none, errW_some] <;> rfl) | (simp [*, errW_none, errW_some] <;> rfl), (q5_ HB.out GE280.out GE281.out)⟩
               ·rw [if_neg c153] at H
                have c153b0 : (t295 == false) = false := by simpa using c153
                (try (have c153b1 : decide (t295 = false) = false := by simpa using c153))
                (try (have c153b2 : (t295 == false) = false := by simpa using c153))
                (try (have c153b3 : ¬ (t295 = false) := by simpa using c153))
                clear c153
                obtain rfl := Option.some.inj H
                have hnb163 := NB281_280.out
                have hnc163 := NB280_281.out
                have hcz164_0 : wc.cell? ⟨gb281, 0, none⟩ = some (.int .i64 1) := (blk_cell BK281.out 0).trans rfl
                have hcz164_1 : wc.cell? ⟨gb281, 1, none⟩ = some (.string x11_1) := (blk_cell BK281.out 1).trans rfl
                have hcz164_2 : wc.cell? ⟨gb281, 2, none⟩ = some (.slice none 0 0) := (blk_cell BK281.out 2).trans rfl
                have hcz164_3 : wc.cell? ⟨gb281, 3, none⟩ = some (.slice none 0 0) := (blk_cell BK281.out 3).trans rfl
                have hcz164_4 : wc.cell? ⟨gb281, 4, none⟩ = some (.int .i64 a3) := (blk_cell BK281.out 4).trans rfl
                have hfz164_0 := blk_frozen BK281.out 0
                have hfz164_1 := blk_frozen BK281.out 1
                have hfz164_2 := blk_frozen BK281.out 2
                have hfz164_3 := blk_frozen BK281.out 3
                have hfz164_4 := blk_frozen BK281.out 4
                go_wp2_with (first | ((with_reducible refine gate_callee (f := 9) rfl ?_); refine goesL_ (some 80) rfl rfl Try.func9 (by kernel_rfl) rfl #[.agg #[.int .i64 1, .string x11_1, .slice none 0 0, .slice none 0 0, .int .i64 a3]] rfl qM_ ?_; (refine (item_May.calls 1 x11_1 _ _ ([] : List (S29)) _ _ ([] : List ByteArray) a3 t289 _ ?side1 ?side2 ?side3 ?side4 A36.out).mono ?_); (case side1 => exact Kd.C_nil _ _); (case side2 => exact Nat.le_refl _); (case side3 => exact Kd.C_nil _ _); (case side4 => exact Nat.le_refl _); rintro e w165 ⟨rfl, hb⟩; refine ⟨_, rfl, ?_⟩; have n0_ := Aside0.mk (Kd.R_below (q1_ HO_281002.out) hb); have n1_ := Aside0.mk (Kd.R_below (q1_ HO_281003.out) hb); have n2_ := Aside0.mk (blk_below (g := gb280) (o := .cells #[.int .i64 (wrap64 (2 + (Int.tmod (wrap64 (a0)) 3))), .string (⟨#[]⟩ : ByteArray), u281002, u281003, .int .i64 a3] 26 (0, 0)) (q3_ BK280.out) hb); have n3_ := Aside0.mk (blk_below (g := gb281) (o := .cells #[.int .i64 1, .string x11_1, .slice none 0 0, .slice none 0 0, .int .i64 a3] 26 (0, 0)) (q3_ BK281.out) hb); have n4_ := Aside0.mk (below_step (q5_ HB.out GE280.out GE281.out) hb); clear HO_281002; clear HO_281003; clear BK280; clear BK281; clear HB; have HO_281002 := n0_; have HO_281003 := n1_; have BK280 := n2_; have BK281 := n3_; have HB := n4_; clear n0_ n1_ n2_ n3_ n4_; (try clear hb); (try clear hb2); (try clear hk); (try clear hi); have hcz166_0 : w165.cell? ⟨gb280, 0, none⟩ = some (.int .i64 (wrap64 (2 + (Int.tmod (wrap64 (a0)) 3)))) := (blk_cell BK280.out 0).trans rfl; have hcz166_1 : w165.cell? ⟨gb280, 1, none⟩ = some (.string (⟨#[]⟩ : ByteArray)) := (blk_cell BK280.out 1).trans rfl; have hcz166_2 : w165.cell? ⟨gb280, 2, none⟩ = some (u281002) := (blk_cell BK280.out 2).trans rfl; have hcz166_3 : w165.cell? ⟨gb280, 3, none⟩ = some (u281003) := (blk_cell BK280.out 3).trans rfl; have hcz166_4 : w165.cell? ⟨gb280, 4, none⟩ = some (.int .i64 a3) := (blk_cell BK280.out 4).trans rfl; have hfz166_0 := blk_frozen BK280.out 0; have hfz166_1 := blk_frozen BK280.out 1; have hfz166_2 := blk_frozen BK280.out 2; have hfz166_3 := blk_frozen BK280.out 3; have hfz166_4 := blk_frozen BK280.out 4; obtain ⟨Ao167, co167, eo167⟩ := Kd.R_slice HO_281002.out; subst eo167; obtain ⟨Ao168, co168, eo168⟩ := Kd.R_slice HO_281003.out; subst eo168) | (go_at_call 9; (with_reducible refine (item_May.calls (wrap64 (2 + (Int.tmod (wrap64 (a0)) 3))) (⟨#[]⟩ : ByteArray) _ _ x281002_2 _ _ x281003_2 a3 t295 _ ?side1 ?side2 ?side3 ?side4 A115.out).mono ?_); (case side1 => exact qC_ ((Kd.R_reads' HO_281002.out).2.2)); (case side2 => exact (Kd.R_reads' HO_281002.out).2.1); (case side3 => exact qC_ ((Kd.R_reads' HO_281003.out).2.2)); (case side4 => exact (Kd.R_reads' HO_281003.out).2.1); rintro e w169 ⟨rfl, hb⟩; have n0_ := Aside0.mk (Kd.R_below (q1_ HO_281002.out) hb); have n1_ := Aside0.mk (Kd.R_below (q1_ HO_281003.out) hb); have n2_ := Aside0.mk (blk_below (g := gb280) (o := .cells #[.int .i64 (wrap64 (2 + (Int.tmod (wrap64 (a0)) 3))), .string (⟨#[]⟩ : ByteArray), .slice Ao167 x281002_2.length co167, .slice Ao168 x281003_2.length co168, .int .i64 a3] 26 (0, 0)) (q3_ BK280.out) hb); have n3_ := Aside0.mk (blk_below (g := gb281) (o := .cells #[.int .i64 1, .string x11_1, .slice none 0 0, .slice none 0 0, .int .i64 a3] 26 (0, 0)) (q3_ BK281.out) hb); have n4_ := Aside0.mk (below_step (q5_ HB.out GE280.out GE281.out) hb); clear HO_281002; clear HO_281003; clear BK280; clear BK281; clear HB; have HO_281002 := n0_; have HO_281003 := n1_; have BK280 := n2_; have BK281 := n3_; have HB := n4_; clear n0_ n1_ n2_ n3_ n4_; (try clear hb); (try clear hb2); (try clear hk); (try clear hi)))
                go_ret
                exact ⟨by first | rfl | (simp [errW_none, errW_some] <;> rfl) | (simp [*, errW_none, errW_some] <;> rfl), (q5_ HB.out GE280.out GE281.out)⟩
             ·rw [if_neg c116] at H
              have c116b0 : decide (1 ≤ (Int.tmod (wrap64 (a1)) 50)) = false := decide_eq_false c116
              clear c116
              by_cases c170 : (t295 == false) = true
              ·rw [if_pos c170] at H
               have c170b0 : (t295 == false) = true := c170
               (try (have c170b1 : decide (t295 = false) = true := by simpa using c170))
               (try (have c170b2 : (t295 == false) = true := by simpa using c170))
               clear c170
               replace H := Option.bind_eq_some_iff.mp H
               obtain ⟨t299, A1710, H⟩ := H
               replace H : (some t299) = some r := H
               have A171 := Aside0.mk A1710
               clear A1710
               obtain rfl := Option.some.inj H
               have hnb172 := NB281_280.out
               have hnc172 := NB280_281.out
               have hcz173_0 : wc.cell? ⟨gb281, 0, none⟩ = some (.int .i64 1) := (blk_cell BK281.out 0).trans rfl
               have hcz173_1 : wc.cell? ⟨gb281, 1, none⟩ = some (.string x11_1) := (blk_cell BK281.out 1).trans rfl
               have hcz173_2 : wc.cell? ⟨gb281, 2, none⟩ = some (.slice none 0 0) := (blk_cell BK281.out 2).trans rfl
               have hcz173_3 : wc.cell? ⟨gb281, 3, none⟩ = some (.slice none 0 0) := (blk_cell BK281.out 3).trans rfl
               have hcz173_4 : wc.cell? ⟨gb281, 4, none⟩ = some (.int .i64 a3) := (blk_cell BK281.out 4).trans rfl
               have hfz173_0 := blk_frozen BK281.out 0
               have hfz173_1 := blk_frozen BK281.out 1
               have hfz173_2 := blk_frozen BK281.out 2
               have hfz173_3 := blk_frozen BK281.out 3
               have hfz173_4 := blk_frozen BK281.out 4
               go_wp2_with (first | ((with_reducible refine gate_callee (f := 9) rfl ?_); refine goesL_ (some 80) rfl rfl Try.func9 (by kernel_rfl) rfl #[.agg #[.int .i64 1, .string x11_1, .slice none 0 0, .slice none 0 0, .int .i64 a3]] rfl qM_ ?_; (refine (item_May.calls 1 x11_1 _ _ ([] : List (S29)) _ _ ([] : List ByteArray) a3 t289 _ ?side1 ?side2 ?side3 ?side4 A36.out).mono ?_); (case side1 => exact Kd.C_nil _ _); (case side2 => exact Nat.le_refl _); (case side3 => exact Kd.C_nil _ _); (case side4 => exact Nat.le_refl _); rintro e w174 ⟨rfl, hb⟩; refine ⟨_, rfl, ?_⟩; have n0_ := Aside0.mk (Kd.R_below (q1_ HO_281002.out) hb); have n1_ := Aside0.mk (Kd.R_below (q1_ HO_281003.out) hb); have n2_ := Aside0.mk (blk_below (g := gb280) (o := .cells #[.int .i64 (wrap64 (2 + (Int.tmod (wrap64 (a0)) 3))), .string (⟨#[]⟩ : ByteArray), u281002, u281003, .int .i64 a3] 26 (0, 0)) (q3_ BK280.out) hb); have n3_ := Aside0.mk (blk_below (g := gb281) (o := .cells #[.int .i64 1, .string x11_1, .slice none 0 0, .slice none 0 0, .int .i64 a3] 26 (0, 0)) (q3_ BK281.out) hb); have n4_ := Aside0.mk (below_step (q5_ HB.out GE280.out GE281.out) hb); clear HO_281002; clear HO_281003; clear BK280; clear BK281; clear HB; have HO_281002 := n0_; have HO_281003 := n1_; have BK280 := n2_; have BK281 := n3_; have HB := n4_; clear n0_ n1_ n2_ n3_ n4_; (try clear hb); (try clear hb2); (try clear hk); (try clear hi); have hcz175_0 : w174.cell? ⟨gb280, 0, none⟩ = some (.int .i64 (wrap64 (2 + (Int.tmod (wrap64 (a0)) 3)))) := (blk_cell BK280.out 0).trans rfl; have hcz175_1 : w174.cell? ⟨gb280, 1, none⟩ = some (.string (⟨#[]⟩ : ByteArray)) := (blk_cell BK280.out 1).trans rfl; have hcz175_2 : w174.cell? ⟨gb280, 2, none⟩ = some (u281002) := (blk_cell BK280.out 2).trans rfl; have hcz175_3 : w174.cell? ⟨gb280, 3, none⟩ = some (u281003) := (blk_cell BK280.out 3).trans rfl; have hcz175_4 : w174.cell? ⟨gb280, 4, none⟩ = some (.int .i64 a3) := (blk_cell BK280.out 4).trans rfl; have hfz175_0 := blk_frozen BK280.out 0; have hfz175_1 := blk_frozen BK280.out 1; have hfz175_2 := blk_frozen BK280.out 2; have hfz175_3 := blk_frozen BK280.out 3; have hfz175_4 := blk_frozen BK280.out 4; obtain ⟨Ao176, co176, eo176⟩ := Kd.R_slice HO_281002.out; subst eo176; obtain ⟨Ao177, co177, eo177⟩ := Kd.R_slice HO_281003.out; subst eo177) | (go_at_call 9; (with_reducible refine (item_May.calls (wrap64 (2 + (Int.tmod (wrap64 (a0)) 3))) (⟨#[]⟩ : ByteArray) _ _ x281002_2 _ _ x281003_2 a3 t295 _ ?side1 ?side2 ?side3 ?side4 A115.out).mono ?_); (case side1 => exact qC_ ((Kd.R_reads' HO_281002.out).2.2)); (case side2 => exact (Kd.R_reads' HO_281002.out).2.1); (case side3 => exact qC_ ((Kd.R_reads' HO_281003.out).2.2)); (case side4 => exact (Kd.R_reads' HO_281003.out).2.1); rintro e w178 ⟨rfl, hb⟩; have n0_ := Aside0.mk (Kd.R_below (q1_ HO_281002.out) hb); have n1_ := Aside0.mk (Kd.R_below (q1_ HO_281003.out) hb); have n2_ := Aside0.mk (blk_below (g := gb280) (o := .cells #[.int .i64 (wrap64 (2 + (Int.tmod (wrap64 (a0)) 3))), .string (⟨#[]⟩ : ByteArray), .slice Ao176 x281002_2.length co176, .slice Ao177 x281003_2.length co177, .int .i64 a3] 26 (0, 0)) (q3_ BK280.out) hb); have n3_ := Aside0.mk (blk_below (g := gb281) (o := .cells #[.int .i64 1, .string x11_1, .slice none 0 0, .slice none 0 0, .int .i64 a3] 26 (0, 0)) (q3_ BK281.out) hb); have n4_ := Aside0.mk (below_step (q5_ HB.out GE280.out GE281.out) hb); clear HO_281002; clear HO_281003; clear BK280; clear BK281; clear HB; have HO_281002 := n0_; have HO_281003 := n1_; have BK280 := n2_; have BK281 := n3_; have HB := n4_; clear n0_ n1_ n2_ n3_ n4_; (try clear hb); (try clear hb2); (try clear hk); (try clear hi)) | (go_at_call 10; (with_reducible refine (caravanlaw5_awake.calls kj31  t299 _ A171.out).mono ?_); rintro e w179 ⟨rfl, hb⟩; have n0_ := Aside0.mk (Kd.R_below (q1_ HO_281002.out) hb); have n1_ := Aside0.mk (Kd.R_below (q1_ HO_281003.out) hb); have n2_ := Aside0.mk (blk_below (g := gb280) (o := .cells #[.int .i64 (wrap64 (2 + (Int.tmod (wrap64 (a0)) 3))), .string (⟨#[]⟩ : ByteArray), .slice Ao176 x281002_2.length co176, .slice Ao177 x281003_2.length co177, .int .i64 a3] 26 (0, 0)) (q3_ BK280.out) hb); have n3_ := Aside0.mk (blk_below (g := gb281) (o := .cells #[.int .i64 1, .string x11_1, .slice none 0 0, .slice none 0 0, .int .i64 a3] 26 (0, 0)) (q3_ BK281.out) hb); have n4_ := Aside0.mk (below_step (q5_ HB.out GE280.out GE281.out) hb); clear HO_281002; clear HO_281003; clear BK280; clear BK281; clear HB; have HO_281002 := n0_; have HO_281003 := n1_; have BK280 := n2_; have BK281 := n3_; have HB := n4_; clear n0_ n1_ n2_ n3_ n4_; (try clear hb); (try clear hb2); (try clear hk); (try clear hi)))
               go_ret
               exact ⟨by first | rfl | (simp [errW_none, errW_some] <;> rfl) | (simp [*, errW_none, errW_some] <;> rfl), (q5_ HB.out GE280.out GE281.out)⟩
              ·rw [if_neg c170] at H
               have c170b0 : (t295 == false) = false := by simpa using c170
               (try (have c170b1 : decide (t295 = false) = false := by simpa using c170))
               (try (have c170b2 : (t295 == false) = false := by simpa using c170))
               (try (have c170b3 : ¬ (t295 = false) := by simpa using c170))
               clear c170
               obtain rfl := Option.some.inj H
               have hnb180 := NB281_280.out
               have hnc180 := NB280_281.out
               have hcz181_0 : wc.cell? ⟨gb281, 0, none⟩ = some (.int .i64 1) := (blk_cell BK281.out 0).trans rfl
               have hcz181_1 : wc.cell? ⟨gb281, 1, none⟩ = some (.string x11_1) := (blk_cell BK281.out 1).trans rfl
               have hcz181_2 : wc.cell? ⟨gb281, 2, none⟩ = some (.slice none 0 0) := (blk_cell BK281.out 2).trans rfl
               have hcz181_3 : wc.cell? ⟨gb281, 3, none⟩ = some (.slice none 0 0) := (blk_cell BK281.out 3).trans rfl
               have hcz181_4 : wc.cell? ⟨gb281, 4, none⟩ = some (.int .i64 a3) := (blk_cell BK281.out 4).trans rfl
               have hfz181_0 := blk_frozen BK281.out 0
               have hfz181_1 := blk_frozen BK281.out 1
               have hfz181_2 := blk_frozen BK281.out 2
               have hfz181_3 := blk_frozen BK281.out 3
               have hfz181_4 := blk_frozen BK281.out 4
               go_wp2_with (first | ((with_reducible refine gate_callee (f := 9) rfl ?_); refine goesL_ (some 80) rfl rfl Try.func9 (by kernel_rfl) rfl #[.agg #[.int .i64 1, .string x11_1, .slice none 0 0, .slice none 0 0, .int .i64 a3]] rfl qM_ ?_; (refine (item_May.calls 1 x11_1 _ _ ([] : List (S29)) _ _ ([] : List ByteArray) a3 t289 _ ?side1 ?side2 ?side3 ?side4 A36.out).mono ?_); (case side1 => exact Kd.C_nil _ _); (case side2 => exact Nat.le_refl _); (case side3 => exact Kd.C_nil _ _); (case side4 => exact Nat.le_refl _); rintro e w182 ⟨rfl, hb⟩; refine ⟨_, rfl, ?_⟩; have n0_ := Aside0.mk (Kd.R_below (q1_ HO_281002.out) hb); have n1_ := Aside0.mk (Kd.R_below (q1_ HO_281003.out) hb); have n2_ := Aside0.mk (blk_below (g := gb280) (o := .cells #[.int .i64 (wrap64 (2 + (Int.tmod (wrap64 (a0)) 3))), .string (⟨#[]⟩ : ByteArray), u281002, u281003, .int .i64 a3] 26 (0, 0)) (q3_ BK280.out) hb); have n3_ := Aside0.mk (blk_below (g := gb281) (o := .cells #[.int .i64 1, .string x11_1, .slice none 0 0, .slice none 0 0, .int .i64 a3] 26 (0, 0)) (q3_ BK281.out) hb); have n4_ := Aside0.mk (below_step (q5_ HB.out GE280.out GE281.out) hb); clear HO_281002; clear HO_281003; clear BK280; clear BK281; clear HB; have HO_281002 := n0_; have HO_281003 := n1_; have BK280 := n2_; have BK281 := n3_; have HB := n4_; clear n0_ n1_ n2_ n3_ n4_; (try clear hb); (try clear hb2); (try clear hk); (try clear hi); have hcz183_0 : w182.cell? ⟨gb280, 0, none⟩ = some (.int .i64 (wrap64 (2 + (Int.tmod (wrap64 (a0)) 3)))) := (blk_cell BK280.out 0).trans rfl; have hcz183_1 : w182.cell? ⟨gb280, 1, none⟩ = some (.string (⟨#[]⟩ : ByteArray)) := (blk_cell BK280.out 1).trans rfl; have hcz183_2 : w182.cell? ⟨gb280, 2, none⟩ = some (u281002) := (blk_cell BK280.out 2).trans rfl; have hcz183_3 : w182.cell? ⟨gb280, 3, none⟩ = some (u281003) := (blk_cell BK280.out 3).trans rfl; have hcz183_4 : w182.cell? ⟨gb280, 4, none⟩ = some (.int .i64 a3) := (blk_cell BK280.out 4).trans rfl; have hfz183_0 := blk_frozen BK280.out 0; have hfz183_1 := blk_frozen BK280.out 1; have hfz183_2 := blk_frozen BK280.out 2; have hfz183_3 := blk_frozen BK280.out 3; have hfz183_4 := blk_frozen BK280.out 4; obtain ⟨Ao184, co184, eo184⟩ := Kd.R_slice HO_281002.out; subst eo184; obtain ⟨Ao185, co185, eo185⟩ := Kd.R_slice HO_281003.out; subst eo185) | (go_at_call 9; (with_reducible refine (item_May.calls (wrap64 (2 + (Int.tmod (wrap64 (a0)) 3))) (⟨#[]⟩ : ByteArray) _ _ x281002_2 _ _ x281003_2 a3 t295 _ ?side1 ?side2 ?side3 ?side4 A115.out).mono ?_); (case side1 => exact qC_ ((Kd.R_reads' HO_281002.out).2.2)); (case side2 => exact (Kd.R_reads' HO_281002.out).2.1); (case side3 => exact qC_ ((Kd.R_reads' HO_281003.out).2.2)); (case side4 => exact (Kd.R_reads' HO_281003.out).2.1); rintro e w186 ⟨rfl, hb⟩; have n0_ := Aside0.mk (Kd.R_below (q1_ HO_281002.out) hb); have n1_ := Aside0.mk (Kd.R_below (q1_ HO_281003.out) hb); have n2_ := Aside0.mk (blk_below (g := gb280) (o := .cells #[.int .i64 (wrap64 (2 + (Int.tmod (wrap64 (a0)) 3))), .string (⟨#[]⟩ : ByteArray), .slice Ao184 x281002_2.length co184, .slice Ao185 x281003_2.length co185, .int .i64 a3] 26 (0, 0)) (q3_ BK280.out) hb); have n3_ := Aside0.mk (blk_below (g := gb281) (o := .cells #[.int .i64 1, .string x11_1, .slice none 0 0, .slice none 0 0, .int .i64 a3] 26 (0, 0)) (q3_ BK281.out) hb); have n4_ := Aside0.mk (below_step (q5_ HB.out GE280.out GE281.out) hb); clear HO_281002; clear HO_281003; clear BK280; clear BK281; clear HB; have HO_281002 := n0_; have HO_281003 := n1_; have BK280 := n2_; have BK281 := n3_; have HB := n4_; clear n0_ n1_ n2_ n3_ n4_; (try clear hb); (try clear hb2); (try clear hk); (try clear hi)))
               go_ret
               exact ⟨by first | rfl | (simp [errW_none, errW_some] <;> rfl) | (simp [*, errW_none, errW_some] <;> rfl), (q5_ HB.out GE280.out GE281.out)⟩
            ·rw [if_neg c114] at H
             have c114b0 : (t289 == false) = false := by simpa using c114
             (try (have c114b1 : decide (t289 = false) = false := by simpa using c114))
             (try (have c114b2 : (t289 == false) = false := by simpa using c114))
             (try (have c114b3 : ¬ (t289 = false) := by simpa using c114))
             clear c114
             obtain rfl := Option.some.inj H
             have hnb187 := NB281_280.out
             have hnc187 := NB280_281.out
             have hcz188_0 : wc.cell? ⟨gb281, 0, none⟩ = some (.int .i64 1) := (blk_cell BK281.out 0).trans rfl
             have hcz188_1 : wc.cell? ⟨gb281, 1, none⟩ = some (.string x11_1) := (blk_cell BK281.out 1).trans rfl
             have hcz188_2 : wc.cell? ⟨gb281, 2, none⟩ = some (.slice none 0 0) := (blk_cell BK281.out 2).trans rfl
             have hcz188_3 : wc.cell? ⟨gb281, 3, none⟩ = some (.slice none 0 0) := (blk_cell BK281.out 3).trans rfl
             have hcz188_4 : wc.cell? ⟨gb281, 4, none⟩ = some (.int .i64 a3) := (blk_cell BK281.out 4).trans rfl
             have hfz188_0 := blk_frozen BK281.out 0
             have hfz188_1 := blk_frozen BK281.out 1
             have hfz188_2 := blk_frozen BK281.out 2
             have hfz188_3 := blk_frozen BK281.out 3
             have hfz188_4 := blk_frozen BK281.out 4
             go_wp2_with (first | ((with_reducible refine gate_callee (f := 9) rfl ?_); refine goesL_ (some 80) rfl rfl Try.func9 (by kernel_rfl) rfl #[.agg #[.int .i64 1, .string x11_1, .slice none 0 0, .slice none 0 0, .int .i64 a3]] rfl qM_ ?_; (refine (item_May.calls 1 x11_1 _ _ ([] : List (S29)) _ _ ([] : List ByteArray) a3 t289 _ ?side1 ?side2 ?side3 ?side4 A36.out).mono ?_); (case side1 => exact Kd.C_nil _ _); (case side2 => exact Nat.le_refl _); (case side3 => exact Kd.C_nil _ _); (case side4 => exact Nat.le_refl _); rintro e w189 ⟨rfl, hb⟩; refine ⟨_, rfl, ?_⟩; have n0_ := Aside0.mk (Kd.R_below (q1_ HO_281002.out) hb); have n1_ := Aside0.mk (Kd.R_below (q1_ HO_281003.out) hb); have n2_ := Aside0.mk (blk_below (g := gb280) (o := .cells #[.int .i64 (wrap64 (2 + (Int.tmod (wrap64 (a0)) 3))), .string (⟨#[]⟩ : ByteArray), u281002, u281003, .int .i64 a3] 26 (0, 0)) (q3_ BK280.out) hb); have n3_ := Aside0.mk (blk_below (g := gb281) (o := .cells #[.int .i64 1, .string x11_1, .slice none 0 0, .slice none 0 0, .int .i64 a3] 26 (0, 0)) (q3_ BK281.out) hb); have n4_ := Aside0.mk (below_step (q5_ HB.out GE280.out GE281.out) hb); clear HO_281002; clear HO_281003; clear BK280; clear BK281; clear HB; have HO_281002 := n0_; have HO_281003 := n1_; have BK280 := n2_; have BK281 := n3_; have HB := n4_; clear n0_ n1_ n2_ n3_ n4_; (try clear hb); (try clear hb2); (try clear hk); (try clear hi)))
             go_ret
             exact ⟨by first | rfl | (simp [errW_none, errW_some] <;> rfl) | (simp [*, errW_none, errW_some] <;> rfl), (q5_ HB.out GE280.out GE281.out)⟩

/-- THE ONE PURE STATEMENT of caravanlaw5_ItemLimits: yours. -/
def caravanlaw5_ItemLimits.Pure : Prop := ∀ (a0 : Int) (a1 : Int) (a2 : Int) (a3 : Int), (Lit.int .u8 a0).wf = true → (Lit.int .u8 a1).wf = true → (Lit.int .u16 a2).wf = true → (Lit.int .i64 a3).wf = true → ∃ k, caravanlaw5_ItemLimits.f k a0 a1 a2 a3 = some true
theorem caravanlaw5_ItemLimits.walk (P : caravanlaw5_ItemLimits.Pure) (a0 : Int) (a1 : Int) (a2 : Int) (a3 : Int) (w : World) (w0 : (Lit.int .u8 a0).wf = true) (w1 : (Lit.int .u8 a1).wf = true) (w2 : (Lit.int .u16 a2).wf = true) (w3 : (Lit.int .i64 a3).wf = true) :
 Calls Try.prog 3 #[.int .u8 a0, .int .u8 a1, .int .u16 a2, .int .i64 a3] w fun e w' => e = .returned (.bool true) ∧ Below w.heap.size w w' := by
 obtain ⟨k, h⟩ := P a0 a1 a2 a3 w0 w1 w2 w3
 refine (caravanlaw5_ItemLimits.calls k a0 a1 a2 a3 true w h).mono ?_
 rintro e w' ⟨rfl, hd⟩
 exact ⟨rfl, hd⟩

end Go.Proofs.Ytbmimcpllpgcaaa.G
