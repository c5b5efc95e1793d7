/- What functions of the translation come to, and their calls' proofs; by a program of mine over the kit's print, with contracts given by hand beside. Conditions: where a plain function tells none, nothing is said. -/
import Derived.Test.YtfmhhahhomnkbaaDoorProg
import Derived.Below
import Derived.Deep.Draws
import Derived.Deep.AppendLies
import Derived.Maps.AppendAt
import Derived.OwnWalk
import Derived.Laws.BytesArg
import Derived.Laws.MakeOwn
import Derived.Laws.OwnMore
import Derived.Deep.OwnRows
import Derived.Tactics
import Derived.Lib.ConvBytes
import Derived.Laws.Slices
import Derived.WalkKit
import Derived.KernelRfl
import Derived.RowKit3
import Derived.Deep.LoopGhost
import Derived.Deep.QuietTactic
import Derived.BigQuiet
import Derived.WideLaws
import Derived.Deep.DeepCutAuto
import Derived.Deep.CutBlock
import Derived.Deep.RegionHeld3
import Derived.Laws.Rows
import Derived.Lib.AppendStr
import Derived.ArgAppend
import Derived.Laws.IdiomCopy
import Derived.OrdersHeld
import Derived.Laws.BitsLemmas
import Derived.RowKit
import Derived.WalkLawsBesides
import Derived.Test.YtfmhhahhomnkbaaDoorWWords
import Derived.Test.YtfmhhahhomnkbaaDoorWLast
import Derived.Test.YtfmhhahhomnkbaaDoorWTab
import Derived.Test.YtfmhhahhomnkbaaDoorWFour
import Derived.Test.YtfmhhahhomnkbaaDoorWQPut
import Derived.Test.YtfmhhahhomnkbaaDoorWApart
import Derived.Test.YtfmhhahhomnkbaaDoorWArr
import Derived.Test.YtfmhhahhomnkbaaDoorWZeros
import Derived.Test.YtfmhhahhomnkbaaDoorWFoot
import Derived.Test.YtfmhhahhomnkbaaDoorWKept
import Derived.Test.YtfmhhahhomnkbaaDoorWShare
import Derived.Test.YtfmhhahhomnkbaaDoorWN
import Derived.Test.YtfmhhahhomnkbaaDoorWFootNe
import Derived.Test.YtfmhhahhomnkbaaDoorWAt
import Derived.Test.YtfmhhahhomnkbaaDoorWEqStruct
import Derived.Test.YtfmhhahhomnkbaaDoorWRepsOne
import Derived.Test.YtfmhhahhomnkbaaDoorWInv
import Derived.Test.YtfmhhahhomnkbaaDoorWInvWords
import Derived.Test.YtfmhhahhomnkbaaDoorWGuard
import Derived.Test.YtfmhhahhomnkbaaDoorWNEv
import Derived.Test.YtfmhhahhomnkbaaDoorWMore
namespace Go.Proofs.YtfmhhahhomnkbaaDoor.G
open Go.RowKit Go.Proofs.YtfmhhahhomnkbaaDoorW.PrintWords Go.Proofs.YtfmhhahhomnkbaaDoorW.PrintLast Go.Proofs.YtfmhhahhomnkbaaDoorW.PrintMore
attribute [local go_sem] max2_int min2_int max_two min_two max_three min_three max_four min_four   -- for this text's walks alone
set_option linter.unusedVariables false
set_option linter.unusedSimpArgs false



theorem cAt_ {α : Type} {R : α → List Value → Prop} {size : Nat} {w : World} {A : Option Addr} {n n1 : Nat} {ps : List α} (h : ReadsRow R size w A n ps) (e : n = n1) : ReadsRow R size w A n1 ps := e ▸ h
def errW : Option Int → Value
  | none => .nilIface
  | some c => .iface 0 (.int .i64 c)
theorem errW_none : errW none = .nilIface := rfl
theorem errW_some (c : Int) : errW (some c) = .iface 0 (.int .i64 c) := rfl

theorem info5 : (Tryd.prog.info? 5).map (fun i => (i.zero, i.size, i.bytes)) = some (some (.int .u8 0), 1, 1) := by kernel_rfl
theorem info9 : (Tryd.prog.info? 9).map (fun i => (i.zero, i.size, i.bytes)) = some (some (.string ⟨#[]⟩), 1, 16) := by kernel_rfl
-- the values' own types
/-! #### struct type 37 -/
structure S37 where
  f0 : ByteArray
  f1 : Bool
def z37 : S37 := ⟨(⟨#[]⟩ : ByteArray), false⟩
def k37 : Kd S37 := Kd.iso (Kd.pair Kd.string Kd.bool) (fun x : S37 => (x.f0, x.f1))
theorem k37_open {w : World} {x : S37} {cs : List Value} (h : k37.K w x cs) : cs = [.string x.f0, .bool x.f1] := by
  obtain ⟨_, _, rfl, rfl, rfl⟩ := h
  exact rfl
theorem k37_openM {w : World} {base : Nat} {ok : Nat → Prop} {x : S37} {cs : List Value} (h : k37.M w base ok x cs) : cs = [.string x.f0, .bool x.f1] := by
  obtain ⟨_, _, rfl, rfl, rfl⟩ := h
  exact rfl
theorem k37_mk (w : World) (x : S37)  : k37.K w x [.string x.f0, .bool x.f1] := ⟨[.string x.f0], [.bool x.f1], rfl, rfl, rfl⟩
theorem k37_mkM (w : World) (base : Nat) (ok : Nat → Prop) (x : S37)  : k37.M w base ok x [.string x.f0, .bool x.f1] := ⟨[.string x.f0], [.bool x.f1], rfl, rfl, rfl⟩
def rd_T37 (xs : List S37) (i : Int) : S37 := xs.getD i.toNat z37
theorem at_T37 {w : World} {A : Option Addr} {n : Nat} {xs : List S37} (h : Kd.C k37 w A n xs) (i : Int) (h0 : 0 ≤ i) (h1 : i < n) : ∃ ad , A = some ad ∧ w.cell? (ad.add (i.toNat * 2)) = some (.string (rd_T37 xs i).f0) ∧ w.cell? ⟨(ad.add (i.toNat * 2)).block, (ad.add (i.toNat * 2)).off + 1, none⟩ = some (.bool (rd_T37 xs i).f1) := by
  obtain ⟨ad, c, e, _, hK, hc0⟩ := Kd.C_get h z37 i h0 h1
  have hc : ∀ j u, c[j]? = some u → w.cell? (ad.add (i.toNat * 2 + j)) = some u := hc0
  obtain rfl := k37_open hK
  exact ⟨ad, e, hc 0 _ rfl, by rw [← add_field _ _ 1 (by omega)]; exact hc 1 _ rfl⟩

def ml_ (n b : Nat) : Array Bool := ((List.range n).map fun i => b.testBit i).toArray
theorem qdb35_ {p p0_ : Prop} (x0_ : p0_) (f_ : p0_ → p := by intro x0_; repeat (first | (with_reducible first | exact x0_ | apply below_alloc | apply pw_below_drewN | apply below_drew1) | exact x0_)) : p := f_ x0_
theorem qed14_ {p p0_ p1_ : Prop} (x0_ : p0_) (x1_ : p1_) (f_ : p0_ → p1_ → p := by intro x0_ x1_; repeat (first | (with_reducible first | exact x0_ | apply below_alloc | apply pw_below_drewN | apply below_drew1 | refine below_set ?_ x1_) | exact x0_)) : p := f_ x0_ x1_
theorem q1466_ {p p0_ : Prop} (x0_ : p0_) (f_ : p0_ → p := by intro x0_; (with_reducible repeat (first | refine blk_drewN ?_ _ | refine blk_drew ?_ | refine blk_alloc ?_ _)); exact x0_) : p := f_ x0_
theorem q8f57_ {p p0_ p1_ p2_ : Prop} (x0_ : p0_) (x1_ : p1_) (x2_ : p2_) (f_ : p0_ → p1_ → p2_ → p := by intro x0_ x1_ x2_; repeat (first | (with_reducible first | exact x0_ | apply below_alloc | apply pw_below_drewN | apply below_drew1 | refine below_set ?_ x1_ | refine below_set ?_ x2_) | exact x0_)) : p := f_ x0_ x1_ x2_
theorem qe049_ {p p0_ p1_ : Prop} (x0_ : p0_) (x1_ : p1_) (f_ : p0_ → p1_ → p := by intro x0_ x1_; (with_reducible repeat (first | refine blk_drewN ?_ _ | refine blk_drew ?_ | refine blk_alloc ?_ _)); refine blk_far ?_ x0_ _; (with_reducible repeat (first | refine blk_drewN ?_ _ | refine blk_drew ?_ | refine blk_alloc ?_ _)); refine blk_far ?_ x0_ _; (with_reducible repeat (first | refine blk_drewN ?_ _ | refine blk_drew ?_ | refine blk_alloc ?_ _)); exact x1_) : p := f_ x0_ x1_
theorem q1dc4_ {p p0_ p1_ p2_ p3_ : Prop} (x0_ : p0_) (x1_ : p1_) (x2_ : p2_) (x3_ : p3_) (f_ : p0_ → p1_ → p2_ → p3_ → p := by intro x0_ x1_ x2_ x3_; repeat (first | (with_reducible first | exact x0_ | apply below_alloc | apply pw_below_drewN | apply below_drew1 | refine below_set ?_ x1_ | refine below_set ?_ x2_ | refine below_set ?_ x3_) | exact x0_)) : p := f_ x0_ x1_ x2_ x3_
section
variable {P : Program} {ops : Array Oper} {Q : Exit → Act → World → Prop} {md : Region.Mode} {S : World → Prop} {ds : List Nat}
theorem qC_ {p q : Prop} (h : q) (f : q → p := by intro h_; repeat (first | exact h_ | (with_reducible refine Kd.C_alloc ?_ _) | (with_reducible refine Kd.C_drewN ?_ _) | (with_reducible refine Kd.C_drew ?_))) : p := f h
theorem qM_ {p : Prop} (f : p := by (try simp only [List.map_toArray, List.map_cons, List.map_nil]); first | done | rfl | (simp only [List.length_drop, List.length_take]; rfl)) : p := f
theorem nA_ (N : Nat) {v : Value} {fuel : Nat} {l : Array Bool} {a a' : Act} {w : World} (h : wpAnyLast P md ops Q S ds fuel l a' w) (ha : a.put (some N) v = a' := by (simp only [Act.put, List.setIfInBounds_toArray, List.set_cons_zero, List.set_cons_succ, i64_w, i32_w]); rfl) : wpAnyLast P md ops Q S ds fuel l (a.put (some N) v) w := norm_ ha h
theorem pA_ (i N : Nat) {oi : Oper} {v : Value} {fuel : Nat} {l : Array Bool} {a : Act} {w : World} (l' : Array Bool) (hi : ops[i]? = some oi) (hN : oi.dst = some N) {T : Bool × List (List Nat × List Nat)} (hT : rtab md ops = T) {a' : Act} (h : wpAnyLast P md ops Q S ds fuel l' a' w)
    (hw : Region.wanted oi (yielded ops a.tmps) = true := by rfl) (hy : ∀ w', (execOp a.eval oi).run P w' = .ok (.value v) w' := by intro w'; go_simp; with_reducible rfl)
    (ha : a.put (some N) v = a' := by (simp only [Act.put, List.setIfInBounds_toArray, List.set_cons_zero, List.set_cons_succ, i64_w, i32_w]); rfl)
    (hc : anyT T l.toList l'.toList i = true := by kernel_rfl) (hQ : ∀ c a w, Q (.panic c) (a.put oi.dst v) w → Q (.panic c) a w := by exact fun _ _ _ h => h) : wpAnyLast P md ops Q S ds (fuel + 1) l a w :=
  pure_ l' hi hN (any_of hT hc) hQ (Or.inl ⟨hw, hy⟩) ha h
theorem pU_ (i N : Nat) {oi : Oper} {fuel : Nat} {l : Array Bool} {a : Act} {w : World} (l' : Array Bool) (hi : ops[i]? = some oi) (hN : oi.dst = some N) {T : Bool × List (List Nat × List Nat)} (hT : rtab md ops = T) {a' : Act} (h : wpAnyLast P md ops Q S ds fuel l' a' w)
    (hw : Region.wanted oi (yielded ops a.tmps) = false := by rfl)
    (ha : a.put (some N) undef = a' := by (simp only [Act.put, List.setIfInBounds_toArray, List.set_cons_zero, List.set_cons_succ, i64_w, i32_w]); rfl)
    (hc : anyT T l.toList l'.toList i = true := by kernel_rfl) (hQ : ∀ c a w, Q (.panic c) (a.put oi.dst undef) w → Q (.panic c) a w := by exact fun _ _ _ h => h) : wpAnyLast P md ops Q S ds (fuel + 1) l a w :=
  pure_ (v := undef) l' hi hN (any_of hT hc) hQ (Or.inr ⟨hw, rfl⟩) ha h
end

end Go.Proofs.YtfmhhahhomnkbaaDoor.G
