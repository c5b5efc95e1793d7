/- What functions of the translation come to, and their calls' proofs; by a program of mine over the kit's print, with contracts given by hand beside. Conditions: where a plain function tells none, nothing is said. -/
import Derived.Test.YtijploopgmbhfaaDoorProg
import Derived.Below
import Derived.Deep.Draws
import Derived.Deep.AppendLies
import Derived.Maps.AppendAt
import Derived.OwnWalk
import Derived.Laws.BytesArg
import Derived.Laws.MakeOwn
import Derived.Laws.OwnMore
import Derived.Deep.OwnRows
import Derived.Tactics
import Derived.Lib.ConvBytes
import Derived.Laws.Slices
import Derived.WalkKit
import Derived.KernelRfl
import Derived.RowKit3
import Derived.Deep.LoopGhost
import Derived.Deep.QuietTactic
import Derived.BigQuiet
import Derived.WideLaws
import Derived.Deep.DeepCutAuto
import Derived.Deep.CutBlock
import Derived.Deep.RegionHeld3
import Derived.Laws.Rows
import Derived.Lib.AppendStr
import Derived.ArgAppend
import Derived.Laws.IdiomCopy
import Derived.OrdersHeld
import Derived.Laws.BitsLemmas
import Derived.RowKit
import Derived.WalkLawsBesides
import Derived.Test.YtijploopgmbhfaaDoorWWords
import Derived.Test.YtijploopgmbhfaaDoorWLast
import Derived.Test.YtijploopgmbhfaaDoorWTab
import Derived.Test.YtijploopgmbhfaaDoorWFour
import Derived.Test.YtijploopgmbhfaaDoorWQPut
import Derived.Test.YtijploopgmbhfaaDoorWApart
import Derived.Test.YtijploopgmbhfaaDoorWArr
import Derived.Test.YtijploopgmbhfaaDoorWZeros
import Derived.Test.YtijploopgmbhfaaDoorWFoot
import Derived.Test.YtijploopgmbhfaaDoorWKept
import Derived.Test.YtijploopgmbhfaaDoorWShare
import Derived.Test.YtijploopgmbhfaaDoorWN
import Derived.Test.YtijploopgmbhfaaDoorWFootNe
import Derived.Test.YtijploopgmbhfaaDoorWAt
import Derived.Test.YtijploopgmbhfaaDoorWEqStruct
import Derived.Test.YtijploopgmbhfaaDoorWRepsOne
import Derived.Test.YtijploopgmbhfaaDoorWInv
import Derived.Test.YtijploopgmbhfaaDoorWInvWords
import Derived.Test.YtijploopgmbhfaaDoorWGuard
import Derived.Test.YtijploopgmbhfaaDoorWNEv
import Derived.Test.YtijploopgmbhfaaDoorWMore
namespace Go.Proofs.YtijploopgmbhfaaDoor.G
open Go.RowKit Go.Proofs.YtijploopgmbhfaaDoorW.PrintWords Go.Proofs.YtijploopgmbhfaaDoorW.PrintLast Go.Proofs.YtijploopgmbhfaaDoorW.PrintMore
attribute [local go_sem] max2_int min2_int max_two min_two max_three min_three max_four min_four   -- for this text's walks alone
set_option linter.unusedVariables false
set_option linter.unusedSimpArgs false



theorem cAt_ {α : Type} {R : α → List Value → Prop} {size : Nat} {w : World} {A : Option Addr} {n n1 : Nat} {ps : List α} (h : ReadsRow R size w A n ps) (e : n = n1) : ReadsRow R size w A n1 ps := e ▸ h
def errW : Option Int → Value
  | none => .nilIface
  | some c => .iface 0 (.int .i64 c)
theorem errW_none : errW none = .nilIface := rfl
theorem errW_some (c : Int) : errW (some c) = .iface 0 (.int .i64 c) := rfl

theorem info3 : (Tryd.prog.info? 3).map (fun i => (i.zero, i.size, i.bytes)) = some (some (.int .i64 0), 1, 8) := by kernel_rfl
theorem info5 : (Tryd.prog.info? 5).map (fun i => (i.zero, i.size, i.bytes)) = some (some (.int .u8 0), 1, 1) := by kernel_rfl
theorem info9 : (Tryd.prog.info? 9).map (fun i => (i.zero, i.size, i.bytes)) = some (some (.string ⟨#[]⟩), 1, 16) := by kernel_rfl
theorem info31 : (Tryd.prog.info? 31).map (fun i => (i.zero, i.size, i.bytes)) = some (some (.slice none 0 0), 1, 24) := by kernel_rfl
theorem info61 : (Tryd.prog.info? 61).map (fun i => (i.zero, i.size, i.bytes)) = some (some (.agg #[(.int .i64 0), (.int .i64 0), (.int .i64 0), (.string ⟨#[]⟩)]), 4, 40) := by kernel_rfl
theorem info64 : (Tryd.prog.info? 64).map (fun i => (i.zero, i.size, i.bytes)) = some (some (.agg #[(.int .i64 0), (.int .i64 0), (.int .i64 0), (.int .i64 0)]), 4, 32) := by kernel_rfl
theorem info70 : (Tryd.prog.info? 70).map (fun i => (i.zero, i.size, i.bytes)) = some (some (.agg #[(.string ⟨#[]⟩), (.int .i64 0), (.string ⟨#[]⟩), (.slice none 0 0), (.slice none 0 0), (.int .i64 0)]), 6, 96) := by kernel_rfl
theorem info117 : (Tryd.prog.info? 117).map (fun i => (i.zero, i.size, i.bytes)) = some (some (.agg #[(.string ⟨#[]⟩), (.bool false), (.int .i64 0), (.string ⟨#[]⟩), (.slice none 0 0), (.slice none 0 0), (.int .i64 0)]), 7, 104) := by kernel_rfl
theorem info186 : (Tryd.prog.info? 186).map (fun i => (i.zero, i.size, i.bytes)) = some (some (.agg #[(.int .i64 0), (.int .i64 0), (.int .i64 0)]), 3, 24) := by kernel_rfl
-- the values' own types
/-! #### struct type 64 -/
structure S64 where
  f0 : Int
  f1 : Int
  f2 : Int
  f3 : Int
def z64 : S64 := ⟨(0 : Int), (0 : Int), (0 : Int), (0 : Int)⟩
def k64 : Kd S64 := Kd.iso (Kd.pair (Kd.int .i64) (Kd.pair (Kd.int .i64) (Kd.pair (Kd.int .i64) (Kd.int .i64)))) (fun x : S64 => (x.f0, x.f1, x.f2, x.f3))
theorem k64_open {w : World} {x : S64} {cs : List Value} (h : k64.K w x cs) : cs = [.int .i64 x.f0, .int .i64 x.f1, .int .i64 x.f2, .int .i64 x.f3] := by
  obtain ⟨_, _, rfl, rfl, ⟨_, _, rfl, rfl, ⟨_, _, rfl, rfl, rfl⟩⟩⟩ := h
  exact rfl
theorem k64_openM {w : World} {base : Nat} {ok : Nat → Prop} {x : S64} {cs : List Value} (h : k64.M w base ok x cs) : cs = [.int .i64 x.f0, .int .i64 x.f1, .int .i64 x.f2, .int .i64 x.f3] := by
  obtain ⟨_, _, rfl, rfl, ⟨_, _, rfl, rfl, ⟨_, _, rfl, rfl, rfl⟩⟩⟩ := h
  exact rfl
theorem k64_mk (w : World) (x : S64)  : k64.K w x [.int .i64 x.f0, .int .i64 x.f1, .int .i64 x.f2, .int .i64 x.f3] := ⟨[.int .i64 x.f0], [.int .i64 x.f1, .int .i64 x.f2, .int .i64 x.f3], rfl, rfl, ⟨[.int .i64 x.f1], [.int .i64 x.f2, .int .i64 x.f3], rfl, rfl, ⟨[.int .i64 x.f2], [.int .i64 x.f3], rfl, rfl, rfl⟩⟩⟩
theorem k64_mkM (w : World) (base : Nat) (ok : Nat → Prop) (x : S64)  : k64.M w base ok x [.int .i64 x.f0, .int .i64 x.f1, .int .i64 x.f2, .int .i64 x.f3] := ⟨[.int .i64 x.f0], [.int .i64 x.f1, .int .i64 x.f2, .int .i64 x.f3], rfl, rfl, ⟨[.int .i64 x.f1], [.int .i64 x.f2, .int .i64 x.f3], rfl, rfl, ⟨[.int .i64 x.f2], [.int .i64 x.f3], rfl, rfl, rfl⟩⟩⟩
def rd_T64 (xs : List S64) (i : Int) : S64 := xs.getD i.toNat z64
theorem at_T64 {w : World} {A : Option Addr} {n : Nat} {xs : List S64} (h : Kd.C k64 w A n xs) (i : Int) (h0 : 0 ≤ i) (h1 : i < n) : ∃ ad , A = some ad ∧ w.cell? (ad.add (i.toNat * 4)) = some (.int .i64 (rd_T64 xs i).f0) ∧ w.cell? ⟨(ad.add (i.toNat * 4)).block, (ad.add (i.toNat * 4)).off + 1, none⟩ = some (.int .i64 (rd_T64 xs i).f1) ∧ w.cell? ⟨(ad.add (i.toNat * 4)).block, (ad.add (i.toNat * 4)).off + 2, none⟩ = some (.int .i64 (rd_T64 xs i).f2) ∧ w.cell? ⟨(ad.add (i.toNat * 4)).block, (ad.add (i.toNat * 4)).off + 3, none⟩ = some (.int .i64 (rd_T64 xs i).f3) := by
  obtain ⟨ad, c, e, _, hK, hc0⟩ := Kd.C_get h z64 i h0 h1
  have hc : ∀ j u, c[j]? = some u → w.cell? (ad.add (i.toNat * 4 + j)) = some u := hc0
  obtain rfl := k64_open hK
  exact ⟨ad, e, hc 0 _ rfl, by rw [← add_field _ _ 1 (by omega)]; exact hc 1 _ rfl, by rw [← add_field _ _ 2 (by omega)]; exact hc 2 _ rfl, by rw [← add_field _ _ 3 (by omega)]; exact hc 3 _ rfl⟩

def rd_L4 (xs : List (List S64)) (i : Int) : (List S64) := xs.getD i.toNat ([] : List S64)
theorem at_L4 {w : World} {A : Option Addr} {n : Nat} {xs : List (List S64)} (h : Kd.C (Kd.slice 64 k64) w A n xs) (i : Int) (h0 : 0 ≤ i) (h1 : i < n) : ∃ ad A0 c0, A = some ad ∧ w.cell? (ad.add i.toNat) = some (.slice A0 (rd_L4 xs i).length c0) ∧ (rd_L4 xs i).length ≤ c0 ∧ k64.C w A0 (rd_L4 xs i).length (rd_L4 xs i) := by
  obtain ⟨ad, c, e, _, hK, hc0⟩ := Kd.C_get h ([] : List S64) i h0 h1
  have hc : ∀ j u, c[j]? = some u → w.cell? (ad.add (i.toNat * 1 + j)) = some u := hc0
  obtain ⟨A0, c0, rfl, l0, g0⟩ := hK
  exact ⟨ad, A0, c0, e, by have hq := hc 0 _ rfl; rwa [Nat.mul_one, Nat.add_zero] at hq, l0, g0⟩

/-! #### struct type 109 -/
structure S109 where
  f0 : ByteArray
  f1 : ByteArray
def z109 : S109 := ⟨(⟨#[]⟩ : ByteArray), (⟨#[]⟩ : ByteArray)⟩
def k109 : Kd S109 := Kd.iso (Kd.pair Kd.string Kd.string) (fun x : S109 => (x.f0, x.f1))
theorem k109_open {w : World} {x : S109} {cs : List Value} (h : k109.K w x cs) : cs = [.string x.f0, .string x.f1] := by
  obtain ⟨_, _, rfl, rfl, rfl⟩ := h
  exact rfl
theorem k109_openM {w : World} {base : Nat} {ok : Nat → Prop} {x : S109} {cs : List Value} (h : k109.M w base ok x cs) : cs = [.string x.f0, .string x.f1] := by
  obtain ⟨_, _, rfl, rfl, rfl⟩ := h
  exact rfl
theorem k109_mk (w : World) (x : S109)  : k109.K w x [.string x.f0, .string x.f1] := ⟨[.string x.f0], [.string x.f1], rfl, rfl, rfl⟩
theorem k109_mkM (w : World) (base : Nat) (ok : Nat → Prop) (x : S109)  : k109.M w base ok x [.string x.f0, .string x.f1] := ⟨[.string x.f0], [.string x.f1], rfl, rfl, rfl⟩
def rd_T109 (xs : List S109) (i : Int) : S109 := xs.getD i.toNat z109
theorem at_T109 {w : World} {A : Option Addr} {n : Nat} {xs : List S109} (h : Kd.C k109 w A n xs) (i : Int) (h0 : 0 ≤ i) (h1 : i < n) : ∃ ad , A = some ad ∧ w.cell? (ad.add (i.toNat * 2)) = some (.string (rd_T109 xs i).f0) ∧ w.cell? ⟨(ad.add (i.toNat * 2)).block, (ad.add (i.toNat * 2)).off + 1, none⟩ = some (.string (rd_T109 xs i).f1) := by
  obtain ⟨ad, c, e, _, hK, hc0⟩ := Kd.C_get h z109 i h0 h1
  have hc : ∀ j u, c[j]? = some u → w.cell? (ad.add (i.toNat * 2 + j)) = some u := hc0
  obtain rfl := k109_open hK
  exact ⟨ad, e, hc 0 _ rfl, by rw [← add_field _ _ 1 (by omega)]; exact hc 1 _ rfl⟩

def rd_L6 (xs : List (List S109)) (i : Int) : (List S109) := xs.getD i.toNat ([] : List S109)
theorem at_L6 {w : World} {A : Option Addr} {n : Nat} {xs : List (List S109)} (h : Kd.C (Kd.slice 109 k109) w A n xs) (i : Int) (h0 : 0 ≤ i) (h1 : i < n) : ∃ ad A0 c0, A = some ad ∧ w.cell? (ad.add i.toNat) = some (.slice A0 (rd_L6 xs i).length c0) ∧ (rd_L6 xs i).length ≤ c0 ∧ k109.C w A0 (rd_L6 xs i).length (rd_L6 xs i) := by
  obtain ⟨ad, c, e, _, hK, hc0⟩ := Kd.C_get h ([] : List S109) i h0 h1
  have hc : ∀ j u, c[j]? = some u → w.cell? (ad.add (i.toNat * 1 + j)) = some u := hc0
  obtain ⟨A0, c0, rfl, l0, g0⟩ := hK
  exact ⟨ad, A0, c0, e, by have hq := hc 0 _ rfl; rwa [Nat.mul_one, Nat.add_zero] at hq, l0, g0⟩

def rd_L7 (xs : List (List ByteArray)) (i : Int) : (List ByteArray) := xs.getD i.toNat ([] : List ByteArray)
theorem at_L7 {w : World} {A : Option Addr} {n : Nat} {xs : List (List ByteArray)} (h : Kd.C (Kd.slice 9 Kd.string) w A n xs) (i : Int) (h0 : 0 ≤ i) (h1 : i < n) : ∃ ad A0 c0, A = some ad ∧ w.cell? (ad.add i.toNat) = some (.slice A0 (rd_L7 xs i).length c0) ∧ (rd_L7 xs i).length ≤ c0 ∧ Kd.string.C w A0 (rd_L7 xs i).length (rd_L7 xs i) := by
  obtain ⟨ad, c, e, _, hK, hc0⟩ := Kd.C_get h ([] : List ByteArray) i h0 h1
  have hc : ∀ j u, c[j]? = some u → w.cell? (ad.add (i.toNat * 1 + j)) = some u := hc0
  obtain ⟨A0, c0, rfl, l0, g0⟩ := hK
  exact ⟨ad, A0, c0, e, by have hq := hc 0 _ rfl; rwa [Nat.mul_one, Nat.add_zero] at hq, l0, g0⟩

/-! #### struct type 68 -/
structure S68 where
  f0 : Int
  f1 : ByteArray
  f2 : (List S109)
  f3 : (List ByteArray)
  f4 : Int
def z68 : S68 := ⟨(0 : Int), (⟨#[]⟩ : ByteArray), ([] : List S109), ([] : List ByteArray), (0 : Int)⟩
def k68 : Kd S68 := Kd.iso (Kd.pair (Kd.int .i64) (Kd.pair Kd.string (Kd.pair (Kd.slice 109 k109) (Kd.pair (Kd.slice 9 Kd.string) (Kd.int .i64))))) (fun x : S68 => (x.f0, x.f1, x.f2, x.f3, x.f4))
theorem k68_open {w : World} {x : S68} {cs : List Value} (h : k68.K w x cs) : ∃ A2 c2 A3 c3, cs = [.int .i64 x.f0, .string x.f1, .slice A2 x.f2.length c2, .slice A3 x.f3.length c3, .int .i64 x.f4] ∧ x.f2.length ≤ c2 ∧ k109.C w A2 x.f2.length x.f2 ∧ x.f3.length ≤ c3 ∧ Kd.string.C w A3 x.f3.length x.f3 := by
  obtain ⟨_, _, rfl, rfl, ⟨_, _, rfl, rfl, ⟨_, _, rfl, ⟨A2, c2, rfl, l2, g2⟩, ⟨_, _, rfl, ⟨A3, c3, rfl, l3, g3⟩, rfl⟩⟩⟩⟩ := h
  exact ⟨A2, c2, A3, c3, rfl, l2, g2, l3, g3⟩
theorem k68_openM {w : World} {base : Nat} {ok : Nat → Prop} {x : S68} {cs : List Value} (h : k68.M w base ok x cs) : ∃ v2 v3, cs = [.int .i64 x.f0, .string x.f1, v2, v3, .int .i64 x.f4] ∧ k109.R 109 w base ok v2 x.f2 ∧ Kd.string.R 9 w base ok v3 x.f3 := by
  obtain ⟨_, _, rfl, rfl, ⟨_, _, rfl, rfl, ⟨_, _, rfl, ⟨v2, rfl, g2⟩, ⟨_, _, rfl, ⟨v3, rfl, g3⟩, rfl⟩⟩⟩⟩ := h
  exact ⟨v2, v3, rfl, g2, g3⟩
theorem k68_mk (w : World) (x : S68) {A2 : Option Addr} {c2 : Nat} (l2 : x.f2.length ≤ c2) (g2 : k109.C w A2 x.f2.length x.f2) {A3 : Option Addr} {c3 : Nat} (l3 : x.f3.length ≤ c3) (g3 : Kd.string.C w A3 x.f3.length x.f3) : k68.K w x [.int .i64 x.f0, .string x.f1, .slice A2 x.f2.length c2, .slice A3 x.f3.length c3, .int .i64 x.f4] := ⟨[.int .i64 x.f0], [.string x.f1, .slice A2 x.f2.length c2, .slice A3 x.f3.length c3, .int .i64 x.f4], rfl, rfl, ⟨[.string x.f1], [.slice A2 x.f2.length c2, .slice A3 x.f3.length c3, .int .i64 x.f4], rfl, rfl, ⟨[.slice A2 x.f2.length c2], [.slice A3 x.f3.length c3, .int .i64 x.f4], rfl, ⟨A2, c2, rfl, l2, g2⟩, ⟨[.slice A3 x.f3.length c3], [.int .i64 x.f4], rfl, ⟨A3, c3, rfl, l3, g3⟩, rfl⟩⟩⟩⟩
theorem k68_mkM (w : World) (base : Nat) (ok : Nat → Prop) (x : S68) {v2 : Value} (g2 : k109.R 109 w base ok v2 x.f2) {v3 : Value} (g3 : Kd.string.R 9 w base ok v3 x.f3) : k68.M w base ok x [.int .i64 x.f0, .string x.f1, v2, v3, .int .i64 x.f4] := ⟨[.int .i64 x.f0], [.string x.f1, v2, v3, .int .i64 x.f4], rfl, rfl, ⟨[.string x.f1], [v2, v3, .int .i64 x.f4], rfl, rfl, ⟨[v2], [v3, .int .i64 x.f4], rfl, ⟨v2, rfl, g2⟩, ⟨[v3], [.int .i64 x.f4], rfl, ⟨v3, rfl, g3⟩, rfl⟩⟩⟩⟩
def rd_T68 (xs : List S68) (i : Int) : S68 := xs.getD i.toNat z68
theorem at_T68 {w : World} {A : Option Addr} {n : Nat} {xs : List S68} (h : Kd.C k68 w A n xs) (i : Int) (h0 : 0 ≤ i) (h1 : i < n) : ∃ ad A2 c2 A3 c3, A = some ad ∧ w.cell? (ad.add (i.toNat * 5)) = some (.int .i64 (rd_T68 xs i).f0) ∧ w.cell? ⟨(ad.add (i.toNat * 5)).block, (ad.add (i.toNat * 5)).off + 1, none⟩ = some (.string (rd_T68 xs i).f1) ∧ w.cell? ⟨(ad.add (i.toNat * 5)).block, (ad.add (i.toNat * 5)).off + 2, none⟩ = some (.slice A2 (rd_T68 xs i).f2.length c2) ∧ w.cell? ⟨(ad.add (i.toNat * 5)).block, (ad.add (i.toNat * 5)).off + 3, none⟩ = some (.slice A3 (rd_T68 xs i).f3.length c3) ∧ w.cell? ⟨(ad.add (i.toNat * 5)).block, (ad.add (i.toNat * 5)).off + 4, none⟩ = some (.int .i64 (rd_T68 xs i).f4) ∧ (rd_T68 xs i).f2.length ≤ c2 ∧ k109.C w A2 (rd_T68 xs i).f2.length (rd_T68 xs i).f2 ∧ (rd_T68 xs i).f3.length ≤ c3 ∧ Kd.string.C w A3 (rd_T68 xs i).f3.length (rd_T68 xs i).f3 := by
  obtain ⟨ad, c, e, _, hK, hc0⟩ := Kd.C_get h z68 i h0 h1
  have hc : ∀ j u, c[j]? = some u → w.cell? (ad.add (i.toNat * 5 + j)) = some u := hc0
  obtain ⟨A2, c2, A3, c3, rfl, l2, g2, l3, g3⟩ := k68_open hK
  exact ⟨ad, A2, c2, A3, c3, e, hc 0 _ rfl, by rw [← add_field _ _ 1 (by omega)]; exact hc 1 _ rfl, by rw [← add_field _ _ 2 (by omega)]; exact hc 2 _ rfl, by rw [← add_field _ _ 3 (by omega)]; exact hc 3 _ rfl, by rw [← add_field _ _ 4 (by omega)]; exact hc 4 _ rfl, l2, g2, l3, g3⟩

/-! #### struct type 70 -/
structure S70 where
  f0 : ByteArray
  f1 : S68
def z70 : S70 := ⟨(⟨#[]⟩ : ByteArray), z68⟩
def k70 : Kd S70 := Kd.iso (Kd.pair Kd.string k68) (fun x : S70 => (x.f0, x.f1))
theorem k70_open {w : World} {x : S70} {cs : List Value} (h : k70.K w x cs) : ∃ A3 c3 A4 c4, cs = [.string x.f0, .int .i64 x.f1.f0, .string x.f1.f1, .slice A3 x.f1.f2.length c3, .slice A4 x.f1.f3.length c4, .int .i64 x.f1.f4] ∧ x.f1.f2.length ≤ c3 ∧ k109.C w A3 x.f1.f2.length x.f1.f2 ∧ x.f1.f3.length ≤ c4 ∧ Kd.string.C w A4 x.f1.f3.length x.f1.f3 := by
  obtain ⟨_, _, rfl, rfl, s1⟩ := h
  obtain ⟨A3, c3, A4, c4, rfl, l3, g3, l4, g4⟩ := k68_open s1
  exact ⟨A3, c3, A4, c4, rfl, l3, g3, l4, g4⟩
theorem k70_openM {w : World} {base : Nat} {ok : Nat → Prop} {x : S70} {cs : List Value} (h : k70.M w base ok x cs) : ∃ v3 v4, cs = [.string x.f0, .int .i64 x.f1.f0, .string x.f1.f1, v3, v4, .int .i64 x.f1.f4] ∧ k109.R 109 w base ok v3 x.f1.f2 ∧ Kd.string.R 9 w base ok v4 x.f1.f3 := by
  obtain ⟨_, _, rfl, rfl, s1⟩ := h
  obtain ⟨v3, v4, rfl, g3, g4⟩ := k68_openM s1
  exact ⟨v3, v4, rfl, g3, g4⟩
theorem k70_mk (w : World) (x : S70) {A3 : Option Addr} {c3 : Nat} (l3 : x.f1.f2.length ≤ c3) (g3 : k109.C w A3 x.f1.f2.length x.f1.f2) {A4 : Option Addr} {c4 : Nat} (l4 : x.f1.f3.length ≤ c4) (g4 : Kd.string.C w A4 x.f1.f3.length x.f1.f3) : k70.K w x [.string x.f0, .int .i64 x.f1.f0, .string x.f1.f1, .slice A3 x.f1.f2.length c3, .slice A4 x.f1.f3.length c4, .int .i64 x.f1.f4] := ⟨[.string x.f0], [.int .i64 x.f1.f0, .string x.f1.f1, .slice A3 x.f1.f2.length c3, .slice A4 x.f1.f3.length c4, .int .i64 x.f1.f4], rfl, rfl, (k68_mk w x.f1 l3 g3 l4 g4)⟩
theorem k70_mkM (w : World) (base : Nat) (ok : Nat → Prop) (x : S70) {v3 : Value} (g3 : k109.R 109 w base ok v3 x.f1.f2) {v4 : Value} (g4 : Kd.string.R 9 w base ok v4 x.f1.f3) : k70.M w base ok x [.string x.f0, .int .i64 x.f1.f0, .string x.f1.f1, v3, v4, .int .i64 x.f1.f4] := ⟨[.string x.f0], [.int .i64 x.f1.f0, .string x.f1.f1, v3, v4, .int .i64 x.f1.f4], rfl, rfl, (k68_mkM w base ok x.f1 g3 g4)⟩
def rd_T70 (xs : List S70) (i : Int) : S70 := xs.getD i.toNat z70
theorem at_T70 {w : World} {A : Option Addr} {n : Nat} {xs : List S70} (h : Kd.C k70 w A n xs) (i : Int) (h0 : 0 ≤ i) (h1 : i < n) : ∃ ad A3 c3 A4 c4, A = some ad ∧ w.cell? (ad.add (i.toNat * 6)) = some (.string (rd_T70 xs i).f0) ∧ w.cell? ⟨(ad.add (i.toNat * 6)).block, (ad.add (i.toNat * 6)).off + 1, none⟩ = some (.int .i64 (rd_T70 xs i).f1.f0) ∧ w.cell? ⟨(ad.add (i.toNat * 6)).block, (ad.add (i.toNat * 6)).off + 2, none⟩ = some (.string (rd_T70 xs i).f1.f1) ∧ w.cell? ⟨(ad.add (i.toNat * 6)).block, (ad.add (i.toNat * 6)).off + 3, none⟩ = some (.slice A3 (rd_T70 xs i).f1.f2.length c3) ∧ w.cell? ⟨(ad.add (i.toNat * 6)).block, (ad.add (i.toNat * 6)).off + 4, none⟩ = some (.slice A4 (rd_T70 xs i).f1.f3.length c4) ∧ w.cell? ⟨(ad.add (i.toNat * 6)).block, (ad.add (i.toNat * 6)).off + 5, none⟩ = some (.int .i64 (rd_T70 xs i).f1.f4) ∧ (rd_T70 xs i).f1.f2.length ≤ c3 ∧ k109.C w A3 (rd_T70 xs i).f1.f2.length (rd_T70 xs i).f1.f2 ∧ (rd_T70 xs i).f1.f3.length ≤ c4 ∧ Kd.string.C w A4 (rd_T70 xs i).f1.f3.length (rd_T70 xs i).f1.f3 := by
  obtain ⟨ad, c, e, _, hK, hc0⟩ := Kd.C_get h z70 i h0 h1
  have hc : ∀ j u, c[j]? = some u → w.cell? (ad.add (i.toNat * 6 + j)) = some u := hc0
  obtain ⟨A3, c3, A4, c4, rfl, l3, g3, l4, g4⟩ := k70_open hK
  exact ⟨ad, A3, c3, A4, c4, e, hc 0 _ rfl, by rw [← add_field _ _ 1 (by omega)]; exact hc 1 _ rfl, by rw [← add_field _ _ 2 (by omega)]; exact hc 2 _ rfl, by rw [← add_field _ _ 3 (by omega)]; exact hc 3 _ rfl, by rw [← add_field _ _ 4 (by omega)]; exact hc 4 _ rfl, by rw [← add_field _ _ 5 (by omega)]; exact hc 5 _ rfl, l3, g3, l4, g4⟩

def rd_L10 (xs : List (List S70)) (i : Int) : (List S70) := xs.getD i.toNat ([] : List S70)
theorem at_L10 {w : World} {A : Option Addr} {n : Nat} {xs : List (List S70)} (h : Kd.C (Kd.slice 70 k70) w A n xs) (i : Int) (h0 : 0 ≤ i) (h1 : i < n) : ∃ ad A0 c0, A = some ad ∧ w.cell? (ad.add i.toNat) = some (.slice A0 (rd_L10 xs i).length c0) ∧ (rd_L10 xs i).length ≤ c0 ∧ k70.C w A0 (rd_L10 xs i).length (rd_L10 xs i) := by
  obtain ⟨ad, c, e, _, hK, hc0⟩ := Kd.C_get h ([] : List S70) i h0 h1
  have hc : ∀ j u, c[j]? = some u → w.cell? (ad.add (i.toNat * 1 + j)) = some u := hc0
  obtain ⟨A0, c0, rfl, l0, g0⟩ := hK
  exact ⟨ad, A0, c0, e, by have hq := hc 0 _ rfl; rwa [Nat.mul_one, Nat.add_zero] at hq, l0, g0⟩

/-! #### struct type 61 -/
structure S61 where
  f0 : Int
  f1 : Int
  f2 : Int
  f3 : ByteArray
def z61 : S61 := ⟨(0 : Int), (0 : Int), (0 : Int), (⟨#[]⟩ : ByteArray)⟩
def k61 : Kd S61 := Kd.iso (Kd.pair (Kd.int .i64) (Kd.pair (Kd.int .i64) (Kd.pair (Kd.int .i64) Kd.string))) (fun x : S61 => (x.f0, x.f1, x.f2, x.f3))
theorem k61_open {w : World} {x : S61} {cs : List Value} (h : k61.K w x cs) : cs = [.int .i64 x.f0, .int .i64 x.f1, .int .i64 x.f2, .string x.f3] := by
  obtain ⟨_, _, rfl, rfl, ⟨_, _, rfl, rfl, ⟨_, _, rfl, rfl, rfl⟩⟩⟩ := h
  exact rfl
theorem k61_openM {w : World} {base : Nat} {ok : Nat → Prop} {x : S61} {cs : List Value} (h : k61.M w base ok x cs) : cs = [.int .i64 x.f0, .int .i64 x.f1, .int .i64 x.f2, .string x.f3] := by
  obtain ⟨_, _, rfl, rfl, ⟨_, _, rfl, rfl, ⟨_, _, rfl, rfl, rfl⟩⟩⟩ := h
  exact rfl
theorem k61_mk (w : World) (x : S61)  : k61.K w x [.int .i64 x.f0, .int .i64 x.f1, .int .i64 x.f2, .string x.f3] := ⟨[.int .i64 x.f0], [.int .i64 x.f1, .int .i64 x.f2, .string x.f3], rfl, rfl, ⟨[.int .i64 x.f1], [.int .i64 x.f2, .string x.f3], rfl, rfl, ⟨[.int .i64 x.f2], [.string x.f3], rfl, rfl, rfl⟩⟩⟩
theorem k61_mkM (w : World) (base : Nat) (ok : Nat → Prop) (x : S61)  : k61.M w base ok x [.int .i64 x.f0, .int .i64 x.f1, .int .i64 x.f2, .string x.f3] := ⟨[.int .i64 x.f0], [.int .i64 x.f1, .int .i64 x.f2, .string x.f3], rfl, rfl, ⟨[.int .i64 x.f1], [.int .i64 x.f2, .string x.f3], rfl, rfl, ⟨[.int .i64 x.f2], [.string x.f3], rfl, rfl, rfl⟩⟩⟩
def rd_T61 (xs : List S61) (i : Int) : S61 := xs.getD i.toNat z61
theorem at_T61 {w : World} {A : Option Addr} {n : Nat} {xs : List S61} (h : Kd.C k61 w A n xs) (i : Int) (h0 : 0 ≤ i) (h1 : i < n) : ∃ ad , A = some ad ∧ w.cell? (ad.add (i.toNat * 4)) = some (.int .i64 (rd_T61 xs i).f0) ∧ w.cell? ⟨(ad.add (i.toNat * 4)).block, (ad.add (i.toNat * 4)).off + 1, none⟩ = some (.int .i64 (rd_T61 xs i).f1) ∧ w.cell? ⟨(ad.add (i.toNat * 4)).block, (ad.add (i.toNat * 4)).off + 2, none⟩ = some (.int .i64 (rd_T61 xs i).f2) ∧ w.cell? ⟨(ad.add (i.toNat * 4)).block, (ad.add (i.toNat * 4)).off + 3, none⟩ = some (.string (rd_T61 xs i).f3) := by
  obtain ⟨ad, c, e, _, hK, hc0⟩ := Kd.C_get h z61 i h0 h1
  have hc : ∀ j u, c[j]? = some u → w.cell? (ad.add (i.toNat * 4 + j)) = some u := hc0
  obtain rfl := k61_open hK
  exact ⟨ad, e, hc 0 _ rfl, by rw [← add_field _ _ 1 (by omega)]; exact hc 1 _ rfl, by rw [← add_field _ _ 2 (by omega)]; exact hc 2 _ rfl, by rw [← add_field _ _ 3 (by omega)]; exact hc 3 _ rfl⟩

def rd_L12 (xs : List (List S61)) (i : Int) : (List S61) := xs.getD i.toNat ([] : List S61)
theorem at_L12 {w : World} {A : Option Addr} {n : Nat} {xs : List (List S61)} (h : Kd.C (Kd.slice 61 k61) w A n xs) (i : Int) (h0 : 0 ≤ i) (h1 : i < n) : ∃ ad A0 c0, A = some ad ∧ w.cell? (ad.add i.toNat) = some (.slice A0 (rd_L12 xs i).length c0) ∧ (rd_L12 xs i).length ≤ c0 ∧ k61.C w A0 (rd_L12 xs i).length (rd_L12 xs i) := by
  obtain ⟨ad, c, e, _, hK, hc0⟩ := Kd.C_get h ([] : List S61) i h0 h1
  have hc : ∀ j u, c[j]? = some u → w.cell? (ad.add (i.toNat * 1 + j)) = some u := hc0
  obtain ⟨A0, c0, rfl, l0, g0⟩ := hK
  exact ⟨ad, A0, c0, e, by have hq := hc 0 _ rfl; rwa [Nat.mul_one, Nat.add_zero] at hq, l0, g0⟩

/-! #### struct type 186 -/
structure S186 where
  f0 : Int
  f1 : Int
  f2 : Int
def z186 : S186 := ⟨(0 : Int), (0 : Int), (0 : Int)⟩
def k186 : Kd S186 := Kd.iso (Kd.pair (Kd.int .i64) (Kd.pair (Kd.int .i64) (Kd.int .i64))) (fun x : S186 => (x.f0, x.f1, x.f2))
theorem k186_open {w : World} {x : S186} {cs : List Value} (h : k186.K w x cs) : cs = [.int .i64 x.f0, .int .i64 x.f1, .int .i64 x.f2] := by
  obtain ⟨_, _, rfl, rfl, ⟨_, _, rfl, rfl, rfl⟩⟩ := h
  exact rfl
theorem k186_openM {w : World} {base : Nat} {ok : Nat → Prop} {x : S186} {cs : List Value} (h : k186.M w base ok x cs) : cs = [.int .i64 x.f0, .int .i64 x.f1, .int .i64 x.f2] := by
  obtain ⟨_, _, rfl, rfl, ⟨_, _, rfl, rfl, rfl⟩⟩ := h
  exact rfl
theorem k186_mk (w : World) (x : S186)  : k186.K w x [.int .i64 x.f0, .int .i64 x.f1, .int .i64 x.f2] := ⟨[.int .i64 x.f0], [.int .i64 x.f1, .int .i64 x.f2], rfl, rfl, ⟨[.int .i64 x.f1], [.int .i64 x.f2], rfl, rfl, rfl⟩⟩
theorem k186_mkM (w : World) (base : Nat) (ok : Nat → Prop) (x : S186)  : k186.M w base ok x [.int .i64 x.f0, .int .i64 x.f1, .int .i64 x.f2] := ⟨[.int .i64 x.f0], [.int .i64 x.f1, .int .i64 x.f2], rfl, rfl, ⟨[.int .i64 x.f1], [.int .i64 x.f2], rfl, rfl, rfl⟩⟩
def rd_T186 (xs : List S186) (i : Int) : S186 := xs.getD i.toNat z186
theorem at_T186 {w : World} {A : Option Addr} {n : Nat} {xs : List S186} (h : Kd.C k186 w A n xs) (i : Int) (h0 : 0 ≤ i) (h1 : i < n) : ∃ ad , A = some ad ∧ w.cell? (ad.add (i.toNat * 3)) = some (.int .i64 (rd_T186 xs i).f0) ∧ w.cell? ⟨(ad.add (i.toNat * 3)).block, (ad.add (i.toNat * 3)).off + 1, none⟩ = some (.int .i64 (rd_T186 xs i).f1) ∧ w.cell? ⟨(ad.add (i.toNat * 3)).block, (ad.add (i.toNat * 3)).off + 2, none⟩ = some (.int .i64 (rd_T186 xs i).f2) := by
  obtain ⟨ad, c, e, _, hK, hc0⟩ := Kd.C_get h z186 i h0 h1
  have hc : ∀ j u, c[j]? = some u → w.cell? (ad.add (i.toNat * 3 + j)) = some u := hc0
  obtain rfl := k186_open hK
  exact ⟨ad, e, hc 0 _ rfl, by rw [← add_field _ _ 1 (by omega)]; exact hc 1 _ rfl, by rw [← add_field _ _ 2 (by omega)]; exact hc 2 _ rfl⟩

def rd_L14 (xs : List (List S186)) (i : Int) : (List S186) := xs.getD i.toNat ([] : List S186)
theorem at_L14 {w : World} {A : Option Addr} {n : Nat} {xs : List (List S186)} (h : Kd.C (Kd.slice 186 k186) w A n xs) (i : Int) (h0 : 0 ≤ i) (h1 : i < n) : ∃ ad A0 c0, A = some ad ∧ w.cell? (ad.add i.toNat) = some (.slice A0 (rd_L14 xs i).length c0) ∧ (rd_L14 xs i).length ≤ c0 ∧ k186.C w A0 (rd_L14 xs i).length (rd_L14 xs i) := by
  obtain ⟨ad, c, e, _, hK, hc0⟩ := Kd.C_get h ([] : List S186) i h0 h1
  have hc : ∀ j u, c[j]? = some u → w.cell? (ad.add (i.toNat * 1 + j)) = some u := hc0
  obtain ⟨A0, c0, rfl, l0, g0⟩ := hK
  exact ⟨ad, A0, c0, e, by have hq := hc 0 _ rfl; rwa [Nat.mul_one, Nat.add_zero] at hq, l0, g0⟩

/-! #### struct type 27 -/
structure S27 where
  f0 : Int
  f1 : Int
def z27 : S27 := ⟨(0 : Int), (0 : Int)⟩
def k27 : Kd S27 := Kd.iso (Kd.pair (Kd.int .i64) (Kd.int .i64)) (fun x : S27 => (x.f0, x.f1))
theorem k27_open {w : World} {x : S27} {cs : List Value} (h : k27.K w x cs) : cs = [.int .i64 x.f0, .int .i64 x.f1] := by
  obtain ⟨_, _, rfl, rfl, rfl⟩ := h
  exact rfl
theorem k27_openM {w : World} {base : Nat} {ok : Nat → Prop} {x : S27} {cs : List Value} (h : k27.M w base ok x cs) : cs = [.int .i64 x.f0, .int .i64 x.f1] := by
  obtain ⟨_, _, rfl, rfl, rfl⟩ := h
  exact rfl
theorem k27_mk (w : World) (x : S27)  : k27.K w x [.int .i64 x.f0, .int .i64 x.f1] := ⟨[.int .i64 x.f0], [.int .i64 x.f1], rfl, rfl, rfl⟩
theorem k27_mkM (w : World) (base : Nat) (ok : Nat → Prop) (x : S27)  : k27.M w base ok x [.int .i64 x.f0, .int .i64 x.f1] := ⟨[.int .i64 x.f0], [.int .i64 x.f1], rfl, rfl, rfl⟩
def rd_T27 (xs : List S27) (i : Int) : S27 := xs.getD i.toNat z27
theorem at_T27 {w : World} {A : Option Addr} {n : Nat} {xs : List S27} (h : Kd.C k27 w A n xs) (i : Int) (h0 : 0 ≤ i) (h1 : i < n) : ∃ ad , A = some ad ∧ w.cell? (ad.add (i.toNat * 2)) = some (.int .i64 (rd_T27 xs i).f0) ∧ w.cell? ⟨(ad.add (i.toNat * 2)).block, (ad.add (i.toNat * 2)).off + 1, none⟩ = some (.int .i64 (rd_T27 xs i).f1) := by
  obtain ⟨ad, c, e, _, hK, hc0⟩ := Kd.C_get h z27 i h0 h1
  have hc : ∀ j u, c[j]? = some u → w.cell? (ad.add (i.toNat * 2 + j)) = some u := hc0
  obtain rfl := k27_open hK
  exact ⟨ad, e, hc 0 _ rfl, by rw [← add_field _ _ 1 (by omega)]; exact hc 1 _ rfl⟩

/-! #### struct type 117 -/
structure S117 where
  f0 : ByteArray
  f1 : Bool
  f2 : S68
def z117 : S117 := ⟨(⟨#[]⟩ : ByteArray), false, z68⟩
def k117 : Kd S117 := Kd.iso (Kd.pair Kd.string (Kd.pair Kd.bool k68)) (fun x : S117 => (x.f0, x.f1, x.f2))
theorem k117_open {w : World} {x : S117} {cs : List Value} (h : k117.K w x cs) : ∃ A4 c4 A5 c5, cs = [.string x.f0, .bool x.f1, .int .i64 x.f2.f0, .string x.f2.f1, .slice A4 x.f2.f2.length c4, .slice A5 x.f2.f3.length c5, .int .i64 x.f2.f4] ∧ x.f2.f2.length ≤ c4 ∧ k109.C w A4 x.f2.f2.length x.f2.f2 ∧ x.f2.f3.length ≤ c5 ∧ Kd.string.C w A5 x.f2.f3.length x.f2.f3 := by
  obtain ⟨_, _, rfl, rfl, ⟨_, _, rfl, rfl, s2⟩⟩ := h
  obtain ⟨A4, c4, A5, c5, rfl, l4, g4, l5, g5⟩ := k68_open s2
  exact ⟨A4, c4, A5, c5, rfl, l4, g4, l5, g5⟩
theorem k117_openM {w : World} {base : Nat} {ok : Nat → Prop} {x : S117} {cs : List Value} (h : k117.M w base ok x cs) : ∃ v4 v5, cs = [.string x.f0, .bool x.f1, .int .i64 x.f2.f0, .string x.f2.f1, v4, v5, .int .i64 x.f2.f4] ∧ k109.R 109 w base ok v4 x.f2.f2 ∧ Kd.string.R 9 w base ok v5 x.f2.f3 := by
  obtain ⟨_, _, rfl, rfl, ⟨_, _, rfl, rfl, s2⟩⟩ := h
  obtain ⟨v4, v5, rfl, g4, g5⟩ := k68_openM s2
  exact ⟨v4, v5, rfl, g4, g5⟩
theorem k117_mk (w : World) (x : S117) {A4 : Option Addr} {c4 : Nat} (l4 : x.f2.f2.length ≤ c4) (g4 : k109.C w A4 x.f2.f2.length x.f2.f2) {A5 : Option Addr} {c5 : Nat} (l5 : x.f2.f3.length ≤ c5) (g5 : Kd.string.C w A5 x.f2.f3.length x.f2.f3) : k117.K w x [.string x.f0, .bool x.f1, .int .i64 x.f2.f0, .string x.f2.f1, .slice A4 x.f2.f2.length c4, .slice A5 x.f2.f3.length c5, .int .i64 x.f2.f4] := ⟨[.string x.f0], [.bool x.f1, .int .i64 x.f2.f0, .string x.f2.f1, .slice A4 x.f2.f2.length c4, .slice A5 x.f2.f3.length c5, .int .i64 x.f2.f4], rfl, rfl, ⟨[.bool x.f1], [.int .i64 x.f2.f0, .string x.f2.f1, .slice A4 x.f2.f2.length c4, .slice A5 x.f2.f3.length c5, .int .i64 x.f2.f4], rfl, rfl, (k68_mk w x.f2 l4 g4 l5 g5)⟩⟩
theorem k117_mkM (w : World) (base : Nat) (ok : Nat → Prop) (x : S117) {v4 : Value} (g4 : k109.R 109 w base ok v4 x.f2.f2) {v5 : Value} (g5 : Kd.string.R 9 w base ok v5 x.f2.f3) : k117.M w base ok x [.string x.f0, .bool x.f1, .int .i64 x.f2.f0, .string x.f2.f1, v4, v5, .int .i64 x.f2.f4] := ⟨[.string x.f0], [.bool x.f1, .int .i64 x.f2.f0, .string x.f2.f1, v4, v5, .int .i64 x.f2.f4], rfl, rfl, ⟨[.bool x.f1], [.int .i64 x.f2.f0, .string x.f2.f1, v4, v5, .int .i64 x.f2.f4], rfl, rfl, (k68_mkM w base ok x.f2 g4 g5)⟩⟩
def rd_T117 (xs : List S117) (i : Int) : S117 := xs.getD i.toNat z117
theorem at_T117 {w : World} {A : Option Addr} {n : Nat} {xs : List S117} (h : Kd.C k117 w A n xs) (i : Int) (h0 : 0 ≤ i) (h1 : i < n) : ∃ ad A4 c4 A5 c5, A = some ad ∧ w.cell? (ad.add (i.toNat * 7)) = some (.string (rd_T117 xs i).f0) ∧ w.cell? ⟨(ad.add (i.toNat * 7)).block, (ad.add (i.toNat * 7)).off + 1, none⟩ = some (.bool (rd_T117 xs i).f1) ∧ w.cell? ⟨(ad.add (i.toNat * 7)).block, (ad.add (i.toNat * 7)).off + 2, none⟩ = some (.int .i64 (rd_T117 xs i).f2.f0) ∧ w.cell? ⟨(ad.add (i.toNat * 7)).block, (ad.add (i.toNat * 7)).off + 3, none⟩ = some (.string (rd_T117 xs i).f2.f1) ∧ w.cell? ⟨(ad.add (i.toNat * 7)).block, (ad.add (i.toNat * 7)).off + 4, none⟩ = some (.slice A4 (rd_T117 xs i).f2.f2.length c4) ∧ w.cell? ⟨(ad.add (i.toNat * 7)).block, (ad.add (i.toNat * 7)).off + 5, none⟩ = some (.slice A5 (rd_T117 xs i).f2.f3.length c5) ∧ w.cell? ⟨(ad.add (i.toNat * 7)).block, (ad.add (i.toNat * 7)).off + 6, none⟩ = some (.int .i64 (rd_T117 xs i).f2.f4) ∧ (rd_T117 xs i).f2.f2.length ≤ c4 ∧ k109.C w A4 (rd_T117 xs i).f2.f2.length (rd_T117 xs i).f2.f2 ∧ (rd_T117 xs i).f2.f3.length ≤ c5 ∧ Kd.string.C w A5 (rd_T117 xs i).f2.f3.length (rd_T117 xs i).f2.f3 := by
  obtain ⟨ad, c, e, _, hK, hc0⟩ := Kd.C_get h z117 i h0 h1
  have hc : ∀ j u, c[j]? = some u → w.cell? (ad.add (i.toNat * 7 + j)) = some u := hc0
  obtain ⟨A4, c4, A5, c5, rfl, l4, g4, l5, g5⟩ := k117_open hK
  exact ⟨ad, A4, c4, A5, c5, e, hc 0 _ rfl, by rw [← add_field _ _ 1 (by omega)]; exact hc 1 _ rfl, by rw [← add_field _ _ 2 (by omega)]; exact hc 2 _ rfl, by rw [← add_field _ _ 3 (by omega)]; exact hc 3 _ rfl, by rw [← add_field _ _ 4 (by omega)]; exact hc 4 _ rfl, by rw [← add_field _ _ 5 (by omega)]; exact hc 5 _ rfl, by rw [← add_field _ _ 6 (by omega)]; exact hc 6 _ rfl, l4, g4, l5, g5⟩

def rd_L18 (xs : List (List S117)) (i : Int) : (List S117) := xs.getD i.toNat ([] : List S117)
theorem at_L18 {w : World} {A : Option Addr} {n : Nat} {xs : List (List S117)} (h : Kd.C (Kd.slice 117 k117) w A n xs) (i : Int) (h0 : 0 ≤ i) (h1 : i < n) : ∃ ad A0 c0, A = some ad ∧ w.cell? (ad.add i.toNat) = some (.slice A0 (rd_L18 xs i).length c0) ∧ (rd_L18 xs i).length ≤ c0 ∧ k117.C w A0 (rd_L18 xs i).length (rd_L18 xs i) := by
  obtain ⟨ad, c, e, _, hK, hc0⟩ := Kd.C_get h ([] : List S117) i h0 h1
  have hc : ∀ j u, c[j]? = some u → w.cell? (ad.add (i.toNat * 1 + j)) = some u := hc0
  obtain ⟨A0, c0, rfl, l0, g0⟩ := hK
  exact ⟨ad, A0, c0, e, by have hq := hc 0 _ rfl; rwa [Nat.mul_one, Nat.add_zero] at hq, l0, g0⟩

/-! #### struct type 30 -/
structure S30 where
  f0 : S27
  f1 : Int
  f2 : (List S117)
  f3 : S27
  f4 : Int
def z30 : S30 := ⟨z27, (0 : Int), ([] : List S117), z27, (0 : Int)⟩
def k30 : Kd S30 := Kd.iso (Kd.pair k27 (Kd.pair (Kd.int .i64) (Kd.pair (Kd.slice 117 k117) (Kd.pair k27 (Kd.int .i64))))) (fun x : S30 => (x.f0, x.f1, x.f2, x.f3, x.f4))
theorem k30_open {w : World} {x : S30} {cs : List Value} (h : k30.K w x cs) : ∃ A3 c3, cs = [.int .i64 x.f0.f0, .int .i64 x.f0.f1, .int .i64 x.f1, .slice A3 x.f2.length c3, .int .i64 x.f3.f0, .int .i64 x.f3.f1, .int .i64 x.f4] ∧ x.f2.length ≤ c3 ∧ k117.C w A3 x.f2.length x.f2 := by
  obtain ⟨_, _, rfl, s0, ⟨_, _, rfl, rfl, ⟨_, _, rfl, ⟨A3, c3, rfl, l3, g3⟩, ⟨_, _, rfl, s4, rfl⟩⟩⟩⟩ := h
  obtain rfl := k27_open s0
  obtain rfl := k27_open s4
  exact ⟨A3, c3, rfl, l3, g3⟩
theorem k30_openM {w : World} {base : Nat} {ok : Nat → Prop} {x : S30} {cs : List Value} (h : k30.M w base ok x cs) : ∃ v3, cs = [.int .i64 x.f0.f0, .int .i64 x.f0.f1, .int .i64 x.f1, v3, .int .i64 x.f3.f0, .int .i64 x.f3.f1, .int .i64 x.f4] ∧ k117.R 117 w base ok v3 x.f2 := by
  obtain ⟨_, _, rfl, s0, ⟨_, _, rfl, rfl, ⟨_, _, rfl, ⟨v3, rfl, g3⟩, ⟨_, _, rfl, s4, rfl⟩⟩⟩⟩ := h
  obtain rfl := k27_openM s0
  obtain rfl := k27_openM s4
  exact ⟨v3, rfl, g3⟩
theorem k30_mk (w : World) (x : S30) {A3 : Option Addr} {c3 : Nat} (l3 : x.f2.length ≤ c3) (g3 : k117.C w A3 x.f2.length x.f2) : k30.K w x [.int .i64 x.f0.f0, .int .i64 x.f0.f1, .int .i64 x.f1, .slice A3 x.f2.length c3, .int .i64 x.f3.f0, .int .i64 x.f3.f1, .int .i64 x.f4] := ⟨[.int .i64 x.f0.f0, .int .i64 x.f0.f1], [.int .i64 x.f1, .slice A3 x.f2.length c3, .int .i64 x.f3.f0, .int .i64 x.f3.f1, .int .i64 x.f4], rfl, (k27_mk w x.f0 ), ⟨[.int .i64 x.f1], [.slice A3 x.f2.length c3, .int .i64 x.f3.f0, .int .i64 x.f3.f1, .int .i64 x.f4], rfl, rfl, ⟨[.slice A3 x.f2.length c3], [.int .i64 x.f3.f0, .int .i64 x.f3.f1, .int .i64 x.f4], rfl, ⟨A3, c3, rfl, l3, g3⟩, ⟨[.int .i64 x.f3.f0, .int .i64 x.f3.f1], [.int .i64 x.f4], rfl, (k27_mk w x.f3 ), rfl⟩⟩⟩⟩
theorem k30_mkM (w : World) (base : Nat) (ok : Nat → Prop) (x : S30) {v3 : Value} (g3 : k117.R 117 w base ok v3 x.f2) : k30.M w base ok x [.int .i64 x.f0.f0, .int .i64 x.f0.f1, .int .i64 x.f1, v3, .int .i64 x.f3.f0, .int .i64 x.f3.f1, .int .i64 x.f4] := ⟨[.int .i64 x.f0.f0, .int .i64 x.f0.f1], [.int .i64 x.f1, v3, .int .i64 x.f3.f0, .int .i64 x.f3.f1, .int .i64 x.f4], rfl, (k27_mkM w base ok x.f0 ), ⟨[.int .i64 x.f1], [v3, .int .i64 x.f3.f0, .int .i64 x.f3.f1, .int .i64 x.f4], rfl, rfl, ⟨[v3], [.int .i64 x.f3.f0, .int .i64 x.f3.f1, .int .i64 x.f4], rfl, ⟨v3, rfl, g3⟩, ⟨[.int .i64 x.f3.f0, .int .i64 x.f3.f1], [.int .i64 x.f4], rfl, (k27_mkM w base ok x.f3 ), rfl⟩⟩⟩⟩
def rd_T30 (xs : List S30) (i : Int) : S30 := xs.getD i.toNat z30
theorem at_T30 {w : World} {A : Option Addr} {n : Nat} {xs : List S30} (h : Kd.C k30 w A n xs) (i : Int) (h0 : 0 ≤ i) (h1 : i < n) : ∃ ad A3 c3, A = some ad ∧ w.cell? (ad.add (i.toNat * 7)) = some (.int .i64 (rd_T30 xs i).f0.f0) ∧ w.cell? ⟨(ad.add (i.toNat * 7)).block, (ad.add (i.toNat * 7)).off + 1, none⟩ = some (.int .i64 (rd_T30 xs i).f0.f1) ∧ w.cell? ⟨(ad.add (i.toNat * 7)).block, (ad.add (i.toNat * 7)).off + 2, none⟩ = some (.int .i64 (rd_T30 xs i).f1) ∧ w.cell? ⟨(ad.add (i.toNat * 7)).block, (ad.add (i.toNat * 7)).off + 3, none⟩ = some (.slice A3 (rd_T30 xs i).f2.length c3) ∧ w.cell? ⟨(ad.add (i.toNat * 7)).block, (ad.add (i.toNat * 7)).off + 4, none⟩ = some (.int .i64 (rd_T30 xs i).f3.f0) ∧ w.cell? ⟨(ad.add (i.toNat * 7)).block, (ad.add (i.toNat * 7)).off + 5, none⟩ = some (.int .i64 (rd_T30 xs i).f3.f1) ∧ w.cell? ⟨(ad.add (i.toNat * 7)).block, (ad.add (i.toNat * 7)).off + 6, none⟩ = some (.int .i64 (rd_T30 xs i).f4) ∧ (rd_T30 xs i).f2.length ≤ c3 ∧ k117.C w A3 (rd_T30 xs i).f2.length (rd_T30 xs i).f2 := by
  obtain ⟨ad, c, e, _, hK, hc0⟩ := Kd.C_get h z30 i h0 h1
  have hc : ∀ j u, c[j]? = some u → w.cell? (ad.add (i.toNat * 7 + j)) = some u := hc0
  obtain ⟨A3, c3, rfl, l3, g3⟩ := k30_open hK
  exact ⟨ad, A3, c3, e, hc 0 _ rfl, by rw [← add_field _ _ 1 (by omega)]; exact hc 1 _ rfl, by rw [← add_field _ _ 2 (by omega)]; exact hc 2 _ rfl, by rw [← add_field _ _ 3 (by omega)]; exact hc 3 _ rfl, by rw [← add_field _ _ 4 (by omega)]; exact hc 4 _ rfl, by rw [← add_field _ _ 5 (by omega)]; exact hc 5 _ rfl, by rw [← add_field _ _ 6 (by omega)]; exact hc 6 _ rfl, l3, g3⟩

def rd_L20 (xs : List (List Int)) (i : Int) : (List Int) := xs.getD i.toNat ([] : List Int)
theorem at_L20 {w : World} {A : Option Addr} {n : Nat} {xs : List (List Int)} (h : Kd.C (Kd.slice 3 (Kd.int .i64)) w A n xs) (i : Int) (h0 : 0 ≤ i) (h1 : i < n) : ∃ ad A0 c0, A = some ad ∧ w.cell? (ad.add i.toNat) = some (.slice A0 (rd_L20 xs i).length c0) ∧ (rd_L20 xs i).length ≤ c0 ∧ (Kd.int .i64).C w A0 (rd_L20 xs i).length (rd_L20 xs i) := by
  obtain ⟨ad, c, e, _, hK, hc0⟩ := Kd.C_get h ([] : List Int) i h0 h1
  have hc : ∀ j u, c[j]? = some u → w.cell? (ad.add (i.toNat * 1 + j)) = some u := hc0
  obtain ⟨A0, c0, rfl, l0, g0⟩ := hK
  exact ⟨ad, A0, c0, e, by have hq := hc 0 _ rfl; rwa [Nat.mul_one, Nat.add_zero] at hq, l0, g0⟩

def rd_L21 (xs : List (List (List Int))) (i : Int) : (List (List Int)) := xs.getD i.toNat ([] : List (List Int))
theorem at_L21 {w : World} {A : Option Addr} {n : Nat} {xs : List (List (List Int))} (h : Kd.C (Kd.slice 31 (Kd.slice 3 (Kd.int .i64))) w A n xs) (i : Int) (h0 : 0 ≤ i) (h1 : i < n) : ∃ ad A0 c0, A = some ad ∧ w.cell? (ad.add i.toNat) = some (.slice A0 (rd_L21 xs i).length c0) ∧ (rd_L21 xs i).length ≤ c0 ∧ (Kd.slice 3 (Kd.int .i64)).C w A0 (rd_L21 xs i).length (rd_L21 xs i) := by
  obtain ⟨ad, c, e, _, hK, hc0⟩ := Kd.C_get h ([] : List (List Int)) i h0 h1
  have hc : ∀ j u, c[j]? = some u → w.cell? (ad.add (i.toNat * 1 + j)) = some u := hc0
  obtain ⟨A0, c0, rfl, l0, g0⟩ := hK
  exact ⟨ad, A0, c0, e, by have hq := hc 0 _ rfl; rwa [Nat.mul_one, Nat.add_zero] at hq, l0, g0⟩

/-! #### struct type 34 -/
structure S34 where
  f0 : (List Int)
  f1 : (List (List Int))
def z34 : S34 := ⟨([] : List Int), ([] : List (List Int))⟩
def k34 : Kd S34 := Kd.iso (Kd.pair (Kd.slice 3 (Kd.int .i64)) (Kd.slice 31 (Kd.slice 3 (Kd.int .i64)))) (fun x : S34 => (x.f0, x.f1))
theorem k34_open {w : World} {x : S34} {cs : List Value} (h : k34.K w x cs) : ∃ A0 c0 A1 c1, cs = [.slice A0 x.f0.length c0, .slice A1 x.f1.length c1] ∧ x.f0.length ≤ c0 ∧ (Kd.int .i64).C w A0 x.f0.length x.f0 ∧ x.f1.length ≤ c1 ∧ (Kd.slice 3 (Kd.int .i64)).C w A1 x.f1.length x.f1 := by
  obtain ⟨_, _, rfl, ⟨A0, c0, rfl, l0, g0⟩, ⟨A1, c1, rfl, l1, g1⟩⟩ := h
  exact ⟨A0, c0, A1, c1, rfl, l0, g0, l1, g1⟩
theorem k34_openM {w : World} {base : Nat} {ok : Nat → Prop} {x : S34} {cs : List Value} (h : k34.M w base ok x cs) : ∃ v0 v1, cs = [v0, v1] ∧ (Kd.int .i64).R 3 w base ok v0 x.f0 ∧ (Kd.slice 3 (Kd.int .i64)).R 31 w base ok v1 x.f1 := by
  obtain ⟨_, _, rfl, ⟨v0, rfl, g0⟩, ⟨v1, rfl, g1⟩⟩ := h
  exact ⟨v0, v1, rfl, g0, g1⟩
theorem k34_mk (w : World) (x : S34) {A0 : Option Addr} {c0 : Nat} (l0 : x.f0.length ≤ c0) (g0 : (Kd.int .i64).C w A0 x.f0.length x.f0) {A1 : Option Addr} {c1 : Nat} (l1 : x.f1.length ≤ c1) (g1 : (Kd.slice 3 (Kd.int .i64)).C w A1 x.f1.length x.f1) : k34.K w x [.slice A0 x.f0.length c0, .slice A1 x.f1.length c1] := ⟨[.slice A0 x.f0.length c0], [.slice A1 x.f1.length c1], rfl, ⟨A0, c0, rfl, l0, g0⟩, ⟨A1, c1, rfl, l1, g1⟩⟩
theorem k34_mkM (w : World) (base : Nat) (ok : Nat → Prop) (x : S34) {v0 : Value} (g0 : (Kd.int .i64).R 3 w base ok v0 x.f0) {v1 : Value} (g1 : (Kd.slice 3 (Kd.int .i64)).R 31 w base ok v1 x.f1) : k34.M w base ok x [v0, v1] := ⟨[v0], [v1], rfl, ⟨v0, rfl, g0⟩, ⟨v1, rfl, g1⟩⟩
def rd_T34 (xs : List S34) (i : Int) : S34 := xs.getD i.toNat z34
theorem at_T34 {w : World} {A : Option Addr} {n : Nat} {xs : List S34} (h : Kd.C k34 w A n xs) (i : Int) (h0 : 0 ≤ i) (h1 : i < n) : ∃ ad A0 c0 A1 c1, A = some ad ∧ w.cell? (ad.add (i.toNat * 2)) = some (.slice A0 (rd_T34 xs i).f0.length c0) ∧ w.cell? ⟨(ad.add (i.toNat * 2)).block, (ad.add (i.toNat * 2)).off + 1, none⟩ = some (.slice A1 (rd_T34 xs i).f1.length c1) ∧ (rd_T34 xs i).f0.length ≤ c0 ∧ (Kd.int .i64).C w A0 (rd_T34 xs i).f0.length (rd_T34 xs i).f0 ∧ (rd_T34 xs i).f1.length ≤ c1 ∧ (Kd.slice 3 (Kd.int .i64)).C w A1 (rd_T34 xs i).f1.length (rd_T34 xs i).f1 := by
  obtain ⟨ad, c, e, _, hK, hc0⟩ := Kd.C_get h z34 i h0 h1
  have hc : ∀ j u, c[j]? = some u → w.cell? (ad.add (i.toNat * 2 + j)) = some u := hc0
  obtain ⟨A0, c0, A1, c1, rfl, l0, g0, l1, g1⟩ := k34_open hK
  exact ⟨ad, A0, c0, A1, c1, e, hc 0 _ rfl, by rw [← add_field _ _ 1 (by omega)]; exact hc 1 _ rfl, l0, g0, l1, g1⟩

/-! #### struct type 36 -/
structure S36 where
  f0 : Int
  f1 : Int
  f2 : Int
  f3 : Int
  f4 : Int
  f5 : (List S64)
  f6 : (List S70)
  f7 : (List S61)
  f8 : Int
  f9 : (List S186)
  f10 : S30
  f11 : S34
  f12 : Int
  f13 : (List Int)
  f14 : Int
def z36 : S36 := ⟨(0 : Int), (0 : Int), (0 : Int), (0 : Int), (0 : Int), ([] : List S64), ([] : List S70), ([] : List S61), (0 : Int), ([] : List S186), z30, z34, (0 : Int), ([] : List Int), (0 : Int)⟩
def k36 : Kd S36 := Kd.iso (Kd.pair (Kd.int .i64) (Kd.pair (Kd.int .i64) (Kd.pair (Kd.int .i64) (Kd.pair (Kd.int .i64) (Kd.pair (Kd.int .i64) (Kd.pair (Kd.slice 64 k64) (Kd.pair (Kd.slice 70 k70) (Kd.pair (Kd.slice 61 k61) (Kd.pair (Kd.int .i64) (Kd.pair (Kd.slice 186 k186) (Kd.pair k30 (Kd.pair k34 (Kd.pair (Kd.int .i64) (Kd.pair (Kd.slice 3 (Kd.int .i64)) (Kd.int .i64))))))))))))))) (fun x : S36 => (x.f0, x.f1, x.f2, x.f3, x.f4, x.f5, x.f6, x.f7, x.f8, x.f9, x.f10, x.f11, x.f12, x.f13, x.f14))
theorem k36_open {w : World} {x : S36} {cs : List Value} (h : k36.K w x cs) : ∃ A5 c5 A6 c6 A7 c7 A9 c9 A13 c13 A17 c17 A18 c18 A20 c20, cs = [.int .i64 x.f0, .int .i64 x.f1, .int .i64 x.f2, .int .i64 x.f3, .int .i64 x.f4, .slice A5 x.f5.length c5, .slice A6 x.f6.length c6, .slice A7 x.f7.length c7, .int .i64 x.f8, .slice A9 x.f9.length c9, .int .i64 x.f10.f0.f0, .int .i64 x.f10.f0.f1, .int .i64 x.f10.f1, .slice A13 x.f10.f2.length c13, .int .i64 x.f10.f3.f0, .int .i64 x.f10.f3.f1, .int .i64 x.f10.f4, .slice A17 x.f11.f0.length c17, .slice A18 x.f11.f1.length c18, .int .i64 x.f12, .slice A20 x.f13.length c20, .int .i64 x.f14] ∧ x.f5.length ≤ c5 ∧ k64.C w A5 x.f5.length x.f5 ∧ x.f6.length ≤ c6 ∧ k70.C w A6 x.f6.length x.f6 ∧ x.f7.length ≤ c7 ∧ k61.C w A7 x.f7.length x.f7 ∧ x.f9.length ≤ c9 ∧ k186.C w A9 x.f9.length x.f9 ∧ x.f10.f2.length ≤ c13 ∧ k117.C w A13 x.f10.f2.length x.f10.f2 ∧ x.f11.f0.length ≤ c17 ∧ (Kd.int .i64).C w A17 x.f11.f0.length x.f11.f0 ∧ x.f11.f1.length ≤ c18 ∧ (Kd.slice 3 (Kd.int .i64)).C w A18 x.f11.f1.length x.f11.f1 ∧ x.f13.length ≤ c20 ∧ (Kd.int .i64).C w A20 x.f13.length x.f13 := by
  obtain ⟨_, _, rfl, rfl, ⟨_, _, rfl, rfl, ⟨_, _, rfl, rfl, ⟨_, _, rfl, rfl, ⟨_, _, rfl, rfl, ⟨_, _, rfl, ⟨A5, c5, rfl, l5, g5⟩, ⟨_, _, rfl, ⟨A6, c6, rfl, l6, g6⟩, ⟨_, _, rfl, ⟨A7, c7, rfl, l7, g7⟩, ⟨_, _, rfl, rfl, ⟨_, _, rfl, ⟨A9, c9, rfl, l9, g9⟩, ⟨_, _, rfl, s10, ⟨_, _, rfl, s17, ⟨_, _, rfl, rfl, ⟨_, _, rfl, ⟨A20, c20, rfl, l20, g20⟩, rfl⟩⟩⟩⟩⟩⟩⟩⟩⟩⟩⟩⟩⟩⟩ := h
  obtain ⟨A13, c13, rfl, l13, g13⟩ := k30_open s10
  obtain ⟨A17, c17, A18, c18, rfl, l17, g17, l18, g18⟩ := k34_open s17
  exact ⟨A5, c5, A6, c6, A7, c7, A9, c9, A13, c13, A17, c17, A18, c18, A20, c20, rfl, l5, g5, l6, g6, l7, g7, l9, g9, l13, g13, l17, g17, l18, g18, l20, g20⟩
theorem k36_openM {w : World} {base : Nat} {ok : Nat → Prop} {x : S36} {cs : List Value} (h : k36.M w base ok x cs) : ∃ v5 v6 v7 v9 v13 v17 v18 v20, cs = [.int .i64 x.f0, .int .i64 x.f1, .int .i64 x.f2, .int .i64 x.f3, .int .i64 x.f4, v5, v6, v7, .int .i64 x.f8, v9, .int .i64 x.f10.f0.f0, .int .i64 x.f10.f0.f1, .int .i64 x.f10.f1, v13, .int .i64 x.f10.f3.f0, .int .i64 x.f10.f3.f1, .int .i64 x.f10.f4, v17, v18, .int .i64 x.f12, v20, .int .i64 x.f14] ∧ k64.R 64 w base ok v5 x.f5 ∧ k70.R 70 w base ok v6 x.f6 ∧ k61.R 61 w base ok v7 x.f7 ∧ k186.R 186 w base ok v9 x.f9 ∧ k117.R 117 w base ok v13 x.f10.f2 ∧ (Kd.int .i64).R 3 w base ok v17 x.f11.f0 ∧ (Kd.slice 3 (Kd.int .i64)).R 31 w base ok v18 x.f11.f1 ∧ (Kd.int .i64).R 3 w base ok v20 x.f13 := by
  obtain ⟨_, _, rfl, rfl, ⟨_, _, rfl, rfl, ⟨_, _, rfl, rfl, ⟨_, _, rfl, rfl, ⟨_, _, rfl, rfl, ⟨_, _, rfl, ⟨v5, rfl, g5⟩, ⟨_, _, rfl, ⟨v6, rfl, g6⟩, ⟨_, _, rfl, ⟨v7, rfl, g7⟩, ⟨_, _, rfl, rfl, ⟨_, _, rfl, ⟨v9, rfl, g9⟩, ⟨_, _, rfl, s10, ⟨_, _, rfl, s17, ⟨_, _, rfl, rfl, ⟨_, _, rfl, ⟨v20, rfl, g20⟩, rfl⟩⟩⟩⟩⟩⟩⟩⟩⟩⟩⟩⟩⟩⟩ := h
  obtain ⟨v13, rfl, g13⟩ := k30_openM s10
  obtain ⟨v17, v18, rfl, g17, g18⟩ := k34_openM s17
  exact ⟨v5, v6, v7, v9, v13, v17, v18, v20, rfl, g5, g6, g7, g9, g13, g17, g18, g20⟩
theorem k36_mk (w : World) (x : S36) {A5 : Option Addr} {c5 : Nat} (l5 : x.f5.length ≤ c5) (g5 : k64.C w A5 x.f5.length x.f5) {A6 : Option Addr} {c6 : Nat} (l6 : x.f6.length ≤ c6) (g6 : k70.C w A6 x.f6.length x.f6) {A7 : Option Addr} {c7 : Nat} (l7 : x.f7.length ≤ c7) (g7 : k61.C w A7 x.f7.length x.f7) {A9 : Option Addr} {c9 : Nat} (l9 : x.f9.length ≤ c9) (g9 : k186.C w A9 x.f9.length x.f9) {A13 : Option Addr} {c13 : Nat} (l13 : x.f10.f2.length ≤ c13) (g13 : k117.C w A13 x.f10.f2.length x.f10.f2) {A17 : Option Addr} {c17 : Nat} (l17 : x.f11.f0.length ≤ c17) (g17 : (Kd.int .i64).C w A17 x.f11.f0.length x.f11.f0) {A18 : Option Addr} {c18 : Nat} (l18 : x.f11.f1.length ≤ c18) (g18 : (Kd.slice 3 (Kd.int .i64)).C w A18 x.f11.f1.length x.f11.f1) {A20 : Option Addr} {c20 : Nat} (l20 : x.f13.length ≤ c20) (g20 : (Kd.int .i64).C w A20 x.f13.length x.f13) : k36.K w x [.int .i64 x.f0, .int .i64 x.f1, .int .i64 x.f2, .int .i64 x.f3, .int .i64 x.f4, .slice A5 x.f5.length c5, .slice A6 x.f6.length c6, .slice A7 x.f7.length c7, .int .i64 x.f8, .slice A9 x.f9.length c9, .int .i64 x.f10.f0.f0, .int .i64 x.f10.f0.f1, .int .i64 x.f10.f1, .slice A13 x.f10.f2.length c13, .int .i64 x.f10.f3.f0, .int .i64 x.f10.f3.f1, .int .i64 x.f10.f4, .slice A17 x.f11.f0.length c17, .slice A18 x.f11.f1.length c18, .int .i64 x.f12, .slice A20 x.f13.length c20, .int .i64 x.f14] := ⟨[.int .i64 x.f0], [.int .i64 x.f1, .int .i64 x.f2, .int .i64 x.f3, .int .i64 x.f4, .slice A5 x.f5.length c5, .slice A6 x.f6.length c6, .slice A7 x.f7.length c7, .int .i64 x.f8, .slice A9 x.f9.length c9, .int .i64 x.f10.f0.f0, .int .i64 x.f10.f0.f1, .int .i64 x.f10.f1, .slice A13 x.f10.f2.length c13, .int .i64 x.f10.f3.f0, .int .i64 x.f10.f3.f1, .int .i64 x.f10.f4, .slice A17 x.f11.f0.length c17, .slice A18 x.f11.f1.length c18, .int .i64 x.f12, .slice A20 x.f13.length c20, .int .i64 x.f14], rfl, rfl, ⟨[.int .i64 x.f1], [.int .i64 x.f2, .int .i64 x.f3, .int .i64 x.f4, .slice A5 x.f5.length c5, .slice A6 x.f6.length c6, .slice A7 x.f7.length c7, .int .i64 x.f8, .slice A9 x.f9.length c9, .int .i64 x.f10.f0.f0, .int .i64 x.f10.f0.f1, .int .i64 x.f10.f1, .slice A13 x.f10.f2.length c13, .int .i64 x.f10.f3.f0, .int .i64 x.f10.f3.f1, .int .i64 x.f10.f4, .slice A17 x.f11.f0.length c17, .slice A18 x.f11.f1.length c18, .int .i64 x.f12, .slice A20 x.f13.length c20, .int .i64 x.f14], rfl, rfl, ⟨[.int .i64 x.f2], [.int .i64 x.f3, .int .i64 x.f4, .slice A5 x.f5.length c5, .slice A6 x.f6.length c6, .slice A7 x.f7.length c7, .int .i64 x.f8, .slice A9 x.f9.length c9, .int .i64 x.f10.f0.f0, .int .i64 x.f10.f0.f1, .int .i64 x.f10.f1, .slice A13 x.f10.f2.length c13, .int .i64 x.f10.f3.f0, .int .i64 x.f10.f3.f1, .int .i64 x.f10.f4, .slice A17 x.f11.f0.length c17, .slice A18 x.f11.f1.length c18, .int .i64 x.f12, .slice A20 x.f13.length c20, .int .i64 x.f14], rfl, rfl, ⟨[.int .i64 x.f3], [.int .i64 x.f4, .slice A5 x.f5.length c5, .slice A6 x.f6.length c6, .slice A7 x.f7.length c7, .int .i64 x.f8, .slice A9 x.f9.length c9, .int .i64 x.f10.f0.f0, .int .i64 x.f10.f0.f1, .int .i64 x.f10.f1, .slice A13 x.f10.f2.length c13, .int .i64 x.f10.f3.f0, .int .i64 x.f10.f3.f1, .int .i64 x.f10.f4, .slice A17 x.f11.f0.length c17, .slice A18 x.f11.f1.length c18, .int .i64 x.f12, .slice A20 x.f13.length c20, .int .i64 x.f14], rfl, rfl, ⟨[.int .i64 x.f4], [.slice A5 x.f5.length c5, .slice A6 x.f6.length c6, .slice A7 x.f7.length c7, .int .i64 x.f8, .slice A9 x.f9.length c9, .int .i64 x.f10.f0.f0, .int .i64 x.f10.f0.f1, .int .i64 x.f10.f1, .slice A13 x.f10.f2.length c13, .int .i64 x.f10.f3.f0, .int .i64 x.f10.f3.f1, .int .i64 x.f10.f4, .slice A17 x.f11.f0.length c17, .slice A18 x.f11.f1.length c18, .int .i64 x.f12, .slice A20 x.f13.length c20, .int .i64 x.f14], rfl, rfl, ⟨[.slice A5 x.f5.length c5], [.slice A6 x.f6.length c6, .slice A7 x.f7.length c7, .int .i64 x.f8, .slice A9 x.f9.length c9, .int .i64 x.f10.f0.f0, .int .i64 x.f10.f0.f1, .int .i64 x.f10.f1, .slice A13 x.f10.f2.length c13, .int .i64 x.f10.f3.f0, .int .i64 x.f10.f3.f1, .int .i64 x.f10.f4, .slice A17 x.f11.f0.length c17, .slice A18 x.f11.f1.length c18, .int .i64 x.f12, .slice A20 x.f13.length c20, .int .i64 x.f14], rfl, ⟨A5, c5, rfl, l5, g5⟩, ⟨[.slice A6 x.f6.length c6], [.slice A7 x.f7.length c7, .int .i64 x.f8, .slice A9 x.f9.length c9, .int .i64 x.f10.f0.f0, .int .i64 x.f10.f0.f1, .int .i64 x.f10.f1, .slice A13 x.f10.f2.length c13, .int .i64 x.f10.f3.f0, .int .i64 x.f10.f3.f1, .int .i64 x.f10.f4, .slice A17 x.f11.f0.length c17, .slice A18 x.f11.f1.length c18, .int .i64 x.f12, .slice A20 x.f13.length c20, .int .i64 x.f14], rfl, ⟨A6, c6, rfl, l6, g6⟩, ⟨[.slice A7 x.f7.length c7], [.int .i64 x.f8, .slice A9 x.f9.length c9, .int .i64 x.f10.f0.f0, .int .i64 x.f10.f0.f1, .int .i64 x.f10.f1, .slice A13 x.f10.f2.length c13, .int .i64 x.f10.f3.f0, .int .i64 x.f10.f3.f1, .int .i64 x.f10.f4, .slice A17 x.f11.f0.length c17, .slice A18 x.f11.f1.length c18, .int .i64 x.f12, .slice A20 x.f13.length c20, .int .i64 x.f14], rfl, ⟨A7, c7, rfl, l7, g7⟩, ⟨[.int .i64 x.f8], [.slice A9 x.f9.length c9, .int .i64 x.f10.f0.f0, .int .i64 x.f10.f0.f1, .int .i64 x.f10.f1, .slice A13 x.f10.f2.length c13, .int .i64 x.f10.f3.f0, .int .i64 x.f10.f3.f1, .int .i64 x.f10.f4, .slice A17 x.f11.f0.length c17, .slice A18 x.f11.f1.length c18, .int .i64 x.f12, .slice A20 x.f13.length c20, .int .i64 x.f14], rfl, rfl, ⟨[.slice A9 x.f9.length c9], [.int .i64 x.f10.f0.f0, .int .i64 x.f10.f0.f1, .int .i64 x.f10.f1, .slice A13 x.f10.f2.length c13, .int .i64 x.f10.f3.f0, .int .i64 x.f10.f3.f1, .int .i64 x.f10.f4, .slice A17 x.f11.f0.length c17, .slice A18 x.f11.f1.length c18, .int .i64 x.f12, .slice A20 x.f13.length c20, .int .i64 x.f14], rfl, ⟨A9, c9, rfl, l9, g9⟩, ⟨[.int .i64 x.f10.f0.f0, .int .i64 x.f10.f0.f1, .int .i64 x.f10.f1, .slice A13 x.f10.f2.length c13, .int .i64 x.f10.f3.f0, .int .i64 x.f10.f3.f1, .int .i64 x.f10.f4], [.slice A17 x.f11.f0.length c17, .slice A18 x.f11.f1.length c18, .int .i64 x.f12, .slice A20 x.f13.length c20, .int .i64 x.f14], rfl, (k30_mk w x.f10 l13 g13), ⟨[.slice A17 x.f11.f0.length c17, .slice A18 x.f11.f1.length c18], [.int .i64 x.f12, .slice A20 x.f13.length c20, .int .i64 x.f14], rfl, (k34_mk w x.f11 l17 g17 l18 g18), ⟨[.int .i64 x.f12], [.slice A20 x.f13.length c20, .int .i64 x.f14], rfl, rfl, ⟨[.slice A20 x.f13.length c20], [.int .i64 x.f14], rfl, ⟨A20, c20, rfl, l20, g20⟩, rfl⟩⟩⟩⟩⟩⟩⟩⟩⟩⟩⟩⟩⟩⟩
theorem k36_mkM (w : World) (base : Nat) (ok : Nat → Prop) (x : S36) {v5 : Value} (g5 : k64.R 64 w base ok v5 x.f5) {v6 : Value} (g6 : k70.R 70 w base ok v6 x.f6) {v7 : Value} (g7 : k61.R 61 w base ok v7 x.f7) {v9 : Value} (g9 : k186.R 186 w base ok v9 x.f9) {v13 : Value} (g13 : k117.R 117 w base ok v13 x.f10.f2) {v17 : Value} (g17 : (Kd.int .i64).R 3 w base ok v17 x.f11.f0) {v18 : Value} (g18 : (Kd.slice 3 (Kd.int .i64)).R 31 w base ok v18 x.f11.f1) {v20 : Value} (g20 : (Kd.int .i64).R 3 w base ok v20 x.f13) : k36.M w base ok x [.int .i64 x.f0, .int .i64 x.f1, .int .i64 x.f2, .int .i64 x.f3, .int .i64 x.f4, v5, v6, v7, .int .i64 x.f8, v9, .int .i64 x.f10.f0.f0, .int .i64 x.f10.f0.f1, .int .i64 x.f10.f1, v13, .int .i64 x.f10.f3.f0, .int .i64 x.f10.f3.f1, .int .i64 x.f10.f4, v17, v18, .int .i64 x.f12, v20, .int .i64 x.f14] := ⟨[.int .i64 x.f0], [.int .i64 x.f1, .int .i64 x.f2, .int .i64 x.f3, .int .i64 x.f4, v5, v6, v7, .int .i64 x.f8, v9, .int .i64 x.f10.f0.f0, .int .i64 x.f10.f0.f1, .int .i64 x.f10.f1, v13, .int .i64 x.f10.f3.f0, .int .i64 x.f10.f3.f1, .int .i64 x.f10.f4, v17, v18, .int .i64 x.f12, v20, .int .i64 x.f14], rfl, rfl, ⟨[.int .i64 x.f1], [.int .i64 x.f2, .int .i64 x.f3, .int .i64 x.f4, v5, v6, v7, .int .i64 x.f8, v9, .int .i64 x.f10.f0.f0, .int .i64 x.f10.f0.f1, .int .i64 x.f10.f1, v13, .int .i64 x.f10.f3.f0, .int .i64 x.f10.f3.f1, .int .i64 x.f10.f4, v17, v18, .int .i64 x.f12, v20, .int .i64 x.f14], rfl, rfl, ⟨[.int .i64 x.f2], [.int .i64 x.f3, .int .i64 x.f4, v5, v6, v7, .int .i64 x.f8, v9, .int .i64 x.f10.f0.f0, .int .i64 x.f10.f0.f1, .int .i64 x.f10.f1, v13, .int .i64 x.f10.f3.f0, .int .i64 x.f10.f3.f1, .int .i64 x.f10.f4, v17, v18, .int .i64 x.f12, v20, .int .i64 x.f14], rfl, rfl, ⟨[.int .i64 x.f3], [.int .i64 x.f4, v5, v6, v7, .int .i64 x.f8, v9, .int .i64 x.f10.f0.f0, .int .i64 x.f10.f0.f1, .int .i64 x.f10.f1, v13, .int .i64 x.f10.f3.f0, .int .i64 x.f10.f3.f1, .int .i64 x.f10.f4, v17, v18, .int .i64 x.f12, v20, .int .i64 x.f14], rfl, rfl, ⟨[.int .i64 x.f4], [v5, v6, v7, .int .i64 x.f8, v9, .int .i64 x.f10.f0.f0, .int .i64 x.f10.f0.f1, .int .i64 x.f10.f1, v13, .int .i64 x.f10.f3.f0, .int .i64 x.f10.f3.f1, .int .i64 x.f10.f4, v17, v18, .int .i64 x.f12, v20, .int .i64 x.f14], rfl, rfl, ⟨[v5], [v6, v7, .int .i64 x.f8, v9, .int .i64 x.f10.f0.f0, .int .i64 x.f10.f0.f1, .int .i64 x.f10.f1, v13, .int .i64 x.f10.f3.f0, .int .i64 x.f10.f3.f1, .int .i64 x.f10.f4, v17, v18, .int .i64 x.f12, v20, .int .i64 x.f14], rfl, ⟨v5, rfl, g5⟩, ⟨[v6], [v7, .int .i64 x.f8, v9, .int .i64 x.f10.f0.f0, .int .i64 x.f10.f0.f1, .int .i64 x.f10.f1, v13, .int .i64 x.f10.f3.f0, .int .i64 x.f10.f3.f1, .int .i64 x.f10.f4, v17, v18, .int .i64 x.f12, v20, .int .i64 x.f14], rfl, ⟨v6, rfl, g6⟩, ⟨[v7], [.int .i64 x.f8, v9, .int .i64 x.f10.f0.f0, .int .i64 x.f10.f0.f1, .int .i64 x.f10.f1, v13, .int .i64 x.f10.f3.f0, .int .i64 x.f10.f3.f1, .int .i64 x.f10.f4, v17, v18, .int .i64 x.f12, v20, .int .i64 x.f14], rfl, ⟨v7, rfl, g7⟩, ⟨[.int .i64 x.f8], [v9, .int .i64 x.f10.f0.f0, .int .i64 x.f10.f0.f1, .int .i64 x.f10.f1, v13, .int .i64 x.f10.f3.f0, .int .i64 x.f10.f3.f1, .int .i64 x.f10.f4, v17, v18, .int .i64 x.f12, v20, .int .i64 x.f14], rfl, rfl, ⟨[v9], [.int .i64 x.f10.f0.f0, .int .i64 x.f10.f0.f1, .int .i64 x.f10.f1, v13, .int .i64 x.f10.f3.f0, .int .i64 x.f10.f3.f1, .int .i64 x.f10.f4, v17, v18, .int .i64 x.f12, v20, .int .i64 x.f14], rfl, ⟨v9, rfl, g9⟩, ⟨[.int .i64 x.f10.f0.f0, .int .i64 x.f10.f0.f1, .int .i64 x.f10.f1, v13, .int .i64 x.f10.f3.f0, .int .i64 x.f10.f3.f1, .int .i64 x.f10.f4], [v17, v18, .int .i64 x.f12, v20, .int .i64 x.f14], rfl, (k30_mkM w base ok x.f10 g13), ⟨[v17, v18], [.int .i64 x.f12, v20, .int .i64 x.f14], rfl, (k34_mkM w base ok x.f11 g17 g18), ⟨[.int .i64 x.f12], [v20, .int .i64 x.f14], rfl, rfl, ⟨[v20], [.int .i64 x.f14], rfl, ⟨v20, rfl, g20⟩, rfl⟩⟩⟩⟩⟩⟩⟩⟩⟩⟩⟩⟩⟩⟩
def rd_T36 (xs : List S36) (i : Int) : S36 := xs.getD i.toNat z36
theorem at_T36 {w : World} {A : Option Addr} {n : Nat} {xs : List S36} (h : Kd.C k36 w A n xs) (i : Int) (h0 : 0 ≤ i) (h1 : i < n) : ∃ ad A5 c5 A6 c6 A7 c7 A9 c9 A13 c13 A17 c17 A18 c18 A20 c20, A = some ad ∧ w.cell? (ad.add (i.toNat * 22)) = some (.int .i64 (rd_T36 xs i).f0) ∧ w.cell? ⟨(ad.add (i.toNat * 22)).block, (ad.add (i.toNat * 22)).off + 1, none⟩ = some (.int .i64 (rd_T36 xs i).f1) ∧ w.cell? ⟨(ad.add (i.toNat * 22)).block, (ad.add (i.toNat * 22)).off + 2, none⟩ = some (.int .i64 (rd_T36 xs i).f2) ∧ w.cell? ⟨(ad.add (i.toNat * 22)).block, (ad.add (i.toNat * 22)).off + 3, none⟩ = some (.int .i64 (rd_T36 xs i).f3) ∧ w.cell? ⟨(ad.add (i.toNat * 22)).block, (ad.add (i.toNat * 22)).off + 4, none⟩ = some (.int .i64 (rd_T36 xs i).f4) ∧ w.cell? ⟨(ad.add (i.toNat * 22)).block, (ad.add (i.toNat * 22)).off + 5, none⟩ = some (.slice A5 (rd_T36 xs i).f5.length c5) ∧ w.cell? ⟨(ad.add (i.toNat * 22)).block, (ad.add (i.toNat * 22)).off + 6, none⟩ = some (.slice A6 (rd_T36 xs i).f6.length c6) ∧ w.cell? ⟨(ad.add (i.toNat * 22)).block, (ad.add (i.toNat * 22)).off + 7, none⟩ = some (.slice A7 (rd_T36 xs i).f7.length c7) ∧ w.cell? ⟨(ad.add (i.toNat * 22)).block, (ad.add (i.toNat * 22)).off + 8, none⟩ = some (.int .i64 (rd_T36 xs i).f8) ∧ w.cell? ⟨(ad.add (i.toNat * 22)).block, (ad.add (i.toNat * 22)).off + 9, none⟩ = some (.slice A9 (rd_T36 xs i).f9.length c9) ∧ w.cell? ⟨(ad.add (i.toNat * 22)).block, (ad.add (i.toNat * 22)).off + 10, none⟩ = some (.int .i64 (rd_T36 xs i).f10.f0.f0) ∧ w.cell? ⟨(ad.add (i.toNat * 22)).block, (ad.add (i.toNat * 22)).off + 11, none⟩ = some (.int .i64 (rd_T36 xs i).f10.f0.f1) ∧ w.cell? ⟨(ad.add (i.toNat * 22)).block, (ad.add (i.toNat * 22)).off + 12, none⟩ = some (.int .i64 (rd_T36 xs i).f10.f1) ∧ w.cell? ⟨(ad.add (i.toNat * 22)).block, (ad.add (i.toNat * 22)).off + 13, none⟩ = some (.slice A13 (rd_T36 xs i).f10.f2.length c13) ∧ w.cell? ⟨(ad.add (i.toNat * 22)).block, (ad.add (i.toNat * 22)).off + 14, none⟩ = some (.int .i64 (rd_T36 xs i).f10.f3.f0) ∧ w.cell? ⟨(ad.add (i.toNat * 22)).block, (ad.add (i.toNat * 22)).off + 15, none⟩ = some (.int .i64 (rd_T36 xs i).f10.f3.f1) ∧ w.cell? ⟨(ad.add (i.toNat * 22)).block, (ad.add (i.toNat * 22)).off + 16, none⟩ = some (.int .i64 (rd_T36 xs i).f10.f4) ∧ w.cell? ⟨(ad.add (i.toNat * 22)).block, (ad.add (i.toNat * 22)).off + 17, none⟩ = some (.slice A17 (rd_T36 xs i).f11.f0.length c17) ∧ w.cell? ⟨(ad.add (i.toNat * 22)).block, (ad.add (i.toNat * 22)).off + 18, none⟩ = some (.slice A18 (rd_T36 xs i).f11.f1.length c18) ∧ w.cell? ⟨(ad.add (i.toNat * 22)).block, (ad.add (i.toNat * 22)).off + 19, none⟩ = some (.int .i64 (rd_T36 xs i).f12) ∧ w.cell? ⟨(ad.add (i.toNat * 22)).block, (ad.add (i.toNat * 22)).off + 20, none⟩ = some (.slice A20 (rd_T36 xs i).f13.length c20) ∧ w.cell? ⟨(ad.add (i.toNat * 22)).block, (ad.add (i.toNat * 22)).off + 21, none⟩ = some (.int .i64 (rd_T36 xs i).f14) ∧ (rd_T36 xs i).f5.length ≤ c5 ∧ k64.C w A5 (rd_T36 xs i).f5.length (rd_T36 xs i).f5 ∧ (rd_T36 xs i).f6.length ≤ c6 ∧ k70.C w A6 (rd_T36 xs i).f6.length (rd_T36 xs i).f6 ∧ (rd_T36 xs i).f7.length ≤ c7 ∧ k61.C w A7 (rd_T36 xs i).f7.length (rd_T36 xs i).f7 ∧ (rd_T36 xs i).f9.length ≤ c9 ∧ k186.C w A9 (rd_T36 xs i).f9.length (rd_T36 xs i).f9 ∧ (rd_T36 xs i).f10.f2.length ≤ c13 ∧ k117.C w A13 (rd_T36 xs i).f10.f2.length (rd_T36 xs i).f10.f2 ∧ (rd_T36 xs i).f11.f0.length ≤ c17 ∧ (Kd.int .i64).C w A17 (rd_T36 xs i).f11.f0.length (rd_T36 xs i).f11.f0 ∧ (rd_T36 xs i).f11.f1.length ≤ c18 ∧ (Kd.slice 3 (Kd.int .i64)).C w A18 (rd_T36 xs i).f11.f1.length (rd_T36 xs i).f11.f1 ∧ (rd_T36 xs i).f13.length ≤ c20 ∧ (Kd.int .i64).C w A20 (rd_T36 xs i).f13.length (rd_T36 xs i).f13 := by
  obtain ⟨ad, c, e, _, hK, hc0⟩ := Kd.C_get h z36 i h0 h1
  have hc : ∀ j u, c[j]? = some u → w.cell? (ad.add (i.toNat * 22 + j)) = some u := hc0
  obtain ⟨A5, c5, A6, c6, A7, c7, A9, c9, A13, c13, A17, c17, A18, c18, A20, c20, rfl, l5, g5, l6, g6, l7, g7, l9, g9, l13, g13, l17, g17, l18, g18, l20, g20⟩ := k36_open hK
  exact ⟨ad, A5, c5, A6, c6, A7, c7, A9, c9, A13, c13, A17, c17, A18, c18, A20, c20, e, hc 0 _ rfl, by rw [← add_field _ _ 1 (by omega)]; exact hc 1 _ rfl, by rw [← add_field _ _ 2 (by omega)]; exact hc 2 _ rfl, by rw [← add_field _ _ 3 (by omega)]; exact hc 3 _ rfl, by rw [← add_field _ _ 4 (by omega)]; exact hc 4 _ rfl, by rw [← add_field _ _ 5 (by omega)]; exact hc 5 _ rfl, by rw [← add_field _ _ 6 (by omega)]; exact hc 6 _ rfl, by rw [← add_field _ _ 7 (by omega)]; exact hc 7 _ rfl, by rw [← add_field _ _ 8 (by omega)]; exact hc 8 _ rfl, by rw [← add_field _ _ 9 (by omega)]; exact hc 9 _ rfl, by rw [← add_field _ _ 10 (by omega)]; exact hc 10 _ rfl, by rw [← add_field _ _ 11 (by omega)]; exact hc 11 _ rfl, by rw [← add_field _ _ 12 (by omega)]; exact hc 12 _ rfl, by rw [← add_field _ _ 13 (by omega)]; exact hc 13 _ rfl, by rw [← add_field _ _ 14 (by omega)]; exact hc 14 _ rfl, by rw [← add_field _ _ 15 (by omega)]; exact hc 15 _ rfl, by rw [← add_field _ _ 16 (by omega)]; exact hc 16 _ rfl, by rw [← add_field _ _ 17 (by omega)]; exact hc 17 _ rfl, by rw [← add_field _ _ 18 (by omega)]; exact hc 18 _ rfl, by rw [← add_field _ _ 19 (by omega)]; exact hc 19 _ rfl, by rw [← add_field _ _ 20 (by omega)]; exact hc 20 _ rfl, by rw [← add_field _ _ 21 (by omega)]; exact hc 21 _ rfl, l5, g5, l6, g6, l7, g7, l9, g9, l13, g13, l17, g17, l18, g18, l20, g20⟩

def ml_ (n b : Nat) : Array Bool := ((List.range n).map fun i => b.testBit i).toArray
theorem q1466_ {p p0_ : Prop} (x0_ : p0_) (f_ : p0_ → p := by intro x0_; (with_reducible repeat (first | refine blk_drewN ?_ _ | refine blk_drew ?_ | refine blk_alloc ?_ _)); exact x0_) : p := f_ x0_
theorem q8524_ {p p0_ : Prop} (x0_ : p0_) (f_ : p0_ → p := by intro x0_; (with_reducible repeat (first | apply Kd.R_alloc | apply Kd.R_drewN | apply Kd.R_drew)); exact x0_) : p := f_ x0_
theorem q8f57_ {p p0_ p1_ p2_ : Prop} (x0_ : p0_) (x1_ : p1_) (x2_ : p2_) (f_ : p0_ → p1_ → p2_ → p := by intro x0_ x1_ x2_; repeat (first | (with_reducible first | exact x0_ | apply below_alloc | apply pw_below_drewN | apply below_drew1 | refine below_set ?_ x1_ | refine below_set ?_ x2_) | exact x0_)) : p := f_ x0_ x1_ x2_
theorem qed14_ {p p0_ p1_ : Prop} (x0_ : p0_) (x1_ : p1_) (f_ : p0_ → p1_ → p := by intro x0_ x1_; repeat (first | (with_reducible first | exact x0_ | apply below_alloc | apply pw_below_drewN | apply below_drew1 | refine below_set ?_ x1_) | exact x0_)) : p := f_ x0_ x1_
theorem qdb35_ {p p0_ : Prop} (x0_ : p0_) (f_ : p0_ → p := by intro x0_; repeat (first | (with_reducible first | exact x0_ | apply below_alloc | apply pw_below_drewN | apply below_drew1) | exact x0_)) : p := f_ x0_
theorem q1dc4_ {p p0_ p1_ p2_ p3_ : Prop} (x0_ : p0_) (x1_ : p1_) (x2_ : p2_) (x3_ : p3_) (f_ : p0_ → p1_ → p2_ → p3_ → p := by intro x0_ x1_ x2_ x3_; repeat (first | (with_reducible first | exact x0_ | apply below_alloc | apply pw_below_drewN | apply below_drew1 | refine below_set ?_ x1_ | refine below_set ?_ x2_ | refine below_set ?_ x3_) | exact x0_)) : p := f_ x0_ x1_ x2_ x3_
theorem qd7fe_ {p p0_ p1_ : Prop} (x0_ : p0_) (x1_ : p1_) (f_ : p0_ → p1_ → p := by intro x0_ x1_; first | exact Kd.own_blk (Kd.R_ne x0_ x1_ (by decide)) | (rw [add_block]; exact Kd.own_blk (Kd.R_ne x0_ x1_ (by decide))) | (show (Addr.add _ _).block ≠ _; rw [add_block]; exact Kd.own_blk (Kd.R_ne x0_ x1_ (by decide))) | (dsimp only; exact Kd.own_blk (Kd.R_ne x0_ x1_ (by decide)))) : p := f_ x0_ x1_
theorem qf630_ {p p0_ : Prop} (x0_ : p0_) (f_ : p0_ → p := by intro x0_; (with_reducible repeat (first | apply Kd.S_alloc | apply Kd.S_drewN | apply Kd.S_drew)); exact x0_) : p := f_ x0_
theorem q9d25_ {p p0_ : Prop} (x0_ : p0_) (f_ : p0_ → p := by intro x0_; have h_ : (0 : Int) < ((y158.length : Int) : Int) := of_decide_eq_true (by first | (with_reducible assumption) | assumption); first | exact h_ | (have e_ := (Kd.R_reads' x0_).1; omega) | simpa using h_) : p := f_ x0_
section
variable {P : Program} {ops : Array Oper} {Q : Exit → Act → World → Prop} {md : Region.Mode} {S : World → Prop} {ds : List Nat}
theorem qC_ {p q : Prop} (h : q) (f : q → p := by intro h_; repeat (first | exact h_ | (with_reducible refine Kd.C_alloc ?_ _) | (with_reducible refine Kd.C_drewN ?_ _) | (with_reducible refine Kd.C_drew ?_))) : p := f h
theorem qM_ {p : Prop} (f : p := by (try simp only [List.map_toArray, List.map_cons, List.map_nil]); first | done | rfl | (simp only [List.length_drop, List.length_take]; rfl)) : p := f
theorem nA_ (N : Nat) {v : Value} {fuel : Nat} {l : Array Bool} {a a' : Act} {w : World} (h : wpAnyLast P md ops Q S ds fuel l a' w) (ha : a.put (some N) v = a' := by (simp only [Act.put, List.setIfInBounds_toArray, List.set_cons_zero, List.set_cons_succ, i64_w, i32_w]); rfl) : wpAnyLast P md ops Q S ds fuel l (a.put (some N) v) w := norm_ ha h
theorem pA_ (i N : Nat) {oi : Oper} {v : Value} {fuel : Nat} {l : Array Bool} {a : Act} {w : World} (l' : Array Bool) (hi : ops[i]? = some oi) (hN : oi.dst = some N) {T : Bool × List (List Nat × List Nat)} (hT : rtab md ops = T) {a' : Act} (h : wpAnyLast P md ops Q S ds fuel l' a' w)
    (hw : Region.wanted oi (yielded ops a.tmps) = true := by rfl) (hy : ∀ w', (execOp a.eval oi).run P w' = .ok (.value v) w' := by intro w'; go_simp; with_reducible rfl)
    (ha : a.put (some N) v = a' := by (simp only [Act.put, List.setIfInBounds_toArray, List.set_cons_zero, List.set_cons_succ, i64_w, i32_w]); rfl)
    (hc : anyT T l.toList l'.toList i = true := by kernel_rfl) (hQ : ∀ c a w, Q (.panic c) (a.put oi.dst v) w → Q (.panic c) a w := by exact fun _ _ _ h => h) : wpAnyLast P md ops Q S ds (fuel + 1) l a w :=
  pure_ l' hi hN (any_of hT hc) hQ (Or.inl ⟨hw, hy⟩) ha h
theorem pU_ (i N : Nat) {oi : Oper} {fuel : Nat} {l : Array Bool} {a : Act} {w : World} (l' : Array Bool) (hi : ops[i]? = some oi) (hN : oi.dst = some N) {T : Bool × List (List Nat × List Nat)} (hT : rtab md ops = T) {a' : Act} (h : wpAnyLast P md ops Q S ds fuel l' a' w)
    (hw : Region.wanted oi (yielded ops a.tmps) = false := by rfl)
    (ha : a.put (some N) undef = a' := by (simp only [Act.put, List.setIfInBounds_toArray, List.set_cons_zero, List.set_cons_succ, i64_w, i32_w]); rfl)
    (hc : anyT T l.toList l'.toList i = true := by kernel_rfl) (hQ : ∀ c a w, Q (.panic c) (a.put oi.dst undef) w → Q (.panic c) a w := by exact fun _ _ _ h => h) : wpAnyLast P md ops Q S ds (fuel + 1) l a w :=
  pure_ (v := undef) l' hi hN (any_of hT hc) hQ (Or.inr ⟨hw, rfl⟩) ha h
theorem t2_ (i N : Nat) {oi : Oper} {v : Value} {fuel : Nat} {l : Array Bool} {a : Act} {w : World} (l' : Array Bool) (hi : ops[i]? = some oi) (hN : oi.dst = some N) {T : Bool × List (List Nat × List Nat)} (hT : rtab md ops = T) {B : List Nat} (hB : waitsOk T.2 B = true) (hS : S w) {a' : Act} (h : wpAnyLast P md ops Q S ds fuel l' a' w)
    (hw : Region.wanted oi (yielded ops a.tmps) = true := by rfl) (hy : ∀ w', S w' → (execOp a.eval oi).run P w' = .ok (.value v) w' := by rintro w' ⟨s0, s1⟩; go_simp; with_reducible rfl)
    (ha : a.put (some N) v = a' := by (simp only [Act.put, List.setIfInBounds_toArray, List.set_cons_zero, List.set_cons_succ, i64_w, i32_w]); rfl)
    (hc : takeW T B ds l.toList l'.toList i = true := by kernel_rfl) (hQ : ∀ c a w, Q (.panic c) (a.put oi.dst v) w → Q (.panic c) a w := by exact fun _ _ _ h => h) : wpAnyLast P md ops Q S ds (fuel + 1) l a w :=
  take_ l' hi hN (take_ofW hT hB hc) hQ (Or.inl ⟨hw, hy⟩) hS ha h
theorem t5_ (i N : Nat) {oi : Oper} {v : Value} {fuel : Nat} {l : Array Bool} {a : Act} {w : World} (l' : Array Bool) (hi : ops[i]? = some oi) (hN : oi.dst = some N) {T : Bool × List (List Nat × List Nat)} (hT : rtab md ops = T) {B : List Nat} (hB : waitsOk T.2 B = true) (hS : S w) {a' : Act} (h : wpAnyLast P md ops Q S ds fuel l' a' w)
    (hw : Region.wanted oi (yielded ops a.tmps) = true := by rfl) (hy : ∀ w', S w' → (execOp a.eval oi).run P w' = .ok (.value v) w' := by rintro w' ⟨s0, s1, s2, s3, s4⟩; go_simp; with_reducible rfl)
    (ha : a.put (some N) v = a' := by (simp only [Act.put, List.setIfInBounds_toArray, List.set_cons_zero, List.set_cons_succ, i64_w, i32_w]); rfl)
    (hc : takeW T B ds l.toList l'.toList i = true := by kernel_rfl) (hQ : ∀ c a w, Q (.panic c) (a.put oi.dst v) w → Q (.panic c) a w := by exact fun _ _ _ h => h) : wpAnyLast P md ops Q S ds (fuel + 1) l a w :=
  take_ l' hi hN (take_ofW hT hB hc) hQ (Or.inl ⟨hw, hy⟩) hS ha h
theorem t22_ (i N : Nat) {oi : Oper} {v : Value} {fuel : Nat} {l : Array Bool} {a : Act} {w : World} (l' : Array Bool) (hi : ops[i]? = some oi) (hN : oi.dst = some N) {T : Bool × List (List Nat × List Nat)} (hT : rtab md ops = T) {B : List Nat} (hB : waitsOk T.2 B = true) (hS : S w) {a' : Act} (h : wpAnyLast P md ops Q S ds fuel l' a' w)
    (hw : Region.wanted oi (yielded ops a.tmps) = true := by rfl) (hy : ∀ w', S w' → (execOp a.eval oi).run P w' = .ok (.value v) w' := by rintro w' ⟨s0, s1, s2, s3, s4, s5, s6, s7, s8, s9, s10, s11, s12, s13, s14, s15, s16, s17, s18, s19, s20, s21⟩; go_simp; with_reducible rfl)
    (ha : a.put (some N) v = a' := by (simp only [Act.put, List.setIfInBounds_toArray, List.set_cons_zero, List.set_cons_succ, i64_w, i32_w]); rfl)
    (hc : takeW T B ds l.toList l'.toList i = true := by kernel_rfl) (hQ : ∀ c a w, Q (.panic c) (a.put oi.dst v) w → Q (.panic c) a w := by exact fun _ _ _ h => h) : wpAnyLast P md ops Q S ds (fuel + 1) l a w :=
  take_ l' hi hN (take_ofW hT hB hc) hQ (Or.inl ⟨hw, hy⟩) hS ha h
end

end Go.Proofs.YtijploopgmbhfaaDoor.G
