/- Texts of mine, packed in the order in which they build: CavA, CavCut, Shelf, PK, Wd, La7, G0, PSp, SaS, GSaid, GNorm, CavB, CavC, CavS, Sq, GMay. Conditions: where a theorem asks for any, it names them. -/
import Derived.Test.YtnlakdpfkgjdaaaDoorRows
import Derived.Test.YtnlakdpfkgjdaaaDoorProg
import Derived.WalkKit
import Derived.WalkSpells
import Derived.WalkLawsBesides
import Derived.WalkSmall
import Derived.OwnWalkIn
import Derived.TacticsInMore
import Derived.Laws.AppendOwnNone
import Derived.Maps.AppendAt
import Derived.Deep.RegionLaw
import Derived.Lib.BufferRead
import Derived.KernelRfl
import Derived.Lib.Hide
import Derived.Lib.SplitLaws
import Derived.Shelf.Strings.OnBuilder
import Derived.Shelf.Small.Bits
import Derived.Shelf.Small.Wraps
import Derived.Shelf.LaysM
import Derived.Shelf.Strconv.Itoa3
import Derived.Shelf.LaysC
import Derived.Shelf.Strconv.AtoiAll
import Derived.Shelf.Strings.Search3
import Derived.Shelf.Strings.Cut
import Derived.Shelf.SlSortCmp.WholeK
import Derived.Shelf.Lays
import Derived.Shelf.SlLaysF0
import Derived.Test.YtnlakdpfkgjdaaaDoorWWords
import Derived.Test.YtnlakdpfkgjdaaaDoorWLast
import Derived.Test.YtnlakdpfkgjdaaaDoorWQPut
import Derived.Test.YtnlakdpfkgjdaaaDoorWApart
import Derived.Test.YtnlakdpfkgjdaaaDoorWArr
import Derived.Test.YtnlakdpfkgjdaaaDoorWZeros
import Derived.Test.YtnlakdpfkgjdaaaDoorWFoot
import Derived.Test.YtnlakdpfkgjdaaaDoorWKept
import Derived.Test.YtnlakdpfkgjdaaaDoorWShare
import Derived.Test.YtnlakdpfkgjdaaaDoorWN
import Derived.Test.YtnlakdpfkgjdaaaDoorWNEv
import Derived.Test.YtnlakdpfkgjdaaaDoorWMore
import Derived.IntWalk
import Derived.Lib.AppendIntMem
import Derived.Lib.ItoaLen
import Derived.Stop.LaidErr
import Derived.Lib.LaidTab
import Derived.LaidLaws
import Derived.Deep.DeepLaidRun
import Derived.ChangeSame
import Derived.ChangeVars
import Derived.JoinedOf
import Derived.RowKit
import Derived.RowKit3
import Derived.RowKitTokens
import Derived.HandedShaped
import Derived.Handed
import Derived.Shelf.Vars
import Derived.SevenTiedAt
import Derived.Below
import Derived.Deep.Draws
import Derived.Deep.AppendLies
import Derived.OwnWalk
import Derived.Laws.BytesArg
import Derived.Laws.MakeOwn
import Derived.Laws.OwnMore
import Derived.Deep.OwnRows
import Derived.Tactics
import Derived.Lib.ConvBytes
import Derived.Laws.Slices
import Derived.Deep.LoopGhost
import Derived.Deep.QuietTactic
import Derived.BigQuiet
import Derived.WideLaws
import Derived.Deep.DeepCutAuto
import Derived.Deep.CutBlock
import Derived.Deep.RegionHeld3
import Derived.Laws.Rows
import Derived.Lib.AppendStr
import Derived.ArgAppend
import Derived.Laws.IdiomCopy
import Derived.OrdersHeld
import Derived.Laws.BitsLemmas
import Derived.Test.YtnlakdpfkgjdaaaDoorWTab
import Derived.Test.YtnlakdpfkgjdaaaDoorWFour
import Derived.Test.YtnlakdpfkgjdaaaDoorWFootNe
import Derived.Test.YtnlakdpfkgjdaaaDoorWAt
import Derived.Test.YtnlakdpfkgjdaaaDoorWEqStruct
import Derived.Test.YtnlakdpfkgjdaaaDoorWRepsOne
import Derived.Test.YtnlakdpfkgjdaaaDoorWInv
import Derived.Test.YtnlakdpfkgjdaaaDoorWInvWords
import Derived.Test.YtnlakdpfkgjdaaaDoorWGuard
import Derived.RangeFuncNested
import Derived.RangeFuncBound
import Derived.RangeFuncCalls
import Derived.RangeFuncLeaves
import Derived.RangeFuncBox
import Derived.Shelf.Abstract
import Derived.Shelf.RegionOpen
import Derived.LoopNIn
import Derived.LoopIn
import Derived.Deep.RegionWith
import Derived.BigRegionIn
import Derived.RegionIn
import Derived.Sort.BigQuietIn
import Derived.Lib.IndexBytes
import Derived.Lib.IndexLaws
import Derived.Laws.Tables
import Derived.StillTail
import Derived.StillTactics
import Derived.OrdersIn
import Derived.TacticsIn
import Derived.Stop.RegionWithIn
import Derived.Sort.CutIn
import Derived.ProofKit
import Derived.OpenShut
import Derived.ShutString
import Derived.ChangeOld
import Derived.SizedLaws
import Derived.Test.YtnlakdpfkgjdaaaDoorWSized
/- Words and laws of no program: what a slice reads as, what a step leaves alone, and append onto a row of one's own from whatever reads as a list. No conditions. -/
namespace Go.Cav
open Go Go.RowKit

/-- Of the old blocks those of S alone may have turned. -/
structure Stir (S : Nat → Prop) (w w' : World) : Prop where
  os : w'.os = w.os
  tape : w'.tape = w.tape
  output : w'.output = w.output
  size : w.heap.size ≤ w'.heap.size
  block : ∀ k, k < w.heap.size → ¬ S k → w'.heap[k]? = w.heap[k]?

theorem Stir.refl (S : Nat → Prop) (w : World) : Stir S w w := ⟨rfl, rfl, rfl, Nat.le_refl _, fun _ _ _ => rfl⟩
theorem Stir.trans {S S' : Nat → Prop} {a b c : World} (h : Stir S a b) (k : Stir S' b c) (hs : ∀ i, i < a.heap.size → S' i → S i) : Stir S a c :=
  ⟨k.os.trans h.os, k.tape.trans h.tape, k.output.trans h.output, Nat.le_trans h.size k.size,
   fun i hi hn => (k.block i (Nat.lt_of_lt_of_le hi h.size) (fun e => hn (hs i hi e))).trans (h.block i hi hn)⟩
theorem Stir.mono {S S' : Nat → Prop} {a b : World} (h : Stir S a b) (hs : ∀ i, i < a.heap.size → S i → S' i) : Stir S' a b :=
  ⟨h.os, h.tape, h.output, h.size, fun i hi hn => h.block i hi (fun e => hn (hs i hi e))⟩
theorem Stir.drew {S : Nat → Prop} {a b : World} (h : Stir S a b) : Stir S a b.drew := ⟨h.os, h.tape, h.output, h.size, h.block⟩
theorem Stir.drewN {S : Nat → Prop} {a b : World} (h : Stir S a b) (n : Nat) : Stir S a (b.drewN n) := by
  induction n with
  | zero => exact h
  | succ n ih => exact ⟨ih.os, ih.tape, ih.output, ih.size, ih.block⟩
theorem Stir.alloc {S : Nat → Prop} {a b : World} (h : Stir S a b) (o : Obj) : Stir S a (b.alloc o) :=
  ⟨h.os, h.tape, h.output, Nat.le_trans h.size (by simp), fun i hi hn => (Below.heap_alloc b o i (Nat.lt_of_lt_of_le hi h.size)).trans (h.block i hi hn)⟩
theorem Stir.setCell {S : Nat → Prop} {a b : World} (h : Stir S a b) {p : Addr} (hp : p.block < a.heap.size → S p.block) (u : Value) : Stir S a (b.setCell p u) :=
  ⟨h.os, h.tape, h.output, Nat.le_trans h.size (by simp [World.setCell]), fun i hi hn => (Below.heap_setCell b p u i (fun e => hn (by subst e; exact hp hi))).trans (h.block i hi hn)⟩
theorem Stir.grown {S : Nat → Prop} {a b c : World} {row : Option Nat} (h : Stir S a b) (hg : b.grownBy c row) (hr : ∀ k, row = some k → k < a.heap.size → S k) : Stir S a c :=
  ⟨hg.os.trans h.os, hg.tape.trans h.tape, hg.output.trans h.output, Nat.le_trans h.size hg.size,
   fun i hi hn => (hg.block i (Nat.lt_of_lt_of_le hi h.size) (fun e => hn (hr i e.symm hi))).trans (h.block i hi hn)⟩
theorem Stir.below {S : Nat → Prop} {B : Nat} {a b : World} (h : Stir S a b) (hB : B ≤ a.heap.size) (hs : ∀ k, S k → B ≤ k) : Below B a b :=
  ⟨h.os, h.tape, h.output, h.size, fun k hk => h.block k (by omega) (fun e => by have := hs k e; omega)⟩
theorem Stir.of_below {a b : World} (h : Below a.heap.size a b) (S : Nat → Prop) : Stir S a b :=
  ⟨h.os, h.tape, h.output, h.size, fun k hk _ => h.block k hk⟩
theorem Stir.grownBy {a b : World} (h : Stir (fun _ => False) a b) : a.grownBy b none :=
  ⟨h.os, h.tape, h.output, h.size, fun k hk _ => h.block k hk (fun e => e)⟩
theorem Stir.cell {S : Nat → Prop} {a b : World} (h : Stir S a b) {p : Addr} {v : Value} (hc : a.cell? p = some v) (hn : ¬ S p.block) : b.cell? p = some v :=
  (World.cell?_of_block (h.block p.block (World.block_lt_of_cell? a p hc) hn)).trans hc
theorem Stir.frozen {S : Nat → Prop} {a b : World} (h : Stir S a b) {p : Addr} {v : Value} (hc : a.cell? p = some v) (hn : ¬ S p.block) : b.frozen? p = a.frozen? p :=
  World.frozen?_of_block (h.block p.block (World.block_lt_of_cell? a p hc) hn)
theorem Stir.owns {S : Nat → Prop} {a b : World} (h : Stir S a b) {base : Nat} {e : TypeId} {size : Nat} {v : Value} {n : Nat} {xs : List Value} (ho : a.ownsRow base e size v n xs) (hn : ∀ k, v.ownBlock = some k → ¬ S k) :
    b.ownsRow base e size v n xs := by
  refine ⟨ho.1, ?_⟩
  rcases ho.2 with hl | ⟨g, cap, cur, rfl, hb, hg, rest⟩
  · exact .inl hl
  · exact .inr ⟨g, cap, cur, rfl, hb, (h.block g (Array.getElem?_eq_some_iff.1 hg).1 (hn g rfl)).trans hg, rest⟩

/-- A slice value reads as a list of cells. -/
def Reads (w : World) (size : Nat) (v : Value) (n : Nat) (xs : List Value) : Prop :=
  xs.length = n * size ∧ ((v = .slice none 0 0 ∧ n = 0) ∨ ∃ a c, v = .slice (some a) n c ∧ ∀ j u, xs[j]? = some u → w.cell? (a.add j) = some u)

theorem Reads.touch {S : Nat → Prop} {w w' : World} {size : Nat} {v : Value} {n : Nat} {xs : List Value} (h : Reads w size v n xs) (ht : Stir S w w') (hn : ∀ k, v.ownBlock = some k → ¬ S k) : Reads w' size v n xs := by
  refine ⟨h.1, ?_⟩
  rcases h.2 with hl | ⟨a, c, rfl, hc⟩
  · exact .inl hl
  · refine .inr ⟨a, c, rfl, fun j u hu => ht.cell (hc j u hu) ?_⟩
    have : (a.add j).block = a.block := by unfold Addr.add; split <;> rfl
    rw [this]; exact hn _ rfl

theorem Reads.below {w w' : World} {size : Nat} {v : Value} {n : Nat} {xs : List Value} (h : Reads w size v n xs) (hb : Below w.heap.size w w') : Reads w' size v n xs :=
  h.touch (Stir.of_below hb (fun _ => False)) (fun _ _ e => e)

theorem Reads.alloc {w : World} {size : Nat} {v : Value} {n : Nat} {xs : List Value} (h : Reads w size v n xs) (o : Obj) : Reads (w.alloc o) size v n xs :=
  h.below ((Below.refl _ w).alloc (Nat.le_refl _) o)

theorem Reads.of_owns {w : World} {base : Nat} {e : TypeId} {size : Nat} {v : Value} {n : Nat} {xs : List Value} (h : w.ownsRow base e size v n xs) : Reads w size v n xs := by
  refine ⟨h.1, ?_⟩
  rcases h.2 with hl | ⟨g, cap, cur, rfl, hb, hg, hr⟩
  · exact .inl hl
  · exact .inr ⟨_, cap, rfl, h.cells rfl⟩

theorem Reads.nil (w : World) (size : Nat) : Reads w size (.slice none 0 0) 0 [] := ⟨by simp, .inl ⟨rfl, rfl⟩⟩

/-- a beginning of a slice -/
theorem Reads.take {w : World} {size : Nat} {a : Option Addr} {n c : Nat} {xs : List Value} (h : Reads w size (.slice a n c) n xs) {k : Nat} (hk : k ≤ n) : Reads w size (.slice a k c) k (xs.take (k * size)) := by
  refine ⟨?_, ?_⟩
  · rw [List.length_take, h.1]; exact Nat.min_eq_left (Nat.mul_le_mul_right _ hk)
  · rcases h.2 with ⟨e, rfl⟩ | ⟨a, c', e, hc⟩
    · cases e; exact .inl ⟨by rw [Nat.le_zero.1 hk], Nat.le_zero.1 hk⟩
    · cases e
      refine .inr ⟨a, c, rfl, fun j u hu => hc j u ?_⟩
      rw [List.getElem?_take] at hu
      split at hu
      · exact hu
      · cases hu

section
variable {P : Program}

theorem run_append_reads (w : World) (base : Nat) (t ty e : TypeId) (i : TypeInfo) (z : Value) (size bytes : Nat) (ht : P.underlying t = some (.slice e)) (hi : P.info? e = some i) (hz : i.zero = some z)
    (hsize : i.size = size) (hby : i.bytes = bytes) (hzs : z.cells.size = size) (hsz : 0 < size)
    (v : Value) (n : Nat) (xs : List Value) (hown : w.ownsRow base e size v n xs)
    (x : Value) (m : Nat) (news : List Value) (hx : Reads w size x m news) (h1 : ∀ u ∈ news, u.oneCell' = true)
    (h63 : n + m ≤ maxLen) (hbytes : (n + m) * bytes ≤ 140737488355328) (hbase : base ≤ w.heap.size) :
    ∃ v' w', (Builtin.append_ #[t, t] ty #[v, x]).run P w = .ok v' w' ∧ w'.ownsRow base e size v' (n + m) (xs ++ news) ∧ w.grownBy w' v.ownBlock ∧ (v' = .slice none 0 0 ↔ v = .slice none 0 0 ∧ (m = 0)) ∧ (v'.ownBlock = v.ownBlock ∨ v'.ownBlock = some w.heap.size) := by
  rcases hx.2 with ⟨rfl, rfl⟩ | ⟨a, c, rfl, hc⟩
  · have hn : news = [] := List.eq_nil_of_length_eq_zero (by rw [hx.1]; simp)
    subst hn
    exact ⟨v, w, run_append_owned_none (P := P) (w := w) base t ty e i size ht hi v n xs hown, by simpa using hown, World.grownBy.refl _ _, by simp, .inl rfl⟩
  · exact run_append_own_at w base t ty e i z size bytes ht hi hz hsize hby hzs hsz v n xs hown a m c news hx.1 hc h1 h63 hbytes hbase

theorem wpList_append_reads {w : World} {ops : Array Oper} {rest : List Oper} {o : Oper} {a : Act} {Q : Exit → Act → World → Prop} (hgd : o.guard = none) (s x : Operand) (t : TypeId)
    (ho : o.op = .call { callee := .builtin .append, args := #[s, x], argTypes := #[t, t] })
    (base : Nat) (e : TypeId) (i : TypeInfo) (z : Value) (size bytes : Nat) (ht : P.underlying t = some (.slice e)) (hi : P.info? e = some i) (hz : i.zero = some z)
    (hsize : i.size = size) (hby : i.bytes = bytes) (hzs : z.cells.size = size) (hsz : 0 < size)
    (v : Value) (n : Nat) (xs : List Value) (hs : a.eval s = v) (hown : w.ownsRow base e size v n xs)
    (xv : Value) (m : Nat) (news : List Value) (hxv : a.eval x = xv) (hx : Reads w size xv m news) (h1 : ∀ u ∈ news, u.oneCell' = true)
    (h63 : n + m ≤ maxLen) (hbytes : (n + m) * bytes ≤ 140737488355328) (hbase : base ≤ w.heap.size)
    (h : ∀ v' w', w'.ownsRow base e size v' (n + m) (xs ++ news) → w.grownBy w' v.ownBlock → (v' = .slice none 0 0 ↔ v = .slice none 0 0 ∧ m = 0) → (v'.ownBlock = v.ownBlock ∨ v'.ownBlock = some w.heap.size) → wpList P ops Q rest (a.put o.dst v') w') : wpList P ops Q (o :: rest) a w := by
  refine wpList_plain hgd fun K hK => ?_
  obtain ⟨v', w', hrun, r1, r2, r3, r4⟩ := run_append_reads (P := P) w base t o.type e i z size bytes ht hi hz hsize hby hzs hsz v n xs hown xv m news hx h1 h63 hbytes hbase
  unfold Oper.wp
  simp [execOp, ho, resolve, invoke, builtin, hs, hxv, hrun, Result.andThen]
  exact hK _ _ (h v' w' r1 r2 r3 r4)

theorem wpListIn_append_reads {F : Fence} {nf : Nat} {w : World} {ops : Array Oper} {rest : List Oper} {o : Oper} {a : Act} {Q : Exit → Act → World → Prop} (hgd : o.guard = none) (s x : Operand) (t : TypeId)
    (ho : o.op = .call { callee := .builtin .append, args := #[s, x], argTypes := #[t, t] })
    (base : Nat) (e : TypeId) (i : TypeInfo) (z : Value) (size bytes : Nat) (ht : P.underlying t = some (.slice e)) (hi : P.info? e = some i) (hz : i.zero = some z)
    (hsize : i.size = size) (hby : i.bytes = bytes) (hzs : z.cells.size = size) (hsz : 0 < size)
    (v : Value) (n : Nat) (xs : List Value) (hs : a.eval s = v) (hown : w.ownsRow base e size v n xs)
    (xv : Value) (m : Nat) (news : List Value) (hxv : a.eval x = xv) (hx : Reads w size xv m news) (h1 : ∀ u ∈ news, u.oneCell' = true)
    (h63 : n + m ≤ maxLen) (hbytes : (n + m) * bytes ≤ 140737488355328) (hbase : base ≤ w.heap.size)
    (h : ∀ v' w', w'.ownsRow base e size v' (n + m) (xs ++ news) → w.grownBy w' v.ownBlock → (v' = .slice none 0 0 ↔ v = .slice none 0 0 ∧ m = 0) → (v'.ownBlock = v.ownBlock ∨ v'.ownBlock = some w.heap.size) → wpListIn F nf P ops Q rest (a.put o.dst v') w') : wpListIn F nf P ops Q (o :: rest) a w := by
  refine wpListIn_plain hgd fun K hK => ?_
  obtain ⟨v', w', hrun, r1, r2, r3, r4⟩ := run_append_reads (P := P) w base t o.type e i z size bytes ht hi hz hsize hby hzs hsz v n xs hown xv m news hx h1 h63 hbytes hbase
  unfold Oper.wpIn
  refine ⟨?_, ?_⟩
  · simp [Oper.about, ho, resolve, Target.leads, Sem.run_pure]
  · rw [Oper.semAt_plain F _ _ (by rw [ho]; intro c hc'; cases hc')]
    simp [execOp, ho, resolve, invoke, builtin, hs, hxv, hrun, Result.andThen]
    exact hK _ _ (h v' w' r1 r2 r3 r4)

theorem step_append_reads {w : World} {ops : Array Oper} {o : Oper} {a : Act} {K : Act → World → Prop} {Q : Exit → Act → World → Prop} {E : Prop} (hgd : o.guard = none) (s x : Operand) (t : TypeId)
    (ho : o.op = .call { callee := .builtin .append, args := #[s, x], argTypes := #[t, t] })
    (base : Nat) (e : TypeId) (i : TypeInfo) (z : Value) (size bytes : Nat) (ht : P.underlying t = some (.slice e)) (hi : P.info? e = some i) (hz : i.zero = some z)
    (hsize : i.size = size) (hby : i.bytes = bytes) (hzs : z.cells.size = size) (hsz : 0 < size)
    (v : Value) (n : Nat) (xs : List Value) (hs : a.eval s = v) (hown : w.ownsRow base e size v n xs)
    (xv : Value) (m : Nat) (news : List Value) (hxv : a.eval x = xv) (hx : Reads w size xv m news) (h1 : ∀ u ∈ news, u.oneCell' = true)
    (h63 : n + m ≤ maxLen) (hbytes : (n + m) * bytes ≤ 140737488355328) (hbase : base ≤ w.heap.size)
    (h : ∀ v' w', w'.ownsRow base e size v' (n + m) (xs ++ news) → w.grownBy w' v.ownBlock → (v' = .slice none 0 0 ↔ v = .slice none 0 0 ∧ m = 0) → (v'.ownBlock = v.ownBlock ∨ v'.ownBlock = some w.heap.size) → K (a.put o.dst v') w') :
    if Region.wanted o (yielded ops a.tmps) = true then Oper.wp P o a w K Q else E := by
  rw [if_pos (by simp [Region.wanted, hgd])]
  obtain ⟨v', w', hrun, r1, r2, r3, r4⟩ := run_append_reads (P := P) w base t o.type e i z size bytes ht hi hz hsize hby hzs hsz v n xs hown xv m news hx h1 h63 hbytes hbase
  unfold Oper.wp
  simp [execOp, ho, resolve, invoke, builtin, hs, hxv, hrun, Result.andThen]
  exact h v' w' r1 r2 r3 r4
end

/-- a byte as a value -/
abbrev B8 (b : UInt8) : Value := .int .u8 (b.toNat : Int)
theorem bytes_oneCell (l : List UInt8) : ∀ u ∈ l.map B8, u.oneCell' = true := by
  intro u hu; obtain ⟨x, _, rfl⟩ := List.mem_map.1 hu; rfl

/-- 'string(b)' where b reads as bytes -/
theorem run_string_reads {P : Program} (w : World) (src dst e : TypeId) (v : Value) (l : List UInt8) (hs : P.underlying src = some (.slice e)) (he : P.underlying e = some (.int .u8)) (hd : P.underlying dst = some .string) (h : Reads w 1 v l.length (l.map B8)) :
    (convert src dst v).run P w = .ok (.string ⟨l.toArray⟩) w := by
  rcases h.2 with ⟨rfl, h0⟩ | ⟨a, c, rfl, hc⟩
  · obtain rfl : l = [] := List.eq_nil_of_length_eq_zero h0
    exact Lib.run_convert_nil_bytes w src dst e 0 hs he hd
  · exact run_convert_bytes_back w src dst e a c l hs he hd (fun j hj => hc j _ (by simp [hj]))

/-- the shape of what is owned -/
theorem owns_shape {w : World} {base : Nat} {e : TypeId} {size : Nat} {v : Value} {n : Nat} {xs : List Value} (h : w.ownsRow base e size v n xs) :
    v = .slice none 0 0 ∧ n = 0 ∨ ∃ g cap, v = .slice (some ⟨g, 0, none⟩) n cap := by
  rcases h.2 with h | ⟨g, cap, _, h, _⟩
  · exact .inl h
  · exact .inr ⟨g, cap, h⟩
theorem owns_slice {w : World} {base : Nat} {e : TypeId} {size : Nat} {v : Value} {n : Nat} {xs : List Value} (h : w.ownsRow base e size v n xs) : ∃ a c, v = .slice a n c := by
  rcases owns_shape h with ⟨rfl, rfl⟩ | ⟨g, cap, rfl⟩ <;> exact ⟨_, _, rfl⟩
theorem reads_slice {w : World} {size : Nat} {v : Value} {n : Nat} {xs : List Value} (h : Reads w size v n xs) : ∃ a c, v = .slice a n c := by
  rcases h.2 with ⟨rfl, rfl⟩ | ⟨a, c, rfl, _⟩ <;> exact ⟨_, _, rfl⟩

end Go.Cav

/- How a text falls into pieces at a byte, and that the library's split says so. No conditions. -/
namespace Go.Cav
open Go.Lib

/-- a byte ahead of the first piece -/
def headCons (b : UInt8) : List (List UInt8) → List (List UInt8)
  | [] => [[b]]
  | p :: r => (b :: p) :: r
/-- the pieces of a text at a byte -/
def cutAt (c : UInt8) : List UInt8 → List (List UInt8)
  | [] => [[]]
  | b :: l => if b = c then [] :: cutAt c l else headCons b (cutAt c l)
theorem cutAt_ne (c : UInt8) : ∀ l, cutAt c l ≠ []
  | [] => by simp [cutAt]
  | b :: l => by
    unfold cutAt
    split
    · simp
    · cases h : cutAt c l with
      | nil => simp [headCons]
      | cons p r => simp [headCons]
theorem cutAt_free (c : UInt8) : ∀ l, c ∉ l → cutAt c l = [l]
  | [], _ => rfl
  | b :: l, h => by
    have hb : ¬ b = c := fun e => h (by rw [e]; exact List.mem_cons_self)
    rw [cutAt, if_neg hb, cutAt_free c l (fun e => h (List.mem_cons_of_mem _ e))]
    rfl
theorem cutAt_app (c : UInt8) (y : List UInt8) : ∀ x, c ∉ x → cutAt c (x ++ c :: y) = x :: cutAt c y
  | [], _ => by rw [List.nil_append, cutAt, if_pos rfl]
  | b :: x, h => by
    have hb : ¬ b = c := fun e => h (by rw [e]; exact List.mem_cons_self)
    rw [List.cons_append, cutAt, if_neg hb, cutAt_app c y x (fun e => h (List.mem_cons_of_mem _ e))]
    rfl
theorem cutAt_pieces (c : UInt8) : ∀ l, ∀ p ∈ cutAt c l, c ∉ p
  | [], p, h => by rw [cutAt, List.mem_singleton] at h; subst h; simp
  | b :: l, p, h => by
    rw [cutAt] at h
    split at h
    · rcases List.mem_cons.1 h with rfl | h'
      · simp
      · exact cutAt_pieces c l p h'
    · rename_i hb
      cases hc : cutAt c l with
      | nil => exact absurd hc (cutAt_ne c l)
      | cons q r =>
        rw [hc, headCons] at h
        rcases List.mem_cons.1 h with rfl | h'
        · intro e
          rcases List.mem_cons.1 e with e' | e'
          · exact hb e'.symm
          · exact cutAt_pieces c l q (by rw [hc]; exact List.mem_cons_self) e'
        · exact cutAt_pieces c l p (by rw [hc]; exact List.mem_cons_of_mem _ h')
theorem cutAt_len (c : UInt8) : ∀ l, ∀ p ∈ cutAt c l, p.length ≤ l.length
  | [], p, h => by rw [cutAt, List.mem_singleton] at h; subst h; simp
  | b :: l, p, h => by
    rw [cutAt] at h
    split at h
    · rcases List.mem_cons.1 h with rfl | h'
      · simp
      · have := cutAt_len c l p h'; simp; omega
    · cases hc : cutAt c l with
      | nil => exact absurd hc (cutAt_ne c l)
      | cons q r =>
        rw [hc, headCons] at h
        rcases List.mem_cons.1 h with rfl | h'
        · have := cutAt_len c l q (by rw [hc]; exact List.mem_cons_self); simp; omega
        · have := cutAt_len c l p (by rw [hc]; exact List.mem_cons_of_mem _ h'); simp; omega
/-- the pieces side by side again -/
def glue (c : UInt8) : List (List UInt8) → List UInt8
  | [] => []
  | [p] => p
  | p :: q :: r => p ++ c :: glue c (q :: r)
theorem glue_cut (c : UInt8) : ∀ l, glue c (cutAt c l) = l
  | [] => rfl
  | b :: l => by
    rw [cutAt]
    have ih := glue_cut c l
    split
    · rename_i hb
      subst hb
      cases hc : cutAt b l with
      | nil => exact absurd hc (cutAt_ne b l)
      | cons q r =>
        rw [hc] at ih
        show [] ++ b :: glue b (q :: r) = _
        rw [ih]; rfl
    · cases hc : cutAt c l with
      | nil => exact absurd hc (cutAt_ne c l)
      | cons q r =>
        rw [hc] at ih
        cases r with
        | nil =>
          show b :: q = _
          rw [← ih]; rfl
        | cons q2 r =>
          show (b :: q) ++ c :: glue c (q2 :: r) = _
          rw [← ih]; rfl
theorem index_one_ne (b c : UInt8) (l : List UInt8) (h : b ≠ c) : index (b :: l) [c] = if index l [c] == -1 then -1 else index l [c] + 1 := by
  have hp : ([c] : List UInt8).isPrefixOf (b :: l) = false := by simp [List.isPrefixOf, Ne.symm h]
  rw [index, hp]; simp
/-- the library's split at one byte -/
theorem split_cut (c : UInt8) : ∀ l, split l [c] = cutAt c l
  | [] => by
    unfold split
    rw [count_one]; rfl
  | b :: l => by
    have ih := split_cut c l
    unfold split at ih ⊢
    rw [cutAt]
    by_cases h : b = c
    · subst h
      rw [if_pos rfl, count_cons_eq, Nat.add_comm 1, splitK]
      have hix : index (b :: l) [b] = ((0 : Nat) : Int) := by rw [index]; simp [List.isPrefixOf]
      rw [hix, if_neg (by decide)]
      show (b :: l).take 0 :: splitK [b] 0 (count l [b]) ((b :: l).drop 1) = _
      rw [List.take_zero, List.drop_succ_cons, List.drop_zero, ih]
    · rw [if_neg h, count_cons_ne b c l h, ← ih]
      cases hk : count l [c] with
      | zero => rfl
      | succ k =>
        rw [splitK, splitK, index_one_ne b c l h]
        by_cases hm : index l [c] = -1
        · rw [hm, if_pos (by decide), if_pos (by decide)]; rfl
        · have hge := index_ge l [c]
          obtain ⟨j, hj⟩ : ∃ j : Nat, index l [c] = j := ⟨(index l [c]).toNat, by omega⟩
          have hj1 : ¬ ((j : Int) == -1) = true := fun e => by have := beq_iff_eq.1 e; omega
          have hj2 : ¬ ((j : Int) + 1 == -1) = true := fun e => by have := beq_iff_eq.1 e; omega
          rw [hj, if_neg hj1, if_neg hj2, if_neg hj1]
          have e1 : ((j : Int) + 1).toNat + 0 = j + 1 := by omega
          have e2 : ((j : Int) + 1).toNat + ([c] : List UInt8).length = j + 1 + 1 := by show ((j : Int) + 1).toNat + 1 = _; omega
          have e3 : (j : Int).toNat + 0 = j := by omega
          have e4 : (j : Int).toNat + ([c] : List UInt8).length = j + 1 := by simp
          rw [e1, e2, e3, e4, List.take_succ_cons, List.drop_succ_cons]
          rfl
end Go.Cav

/-
  DERIVED: THE SHELF's CONTRACTS AT THIS DUMP, IN PLAIN WORDS (tools/lay-plain.mjs out of 'TrydShelf.lean', which tools/lay-shelf.mjs wrote): THE SAME DECLARATIONS UNDER THE SAME NAMES: 'import', 'namespace', 'open', 'def', 'theorem' AND NOTHING ELSE: no command of the shelf's: FOR A HAND-IN. Each laying: the table of numbers ('.._ren') and one theorem, a field a fact of the dump's own or the kernel's comparison; each contract: ONE APPLICATION.
-/
namespace Go.Proofs
open Go.Shelf
def Tryd.lays156_ren : Go.Shelf.Ren := ⟨fun | 156 => 36 | 165 => 51 | 166 => 52 | 169 => 53 | 240 => 72 | 241 => 73 | 276 => 96 | 277 => 97 | n => n, fun | 31 => 32 | 9 => 9 | 3 => 3 | 4 => 4 | 0 => 0 | 20 => 20 | 72 => 78 | 76 => 53 | 70 => 76 | 37 => 56 | 75 => 52 | 127 => 100 | 164 => 124 | 5 => 5 | 80 => 80 | n => n, fun | n => n⟩
theorem Tryd.lays156 : Go.Proofs.Lays.n156 Tryd.prog Tryd.lays156_ren := {
  mixed := by kernel_rfl
  f156 := Tryd.func36.trans (congrArg some (by kernel_rfl))
  f165 := Tryd.func51.trans (congrArg some (by kernel_rfl))
  f166 := Tryd.func52.trans (congrArg some (by kernel_rfl))
  f169 := Tryd.func53.trans (congrArg some (by kernel_rfl))
  f240 := Tryd.func72.trans (congrArg some (by kernel_rfl))
  f241 := Tryd.func73.trans (congrArg some (by kernel_rfl))
  f276 := Tryd.func96.trans (congrArg some (by kernel_rfl))
  f277 := Tryd.func97.trans (congrArg some (by kernel_rfl))
  t0 := Tryd.underlying0
  a0 := Tryd.isAgg0
  z0 := Tryd.sizeOf0
  v0 := Tryd.zeroValue0
  t3 := Tryd.underlying3
  a3 := Tryd.isAgg3
  z3 := Tryd.sizeOf3
  v3 := Tryd.zeroValue3
  t4 := Tryd.underlying4
  a4 := Tryd.isAgg4
  z4 := Tryd.sizeOf4
  v4 := Tryd.zeroValue4
  t9 := Tryd.underlying9
  a9 := Tryd.isAgg9
  z9 := Tryd.sizeOf9
  v9 := Tryd.zeroValue9
  t20 := Tryd.underlying20
  a20 := Tryd.isAgg20
  z20 := Tryd.sizeOf20
  v20 := Tryd.zeroValue20
  t31 := Tryd.underlying32
  a31 := Tryd.isAgg32
  z31 := Tryd.sizeOf32
  v31 := Tryd.zeroValue32
  t37 := Tryd.underlying56
  a37 := Tryd.isAgg56
  z37 := Tryd.sizeOf56
  v37 := Tryd.zeroValue56
  t70 := Tryd.underlying76
  a70 := Tryd.isAgg76
  z70 := Tryd.sizeOf76
  v70 := Tryd.zeroValue76
  t72 := Tryd.underlying78
  a72 := Tryd.isAgg78
  z72 := Tryd.sizeOf78
  v72 := Tryd.zeroValue78
  t75 := Tryd.underlying52
  a75 := Tryd.isAgg52
  z75 := Tryd.sizeOf52
  v75 := Tryd.zeroValue52
  t76 := Tryd.underlying53
  a76 := Tryd.isAgg53
  z76 := Tryd.sizeOf53
  v76 := Tryd.zeroValue53
  t127 := Tryd.underlying100
  a127 := Tryd.isAgg100
  z127 := Tryd.sizeOf100
  v127 := Tryd.zeroValue100
  t164 := Tryd.underlying124
  a164 := Tryd.isAgg124
  z164 := Tryd.sizeOf124
  v164 := Tryd.zeroValue124 }
theorem Tryd.Builder_Extra_156 : Builder.Extra Tryd.prog Tryd.lays156_ren := {
  sizeBuilder := by kernel_rfl
  liesBuilder := by kernel_rfl
  t5 := Tryd.underlying5
  a5 := Tryd.isAgg5
  z5 := Tryd.sizeOf5
  v5 := Tryd.zeroValue5
  infoByte := by kernel_rfl
  cellsByte := by kernel_rfl
  sizeByte := by kernel_rfl
  neB5 := by decide }
open Go.RowKit in
/-- No element: the empty string; the world is as it was. (Whatever the slice's address and capacity: a nil slice too.) (LAID: no walk: one application.) -/
theorem Tryd.strings_Join_none (a : Option Addr) (c : Nat) (sep : ByteArray) (w : World) :
    Calls Tryd.prog 36 #[.slice a 0 c, .string sep] w fun e w' => e = .returned (.string ⟨#[]⟩) ∧ w' = w := Any.strings_Join_none Tryd.lays156 Tryd.Builder_Extra_156 a c sep w
open Go.RowKit in
/-- strings.Join: "Join concatenates the elements of its first argument to create a single string. The separator string sep is placed between elements in the resulting string.": HOWEVER MANY ELEMENTS. Below the heap's end the world is as it was. (LAID: no walk: one application.) -/
theorem Tryd.strings_Join (bk o c : Nat) (xs : List ByteArray) (sep : ByteArray) (w : World) (hcells : ∀ (j : Nat) x, xs[j]? = some x → w.cell? ⟨bk, o + j, none⟩ = some (.string x)) (hbk : bk < w.heap.size) (hN : xs.length ≤ 140737488355328) (hcap : xs.length ≤ c) (hlen : (Lib.join (xs.map (·.data.toList)) sep.data.toList).length ≤ 140737488355328) :
    Calls Tryd.prog 36 #[.slice (some ⟨bk, o, none⟩) xs.length c, .string sep] w fun e w' => e = .returned (.string ⟨(Lib.join (xs.map (·.data.toList)) sep.data.toList).toArray⟩) ∧ Below w.heap.size w w' := Any.strings_Join Tryd.lays156 Tryd.Builder_Extra_156 bk o c xs sep w hcells hbk hN hcap hlen
def Tryd.lays125_ren : Go.Shelf.Ren := ⟨fun | 125 => 69 | 128 => 90 | 129 => 91 | n => n, fun | 46 => 97 | 3 => 3 | 51 => 118 | 53 => 55 | 4 => 4 | 5 => 5 | 9 => 9 | n => n, fun | n => n⟩
theorem Tryd.lays125 : Go.Proofs.Lays.n125 Tryd.prog Tryd.lays125_ren := {
  mixed := by kernel_rfl
  f125 := Tryd.func69.trans (congrArg some (by kernel_rfl))
  f128 := Tryd.func90.trans (congrArg some (by kernel_rfl))
  f129 := Tryd.func91.trans (congrArg some (by kernel_rfl))
  t3 := Tryd.underlying3
  a3 := Tryd.isAgg3
  z3 := Tryd.sizeOf3
  v3 := Tryd.zeroValue3
  t4 := Tryd.underlying4
  a4 := Tryd.isAgg4
  z4 := Tryd.sizeOf4
  v4 := Tryd.zeroValue4
  t5 := Tryd.underlying5
  a5 := Tryd.isAgg5
  z5 := Tryd.sizeOf5
  v5 := Tryd.zeroValue5
  t9 := Tryd.underlying9
  a9 := Tryd.isAgg9
  z9 := Tryd.sizeOf9
  v9 := Tryd.zeroValue9
  t46 := Tryd.underlying97
  a46 := Tryd.isAgg97
  z46 := Tryd.sizeOf97
  v46 := Tryd.zeroValue97
  t51 := Tryd.underlying118
  a51 := Tryd.isAgg118
  z51 := Tryd.sizeOf118
  v51 := Tryd.zeroValue118
  t53 := Tryd.underlying55
  a53 := Tryd.isAgg55
  z53 := Tryd.sizeOf55
  v53 := Tryd.zeroValue55 }
/-- bits.Len: "Len returns the minimum number of bits required to represent x; the result is 0 for x == 0.": IT RETURNS 'Lib.bitLen x'; the world is as it was. (A uint has 64 bits in the model.) ITS CALLEE bits.Len64 IS MET BY ITS OWN CONTRACT OFF THE SHELF (lay that first). (LAID: no walk: one application.) -/
theorem Tryd.bits_Len (x : Int) (w : World) (h0 : 0 ≤ x) (h1 : x ≤ 18446744073709551615) :
    Calls Tryd.prog 69 #[.int .u64 x] w fun e w' => e = .returned (.int .i64 (Lib.bitLen x.toNat)) ∧ w' = w := Any.bits_Len Tryd.lays125 x w h0 h1
def Tryd.lays215_ren : Go.Shelf.Ren := ⟨fun | 215 => 70 | n => n, fun | 3 => 3 | 4 => 4 | n => n, fun | n => n⟩
theorem Tryd.lays215 : Go.Proofs.Lays.n215 Tryd.prog Tryd.lays215_ren := {
  mixed := by kernel_rfl
  f215 := Tryd.func70.trans (congrArg some (by kernel_rfl))
  t3 := Tryd.underlying3
  a3 := Tryd.isAgg3
  z3 := Tryd.sizeOf3
  v3 := Tryd.zeroValue3
  t4 := Tryd.underlying4
  a4 := Tryd.isAgg4
  z4 := Tryd.sizeOf4
  v4 := Tryd.zeroValue4 }
open Go.RowKit in
/-- cmp.isNaN at int: 'x != x': false. (LAID: no walk: one application.) -/
theorem Tryd.cmp_isNaN_int (x : Int) (w : World) :
    Calls Tryd.prog 70 #[.int .i64 x] w fun e w' => e = .returned (.bool false) ∧ w' = w := Any.cmp_isNaN_int Tryd.lays215 x w
def Tryd.lays122_ren : Go.Shelf.Ren := ⟨fun | 122 => 48 | 215 => 70 | n => n, fun | 3 => 3 | 4 => 4 | n => n, fun | n => n⟩
theorem Tryd.lays122 : Go.Proofs.Lays.n122 Tryd.prog Tryd.lays122_ren := {
  mixed := by kernel_rfl
  f122 := Tryd.func48.trans (congrArg some (by kernel_rfl))
  f215 := Tryd.func70.trans (congrArg some (by kernel_rfl))
  t3 := Tryd.underlying3
  a3 := Tryd.isAgg3
  z3 := Tryd.sizeOf3
  v3 := Tryd.zeroValue3
  t4 := Tryd.underlying4
  a4 := Tryd.isAgg4
  z4 := Tryd.sizeOf4
  v4 := Tryd.zeroValue4 }
open Go.RowKit in
/-- cmp.Compare at int: "Compare returns -1 if x is less than y, 0 if x equals y, +1 if x is greater than y.": IT RETURNS 'Lib.compareInt x y'; the world is as it was. (LAID: no walk: one application.) -/
theorem Tryd.cmp_Compare_int (x y : Int) (w : World) :
    Calls Tryd.prog 48 #[.int .i64 x, .int .i64 y] w fun e w' => e = .returned (.int .i64 (Lib.compareInt x y)) ∧ w' = w := Any.cmp_Compare_int Tryd.lays122 x y w
def Tryd.laysM171_ren : Go.Shelf.Ren := ⟨fun | 171 => 35 | 243 => 50 | 246 => 71 | 283 => 92 | 284 => 93 | 285 => 94 | 286 => 95 | 129 => 91 | 317 => 107 | 318 => 108 | 319 => 109 | 320 => 110 | 337 => 112 | 338 => 113 | n => n, fun | 3 => 3 | 9 => 9 | 2 => 2 | 4 => 4 | 171 => 120 | 0 => 0 | 53 => 55 | 37 => 56 | 5 => 5 | 173 => 122 | 212 => 144 | 51 => 118 | 20 => 20 | 213 => 145 | 46 => 97 | 232 => 149 | 233 => 150 | n => n, fun | 17 => 5 | 18 => 6 | 19 => 7 | n => n⟩
theorem Tryd.laysM171 : Go.Proofs.LaysM.n171 Tryd.prog Tryd.laysM171_ren := {
  mixed := by kernel_rfl
  f129 := Tryd.func91.trans (congrArg some (by kernel_rfl))
  f171 := Tryd.func35.trans (congrArg some (by kernel_rfl))
  f243 := Tryd.func50.trans (congrArg some (by kernel_rfl))
  f246 := Tryd.func71.trans (congrArg some (by kernel_rfl))
  f283 := Tryd.func92.trans (congrArg some (by kernel_rfl))
  f284 := Tryd.func93.trans (congrArg some (by kernel_rfl))
  f285 := Tryd.func94.trans (congrArg some (by kernel_rfl))
  f286 := Tryd.func95.trans (congrArg some (by kernel_rfl))
  f317 := Tryd.func107.trans (congrArg some (by kernel_rfl))
  f318 := Tryd.func108.trans (congrArg some (by kernel_rfl))
  f319 := Tryd.func109.trans (congrArg some (by kernel_rfl))
  f320 := Tryd.func110.trans (congrArg some (by kernel_rfl))
  f337 := Tryd.func112.trans (congrArg some (by kernel_rfl))
  f338 := Tryd.func113.trans (congrArg some (by kernel_rfl))
  t0 := Tryd.underlying0
  a0 := Tryd.isAgg0
  z0 := Tryd.sizeOf0
  v0 := Tryd.zeroValue0
  t2 := Tryd.underlying2
  a2 := Tryd.isAgg2
  z2 := Tryd.sizeOf2
  v2 := Tryd.zeroValue2
  t3 := Tryd.underlying3
  a3 := Tryd.isAgg3
  z3 := Tryd.sizeOf3
  v3 := Tryd.zeroValue3
  t4 := Tryd.underlying4
  a4 := Tryd.isAgg4
  z4 := Tryd.sizeOf4
  v4 := Tryd.zeroValue4
  t5 := Tryd.underlying5
  a5 := Tryd.isAgg5
  z5 := Tryd.sizeOf5
  v5 := Tryd.zeroValue5
  t9 := Tryd.underlying9
  a9 := Tryd.isAgg9
  z9 := Tryd.sizeOf9
  v9 := Tryd.zeroValue9
  t20 := Tryd.underlying20
  a20 := Tryd.isAgg20
  z20 := Tryd.sizeOf20
  v20 := Tryd.zeroValue20
  t37 := Tryd.underlying56
  a37 := Tryd.isAgg56
  z37 := Tryd.sizeOf56
  v37 := Tryd.zeroValue56
  t46 := Tryd.underlying97
  a46 := Tryd.isAgg97
  z46 := Tryd.sizeOf97
  v46 := Tryd.zeroValue97
  t51 := Tryd.underlying118
  a51 := Tryd.isAgg118
  z51 := Tryd.sizeOf118
  v51 := Tryd.zeroValue118
  t53 := Tryd.underlying55
  a53 := Tryd.isAgg55
  z53 := Tryd.sizeOf55
  v53 := Tryd.zeroValue55
  t171 := Tryd.underlying120
  a171 := Tryd.isAgg120
  z171 := Tryd.sizeOf120
  v171 := Tryd.zeroValue120
  t173 := Tryd.underlying122
  a173 := Tryd.isAgg122
  z173 := Tryd.sizeOf122
  v173 := Tryd.zeroValue122
  t212 := Tryd.underlying144
  a212 := Tryd.isAgg144
  z212 := Tryd.sizeOf144
  v212 := Tryd.zeroValue144
  t213 := Tryd.underlying145
  a213 := Tryd.isAgg145
  z213 := Tryd.sizeOf145
  t232 := Tryd.underlying149
  a232 := Tryd.isAgg149
  z232 := Tryd.sizeOf149
  v232 := Tryd.zeroValue149
  t233 := Tryd.underlying150
  a233 := Tryd.isAgg150
  z233 := Tryd.sizeOf150
  v233 := Tryd.zeroValue150
  g17 := by kernel_rfl
  g18 := by kernel_rfl
  g19 := by kernel_rfl
  i0 := by kernel_rfl
  i2 := by kernel_rfl
  i3 := by kernel_rfl
  i4 := by kernel_rfl
  i5 := by kernel_rfl
  i9 := by kernel_rfl
  i20 := by kernel_rfl
  i37 := by kernel_rfl
  i46 := by kernel_rfl
  i51 := by kernel_rfl
  i53 := by kernel_rfl
  i171 := by kernel_rfl
  i173 := by kernel_rfl
  i212 := by kernel_rfl
  i232 := by kernel_rfl
  i233 := by kernel_rfl
  m17 := by kernel_rfl
  m18 := by kernel_rfl
  m19 := by kernel_rfl }
open Go.RowKit Go.Sort Go.Lib in
/-- strconv.Itoa: "Itoa is equivalent to FormatInt(int64(i), 10).": i's DECIMAL NUMERAL ('Lib.itoa': a '-' where i is negative, then the digits), FOR EVERY int. The world behind the call: the world before it, new blocks behind the heap (the library's 'var a [24]byte'), draws. (LAID: no walk: one application.) -/
theorem Tryd.strconv_Itoa (n : Int) (h0 : -9223372036854775808 ≤ n) (h1 : n ≤ 9223372036854775807) (w : World) (htab : Lib.TabIs Tryd.prog w "internal/strconv.uint64pow10" .u64 Lib.pow10Tab) :
    Calls Tryd.prog 35 #[.int .i64 n] w fun e w' => e = .returned (.string ⟨(Lib.itoa n).toArray⟩) ∧ ∃ k os, w' = grow (w.drewN k) os := Any.strconv_Itoa Tryd.laysM171 n h0 h1 w htab
def Tryd.laysC172_ren : Go.Shelf.Ren := ⟨fun | 172 => 31 | 244 => 44 | 245 => 45 | 247 => 63 | 279 => 64 | 280 => 65 | 281 => 66 | 282 => 67 | 287 => 79 | 316 => 80 | 171 => 35 | 205 => 81 | 321 => 100 | 322 => 101 | 243 => 50 | 246 => 71 | 283 => 92 | 284 => 93 | 285 => 94 | 286 => 95 | 129 => 91 | 317 => 107 | 318 => 108 | 319 => 109 | 320 => 110 | 337 => 112 | 338 => 113 | n => n, fun | 9 => 9 | 3 => 3 | 75 => 52 | 76 => 53 | 4 => 4 | 5 => 5 | 167 => 89 | 37 => 56 | 0 => 0 | 85 => 90 | 2 => 2 | 168 => 92 | 53 => 55 | 175 => 103 | 46 => 97 | 210 => 107 | 127 => 100 | 145 => 136 | 143 => 134 | 21 => 21 | 171 => 120 | 173 => 122 | 212 => 144 | 51 => 118 | 20 => 20 | 213 => 145 | 232 => 149 | 233 => 150 | 80 => 80 | n => n, fun | 15 => 1 | 16 => 2 | 17 => 5 | 18 => 6 | 19 => 7 | n => n⟩
theorem Tryd.laysC172 : Go.Proofs.LaysC.n172 Tryd.prog Tryd.laysC172_ren := {
  mixed := by kernel_rfl
  f129 := Tryd.func91.trans (congrArg some (by kernel_rfl))
  f171 := Tryd.func35.trans (congrArg some (by kernel_rfl))
  f172 := Tryd.func31.trans (congrArg some (by kernel_rfl))
  f205 := Tryd.func81.trans (congrArg some (by kernel_rfl))
  f243 := Tryd.func50.trans (congrArg some (by kernel_rfl))
  f244 := Tryd.func44.trans (congrArg some (by kernel_rfl))
  f245 := Tryd.func45.trans (congrArg some (by kernel_rfl))
  f246 := Tryd.func71.trans (congrArg some (by kernel_rfl))
  f247 := Tryd.func63.trans (congrArg some (by kernel_rfl))
  f279 := Tryd.func64.trans (congrArg some (by kernel_rfl))
  f280 := Tryd.func65.trans (congrArg some (by kernel_rfl))
  f281 := Tryd.func66.trans (congrArg some (by kernel_rfl))
  f282 := Tryd.func67.trans (congrArg some (by kernel_rfl))
  f283 := Tryd.func92.trans (congrArg some (by kernel_rfl))
  f284 := Tryd.func93.trans (congrArg some (by kernel_rfl))
  f285 := Tryd.func94.trans (congrArg some (by kernel_rfl))
  f286 := Tryd.func95.trans (congrArg some (by kernel_rfl))
  f287 := Tryd.func79.trans (congrArg some (by kernel_rfl))
  f316 := Tryd.func80.trans (congrArg some (by kernel_rfl))
  f317 := Tryd.func107.trans (congrArg some (by kernel_rfl))
  f318 := Tryd.func108.trans (congrArg some (by kernel_rfl))
  f319 := Tryd.func109.trans (congrArg some (by kernel_rfl))
  f320 := Tryd.func110.trans (congrArg some (by kernel_rfl))
  f321 := Tryd.func100.trans (congrArg some (by kernel_rfl))
  f322 := Tryd.func101.trans (congrArg some (by kernel_rfl))
  f337 := Tryd.func112.trans (congrArg some (by kernel_rfl))
  f338 := Tryd.func113.trans (congrArg some (by kernel_rfl))
  t0 := Tryd.underlying0
  a0 := Tryd.isAgg0
  z0 := Tryd.sizeOf0
  v0 := Tryd.zeroValue0
  t2 := Tryd.underlying2
  a2 := Tryd.isAgg2
  z2 := Tryd.sizeOf2
  v2 := Tryd.zeroValue2
  t3 := Tryd.underlying3
  a3 := Tryd.isAgg3
  z3 := Tryd.sizeOf3
  v3 := Tryd.zeroValue3
  t4 := Tryd.underlying4
  a4 := Tryd.isAgg4
  z4 := Tryd.sizeOf4
  v4 := Tryd.zeroValue4
  t5 := Tryd.underlying5
  a5 := Tryd.isAgg5
  z5 := Tryd.sizeOf5
  v5 := Tryd.zeroValue5
  t9 := Tryd.underlying9
  a9 := Tryd.isAgg9
  z9 := Tryd.sizeOf9
  v9 := Tryd.zeroValue9
  t20 := Tryd.underlying20
  a20 := Tryd.isAgg20
  z20 := Tryd.sizeOf20
  v20 := Tryd.zeroValue20
  t21 := Tryd.underlying21
  a21 := Tryd.isAgg21
  z21 := Tryd.sizeOf21
  v21 := Tryd.zeroValue21
  t37 := Tryd.underlying56
  a37 := Tryd.isAgg56
  z37 := Tryd.sizeOf56
  v37 := Tryd.zeroValue56
  t46 := Tryd.underlying97
  a46 := Tryd.isAgg97
  z46 := Tryd.sizeOf97
  v46 := Tryd.zeroValue97
  t51 := Tryd.underlying118
  a51 := Tryd.isAgg118
  z51 := Tryd.sizeOf118
  v51 := Tryd.zeroValue118
  t53 := Tryd.underlying55
  a53 := Tryd.isAgg55
  z53 := Tryd.sizeOf55
  v53 := Tryd.zeroValue55
  t75 := Tryd.underlying52
  a75 := Tryd.isAgg52
  z75 := Tryd.sizeOf52
  v75 := Tryd.zeroValue52
  t76 := Tryd.underlying53
  a76 := Tryd.isAgg53
  z76 := Tryd.sizeOf53
  v76 := Tryd.zeroValue53
  t85 := Tryd.underlying90
  a85 := Tryd.isAgg90
  z85 := Tryd.sizeOf90
  v85 := Tryd.zeroValue90
  t127 := Tryd.underlying100
  a127 := Tryd.isAgg100
  z127 := Tryd.sizeOf100
  v127 := Tryd.zeroValue100
  t143 := Tryd.underlying134
  a143 := Tryd.isAgg134
  z143 := Tryd.sizeOf134
  v143 := Tryd.zeroValue134
  t145 := Tryd.underlying136
  a145 := Tryd.isAgg136
  z145 := Tryd.sizeOf136
  v145 := Tryd.zeroValue136
  t167 := Tryd.underlying89
  a167 := Tryd.isAgg89
  z167 := Tryd.sizeOf89
  v167 := Tryd.zeroValue89
  t168 := Tryd.underlying92
  a168 := Tryd.isAgg92
  z168 := Tryd.sizeOf92
  v168 := Tryd.zeroValue92
  t171 := Tryd.underlying120
  a171 := Tryd.isAgg120
  z171 := Tryd.sizeOf120
  v171 := Tryd.zeroValue120
  t173 := Tryd.underlying122
  a173 := Tryd.isAgg122
  z173 := Tryd.sizeOf122
  v173 := Tryd.zeroValue122
  t175 := Tryd.underlying103
  a175 := Tryd.isAgg103
  z175 := Tryd.sizeOf103
  v175 := Tryd.zeroValue103
  t210 := Tryd.underlying107
  a210 := Tryd.isAgg107
  z210 := Tryd.sizeOf107
  v210 := Tryd.zeroValue107
  t212 := Tryd.underlying144
  a212 := Tryd.isAgg144
  z212 := Tryd.sizeOf144
  v212 := Tryd.zeroValue144
  t213 := Tryd.underlying145
  a213 := Tryd.isAgg145
  z213 := Tryd.sizeOf145
  t232 := Tryd.underlying149
  a232 := Tryd.isAgg149
  z232 := Tryd.sizeOf149
  v232 := Tryd.zeroValue149
  t233 := Tryd.underlying150
  a233 := Tryd.isAgg150
  z233 := Tryd.sizeOf150
  v233 := Tryd.zeroValue150
  g15 := by kernel_rfl
  g16 := by kernel_rfl
  g17 := by kernel_rfl
  g18 := by kernel_rfl
  g19 := by kernel_rfl
  t80 := Tryd.underlying80
  a80 := Tryd.isAgg80
  z80 := Tryd.sizeOf80
  v80 := Tryd.zeroValue80
  i0 := by kernel_rfl
  i2 := by kernel_rfl
  i3 := by kernel_rfl
  i4 := by kernel_rfl
  i5 := by kernel_rfl
  i9 := by kernel_rfl
  i20 := by kernel_rfl
  i21 := by kernel_rfl
  i37 := by kernel_rfl
  i46 := by kernel_rfl
  i51 := by kernel_rfl
  i53 := by kernel_rfl
  i75 := by kernel_rfl
  i76 := by kernel_rfl
  i80 := by kernel_rfl
  i85 := by kernel_rfl
  i127 := by kernel_rfl
  i143 := by kernel_rfl
  i145 := by kernel_rfl
  i167 := by kernel_rfl
  i168 := by kernel_rfl
  i171 := by kernel_rfl
  i173 := by kernel_rfl
  i175 := by kernel_rfl
  i210 := by kernel_rfl
  i212 := by kernel_rfl
  i232 := by kernel_rfl
  i233 := by kernel_rfl
  m15 := by kernel_rfl
  m16 := by kernel_rfl
  m17 := by kernel_rfl
  m18 := by kernel_rfl
  m19 := by kernel_rfl
  c0 := by kernel_rfl
  c2 := by kernel_rfl
  c3 := by kernel_rfl
  c4 := by kernel_rfl
  c5 := by kernel_rfl
  c9 := by kernel_rfl
  c20 := by kernel_rfl
  c21 := by kernel_rfl
  c37 := by kernel_rfl
  c46 := by kernel_rfl
  c51 := by kernel_rfl
  c53 := by kernel_rfl
  c75 := by kernel_rfl
  c76 := by kernel_rfl
  c80 := by kernel_rfl
  c85 := by kernel_rfl
  c127 := by kernel_rfl
  c143 := by kernel_rfl
  c145 := by kernel_rfl
  c167 := by kernel_rfl
  c168 := by kernel_rfl
  c171 := by kernel_rfl
  c173 := by kernel_rfl
  c175 := by kernel_rfl
  c210 := by kernel_rfl
  c212 := by kernel_rfl
  c213 := by kernel_rfl
  c232 := by kernel_rfl
  c233 := by kernel_rfl }
open Go.RowKit in
/-- strconv.Atoi, AT EVERY STRING THAT SPELLS AN int ('Lib.atoiAll .. = .ok v'; of whatever length: leading zeros count): v, AND NO ERROR. The world: as it was, or with the one new row that '[]byte(..)' lays. (LAID: no walk: one application.) -/
theorem Tryd.strconv_Atoi_ok (s : ByteArray) (hmax : s.size ≤ 9223372036854775806) (v : Int) (h : Lib.atoiAll s.data.toList = .ok v) (w : World) :
    Calls Tryd.prog 31 #[.string s] w fun e w' => e = .returned (.tuple #[.int .i64 v, .nilIface]) ∧ (w' = w ∨ ∃ t, w' = Lib.bytesWorld w 5 t) := Any.strconv_Atoi_ok Tryd.laysC172 s hmax v h w
open Go.RowKit in
/-- strconv.Atoi, AT EVERY STRING THAT IS NO DECIMAL NUMERAL ('.syntax'): 0, AND AN ERROR THAT IS NOT nil: a *NumError in a new block N: {Func: "Atoi", Num: s's bytes, Err: what the variable ErrSyntax holds}. Of what was there nothing has turned. (LAID: no walk: one application.) -/
theorem Tryd.strconv_Atoi_syntax (s : ByteArray) (hlim : s.size ≤ 281474976710656) (h : Lib.atoiAll s.data.toList = .«syntax») (ev : Value) (w : World) (hv : w.cell? ⟨1, 0, none⟩ = some ev) (hev : ev = .nilIface ∨ ∃ te pe, ev = .iface te pe) :
    Calls Tryd.prog 31 #[.string s] w fun e w' => ∃ N, e = .returned (.tuple #[.int .i64 (0), .iface 92 (.pointer (some ⟨N, 0, none⟩))]) ∧ w.heap.size ≤ N ∧ w'.heap[N]? = some (.cells #[.string ⟨#[65, 116, 111, 105]⟩, .string s, ev] 107 (0, 0)) ∧ Below w.heap.size w w' := Any.strconv_Atoi_syntax Tryd.laysC172 s hlim h ev w hv hev
open Go.RowKit in
/-- strconv.Atoi, AT EVERY NUMERAL THAT NO int HOLDS ('.range'): THE GREATEST OR THE LEAST int, BY THE SIGN ('Lib.atoiSat'), AND AN ERROR THAT IS NOT nil: a *NumError in a new block N: {Func: "Atoi", Num: s's bytes, Err: what the variable ErrRange holds}. Of what was there nothing has turned. (LAID: no walk: one application.) -/
theorem Tryd.strconv_Atoi_range (s : ByteArray) (hlim : s.size ≤ 281474976710656) (h : Lib.atoiAll s.data.toList = .range) (ev : Value) (w : World) (hv : w.cell? ⟨2, 0, none⟩ = some ev) (hev : ev = .nilIface ∨ ∃ te pe, ev = .iface te pe) :
    Calls Tryd.prog 31 #[.string s] w fun e w' => ∃ N, e = .returned (.tuple #[.int .i64 (Lib.atoiSat s.data.toList), .iface 92 (.pointer (some ⟨N, 0, none⟩))]) ∧ w.heap.size ≤ N ∧ w'.heap[N]? = some (.cells #[.string ⟨#[65, 116, 111, 105]⟩, .string s, ev] 107 (0, 0)) ∧ Below w.heap.size w w' := Any.strconv_Atoi_range Tryd.laysC172 s hlim h ev w hv hev
def Tryd.lays143_ren : Go.Shelf.Ren := ⟨fun | 143 => 61 | 219 => 62 | 217 => 75 | 225 => 76 | 224 => 77 | 267 => 78 | 266 => 98 | 314 => 99 | n => n, fun | 9 => 9 | 3 => 3 | 4 => 4 | 5 => 5 | 46 => 97 | 146 => 131 | 51 => 118 | n => n, fun | 1 => 0 | n => n⟩
theorem Tryd.lays143 : Go.Proofs.Lays.n143 Tryd.prog Tryd.lays143_ren := {
  mixed := by kernel_rfl
  f143 := Tryd.func61.trans (congrArg some (by kernel_rfl))
  f217 := Tryd.func75.trans (congrArg some (by kernel_rfl))
  f219 := Tryd.func62.trans (congrArg some (by kernel_rfl))
  f224 := Tryd.func77.trans (congrArg some (by kernel_rfl))
  f225 := Tryd.func76.trans (congrArg some (by kernel_rfl))
  f266 := Tryd.func98.trans (congrArg some (by kernel_rfl))
  f267 := Tryd.func78.trans (congrArg some (by kernel_rfl))
  f314 := Tryd.func99.trans (congrArg some (by kernel_rfl))
  t3 := Tryd.underlying3
  a3 := Tryd.isAgg3
  z3 := Tryd.sizeOf3
  v3 := Tryd.zeroValue3
  t4 := Tryd.underlying4
  a4 := Tryd.isAgg4
  z4 := Tryd.sizeOf4
  v4 := Tryd.zeroValue4
  t5 := Tryd.underlying5
  a5 := Tryd.isAgg5
  z5 := Tryd.sizeOf5
  v5 := Tryd.zeroValue5
  t9 := Tryd.underlying9
  a9 := Tryd.isAgg9
  z9 := Tryd.sizeOf9
  v9 := Tryd.zeroValue9
  t46 := Tryd.underlying97
  a46 := Tryd.isAgg97
  z46 := Tryd.sizeOf97
  v46 := Tryd.zeroValue97
  t51 := Tryd.underlying118
  a51 := Tryd.isAgg118
  z51 := Tryd.sizeOf118
  v51 := Tryd.zeroValue118
  t146 := Tryd.underlying131
  a146 := Tryd.isAgg131
  z146 := Tryd.sizeOf131
  v146 := Tryd.zeroValue131
  g1 := by kernel_rfl }
open Go.RowKit Go.Lib in
/-- strings.Index: "Index returns the index of the first instance of substr in s, or -1 if substr is not present in s.": IT RETURNS 'Lib.index s substr'; the world is as it was. (LAID: no walk: one application.) -/
theorem Tryd.strings_Index (s sub : ByteArray) (m : Int) (w : World) (hs : s.size < 4294967281) (hm : w.cell? ⟨0, 0, none⟩ = some (.int .i64 m)) :
    Calls Tryd.prog 61 #[.string s, .string sub] w fun e w' => e = .returned (.int .i64 (Lib.index s.data.toList sub.data.toList)) ∧ w' = w := Any.strings_Index Tryd.lays143 s sub m w hs hm
def Tryd.lays145_ren : Go.Shelf.Ren := ⟨fun | 145 => 30 | 220 => 43 | 219 => 62 | 217 => 75 | 225 => 76 | 224 => 77 | 267 => 78 | 266 => 98 | 314 => 99 | n => n, fun | 9 => 9 | 4 => 4 | 59 => 49 | 3 => 3 | 5 => 5 | 46 => 97 | 146 => 131 | 51 => 118 | n => n, fun | 1 => 0 | n => n⟩
theorem Tryd.lays145 : Go.Proofs.Lays.n145 Tryd.prog Tryd.lays145_ren := {
  mixed := by kernel_rfl
  f145 := Tryd.func30.trans (congrArg some (by kernel_rfl))
  f217 := Tryd.func75.trans (congrArg some (by kernel_rfl))
  f219 := Tryd.func62.trans (congrArg some (by kernel_rfl))
  f220 := Tryd.func43.trans (congrArg some (by kernel_rfl))
  f224 := Tryd.func77.trans (congrArg some (by kernel_rfl))
  f225 := Tryd.func76.trans (congrArg some (by kernel_rfl))
  f266 := Tryd.func98.trans (congrArg some (by kernel_rfl))
  f267 := Tryd.func78.trans (congrArg some (by kernel_rfl))
  f314 := Tryd.func99.trans (congrArg some (by kernel_rfl))
  t3 := Tryd.underlying3
  a3 := Tryd.isAgg3
  z3 := Tryd.sizeOf3
  v3 := Tryd.zeroValue3
  t4 := Tryd.underlying4
  a4 := Tryd.isAgg4
  z4 := Tryd.sizeOf4
  v4 := Tryd.zeroValue4
  t5 := Tryd.underlying5
  a5 := Tryd.isAgg5
  z5 := Tryd.sizeOf5
  v5 := Tryd.zeroValue5
  t9 := Tryd.underlying9
  a9 := Tryd.isAgg9
  z9 := Tryd.sizeOf9
  v9 := Tryd.zeroValue9
  t46 := Tryd.underlying97
  a46 := Tryd.isAgg97
  z46 := Tryd.sizeOf97
  v46 := Tryd.zeroValue97
  t51 := Tryd.underlying118
  a51 := Tryd.isAgg118
  z51 := Tryd.sizeOf118
  v51 := Tryd.zeroValue118
  t59 := Tryd.underlying49
  a59 := Tryd.isAgg49
  z59 := Tryd.sizeOf49
  v59 := Tryd.zeroValue49
  t146 := Tryd.underlying131
  a146 := Tryd.isAgg131
  z146 := Tryd.sizeOf131
  v146 := Tryd.zeroValue131
  g1 := by kernel_rfl }
open Go.RowKit Go.Lib in
/-- strings.Cut: "Cut slices s around the first instance of sep, returning the text before and after sep. The found result reports whether sep appears in s. If sep does not appear in s, cut returns s, "", false.": IT RETURNS 'Lib.cut s sep'; the world is as it was but for the count of draws. (LAID: no walk: one application.) -/
theorem Tryd.strings_Cut (s sep : ByteArray) (m : Int) (w : World) (hs : s.size < 4294967281) (hm : w.cell? ⟨0, 0, none⟩ = some (.int .i64 m)) :
    Calls Tryd.prog 30 #[.string s, .string sep] w fun e w' => e = .returned (.tuple #[.string ⟨(Lib.cut s.data.toList sep.data.toList).1.toArray⟩, .string ⟨(Lib.cut s.data.toList sep.data.toList).2.1.toArray⟩, .bool (Lib.cut s.data.toList sep.data.toList).2.2]) ∧ ∃ n, w' = w.drewN n := Any.strings_Cut Tryd.lays145 s sep m w hs hm
def Tryd.laysSlF06_f46_ren : Go.Shelf.Ren := ⟨fun | 6 => 46 | 15 => 69 | 14 => 68 | 28 => 90 | 29 => 91 | 20 => 82 | 21 => 83 | 22 => 84 | 23 => 85 | 24 => 86 | 25 => 87 | 26 => 88 | 27 => 89 | 46 => 102 | 47 => 103 | 48 => 104 | 49 => 105 | 50 => 106 | 57 => 111 | n => n, fun | 22 => 23 | 24 => 31 | 25 => 74 | 3 => 3 | 39 => 97 | 0 => 0 | 53 => 118 | 55 => 55 | 4 => 4 | 46 => 111 | 45 => 110 | 50 => 115 | 5 => 5 | 9 => 9 | 66 => 137 | 70 => 141 | 76 => 146 | 77 => 147 | n => n, fun | n => n⟩
theorem Tryd.laysSlF06_f46 : Go.Proofs.SlLaysF0.n6 Tryd.prog Tryd.laysSlF06_f46_ren := {
  mixed := by kernel_rfl
  f6 := ⟨Tryd.f46.name, by decide, Tryd.func46.trans (congrArg some (by kernel_rfl))⟩
  f14 := ⟨Tryd.f68.name, by decide, Tryd.func68.trans (congrArg some (by kernel_rfl))⟩
  f15 := Tryd.func69.trans (congrArg some (by kernel_rfl))
  f20 := ⟨Tryd.f82.name, by decide, Tryd.func82.trans (congrArg some (by kernel_rfl))⟩
  f21 := ⟨Tryd.f83.name, by decide, Tryd.func83.trans (congrArg some (by kernel_rfl))⟩
  f22 := ⟨Tryd.f84.name, by decide, Tryd.func84.trans (congrArg some (by kernel_rfl))⟩
  f23 := ⟨Tryd.f85.name, by decide, Tryd.func85.trans (congrArg some (by kernel_rfl))⟩
  f24 := ⟨Tryd.f86.name, by decide, Tryd.func86.trans (congrArg some (by kernel_rfl))⟩
  f25 := ⟨Tryd.f87.name, by decide, Tryd.func87.trans (congrArg some (by kernel_rfl))⟩
  f26 := ⟨Tryd.f88.name, by decide, Tryd.func88.trans (congrArg some (by kernel_rfl))⟩
  f27 := ⟨Tryd.f89.name, by decide, Tryd.func89.trans (congrArg some (by kernel_rfl))⟩
  f28 := Tryd.func90.trans (congrArg some (by kernel_rfl))
  f29 := Tryd.func91.trans (congrArg some (by kernel_rfl))
  f46 := ⟨Tryd.f102.name, by decide, Tryd.func102.trans (congrArg some (by kernel_rfl))⟩
  f47 := Tryd.func103.trans (congrArg some (by kernel_rfl))
  f48 := Tryd.func104.trans (congrArg some (by kernel_rfl))
  f49 := ⟨Tryd.f105.name, by decide, Tryd.func105.trans (congrArg some (by kernel_rfl))⟩
  f50 := ⟨Tryd.f106.name, by decide, Tryd.func106.trans (congrArg some (by kernel_rfl))⟩
  f57 := ⟨Tryd.f111.name, by decide, Tryd.func111.trans (congrArg some (by kernel_rfl))⟩
  t0 := Tryd.underlying0
  a0 := Tryd.isAgg0
  z0 := Tryd.sizeOf0
  v0 := Tryd.zeroValue0
  t3 := Tryd.underlying3
  a3 := Tryd.isAgg3
  z3 := Tryd.sizeOf3
  v3 := Tryd.zeroValue3
  t4 := Tryd.underlying4
  a4 := Tryd.isAgg4
  z4 := Tryd.sizeOf4
  v4 := Tryd.zeroValue4
  t5 := Tryd.underlying5
  a5 := Tryd.isAgg5
  z5 := Tryd.sizeOf5
  v5 := Tryd.zeroValue5
  t9 := Tryd.underlying9
  a9 := Tryd.isAgg9
  z9 := Tryd.sizeOf9
  v9 := Tryd.zeroValue9
  t22 := Tryd.underlying23
  a22 := Tryd.isAgg23
  z22 := Tryd.sizeOf23
  v22 := Tryd.zeroValue23
  t25 := Tryd.underlying74
  a25 := Tryd.isAgg74
  z25 := Tryd.sizeOf74
  v25 := Tryd.zeroValue74
  t39 := Tryd.underlying97
  a39 := Tryd.isAgg97
  z39 := Tryd.sizeOf97
  v39 := Tryd.zeroValue97
  t45 := Tryd.underlying110
  a45 := Tryd.isAgg110
  z45 := Tryd.sizeOf110
  v45 := Tryd.zeroValue110
  t46 := Tryd.underlying111
  a46 := Tryd.isAgg111
  z46 := Tryd.sizeOf111
  v46 := Tryd.zeroValue111
  t50 := Tryd.underlying115
  a50 := Tryd.isAgg115
  z50 := Tryd.sizeOf115
  v50 := Tryd.zeroValue115
  t53 := Tryd.underlying118
  a53 := Tryd.isAgg118
  z53 := Tryd.sizeOf118
  v53 := Tryd.zeroValue118
  t55 := Tryd.underlying55
  a55 := Tryd.isAgg55
  z55 := Tryd.sizeOf55
  v55 := Tryd.zeroValue55
  t66 := Tryd.underlying137
  a66 := Tryd.isAgg137
  z66 := Tryd.sizeOf137
  v66 := Tryd.zeroValue137
  t70 := Tryd.underlying141
  a70 := Tryd.isAgg141
  z70 := Tryd.sizeOf141
  v70 := Tryd.zeroValue141
  t76 := Tryd.underlying146
  a76 := Tryd.isAgg146
  z76 := Tryd.sizeOf146
  v76 := Tryd.zeroValue146
  t77 := Tryd.underlying147
  a77 := Tryd.isAgg147
  z77 := Tryd.sizeOf147
  v77 := Tryd.zeroValue147 }
open Go.RowKit Go.Lib Go.Sort in
/-- **slices.SortFunc: WHAT THE ROW HOLDS, TO THE ELEMENT.** (LAID AT THE INSTANCE 'slices.SortFunc[[]caravan/api.Span,caravan/api.Span]': no walk: one application.) -/
theorem Tryd.slices_SortFunc_eq {α : Type} [Inhabited α] (k : Nat) (aE : ∀ w, (isAgg 31).run Tryd.prog w = .ok true w) (zE : ∀ w, (Go.sizeOf 31).run Tryd.prog w = .ok k w) (enc : α → List Value) (hk : ∀ x, (enc x).length = k) (h1 : ∀ x, ∀ v ∈ enc x, v.oneCell' = true) (cf : α → α → Int) (hO : SWO (ltOf cf)) (g : Nat) (cb : Array Value) (blk off cap : Nat) (d : Array α) (w : World) (eg : ∀ args w, (callFunc g args).run Tryd.prog w = .ok (.enter g args) w) (hcmp : CmpLays Tryd.prog g cb enc k cf blk off d.size w) (hH : HoldsK enc k w blk off d) (hblk : blk < w.heap.size) (hsz : d.size < 4611686018427387904) :
    Calls Tryd.prog 46 #[.slice (some ⟨blk, off, none⟩) d.size cap, .func (.func g) #[] cb] w fun e w' =>
      e = .returned (.tuple #[]) ∧ ∃ n os, w' = sortWorldK enc k w blk off n (pdq (ltOf cf) d 0 d.size (Lib.bitLen d.size) true true) os := AnyQ.slices_SortFunc_eq Tryd.laysSlF06_f46 k aE zE enc hk h1 cf hO g cb blk off cap d w eg hcmp hH hblk hsz
end Go.Proofs

/- Small laws about numbers, texts and lists, and about functions with a number of rounds; for plain statements. No conditions. -/
namespace Go.Pk
open Go Go.RowKit Go.Proofs.YtnlakdpfkgjdaaaDoorW.PrintWords

theorem loop_spec (b : ByteArray) (n : Nat) : ∀ i r, b.size - i = n → ByteArray.toList.loop b i r = r.reverse ++ b.data.toList.drop i := by
  induction n with
  | zero =>
    intro i r h
    unfold ByteArray.toList.loop
    have hl : b.data.toList.length = b.size := by rw [Array.length_toList]; rfl
    rw [if_neg (by omega), List.drop_eq_nil_of_le (by omega), List.append_nil]
  | succ n ih =>
    intro i r h
    unfold ByteArray.toList.loop
    have hl : b.data.toList.length = b.size := by rw [Array.length_toList]; rfl
    rw [if_pos (by omega), ih (i + 1) _ (by omega), List.reverse_cons, List.append_assoc, List.singleton_append, List.drop_eq_getElem_cons (by omega : i < b.data.toList.length)]
    congr 2
    have : i < b.data.size := by rw [Array.length_toList] at hl; omega
    simp [ByteArray.get!, getElem!_pos b.data i this]
theorem toList_data (b : ByteArray) : b.toList = b.data.toList := by
  unfold ByteArray.toList
  rw [loop_spec b _ 0 [] rfl]; simp
theorem toList_inj {a b : ByteArray} (h : a.toList = b.toList) : a = b := by
  rw [toList_data, toList_data] at h
  cases a; cases b; simp at h; rw [h]
theorem toList_iff (a b : ByteArray) : a.toList = b.toList ↔ a = b := ⟨toList_inj, fun h => by rw [h]⟩
theorem toList_append (a b : ByteArray) : (a ++ b).toList = a.toList ++ b.toList := by simp [toList_data]
theorem toList_length (a : ByteArray) : a.toList.length = a.size := by rw [toList_data, Array.length_toList]; rfl

/-- the order of texts -/
theorem less_irrefl (a : List UInt8) : Op.bytesLess a a = false := by
  induction a with
  | nil => rfl
  | cons x a ih => simp [Op.bytesLess, ih]
theorem less_trans : ∀ a b c : List UInt8, Op.bytesLess a b = true → Op.bytesLess b c = true → Op.bytesLess a c = true
  | _, [], _, h, _ => by simp [Op.bytesLess] at h
  | _, _ :: _, [], _, h => by simp [Op.bytesLess] at h
  | [], _ :: _, _ :: _, _, _ => rfl
  | x :: a, y :: b, z :: c, h, k => by
    simp only [Op.bytesLess, Bool.or_eq_true, Bool.and_eq_true, decide_eq_true_eq, beq_iff_eq] at h k ⊢
    rcases h with h | ⟨rfl, h⟩ <;> rcases k with k | ⟨rfl, k⟩
    · exact .inl (UInt8.lt_trans h k)
    · exact .inl h
    · exact .inl k
    · exact .inr ⟨rfl, less_trans a b c h k⟩
theorem less_total : ∀ a b : List UInt8, Op.bytesLess a b = true ∨ a = b ∨ Op.bytesLess b a = true
  | [], [] => .inr (.inl rfl)
  | [], _ :: _ => .inl rfl
  | _ :: _, [] => .inr (.inr rfl)
  | x :: a, y :: b => by
    simp only [Op.bytesLess, Bool.or_eq_true, Bool.and_eq_true, decide_eq_true_eq, beq_iff_eq]
    rcases Nat.lt_trichotomy x.toNat y.toNat with h | h | h
    · exact .inl (.inl h)
    · obtain rfl : x = y := UInt8.toNat_inj.1 h
      rcases less_total a b with h | rfl | h
      · exact .inl (.inr ⟨rfl, h⟩)
      · exact .inr (.inl rfl)
      · exact .inr (.inr (.inr ⟨rfl, h⟩))
    · exact .inr (.inr (.inl h))
theorem less_append : ∀ a b s t : List UInt8, a.length = b.length → Op.bytesLess (a ++ s) (b ++ t) = (Op.bytesLess a b || (a == b && Op.bytesLess s t))
  | [], [], s, t, _ => by simp [Op.bytesLess]
  | x :: a, y :: b, s, t, h => by
    simp only [List.cons_append, Op.bytesLess, less_append a b s t (by simpa using h)]
    by_cases hxy : x = y
    · subst hxy; simp
    · have hf : (x == y) = false := by simpa using hxy
      have hg : (x :: a == y :: b) = false := by simp [hxy]
      simp [hf]
  | [], _ :: _, _, _, h => by cases h
  | _ :: _, [], _, _, h => by cases h

theorem w64 {n : Int} (h1 : -9223372036854775808 ≤ n) (h2 : n ≤ 9223372036854775807) : wrap64 n = n := by unfold wrap64; omega
theorem u64w (n : Int) : IntKind.u64.wrap n = n % 18446744073709551616 := by simp [IntKind.wrap, IntKind.signed, IntKind.bits]
theorem rdOf_at {α : Type} (d : α) (xs : List α) (k : Nat) (h : k < xs.length) : rdOf d xs (k : Int) = xs[k] := by
  unfold rdOf; rw [Int.toNat_natCast, List.getD_eq_getElem?_getD, List.getElem?_eq_getElem h]; rfl
theorem rdOf_get {α : Type} (d : α) (xs : List α) (k : Nat) (x : α) (h : xs[k]? = some x) : rdOf d xs (k : Int) = x := by
  unfold rdOf; rw [Int.toNat_natCast, List.getD_eq_getElem?_getD, h]; rfl
theorem wf_u8 {x : Int} (h : (Lit.int .u8 x).wf = true) : 0 ≤ x ∧ x ≤ 255 := by
  simp only [Lit.wf] at h
  revert h; simp [IntKind.min, IntKind.max, IntKind.signed, IntKind.bits]
theorem wf_u16 {x : Int} (h : (Lit.int .u16 x).wf = true) : 0 ≤ x ∧ x ≤ 65535 := by
  simp only [Lit.wf] at h
  revert h; simp [IntKind.min, IntKind.max, IntKind.signed, IntKind.bits]
theorem wf_i16 {x : Int} (h : (Lit.int .i16 x).wf = true) : -32768 ≤ x ∧ x ≤ 32767 := by
  simp only [Lit.wf] at h
  revert h; simp [IntKind.min, IntKind.max, IntKind.signed, IntKind.bits]
theorem wf_i32 {x : Int} (h : (Lit.int .i32 x).wf = true) : -2147483648 ≤ x ∧ x ≤ 2147483647 := by
  simp only [Lit.wf] at h
  revert h; simp [IntKind.min, IntKind.max, IntKind.signed, IntKind.bits]
theorem wf_i64 {x : Int} (h : (Lit.int .i64 x).wf = true) : -9223372036854775808 ≤ x ∧ x ≤ 9223372036854775807 := by
  simp only [Lit.wf] at h
  revert h; simp [IntKind.min, IntKind.max, IntKind.signed, IntKind.bits]

/-- A round: what a loop comes to at k + 1 is what its next state comes to at k. -/
theorem Ev.next {α : Type} {g f : Nat → Option α} {r : α} (h : ∀ k, g (k + 1) = f k) (k : Ev f r) : Ev g r := Ev.step h k
theorem Ev.seq {α β : Type} {g : Nat → Option α} {f : Nat → α → Option β} {a : α} {r : β} (h : Ev g a) (k : Ev (fun n => f n a) r) : Ev (fun n => (g n).bind (f n)) r := Ev.bind h k
theorem Ev.const {α : Type} {o : Option α} {r : α} (h : o = some r) : Ev (fun _ => o) r := ⟨0, fun _ _ => h⟩
theorem Ev.at {α : Type} {g : Nat → Option α} {r : α} (hg : ∀ k, LeO (g k) (g (k + 1))) (k : Nat) (h : g k = some r) : Ev g r := Ev.of hg h
/-- from the last place down to any -/
theorem up {n : Nat} {P : Nat → Prop} (last : P n) (step : ∀ i, i < n → P (i + 1) → P i) : ∀ i, i ≤ n → P i := by
  intro i hi
  obtain ⟨d, hd⟩ : ∃ d, i + d = n := ⟨n - i, by omega⟩
  induction d generalizing i with
  | zero => obtain rfl : i = n := by omega
            exact last
  | succ d ih => exact step i (by omega) (ih (i + 1) (by omega) (by omega))
theorem drop_at {α : Type} (l : List α) (i : Nat) (h : i < l.length) : l.drop i = l[i] :: l.drop (i + 1) := List.drop_eq_getElem_cons h
theorem dec_yes {α : Type} [DecidableEq α] {x y : α} (e : x = y) (a b : List α) : decide (a = b) = decide (x :: a = y :: b) := by subst e; simp
theorem dec_no {α : Type} [DecidableEq α] {x y : α} (e : ¬ x = y) (a b : List α) : false = decide (x :: a = y :: b) := by simp [e]
theorem Ev.same {α : Type} {g : Nat → Option α} {r r' : α} (h : Ev g r) (e : r = r') : Ev g r' := e ▸ h
theorem Ev.fn {α : Type} {g f : Nat → Option α} {r : α} (e : ∀ k, g k = f k) (h : Ev f r) : Ev g r := Ev.congr e h
theorem Ev.out {α : Type} {g : Nat → Option α} {r : α} (h : Ev g r) : ∃ K, ∀ k, K ≤ k → g k = some r := h
theorem beq_toList (a b : ByteArray) : (a.toList == b.toList) = decide (a = b) := by
  rw [Bool.eq_iff_iff]; simp [toList_iff]
end Go.Pk

/- strconv's variables as they are laid, what Atoi answers. Condition: the texts' lengths below 2^40. -/
namespace Go.Proofs.YtnlakdpfkgjdaaaDoor
open Go.RowKit Go.Cav

/-- strconv's variables are as they are laid -/
structure Wd (w : World) : Prop where
  tab : Lib.TabIs Tryd.prog w "internal/strconv.uint64pow10" .u64 Lib.pow10Tab
  syn : ∃ ev, w.cell? ⟨1, 0, none⟩ = some ev ∧ (ev = .nilIface ∨ ∃ te pe, ev = .iface te pe)
  rng : ∃ ev, w.cell? ⟨2, 0, none⟩ = some ev ∧ (ev = .nilIface ∨ ∃ te pe, ev = .iface te pe)
  most : ∃ m, w.cell? ⟨0, 0, none⟩ = some (.int .i64 m)
theorem Wd.of {w w' : World} (h : Wd w) (hb : Below w.heap.size w w') : Wd w' := by
  refine ⟨(Lib.tabBelow_of_tabIs h.tab) w' hb, ?_, ?_, ?_⟩
  · obtain ⟨ev, h1, h2⟩ := h.syn
    exact ⟨ev, (Stir.of_below hb (fun _ => False)).cell h1 (fun e => e), h2⟩
  · obtain ⟨ev, h1, h2⟩ := h.rng
    exact ⟨ev, (Stir.of_below hb (fun _ => False)).cell h1 (fun e => e), h2⟩
  · obtain ⟨m, h1⟩ := h.most
    exact ⟨m, (Stir.of_below hb (fun _ => False)).cell h1 (fun e => e)⟩

/-- the number that a text is -/
def numP (s : ByteArray) : Option Int :=
  match Lib.atoiAll s.data.toList with
  | .ok v => if Lib.itoa v = s.data.toList then some v else none
  | _ => none

theorem grow_b (w : World) (k : Nat) (os : Array Obj) : Below w.heap.size w (Sort.grow (w.drewN k) os) := by
  have h := (Stir.refl (fun _ => False) w).drewN k
  have h2 : Stir (fun _ => False) (w.drewN k) (Sort.grow (w.drewN k) os) := ⟨rfl, rfl, rfl, by simp [Sort.grow], fun i hi _ => by simp only [Sort.grow]; rw [Array.getElem?_append_left hi]⟩
  exact (h.trans h2 (fun _ _ e => e)).below (Nat.le_refl _) (fun _ e => e.elim)
theorem atoi_ok_below {w w' : World} (h : w' = w ∨ ∃ t, w' = Lib.bytesWorld w 5 t) : Below w.heap.size w w' := by
  rcases h with rfl | ⟨t, rfl⟩
  · exact Below.refl _ _
  · exact Lib.bytesWorld_below _ _ _


/-- what Atoi answers where its error is passed over -/
def atoiV (s : ByteArray) : Int :=
  match Lib.atoiAll s.data.toList with
  | .ok v => v
  | .«syntax» => 0
  | .range => Lib.atoiSat s.data.toList
theorem atoi_any (s : ByteArray) (hs : s.size ≤ 281474976710656) (w : World) (hW : Wd w) :
    Calls Tryd.prog 31 #[.string s] w fun e w' => ∃ ev, e = .returned (.tuple #[.int .i64 (atoiV s), ev]) ∧ Below w.heap.size w w' := by
  obtain ⟨ev0, hv0, he0⟩ := hW.syn
  obtain ⟨ev1, hv1, he1⟩ := hW.rng
  unfold atoiV
  cases hc : Lib.atoiAll s.data.toList with
  | «syntax» =>
    refine (Tryd.strconv_Atoi_syntax s hs hc ev0 w hv0 he0).mono ?_
    rintro e w1 ⟨N, rfl, -, -, hb⟩
    exact ⟨_, rfl, hb⟩
  | range =>
    refine (Tryd.strconv_Atoi_range s hs hc ev1 w hv1 he1).mono ?_
    rintro e w1 ⟨N, rfl, -, -, hb⟩
    exact ⟨_, rfl, hb⟩
  | ok v =>
    refine (Tryd.strconv_Atoi_ok s (by omega) v hc w).mono ?_
    rintro e w1 ⟨rfl, hb⟩
    exact ⟨_, rfl, atoi_ok_below hb⟩
def itoaB (n : Int) : ByteArray := ⟨(Lib.itoa n).toArray⟩
theorem itoa_any (n : Int) (h0 : -9223372036854775808 ≤ n) (h1 : n ≤ 9223372036854775807) (w : World) (hW : Wd w) : Calls Tryd.prog 35 #[.int .i64 n] w fun e w' => e = .returned (.string (itoaB n)) ∧ Below w.heap.size w w' :=
  (Tryd.strconv_Itoa n h0 h1 w hW.tab).mono fun e w' ⟨h1, k, os, h2⟩ => ⟨h1, by subst h2; exact grow_b w k os⟩
theorem itoaB_size (n : Int) (h0 : -9223372036854775808 ≤ n) (h1 : n ≤ 9223372036854775807) : (itoaB n).size ≤ 21 := by
  have e : (itoaB n).size = (Lib.itoa n).length := rfl
  rw [e]; exact Lib.itoa_length_le n h0 h1
theorem atoiV_bounds (s : ByteArray) : -9223372036854775808 ≤ atoiV s ∧ atoiV s ≤ 9223372036854775807 := by
  unfold atoiV
  cases hc : Lib.atoiAll s.data.toList with
  | «syntax» => exact ⟨by simp, by simp⟩
  | range =>
    simp only [Lib.atoiSat]
    split <;> omega
  | ok v => exact Lib.atoiAll_bounds hc
end Go.Proofs.YtnlakdpfkgjdaaaDoor

/- From what a row lists as laid to the facts on the library's variables, and a world that meets it; the row's wrap with the world's shape. No conditions. -/
namespace Go.Cav
open Go
variable {H : Type} {enc : TypeId × Value → H}
/-- a row's wrap: what was listed as laid, and the world's shape, are handed on -/
theorem handed_shaped {a : Assume} {C : Checked} {os : Os} {f : FuncId} {fn : Func} {s : ChangeSpec} {conds : List PathCond} {apart fresh handsOn again : Bool} {X : World → Array Value → Prop}
    (hX : ∀ (w w' : World) (args : Array Value), w.heap = w'.heap → X w args → X w' args)
    (own : ownKnob C.prog.godebug = none) (started : os.Started) (noInit : C.prog.inits.idxOf? f = none) (hfn : C.prog.funcs[f]? = some fn)
    (witness : ∃ (w : World) (tape : Tape) (i : Input), w.os = os ∧ (w.forCall tape i).Shaped C.prog ∧ i.vars = [] ∧ Input.okWide C.prog (w.forCall tape i) .any w.heap.size f i ∧
      ((s.pre enc C.prog fn conds apart (w.forCall tape i).memory i.args ∧ X (w.forCall tape i).memory i.args) ∧ sizedMet enc C.prog fn (OpenSpec.ofChange s) apart (w.forCall tape i).memory i.args) ∧ a.holds C.prog (lone (Frame.enter C.prog f i.args .normal) [] (w.forCall tape i)))
    (contract : ∀ (W : World) (base : Nat) (args : Array Value) (ds gs : List (DataW H)) (before : List MemPlace),
      (∀ (j : Nat) t v, fn.params[j]? = some t → args[j]? = some v → Value.okWide C.prog W .any base t v) →
      DataW.Whole enc C.prog fn.params.toList s.vars apart W args.toList ds gs before →
      conds.all (PathCond.test C.prog ⟨fn.params.toList, ds, s.plain.varTypes C.prog, gs⟩) = true →
      (DataW.weightsEach C.prog (fn.params.toList ++ s.plain.varTypes C.prog) (ds ++ gs)).all (· ≤ reachBytes) = true → X W args → W.ShapedOpen C.prog →
      Calls C.prog f args W fun e W' => ∃ v, e = .returned v ∧ s.post enc C.prog fn apart fresh handsOn again W args v W') :
    ReturnsInHanded a C os f .any (fun w args => (s.pre enc C.prog fn conds apart w args ∧ X w args) ∧ sizedMet enc C.prog fn (OpenSpec.ofChange s) apart w args) (s.post enc C.prog fn apart fresh handsOn again) := by
  refine returnsInHanded_of_calls own started noInit witness ?_
  intro w tape i _ sh _ ok pre _
  obtain ⟨_, _, _, fn2, hf2, _, _, _, _, val⟩ := ok
  obtain rfl : fn2 = fn := Option.some.inj (hf2.symm.trans hfn)
  obtain ⟨⟨⟨ds, gs, before, hw, hc⟩, hx⟩, hz⟩ := pre
  refine (contract (w.forCall tape i) w.heap.size i.args ds gs before val (DataW.Whole.of_heap (w' := w.forCall tape i) (by rfl) hw) hc (hz.weights hw) (hX _ _ _ (by rfl) hx) sh).mono ?_
  rintro e W' ⟨v, rfl, hp⟩
  exact ChangeSpec.post_blind hp
end Go.Cav
namespace Go.Proofs.YtnlakdpfkgjdaaaDoor
open Go.RowKit

def lst : List (String × DataW Unit) := [("math/bits.deBruijn32tab", Rows.laid_math_bits_deBruijn32tab), ("math/bits.deBruijn64tab", Rows.laid_math_bits_deBruijn64tab), ("internal/strconv.uint64pow10", Rows.laid_internal_strconv_uint64pow10), ("unicode/utf8.acceptRanges", Rows.laid_unicode_utf8_acceptRanges), ("strconv.ErrRange", Rows.laid_strconv_ErrRange), ("strconv.ErrSyntax", Rows.laid_strconv_ErrSyntax), ("unicode/utf8.first", Rows.laid_unicode_utf8_first)]
theorem gES : Tryd.prog.globalNamed "strconv.ErrSyntax" = some 1 := by kernel_rfl
theorem gEST : (Tryd.prog.globals[1]?).map (·.type) = some 52 := by kernel_rfl
theorem gER : Tryd.prog.globalNamed "strconv.ErrRange" = some 2 := by kernel_rfl
theorem gERT : (Tryd.prog.globals[2]?).map (·.type) = some 52 := by kernel_rfl
theorem gT : Tryd.prog.globalNamed "internal/strconv.uint64pow10" = some 5 := by kernel_rfl
theorem gTT : (Tryd.prog.globals[5]?).map (·.type) = some 144 := by kernel_rfl
theorem c93 : Tryd.prog.cellsOf 136 = 1 := by kernel_rfl
theorem c9 : Tryd.prog.cellsOf 9 = 1 := by kernel_rfl
theorem c42 : Tryd.prog.cellsOf 55 = 1 := by kernel_rfl
theorem c96 : Tryd.prog.cellsOf 144 = 20 := by kernel_rfl
theorem star : "*" ++ "errors.errorString" = "*errors.errorString" := by decide
theorem row91 (u : TypeId) (h : Tryd.prog.typeName? 3 u = some "*errors.errorString") : u = 134 :=
  typeName_ptr_named (nm := "errors.errorString") (by rw [star]; kernel_rfl) (by kernel_rfl) (by decide) u (by rw [star]; exact h)
theorem wd_of_laid {W : World} (h : laidMet Tryd.prog lst W) (hs : W.ShapedOpen Tryd.prog) : Wd W := by
  refine ⟨Lib.tabIs_of_head gT gTT Tryd.underlying144 Tryd.underlying55 c42 c96 h.tail.tail, ?_, ?_, cell_of_shapedOpen_int (g := 0) hs (Nat.lt_of_lt_of_eq (by decide) (show 8 = Tryd.prog.globals.size by kernel_rfl)) (t := 3) (zero := #[.int .i64 0]) (by kernel_rfl) rfl (by kernel_rfl) (by kernel_rfl) Tryd.underlying3⟩
  · obtain ⟨a, s, hv, -, -, -⟩ := laid_sentinel h.tail.tail.tail.tail.tail gES gEST Tryd.underlying52 row91 Tryd.underlying134 Tryd.underlying136 rfl rfl Tryd.underlying9 c93 c9
    exact ⟨_, by have h0 := World.var?_cell gES hv 0; simpa using h0, .inr ⟨_, _, rfl⟩⟩
  · obtain ⟨a, s, hv, -, -, -⟩ := laid_sentinel h.tail.tail.tail.tail gER gERT Tryd.underlying52 row91 Tryd.underlying134 Tryd.underlying136 rfl rfl Tryd.underlying9 c93 c9
    exact ⟨_, by have h0 := World.var?_cell gER hv 0; simpa using h0, .inr ⟨_, _, rfl⟩⟩

/-! A world that meets it. -/
abbrev synS : ByteArray := { data := #[105, 110, 118, 97, 108, 105, 100, 32, 115, 121, 110, 116, 97, 120] }
abbrev rngS : ByteArray := { data := #[118, 97, 108, 117, 101, 32, 111, 117, 116, 32, 111, 102, 32, 114, 97, 110, 103, 101] }
noncomputable def low : Nat := (World.holding Tryd.prog default ⟨#[], #[], []⟩).heap.size
noncomputable def partsOf (k : IntKind) : DataW Unit → Array Value
  | .agg l => (l.map fun | .lit (.int _ z) => Value.int k z | _ => undef).toArray
  | _ => #[]
noncomputable def partsOf2 (k : IntKind) : DataW Unit → Array Value
  | .agg l => (l.flatMap fun d => (partsOf k d).toList).toArray
  | _ => #[]
def setCells (w : World) (g : Nat) (cs : Array Value) : World :=
  { w with heap := w.heap.modify g fun
      | .cells _ t frozen => .cells cs t frozen
      | o => o }
noncomputable def laidWorld (os : Os) : World :=
  let w0 := World.holding Tryd.prog os ⟨#[.cells #[.string synS] 136, .cells #[.string rngS] 136], #[], []⟩
  setCells (setCells (setCells (setCells (setCells (setCells (setCells w0 1 #[.iface 134 (.pointer (some ⟨low, 0, none⟩))]) 2 #[.iface 134 (.pointer (some ⟨low + 1, 0, none⟩))]) 5 (partsOf .u64 Rows.laid_internal_strconv_uint64pow10)) 6 (partsOf .u8 Rows.laid_math_bits_deBruijn32tab)) 7 (partsOf .u8 Rows.laid_math_bits_deBruijn64tab)) 4 (partsOf2 .u8 Rows.laid_unicode_utf8_acceptRanges)) 3 (partsOf .u8 Rows.laid_unicode_utf8_first)
set_option maxRecDepth 100000 in
theorem laidWorld_met (os : Os) (args : Array Value) : laidMet Tryd.prog lst ((laidWorld os).forCall (fun _ _ => 0) ⟨#[], args, []⟩).memory :=
  laidMet_of_run3 8 (by kernel_rfl) (by kernel_rfl) (by kernel_rfl)
end Go.Proofs.YtnlakdpfkgjdaaaDoor

/- What functions of the translation come to, and their calls' proofs; by a program of mine over the kit's print, with contracts given by hand beside. Conditions: where a plain function tells none, nothing is said. -/
namespace Go.Proofs.YtnlakdpfkgjdaaaDoor.G
open Go.RowKit Go.Proofs.YtnlakdpfkgjdaaaDoorW.PrintWords Go.Proofs.YtnlakdpfkgjdaaaDoorW.PrintLast Go.Proofs.YtnlakdpfkgjdaaaDoorW.PrintMore
attribute [local go_sem] max2_int min2_int max_two min_two max_three min_three max_four min_four   -- for this text's walks alone
set_option linter.unusedVariables false
set_option linter.unusedSimpArgs false



theorem cAt_ {α : Type} {R : α → List Value → Prop} {size : Nat} {w : World} {A : Option Addr} {n n1 : Nat} {ps : List α} (h : ReadsRow R size w A n ps) (e : n = n1) : ReadsRow R size w A n1 ps := e ▸ h
def errW : Option Int → Value
  | none => .nilIface
  | some c => .iface 0 (.int .i64 c)
theorem errW_none : errW none = .nilIface := rfl
theorem errW_some (c : Int) : errW (some c) = .iface 0 (.int .i64 c) := rfl

theorem info3 : (Tryd.prog.info? 3).map (fun i => (i.zero, i.size, i.bytes)) = some (some (.int .i64 0), 1, 8) := by kernel_rfl
theorem info4 : (Tryd.prog.info? 4).map (fun i => (i.zero, i.size, i.bytes)) = some (some (.bool false), 1, 1) := by kernel_rfl
theorem info5 : (Tryd.prog.info? 5).map (fun i => (i.zero, i.size, i.bytes)) = some (some (.int .u8 0), 1, 1) := by kernel_rfl
theorem info9 : (Tryd.prog.info? 9).map (fun i => (i.zero, i.size, i.bytes)) = some (some (.string ⟨#[]⟩), 1, 16) := by kernel_rfl
theorem info23 : (Tryd.prog.info? 23).map (fun i => (i.zero, i.size, i.bytes)) = some (some (.slice none 0 0), 1, 24) := by kernel_rfl
theorem info31 : (Tryd.prog.info? 31).map (fun i => (i.zero, i.size, i.bytes)) = some (some (.agg #[(.int .i64 0), (.int .i64 0)]), 2, 16) := by kernel_rfl
-- the values' own types
/-! #### struct type 31 -/
structure S31 where
  f0 : Int
  f1 : Int
def z31 : S31 := ⟨(0 : Int), (0 : Int)⟩
def k31 : Kd S31 := Kd.iso (Kd.pair (Kd.int .i64) (Kd.int .i64)) (fun x : S31 => (x.f0, x.f1))
theorem k31_heap : Kd.Heap k31 := Kd.heap_iso _ (Kd.heap_pair (Kd.heap_int .i64) (Kd.heap_int .i64))
theorem k31_open {w : World} {x : S31} {cs : List Value} (h : k31.K w x cs) : cs = [.int .i64 x.f0, .int .i64 x.f1] := by
  obtain ⟨_, _, rfl, rfl, rfl⟩ := h
  exact rfl
theorem k31_openM {w : World} {base : Nat} {ok : Nat → Prop} {x : S31} {cs : List Value} (h : k31.M w base ok x cs) : cs = [.int .i64 x.f0, .int .i64 x.f1] := by
  obtain ⟨_, _, rfl, rfl, rfl⟩ := h
  exact rfl
theorem k31_mk (w : World) (x : S31)  : k31.K w x [.int .i64 x.f0, .int .i64 x.f1] := ⟨[.int .i64 x.f0], [.int .i64 x.f1], rfl, rfl, rfl⟩
theorem k31_mkM (w : World) (base : Nat) (ok : Nat → Prop) (x : S31)  : k31.M w base ok x [.int .i64 x.f0, .int .i64 x.f1] := ⟨[.int .i64 x.f0], [.int .i64 x.f1], rfl, rfl, rfl⟩
theorem k31_mkF (W : World) (ok : Nat → Prop) (x : S31) : Kd.FK k31 W ok x [.int .i64 x.f0, .int .i64 x.f1] := fun W2 _ => k31_mk W2 x
def rd_T31 (xs : List S31) (i : Int) : S31 := xs.getD i.toNat z31
theorem at_T31 {w : World} {A : Option Addr} {n : Nat} {xs : List S31} (h : Kd.C k31 w A n xs) (i : Int) (h0 : 0 ≤ i) (h1 : i < n) : ∃ ad , A = some ad ∧ w.cell? (ad.add (i.toNat * 2)) = some (.int .i64 (rd_T31 xs i).f0) ∧ w.cell? ⟨(ad.add (i.toNat * 2)).block, (ad.add (i.toNat * 2)).off + 1, none⟩ = some (.int .i64 (rd_T31 xs i).f1) := by
  obtain ⟨ad, c, e, _, hK, hc0⟩ := Kd.C_get h z31 i h0 h1
  have hc : ∀ j u, c[j]? = some u → w.cell? (ad.add (i.toNat * 2 + j)) = some u := hc0
  obtain rfl := k31_open hK
  exact ⟨ad, e, hc 0 _ rfl, by rw [← add_field _ _ 1 (by omega)]; exact hc 1 _ rfl⟩

def rd_L2 (xs : List (List S31)) (i : Int) : (List S31) := xs.getD i.toNat ([] : List S31)
theorem at_L2 {w : World} {A : Option Addr} {n : Nat} {xs : List (List S31)} (h : Kd.C (Kd.slice 31 k31) w A n xs) (i : Int) (h0 : 0 ≤ i) (h1 : i < n) : ∃ ad A0 c0, A = some ad ∧ w.cell? (ad.add i.toNat) = some (.slice A0 (rd_L2 xs i).length c0) ∧ (rd_L2 xs i).length ≤ c0 ∧ k31.C w A0 (rd_L2 xs i).length (rd_L2 xs i) := by
  obtain ⟨ad, c, e, _, hK, hc0⟩ := Kd.C_get h ([] : List S31) i h0 h1
  have hc : ∀ j u, c[j]? = some u → w.cell? (ad.add (i.toNat * 1 + j)) = some u := hc0
  obtain ⟨A0, c0, rfl, l0, g0⟩ := hK
  exact ⟨ad, A0, c0, e, by have hq := hc 0 _ rfl; rwa [Nat.mul_one, Nat.add_zero] at hq, l0, g0⟩

def rd_L4 (xs : List (List ByteArray)) (i : Int) : (List ByteArray) := xs.getD i.toNat ([] : List ByteArray)
theorem at_L4 {w : World} {A : Option Addr} {n : Nat} {xs : List (List ByteArray)} (h : Kd.C (Kd.slice 9 Kd.string) w A n xs) (i : Int) (h0 : 0 ≤ i) (h1 : i < n) : ∃ ad A0 c0, A = some ad ∧ w.cell? (ad.add i.toNat) = some (.slice A0 (rd_L4 xs i).length c0) ∧ (rd_L4 xs i).length ≤ c0 ∧ Kd.string.C w A0 (rd_L4 xs i).length (rd_L4 xs i) := by
  obtain ⟨ad, c, e, _, hK, hc0⟩ := Kd.C_get h ([] : List ByteArray) i h0 h1
  have hc : ∀ j u, c[j]? = some u → w.cell? (ad.add (i.toNat * 1 + j)) = some u := hc0
  obtain ⟨A0, c0, rfl, l0, g0⟩ := hK
  exact ⟨ad, A0, c0, e, by have hq := hc 0 _ rfl; rwa [Nat.mul_one, Nat.add_zero] at hq, l0, g0⟩

def rd_L8 (xs : List (List (List S31))) (i : Int) : (List (List S31)) := xs.getD i.toNat ([] : List (List S31))
theorem at_L8 {w : World} {A : Option Addr} {n : Nat} {xs : List (List (List S31))} (h : Kd.C (Kd.slice 23 (Kd.slice 31 k31)) w A n xs) (i : Int) (h0 : 0 ≤ i) (h1 : i < n) : ∃ ad A0 c0, A = some ad ∧ w.cell? (ad.add i.toNat) = some (.slice A0 (rd_L8 xs i).length c0) ∧ (rd_L8 xs i).length ≤ c0 ∧ (Kd.slice 31 k31).C w A0 (rd_L8 xs i).length (rd_L8 xs i) := by
  obtain ⟨ad, c, e, _, hK, hc0⟩ := Kd.C_get h ([] : List (List S31)) i h0 h1
  have hc : ∀ j u, c[j]? = some u → w.cell? (ad.add (i.toNat * 1 + j)) = some u := hc0
  obtain ⟨A0, c0, rfl, l0, g0⟩ := hK
  exact ⟨ad, A0, c0, e, by have hq := hc 0 _ rfl; rwa [Nat.mul_one, Nat.add_zero] at hq, l0, g0⟩

def ml_ (n b : Nat) : Array Bool := ((List.range n).map fun i => b.testBit i).toArray
theorem q8524_ {p p0_ : Prop} (x0_ : p0_) (f_ : p0_ → p := by intro x0_; (with_reducible repeat (first | apply Kd.R_alloc | apply Kd.R_drewN | apply Kd.R_drew)); exact x0_) : p := f_ x0_
theorem qdb35_ {p p0_ : Prop} (x0_ : p0_) (f_ : p0_ → p := by intro x0_; repeat (first | (with_reducible first | exact x0_ | apply below_alloc | apply pw_below_drewN | apply below_drew1) | exact x0_)) : p := f_ x0_
theorem q8d66_ {p p0_ : Prop} (x0_ : p0_) (f_ : p0_ → p := by intro x0_; repeat (first | (with_reducible first | exact x0_ | apply Kept.alloc | apply Kept.drewN | apply Kept.drew) | exact x0_)) : p := f_ x0_
theorem qed14_ {p p0_ p1_ : Prop} (x0_ : p0_) (x1_ : p1_) (f_ : p0_ → p1_ → p := by intro x0_ x1_; repeat (first | (with_reducible first | exact x0_ | apply below_alloc | apply pw_below_drewN | apply below_drew1 | refine below_set ?_ x1_) | exact x0_)) : p := f_ x0_ x1_
theorem q3f7a_ {p p0_ : Prop} (x0_ : p0_) (f_ : p0_ → p := by intro x0_; repeat (first | (with_reducible exact x0_) | (with_reducible refine Kd.C_alloc ?_ _) | (with_reducible refine Kd.C_drewN ?_ _) | (with_reducible refine Kd.C_drew ?_) | exact x0_)) : p := f_ x0_
theorem q1466_ {p p0_ : Prop} (x0_ : p0_) (f_ : p0_ → p := by intro x0_; (with_reducible repeat (first | refine blk_drewN ?_ _ | refine blk_drew ?_ | refine blk_alloc ?_ _)); exact x0_) : p := f_ x0_
section
variable {P : Program} {ops : Array Oper} {Q : Exit → Act → World → Prop} {md : Region.Mode} {S : World → Prop} {ds : List Nat}
theorem qC_ {p q : Prop} (h : q) (f : q → p := by intro h_; repeat (first | exact h_ | (with_reducible refine Kd.C_alloc ?_ _) | (with_reducible refine Kd.C_drewN ?_ _) | (with_reducible refine Kd.C_drew ?_))) : p := f h
theorem qM_ {p : Prop} (f : p := by (try simp only [List.map_toArray, List.map_cons, List.map_nil]); first | done | rfl | (simp only [List.length_drop, List.length_take]; rfl)) : p := f
theorem nA_ (N : Nat) {v : Value} {fuel : Nat} {l : Array Bool} {a a' : Act} {w : World} (h : wpAnyLast P md ops Q S ds fuel l a' w) (ha : a.put (some N) v = a' := by (simp only [Act.put, List.setIfInBounds_toArray, List.set_cons_zero, List.set_cons_succ, i64_w, i32_w]); rfl) : wpAnyLast P md ops Q S ds fuel l (a.put (some N) v) w := norm_ ha h
theorem pA_ (i N : Nat) {oi : Oper} {v : Value} {fuel : Nat} {l : Array Bool} {a : Act} {w : World} (l' : Array Bool) (hi : ops[i]? = some oi) (hN : oi.dst = some N) {T : Bool × List (List Nat × List Nat)} (hT : rtab md ops = T) {a' : Act} (h : wpAnyLast P md ops Q S ds fuel l' a' w)
    (hw : Region.wanted oi (yielded ops a.tmps) = true := by rfl) (hy : ∀ w', (execOp a.eval oi).run P w' = .ok (.value v) w' := by intro w'; go_simp; with_reducible rfl)
    (ha : a.put (some N) v = a' := by (simp only [Act.put, List.setIfInBounds_toArray, List.set_cons_zero, List.set_cons_succ, i64_w, i32_w]); rfl)
    (hc : anyT T l.toList l'.toList i = true := by kernel_rfl) (hQ : ∀ c a w, Q (.panic c) (a.put oi.dst v) w → Q (.panic c) a w := by exact fun _ _ _ h => h) : wpAnyLast P md ops Q S ds (fuel + 1) l a w :=
  pure_ l' hi hN (any_of hT hc) hQ (Or.inl ⟨hw, hy⟩) ha h
theorem pU_ (i N : Nat) {oi : Oper} {fuel : Nat} {l : Array Bool} {a : Act} {w : World} (l' : Array Bool) (hi : ops[i]? = some oi) (hN : oi.dst = some N) {T : Bool × List (List Nat × List Nat)} (hT : rtab md ops = T) {a' : Act} (h : wpAnyLast P md ops Q S ds fuel l' a' w)
    (hw : Region.wanted oi (yielded ops a.tmps) = false := by rfl)
    (ha : a.put (some N) undef = a' := by (simp only [Act.put, List.setIfInBounds_toArray, List.set_cons_zero, List.set_cons_succ, i64_w, i32_w]); rfl)
    (hc : anyT T l.toList l'.toList i = true := by kernel_rfl) (hQ : ∀ c a w, Q (.panic c) (a.put oi.dst undef) w → Q (.panic c) a w := by exact fun _ _ _ h => h) : wpAnyLast P md ops Q S ds (fuel + 1) l a w :=
  pure_ (v := undef) l' hi hN (any_of hT hc) hQ (Or.inr ⟨hw, rfl⟩) ha h
theorem t2_ (i N : Nat) {oi : Oper} {v : Value} {fuel : Nat} {l : Array Bool} {a : Act} {w : World} (l' : Array Bool) (hi : ops[i]? = some oi) (hN : oi.dst = some N) {T : Bool × List (List Nat × List Nat)} (hT : rtab md ops = T) {B : List Nat} (hB : waitsOk T.2 B = true) (hS : S w) {a' : Act} (h : wpAnyLast P md ops Q S ds fuel l' a' w)
    (hw : Region.wanted oi (yielded ops a.tmps) = true := by rfl) (hy : ∀ w', S w' → (execOp a.eval oi).run P w' = .ok (.value v) w' := by rintro w' ⟨s0, s1⟩; go_simp; with_reducible rfl)
    (ha : a.put (some N) v = a' := by (simp only [Act.put, List.setIfInBounds_toArray, List.set_cons_zero, List.set_cons_succ, i64_w, i32_w]); rfl)
    (hc : takeW T B ds l.toList l'.toList i = true := by kernel_rfl) (hQ : ∀ c a w, Q (.panic c) (a.put oi.dst v) w → Q (.panic c) a w := by exact fun _ _ _ h => h) : wpAnyLast P md ops Q S ds (fuel + 1) l a w :=
  take_ l' hi hN (take_ofW hT hB hc) hQ (Or.inl ⟨hw, hy⟩) hS ha h
theorem t3_ (i N : Nat) {oi : Oper} {v : Value} {fuel : Nat} {l : Array Bool} {a : Act} {w : World} (l' : Array Bool) (hi : ops[i]? = some oi) (hN : oi.dst = some N) {T : Bool × List (List Nat × List Nat)} (hT : rtab md ops = T) {B : List Nat} (hB : waitsOk T.2 B = true) (hS : S w) {a' : Act} (h : wpAnyLast P md ops Q S ds fuel l' a' w)
    (hw : Region.wanted oi (yielded ops a.tmps) = true := by rfl) (hy : ∀ w', S w' → (execOp a.eval oi).run P w' = .ok (.value v) w' := by rintro w' ⟨s0, s1, s2⟩; go_simp; with_reducible rfl)
    (ha : a.put (some N) v = a' := by (simp only [Act.put, List.setIfInBounds_toArray, List.set_cons_zero, List.set_cons_succ, i64_w, i32_w]); rfl)
    (hc : takeW T B ds l.toList l'.toList i = true := by kernel_rfl) (hQ : ∀ c a w, Q (.panic c) (a.put oi.dst v) w → Q (.panic c) a w := by exact fun _ _ _ h => h) : wpAnyLast P md ops Q S ds (fuel + 1) l a w :=
  take_ l' hi hN (take_ofW hT hB hc) hQ (Or.inl ⟨hw, hy⟩) hS ha h
end

end Go.Proofs.YtnlakdpfkgjdaaaDoor.G

/- Spans as plain lists: what they say, as they should stand, together, both, the gaps, how many slots. No conditions. -/
namespace Go.Proofs.YtnlakdpfkgjdaaaDoor.G
open Go
/-! Spans that stand as they should, and what they say. -/
/-- does one of the spans hold a slot? -/
def hasS (l : List S31) (n : Int) : Bool := l.any fun s => decide (s.f0 ≤ n) && decide (n ≤ s.f1)
/-- rising, apart, below 16384, behind a place -/
def mayF : Int → List S31 → Prop
  | _, [] => True
  | a, s :: r => a < s.f0 ∧ s.f0 ≤ s.f1 ∧ s.f1 ≤ 16383 ∧ mayF (s.f1 + 1) r
def mayS (l : List S31) : Prop := mayF (-1) l
theorem hasS_nil (n : Int) : hasS [] n = false := rfl
theorem hasS_cons (s : S31) (l : List S31) (n : Int) : hasS (s :: l) n = ((decide (s.f0 ≤ n) && decide (n ≤ s.f1)) || hasS l n) := rfl
theorem hasS_app (l m : List S31) (n : Int) : hasS (l ++ m) n = (hasS l n || hasS m n) := by unfold hasS; rw [List.any_append]
theorem hasS_iff (l : List S31) (n : Int) : hasS l n = true ↔ ∃ s ∈ l, s.f0 ≤ n ∧ n ≤ s.f1 := by
  unfold hasS; rw [List.any_eq_true]; simp
theorem mayF_mono {a b : Int} (h : b ≤ a) : ∀ {l : List S31}, mayF a l → mayF b l
  | [], _ => trivial
  | _ :: _, ⟨h1, h2⟩ => ⟨by omega, h2⟩
theorem mayF_has {a : Int} : ∀ {l : List S31}, mayF a l → ∀ n, hasS l n = true → a < n ∧ n ≤ 16383
  | [], _, n, h => by cases h
  | s :: r, ⟨h1, h2, h3, h4⟩, n, h => by
    rw [hasS_cons, Bool.or_eq_true] at h
    rcases h with h | h
    · simp at h; omega
    · have := mayF_has h4 n h; omega
theorem may_unique : ∀ {l m : List S31} {a b : Int}, mayF a l → mayF b m → (∀ n, hasS l n = hasS m n) → l = m
  | [], [], _, _, _, _, _ => rfl
  | [], s :: r, _, _, _, ⟨h1, h2, _⟩, h => by
    have := h s.f0
    rw [hasS_nil, hasS_cons] at this
    simp [h2] at this
  | s :: r, [], _, _, ⟨h1, h2, _⟩, _, h => by
    have := h s.f0
    rw [hasS_nil, hasS_cons] at this
    simp [h2] at this
  | s :: r, t :: q, a, b, ⟨h1, h2, h3, h4⟩, ⟨g1, g2, g3, g4⟩, h => by
    have key : ∀ n, ((s.f0 ≤ n ∧ n ≤ s.f1) ∨ hasS r n = true) ↔ ((t.f0 ≤ n ∧ n ≤ t.f1) ∨ hasS q n = true) := fun n => by
      have := h n
      rw [hasS_cons, hasS_cons, Bool.eq_iff_iff] at this
      simpa using this
    have hr := fun n => mayF_has h4 n
    have hq := fun n => mayF_has g4 n
    have e0 : s.f0 = t.f0 := by
      have k1 := key s.f0
      have k2 := key t.f0
      have r1 := hr t.f0
      have q1 := hq s.f0
      by_cases c1 : hasS r t.f0 = true <;> by_cases c2 : hasS q s.f0 = true <;> simp [c1, c2] at k1 k2 r1 q1 <;> omega
    have e1 : s.f1 = t.f1 := by
      have k1 := key (s.f1 + 1)
      have k2 := key (t.f1 + 1)
      have r1 := hr (s.f1 + 1)
      have r2 := hr (t.f1 + 1)
      have q1 := hq (s.f1 + 1)
      have q2 := hq (t.f1 + 1)
      by_cases c1 : hasS r (s.f1 + 1) = true <;> by_cases c2 : hasS r (t.f1 + 1) = true <;> by_cases c3 : hasS q (s.f1 + 1) = true <;> by_cases c4 : hasS q (t.f1 + 1) = true <;> simp [c1, c2, c3, c4] at k1 k2 r1 r2 q1 q2 <;> omega
    have e : s = t := by cases s; cases t; simp only at e0 e1; rw [e0, e1]
    subst e
    have hrest : ∀ n, hasS r n = hasS q n := fun n => by
      rw [Bool.eq_iff_iff]
      have k := key n
      constructor
      · intro c
        have := hr n c
        rcases k.1 (.inr c) with c' | c'
        · omega
        · exact c'
      · intro c
        have := hq n c
        rcases k.2 (.inr c) with c' | c'
        · omega
        · exact c'
    rw [may_unique h4 g4 hrest]
theorem mayS_unique {l m : List S31} (h : mayS l) (g : mayS m) (e : ∀ n, 0 ≤ n → n ≤ 16383 → hasS l n = hasS m n) : l = m :=
  may_unique h g fun n => by
    by_cases c : 0 ≤ n ∧ n ≤ 16383
    · exact e n c.1 c.2
    · have q1 : hasS l n = false := by
        cases k : hasS l n with
        | false => rfl
        | true => have := mayF_has h n k; omega
      have q2 : hasS m n = false := by
        cases k : hasS m n with
        | false => rfl
        | true => have := mayF_has g n k; omega
      rw [q1, q2]
/-- what a list says of a slot -/
def sayS (l : List S31) (n : Int) : Bool := decide (0 ≤ n) && decide (n ≤ 16383) && hasS l n
theorem sayS_may {l : List S31} (h : mayS l) (n : Int) : sayS l n = hasS l n := by
  unfold sayS
  cases k : hasS l n with
  | false => simp
  | true => have := mayF_has h n k; simp; omega
/-- a span cut to what slots there are -/
def clipS (s : S31) : S31 := ⟨max s.f0 0, min s.f1 16383⟩
def okS (s : S31) : Bool := decide ((clipS s).f0 ≤ (clipS s).f1)
theorem okS_iff (s : S31) : okS s = true ↔ max s.f0 0 ≤ min s.f1 16383 := decide_eq_true_iff
/-- the spans of a list, cut -/
def cutS (l : List S31) : List S31 := (l.filter okS).map clipS
theorem has_cut (l : List S31) (n : Int) : hasS (cutS l) n = sayS l n := by
  induction l with
  | nil => unfold sayS; simp [cutS, hasS]
  | cons s l ih =>
    have e : sayS (s :: l) n = ((decide (0 ≤ n) && decide (n ≤ 16383) && (decide (s.f0 ≤ n) && decide (n ≤ s.f1))) || sayS l n) := by
      unfold sayS; rw [hasS_cons]; cases decide (0 ≤ n) <;> cases decide (n ≤ 16383) <;> simp
    rw [e, ← ih]
    unfold cutS
    by_cases h : okS s = true
    · rw [List.filter_cons_of_pos h, List.map_cons, hasS_cons]
      congr 1
      rw [Bool.eq_iff_iff]
      simp only [Bool.and_eq_true, decide_eq_true_eq]
      show (max s.f0 0 ≤ n ∧ n ≤ min s.f1 16383) ↔ _
      omega
    · rw [List.filter_cons_of_neg h]
      have : (decide (0 ≤ n) && decide (n ≤ 16383) && (decide (s.f0 ≤ n) && decide (n ≤ s.f1))) = false := by
        rw [okS_iff] at h
        rw [Bool.eq_false_iff]
        simp only [ne_eq, Bool.and_eq_true, decide_eq_true_eq]; omega
      rw [this, Bool.false_or]
/-- each span lies among the slots -/
def inS (l : List S31) : Prop := ∀ s ∈ l, 0 ≤ s.f0 ∧ s.f0 ≤ s.f1 ∧ s.f1 ≤ 16383
theorem cut_in (l : List S31) : inS (cutS l) := fun s hs => by
  unfold cutS at hs
  obtain ⟨t, ht, rfl⟩ := List.mem_map.1 hs
  have := (List.mem_filter.1 ht).2
  rw [okS_iff] at this
  show 0 ≤ max t.f0 0 ∧ max t.f0 0 ≤ min t.f1 16383 ∧ min t.f1 16383 ≤ 16383
  omega
/-- rising beginnings -/
def risingS : List S31 → Prop
  | [] => True
  | [_] => True
  | s :: t :: r => s.f0 ≤ t.f0 ∧ risingS (t :: r)
/-- one span more -/
def stepS (out : List S31) (s : S31) : List S31 :=
  match out.getLast? with
  | none => [s]
  | some t => if s.f0 ≤ t.f1 + 1 then out.dropLast ++ [⟨t.f0, max t.f1 s.f1⟩] else out ++ [s]
def mergeS (l : List S31) : List S31 := l.foldl stepS []
/-- where a list ends -/
def endS (a : Int) : List S31 → Int
  | [] => a
  | s :: r => endS (s.f1 + 1) r
theorem mayF_app : ∀ {l : List S31} {a : Int} {s : S31}, mayF a (l ++ [s]) ↔ mayF a l ∧ endS a l < s.f0 ∧ s.f0 ≤ s.f1 ∧ s.f1 ≤ 16383
  | [], a, s => by simp [mayF, endS]
  | t :: r, a, s => by
    rw [List.cons_append]
    simp only [mayF, endS]
    rw [mayF_app]
    constructor
    · rintro ⟨h1, h2, h3, h4, h5⟩; exact ⟨⟨h1, h2, h3, h4⟩, h5⟩
    · rintro ⟨⟨h1, h2, h3, h4⟩, h5⟩; exact ⟨h1, h2, h3, h4, h5⟩
theorem endS_app : ∀ (l : List S31) (a : Int) (s : S31), endS a (l ++ [s]) = s.f1 + 1
  | [], a, s => rfl
  | t :: r, a, s => by rw [List.cons_append, endS, endS_app r]
theorem merge_inv : ∀ (rest out : List S31), inS rest → risingS rest → (∀ t, out.getLast? = some t → ∀ s, rest.head? = some s → t.f0 ≤ s.f0) → mayS out →
    mayS (rest.foldl stepS out) ∧ ∀ n, hasS (rest.foldl stepS out) n = (hasS out n || hasS rest n)
  | [], out, _, _, _, hm => ⟨hm, fun n => by simp [hasS]⟩
  | s :: rest, out, hi, hr, hl, hm => by
    have hs := hi s List.mem_cons_self
    have hi' : inS rest := fun t ht => hi t (List.mem_cons_of_mem _ ht)
    have hr' : risingS rest := by
      cases rest with
      | nil => trivial
      | cons t r => exact hr.2
    have hh : ∀ s', rest.head? = some s' → s.f0 ≤ s'.f0 := fun s' h => by
      cases rest with
      | nil => cases h
      | cons t r => cases h; exact hr.1
    rw [List.foldl_cons]
    rcases List.eq_nil_or_concat out with rfl | ⟨q, t, rfl⟩
    · have hst : stepS [] s = [s] := rfl
      rw [hst]
      obtain ⟨a, b⟩ := merge_inv rest [s] hi' hr' (fun t ht s' h => by cases ht; exact hh s' h) ⟨by omega, hs.2.1, hs.2.2, trivial⟩
      exact ⟨a, fun n => by rw [b n, hasS_cons, hasS_cons]; simp [hasS]⟩
    · rw [List.concat_eq_append] at hl hm ⊢
      have hgl : (q ++ [t]).getLast? = some t := by simp
      have hts := hl t hgl s rfl
      obtain ⟨m1, m2, m3, m4⟩ := mayF_app.1 hm
      have hst : stepS (q ++ [t]) s = if s.f0 ≤ t.f1 + 1 then q ++ [⟨t.f0, max t.f1 s.f1⟩] else q ++ [t] ++ [s] := by
        unfold stepS; rw [hgl]; simp
      rw [hst]
      by_cases c : s.f0 ≤ t.f1 + 1
      · rw [if_pos c]
        obtain ⟨a, b⟩ := merge_inv rest (q ++ [⟨t.f0, max t.f1 s.f1⟩]) hi' hr' (fun t' ht s' h => by
          have : t' = ⟨t.f0, max t.f1 s.f1⟩ := by simpa using ht.symm
          subst this
          have := hh s' h
          show t.f0 ≤ s'.f0
          omega) (mayF_app.2 ⟨m1, m2, by show t.f0 ≤ max _ _; omega, by show max _ _ ≤ _; omega⟩)
        refine ⟨a, fun n => ?_⟩
        rw [b n, hasS_app, hasS_app, hasS_cons s rest]
        cases hasS q n <;> cases hasS rest n <;> simp [hasS]
        rw [Bool.eq_iff_iff]
        simp; omega
      · rw [if_neg c]
        obtain ⟨a, b⟩ := merge_inv rest (q ++ [t] ++ [s]) hi' hr' (fun t' ht s' h => by
          have : t' = s := by simpa using ht.symm
          subst this
          exact hh s' h) (mayF_app.2 ⟨hm, by rw [endS_app]; omega, hs.2.1, hs.2.2⟩)
        refine ⟨a, fun n => ?_⟩
        rw [b n, hasS_app, hasS_cons s rest, hasS_cons s [], hasS_nil, Bool.or_false, Bool.or_assoc]
theorem merge_spec (l : List S31) (hi : inS l) (hr : risingS l) : mayS (mergeS l) ∧ ∀ n, hasS (mergeS l) n = hasS l n := by
  obtain ⟨a, b⟩ := merge_inv l [] hi hr (fun t h => by cases h) trivial
  exact ⟨a, fun n => (b n).trans (by rw [hasS_nil, Bool.false_or])⟩
/-- put into a rising list -/
def insS (s : S31) : List S31 → List S31
  | [] => [s]
  | t :: r => if s.f0 ≤ t.f0 then s :: t :: r else t :: insS s r
def sortS : List S31 → List S31
  | [] => []
  | s :: r => insS s (sortS r)
theorem ins_mem (s x : S31) : ∀ l, x ∈ insS s l ↔ x = s ∨ x ∈ l
  | [] => by simp [insS]
  | t :: r => by
    unfold insS
    split
    · simp
    · simp [ins_mem s x r]
      constructor
      · rintro (h | h | h) <;> simp [h]
      · rintro (h | h | h) <;> simp [h]
theorem sort_mem (x : S31) : ∀ l, x ∈ sortS l ↔ x ∈ l
  | [] => Iff.rfl
  | s :: r => by rw [sortS, ins_mem, sort_mem x r, List.mem_cons]
theorem ins_rising (s : S31) : ∀ l, risingS l → risingS (insS s l)
  | [], _ => trivial
  | [t], _ => by
    unfold insS
    split
    · rename_i h; exact ⟨h, trivial⟩
    · rename_i h; exact ⟨by omega, trivial⟩
  | t :: u :: r, ⟨h1, h2⟩ => by
    unfold insS
    split
    · rename_i h; exact ⟨h, h1, h2⟩
    · rename_i h
      have ih := ins_rising s (u :: r) h2
      unfold insS at ih ⊢
      split
      · rename_i h3; rw [if_pos h3] at ih; exact ⟨by omega, ih⟩
      · rename_i h3; rw [if_neg h3] at ih; exact ⟨h1, ih⟩
theorem sort_rising : ∀ l, risingS (sortS l)
  | [] => trivial
  | s :: r => ins_rising s _ (sort_rising r)
theorem has_mem (l m : List S31) (h : ∀ x, x ∈ l ↔ x ∈ m) (n : Int) : hasS l n = hasS m n := by
  rw [Bool.eq_iff_iff, hasS_iff, hasS_iff]
  exact ⟨fun ⟨s, a, b⟩ => ⟨s, (h s).1 a, b⟩, fun ⟨s, a, b⟩ => ⟨s, (h s).2 a, b⟩⟩
/-- what a list says, as it should stand -/
def normS (l : List S31) : List S31 := mergeS (sortS (cutS l))
theorem norm_spec (l : List S31) : mayS (normS l) ∧ ∀ n, hasS (normS l) n = sayS l n := by
  have hin : inS (sortS (cutS l)) := fun s hs => cut_in l s ((sort_mem s _).1 hs)
  obtain ⟨a, b⟩ := merge_spec (sortS (cutS l)) hin (sort_rising _)
  exact ⟨a, fun n => (b n).trans (by rw [has_mem _ _ (fun x => sort_mem x (cutS l)), has_cut])⟩
theorem norm_of {l m : List S31} (hm : mayS m) (h : ∀ n, hasS m n = sayS l n) : m = normS l :=
  may_unique hm (norm_spec l).1 fun n => by rw [h n, (norm_spec l).2 n]
/-- whatever order the sort leaves alike beginnings in -/
theorem norm_merge (l d : List S31) (hd : ∀ x, x ∈ d ↔ x ∈ cutS l) (hr : risingS d) : mergeS d = normS l := by
  have hin : inS d := fun s hs => cut_in l s ((hd s).1 hs)
  obtain ⟨a, b⟩ := merge_spec d hin hr
  exact norm_of a fun n => by rw [b n, has_mem _ _ hd, has_cut]
theorem norm_idem {l : List S31} (h : mayS l) : normS l = l := (norm_of h fun n => (sayS_may h n).symm).symm
theorem norm_say (l : List S31) (n : Int) : sayS (normS l) n = sayS l n := by rw [sayS_may (norm_spec l).1, (norm_spec l).2]
theorem norm_ext {l m : List S31} (h : ∀ n, 0 ≤ n → n ≤ 16383 → sayS l n = sayS m n) : normS l = normS m :=
  mayS_unique (norm_spec l).1 (norm_spec m).1 fun n a b => by rw [(norm_spec l).2, (norm_spec m).2, h n a b]
/-- what the first list says, and the second one -/
def bothL (x y : List S31) : List S31 := (x.flatMap fun s => (y.map fun t => (⟨max s.f0 t.f0, min s.f1 t.f1⟩ : S31)).filter fun u => decide (u.f0 ≤ u.f1))
theorem both_has (x y : List S31) (n : Int) : hasS (bothL x y) n = (hasS x n && hasS y n) := by
  rw [Bool.eq_iff_iff, Bool.and_eq_true, hasS_iff, hasS_iff, hasS_iff]
  unfold bothL
  constructor
  · rintro ⟨u, hu, h1, h2⟩
    obtain ⟨s, hs, hu⟩ := List.mem_flatMap.1 hu
    obtain ⟨hu, _⟩ := List.mem_filter.1 hu
    obtain ⟨t, ht, rfl⟩ := List.mem_map.1 hu
    simp only at h1 h2
    exact ⟨⟨s, hs, by omega, by omega⟩, ⟨t, ht, by omega, by omega⟩⟩
  · rintro ⟨⟨s, hs, h1, h2⟩, ⟨t, ht, h3, h4⟩⟩
    refine ⟨⟨max s.f0 t.f0, min s.f1 t.f1⟩, List.mem_flatMap.2 ⟨s, hs, List.mem_filter.2 ⟨List.mem_map.2 ⟨t, ht, rfl⟩, ?_⟩⟩, ?_, ?_⟩
    · simp; omega
    · show max _ _ ≤ _; omega
    · show _ ≤ min _ _; omega
/-- the pairs of two lists that meet, as two hands go through them -/
def pairsS : Nat → List S31 → List S31 → List (S31 × S31)
  | 0, _, _ => []
  | _ + 1, [], _ => []
  | _ + 1, _, [] => []
  | k + 1, s :: x, t :: y =>
    let rest := if s.f1 < t.f1 then pairsS k x (t :: y) else pairsS k (s :: x) y
    if max s.f0 t.f0 ≤ min s.f1 t.f1 then (s, t) :: rest else rest
def meetS (p : S31 × S31) : S31 := ⟨max p.1.f0 p.2.f0, min p.1.f1 p.2.f1⟩
theorem pairs_has : ∀ (k : Nat) (x y : List S31) (a b : Int), x.length + y.length ≤ k → mayF a x → mayF b y → ∀ n, hasS ((pairsS k x y).map meetS) n = (hasS x n && hasS y n)
  | 0, x, y, _, _, h, _, _, n => by
    have : x = [] := List.eq_nil_of_length_eq_zero (by omega)
    subst this; simp [pairsS, hasS]
  | k + 1, [], y, _, _, _, _, _, n => by simp [pairsS, hasS]
  | k + 1, s :: x, [], _, _, _, _, _, n => by simp [pairsS, hasS]
  | k + 1, s :: x, t :: y, a, b, h, ⟨a1, a2, a3, a4⟩, ⟨b1, b2, b3, b4⟩, n => by
    have ih1 := pairs_has k x (t :: y) (s.f1 + 1) b (by simp only [List.length_cons] at h ⊢; omega) a4 ⟨b1, b2, b3, b4⟩ n
    have ih2 := pairs_has k (s :: x) y a (t.f1 + 1) (by simp only [List.length_cons] at h ⊢; omega) ⟨a1, a2, a3, a4⟩ b4 n
    have hx := fun c => mayF_has a4 n c
    have hy := fun c => mayF_has b4 n c
    have hc : ∀ rest : List (S31 × S31), hasS ((if max s.f0 t.f0 ≤ min s.f1 t.f1 then (s, t) :: rest else rest).map meetS) n = ((decide (max s.f0 t.f0 ≤ n) && decide (n ≤ min s.f1 t.f1)) || hasS (rest.map meetS) n) := fun rest => by
      by_cases c : max s.f0 t.f0 ≤ min s.f1 t.f1
      · rw [if_pos c, List.map_cons, hasS_cons]; rfl
      · rw [if_neg c]
        have : (decide (max s.f0 t.f0 ≤ n) && decide (n ≤ min s.f1 t.f1)) = false := by simp; omega
        rw [this, Bool.false_or]
    show hasS ((let rest := if s.f1 < t.f1 then pairsS k x (t :: y) else pairsS k (s :: x) y
      if max s.f0 t.f0 ≤ min s.f1 t.f1 then (s, t) :: rest else rest).map meetS) n = _
    dsimp only
    rw [hc]
    by_cases c : s.f1 < t.f1
    · rw [if_pos c, ih1, hasS_cons s, hasS_cons t, Bool.eq_iff_iff]
      cases p1 : hasS x n <;> cases p2 : hasS y n <;> simp [p1, p2] at hx hy ⊢ <;> omega
    · rw [if_neg c, ih2, hasS_cons s, hasS_cons t, Bool.eq_iff_iff]
      cases p1 : hasS x n <;> cases p2 : hasS y n <;> simp [p1, p2] at hx hy ⊢ <;> omega
/-- the gaps of a list, from a place on -/
def gapsF : Int → List S31 → List S31
  | a, [] => if a ≤ 16383 then [⟨a, 16383⟩] else []
  | a, s :: r => if a < s.f0 then ⟨a, s.f0 - 1⟩ :: gapsF (s.f1 + 1) r else gapsF (s.f1 + 1) r
theorem gaps_has : ∀ (l : List S31) (a b : Int), mayF b l → a - 1 ≤ b + 1 → b ≤ a → ∀ n, a ≤ n → n ≤ 16383 → hasS (gapsF a l) n = !hasS l n
  | [], a, b, _, _, _, n, h0, h1 => by
    unfold gapsF
    rw [if_pos (by omega)]
    simp [hasS]; omega
  | s :: r, a, b, ⟨m1, m2, m3, m4⟩, hab, hba, n, h0, h1 => by
    have hr := fun c => mayF_has m4 n c
    have low : ∀ (l : List S31) (c : Int), (∀ u ∈ l, c ≤ u.f0) → n < c → hasS l n = false := fun l c hu hc => by
      cases k : hasS l n with
      | false => rfl
      | true =>
        obtain ⟨u, hu1, hu2, _⟩ := (hasS_iff l n).1 k
        have := hu u hu1; omega
    have glow : ∀ (l : List S31) (c b : Int), mayF b l → c ≤ b + 1 → ∀ u ∈ gapsF c l, c ≤ u.f0 := by
      intro l
      induction l with
      | nil =>
        intro c b _ _ u hu
        unfold gapsF at hu
        split at hu
        · rw [List.mem_singleton.1 hu]; exact Int.le_refl _
        · cases hu
      | cons t q ih =>
        intro c b ⟨p1, p2, p3, p4⟩ hcb u hu
        unfold gapsF at hu
        have ih' := ih (t.f1 + 1) (t.f1 + 1) p4 (by omega) u
        split at hu
        · rcases List.mem_cons.1 hu with rfl | hu
          · exact Int.le_refl _
          · have := ih' hu; omega
        · have := ih' hu; omega
    unfold gapsF
    by_cases c : n ≤ s.f1
    · have g0 : hasS (gapsF (s.f1 + 1) r) n = false := low _ _ (glow r (s.f1 + 1) (s.f1 + 1) m4 (by omega)) (by omega)
      have r0 : hasS r n = false := by
        cases k : hasS r n with
        | false => rfl
        | true => have := hr k; omega
      split
      · rw [hasS_cons, hasS_cons, g0, r0, Bool.or_false, Bool.or_false, Bool.eq_iff_iff]
        simp; omega
      · rw [hasS_cons, g0, r0, Bool.or_false]
        have : (decide (s.f0 ≤ n) && decide (n ≤ s.f1)) = true := by simp; omega
        rw [this]; rfl
    · have ih := gaps_has r (s.f1 + 1) (s.f1 + 1) m4 (by omega) (by omega) n (by omega) h1
      have q0 : (decide (s.f0 ≤ n) && decide (n ≤ s.f1)) = false := by simp; omega
      split
      · rw [hasS_cons, hasS_cons, ih, q0, Bool.false_or]
        have : (decide (a ≤ n) && decide (n ≤ s.f0 - 1)) = false := by simp; omega
        rw [this, Bool.false_or]
      · rw [hasS_cons, ih, q0, Bool.false_or]
/-! How many slots. -/
def widS : List S31 → Int
  | [] => 0
  | s :: r => (s.f1 - s.f0 + 1) + widS r
def numS (p : Int → Bool) : Nat := (List.range 16384).countP fun n : Nat => p (n : Int)
theorem count_or (p q : Nat → Bool) (l : List Nat) (h : ∀ n ∈ l, ¬ (p n = true ∧ q n = true)) : l.countP (fun n => p n || q n) = l.countP p + l.countP q := by
  induction l with
  | nil => rfl
  | cons n l ih =>
    have ih := ih fun m hm => h m (List.mem_cons_of_mem _ hm)
    have hn := h n List.mem_cons_self
    rw [List.countP_cons, List.countP_cons, List.countP_cons, ih]
    cases hp : p n <;> cases hq : q n <;> simp [hp, hq] at hn ⊢ <;> omega
theorem count_span (a b : Int) (h0 : 0 ≤ a) (h1 : a ≤ b + 1) : ∀ N : Nat, ((List.range N).countP (fun n : Nat => decide (a ≤ (n : Int)) && decide ((n : Int) ≤ b)) : Int) = if (N : Int) ≤ a then 0 else if (N : Int) ≤ b + 1 then N - a else b + 1 - a
  | 0 => by simp; intro h; omega
  | N + 1 => by
    have ih := count_span a b h0 h1 N
    rw [List.range_succ, List.countP_append, List.countP_singleton]
    by_cases c : (decide (a ≤ (N : Int)) && decide ((N : Int) ≤ b)) = true
    · rw [if_pos c]
      simp at c
      split at ih <;> split <;> (try split) <;> (try split at ih) <;> push_cast <;> omega
    · rw [if_neg c]
      simp at c
      split at ih <;> split <;> (try split) <;> (try split at ih) <;> push_cast <;> omega
theorem wid_num : ∀ (l : List S31) (a : Int), mayF a l → -1 ≤ a → widS l = (numS (hasS l) : Nat)
  | [], a, _, _ => by unfold numS widS; simp [hasS]
  | s :: r, a, ⟨h1, h2, h3, h4⟩, ha => by
    have ih := wid_num r (s.f1 + 1) h4 (by omega)
    have hr := fun n => mayF_has h4 n
    have e : numS (hasS (s :: r)) = (List.range 16384).countP (fun n : Nat => decide (s.f0 ≤ (n : Int)) && decide ((n : Int) ≤ s.f1)) + numS (hasS r) := by
      unfold numS
      rw [← count_or _ _ _ (fun n _ hh => by have := hr n hh.2; simp at hh; omega)]
      rfl
    rw [widS, ih, e]
    have c := count_span s.f0 s.f1 (by omega) (by omega) 16384
    have k1 : ¬ ((16384 : Nat) : Int) ≤ s.f0 := by omega
    rw [if_neg k1] at c
    by_cases k2 : ((16384 : Nat) : Int) ≤ s.f1 + 1
    · rw [if_pos k2] at c
      have : s.f1 = 16383 := by omega
      push_cast
      omega
    · rw [if_neg k2] at c
      push_cast
      omega
theorem num_ext {p q : Int → Bool} (h : ∀ n, 0 ≤ n → n ≤ 16383 → p n = q n) : numS p = numS q := by
  unfold numS
  refine List.countP_congr fun n hn => ?_
  have := List.mem_range.1 hn
  rw [h n (by omega) (by omega)]
theorem num_or (p q : Int → Bool) (h : ∀ n, ¬ (p n = true ∧ q n = true)) : numS (fun n => p n || q n) = numS p + numS q := count_or _ _ _ fun n _ => h n
theorem num_one (k : Int) (h0 : 0 ≤ k) (h1 : k ≤ 16383) : numS (fun n => n == k) = 1 := by
  have c := count_span k k h0 (by omega) 16384
  have k1 : ¬ ((16384 : Nat) : Int) ≤ k := by omega
  rw [if_neg k1] at c
  have c : ((List.range 16384).countP (fun n : Nat => decide (k ≤ (n : Int)) && decide ((n : Int) ≤ k)) : Int) = 1 := by
    rw [c]; split <;> omega
  have e : numS (fun n => n == k) = (List.range 16384).countP (fun n : Nat => decide (k ≤ (n : Int)) && decide ((n : Int) ≤ k)) := by
    unfold numS
    refine List.countP_congr fun n _ => ?_
    simp; omega
  rw [e]; omega
theorem num_le (p : Int → Bool) : numS p ≤ 16384 := by
  unfold numS
  have := List.countP_le_length (p := fun n : Nat => p n) (l := List.range 16384)
  rwa [List.length_range] at this
end Go.Proofs.YtnlakdpfkgjdaaaDoor.G

/- spans.said: what the loop gathers. Condition: a bound on the list's length. -/
namespace Go.Proofs.YtnlakdpfkgjdaaaDoor.G
open Go.RowKit Go.Cav Go.Proofs.YtnlakdpfkgjdaaaDoorW.PrintWords Go.Proofs.YtnlakdpfkgjdaaaDoorW.PrintLast Go.Proofs.YtnlakdpfkgjdaaaDoorW.PrintMore
attribute [local go_sem] Oper.semAt_some
attribute [local go_sem] max2_int min2_int max_two min_two
theorem cutS_snoc (l : List S31) (s : S31) : cutS (l ++ [s]) = if okS s = true then cutS l ++ [clipS s] else cutS l := by
  unfold cutS
  rw [List.filter_append, List.map_append]
  by_cases h : okS s = true
  · rw [if_pos h, List.filter_cons_of_pos h]; rfl
  · rw [if_neg h, List.filter_cons_of_neg h]; simp
theorem cutS_len (l : List S31) : (cutS l).length ≤ l.length := by
  unfold cutS; rw [List.length_map]; exact List.length_filter_le _ _
set_option maxRecDepth 100000 in
set_option maxHeartbeats 4000000 in
theorem said_calls (A0 : Option Addr) (c0 : Nat) (l0 : List S31) (w : World) (hr0 : Kd.C k31 w A0 l0.length l0) (h0 : l0.length ≤ 1000000000) (srt : List S31 → List S31)
    (hsort : ∀ (v : Value) (xs : List S31) (w1 : World), xs.length ≤ 1000000000 → Below w.heap.size w w1 → Kd.R k31 31 w1 w.heap.size (fun _ => True) v xs →
      Calls Tryd.prog 46 #[v, .func (.func 47) #[] #[]] w1 fun e w' => e = .returned (.tuple #[]) ∧ Kd.V k31 31 w' w.heap.size (fun k_ => w.heap.size ≤ k_) v (srt xs) ∧ Below w.heap.size w w') :
    Calls Tryd.prog 32 #[.slice A0 l0.length c0] w fun e w' => ∃ v0_ : Value, e = .returned (v0_) ∧ Kd.V k31 31 w' w.heap.size (fun k_ => (w.heap.size ≤ k_)) v0_ (srt (cutS l0)) ∧ Below w.heap.size w w' := by
  have HR0 := Lib.hid hr0
  have HS := Lib.hid hsort
  clear hr0 hsort
  go_enter Tryd.func32, Tryd.ntmps32
  go_wp2
  go_loopw [3, 8] (fun o i wr => ∃ (j : Nat), j ≤ l0.length ∧ i = .int .i64 (j : Int) ∧ Hid (Kd.R k31 31 wr w.heap.size (fun _ => True) o (cutS (l0.take j))) ∧ Hid (Below w.heap.size w wr)) (fun _ i _ => l0.length - (intOf i).toNat)
  case atStart => exact ⟨0, by omega, rfl, Lib.hid (Kd.R_nil _ _ _ _ _), Lib.hid (Below.refl _ _)⟩
  case round =>
    obtain ⟨j, hj, rfl, HO, HB⟩ := hrel
    by_cases hlt : j < l0.length
    · obtain ⟨ad, rfl, e0, e1⟩ := at_T31 HR0.out (j : Int) (by omega) (by omega)
      rw [Int.toNat_natCast] at e0 e1
      have hx : rd_T31 l0 (j : Int) = l0[j] := by unfold rd_T31; simp [hlt]
      rw [hx] at e0 e1
      replace e0 := (Stir.of_below HB.out (fun _ => False)).cell e0 (fun e => e)
      replace e1 := (Stir.of_below HB.out (fun _ => False)).cell e1 (fun e => e)
      have hc : cutS (l0.take (j + 1)) = if okS l0[j] = true then cutS (l0.take j) ++ [clipS l0[j]] else cutS (l0.take j) := by
        rw [List.take_succ_eq_append_getElem hlt, cutS_snoc]
      have HC := Lib.hid hc
      have hltz : (j : Int) < (l0.length : Int) := by omega
      clear hc hx
      generalize l0[j] = s at e0 e1 HC
      obtain ⟨s0, s1⟩ := s
      have hcl : ∃ a0 a1, (if s0 < 0 then (0 : Int) else s0) = a0 ∧ (if 16383 < s1 then (16383 : Int) else s1) = a1 ∧ clipS ⟨s0, s1⟩ = ⟨a0, a1⟩ := by
        refine ⟨_, _, rfl, rfl, ?_⟩
        unfold clipS
        congr 1
        · show max s0 0 = _
          split <;> omega
        · show min s1 16383 = _
          split <;> omega
      obtain ⟨a0, a1, ha0, ha1, hcl⟩ := hcl
      have hok : okS ⟨s0, s1⟩ = decide (a0 ≤ a1) := by unfold okS; rw [hcl]
      rw [hok, hcl] at HC
      dsimp only at e0 e1
      clear hcl hok
      by_cases hle : a0 ≤ a1
      · have hd : decide (a0 ≤ a1) = true := decide_eq_true hle
        rw [if_pos hd] at HC
        have HN := Lib.hid (cutS_len (l0.take j))
        have hb1 : Below w.heap.size w (wr.alloc (.cells #[.int .i64 a0, .int .i64 a1] 31)) := HB.out.alloc HB.out.size _
        have hbk : (wr.alloc (.cells #[.int .i64 a0, .int .i64 a1] 31)).heap[wr.heap.size]? = some (.cells #[.int .i64 a0, .int .i64 a1] 31 (0, 0)) := heap_alloc_new wr _
        have hR1 := Kd.R_alloc HO.out (.cells #[.int .i64 a0, .int .i64 a1] 31)
        have HB1 := Lib.hid hb1
        have HBK := Lib.hid hbk
        have HR1 := Lib.hid hR1
        clear hb1 hbk hR1
        go_upto_region 7 with fail
        clear e0 e1
        generalize wr.alloc (.cells #[.int .i64 a0, .int .i64 a1] 31) = wq at HB1 HBK HR1 ⊢
        have c0 : wq.cell? ⟨wr.heap.size, 0, none⟩ = some (.int .i64 a0) := (cell_of_row wq _ 0 _ _ _ HBK.out).trans rfl
        have c1 : wq.cell? ⟨wr.heap.size, 1, none⟩ = some (.int .i64 a1) := (cell_of_row wq _ 1 _ _ _ HBK.out).trans rfl
        go_wp2_with (at_builtin; go_loud (refine Kd.R_append k31 (w0 := w) w.heap.size rfl (.tmp 24) (.tmp 26) 23 31 (.agg #[(.int .i64 0), (.int .i64 0)]) 16 rfl Tryd.underlying23 info31 rfl (by decide) (by omega) _ (cutS (l0.take j)) (⟨a0, a1⟩ : S31) [.int .i64 a0, .int .i64 a1] (fun _ => True) (fun _ => False) rfl rfl (k31_mkM _ _ _ (⟨a0, a1⟩ : S31)) (fun _ hk => hk.elim) (fun _ _ => trivial) HR1.out HB1.out HB1.out.size ?aL ?_; (case aL => have := HN.out; rw [List.length_take] at this; omega)))
        intro v1 w1 hR hB _ _
        have hR2 := Lib.hid hR
        have hB2 := Lib.hid hB
        clear hR hB
        go_wp2
        exact ⟨⟨j + 1, by omega, by simp, Lib.hid (by rw [HC.out]; exact hR2.out), Lib.hid hB2.out⟩, by simp [intOf]; omega⟩
      · have hd : ¬ decide (a0 ≤ a1) = true := by simpa using hle
        rw [if_neg hd] at HC
        have hb1 : Below w.heap.size w (wr.alloc (.cells #[.int .i64 a0, .int .i64 a1] 31)) := HB.out.alloc HB.out.size _
        have hR1 := Kd.R_alloc HO.out (.cells #[.int .i64 a0, .int .i64 a1] 31)
        have HB1 := Lib.hid hb1
        have HR1 := Lib.hid hR1
        have hle2 : a1 < a0 := by omega
        clear hb1 hR1 hd hle
        go_wp2
        exact ⟨⟨j + 1, by omega, by simp, Lib.hid (by rw [HC.out]; exact HR1.out), Lib.hid HB1.out⟩, by simp [intOf]; omega⟩
    · have hltz : ¬ (j : Int) < (l0.length : Int) := by omega
      obtain rfl : j = l0.length := by omega
      have hO := HO.out
      rw [List.take_length] at hO
      have hS := HS.out _ _ wr (Nat.le_trans (cutS_len l0) h0) HB.out hO
      clear hO HO
      go_wp2_with fail
      refine hS.mono ?_
      rintro e w2 ⟨rfl, hV, hB2⟩
      have HV := Lib.hid hV
      have HB2 := Lib.hid hB2
      clear hV hB2 HS
      go_wp2
      go_ret
      exact ⟨_, rfl, HV.out, HB2.out⟩
end Go.Proofs.YtnlakdpfkgjdaaaDoor.G

/- slices.SortFunc over rows of spans by their beginnings. Condition: a bound on the row's length. -/
namespace Go.Proofs.YtnlakdpfkgjdaaaDoor.G
open Go.RowKit Go.Cav Go.Sort Go.Proofs.YtnlakdpfkgjdaaaDoorW.PrintWords Go.Proofs.YtnlakdpfkgjdaaaDoorW.PrintLast Go.Proofs.YtnlakdpfkgjdaaaDoorW.PrintMore
attribute [local go_sem] Oper.semAt_some
instance : Inhabited S31 := ⟨z31⟩
def encSp (s : S31) : List Value := [.int .i64 s.f0, .int .i64 s.f1]
def cfSp (x y : S31) : Int := Lib.compareInt x.f0 y.f0
theorem lt_cf (x y : S31) : ltOf cfSp x y = decide (x.f0 < y.f0) := by
  unfold ltOf cfSp Lib.compareInt
  by_cases h : x.f0 < y.f0
  · rw [if_pos h, decide_eq_true h]; rfl
  · rw [if_neg h, decide_eq_false h]; split <;> rfl
theorem swo_cf : SWO (ltOf cfSp) where
  irrefl x := by rw [lt_cf]; simp
  trans x y z h1 h2 := by rw [lt_cf] at *; simp at *; omega
  ntrans x y z h1 h2 := by rw [lt_cf] at *; simp at *; omega
/-- what the library's sort leaves of a row -/
def pdqS (l : List S31) : List S31 := (pdq (ltOf cfSp) l.toArray 0 l.toArray.size (Lib.bitLen l.toArray.size) true true).toList
theorem pdqS_spec (l : List S31) : (pdqS l).length = l.length ∧ (∀ x, x ∈ pdqS l ↔ x ∈ l) ∧ risingS (pdqS l) := by
  have h := pdq_sorts (ltOf cfSp) swo_cf l.toArray 0 l.toArray.size (Lib.bitLen l.toArray.size) true true (Nat.zero_le _) (Nat.le_refl _) (Or.inl rfl)
  obtain ⟨⟨hs, _, hp⟩, hso⟩ := h
  have hd : ∃ d, d = pdq (ltOf cfSp) l.toArray 0 l.toArray.size (Lib.bitLen l.toArray.size) true true := ⟨_, rfl⟩
  obtain ⟨d, hd⟩ := hd
  have he : pdqS l = d.toList := by rw [hd]; rfl
  rw [← hd] at hs hp hso
  rw [he]
  have hsl : d.size = l.length := by rw [hs]; simp
  have e1 : d.extract 0 l.toArray.size = d := by rw [← hs]; simp
  have e2 : l.toArray.extract 0 l.toArray.size = l.toArray := by simp
  rw [e1, e2] at hp
  refine ⟨by rw [Array.length_toList, hsl], fun x => hp.mem_iff, ?_⟩
  have key : ∀ (m : List S31), (∀ i j, i < j → j < m.length → ∀ x y, m[i]? = some x → m[j]? = some y → x.f0 ≤ y.f0) → risingS m := by
    intro m
    induction m with
    | nil => intro _; trivial
    | cons a m ih =>
      intro hm
      cases m with
      | nil => trivial
      | cons b m =>
        refine ⟨hm 0 1 (by omega) (by simp) a b rfl rfl, ih fun i j hij hj x y hx hy => hm (i + 1) (j + 1) (by omega) (by simp at hj ⊢; omega) x y (by simpa using hx) (by simpa using hy)⟩
  refine key _ fun i j hij hj x y hx hy => ?_
  rw [Array.length_toList] at hj
  have h2 := hso i j (Nat.zero_le _) hij (by rw [← hs]; exact hj)
  rw [lt_cf] at h2
  have ex : d[i]! = x := by
    rw [Array.getElem?_toList] at hx
    rw [getElem!_def, hx]
  have ey : d[j]! = y := by
    rw [Array.getElem?_toList] at hy
    rw [getElem!_def, hy]
  rw [ex, ey] at h2
  simp at h2
  exact h2
theorem alloc2_grow (w : World) (a b : Obj) : (w.alloc a).alloc b = grow (w.drewN 0) #[a, b] := by
  have e : (w.heap.push a).push b = w.heap ++ #[a, b] := by apply Array.ext'; simp
  show ({ w with heap := (w.heap.push a).push b } : World) = { w with heap := w.heap ++ #[a, b] }
  rw [e]
set_option maxRecDepth 100000 in
set_option maxHeartbeats 4000000 in
theorem cmp_calls (x y : S31) (w : World) : Calls Tryd.prog 47 #[.agg (encSp x).toArray, .agg (encSp y).toArray] w fun e w' => e = .returned (.int .i64 (cfSp x y)) ∧ ∃ q os', w' = grow (w.drewN q) os' := by
  obtain ⟨x0, x1⟩ := x
  obtain ⟨y0, y1⟩ := y
  have hc := fun w => Tryd.cmp_Compare_int x0 y0 w
  show Calls _ _ #[.agg #[.int .i64 x0, .int .i64 x1], .agg #[.int .i64 y0, .int .i64 y1]] w fun e w' => e = .returned (.int .i64 (Lib.compareInt x0 y0)) ∧ _
  generalize Lib.compareInt x0 y0 = z at hc
  have HC := Lib.hid hc
  clear hc
  go_enter Tryd.func47, Tryd.ntmps47
  go_wp2_with (go_at_call 48; refine (HC.out _).mono ?_; rintro e w1 ⟨rfl, rfl⟩)
  go_ret
  refine ⟨rfl, 0, #[.cells #[.int .i64 x0, .int .i64 x1] 31, .cells #[.int .i64 y0, .int .i64 y1] 31], ?_⟩
  exact alloc2_grow w _ _
theorem holds_R {w : World} {base g cap : Nat} {ok : Nat → Prop} {xs : List S31} (h : Kd.R k31 31 w base ok (.slice (some ⟨g, 0, none⟩) xs.length cap) xs) : HoldsK encSp 2 w g 0 xs.toArray := by
  have hC := (Kd.R_reads' h).2.2
  have hfr : ∀ i, w.frozen? ⟨g, i, none⟩ = false := fun i => by
    obtain ⟨_, inner, ho, _⟩ := h
    rcases ho.2 with ⟨e1, _⟩ | ⟨g', cap', cur, e1, hb, hg, rest⟩
    · cases e1
    · cases e1
      unfold World.frozen?; rw [show w.heap[(⟨g, i, none⟩ : Addr).block]? = _ from hg]; simp
  intro t ht
  rw [size_flatK] at ht
  refine ⟨?_, hfr _⟩
  rw [get_flatK _ _ _ _ ht]
  have hsz : xs.toArray.size = xs.length := by simp
  have hi : t / 2 < xs.length := by omega
  obtain ⟨ad, e, e0, e1⟩ := at_T31 hC ((t / 2 : Nat) : Int) (by omega) (by omega)
  cases e
  rw [Int.toNat_natCast] at e0 e1
  have hx : rd_T31 xs ((t / 2 : Nat) : Int) = xs.toArray[t / 2]! := by
    unfold rd_T31
    rw [Int.toNat_natCast, getElem!_pos _ _ (by rw [hsz]; exact hi)]
    simp [hi]
  rw [hx] at e0 e1
  generalize xs.toArray[t / 2]! = x at e0 e1
  have ha : (⟨g, 0, none⟩ : Addr).add (t / 2 * 2) = ⟨g, t / 2 * 2, none⟩ := by unfold Addr.add; split <;> simp_all
  rw [ha] at e0 e1
  rw [Nat.zero_add]
  by_cases hm : t % 2 = 0
  · have et : t / 2 * 2 = t := by omega
    rw [et] at e0
    rw [hm]; exact e0
  · have hm1 : t % 2 = 1 := by omega
    have et : t / 2 * 2 + 1 = t := by omega
    simp only at e1
    rw [et] at e1
    rw [hm1]; exact e1
theorem C_holds {w : World} {g : Nat} {xs : List S31} (hn : xs.length ≤ 9223372036854775807) (h : HoldsK encSp 2 w g 0 xs.toArray) : Kd.C k31 w (some ⟨g, 0, none⟩) xs.length xs := by
  refine ⟨rfl, hn, fun _ => ⟨_, rfl, fun j p hj => ?_⟩⟩
  obtain ⟨hj2, rfl⟩ := List.getElem?_eq_some_iff.1 hj
  refine ⟨[.int .i64 xs[j].f0, .int .i64 xs[j].f1], rfl, k31_mk w xs[j], fun i u hu => ?_⟩
  have hsz : xs.toArray.size = xs.length := by simp
  have ex : xs.toArray[j]! = xs[j] := by rw [getElem!_pos _ _ (by rw [hsz]; exact hj2)]; simp
  have ha : (⟨g, 0, none⟩ : Addr).add (j * (k31).sz + i) = ⟨g, j * 2 + i, none⟩ := by
    show (⟨g, 0, none⟩ : Addr).add (j * 2 + i) = _
    unfold Addr.add; split <;> simp_all
  rw [ha]
  match i, hu with
  | 0, hu =>
    cases hu
    have := (h.cell (i := j) (c := 0) (by rw [hsz]; exact hj2) (by decide)).1
    rw [ex] at this
    simpa [encSp] using this
  | 1, hu =>
    cases hu
    have := (h.cell (i := j) (c := 1) (by rw [hsz]; exact hj2) (by decide)).1
    rw [ex] at this
    simpa [encSp] using this
  | i + 2, hu => simp at hu
theorem aggS (w : World) : (isAgg 31).run Tryd.prog w = .ok true w := Tryd.isAgg31 w
theorem sizS (w : World) : (Go.sizeOf 31).run Tryd.prog w = .ok 2 w := Tryd.sizeOf31 w
set_option maxRecDepth 100000 in
set_option maxHeartbeats 4000000 in
theorem sort_none (c : Nat) (A : Option Addr) (w : World) : Calls Tryd.prog 46 #[.slice A 0 c, .func (.func 47) #[] #[]] w fun e w' => e = .returned (.tuple #[]) ∧ w' = w := by
  have hb := fun w => Tryd.bits_Len 0 w (by decide) (by decide)
  have hi : ∀ w, Calls Tryd.prog 82 #[.slice A 0 c, .int .i64 0, .int .i64 0, .func (.func 47) #[] #[]] w fun e w' => e = .returned (.tuple #[]) ∧ w' = w := fun w => by
    go_enter Tryd.func82, Tryd.ntmps82
    go_wp2
    refine wp_loop_rounds 1 ?_
    rw [rounds_succ]
    go_wp2
    go_end0
    exact ⟨rfl, rfl⟩
  have hp : ∀ lim w, Calls Tryd.prog 68 #[.slice A 0 c, .int .i64 0, .int .i64 0, .int .i64 lim, .func (.func 47) #[] #[]] w fun e w' => e = .returned (.tuple #[]) ∧ w' = w := fun lim w => by
    go_enter Tryd.func68, Tryd.ntmps68
    go_wp2
    refine wp_loop_rounds 1 ?_
    rw [rounds_succ]
    go_wp2_with (go_at_call 82; refine (hi _).mono ?_; rintro e w' ⟨rfl, rfl⟩)
    (try simp only [Exit.inBlock, Exit.then])
    refine bodyPost_ret (results_none rfl _ _ _) rfl ?_
    exact ⟨rfl, rfl⟩
  go_enter Tryd.func46, Tryd.ntmps46
  go_wp2_with (first | (go_at_call 69; refine (hb _).mono ?_; rintro e w' ⟨rfl, rfl⟩) | (go_at_call 68; refine (hp _ _).mono ?_; rintro e w' ⟨rfl, rfl⟩))
  go_end0
  exact ⟨rfl, rfl⟩
theorem stir_putRow_ {α : Type} [Inhabited α] (enc : α → Value) (w : World) (n blk off : Nat) (d : Array α) : Stir (fun k => k = blk) w (putRow enc (Sort.ahead w n) blk off d) :=
  ⟨rfl, rfl, rfl, by simp, fun k _ hn => by
    have hn' : ¬ blk = k := fun e => hn e.symm
    simp [putRow, mapBlock, Array.getElem?_modify, hn', Sort.ahead]⟩
theorem stir_grow_ {S : Nat → Prop} {w w1 : World} (h : Stir S w w1) (os : Array Obj) : Stir S w (grow w1 os) :=
  ⟨h.os, h.tape, h.output, by have := h.size; simp; omega, fun k hk hn => (heap_grow_old w1 os (Nat.lt_of_lt_of_le hk h.size)).trans (h.block k hk hn)⟩
set_option maxRecDepth 100000 in
/-- the library's sort of a row of one's own: what it leaves is read -/
theorem sort_any (v : Value) (xs : List S31) (w : World) (base : Nat) (hn : xs.length ≤ 1000000000) (hb : base ≤ w.heap.size) (h : Kd.R k31 31 w base (fun _ => True) v xs) :
    Calls Tryd.prog 46 #[v, .func (.func 47) #[] #[]] w fun e w' => e = .returned (.tuple #[]) ∧ Kd.V k31 31 w' base (fun k_ => base ≤ k_) v (pdqS xs) ∧ Below base w w' := by
  obtain ⟨A, c, rfl⟩ := Kd.R_slice h
  have hsp := pdqS_spec xs
  have hown := h
  obtain ⟨_, inner, ho, _⟩ := hown
  rcases ho.2 with ⟨e1, e2⟩ | ⟨g, cap, cur, e1, hbg, hg, hcap, _⟩
  · obtain rfl : xs = [] := List.eq_nil_of_length_eq_zero e2
    have he : pdqS [] = [] := List.eq_nil_of_length_eq_zero hsp.1
    rw [he]
    cases e1
    refine (sort_none 0 none w).mono ?_
    rintro e w' ⟨rfl, rfl⟩
    exact ⟨rfl, Kd.V_nil _ _ _ _ _, Below.refl _ _⟩
  · cases e1
    have hgl : g < w.heap.size := (Array.getElem?_eq_some_iff.1 hg).1
    have hH := holds_R h
    have hs := Tryd.slices_SortFunc_eq 2 aggS sizS encSp (fun _ => rfl) (fun x v hv => by
      simp only [encSp, List.mem_cons, List.mem_nil_iff, or_false] at hv
      rcases hv with rfl | rfl <;> rfl) cfSp swo_cf 47 #[] g 0 c xs.toArray w (enters_of Tryd.func47 (by kernel_rfl) rfl)
      (fun m os dk _ x y => cmp_calls x y _) hH hgl (by simp; omega)
    rw [show xs.toArray.size = xs.length by simp] at hs
    refine hs.mono ?_
    rintro e w' ⟨rfl, n, os, rfl⟩
    have hlen := hsp.1
    have hP : pdq (ltOf cfSp) xs.toArray 0 xs.length (Lib.bitLen xs.length) true true = (pdqS xs).toArray := by
      unfold pdqS; simp
    rw [hP]
    have hH2 : HoldsK encSp 2 (sortWorldK encSp 2 w g 0 n (pdqS xs).toArray os) g 0 (pdqS xs).toArray := by
      unfold sortWorldK
      have h2 := holdsK_putRowK encSp 2 (Sort.ahead w n) g 0 xs.toArray (pdqS xs).toArray (holdsK_ahead encSp 2 w n g 0 _ hH) (by simp [hlen])
      exact holdsK_grow encSp 2 _ os g 0 _ (by
        show g < (putRowK encSp 2 (Sort.ahead w n) g 0 (pdqS xs).toArray).heap.size
        unfold putRowK putRow mapBlock
        simpa [Sort.ahead] using hgl) h2
    have hst : Stir (fun k => k = g) w (sortWorldK encSp 2 w g 0 n (pdqS xs).toArray os) := by
      unfold sortWorldK putRowK
      exact stir_grow_ (stir_putRow_ id w n g 0 _) os
    refine ⟨rfl, ⟨some ⟨g, 0, none⟩, c, by rw [hlen], by rw [hlen]; exact (Kd.R_reads' h).2.1, ?_⟩, hst.below hb (fun k hk => by rw [hk]; exact hbg)⟩
    intro W2 hW2
    have hC := C_holds (xs := pdqS xs) (by omega) hH2
    have hgw : g < (sortWorldK encSp 2 w g 0 n (pdqS xs).toArray os).heap.size := Nat.lt_of_lt_of_le hgl hst.size
    have e := hW2 g hbg hgw
    obtain ⟨h1, h2, h3⟩ := hC
    refine ⟨h1, h2, fun hp => ?_⟩
    obtain ⟨ad, e3, h4⟩ := h3 hp
    cases e3
    refine ⟨_, rfl, fun j p hj => ?_⟩
    obtain ⟨cs, c1, c2, c3⟩ := h4 j p hj
    refine ⟨cs, c1, ?_, fun i u hu => ?_⟩
    · have := k31_open c2
      rw [this]; exact k31_mk W2 p
    · have hblk : ((⟨g, 0, none⟩ : Addr).add (j * (k31).sz + i)).block = g := by unfold Addr.add; split <;> rfl
      exact (World.cell?_of_block (show W2.heap[((⟨g, 0, none⟩ : Addr).add (j * (k31).sz + i)).block]? = _ by rw [hblk]; exact e)).trans (c3 i u hu)
end Go.Proofs.YtnlakdpfkgjdaaaDoor.G

/- spans.said in the print's words. Condition: a bound on the list's length. -/
namespace Go.Proofs.YtnlakdpfkgjdaaaDoor.G
open Go.RowKit Go.Cav Go.Proofs.YtnlakdpfkgjdaaaDoorW.PrintWords Go.Proofs.YtnlakdpfkgjdaaaDoorW.PrintLast Go.Proofs.YtnlakdpfkgjdaaaDoorW.PrintMore
def spans_said.f (l0 : List S31) : Option (List S31) := if l0.length ≤ 1000000000 then some (pdqS (cutS l0)) else none
theorem said_any (A0 : Option Addr) (c0 : Nat) (l0 : List S31) (w : World) (hr0 : Kd.C k31 w A0 l0.length l0) (h0 : l0.length ≤ 1000000000) :
    Calls Tryd.prog 32 #[.slice A0 l0.length c0] w fun e w' => ∃ v0_ : Value, e = .returned (v0_) ∧ Kd.V k31 31 w' w.heap.size (fun k_ => (w.heap.size ≤ k_)) v0_ (pdqS (cutS l0)) ∧ Below w.heap.size w w' :=
  said_calls A0 c0 l0 w hr0 h0 pdqS fun v xs w1 hx hb hR => (sort_any v xs w1 w.heap.size hx hb.size hR).mono fun _ _ ⟨a, b, c⟩ => ⟨a, b, hb.trans c⟩
theorem spans_said.calls (A0 : Option Addr) (c0 : Nat) (l0 : List S31) (r : List S31) (w : World) (hr0 : Kd.C k31 w A0 l0.length l0) (_hc0 : l0.length ≤ c0) (h : spans_said.f l0 = some r) :
    Calls Tryd.prog 32 #[.slice A0 l0.length c0] w fun e w' => ∃ v0_ : Value, e = .returned (v0_) ∧ Kd.V k31 31 w' w.heap.size (fun k_ => (w.heap.size ≤ k_)) v0_ r ∧ Below w.heap.size w w' := by
  unfold spans_said.f at h
  split at h
  case isFalse => cases h
  case isTrue hb =>
    obtain rfl := Option.some.inj h
    exact said_any A0 c0 l0 w hr0 hb
end Go.Proofs.YtnlakdpfkgjdaaaDoor.G

/- What caravan/spans.Norm comes to, and its calls; by a program of mine over the kit's print. Conditions: where the plain function tells none, nothing is said. -/
namespace Go.Proofs.YtnlakdpfkgjdaaaDoor.G
open Go.RowKit Go.Proofs.YtnlakdpfkgjdaaaDoorW.PrintWords Go.Proofs.YtnlakdpfkgjdaaaDoorW.PrintLast Go.Proofs.YtnlakdpfkgjdaaaDoorW.PrintMore
attribute [local go_sem] max2_int min2_int max_two min_two max_three min_three max_four min_four   -- for this text's walks alone
set_option linter.unusedVariables false
set_option linter.unusedSimpArgs false

/-! ### spans_Norm: function 16 -/
def spans_Norm.l0 : Nat → List (S31) → List (S31) → Int → Int → Option ((List (S31)))
 | 0, _, _, _, _ => none
 | k + 1, x3, x8, x9, x10 => if x10 < x9 then (if 0 ≤ x10 then (if x10 < (x8.length : Int) then (if (x3.length : Int) > 0 then (if 0 ≤ (wrap64 ((x3.length : Int) - 1)) then (if (wrap64 ((x3.length : Int) - 1)) < (x3.length : Int) then (if ((rd_T31 x8 x10).f0) ≤ (wrap64 (((rd_T31 x3 (wrap64 ((x3.length : Int) - 1))).f1) + 1)) then (spans_Norm.l0 k (x3.set ((wrap64 ((x3.length : Int) - 1)) : Int).toNat (⟨(rd_T31 x3 (wrap64 ((x3.length : Int) - 1))).f0, mx ((rd_T31 x3 (wrap64 ((x3.length : Int) - 1))).f1) ((rd_T31 x8 x10).f1)⟩ : S31)) x8 x9 (wrap64 (x10 + 1))) else (if x3.length < 8796093022208 then (spans_Norm.l0 k (x3 ++ [(⟨(rd_T31 x8 x10).f0, (rd_T31 x8 x10).f1⟩ : S31)]) x8 x9 (wrap64 (x10 + 1))) else (none))) else (none)) else (none)) else (if x3.length < 8796093022208 then (spans_Norm.l0 k (x3 ++ [(⟨(rd_T31 x8 x10).f0, (rd_T31 x8 x10).f1⟩ : S31)]) x8 x9 (wrap64 (x10 + 1))) else (none))) else (none)) else (none)) else (some x3)
def spans_Norm.f (k : Nat) (l0 : List (S31)) : Option ((List (S31))) := (spans_said.f l0).bind fun t101 => (spans_Norm.l0 k ([] : List (S31)) t101 (t101.length : Int) 0)
theorem spans_Norm.mono_l : ∀ k, (∀ y0 y1 y2 y3, LeO (spans_Norm.l0 k y0 y1 y2 y3) (spans_Norm.l0 (k + 1) y0 y1 y2 y3))
 | 0 => fun _ _ _ _ r h => by simp [spans_Norm.l0] at h
 | k + 1 => by
  have ih0 := spans_Norm.mono_l k
  ·intro y0 y1 y2 y3
   unfold spans_Norm.l0
   repeat' first
   | (with_reducible exact ih0 _ _ _ _)
   | (with_reducible exact LeO.refl _)
   | (with_reducible exact LeO.none _)
   | (with_reducible refine LeO.ite ?_ ?_)
   | (with_reducible refine LeO.bind ?_ (fun _ => ?_))
   | exact ih0 _ _ _ _
   | exact LeO.none _
   | refine LeO.ite ?_ ?_
   | refine LeO.bind ?_ (fun _ => ?_)
theorem spans_Norm.mono : ∀ a0 k, LeO (spans_Norm.f k a0) (spans_Norm.f (k + 1) a0) := by
 intro a0 k
 have ih0 := spans_Norm.mono_l k
 unfold spans_Norm.f
 repeat' first
  | (with_reducible exact ih0 _ _ _ _)
  | (with_reducible exact LeO.refl _)
  | (with_reducible exact LeO.none _)
  | (with_reducible refine LeO.ite ?_ ?_)
  | (with_reducible refine LeO.bind ?_ (fun _ => ?_))
  | exact ih0 _ _ _ _
  | exact LeO.none _
  | refine LeO.ite ?_ ?_
  | refine LeO.bind ?_ (fun _ => ?_)
def spans_Norm.T6 : Bool × List (List Nat × List Nat) := (true, [([], []), ([0], [0]), ([1], [1]), ([2], [2]), ([3, 2], [2, 3]), ([2], [2]), ([2], [2]), ([6, 2], [2, 6]), ([5, 7, 2], [2, 5, 7]), ([8, 2], [2, 8]), ([9, 2], [2, 9]), ([10, 2], [2, 10]), ([4, 11, 2], [2, 4, 11]), ([2, 12], [2, 12])])
def spans_Norm.B6 : List Nat := [0, 1, 3, 7, 15, 7, 7, 71, 231, 487, 999, 2023, 4095, 8191]
theorem spans_Norm.tab6 : rtab .any (opsOf Tryd.f16 6) = spans_Norm.T6 := by kernel_rfl
theorem spans_Norm.bits6 : waitsOk spans_Norm.T6.2 spans_Norm.B6 = true := by kernel_rfl
def spans_Norm.T7 : Bool × List (List Nat × List Nat) := (true, [([], []), ([], []), ([1], [1]), ([], []), ([], []), ([4], [4]), ([3, 5], [3, 5]), ([6], [6]), ([7], [7]), ([], []), ([9], [9]), ([8, 10], [8, 10]), ([0, 2, 0, 1, 2, 3, 4, 5, 6, 7, 8, 9, 10, 11], [0, 2]), ([12, 0, 1, 2, 3, 4, 5, 6, 7, 8, 9, 10, 11], [12]), ([13, 11, 0, 1, 2, 3, 4, 5, 6, 7, 8, 9, 10, 11], [11, 13])])
def spans_Norm.B7 : List Nat := [0, 0, 2, 0, 0, 16, 56, 120, 248, 0, 512, 2040, 4095, 8191, 16383]
theorem spans_Norm.tab7 : rtab .any (opsOf Tryd.f16 7) = spans_Norm.T7 := by kernel_rfl
theorem spans_Norm.bits7 : waitsOk spans_Norm.T7.2 spans_Norm.B7 = true := by kernel_rfl
set_option maxHeartbeats 8000000 in
set_option maxRecDepth 100000 in
theorem spans_Norm.calls (k : Nat) (A0 : Option Addr) (c0 : Nat) (l0 : List (S31)) (r : List (S31)) (w : World) (hr0 : Kd.C k31 w A0 l0.length l0) (hc0 : l0.length ≤ c0) (h : spans_Norm.f k l0 = some r) :
 Calls Tryd.prog 16 #[.slice A0 l0.length c0] w fun e w' => ∃ v0_ : Value, e = .returned (v0_) ∧ Kd.R k31 31 w' w.heap.size (fun _ => True) v0_ r ∧ Below w.heap.size w w' := by
 have hu31 := Tryd.underlying31
 have HR0 := Aside0.mk hr0
 have HC0 := Aside0.mk hc0
 clear hr0 hc0
 have HB := Aside0.mk (Below.refl w.heap.size w)
 have H : ((spans_said.f l0).bind fun t101 => (spans_Norm.l0 k ([] : List (S31)) t101 (t101.length : Int) 0)) = some r := h
 clear h
 replace H := Option.bind_eq_some_iff.mp H
 obtain ⟨t101, A20, H⟩ := H
 replace H : (spans_Norm.l0 k ([] : List (S31)) t101 (t101.length : Int) 0) = some r := H
 have A2 := Aside0.mk A20
 clear A20
 have H' := Aside0.mk H
 clear H
 go_enter Tryd.func16, Tryd.ntmps16
 go_wp2_with (first | ((with_reducible refine gate_callee (f := 32) rfl ?_); refine goesL_ (some 8) rfl rfl Tryd.func32 (by kernel_rfl) rfl #[.slice A0 l0.length c0] rfl (by (try simp only [List.map_toArray, List.map_cons, List.map_nil]); first | done | rfl | (simp only [List.length_drop, List.length_take]; rfl)) ?_; (with_reducible refine (spans_said.calls _ _ l0 t101 _ ?side1 ?side2 A2.out).mono ?_); (case side1 => repeat (first | exact HR0.out | (with_reducible refine Kd.C_alloc ?_ _) | (with_reducible refine Kd.C_drewN ?_ _) | (with_reducible refine Kd.C_drew ?_))); (case side2 => exact HC0.out); rintro e w3 ⟨v102, rfl, ho0, hb⟩; refine ⟨_, rfl, ?_⟩; have n0_ := Aside0.mk (Kd.V_lower (Kd.V_mono (ok' := fun k_ => True) ho0 (fun k_ hk_ => trivial)) (below_size (by repeat (first | (with_reducible first | exact HB.out | apply below_alloc | apply pw_below_drewN | apply below_drew1) | exact HB.out)))); have n1_ := Aside0.mk (below_step (by repeat (first | (with_reducible first | exact HB.out | apply below_alloc | apply pw_below_drewN | apply below_drew1) | exact HB.out)) hb); clear HB; have HO103 := n0_; have HB := n1_; clear n0_ n1_; (try clear hb); (try clear hb2); (try clear hk); (try clear hi); (try clear ho0); obtain ⟨Ao4, co4, eo4⟩ := Kd.V_slice HO103.out; subst eo4))
 go_loopg [3, 10] k (fun kq v3 v10 w' => ∃ (x3_1 : List (S31)) (x8_1 : List (S31)) (x10_1 : Int), v10 = .int .i64 x10_1 ∧ Aside0 (spans_Norm.l0 kq x3_1 x8_1 (t101.length : Int) x10_1 = some r) ∧ Aside0 (kq ≤ k) ∧ Aside0 (Kd.R k31 31 w' w.heap.size (fun _ => True) v3 x3_1) ∧ Aside0 (Kd.V k31 31 w' w.heap.size (fun k_ => some k_ ≠ (v3 : Value).ownBlock) (.slice Ao4 t101.length co4) x8_1) ∧ Aside0 (Below w.heap.size w w'))
 case atStart => exact ⟨(([] : List (S31))), (t101), (0), (by first | rfl | (simp; done) | (simp [*]; done)), H', ⟨Nat.le_refl _⟩, ⟨by first | exact Kd.R_nil _ _ _ _ _ | exact Kd.N_nil _ _ _ _ _ | exact Kd.V_nil _ _ _ _ _ | exact Kd.Q_nil _ _ _ _ _ | exact Kd.S_nil _ _ _ _ _⟩, ⟨by (with_reducible repeat (first | apply Kd.V_alloc | apply Kd.V_drewN | apply Kd.V_drew)); exact Kd.V_mono HO103.out (fun _ hk => (by simp [Value.ownBlock]))⟩, ⟨by repeat (first | (with_reducible first | exact HB.out | apply below_alloc | apply pw_below_drewN | apply below_drew1) | exact HB.out)⟩⟩
 case round =>
  clear H'
  try clear c1
  try clear p2
  try clear c3
  obtain ⟨x3_1, x8_1, x10_1, rfl, HA, HK1, HO_3, HO_8, HB⟩ := hrel
  have hl8_1 := (Kd.V_reads' HO_8.out).1
  rw [hl8_1] at HO_8
  (try simp only [hl8_1])
  (try simp only [hl8_1] at HO_3)
  cases gk with
  | zero => exact absurd HA.out (by simp [spans_Norm.l0])
  | succ k1 =>
   have H := HA.out
   clear HA
   simp only [spans_Norm.l0] at H
   by_cases c5 : x10_1 < (t101.length : Int)
   ·rw [if_pos c5] at H
    have c5b0 : decide (x10_1 < (t101.length : Int)) = true := decide_eq_true c5
    clear c5
    by_cases c6 : 0 ≤ x10_1
    ·rw [if_pos c6] at H
     have c6b0 : decide (0 ≤ x10_1) = true := decide_eq_true c6
     clear c6
     by_cases c7 : x10_1 < (x8_1.length : Int)
     ·rw [if_pos c7] at H
      have c7b0 : decide (x10_1 < (x8_1.length : Int)) = true := decide_eq_true c7
      clear c7
      by_cases c8 : (x3_1.length : Int) > 0
      ·rw [if_pos c8] at H
       have c8b0 : decide (0 < (x3_1.length : Int)) = true := decide_eq_true c8
       have c8b1 : decide (0 < x3_1.length) = true := decide_eq_true (by omega)
       clear c8
       obtain ⟨ji9, hji9⟩ : ∃ j_ : Int, (wrap64 ((x3_1.length : Int) - 1)) = j_ := ⟨_, rfl⟩
       replace H : (if 0 ≤ (ji9) then (if (ji9) < (x3_1.length : Int) then (if ((rd_T31 x8_1 x10_1).f0) ≤ (wrap64 (((rd_T31 x3_1 (ji9)).f1) + 1)) then (spans_Norm.l0 k1 (x3_1.set ((ji9) : Int).toNat (⟨(rd_T31 x3_1 (ji9)).f0, mx ((rd_T31 x3_1 (ji9)).f1) ((rd_T31 x8_1 x10_1).f1)⟩ : S31)) x8_1 (t101.length : Int) (wrap64 (x10_1 + 1))) else (if x3_1.length < 8796093022208 then (spans_Norm.l0 k1 (x3_1 ++ [(⟨(rd_T31 x8_1 x10_1).f0, (rd_T31 x8_1 x10_1).f1⟩ : S31)]) x8_1 (t101.length : Int) (wrap64 (x10_1 + 1))) else (none))) else (none)) else (none)) = some r := by first | (rw [hji9] at H; exact H) | (simp only [hji9] at H ⊢; exact H)
       have hji9w : (IntKind.i64.wrap ((x3_1.length : Int) - 1)) = ji9 := (i64_w _).trans hji9
       by_cases c10 : 0 ≤ (ji9)
       ·rw [if_pos c10] at H
        have c10b0 : decide (0 ≤ (ji9)) = true := decide_eq_true c10
        clear c10
        by_cases c11 : (ji9) < (x3_1.length : Int)
        ·rw [if_pos c11] at H
         have c11b0 : decide ((ji9) < (x3_1.length : Int)) = true := decide_eq_true c11
         clear c11
         by_cases c12 : ((rd_T31 x8_1 x10_1).f0) ≤ (wrap64 (((rd_T31 x3_1 (ji9)).f1) + 1))
         ·rw [if_pos c12] at H
          have c12b0 : decide (((rd_T31 x8_1 x10_1).f0) ≤ (wrap64 (((rd_T31 x3_1 (ji9)).f1) + 1))) = true := decide_eq_true c12
          clear c12
          obtain ⟨ji13, hji13⟩ : ∃ j_ : Int, (mx ((rd_T31 x3_1 (ji9)).f1) ((rd_T31 x8_1 x10_1).f1)) = j_ := ⟨_, rfl⟩
          replace H : (spans_Norm.l0 k1 (x3_1.set ((ji9) : Int).toNat (⟨(rd_T31 x3_1 (ji9)).f0, ji13⟩ : S31)) x8_1 (t101.length : Int) (wrap64 (x10_1 + 1))) = some r := by first | (rw [hji13] at H; exact H) | (simp only [hji13] at H ⊢; exact H)
          have hji13_ : (if ((rd_T31 x3_1 (ji9)).f1) < ((rd_T31 x8_1 x10_1).f1) then ((rd_T31 x8_1 x10_1).f1) else ((rd_T31 x3_1 (ji9)).f1)) = ji13 := hji13
          obtain ⟨y108, hy108⟩ : ∃ y_ : List (S31), y_ = (x3_1.set ((ji9) : Int).toNat (⟨(rd_T31 x3_1 (ji9)).f0, ji13⟩ : S31)) := ⟨_, rfl⟩
          replace H : (spans_Norm.l0 k1 y108 x8_1 (t101.length : Int) (wrap64 (x10_1 + 1))) = some r := by first | (rw [hy108]; with_reducible exact H) | (have H2_ := (Option.bind_some _ _).symm.trans H; rw [hy108]; with_reducible exact H2_) | (have H2_ := (Option.bind_some _ _).symm.trans H; with_reducible exact H2_) | with_reducible exact H | (rw [hy108]; exact H) | exact H
          have Ny108 := Aside0.mk hy108
          clear hy108
          have H' := Aside0.mk H
          clear H
          have p104 : 0 ≤ (x10_1 : Int) := of_decide_eq_true (by first | (with_reducible assumption) | assumption)
          have q104 : x10_1 < (x8_1.length : Int) := of_decide_eq_true (by first | (with_reducible assumption) | assumption)
          obtain ⟨ad104, e104, hx104_0, hx104_1⟩ := at_T31 (Kd.V_reads' HO_8.out).2.2 x10_1 p104 q104
          cases e104
          replace p104 := eq_true p104
          replace q104 := eq_true q104
          try go_wp2_with (first | ((with_reducible refine gate_dst (N := 5) rfl ?_); refine box_event ?hg (N := 5) ?hd (cs := #[.int .i64 0, .int .i64 0]) (t := 31) ?hr ?_; (case hd => rfl); (case hg => rfl); (case hr => first | (go_simp; done) | (go_simp; rfl)); intro gb105 hg w15 hbox hb; have n0_ := Aside0.mk (Kd.R_below (Kd.R_elderB (by (with_reducible repeat (first | apply Kd.R_alloc | apply Kd.R_drewN | apply Kd.R_drew)); exact HO_3.out) gb105 (Nat.le_of_eq hg.symm)) hb); have n1_ := Aside0.mk (Kd.V_below (Kd.V_elderB (by (with_reducible repeat (first | apply Kd.V_alloc | apply Kd.V_drewN | apply Kd.V_drew)); exact HO_8.out) gb105 (Nat.le_of_eq hg.symm)) hb); have n2_ := Aside0.mk (below_step (by repeat (first | (with_reducible first | exact HB.out | apply below_alloc | apply pw_below_drewN | apply below_drew1) | exact HB.out)) hb); have n3_ := Aside0.mk (hbox); have n4_ := Aside0.mk ((by rw [hg]; exact (below_size (by repeat (first | (with_reducible first | exact HB.out | apply below_alloc | apply pw_below_drewN | apply below_drew1) | exact HB.out))) : w.heap.size ≤ gb105)); have n5_ := Aside0.mk ((by rw [hg]; exact (below_size (by repeat (first | (with_reducible first | exact HB.out | apply below_alloc | apply pw_below_drewN | apply below_drew1) | exact HB.out))) : w.heap.size ≤ gb105)); clear HO_3; clear HO_8; clear HB; have HO_3 := n0_; have HO_8 := n1_; have HB := n2_; have BK105 := n3_; have GW105 := n4_; have GE105 := n5_; clear n0_ n1_ n2_ n3_ n4_ n5_; clear hb hbox hg; have hcz16_0 : w15.cell? ⟨gb105, 0, none⟩ = some (.int .i64 0) := (blk_cell BK105.out 0).trans rfl; have hcz16_1 : w15.cell? ⟨gb105, 1, none⟩ = some (.int .i64 0) := (blk_cell BK105.out 1).trans rfl; have hfz16_0 := blk_frozen BK105.out 0; have hfz16_1 := blk_frozen BK105.out 1; obtain ⟨Ao17, co17, eo17⟩ := Kd.R_slice HO_3.out; subst eo17))
          have n0_ : Aside0 (Kd.R k31 31 ((w15.setCell ⟨gb105, 0, none⟩ (.int .i64 ((rd_T31 x8_1 x10_1).f0))).setCell ⟨gb105, 1, none⟩ (.int .i64 ((rd_T31 x8_1 x10_1).f1))) w.heap.size (fun k_ => k_ ≠ gb105) (.slice Ao17 x3_1.length co17) x3_1) := ⟨by (with_reducible repeat (first | apply Kd.R_alloc | apply Kd.R_drewN | apply Kd.R_drew)); exact Kd.R_mono (Kd.R_far (p := ⟨gb105, 1, none⟩) (Kd.R_far (p := ⟨gb105, 0, none⟩) (Kd.R_mono HO_3.out (fun k_ hk => (⟨hk, hk.2⟩ : _ ∧ k_ ≠ gb105))) (fun _ hk => hk.2) (.int .i64 ((rd_T31 x8_1 x10_1).f0))) (fun _ hk => hk.2) (.int .i64 ((rd_T31 x8_1 x10_1).f1))) (fun _ hk => hk.1.2)⟩
          have n1_ : Aside0 (Kd.V k31 31 ((w15.setCell ⟨gb105, 0, none⟩ (.int .i64 ((rd_T31 x8_1 x10_1).f0))).setCell ⟨gb105, 1, none⟩ (.int .i64 ((rd_T31 x8_1 x10_1).f1))) w.heap.size (fun k_ => some k_ ≠ (.slice Ao17 x3_1.length co17 : Value).ownBlock ∧ k_ ≠ gb105) (.slice (some ad104) x8_1.length co4) x8_1) := ⟨by (with_reducible repeat (first | apply Kd.V_alloc | apply Kd.V_drewN | apply Kd.V_drew)); exact Kd.V_mono (Kd.V_far (p := ⟨gb105, 1, none⟩) (Kd.V_far (p := ⟨gb105, 0, none⟩) (Kd.V_mono HO_8.out (fun k_ hk => (⟨hk, hk.2⟩ : _ ∧ k_ ≠ gb105))) (fun _ hk => hk.2) (.int .i64 ((rd_T31 x8_1 x10_1).f0))) (fun _ hk => hk.2) (.int .i64 ((rd_T31 x8_1 x10_1).f1))) (fun _ hk => ⟨hk.1.1, hk.1.2⟩)⟩
          have n2_ : Aside0 (((w15.setCell ⟨gb105, 0, none⟩ (.int .i64 ((rd_T31 x8_1 x10_1).f0))).setCell ⟨gb105, 1, none⟩ (.int .i64 ((rd_T31 x8_1 x10_1).f1))).heap[gb105]? = some (.cells #[.int .i64 ((rd_T31 x8_1 x10_1).f0), .int .i64 ((rd_T31 x8_1 x10_1).f1)] 31 (0, 0))) := ⟨by (with_reducible repeat (first | refine blk_drewN ?_ _ | refine blk_drew ?_ | refine blk_alloc ?_ _)); refine blk_put (cs := #[.int .i64 ((rd_T31 x8_1 x10_1).f0), .int .i64 0]) ?_ 1 _ rfl; (with_reducible repeat (first | refine blk_drewN ?_ _ | refine blk_drew ?_ | refine blk_alloc ?_ _)); refine blk_put (cs := #[.int .i64 0, .int .i64 0]) ?_ 0 _ rfl; (with_reducible repeat (first | refine blk_drewN ?_ _ | refine blk_drew ?_ | refine blk_alloc ?_ _)); exact BK105.out⟩
          have n3_ : Aside0 (Below w.heap.size w ((w15.setCell ⟨gb105, 0, none⟩ (.int .i64 ((rd_T31 x8_1 x10_1).f0))).setCell ⟨gb105, 1, none⟩ (.int .i64 ((rd_T31 x8_1 x10_1).f1)))) := ⟨by repeat (first | (with_reducible first | exact HB.out | apply below_alloc | apply pw_below_drewN | apply below_drew1 | refine below_set ?_ GE105.out) | exact HB.out)⟩
          (try clear HO_3)
          (try clear HO_8)
          (try clear BK105)
          (try clear HB)
          generalize ((w15.setCell ⟨gb105, 0, none⟩ (.int .i64 ((rd_T31 x8_1 x10_1).f0))).setCell ⟨gb105, 1, none⟩ (.int .i64 ((rd_T31 x8_1 x10_1).f1))) = w18 at n0_ n1_ n2_ n3_ ⊢
          have HO_3 := n0_
          have HO_8 := n1_
          have BK105 := n2_
          have HB := n3_
          clear n0_ n1_ n2_ n3_
          have n0_ := Aside0.mk (Kd.R_drew HO_3.out)
          have n1_ := Aside0.mk (Kd.V_drew HO_8.out)
          have n2_ := Aside0.mk (blk_drew BK105.out)
          have n3_ := Aside0.mk (below_drew1 HB.out)
          clear HO_3
          clear HO_8
          clear BK105
          clear HB
          have HO_3 := n0_
          have HO_8 := n1_
          have BK105 := n2_
          have HB := n3_
          clear n0_ n1_ n2_ n3_
          have p106 : 0 ≤ ((ji9) : Int) := of_decide_eq_true (by first | (with_reducible assumption) | assumption)
          have q106 : (ji9) < (x3_1.length : Int) := of_decide_eq_true (by first | (with_reducible assumption) | assumption)
          obtain ⟨ad106, e106, hx106_0, hx106_1⟩ := at_T31 (Kd.R_reads' HO_3.out).2.2 (ji9) p106 q106
          cases e106
          replace p106 := eq_true p106
          replace q106 := eq_true q106
          refine start_ (n := 14) (S := fun w' => w'.cell? ⟨gb105, 0, none⟩ = some (.int .i64 ((rd_T31 x8_1 x10_1).f0)) ∧ w'.cell? ⟨gb105, 1, none⟩ = some (.int .i64 ((rd_T31 x8_1 x10_1).f1)) ∧ w'.cell? (ad106.add (((ji9)).toNat * 2)) = some (.int .i64 ((rd_T31 x3_1 (ji9)).f0)) ∧ w'.cell? ⟨(ad106.add (((ji9)).toNat * 2)).block, (ad106.add (((ji9)).toNat * 2)).off + 1, none⟩ = some (.int .i64 ((rd_T31 x3_1 (ji9)).f1))) (ds := []) #[false, false, false, false, false, false, false, false, false, false, false, false, false, false] (by kernel_rfl) rfl rfl ⟨(blk_cell BK105.out 0).trans rfl, (blk_cell BK105.out 1).trans rfl, hx106_0, hx106_1⟩ (fun hHeld => ?_); refine with_tabW spans_Norm.tab6 spans_Norm.bits6 (fun HT_ HW_ => ?_)
          generalize w18.drew = w19 at HO_3 HO_8 BK105 HB hx106_0 hx106_1 hHeld ⊢
          refine pure_ (i := 0) (N := some 16) (v := ?_) (a' := ?_) #[true, false, false, false, false, false, false, false, false, false, false, false, false, false] rfl rfl (any_of HT_.out (by kernel_rfl)) (fun _ _ _ h => h) (Or.inl ⟨by rfl, ?_⟩) ?_ ?_
          rotate_left
          ·intro w'
           go_simp
           with_reducible rfl
          rotate_left
          ·simp only [Act.put, List.setIfInBounds_toArray, List.set_cons_zero, List.set_cons_succ, i64_w, i32_w]
           rfl
          refine pure_ (i := 1) (N := some 17) (v := ?_) (a' := ?_) #[true, true, false, false, false, false, false, false, false, false, false, false, false, false] rfl rfl (any_of HT_.out (by kernel_rfl)) (fun _ _ _ h => h) (Or.inl ⟨by rfl, ?_⟩) ?_ ?_
          rotate_left
          ·intro w'
           go_simp
           with_reducible rfl
          rotate_left
          ·simp only [Act.put, List.setIfInBounds_toArray, List.set_cons_zero, List.set_cons_succ, i64_w, i32_w]
           rfl
          refine pure_ (i := 2) (N := some 18) (v := ?_) (a' := ?_) #[true, true, true, false, false, false, false, false, false, false, false, false, false, false] rfl rfl (any_of HT_.out (by kernel_rfl)) (fun _ _ _ h => h) (Or.inl ⟨by rfl, ?_⟩) ?_ ?_
          rotate_left
          ·intro w'
           go_simp
           with_reducible rfl
          rotate_left
          ·simp only [Act.put, List.setIfInBounds_toArray, List.set_cons_zero, List.set_cons_succ, i64_w, i32_w]
           rfl
          refine pure_ (i := 3) (N := some 19) (v := ?_) (a' := ?_) #[true, true, true, true, false, false, false, false, false, false, false, false, false, false] rfl rfl (any_of HT_.out (by kernel_rfl)) (fun _ _ _ h => h) (Or.inl ⟨by rfl, ?_⟩) ?_ ?_
          rotate_left
          ·intro w'
           go_simp
           with_reducible rfl
          rotate_left
          ·simp only [Act.put, List.setIfInBounds_toArray, List.set_cons_zero, List.set_cons_succ, i64_w, i32_w]
           rfl
          refine pure_ (i := 5) (N := some 21) (v := ?_) (a' := ?_) #[true, true, true, true, false, true, false, false, false, false, false, false, false, false] rfl rfl (any_of HT_.out (by kernel_rfl)) (fun _ _ _ h => h) (Or.inl ⟨by rfl, ?_⟩) ?_ ?_
          rotate_left
          ·intro w'
           go_simp
           with_reducible rfl
          rotate_left
          ·simp only [Act.put, List.setIfInBounds_toArray, List.set_cons_zero, List.set_cons_succ, i64_w, i32_w]
           rfl
          refine pure_ (i := 6) (N := some 22) (v := ?_) (a' := ?_) #[true, true, true, true, false, true, true, false, false, false, false, false, false, false] rfl rfl (any_of HT_.out (by kernel_rfl)) (fun _ _ _ h => h) (Or.inl ⟨by rfl, ?_⟩) ?_ ?_
          rotate_left
          ·intro w'
           go_simp
           with_reducible rfl
          rotate_left
          ·simp only [Act.put, List.setIfInBounds_toArray, List.set_cons_zero, List.set_cons_succ, i64_w, i32_w]
           rfl
          refine pure_ (i := 7) (N := some 23) (v := ?_) (a' := ?_) #[true, true, true, true, false, true, true, true, false, false, false, false, false, false] rfl rfl (any_of HT_.out (by kernel_rfl)) (fun _ _ _ h => h) (Or.inl ⟨by rfl, ?_⟩) ?_ ?_
          rotate_left
          ·intro w'
           go_simp
           with_reducible rfl
          rotate_left
          ·simp only [Act.put, List.setIfInBounds_toArray, List.set_cons_zero, List.set_cons_succ, i64_w, i32_w]
           rfl
          refine pure_ (i := 8) (N := some 24) (v := ?_) (a' := ?_) #[true, true, true, true, false, true, true, true, true, false, false, false, false, false] rfl rfl (any_of HT_.out (by kernel_rfl)) (fun _ _ _ h => h) (Or.inl ⟨by rfl, ?_⟩) ?_ ?_
          rotate_left
          ·intro w'
           go_simp
           with_reducible rfl
          rotate_left
          ·simp only [Act.put, List.setIfInBounds_toArray, List.set_cons_zero, List.set_cons_succ, i64_w, i32_w]
           rfl
          refine pure_ (i := 9) (N := some 25) (v := ?_) (a' := ?_) #[true, true, true, true, false, true, true, true, true, true, false, false, false, false] rfl rfl (any_of HT_.out (by kernel_rfl)) (fun _ _ _ h => h) (Or.inl ⟨by rfl, ?_⟩) ?_ ?_
          rotate_left
          ·intro w'
           go_simp
           with_reducible rfl
          rotate_left
          ·simp only [Act.put, List.setIfInBounds_toArray, List.set_cons_zero, List.set_cons_succ, i64_w, i32_w]
           rfl
          refine take_ (i := 4) (N := some 20) (v := ?_) (a' := ?_) #[true, true, true, true, true, true, true, true, true, true, false, false, false, false] rfl rfl (take_ofW HT_.out HW_.out (by kernel_rfl)) (fun _ _ _ h => h) (Or.inl ⟨by rfl, ?_⟩) hHeld ?_ ?_
          rotate_left
          ·rintro w' ⟨s0, s1, s2, s3⟩
           go_simp
           with_reducible rfl
          rotate_left
          ·simp only [Act.put, List.setIfInBounds_toArray, List.set_cons_zero, List.set_cons_succ, i64_w, i32_w]
           rfl
          refine take_ (i := 10) (N := some 26) (v := ?_) (a' := ?_) #[true, true, true, true, true, true, true, true, true, true, true, false, false, false] rfl rfl (take_ofW HT_.out HW_.out (by kernel_rfl)) (fun _ _ _ h => h) (Or.inl ⟨by rfl, ?_⟩) hHeld ?_ ?_
          rotate_left
          ·rintro w' ⟨s0, s1, s2, s3⟩
           go_simp
           with_reducible rfl
          rotate_left
          ·simp only [Act.put, List.setIfInBounds_toArray, List.set_cons_zero, List.set_cons_succ, i64_w, i32_w]
           rfl
          refine pure_ (i := 11) (N := some 27) (v := ?_) (a' := ?_) #[true, true, true, true, true, true, true, true, true, true, true, true, false, false] rfl rfl (any_of HT_.out (by kernel_rfl)) (fun _ _ _ h => h) (Or.inl ⟨by rfl, ?_⟩) ?_ ?_
          rotate_left
          ·intro w'
           go_simp
           with_reducible rfl
          rotate_left
          ·simp only [Act.put, List.setIfInBounds_toArray, List.set_cons_zero, List.set_cons_succ, i64_w, i32_w]
           rfl
          refine pure_ (i := 12) (N := some 28) (v := ?_) (a' := ?_) #[true, true, true, true, true, true, true, true, true, true, true, true, true, false] rfl rfl (any_of HT_.out (by kernel_rfl)) (fun _ _ _ h => h) (Or.inl ⟨by rfl, ?_⟩) ?_ ?_
          rotate_left
          ·intro w'
           go_simp
           with_reducible rfl
          rotate_left
          ·simp only [Act.put, List.setIfInBounds_toArray, List.set_cons_zero, List.set_cons_succ, i64_w, i32_w]
           rfl
          refine pure_ (i := 13) (N := some 29) (v := ?_) (a' := ?_) #[true, true, true, true, true, true, true, true, true, true, true, true, true, true] rfl rfl (any_of HT_.out (by kernel_rfl)) (fun _ _ _ h => h) (Or.inl ⟨by rfl, ?_⟩) ?_ ?_
          rotate_left
          ·intro w'
           go_simp
           with_reducible rfl
          rotate_left
          ·simp only [Act.put, List.setIfInBounds_toArray, List.set_cons_zero, List.set_cons_succ, i64_w, i32_w]
           rfl
          refine done_ (done_of HT_.out (by kernel_rfl)) ?_
          try go_wp2
          have n0_ := Aside0.mk (Kd.R_drew HO_3.out)
          have n1_ := Aside0.mk (Kd.V_drew HO_8.out)
          have n2_ := Aside0.mk (blk_drew BK105.out)
          have n3_ := Aside0.mk (below_drew1 HB.out)
          clear HO_3
          clear HO_8
          clear BK105
          clear HB
          have HO_3 := n0_
          have HO_8 := n1_
          have BK105 := n2_
          have HB := n3_
          clear n0_ n1_ n2_ n3_
          have p107 : 0 ≤ ((ji9) : Int) := of_decide_eq_true (by first | (with_reducible assumption) | assumption)
          have q107 : (ji9) < (x3_1.length : Int) := of_decide_eq_true (by first | (with_reducible assumption) | assumption)
          obtain ⟨ad107, e107, hx107_0, hx107_1⟩ := at_T31 (Kd.R_reads' HO_3.out).2.2 (ji9) p107 q107
          obtain rfl : ad106 = ad107 := (by injection e107)
          replace p107 := eq_true p107
          replace q107 := eq_true q107
          have p14 : 0 ≤ ((ji9) : Int) := of_decide_eq_true (by first | (with_reducible assumption) | assumption)
          have q14 : ((ji9) : Int) < ((x3_1.length : Int) : Int) := of_decide_eq_true (by first | (with_reducible assumption) | assumption)
          obtain ⟨go14, co14, eo14, gb14, gl14, cl14, HG14⟩ := Kd.R_form HO_3.out (by omega)
          (first | cases eo14 | (injection eo14 with ea_ en_ ec_; (first | subst ea_ | (injection ea_ with ea_; subst ea_)); subst ec_; clear en_))
          have GB14 := Aside0.mk gb14
          have GG14 := Aside0.mk HG14
          clear gb14 gl14 HG14
          (first | simp only [add_plain] at hx106_0 | skip)
          (first | simp only [add_plain] at hx106_1 | skip)
          (first | simp only [add_plain] at hx107_0 | skip)
          (first | simp only [add_plain] at hx107_1 | skip)
          obtain ⟨ce14, hcl14, hM14, hcc14, hfr14⟩ := Kd.R_elem HO_3.out z31 ((ji9) : Int) p14 q14
          obtain rfl := k31_openM hM14
          have hx14_0 : World.cell? _ ⟨go14, ((ji9) : Int).toNat * 2, none⟩ = some (.int .i64 ((rd_T31 x3_1 (ji9)).f0)) := hcc14 0 _ rfl
          have hx14_1 : World.cell? _ ⟨go14, ((ji9) : Int).toNat * 2 + 1, none⟩ = some (.int .i64 ((rd_T31 x3_1 (ji9)).f1)) := hcc14 1 _ rfl
          have hf14_0 : World.frozen? _ ⟨go14, ((ji9) : Int).toNat * 2, none⟩ = false := hfr14 0
          have hf14_1 : World.frozen? _ ⟨go14, ((ji9) : Int).toNat * 2 + 1, none⟩ = false := hfr14 1
          clear hcl14 hcc14 hfr14 hM14
          replace p14 := eq_true p14
          replace q14 := eq_true q14
          obtain ⟨ce21, hcl21, hM21, hcc21, hfr21⟩ := Kd.R_elem HO_3.out z31 ((ji9) : Int) (of_decide_eq_true (by first | (with_reducible assumption) | assumption)) (by have h_ : ((ji9) : Int) < ((x3_1.length : Int) : Int) := of_decide_eq_true (by first | (with_reducible assumption) | assumption); first | exact h_ | (have e_ := (Kd.R_reads' HO_3.out).1; omega) | simpa using h_)
          obtain rfl := k31_openM hM21
          have HP21 := (Kd.R_seg HO_3.out ((ji9) : Int) (of_decide_eq_true (by first | (with_reducible assumption) | assumption)) (by have h_ : ((ji9) : Int) < ((x3_1.length : Int) : Int) := of_decide_eq_true (by first | (with_reducible assumption) | assumption); first | exact h_ | (have e_ := (Kd.R_reads' HO_3.out).1; omega) | simpa using h_) (seg := [.int .i64 ji13]) (j := 1) hcl21 hcc21 (show 2 ≤ 2 from by decide) (x' := (⟨(rd_T31 x3_1 (ji9)).f0, ji13⟩ : S31)) (k31_mkM _ _ _ (⟨(rd_T31 x3_1 (ji9)).f0, ji13⟩ : S31) ) (fun _ hk => hk)).1
          rw [← Ny108.out] at HP21
          have HQ21 := Aside0.mk HP21
          clear hcl21 hcc21 hfr21 hM21 HP21
          refine start_ (n := 15) (S := fun w' => w'.cell? ⟨gb105, 0, none⟩ = some (.int .i64 ((rd_T31 x8_1 x10_1).f0)) ∧ w'.cell? ⟨gb105, 1, none⟩ = some (.int .i64 ((rd_T31 x8_1 x10_1).f1)) ∧ w'.cell? ⟨go14, ((ji9)).toNat * 2, none⟩ = some (.int .i64 ((rd_T31 x3_1 (ji9)).f0)) ∧ w'.cell? ⟨go14, ((ji9)).toNat * 2 + 1, none⟩ = some (.int .i64 ((rd_T31 x3_1 (ji9)).f1))) (ds := [14]) #[false, false, false, false, false, false, false, false, false, false, false, false, false, false, false] (by kernel_rfl) rfl rfl ⟨(blk_cell BK105.out 0).trans rfl, (blk_cell BK105.out 1).trans rfl, hx107_0, hx107_1⟩ (fun hHeld => ?_); refine with_tabW spans_Norm.tab7 spans_Norm.bits7 (fun HT_ HW_ => ?_)
          generalize w19.drew = w20 at HO_3 HO_8 BK105 HB GG14 HQ21 hf14_0 hf14_1 hx106_0 hx106_1 hx107_0 hx107_1 hx14_0 hx14_1 hHeld ⊢
          refine pure_ (i := 0) (N := some 30) (v := ?_) (a' := ?_) #[true, false, false, false, false, false, false, false, false, false, false, false, false, false, false] rfl rfl (any_of HT_.out (by kernel_rfl)) (fun _ _ _ h => h) (Or.inl ⟨by rfl, ?_⟩) ?_ ?_
          rotate_left
          ·intro w'
           go_simp
           with_reducible rfl
          rotate_left
          ·simp only [Act.put, List.setIfInBounds_toArray, List.set_cons_zero, List.set_cons_succ, i64_w, i32_w]
           rfl
          refine pure_ (i := 1) (N := some 31) (v := ?_) (a' := ?_) #[true, true, false, false, false, false, false, false, false, false, false, false, false, false, false] rfl rfl (any_of HT_.out (by kernel_rfl)) (fun _ _ _ h => h) (Or.inl ⟨by rfl, ?_⟩) ?_ ?_
          rotate_left
          ·intro w'
           go_simp
           with_reducible rfl
          rotate_left
          ·simp only [Act.put, List.setIfInBounds_toArray, List.set_cons_zero, List.set_cons_succ, i64_w, i32_w]
           rfl
          refine pure_ (i := 2) (N := some 32) (v := ?_) (a' := ?_) #[true, true, true, false, false, false, false, false, false, false, false, false, false, false, false] rfl rfl (any_of HT_.out (by kernel_rfl)) (fun _ _ _ h => h) (Or.inl ⟨by rfl, ?_⟩) ?_ ?_
          rotate_left
          ·intro w'
           go_simp
           with_reducible rfl
          rotate_left
          ·simp only [Act.put, List.setIfInBounds_toArray, List.set_cons_zero, List.set_cons_succ, i64_w, i32_w]
           rfl
          refine pure_ (i := 3) (N := some 33) (v := ?_) (a' := ?_) #[true, true, true, true, false, false, false, false, false, false, false, false, false, false, false] rfl rfl (any_of HT_.out (by kernel_rfl)) (fun _ _ _ h => h) (Or.inl ⟨by rfl, ?_⟩) ?_ ?_
          rotate_left
          ·intro w'
           go_simp
           with_reducible rfl
          rotate_left
          ·simp only [Act.put, List.setIfInBounds_toArray, List.set_cons_zero, List.set_cons_succ, i64_w, i32_w]
           rfl
          refine pure_ (i := 4) (N := some 34) (v := ?_) (a' := ?_) #[true, true, true, true, true, false, false, false, false, false, false, false, false, false, false] rfl rfl (any_of HT_.out (by kernel_rfl)) (fun _ _ _ h => h) (Or.inl ⟨by rfl, ?_⟩) ?_ ?_
          rotate_left
          ·intro w'
           go_simp
           with_reducible rfl
          rotate_left
          ·simp only [Act.put, List.setIfInBounds_toArray, List.set_cons_zero, List.set_cons_succ, i64_w, i32_w]
           rfl
          refine pure_ (i := 5) (N := some 35) (v := ?_) (a' := ?_) #[true, true, true, true, true, true, false, false, false, false, false, false, false, false, false] rfl rfl (any_of HT_.out (by kernel_rfl)) (fun _ _ _ h => h) (Or.inl ⟨by rfl, ?_⟩) ?_ ?_
          rotate_left
          ·intro w'
           go_simp
           with_reducible rfl
          rotate_left
          ·simp only [Act.put, List.setIfInBounds_toArray, List.set_cons_zero, List.set_cons_succ, i64_w, i32_w]
           rfl
          refine pure_ (i := 6) (N := some 36) (v := ?_) (a' := ?_) #[true, true, true, true, true, true, true, false, false, false, false, false, false, false, false] rfl rfl (any_of HT_.out (by kernel_rfl)) (fun _ _ _ h => h) (Or.inl ⟨by rfl, ?_⟩) ?_ ?_
          rotate_left
          ·intro w'
           go_simp
           with_reducible rfl
          rotate_left
          ·simp only [Act.put, List.setIfInBounds_toArray, List.set_cons_zero, List.set_cons_succ, i64_w, i32_w]
           rfl
          refine pure_ (i := 7) (N := some 37) (v := ?_) (a' := ?_) #[true, true, true, true, true, true, true, true, false, false, false, false, false, false, false] rfl rfl (any_of HT_.out (by kernel_rfl)) (fun _ _ _ h => h) (Or.inl ⟨by rfl, ?_⟩) ?_ ?_
          rotate_left
          ·intro w'
           go_simp
           with_reducible rfl
          rotate_left
          ·simp only [Act.put, List.setIfInBounds_toArray, List.set_cons_zero, List.set_cons_succ, i64_w, i32_w]
           rfl
          refine pure_ (i := 9) (N := some 39) (v := ?_) (a' := ?_) #[true, true, true, true, true, true, true, true, false, true, false, false, false, false, false] rfl rfl (any_of HT_.out (by kernel_rfl)) (fun _ _ _ h => h) (Or.inl ⟨by rfl, ?_⟩) ?_ ?_
          rotate_left
          ·intro w'
           go_simp
           with_reducible rfl
          rotate_left
          ·simp only [Act.put, List.setIfInBounds_toArray, List.set_cons_zero, List.set_cons_succ, i64_w, i32_w]
           rfl
          refine take_ (i := 8) (N := some 38) (v := ?_) (a' := ?_) #[true, true, true, true, true, true, true, true, true, true, false, false, false, false, false] rfl rfl (take_ofW HT_.out HW_.out (by kernel_rfl)) (fun _ _ _ h => h) (Or.inl ⟨by rfl, ?_⟩) hHeld ?_ ?_
          rotate_left
          ·rintro w' ⟨s0, s1, s2, s3⟩
           go_simp
           with_reducible rfl
          rotate_left
          ·simp only [Act.put, List.setIfInBounds_toArray, List.set_cons_zero, List.set_cons_succ, i64_w, i32_w]
           rfl
          refine take_ (i := 10) (N := some 40) (v := ?_) (a' := ?_) #[true, true, true, true, true, true, true, true, true, true, true, false, false, false, false] rfl rfl (take_ofW HT_.out HW_.out (by kernel_rfl)) (fun _ _ _ h => h) (Or.inl ⟨by rfl, ?_⟩) hHeld ?_ ?_
          rotate_left
          ·rintro w' ⟨s0, s1, s2, s3⟩
           go_simp
           with_reducible rfl
          rotate_left
          ·simp only [Act.put, List.setIfInBounds_toArray, List.set_cons_zero, List.set_cons_succ, i64_w, i32_w]
           rfl
          refine pure_ (i := 11) (N := some 41) (v := ?_) (a' := ?_) #[true, true, true, true, true, true, true, true, true, true, true, true, false, false, false] rfl rfl (any_of HT_.out (by kernel_rfl)) (fun _ _ _ h => h) (Or.inl ⟨by rfl, ?_⟩) ?_ ?_
          rotate_left
          ·intro w'
           go_simp
           with_reducible rfl
          rotate_left
          ·simp only [Act.put, List.setIfInBounds_toArray, List.set_cons_zero, List.set_cons_succ, i64_w, i32_w]
           rfl
          refine pure_ (i := 12) (N := some 42) (v := ?_) (a' := ?_) #[true, true, true, true, true, true, true, true, true, true, true, true, true, false, false] rfl rfl (any_of HT_.out (by kernel_rfl)) (fun _ _ _ h => h) (Or.inl ⟨by rfl, ?_⟩) ?_ ?_
          rotate_left
          ·intro w'
           go_simp
           with_reducible rfl
          rotate_left
          ·simp only [Act.put, List.setIfInBounds_toArray, List.set_cons_zero, List.set_cons_succ, i64_w, i32_w]
           rfl
          refine pure_ (i := 13) (N := some 43) (v := ?_) (a' := ?_) #[true, true, true, true, true, true, true, true, true, true, true, true, true, true, false] rfl rfl (any_of HT_.out (by kernel_rfl)) (fun _ _ _ h => h) (Or.inl ⟨by rfl, ?_⟩) ?_ ?_
          rotate_left
          ·intro w'
           go_simp
           with_reducible rfl
          rotate_left
          ·simp only [Act.put, List.setIfInBounds_toArray, List.set_cons_zero, List.set_cons_succ, i64_w, i32_w]
           rfl
          refine last_ (i := 14) (N := none) #[true, true, true, true, true, true, true, true, true, true, true, true, true, true, true] rfl rfl (one_of HT_.out (by kernel_rfl)) (by decide) (fun K hK => ?_)
          refine skip_ (w1 := ?_) (by rfl) rfl ?_ ?_
          rotate_left
          ·go_simp
           rfl
          refine hK.out _ _ ?_
          clear hK K
          refine done_ (done_of HT_.out (by kernel_rfl)) ?_
          try go_wp2
          (try simp only [← hl8_1])
          go_roundg k1
          case measure => have := HK1.out; omega
          case rel => exact ⟨(y108), (x8_1), (wrap64 (x10_1 + 1)), (by first | rfl | (simp; done) | (simp [*]; done)), H', ⟨by have := HK1.out; omega⟩, ⟨by (try simp only [hl8_1]); (with_reducible repeat (first | apply Kd.R_alloc | apply Kd.R_drewN | apply Kd.R_drew)); exact Kd.R_mono HQ21.out (fun _ hk => trivial)⟩, ⟨by (try simp only [hl8_1]); (with_reducible repeat (first | apply Kd.V_alloc | apply Kd.V_drewN | apply Kd.V_drew)); exact Kd.V_mono (Kd.V_far (p := ⟨go14, ((ji9) : Int).toNat * 2 + 1, none⟩) (Kd.V_mono HO_8.out (fun k_ hk => (⟨hk, fun e_ => hk.1 (by rw [e_]; rfl)⟩ : _ ∧ k_ ≠ go14))) (fun _ hk => hk.2) (.int .i64 ji13)) (fun _ hk => hk.1.1)⟩, ⟨by repeat (first | (with_reducible first | exact HB.out | apply below_alloc | apply pw_below_drewN | apply below_drew1 | refine below_set ?_ GB14.out | refine below_set ?_ GE105.out) | exact HB.out)⟩⟩
         ·rw [if_neg c12] at H
          have c12b0 : decide (((rd_T31 x8_1 x10_1).f0) ≤ (wrap64 (((rd_T31 x3_1 (ji9)).f1) + 1))) = false := decide_eq_false c12
          clear c12
          by_cases c22 : x3_1.length < 8796093022208
          ·rw [if_pos c22] at H
           have LMc22 := Aside0.mk c22
           clear c22
           obtain ⟨y109, hy109⟩ : ∃ y_ : List (S31), y_ = (x3_1 ++ [(⟨(rd_T31 x8_1 x10_1).f0, (rd_T31 x8_1 x10_1).f1⟩ : S31)]) := ⟨_, rfl⟩
           replace H : (spans_Norm.l0 k1 y109 x8_1 (t101.length : Int) (wrap64 (x10_1 + 1))) = some r := by first | (rw [hy109]; with_reducible exact H) | (have H2_ := (Option.bind_some _ _).symm.trans H; rw [hy109]; with_reducible exact H2_) | (have H2_ := (Option.bind_some _ _).symm.trans H; with_reducible exact H2_) | with_reducible exact H | (rw [hy109]; exact H) | exact H
           have Ny109 := Aside0.mk hy109
           clear hy109
           have H' := Aside0.mk H
           clear H
           have p104 : 0 ≤ (x10_1 : Int) := of_decide_eq_true (by first | (with_reducible assumption) | assumption)
           have q104 : x10_1 < (x8_1.length : Int) := of_decide_eq_true (by first | (with_reducible assumption) | assumption)
           obtain ⟨ad104, e104, hx104_0, hx104_1⟩ := at_T31 (Kd.V_reads' HO_8.out).2.2 x10_1 p104 q104
           cases e104
           replace p104 := eq_true p104
           replace q104 := eq_true q104
           try go_wp2_with (first | ((with_reducible refine gate_dst (N := 5) rfl ?_); refine box_event ?hg (N := 5) ?hd (cs := #[.int .i64 0, .int .i64 0]) (t := 31) ?hr ?_; (case hd => rfl); (case hg => rfl); (case hr => first | (go_simp; done) | (go_simp; rfl)); intro gb105 hg w23 hbox hb; have n0_ := Aside0.mk (Kd.R_below (Kd.R_elderB (by (with_reducible repeat (first | apply Kd.R_alloc | apply Kd.R_drewN | apply Kd.R_drew)); exact HO_3.out) gb105 (Nat.le_of_eq hg.symm)) hb); have n1_ := Aside0.mk (Kd.V_below (Kd.V_elderB (by (with_reducible repeat (first | apply Kd.V_alloc | apply Kd.V_drewN | apply Kd.V_drew)); exact HO_8.out) gb105 (Nat.le_of_eq hg.symm)) hb); have n2_ := Aside0.mk (below_step (by repeat (first | (with_reducible first | exact HB.out | apply below_alloc | apply pw_below_drewN | apply below_drew1) | exact HB.out)) hb); have n3_ := Aside0.mk (hbox); have n4_ := Aside0.mk ((by rw [hg]; exact (below_size (by repeat (first | (with_reducible first | exact HB.out | apply below_alloc | apply pw_below_drewN | apply below_drew1) | exact HB.out))) : w.heap.size ≤ gb105)); have n5_ := Aside0.mk ((by rw [hg]; exact (below_size (by repeat (first | (with_reducible first | exact HB.out | apply below_alloc | apply pw_below_drewN | apply below_drew1) | exact HB.out))) : w.heap.size ≤ gb105)); clear HO_3; clear HO_8; clear HB; have HO_3 := n0_; have HO_8 := n1_; have HB := n2_; have BK105 := n3_; have GW105 := n4_; have GE105 := n5_; clear n0_ n1_ n2_ n3_ n4_ n5_; clear hb hbox hg; have hcz24_0 : w23.cell? ⟨gb105, 0, none⟩ = some (.int .i64 0) := (blk_cell BK105.out 0).trans rfl; have hcz24_1 : w23.cell? ⟨gb105, 1, none⟩ = some (.int .i64 0) := (blk_cell BK105.out 1).trans rfl; have hfz24_0 := blk_frozen BK105.out 0; have hfz24_1 := blk_frozen BK105.out 1; obtain ⟨Ao25, co25, eo25⟩ := Kd.R_slice HO_3.out; subst eo25))
           have n0_ : Aside0 (Kd.R k31 31 ((w23.setCell ⟨gb105, 0, none⟩ (.int .i64 ((rd_T31 x8_1 x10_1).f0))).setCell ⟨gb105, 1, none⟩ (.int .i64 ((rd_T31 x8_1 x10_1).f1))) w.heap.size (fun k_ => k_ ≠ gb105) (.slice Ao25 x3_1.length co25) x3_1) := ⟨by (with_reducible repeat (first | apply Kd.R_alloc | apply Kd.R_drewN | apply Kd.R_drew)); exact Kd.R_mono (Kd.R_far (p := ⟨gb105, 1, none⟩) (Kd.R_far (p := ⟨gb105, 0, none⟩) (Kd.R_mono HO_3.out (fun k_ hk => (⟨hk, hk.2⟩ : _ ∧ k_ ≠ gb105))) (fun _ hk => hk.2) (.int .i64 ((rd_T31 x8_1 x10_1).f0))) (fun _ hk => hk.2) (.int .i64 ((rd_T31 x8_1 x10_1).f1))) (fun _ hk => hk.1.2)⟩
           have n1_ : Aside0 (Kd.V k31 31 ((w23.setCell ⟨gb105, 0, none⟩ (.int .i64 ((rd_T31 x8_1 x10_1).f0))).setCell ⟨gb105, 1, none⟩ (.int .i64 ((rd_T31 x8_1 x10_1).f1))) w.heap.size (fun k_ => some k_ ≠ (.slice Ao25 x3_1.length co25 : Value).ownBlock ∧ k_ ≠ gb105) (.slice (some ad104) x8_1.length co4) x8_1) := ⟨by (with_reducible repeat (first | apply Kd.V_alloc | apply Kd.V_drewN | apply Kd.V_drew)); exact Kd.V_mono (Kd.V_far (p := ⟨gb105, 1, none⟩) (Kd.V_far (p := ⟨gb105, 0, none⟩) (Kd.V_mono HO_8.out (fun k_ hk => (⟨hk, hk.2⟩ : _ ∧ k_ ≠ gb105))) (fun _ hk => hk.2) (.int .i64 ((rd_T31 x8_1 x10_1).f0))) (fun _ hk => hk.2) (.int .i64 ((rd_T31 x8_1 x10_1).f1))) (fun _ hk => ⟨hk.1.1, hk.1.2⟩)⟩
           have n2_ : Aside0 (((w23.setCell ⟨gb105, 0, none⟩ (.int .i64 ((rd_T31 x8_1 x10_1).f0))).setCell ⟨gb105, 1, none⟩ (.int .i64 ((rd_T31 x8_1 x10_1).f1))).heap[gb105]? = some (.cells #[.int .i64 ((rd_T31 x8_1 x10_1).f0), .int .i64 ((rd_T31 x8_1 x10_1).f1)] 31 (0, 0))) := ⟨by (with_reducible repeat (first | refine blk_drewN ?_ _ | refine blk_drew ?_ | refine blk_alloc ?_ _)); refine blk_put (cs := #[.int .i64 ((rd_T31 x8_1 x10_1).f0), .int .i64 0]) ?_ 1 _ rfl; (with_reducible repeat (first | refine blk_drewN ?_ _ | refine blk_drew ?_ | refine blk_alloc ?_ _)); refine blk_put (cs := #[.int .i64 0, .int .i64 0]) ?_ 0 _ rfl; (with_reducible repeat (first | refine blk_drewN ?_ _ | refine blk_drew ?_ | refine blk_alloc ?_ _)); exact BK105.out⟩
           have n3_ : Aside0 (Below w.heap.size w ((w23.setCell ⟨gb105, 0, none⟩ (.int .i64 ((rd_T31 x8_1 x10_1).f0))).setCell ⟨gb105, 1, none⟩ (.int .i64 ((rd_T31 x8_1 x10_1).f1)))) := ⟨by repeat (first | (with_reducible first | exact HB.out | apply below_alloc | apply pw_below_drewN | apply below_drew1 | refine below_set ?_ GE105.out) | exact HB.out)⟩
           (try clear HO_3)
           (try clear HO_8)
           (try clear BK105)
           (try clear HB)
           generalize ((w23.setCell ⟨gb105, 0, none⟩ (.int .i64 ((rd_T31 x8_1 x10_1).f0))).setCell ⟨gb105, 1, none⟩ (.int .i64 ((rd_T31 x8_1 x10_1).f1))) = w26 at n0_ n1_ n2_ n3_ ⊢
           have HO_3 := n0_
           have HO_8 := n1_
           have BK105 := n2_
           have HB := n3_
           clear n0_ n1_ n2_ n3_
           have n0_ := Aside0.mk (Kd.R_drew HO_3.out)
           have n1_ := Aside0.mk (Kd.V_drew HO_8.out)
           have n2_ := Aside0.mk (blk_drew BK105.out)
           have n3_ := Aside0.mk (below_drew1 HB.out)
           clear HO_3
           clear HO_8
           clear BK105
           clear HB
           have HO_3 := n0_
           have HO_8 := n1_
           have BK105 := n2_
           have HB := n3_
           clear n0_ n1_ n2_ n3_
           have p106 : 0 ≤ ((ji9) : Int) := of_decide_eq_true (by first | (with_reducible assumption) | assumption)
           have q106 : (ji9) < (x3_1.length : Int) := of_decide_eq_true (by first | (with_reducible assumption) | assumption)
           obtain ⟨ad106, e106, hx106_0, hx106_1⟩ := at_T31 (Kd.R_reads' HO_3.out).2.2 (ji9) p106 q106
           cases e106
           replace p106 := eq_true p106
           replace q106 := eq_true q106
           refine start_ (n := 14) (S := fun w' => w'.cell? ⟨gb105, 0, none⟩ = some (.int .i64 ((rd_T31 x8_1 x10_1).f0)) ∧ w'.cell? ⟨gb105, 1, none⟩ = some (.int .i64 ((rd_T31 x8_1 x10_1).f1)) ∧ w'.cell? (ad106.add (((ji9)).toNat * 2)) = some (.int .i64 ((rd_T31 x3_1 (ji9)).f0)) ∧ w'.cell? ⟨(ad106.add (((ji9)).toNat * 2)).block, (ad106.add (((ji9)).toNat * 2)).off + 1, none⟩ = some (.int .i64 ((rd_T31 x3_1 (ji9)).f1))) (ds := []) #[false, false, false, false, false, false, false, false, false, false, false, false, false, false] (by kernel_rfl) rfl rfl ⟨(blk_cell BK105.out 0).trans rfl, (blk_cell BK105.out 1).trans rfl, hx106_0, hx106_1⟩ (fun hHeld => ?_); refine with_tabW spans_Norm.tab6 spans_Norm.bits6 (fun HT_ HW_ => ?_)
           generalize w26.drew = w27 at HO_3 HO_8 BK105 HB hx106_0 hx106_1 hHeld ⊢
           refine pure_ (i := 0) (N := some 16) (v := ?_) (a' := ?_) #[true, false, false, false, false, false, false, false, false, false, false, false, false, false] rfl rfl (any_of HT_.out (by kernel_rfl)) (fun _ _ _ h => h) (Or.inl ⟨by rfl, ?_⟩) ?_ ?_
           rotate_left
           ·intro w'
            go_simp
            with_reducible rfl
           rotate_left
           ·simp only [Act.put, List.setIfInBounds_toArray, List.set_cons_zero, List.set_cons_succ, i64_w, i32_w]
            rfl
           refine pure_ (i := 1) (N := some 17) (v := ?_) (a' := ?_) #[true, true, false, false, false, false, false, false, false, false, false, false, false, false] rfl rfl (any_of HT_.out (by kernel_rfl)) (fun _ _ _ h => h) (Or.inl ⟨by rfl, ?_⟩) ?_ ?_
           rotate_left
           ·intro w'
            go_simp
            with_reducible rfl
           rotate_left
           ·simp only [Act.put, List.setIfInBounds_toArray, List.set_cons_zero, List.set_cons_succ, i64_w, i32_w]
            rfl
           refine pure_ (i := 2) (N := some 18) (v := ?_) (a' := ?_) #[true, true, true, false, false, false, false, false, false, false, false, false, false, false] rfl rfl (any_of HT_.out (by kernel_rfl)) (fun _ _ _ h => h) (Or.inl ⟨by rfl, ?_⟩) ?_ ?_
           rotate_left
           ·intro w'
            go_simp
            with_reducible rfl
           rotate_left
           ·simp only [Act.put, List.setIfInBounds_toArray, List.set_cons_zero, List.set_cons_succ, i64_w, i32_w]
            rfl
           refine pure_ (i := 3) (N := some 19) (v := ?_) (a' := ?_) #[true, true, true, true, false, false, false, false, false, false, false, false, false, false] rfl rfl (any_of HT_.out (by kernel_rfl)) (fun _ _ _ h => h) (Or.inl ⟨by rfl, ?_⟩) ?_ ?_
           rotate_left
           ·intro w'
            go_simp
            with_reducible rfl
           rotate_left
           ·simp only [Act.put, List.setIfInBounds_toArray, List.set_cons_zero, List.set_cons_succ, i64_w, i32_w]
            rfl
           refine pure_ (i := 5) (N := some 21) (v := ?_) (a' := ?_) #[true, true, true, true, false, true, false, false, false, false, false, false, false, false] rfl rfl (any_of HT_.out (by kernel_rfl)) (fun _ _ _ h => h) (Or.inl ⟨by rfl, ?_⟩) ?_ ?_
           rotate_left
           ·intro w'
            go_simp
            with_reducible rfl
           rotate_left
           ·simp only [Act.put, List.setIfInBounds_toArray, List.set_cons_zero, List.set_cons_succ, i64_w, i32_w]
            rfl
           refine pure_ (i := 6) (N := some 22) (v := ?_) (a' := ?_) #[true, true, true, true, false, true, true, false, false, false, false, false, false, false] rfl rfl (any_of HT_.out (by kernel_rfl)) (fun _ _ _ h => h) (Or.inl ⟨by rfl, ?_⟩) ?_ ?_
           rotate_left
           ·intro w'
            go_simp
            with_reducible rfl
           rotate_left
           ·simp only [Act.put, List.setIfInBounds_toArray, List.set_cons_zero, List.set_cons_succ, i64_w, i32_w]
            rfl
           refine pure_ (i := 7) (N := some 23) (v := ?_) (a' := ?_) #[true, true, true, true, false, true, true, true, false, false, false, false, false, false] rfl rfl (any_of HT_.out (by kernel_rfl)) (fun _ _ _ h => h) (Or.inl ⟨by rfl, ?_⟩) ?_ ?_
           rotate_left
           ·intro w'
            go_simp
            with_reducible rfl
           rotate_left
           ·simp only [Act.put, List.setIfInBounds_toArray, List.set_cons_zero, List.set_cons_succ, i64_w, i32_w]
            rfl
           refine pure_ (i := 8) (N := some 24) (v := ?_) (a' := ?_) #[true, true, true, true, false, true, true, true, true, false, false, false, false, false] rfl rfl (any_of HT_.out (by kernel_rfl)) (fun _ _ _ h => h) (Or.inl ⟨by rfl, ?_⟩) ?_ ?_
           rotate_left
           ·intro w'
            go_simp
            with_reducible rfl
           rotate_left
           ·simp only [Act.put, List.setIfInBounds_toArray, List.set_cons_zero, List.set_cons_succ, i64_w, i32_w]
            rfl
           refine pure_ (i := 9) (N := some 25) (v := ?_) (a' := ?_) #[true, true, true, true, false, true, true, true, true, true, false, false, false, false] rfl rfl (any_of HT_.out (by kernel_rfl)) (fun _ _ _ h => h) (Or.inl ⟨by rfl, ?_⟩) ?_ ?_
           rotate_left
           ·intro w'
            go_simp
            with_reducible rfl
           rotate_left
           ·simp only [Act.put, List.setIfInBounds_toArray, List.set_cons_zero, List.set_cons_succ, i64_w, i32_w]
            rfl
           refine take_ (i := 4) (N := some 20) (v := ?_) (a' := ?_) #[true, true, true, true, true, true, true, true, true, true, false, false, false, false] rfl rfl (take_ofW HT_.out HW_.out (by kernel_rfl)) (fun _ _ _ h => h) (Or.inl ⟨by rfl, ?_⟩) hHeld ?_ ?_
           rotate_left
           ·rintro w' ⟨s0, s1, s2, s3⟩
            go_simp
            with_reducible rfl
           rotate_left
           ·simp only [Act.put, List.setIfInBounds_toArray, List.set_cons_zero, List.set_cons_succ, i64_w, i32_w]
            rfl
           refine take_ (i := 10) (N := some 26) (v := ?_) (a' := ?_) #[true, true, true, true, true, true, true, true, true, true, true, false, false, false] rfl rfl (take_ofW HT_.out HW_.out (by kernel_rfl)) (fun _ _ _ h => h) (Or.inl ⟨by rfl, ?_⟩) hHeld ?_ ?_
           rotate_left
           ·rintro w' ⟨s0, s1, s2, s3⟩
            go_simp
            with_reducible rfl
           rotate_left
           ·simp only [Act.put, List.setIfInBounds_toArray, List.set_cons_zero, List.set_cons_succ, i64_w, i32_w]
            rfl
           refine pure_ (i := 11) (N := some 27) (v := ?_) (a' := ?_) #[true, true, true, true, true, true, true, true, true, true, true, true, false, false] rfl rfl (any_of HT_.out (by kernel_rfl)) (fun _ _ _ h => h) (Or.inl ⟨by rfl, ?_⟩) ?_ ?_
           rotate_left
           ·intro w'
            go_simp
            with_reducible rfl
           rotate_left
           ·simp only [Act.put, List.setIfInBounds_toArray, List.set_cons_zero, List.set_cons_succ, i64_w, i32_w]
            rfl
           refine pure_ (i := 12) (N := some 28) (v := ?_) (a' := ?_) #[true, true, true, true, true, true, true, true, true, true, true, true, true, false] rfl rfl (any_of HT_.out (by kernel_rfl)) (fun _ _ _ h => h) (Or.inl ⟨by rfl, ?_⟩) ?_ ?_
           rotate_left
           ·intro w'
            go_simp
            with_reducible rfl
           rotate_left
           ·simp only [Act.put, List.setIfInBounds_toArray, List.set_cons_zero, List.set_cons_succ, i64_w, i32_w]
            rfl
           refine pure_ (i := 13) (N := some 29) (v := ?_) (a' := ?_) #[true, true, true, true, true, true, true, true, true, true, true, true, true, true] rfl rfl (any_of HT_.out (by kernel_rfl)) (fun _ _ _ h => h) (Or.inl ⟨by rfl, ?_⟩) ?_ ?_
           rotate_left
           ·intro w'
            go_simp
            with_reducible rfl
           rotate_left
           ·simp only [Act.put, List.setIfInBounds_toArray, List.set_cons_zero, List.set_cons_succ, i64_w, i32_w]
            rfl
           refine done_ (done_of HT_.out (by kernel_rfl)) ?_
           have hcz28_0 : w27.cell? ⟨gb105, 0, none⟩ = some (.int .i64 ((rd_T31 x8_1 x10_1).f0)) := (blk_cell BK105.out 0).trans rfl
           have hcz28_1 : w27.cell? ⟨gb105, 1, none⟩ = some (.int .i64 ((rd_T31 x8_1 x10_1).f1)) := (blk_cell BK105.out 1).trans rfl
           have hfz28_0 := blk_frozen BK105.out 0
           have hfz28_1 := blk_frozen BK105.out 1
           try go_wp2_with (first | ((with_reducible refine gate_builtin (b := .append) (xs := #[.tmp 44, .tmp 46]) rfl ?_); at_builtin; refine Kd.R_append k31 (w0 := w) w.heap.size rfl (.tmp 44) (.tmp 46) 23 31 (.agg #[(.int .i64 0), (.int .i64 0)]) 16 rfl Tryd.underlying23 info31 rfl (by decide) (by omega) (.slice (some ad106) x3_1.length co25) x3_1 (⟨(rd_T31 x8_1 x10_1).f0, (rd_T31 x8_1 x10_1).f1⟩ : S31) [.int .i64 ((rd_T31 x8_1 x10_1).f0), .int .i64 ((rd_T31 x8_1 x10_1).f1)] (fun k_ => k_ ≠ gb105) (fun _ => False) rfl rfl ?aP (fun _ hk => hk.elim) ?aF ?aO ?aB ?aS ?aL ?_; (case aP => exact k31_mkM _ _ _ (⟨(rd_T31 x8_1 x10_1).f0, (rd_T31 x8_1 x10_1).f1⟩ : S31)); (case aB => exact (by repeat (first | (with_reducible first | exact HB.out | apply below_alloc | apply pw_below_drewN | apply below_drew1 | refine below_set ?_ GE105.out) | exact HB.out))); (case aF => exact (fun k_ hk => Kd.freshB (g := gb105) (o := .cells #[.int .i64 ((rd_T31 x8_1 x10_1).f0), .int .i64 ((rd_T31 x8_1 x10_1).f1)] 31 (0, 0)) (by (with_reducible repeat (first | refine blk_drewN ?_ _ | refine blk_drew ?_ | refine blk_alloc ?_ _)); exact BK105.out) k_ hk)); (case aO => exact (by (with_reducible repeat (first | apply Kd.R_alloc | apply Kd.R_drewN | apply Kd.R_drew)); exact HO_3.out)); (case aS => exact (below_size (by repeat (first | (with_reducible first | exact HB.out | apply below_alloc | apply pw_below_drewN | apply below_drew1 | refine below_set ?_ GE105.out) | exact HB.out)))); (case aL => have := LMc22.out; omega); intro v110 w29 ho hb hg hat; rw [← Ny109.out] at ho; have n0_ := Aside0.mk (Kd.V_afterv (ok := (fun k_ => k_ ≠ gb105)) (by (with_reducible repeat (first | apply Kd.V_alloc | apply Kd.V_drewN | apply Kd.V_drew)); exact Kd.V_mono HO_8.out (fun _ hk => ⟨hk.2, hk.1⟩)) hg hat); have n1_ := Aside0.mk (blk_grown (g := gb105) (o := .cells #[.int .i64 ((rd_T31 x8_1 x10_1).f0), .int .i64 ((rd_T31 x8_1 x10_1).f1)] 31 (0, 0)) (by (with_reducible repeat (first | refine blk_drewN ?_ _ | refine blk_drew ?_ | refine blk_alloc ?_ _)); exact BK105.out) hg (Kd.R_away HO_3.out (fun _ hk => hk))); have n2_ := Aside0.mk (hb); have n3_ := Aside0.mk (ho); clear HO_8; clear BK105; clear HB; clear HO_3; have HO_8 := n0_; have BK105 := n1_; have HB := n2_; have HO111 := n3_; clear n0_ n1_ n2_ n3_; clear ho hb hg hat))
           (try simp only [← hl8_1])
           go_roundg k1
           case measure => have := HK1.out; omega
           case rel => exact ⟨(y109), (x8_1), (wrap64 (x10_1 + 1)), (by first | rfl | (simp; done) | (simp [*]; done)), H', ⟨by have := HK1.out; omega⟩, ⟨by (try simp only [hl8_1]); (with_reducible repeat (first | apply Kd.R_alloc | apply Kd.R_drewN | apply Kd.R_drew)); exact Kd.R_mono HO111.out (fun _ hk => trivial)⟩, ⟨by (try simp only [hl8_1]); (with_reducible repeat (first | apply Kd.V_alloc | apply Kd.V_drewN | apply Kd.V_drew)); exact Kd.V_mono HO_8.out (fun _ hk => hk.2)⟩, ⟨by repeat (first | (with_reducible first | exact HB.out | apply below_alloc | apply pw_below_drewN | apply below_drew1 | refine below_set ?_ GE105.out) | exact HB.out)⟩⟩
          ·rw [if_neg c22] at H
           exact absurd H (by simp)
        ·rw [if_neg c11] at H
         exact absurd H (by simp)
       ·rw [if_neg c10] at H
        exact absurd H (by simp)
      ·rw [if_neg c8] at H
       have c8b0 : decide (0 < (x3_1.length : Int)) = false := decide_eq_false c8
       have c8b1 : decide (0 < x3_1.length) = false := decide_eq_false (by omega)
       clear c8
       by_cases c30 : x3_1.length < 8796093022208
       ·rw [if_pos c30] at H
        have LMc30 := Aside0.mk c30
        clear c30
        obtain ⟨y112, hy112⟩ : ∃ y_ : List (S31), y_ = (x3_1 ++ [(⟨(rd_T31 x8_1 x10_1).f0, (rd_T31 x8_1 x10_1).f1⟩ : S31)]) := ⟨_, rfl⟩
        replace H : (spans_Norm.l0 k1 y112 x8_1 (t101.length : Int) (wrap64 (x10_1 + 1))) = some r := by first | (rw [hy112]; with_reducible exact H) | (have H2_ := (Option.bind_some _ _).symm.trans H; rw [hy112]; with_reducible exact H2_) | (have H2_ := (Option.bind_some _ _).symm.trans H; with_reducible exact H2_) | with_reducible exact H | (rw [hy112]; exact H) | exact H
        have Ny112 := Aside0.mk hy112
        clear hy112
        have H' := Aside0.mk H
        clear H
        have p104 : 0 ≤ (x10_1 : Int) := of_decide_eq_true (by first | (with_reducible assumption) | assumption)
        have q104 : x10_1 < (x8_1.length : Int) := of_decide_eq_true (by first | (with_reducible assumption) | assumption)
        obtain ⟨ad104, e104, hx104_0, hx104_1⟩ := at_T31 (Kd.V_reads' HO_8.out).2.2 x10_1 p104 q104
        cases e104
        replace p104 := eq_true p104
        replace q104 := eq_true q104
        try go_wp2_with (first | ((with_reducible refine gate_dst (N := 5) rfl ?_); refine box_event ?hg (N := 5) ?hd (cs := #[.int .i64 0, .int .i64 0]) (t := 31) ?hr ?_; (case hd => rfl); (case hg => rfl); (case hr => first | (go_simp; done) | (go_simp; rfl)); intro gb105 hg w31 hbox hb; have n0_ := Aside0.mk (Kd.R_below (Kd.R_elderB (by (with_reducible repeat (first | apply Kd.R_alloc | apply Kd.R_drewN | apply Kd.R_drew)); exact HO_3.out) gb105 (Nat.le_of_eq hg.symm)) hb); have n1_ := Aside0.mk (Kd.V_below (Kd.V_elderB (by (with_reducible repeat (first | apply Kd.V_alloc | apply Kd.V_drewN | apply Kd.V_drew)); exact HO_8.out) gb105 (Nat.le_of_eq hg.symm)) hb); have n2_ := Aside0.mk (below_step (by repeat (first | (with_reducible first | exact HB.out | apply below_alloc | apply pw_below_drewN | apply below_drew1) | exact HB.out)) hb); have n3_ := Aside0.mk (hbox); have n4_ := Aside0.mk ((by rw [hg]; exact (below_size (by repeat (first | (with_reducible first | exact HB.out | apply below_alloc | apply pw_below_drewN | apply below_drew1) | exact HB.out))) : w.heap.size ≤ gb105)); have n5_ := Aside0.mk ((by rw [hg]; exact (below_size (by repeat (first | (with_reducible first | exact HB.out | apply below_alloc | apply pw_below_drewN | apply below_drew1) | exact HB.out))) : w.heap.size ≤ gb105)); clear HO_3; clear HO_8; clear HB; have HO_3 := n0_; have HO_8 := n1_; have HB := n2_; have BK105 := n3_; have GW105 := n4_; have GE105 := n5_; clear n0_ n1_ n2_ n3_ n4_ n5_; clear hb hbox hg; have hcz32_0 : w31.cell? ⟨gb105, 0, none⟩ = some (.int .i64 0) := (blk_cell BK105.out 0).trans rfl; have hcz32_1 : w31.cell? ⟨gb105, 1, none⟩ = some (.int .i64 0) := (blk_cell BK105.out 1).trans rfl; have hfz32_0 := blk_frozen BK105.out 0; have hfz32_1 := blk_frozen BK105.out 1; obtain ⟨Ao33, co33, eo33⟩ := Kd.R_slice HO_3.out; subst eo33))
        have n0_ : Aside0 (Kd.R k31 31 ((w31.setCell ⟨gb105, 0, none⟩ (.int .i64 ((rd_T31 x8_1 x10_1).f0))).setCell ⟨gb105, 1, none⟩ (.int .i64 ((rd_T31 x8_1 x10_1).f1))) w.heap.size (fun k_ => k_ ≠ gb105) (.slice Ao33 x3_1.length co33) x3_1) := ⟨by (with_reducible repeat (first | apply Kd.R_alloc | apply Kd.R_drewN | apply Kd.R_drew)); exact Kd.R_mono (Kd.R_far (p := ⟨gb105, 1, none⟩) (Kd.R_far (p := ⟨gb105, 0, none⟩) (Kd.R_mono HO_3.out (fun k_ hk => (⟨hk, hk.2⟩ : _ ∧ k_ ≠ gb105))) (fun _ hk => hk.2) (.int .i64 ((rd_T31 x8_1 x10_1).f0))) (fun _ hk => hk.2) (.int .i64 ((rd_T31 x8_1 x10_1).f1))) (fun _ hk => hk.1.2)⟩
        have n1_ : Aside0 (Kd.V k31 31 ((w31.setCell ⟨gb105, 0, none⟩ (.int .i64 ((rd_T31 x8_1 x10_1).f0))).setCell ⟨gb105, 1, none⟩ (.int .i64 ((rd_T31 x8_1 x10_1).f1))) w.heap.size (fun k_ => some k_ ≠ (.slice Ao33 x3_1.length co33 : Value).ownBlock ∧ k_ ≠ gb105) (.slice (some ad104) x8_1.length co4) x8_1) := ⟨by (with_reducible repeat (first | apply Kd.V_alloc | apply Kd.V_drewN | apply Kd.V_drew)); exact Kd.V_mono (Kd.V_far (p := ⟨gb105, 1, none⟩) (Kd.V_far (p := ⟨gb105, 0, none⟩) (Kd.V_mono HO_8.out (fun k_ hk => (⟨hk, hk.2⟩ : _ ∧ k_ ≠ gb105))) (fun _ hk => hk.2) (.int .i64 ((rd_T31 x8_1 x10_1).f0))) (fun _ hk => hk.2) (.int .i64 ((rd_T31 x8_1 x10_1).f1))) (fun _ hk => ⟨hk.1.1, hk.1.2⟩)⟩
        have n2_ : Aside0 (((w31.setCell ⟨gb105, 0, none⟩ (.int .i64 ((rd_T31 x8_1 x10_1).f0))).setCell ⟨gb105, 1, none⟩ (.int .i64 ((rd_T31 x8_1 x10_1).f1))).heap[gb105]? = some (.cells #[.int .i64 ((rd_T31 x8_1 x10_1).f0), .int .i64 ((rd_T31 x8_1 x10_1).f1)] 31 (0, 0))) := ⟨by (with_reducible repeat (first | refine blk_drewN ?_ _ | refine blk_drew ?_ | refine blk_alloc ?_ _)); refine blk_put (cs := #[.int .i64 ((rd_T31 x8_1 x10_1).f0), .int .i64 0]) ?_ 1 _ rfl; (with_reducible repeat (first | refine blk_drewN ?_ _ | refine blk_drew ?_ | refine blk_alloc ?_ _)); refine blk_put (cs := #[.int .i64 0, .int .i64 0]) ?_ 0 _ rfl; (with_reducible repeat (first | refine blk_drewN ?_ _ | refine blk_drew ?_ | refine blk_alloc ?_ _)); exact BK105.out⟩
        have n3_ : Aside0 (Below w.heap.size w ((w31.setCell ⟨gb105, 0, none⟩ (.int .i64 ((rd_T31 x8_1 x10_1).f0))).setCell ⟨gb105, 1, none⟩ (.int .i64 ((rd_T31 x8_1 x10_1).f1)))) := ⟨by repeat (first | (with_reducible first | exact HB.out | apply below_alloc | apply pw_below_drewN | apply below_drew1 | refine below_set ?_ GE105.out) | exact HB.out)⟩
        (try clear HO_3)
        (try clear HO_8)
        (try clear BK105)
        (try clear HB)
        generalize ((w31.setCell ⟨gb105, 0, none⟩ (.int .i64 ((rd_T31 x8_1 x10_1).f0))).setCell ⟨gb105, 1, none⟩ (.int .i64 ((rd_T31 x8_1 x10_1).f1))) = w34 at n0_ n1_ n2_ n3_ ⊢
        have HO_3 := n0_
        have HO_8 := n1_
        have BK105 := n2_
        have HB := n3_
        clear n0_ n1_ n2_ n3_
        have n0_ := Aside0.mk (Kd.R_drew HO_3.out)
        have n1_ := Aside0.mk (Kd.V_drew HO_8.out)
        have n2_ := Aside0.mk (blk_drew BK105.out)
        have n3_ := Aside0.mk (below_drew1 HB.out)
        clear HO_3
        clear HO_8
        clear BK105
        clear HB
        have HO_3 := n0_
        have HO_8 := n1_
        have BK105 := n2_
        have HB := n3_
        clear n0_ n1_ n2_ n3_
        refine start_ (n := 14) (S := fun w' => True) (ds := []) #[false, false, false, false, false, false, false, false, false, false, false, false, false, false] (by kernel_rfl) rfl rfl trivial (fun hHeld => ?_); refine with_tabW spans_Norm.tab6 spans_Norm.bits6 (fun HT_ HW_ => ?_)
        generalize w34.drew = w35 at HO_3 HO_8 BK105 HB hHeld ⊢
        refine pure_ (i := 0) (N := some 16) (v := ?_) (a' := ?_) #[true, false, false, false, false, false, false, false, false, false, false, false, false, false] rfl rfl (any_of HT_.out (by kernel_rfl)) (fun _ _ _ h => h) (Or.inl ⟨by rfl, ?_⟩) ?_ ?_
        rotate_left
        ·intro w'
         go_simp
         with_reducible rfl
        rotate_left
        ·simp only [Act.put, List.setIfInBounds_toArray, List.set_cons_zero, List.set_cons_succ, i64_w, i32_w]
         rfl
        refine pure_ (i := 1) (N := some 17) (v := ?_) (a' := ?_) #[true, true, false, false, false, false, false, false, false, false, false, false, false, false] rfl rfl (any_of HT_.out (by kernel_rfl)) (fun _ _ _ h => h) (Or.inl ⟨by rfl, ?_⟩) ?_ ?_
        rotate_left
        ·intro w'
         go_simp
         with_reducible rfl
        rotate_left
        ·simp only [Act.put, List.setIfInBounds_toArray, List.set_cons_zero, List.set_cons_succ, i64_w, i32_w]
         rfl
        refine pure_ (i := 2) (N := some 18) (v := ?_) (a' := ?_) #[true, true, true, false, false, false, false, false, false, false, false, false, false, false] rfl rfl (any_of HT_.out (by kernel_rfl)) (fun _ _ _ h => h) (Or.inl ⟨by rfl, ?_⟩) ?_ ?_
        rotate_left
        ·intro w'
         go_simp
         with_reducible rfl
        rotate_left
        ·simp only [Act.put, List.setIfInBounds_toArray, List.set_cons_zero, List.set_cons_succ, i64_w, i32_w]
         rfl
        refine pure_ (i := 3) (N := some 19) (v := undef) (a' := ?_) #[true, true, true, true, false, false, false, false, false, false, false, false, false, false] rfl rfl (any_of HT_.out (by kernel_rfl)) (fun _ _ _ h => h) (Or.inr ⟨by rfl, rfl⟩) ?_ ?_
        rotate_left
        ·simp only [Act.put, List.setIfInBounds_toArray, List.set_cons_zero, List.set_cons_succ, i64_w, i32_w]
         rfl
        refine pure_ (i := 4) (N := some 20) (v := undef) (a' := ?_) #[true, true, true, true, true, false, false, false, false, false, false, false, false, false] rfl rfl (any_of HT_.out (by kernel_rfl)) (fun _ _ _ h => h) (Or.inr ⟨by rfl, rfl⟩) ?_ ?_
        rotate_left
        ·simp only [Act.put, List.setIfInBounds_toArray, List.set_cons_zero, List.set_cons_succ, i64_w, i32_w]
         rfl
        refine pure_ (i := 5) (N := some 21) (v := undef) (a' := ?_) #[true, true, true, true, true, true, false, false, false, false, false, false, false, false] rfl rfl (any_of HT_.out (by kernel_rfl)) (fun _ _ _ h => h) (Or.inr ⟨by rfl, rfl⟩) ?_ ?_
        rotate_left
        ·simp only [Act.put, List.setIfInBounds_toArray, List.set_cons_zero, List.set_cons_succ, i64_w, i32_w]
         rfl
        refine pure_ (i := 6) (N := some 22) (v := undef) (a' := ?_) #[true, true, true, true, true, true, true, false, false, false, false, false, false, false] rfl rfl (any_of HT_.out (by kernel_rfl)) (fun _ _ _ h => h) (Or.inr ⟨by rfl, rfl⟩) ?_ ?_
        rotate_left
        ·simp only [Act.put, List.setIfInBounds_toArray, List.set_cons_zero, List.set_cons_succ, i64_w, i32_w]
         rfl
        refine pure_ (i := 7) (N := some 23) (v := undef) (a' := ?_) #[true, true, true, true, true, true, true, true, false, false, false, false, false, false] rfl rfl (any_of HT_.out (by kernel_rfl)) (fun _ _ _ h => h) (Or.inr ⟨by rfl, rfl⟩) ?_ ?_
        rotate_left
        ·simp only [Act.put, List.setIfInBounds_toArray, List.set_cons_zero, List.set_cons_succ, i64_w, i32_w]
         rfl
        refine pure_ (i := 8) (N := some 24) (v := undef) (a' := ?_) #[true, true, true, true, true, true, true, true, true, false, false, false, false, false] rfl rfl (any_of HT_.out (by kernel_rfl)) (fun _ _ _ h => h) (Or.inr ⟨by rfl, rfl⟩) ?_ ?_
        rotate_left
        ·simp only [Act.put, List.setIfInBounds_toArray, List.set_cons_zero, List.set_cons_succ, i64_w, i32_w]
         rfl
        refine pure_ (i := 9) (N := some 25) (v := undef) (a' := ?_) #[true, true, true, true, true, true, true, true, true, true, false, false, false, false] rfl rfl (any_of HT_.out (by kernel_rfl)) (fun _ _ _ h => h) (Or.inr ⟨by rfl, rfl⟩) ?_ ?_
        rotate_left
        ·simp only [Act.put, List.setIfInBounds_toArray, List.set_cons_zero, List.set_cons_succ, i64_w, i32_w]
         rfl
        refine pure_ (i := 10) (N := some 26) (v := undef) (a' := ?_) #[true, true, true, true, true, true, true, true, true, true, true, false, false, false] rfl rfl (any_of HT_.out (by kernel_rfl)) (fun _ _ _ h => h) (Or.inr ⟨by rfl, rfl⟩) ?_ ?_
        rotate_left
        ·simp only [Act.put, List.setIfInBounds_toArray, List.set_cons_zero, List.set_cons_succ, i64_w, i32_w]
         rfl
        refine pure_ (i := 11) (N := some 27) (v := undef) (a' := ?_) #[true, true, true, true, true, true, true, true, true, true, true, true, false, false] rfl rfl (any_of HT_.out (by kernel_rfl)) (fun _ _ _ h => h) (Or.inr ⟨by rfl, rfl⟩) ?_ ?_
        rotate_left
        ·simp only [Act.put, List.setIfInBounds_toArray, List.set_cons_zero, List.set_cons_succ, i64_w, i32_w]
         rfl
        refine pure_ (i := 12) (N := some 28) (v := undef) (a' := ?_) #[true, true, true, true, true, true, true, true, true, true, true, true, true, false] rfl rfl (any_of HT_.out (by kernel_rfl)) (fun _ _ _ h => h) (Or.inr ⟨by rfl, rfl⟩) ?_ ?_
        rotate_left
        ·simp only [Act.put, List.setIfInBounds_toArray, List.set_cons_zero, List.set_cons_succ, i64_w, i32_w]
         rfl
        refine pure_ (i := 13) (N := some 29) (v := ?_) (a' := ?_) #[true, true, true, true, true, true, true, true, true, true, true, true, true, true] rfl rfl (any_of HT_.out (by kernel_rfl)) (fun _ _ _ h => h) (Or.inl ⟨by rfl, ?_⟩) ?_ ?_
        rotate_left
        ·intro w'
         go_simp
         with_reducible rfl
        rotate_left
        ·simp only [Act.put, List.setIfInBounds_toArray, List.set_cons_zero, List.set_cons_succ, i64_w, i32_w]
         rfl
        refine done_ (done_of HT_.out (by kernel_rfl)) ?_
        have hcz36_0 : w35.cell? ⟨gb105, 0, none⟩ = some (.int .i64 ((rd_T31 x8_1 x10_1).f0)) := (blk_cell BK105.out 0).trans rfl
        have hcz36_1 : w35.cell? ⟨gb105, 1, none⟩ = some (.int .i64 ((rd_T31 x8_1 x10_1).f1)) := (blk_cell BK105.out 1).trans rfl
        have hfz36_0 := blk_frozen BK105.out 0
        have hfz36_1 := blk_frozen BK105.out 1
        try go_wp2_with (first | ((with_reducible refine gate_builtin (b := .append) (xs := #[.tmp 44, .tmp 46]) rfl ?_); at_builtin; refine Kd.R_append k31 (w0 := w) w.heap.size rfl (.tmp 44) (.tmp 46) 23 31 (.agg #[(.int .i64 0), (.int .i64 0)]) 16 rfl Tryd.underlying23 info31 rfl (by decide) (by omega) (.slice Ao33 x3_1.length co33) x3_1 (⟨(rd_T31 x8_1 x10_1).f0, (rd_T31 x8_1 x10_1).f1⟩ : S31) [.int .i64 ((rd_T31 x8_1 x10_1).f0), .int .i64 ((rd_T31 x8_1 x10_1).f1)] (fun k_ => k_ ≠ gb105) (fun _ => False) rfl rfl ?aP (fun _ hk => hk.elim) ?aF ?aO ?aB ?aS ?aL ?_; (case aP => exact k31_mkM _ _ _ (⟨(rd_T31 x8_1 x10_1).f0, (rd_T31 x8_1 x10_1).f1⟩ : S31)); (case aB => exact (by repeat (first | (with_reducible first | exact HB.out | apply below_alloc | apply pw_below_drewN | apply below_drew1 | refine below_set ?_ GE105.out) | exact HB.out))); (case aF => exact (fun k_ hk => Kd.freshB (g := gb105) (o := .cells #[.int .i64 ((rd_T31 x8_1 x10_1).f0), .int .i64 ((rd_T31 x8_1 x10_1).f1)] 31 (0, 0)) (by (with_reducible repeat (first | refine blk_drewN ?_ _ | refine blk_drew ?_ | refine blk_alloc ?_ _)); exact BK105.out) k_ hk)); (case aO => exact (by (with_reducible repeat (first | apply Kd.R_alloc | apply Kd.R_drewN | apply Kd.R_drew)); exact HO_3.out)); (case aS => exact (below_size (by repeat (first | (with_reducible first | exact HB.out | apply below_alloc | apply pw_below_drewN | apply below_drew1 | refine below_set ?_ GE105.out) | exact HB.out)))); (case aL => have := LMc30.out; omega); intro v113 w37 ho hb hg hat; rw [← Ny112.out] at ho; have n0_ := Aside0.mk (Kd.V_afterv (ok := (fun k_ => k_ ≠ gb105)) (by (with_reducible repeat (first | apply Kd.V_alloc | apply Kd.V_drewN | apply Kd.V_drew)); exact Kd.V_mono HO_8.out (fun _ hk => ⟨hk.2, hk.1⟩)) hg hat); have n1_ := Aside0.mk (blk_grown (g := gb105) (o := .cells #[.int .i64 ((rd_T31 x8_1 x10_1).f0), .int .i64 ((rd_T31 x8_1 x10_1).f1)] 31 (0, 0)) (by (with_reducible repeat (first | refine blk_drewN ?_ _ | refine blk_drew ?_ | refine blk_alloc ?_ _)); exact BK105.out) hg (Kd.R_away HO_3.out (fun _ hk => hk))); have n2_ := Aside0.mk (hb); have n3_ := Aside0.mk (ho); clear HO_8; clear BK105; clear HB; clear HO_3; have HO_8 := n0_; have BK105 := n1_; have HB := n2_; have HO114 := n3_; clear n0_ n1_ n2_ n3_; clear ho hb hg hat))
        (try simp only [← hl8_1])
        go_roundg k1
        case measure => have := HK1.out; omega
        case rel => exact ⟨(y112), (x8_1), (wrap64 (x10_1 + 1)), (by first | rfl | (simp; done) | (simp [*]; done)), H', ⟨by have := HK1.out; omega⟩, ⟨by (try simp only [hl8_1]); (with_reducible repeat (first | apply Kd.R_alloc | apply Kd.R_drewN | apply Kd.R_drew)); exact Kd.R_mono HO114.out (fun _ hk => trivial)⟩, ⟨by (try simp only [hl8_1]); (with_reducible repeat (first | apply Kd.V_alloc | apply Kd.V_drewN | apply Kd.V_drew)); exact Kd.V_mono HO_8.out (fun _ hk => hk.2)⟩, ⟨by repeat (first | (with_reducible first | exact HB.out | apply below_alloc | apply pw_below_drewN | apply below_drew1 | refine below_set ?_ GE105.out) | exact HB.out)⟩⟩
       ·rw [if_neg c30] at H
        exact absurd H (by simp)
     ·rw [if_neg c7] at H
      exact absurd H (by simp)
    ·rw [if_neg c6] at H
     exact absurd H (by simp)
   ·rw [if_neg c5] at H
    have c5b0 : decide (x10_1 < (t101.length : Int)) = false := decide_eq_false c5
    have c5c_ : decide (x10_1 < (x8_1.length : Int)) = false := by rw [← hl8_1]; exact c5b0
    clear c5
    obtain rfl := Option.some.inj H
    go_wp2
    go_ret
    exact ⟨_, by first | rfl | (simp [errW_none, errW_some] <;> rfl) | (simp [*, errW_none, errW_some] <;> rfl), by (with_reducible repeat (first | apply Kd.R_alloc | apply Kd.R_drewN | apply Kd.R_drew)); exact HO_3.out, by repeat (first | (with_reducible first | exact HB.out | apply below_alloc | apply pw_below_drewN | apply below_drew1) | exact HB.out)⟩

end Go.Proofs.YtnlakdpfkgjdaaaDoor.G

/- Words and laws of no program, for a range over a function: what an iterator over a list of elements hands on, and what a loop's relation abides. No conditions. -/
namespace Go.Cav
open Go Go.RowKit

theorem add_block (ad : Addr) (k : Nat) : (ad.add k).block = ad.block := by unfold Addr.add; split <;> rfl

/-- The blocks that a loop's body may turn: some old ones, and all that are made from block B on. -/
def Mine (B : Nat) (T : Nat → Prop) : Nat → Prop := fun k => T k ∨ B ≤ k

/-- WHAT AN ITERATOR OVER zs IS: at a body that turns blocks of 'T' alone it hands all of zs over, in order, or a beginning. -/
abbrev Iter {α : Type} (F : Fence) (n : Nat) (P : Program) (gf : Nat) (lb : Array Value) (encs : α → Array Value) (T : Nat → Prop) (zs : List α) (w : World) : Prop :=
  SeqStopsK F n P gf lb encs (Stir T) (fun ys => ys = zs) (fun pre => pre <+: zs) zs.length w

theorem stirK_t {T : Nat → Prop} {A B C : World} (h : Stir T A B) (k : Stir T B C) : Stir T A C := h.trans k (fun _ _ e => e)
theorem stir_grownBy {T : Nat → Prop} {W W' : World} {row : Option Nat} (hg : W.grownBy W' row) (hr : ∀ k, row = some k → T k) : Stir T W W' := (Stir.refl T W).grown hg (fun k e _ => hr k e)
theorem stirK_b {T : Nat → Prop} {w : World} (hT : ∀ k, w.heap.size ≤ k → T k) (W : World) (l : Nat) (o o' : Obj) (hl : w.heap.size ≤ l) (_ : W.heap[l]? = some o) (_ : o.isCells = false) (_ : o.isWalk = false) : Stir T W (W.putObj l o') :=
  stir_grownBy (grownBy_putObj' W l o') (fun k e => by cases e; exact hT _ hl)
theorem ownFrom_stir {β : Type} {B : Nat} {T : Nat → Prop} (w : World) (hT : ∀ k, B ≤ k → T k) : OwnFrom (β := β) B (fun _ W => Stir T w W) :=
  fun _ _ _ _ hs hg hr => hs.grown hg (fun k e _ => hT k (hr k e).1)
theorem ownFrom_pure' {β : Type} {B : Nat} (p : β → Prop) : OwnFrom (β := β) B (fun s _ => p s) := fun _ _ _ _ hs _ _ => hs
theorem ownFrom_no {B : Nat} {β : Type} : OwnFrom (β := β) B (fun _ _ => False) := fun _ _ _ _ hs _ _ => hs

/-- An owned row, or what reads as a list, abides the turn of a block that is no cells. -/
theorem reads_turn {W W' : World} {row : Option Nat} {size : Nat} {v : Value} {n : Nat} {xs : List Value} (h : Reads W size v n xs) (hg : W.grownBy W' row) (hr : ∀ r, row = some r → ∃ o : Obj, W.heap[r]? = some o ∧ o.isCells = false) : Reads W' size v n xs := by
  refine ⟨h.1, ?_⟩
  rcases h.2 with hl | ⟨a, c, rfl, hc⟩
  · exact .inl hl
  · exact .inr ⟨a, c, rfl, fun j u hu => cell_kept (hc j u hu) hg hr⟩

/-- The block for the rounds' deferred calls, at the function's end. -/
theorem stir_end {T : Nat → Prop} {w W : World} (h : Stir T w W) {D : Nat} (hD : w.heap.size ≤ D) (o' : Obj) : Stir T w (W.putObj D o') :=
  h.grown (grownBy_putObj' W D o') (fun k e hk => by cases e; omega)

theorem reads_putObj {W : World} {size : Nat} {v : Value} {n : Nat} {xs : List Value} (h : Reads W size v n xs) {l : Nat} {o : Obj} (o' : Obj) (hl : W.heap[l]? = some o) (ho : o.isCells = false) : Reads (W.putObj l o') size v n xs :=
  reads_turn h (grownBy_putObj' W l o') (fun r e => by cases e; exact ⟨o, hl, ho⟩)

/-- 'out = append(out, ..)' in a loop's body, out a boxed variable: behind the store. -/
theorem Boxed.app {W W0 w1 : World} {B t base : Nat} {e : TypeId} {size : Nat} {v v' : Value} {k m : Nat} {xs ys : List Value} {T : Nat → Prop}
    (hv : Boxed W B t v) (hte : t ≠ e) (hrow : W.ownsRow base e size v k xs) (h0 : KeepsOthers W W0) (hs : Stir T W W0) (hv0 : Boxed W0 B t v) (hrow0 : W0.ownsRow base e size v k xs) (hTB : T B) (hTb : ∀ i, base ≤ i → T i)
    (hown' : w1.ownsRow base e size v' m ys) (hgrow : W0.grownBy w1 v.ownBlock) :
    Boxed w1 B t v ∧ Boxed (w1.setCell ⟨B, 0, none⟩ v') B t v' ∧ (w1.setCell ⟨B, 0, none⟩ v').ownsRow base e size v' m ys ∧ KeepsOthers W (w1.setCell ⟨B, 0, none⟩ v') ∧ Stir T W (w1.setCell ⟨B, 0, none⟩ v') := by
  have hv1 : Boxed w1 B t v := hv0.kept hgrow (hv.not_row hte hrow)
  refine ⟨hv1, hv1.set v', hown'.kept (grownBy_setCell' w1 B v') (.inr (hv1.not_row hte hown').symm), ?_, ?_⟩
  · refine ((h0.trans (KeepsOthers.of_grownBy hgrow fun j o ej hj => ?_))).trans (KeepsOthers.setCell _ _ _)
    rcases hrow0.2 with ⟨rfl, _⟩ | ⟨g, cap, cur, rfl, _, hgb, _⟩
    · simp [Value.ownBlock] at ej
    · obtain rfl : g = j := by simpa [Value.ownBlock] using ej
      rw [hgb] at hj; cases hj; rfl
  · refine (hs.grown hgrow fun j ej _ => hTb j ?_).setCell (p := ⟨B, 0, none⟩) (fun _ => hTB) v'
    exact (hrow0.lt j ej).1

end Go.Cav

/- Words and laws of no program, for a range over a function whose iterator has boxes of its own: a relation that says of cells alone that they stay. No conditions. -/
namespace Go.Cav
open Go Go.RowKit

/-- Of the old blocks that hold cells, and of all below B, only those in T may have changed. -/
structure StirC (B : Nat) (T : Nat → Prop) (w w' : World) : Prop where
  os : w'.os = w.os
  tape : w'.tape = w.tape
  output : w'.output = w.output
  size : w.heap.size ≤ w'.heap.size
  block : ∀ i o, w.heap[i]? = some o → o.isCells = true → ¬ T i → w'.heap[i]? = some o
  old : ∀ i, i < B → i < w.heap.size → ¬ T i → w'.heap[i]? = w.heap[i]?

variable {B : Nat} {T : Nat → Prop}
theorem StirC.refl (B : Nat) (T : Nat → Prop) (w : World) : StirC B T w w := ⟨rfl, rfl, rfl, Nat.le_refl _, fun _ _ h _ _ => h, fun _ _ _ _ => rfl⟩
theorem StirC.trans {a b c : World} (h : StirC B T a b) (k : StirC B T b c) : StirC B T a c :=
  ⟨k.os.trans h.os, k.tape.trans h.tape, k.output.trans h.output, Nat.le_trans h.size k.size, fun i o ho hc hn => k.block i o (h.block i o ho hc hn) hc hn,
   fun i hi hl hn => (k.old i hi (Nat.lt_of_lt_of_le hl h.size) hn).trans (h.old i hi hl hn)⟩
theorem lt_of_heap {w : World} {i : Nat} {o : Obj} (h : w.heap[i]? = some o) : i < w.heap.size := by
  rcases Nat.lt_or_ge i w.heap.size with e | e
  · exact e
  · rw [Array.getElem?_eq_none e] at h; cases h
theorem StirC.of_stir {S : Nat → Prop} {a b : World} (h : Stir S a b) (hs : ∀ i, S i → T i) : StirC B T a b :=
  ⟨h.os, h.tape, h.output, h.size, fun i _ ho _ hn => (h.block i (lt_of_heap ho) (fun e => hn (hs i e))).trans ho, fun i _ hl hn => h.block i hl (fun e => hn (hs i e))⟩
theorem StirC.alloc {a b : World} (h : StirC B T a b) (o : Obj) : StirC B T a (b.alloc o) :=
  h.trans (StirC.of_stir ((Stir.refl (fun _ => False) b).alloc o) (fun _ e => e.elim))
theorem StirC.drew {a b : World} (h : StirC B T a b) : StirC B T a b.drew := ⟨h.os, h.tape, h.output, h.size, h.block, h.old⟩
theorem StirC.setCell {a b : World} (h : StirC B T a b) {p : Addr} (hp : T p.block) (u : Value) : StirC B T a (b.setCell p u) :=
  h.trans (StirC.of_stir ((Stir.refl (fun k => k = p.block) b).setCell (fun _ => rfl) u) (fun _ e => e ▸ hp))
theorem StirC.cell {a b : World} (h : StirC B T a b) {p : Addr} {v : Value} (hc : a.cell? p = some v) (hn : ¬ T p.block) : b.cell? p = some v := by
  have hh : ∃ o, a.heap[p.block]? = some o ∧ o.isCells = true := by
    unfold World.cell? at hc
    split at hc
    · rename_i he
      exact ⟨_, he, rfl⟩
    · cases hc
  obtain ⟨o, ho, hoc⟩ := hh
  exact (World.cell?_of_block ((h.block _ o ho hoc hn).trans ho.symm)).trans hc
theorem stirC_t {a b c : World} (h : StirC B T a b) (k : StirC B T b c) : StirC B T a c := h.trans k
theorem StirC.grown {a b c : World} {row : Option Nat} (h : StirC B T a b) (hg : b.grownBy c row) (hr : ∀ r, row = some r → B ≤ r ∧ ∃ o : Obj, b.heap[r]? = some o ∧ o.isCells = false) : StirC B T a c :=
  h.trans ⟨hg.os, hg.tape, hg.output, hg.size, fun i q hq hqc _ => by
    by_cases hi : some i = row
    · obtain ⟨_, o, ho, hc⟩ := hr i hi.symm
      rw [hq] at ho; cases ho; rw [hc] at hqc; cases hqc
    · exact (hg.block i (lt_of_heap hq) hi).trans hq,
   fun i hi hl _ => hg.block i hl (fun e => by have := (hr i e.symm).1; omega)⟩
theorem stirC_b (W : World) (l : Nat) (o o' : Obj) (hl : B ≤ l) (ho : W.heap[l]? = some o) (hc : o.isCells = false) : StirC B T W (W.putObj l o') :=
  (StirC.refl B T W).grown (grownBy_putObj' W l o') (fun r e => by cases e; exact ⟨hl, o, ho, hc⟩)
theorem ownFrom_stirC {β : Type} {B' : Nat} (w : World) (hB : B ≤ B') : OwnFrom (β := β) B' (fun _ W => StirC B T w W) :=
  fun _ _ _ _ hs hg hr => hs.grown hg (fun r e => ⟨Nat.le_trans hB (hr r e).1, (hr r e).2⟩)
/-- .. what is old stays, all of it -/
theorem StirC.below {a b c : World} (h : StirC B T b c) (h0 : Below B a b) (hB : B ≤ b.heap.size) (hT : ∀ k, T k → B ≤ k) : Below B a c :=
  h0.trans ⟨h.os, h.tape, h.output, h.size, fun i hi => h.old i hi (by omega) (fun e => by have := hT i e; omega)⟩

/-- WHAT AN ITERATOR OVER zs IS, at a body that keeps all cells but those of T. -/
abbrev IterC {α : Type} (F : Fence) (n : Nat) (P : Program) (gf : Nat) (lb : Array Value) (encs : α → Array Value) (B : Nat) (T : Nat → Prop) (zs : List α) (w : World) : Prop :=
  SeqStopsK F n P gf lb encs (StirC B T) (fun ys => ys = zs) (fun pre => pre <+: zs) zs.length w

/-- A slice value reads as a list of cells; where it is empty its capacity may be any. -/
def ReadsA (w : World) (size : Nat) (v : Value) (n : Nat) (xs : List Value) : Prop :=
  xs.length = n * size ∧ ((∃ c, v = .slice none 0 c ∧ n = 0) ∨ ∃ a c, v = .slice (some a) n c ∧ ∀ j u, xs[j]? = some u → w.cell? (a.add j) = some u)
theorem ReadsA.touch {S : Nat → Prop} {w w' : World} {size : Nat} {v : Value} {n : Nat} {xs : List Value} (h : ReadsA w size v n xs) (ht : Stir S w w') (hn : ∀ k, v.ownBlock = some k → ¬ S k) : ReadsA w' size v n xs := by
  refine ⟨h.1, ?_⟩
  rcases h.2 with hl | ⟨a, c, rfl, hc⟩
  · exact .inl hl
  · refine .inr ⟨a, c, rfl, fun j u hu => ht.cell (hc j u hu) ?_⟩
    rw [add_block]; exact hn _ rfl
theorem ReadsA.below {w w' : World} {size : Nat} {v : Value} {n : Nat} {xs : List Value} (h : ReadsA w size v n xs) (hb : Below w.heap.size w w') : ReadsA w' size v n xs :=
  h.touch (Stir.of_below hb (fun _ => False)) (fun _ _ e => e)
theorem Reads.any {w : World} {size : Nat} {v : Value} {n : Nat} {xs : List Value} (h : Reads w size v n xs) : ReadsA w size v n xs := by
  refine ⟨h.1, ?_⟩
  rcases h.2 with ⟨rfl, h0⟩ | h
  · exact .inl ⟨0, rfl, h0⟩
  · exact .inr h

end Go.Cav

/- A range over a function whose iterator writes cells of its own between two rounds: a law of no program, over the kit's laws of the loop's record. No conditions. -/
namespace Go.Cav
open Go Go.RowKit

/-- AN ITERATOR AND THE STEPS THAT IT TAKES BY ITSELF: Rs A B: between two rounds it may turn A into B; what the caller carries must bear that. S, Sp speak of the world behind, too. -/
def SeqT {α : Type} (F : Fence) (n : Nat) (P : Program) (g : Nat) (lb : Array Value) (encs : α → Array Value) (Kp Rs : World → World → Prop) (S Sp : List α → World → Prop) (N : Nat) (w : World) : Prop :=
  ∀ (l : Nat) (J Jx : List α → World → Prop) (W : World), Below w.heap.size w W → (∀ s A B, J s A → Rs A B → J s B) → (∀ s A B, Jx s A → Rs A B → Jx s B) →
    (∀ pre x W1, J pre W1 → pre.length < N → YieldAt F (n - 1) P l (encs x) W1 fun e W' =>
      (e = .returned (.bool true) ∧ J (pre ++ [x]) W' ∧ Kp W1 W') ∨ (e = .returned (.bool false) ∧ Jx (pre ++ [x]) W')) →
    J [] W →
    CallsIn F n P g (#[.func (.yield l) #[] #[]] ++ lb) W fun e W' => (∃ v, e = .returned v) ∧ ((∃ xs, S xs W' ∧ J xs W') ∨ (∃ pre, Sp pre W' ∧ Jx pre W'))

/-- a step of the iterator's leaves alone what is neither cells nor a walk's object -/
def Plain (Rs : World → World → Prop) : Prop := ∀ (A B : World) (i : Nat) (o : Obj), Rs A B → A.heap[i]? = some o → o.isCells = false → o.isWalk = false → B.heap[i]? = some o

variable {F : Fence} {n : Nat} {P : Program}

theorem wpIn_rangeFunc_T {α : Type} {g : Operand} {ps : Array Tmp} {assign body : Code} {Q : Exit → Act → World → Prop} {a : Act} {w : World}
    (hro : F.round = none) (h1 : 1 ≤ n) {gf : Nat} {lb : Array Value} (hg : a.eval g = .func (.func gf) #[] lb) (hFg : F.fn gf) (eg : ∀ args w, (callFunc gf args).run P w = .ok (.enter gf args) w)
    {encs : α → Array Value} {Kp Rs : World → World → Prop} {S Sp : List α → World → Prop} {N : Nat} {w0 : World} (hseq : SeqT F (n - 1) P gf lb encs Kp Rs S Sp N w0) (hRs : Plain Rs)
    (hKt : ∀ {A B C : World}, Kp A B → Kp B C → Kp A C) (hKb : ∀ (W : World) (l : Nat) (o o' : Obj), w.heap.size ≤ l → W.heap[l]? = some o → o.isCells = false → o.isWalk = false → Kp W (W.putObj l o')) (hb0 : Below w0.heap.size w0 w) (hps : ∀ x, (encs x).size = ps.size)
    (I : List α → World → Prop) (Ix : Code → List α → World → Prop) (hI : OwnFrom w.heap.size I) (hIx : ∀ c, OwnFrom w.heap.size (Ix c)) (hIR : ∀ s A B, I s A → Rs A B → I s B) (hIxR : ∀ c s A B, Ix c s A → Rs A B → Ix c s B) (h0 : I [] w) (a₁ : α → Act)
    (hassign : ∀ (l : Nat) (x : α) (W : World) (K : Act → World → Prop), K (a₁ x) W →
      assign.wpIn (F.inRound l) (n - 1 - 1) P (Exit.then K (fun _ _ _ => False)) { tmps := (ps.zip (encs x)).foldl (fun t (p, v) => t.setIfInBounds p v) a.tmps, defers := [] } W)
    (hbody : ∀ (l : Nat) (pre : List α) (x : α) (W : World), I pre W → pre.length < N → body.wpIn (F.inRound l) (n - 1 - 1) P (ownPostG w.heap.size Kp I Ix (pre ++ [x]) W) (a₁ x) W)
    (hdone : ∀ (D : Nat) (xs : List α) (W W0 : World), w.heap.size ≤ D → S xs W0 → W = W0.putObj (D + 1) (W.heap.getD (D + 1) (.deferred none)) → I xs W → W.heap[D]? = some (.deferred (some [])) → Q .normal { a with defers := { target := .collected D, args := #[] } :: a.defers } W)
    (hstop : ∀ (D : Nat) (c : Code) (pre : List α) (W W0 : World), w.heap.size ≤ D → Sp pre W0 → Ix c pre W → W.heap[D]? = some (.deferred (some [])) → c.wpIn F n P Q { a with defers := { target := .collected D, args := #[] } :: a.defers } W) :
    (Code.rangeFunc g ps assign body).wpIn F n P Q a w := by
  refine wpIn_rangeFunc fun fn hfn => ?_
  rw [hro]
  obtain ⟨L, hL⟩ : ∃ L, L = w.heap.size + 1 := ⟨_, rfl⟩
  obtain ⟨rec, hrec⟩ : ∃ rec : LoopState → Option Code → Loop, rec = fun st pe => { state := st, pending := pe, fn, tmps := a.tmps, params := ps, assign, body, defers := w.heap.size } := ⟨_, rfl⟩
  obtain ⟨V, hV⟩ : ∃ V, (w.alloc (.deferred (some []))).alloc (.loop (rec .ready none)) = V := ⟨_, rfl⟩
  have vL : V.heap[L]? = some (.loop (rec .ready none)) := by
    rw [← hV, hL]; have := World.alloc_heap_new (w.alloc (.deferred (some []))) (.loop (rec .ready none)); rwa [World.size_alloc] at this
  have vK : V.heap[w.heap.size]? = some (.deferred (some [])) := by
    rw [← hV]; exact (Below.heap_alloc _ _ _ (by simp)).trans (World.alloc_heap_new w _)
  have vI : I [] V := by rw [← hV]; exact hI.alloc _ (hI.alloc _ h0)
  have vb : Below w0.heap.size w0 V := by
    rw [← hV]; exact hb0.trans ((((Below.refl _ w).alloc (Nat.le_refl _) _).alloc (by simp) _).mono hb0.size)
  refine ⟨L, [{ target := .collected w.heap.size, args := #[] }], V, { target := .fn (.func gf) lb, args := #[.func (.yield L) #[] #[]] }, V, gf, #[.func (.yield L) #[] #[]] ++ lb, V, ?_, ?_, ?_, ?_, fun _ => h1, ?_⟩
  · rw [← hV, hrec, hL]; exact run_enterLoop_outer _ _ _ _ _
  · simp only [resolve, hg]
    simp [go_sem]
  · intro f' hf'; simp [Target.leads] at hf'; subst hf'; exact hFg
  · simp [invoke, go_sem, eg]
  refine (hseq L (fun pre W => I pre W ∧ W.heap[L]? = some (.loop (rec .ready none)) ∧ W.heap[w.heap.size]? = some (.deferred (some [])))
    (fun pre W => ∃ c, Ix c pre W ∧ W.heap[L]? = some (.loop (rec .done (some c))) ∧ W.heap[w.heap.size]? = some (.deferred (some [])))
    V vb (fun s A B hs hr => ⟨hIR s A B hs.1 hr, hRs A B _ _ hr hs.2.1 rfl rfl, hRs A B _ _ hr hs.2.2 rfl rfl⟩)
    (fun s A B ⟨c, hc, hl, hk⟩ hr => ⟨c, hIxR c s A B hc hr, hRs A B _ _ hr hl rfl rfl, hRs A B _ _ hr hk rfl rfl⟩) ?_ ⟨vI, vL, vK⟩).mono ?_
  · rintro pre x W ⟨hi, hl, hk⟩ hlen
    have hlt : L < W.heap.size := (Array.getElem?_eq_some_iff.1 hl).1
    have hy := run_yield (P := P) (args := encs x) hl (by rw [hrec]; exact hps x)
    rw [hrec] at hy
    refine ⟨fn, _, assign, body, hy, roundIn_of_wpIn hfn (hassign _ x W _ ⟨_, run_beginRound hl (by rw [hrec]), ?_⟩)⟩
    obtain ⟨B, hB⟩ : ∃ B, W.putObj L (.loop { rec .ready none with state := .busy }) = B := ⟨_, rfl⟩
    have bL : B.heap[L]? = some (.loop { rec .ready none with state := .busy }) := by rw [← hB]; exact World.putObj_heap_same hlt
    have bK : B.heap[w.heap.size]? = some (.deferred (some [])) := by rw [← hB]; exact (World.putObj_heap_other (by omega)).trans hk
    have bP : Kp W B := by rw [← hB]; exact hKb _ _ _ _ (by omega) hl rfl rfl
    have bI : I pre B := by rw [← hB]; exact hI.putObj _ hi (by omega) hl rfl
    rw [hB]
    refine wpIn_mono (hbody _ pre x B bI hlen) ?_
    have fin : ∀ (jump : Option Code) (Z : World), KeepsFrom w.heap.size B Z →
        (Instr.endRound L jump).run P Z = .ok (.bool jump.isNone) (Z.putObj L (.loop (rec (if jump.isNone then .ready else .done) jump))) ∧ Z.heap[L]? = some (.loop { rec .ready none with state := .busy }) ∧
        (Z.putObj L (.loop (rec (if jump.isNone then .ready else .done) jump))).heap[L]? = some (.loop (rec (if jump.isNone then .ready else .done) jump)) ∧
        (Z.putObj L (.loop (rec (if jump.isNone then .ready else .done) jump))).heap[w.heap.size]? = some (.deferred (some [])) := by
      intro jump Z hz
      have zL := hz.same _ _ (by omega) bL rfl
      have hend := run_endRound (P := P) jump zL
      rw [hrec] at hend ⊢
      exact ⟨hend, by rw [hrec] at zL; exact zL, World.putObj_heap_same (Array.getElem?_eq_some_iff.1 zL).1, (World.putObj_heap_other (by omega)).trans (hz.same _ _ (Nat.le_refl _) bK rfl)⟩
    rintro e a3 Z hp
    cases e with
    | normal =>
      obtain ⟨hz, hkp, hi3⟩ := hp
      obtain ⟨hr, zL, zL2, zK⟩ := fin none Z hz
      exact ⟨_, _, hr, .inl ⟨rfl, ⟨hI.putObj _ hi3 (by omega) zL rfl, zL2, zK⟩, hKt (hKt bP hkp) (hKb _ _ _ _ (by omega) zL rfl rfl)⟩⟩
    | ret =>
      obtain ⟨hr, zL, zL2, zK⟩ := fin (some .ret) Z hp.1
      exact ⟨_, _, hr, .inr ⟨rfl, .ret, (hIx _).putObj _ hp.2 (by omega) zL rfl, zL2, zK⟩⟩
    | exit id =>
      obtain ⟨hr, zL, zL2, zK⟩ := fin (some (.exit id)) Z hp.1
      exact ⟨_, _, hr, .inr ⟨rfl, .exit id, (hIx _).putObj _ hp.2 (by omega) zL rfl, zL2, zK⟩⟩
    | goto t =>
      obtain ⟨hr, zL, zL2, zK⟩ := fin (some (.goto t)) Z hp.1
      exact ⟨_, _, hr, .inr ⟨rfl, .goto t, (hIx _).putObj _ hp.2 (by omega) zL rfl, zL2, zK⟩⟩
    | panic ch => exact hp.elim
    | outgrown => exact hp.elim
  · rintro e Z ⟨⟨v, rfl⟩, (⟨xs, hS, hi, hl, hk⟩ | ⟨pre, hSp, c, hi, hl, hk⟩)⟩
    · have hend := run_endLoop (P := P) hl (by rw [hrec]; simp)
      rw [hrec] at hend
      refine ⟨none, _, hend, ?_⟩
      refine hdone _ xs _ Z (Nat.le_refl _) hS ?_ (hI.putObj _ hi (by omega) hl rfl) ((World.putObj_heap_other (by omega)).trans hk)
      rw [← hL]
      congr 1
      rw [Array.getD_eq_getD_getElem?, World.putObj_heap_same (Array.getElem?_eq_some_iff.1 hl).1]; rfl
    · have hend := run_endLoop (P := P) hl (by rw [hrec]; simp)
      rw [hrec] at hend
      exact ⟨some c, _, hend, hstop _ c pre _ Z (Nat.le_refl _) hSp ((hIx c).putObj _ hi (by omega) hl rfl) ((World.putObj_heap_other (by omega)).trans hk)⟩
end Go.Cav

/- What the library's SplitSeq at a comma hands on: the pieces of the text. Condition: a bound on the text's length. -/
namespace Go.Proofs.YtnlakdpfkgjdaaaDoor
open Go.RowKit Go.Shelf Go.Cav
attribute [local go_sem] Oper.semAt_some

/-- the pieces of a text at its commas -/
def cutB (s : ByteArray) : List ByteArray := (cutAt 44 s.data.toList).map fun p => ⟨p.toArray⟩
theorem cut_index (c : UInt8) : ∀ l : List UInt8, (Lib.index l [c] = -1 ∧ cutAt c l = [l]) ∨ ∃ i : Nat, Lib.index l [c] = i ∧ i < l.length ∧ cutAt c l = l.take i :: cutAt c (l.drop (i + 1))
  | [] => .inl ⟨rfl, rfl⟩
  | b :: l => by
    by_cases h : b = c
    · subst h
      refine .inr ⟨0, by rw [Lib.index]; simp [List.isPrefixOf], by simp, ?_⟩
      rw [cutAt, if_pos rfl]; rfl
    · rw [cutAt, if_neg h, index_one_ne b c l h]
      rcases cut_index c l with ⟨h1, h2⟩ | ⟨i, h1, h2, h3⟩
      · refine .inl ⟨by rw [h1]; rfl, by rw [h2]; rfl⟩
      · refine .inr ⟨i + 1, ?_, by simp; omega, ?_⟩
        · rw [h1, if_neg (fun e => by have := beq_iff_eq.1 e; omega)]; simp
        · rw [h3]; rfl
theorem cutB_index (s : ByteArray) : (Lib.index s.data.toList [44] = -1 ∧ cutB s = [s]) ∨ ∃ i : Nat, Lib.index s.data.toList [44] = i ∧ i < s.size ∧ cutB s = s.extract 0 i :: cutB (s.extract (i + 1) s.size) := by
  unfold cutB
  rcases cut_index 44 s.data.toList with ⟨h1, h2⟩ | ⟨i, h1, h2, h3⟩
  · exact .inl ⟨h1, by rw [h2]; rfl⟩
  · refine .inr ⟨i, h1, by rw [Array.length_toList] at h2; exact h2, ?_⟩
    rw [h3, List.map_cons]
    congr 1
    · apply ByteArray.ext
      rw [ByteArray.data_extract]
      apply Array.ext'; simp
    · have e : (s.extract (i + 1) s.size).data.toList = s.data.toList.drop (i + 1) := by
        rw [ByteArray.data_extract, Array.toList_extract, List.extract_eq_take_drop]
        exact List.take_of_length_le (by rw [List.length_drop, Array.length_toList]; exact Nat.le_refl _)
      rw [e]

/-- the iterator's own steps: it turns one box -/
def Own1 (B : Nat) (X Y : World) : Prop := Stir (fun k => k = B) X Y ∧ ∃ o : Obj, X.heap[B]? = some o ∧ o.isCells = true
theorem own1_plain (B : Nat) : Plain (Own1 B) := by
  intro X Y i o h hi hc _
  refine (h.1.block i (lt_of_heap hi) (fun e => ?_)).trans hi
  obtain ⟨o', h1, h2⟩ := h.2
  rw [e] at hi
  rw [hi] at h1; cases h1; rw [hc] at h2; cases h2
theorem boxed_stir {S : Nat → Prop} {W W' : World} {B t : Nat} {v : Value} (h : Boxed W B t v) (hs : Stir S W W') (hn : ¬ S B) : Boxed W' B t v := by
  have hb := h
  unfold Boxed at hb ⊢
  exact (hs.block B h.lt hn).trans hb
def lenS : Option Value → Nat
  | some (.string x) => x.size
  | _ => 0

set_option maxRecDepth 100000 in
set_option maxHeartbeats 4000000 in
theorem commas_in (T : Nat → Prop) (Bp Bs B0 : Nat) (m : Int) (hps : Bp ≠ Bs) (h0s : B0 ≠ Bs) (hgs : 0 ≠ Bs) (hTp : ¬ T Bp) (hTs : ¬ T Bs) (hT0 : ¬ T B0) (hTg : ¬ T 0) (n : Nat) (hn : 1 ≤ n) (l : Nat) (s0 : ByteArray) (hm : s0.size ≤ 4000000000)
    (J Jx : List ByteArray → World → Prop) (W : World)
    (hJ : ∀ s A B, J s A → Own1 Bs A B → J s B)
    (hY : ∀ pre x W1, x.size ≤ 4000000000 → J pre W1 → pre.length < (cutB s0).length → YieldAt Fence.wide (n - 1) Tryd.prog l #[.string x] W1 fun e W' =>
      (e = .returned (.bool true) ∧ J (pre ++ [x]) W' ∧ Stir T W1 W') ∨ (e = .returned (.bool false) ∧ Jx (pre ++ [x]) W'))
    (bp : Boxed W Bp 9 (.string ⟨#[44]⟩)) (bs : Boxed W Bs 9 (.string s0)) (b0 : Boxed W B0 3 (.int .i64 0)) (hg : W.cell? ⟨0, 0, none⟩ = some (.int .i64 m)) (h0 : J [] W) :
    CallsIn Fence.wide n Tryd.prog 59 #[.func (.yield l) #[] #[], .pointer (some ⟨Bp, 0, none⟩), .pointer (some ⟨Bs, 0, none⟩), .pointer (some ⟨B0, 0, none⟩)] W fun e W' => (∃ v, e = .returned v) ∧
      ((∃ xs, xs = cutB s0 ∧ J xs W') ∨ (∃ pre, pre <+: cutB s0 ∧ Jx pre W')) := by
  refine callsIn_of_wp Tryd.func59 rfl trivial ?_ rfl
  simp only [Tryd.ntmps59, List.size_toArray, List.length_cons, List.length_nil, Nat.reduceAdd, Nat.reduceSub, Array.replicate_succ, Array.replicate_zero, List.push_toArray, List.append_toArray, List.nil_append, List.cons_append]
  have HB := Lib.hid (And.intro bs (And.intro b0 hg))
  have Hbp := Lib.hid bp
  have c1 := bp.cell
  clear bs b0 bp hg
  gi_wp2
  clear c1
  gi_loopw [] (fun wr => ∃ pre x, Hid (pre ++ cutB x = cutB s0) ∧ x.size ≤ 4000000000 ∧ Hid (J pre wr) ∧ Hid (Boxed wr Bp 9 (.string ⟨#[44]⟩)) ∧ Hid (Boxed wr Bs 9 (.string x) ∧ Boxed wr B0 3 (.int .i64 0) ∧ wr.cell? ⟨0, 0, none⟩ = some (.int .i64 m))) (fun wr => lenS (wr.cell? ⟨Bs, 0, none⟩))
  case atStart => exact ⟨[], s0, rfl, hm, h0, Hbp, HB⟩
  case round =>
    obtain ⟨pre, x, HT, hlen, HJ, Hbp, HB⟩ := hrel
    clear h0
    obtain ⟨bs, b0, hg⟩ := HB.out
    have c1 := Hbp.out.cell
    have c2 := bs.cell
    have c3 := b0.cell
    have f2 := bs.frozen
    have hml : Hid (lenS (wr.cell? ⟨Bs, 0, none⟩) = x.size) := by rw [c2]; rfl
    have hI := (callsIn_wide (n := n - 1)).2 (Tryd.strings_Index x ⟨#[44]⟩ m wr (by omega) hg)
    have Hbs := Lib.hid bs
    have Hb0 := Lib.hid b0
    have Hg := Lib.hid hg
    clear bs b0 hg HB
    rcases cutB_index x with ⟨hi, hc⟩ | ⟨i, hi, hil, hc⟩
    · rw [show (ByteArray.mk #[44]).data.toList = [44] from rfl, hi] at hI
      have HC := Lib.hid hc
      clear hi hc
      have hpl : pre.length < (cutB s0).length := by rw [← HT.out, HC.out]; simp
      obtain ⟨fn, tmps, assign, body, hy, hR⟩ := hY pre x wr hlen HJ.out hpl
      try dsimp only at hy hR
      gi_wp2_with fail
      refine ⟨trivial, hI.mono ?_⟩
      rintro e w1 ⟨rfl, rfl⟩
      clear hI
      gi_wp2_with fail
      refine hR.mono ?_
      rintro e W3 (⟨rfl, hJ3, hk3⟩ | ⟨rfl, hJx3⟩)
      · clear hy hR c1 c2 c3 f2
        gi_wp2
        go_end0
        exact ⟨⟨_, rfl⟩, .inl ⟨_, by rw [← HT.out, HC.out], hJ3⟩⟩
      · clear hy hR c1 c2 c3 f2
        gi_wp2
        go_end0
        exact ⟨⟨_, rfl⟩, .inr ⟨_, by rw [← HT.out, HC.out]; exact List.prefix_refl _, hJx3⟩⟩
    · rw [show (ByteArray.mk #[44]).data.toList = [44] from rfl, hi] at hI
      have HC := Lib.hid hc
      clear hi hc
      have hpl : pre.length < (cutB s0).length := by rw [← HT.out, HC.out]; simp
      have htw : pre ++ [x.extract 0 i] ++ cutB (x.extract (i + 1) x.size) = cutB s0 := by rw [← HT.out, HC.out]; simp
      have HT2 := Lib.hid htw
      have hle : (x.extract (i + 1) x.size).size ≤ 4000000000 ∧ (x.extract (i + 1) x.size).size < x.size := by rw [ByteArray.size_extract]; omega
      have HLE := Lib.hid hle
      clear htw hle
      have e1 : ¬ (i : Int) < 0 := by omega
      obtain ⟨fn, tmps, assign, body, hy, hR⟩ := hY pre (x.extract 0 i) wr (by rw [ByteArray.size_extract]; omega) HJ.out hpl
      gi_wp2_with fail
      refine ⟨trivial, hI.mono ?_⟩
      rintro e w1 ⟨rfl, rfl⟩
      clear hI
      gi_wp2_with fail
      refine hR.mono ?_
      rintro e W3 (⟨rfl, hJ3, hk3⟩ | ⟨rfl, hJx3⟩)
      · clear hy hR c1 c2 c3 f2
        have bs3 := boxed_stir Hbs.out hk3 hTs
        have bp3 := boxed_stir Hbp.out hk3 hTp
        have b03 := boxed_stir Hb0.out hk3 hT0
        have hg3 := hk3.cell Hg.out hTg
        have c1 := bp3.cell
        have c2 := bs3.cell
        have f2 := bs3.frozen
        have hst : Stir (fun k => k = Bs) W3 (W3.setCell ⟨Bs, 0, none⟩ (.string (x.extract (i + 1) x.size))) := (Stir.refl (fun k => k = Bs) W3).setCell (p := ⟨Bs, 0, none⟩) (fun _ => rfl) _
        have hF : Hid (J (pre ++ [x.extract 0 i]) (W3.setCell ⟨Bs, 0, none⟩ (.string (x.extract (i + 1) x.size))) ∧ Boxed (W3.setCell ⟨Bs, 0, none⟩ (.string (x.extract (i + 1) x.size))) Bp 9 (.string ⟨#[44]⟩) ∧ Boxed (W3.setCell ⟨Bs, 0, none⟩ (.string (x.extract (i + 1) x.size))) Bs 9 (.string (x.extract (i + 1) x.size)) ∧ Boxed (W3.setCell ⟨Bs, 0, none⟩ (.string (x.extract (i + 1) x.size))) B0 3 (.int .i64 0) ∧ (W3.setCell ⟨Bs, 0, none⟩ (.string (x.extract (i + 1) x.size))).cell? ⟨0, 0, none⟩ = some (.int .i64 m)) :=
          Lib.hid ⟨hJ _ _ _ hJ3 ⟨hst, _, bs3, rfl⟩, boxed_stir bp3 hst hps, bs3.set _, boxed_stir b03 hst h0s, hst.cell hg3 hgs⟩
        clear hst bs3 bp3 b03 hg3 hJ3 hk3
        gi_wp2
        obtain ⟨g1, g2, g3, g4, g5⟩ := hF.out
        go_roundw
        case rel => exact ⟨_, _, HT2, HLE.out.1, Lib.hid g1, Lib.hid g2, Lib.hid ⟨g3, g4, g5⟩⟩
        case measure => rw [hml.out, g3.cell]; exact HLE.out.2
      · clear hy hR c1 c2 c3 f2
        gi_wp2
        refine bodyPost_ret (results_none rfl _ _ _) rfl ?_
        exact ⟨⟨_, rfl⟩, .inr ⟨_, ⟨_, HT2.out⟩, hJx3⟩⟩
/-- a piece, not too long -/
abbrev Pc : Type := { x : ByteArray // x.size ≤ 4000000000 }
theorem cutB_len (s : ByteArray) : (cutB s).length ≤ s.size + 1 := by
  unfold cutB
  rw [List.length_map]
  have key : ∀ l : List UInt8, (cutAt 44 l).length ≤ l.length + 1 := by
    intro l
    induction l with
    | nil => simp [cutAt]
    | cons b l ih =>
      rw [cutAt]
      split
      · simp; exact ih
      · cases h : cutAt 44 l with
        | nil => simp [headCons]
        | cons p r => rw [h] at ih; simp [headCons] at ih ⊢; omega
  have := key s.data.toList
  rw [Array.length_toList] at this
  exact this
theorem commas_seq (T : Nat → Prop) (Bp Bs B0 : Nat) (m : Int) (hps : Bp ≠ Bs) (h0s : B0 ≠ Bs) (hgs : 0 ≠ Bs) (hTp : ¬ T Bp) (hTs : ¬ T Bs) (hT0 : ¬ T B0) (hTg : ¬ T 0) (n : Nat) (hn : 1 ≤ n) (s0 : ByteArray) (hm : s0.size ≤ 4000000000) (w : World)
    (bp : Boxed w Bp 9 (.string ⟨#[44]⟩)) (bs : Boxed w Bs 9 (.string s0)) (b0 : Boxed w B0 3 (.int .i64 0)) (hg : w.cell? ⟨0, 0, none⟩ = some (.int .i64 m)) :
    SeqT Fence.wide n Tryd.prog 59 #[.pointer (some ⟨Bp, 0, none⟩), .pointer (some ⟨Bs, 0, none⟩), .pointer (some ⟨B0, 0, none⟩)] (fun x : Pc => #[.string x.1]) (Stir T) (Own1 Bs)
      (fun xs _ => xs.map (·.1) = cutB s0) (fun pre _ => pre.map (·.1) <+: cutB s0) (cutB s0).length w := by
  intro l J Jx W hW hJ _ hY h0
  have hs : Stir (fun _ => False) w W := Stir.of_below hW _
  refine (commas_in T Bp Bs B0 m hps h0s hgs hTp hTs hT0 hTg n hn l s0 hm (fun xs W => ∃ ys : List Pc, ys.map (·.1) = xs ∧ J ys W) (fun xs W => ∃ ys : List Pc, ys.map (·.1) = xs ∧ Jx ys W) W ?_ ?_ (boxed_stir bp hs (fun e => e)) (boxed_stir bs hs (fun e => e)) (boxed_stir b0 hs (fun e => e)) (hs.cell hg (fun e => e)) ⟨[], rfl, h0⟩).mono ?_
  · rintro xs X Y ⟨ys, e, h⟩ hr
    exact ⟨ys, e, hJ _ _ _ h hr⟩
  · rintro pre x W1 hx ⟨ys, e, h⟩ hl
    refine (?_ : _ → _) (hY ys ⟨x, hx⟩ W1 h (by rw [← e, List.length_map] at hl; exact hl))
    rintro ⟨fn, tmps, assign, body, hy, hR⟩
    refine ⟨fn, tmps, assign, body, hy, hR.mono ?_⟩
    rintro e' W' (⟨h1, h2, h3⟩ | ⟨h1, h2⟩)
    · exact .inl ⟨h1, ⟨_, by rw [List.map_append, e]; rfl, h2⟩, h3⟩
    · exact .inr ⟨h1, _, by rw [List.map_append, e]; rfl, h2⟩
  · rintro e' W' ⟨hv, (⟨xs, h1, ys, h2, h3⟩ | ⟨xs, h1, ys, h2, h3⟩)⟩
    · exact ⟨hv, .inl ⟨ys, h2.trans h1, h3⟩⟩
    · exact ⟨hv, .inr ⟨ys, by show ys.map (·.1) <+: _; rw [h2]; exact h1, h3⟩⟩
theorem split_any (s : ByteArray) (w : World) : Calls Tryd.prog 29 #[.string s, .string ⟨#[44]⟩] w fun e w' => e = .returned (.func (.func 59) #[] #[.pointer (some ⟨w.heap.size + 1, 0, none⟩), .pointer (some ⟨w.heap.size, 0, none⟩), .pointer (some ⟨w.heap.size + 2, 0, none⟩)]) ∧ w' = ((w.alloc (.cells #[.string s] 9)).alloc (.cells #[.string ⟨#[44]⟩] 9)).alloc (.cells #[.int .i64 0] 3) := by
  have h : Calls Tryd.prog 42 #[.string s, .string ⟨#[44]⟩, .int .i64 0] w fun e w' => e = .returned (.func (.func 59) #[] #[.pointer (some ⟨w.heap.size + 1, 0, none⟩), .pointer (some ⟨w.heap.size, 0, none⟩), .pointer (some ⟨w.heap.size + 2, 0, none⟩)]) ∧ w' = ((w.alloc (.cells #[.string s] 9)).alloc (.cells #[.string ⟨#[44]⟩] 9)).alloc (.cells #[.int .i64 0] 3) := by
    go_enter Tryd.func42, Tryd.ntmps42
    go_wp2
    go_ret
    exact ⟨by simp, rfl⟩
  go_enter Tryd.func29, Tryd.ntmps29
  go_wp2_with fail
  refine h.mono ?_
  rintro e w1 ⟨rfl, rfl⟩
  go_wp2
  go_ret
  exact ⟨rfl, rfl⟩
end Go.Proofs.YtnlakdpfkgjdaaaDoor

/- What caravan/spans.May comes to, and its calls; by a program of mine over the kit's print. Conditions: where the plain function tells none, nothing is said. -/
namespace Go.Proofs.YtnlakdpfkgjdaaaDoor.G
open Go.RowKit Go.Proofs.YtnlakdpfkgjdaaaDoorW.PrintWords Go.Proofs.YtnlakdpfkgjdaaaDoorW.PrintLast Go.Proofs.YtnlakdpfkgjdaaaDoorW.PrintMore
attribute [local go_sem] max2_int min2_int max_two min_two max_three min_three max_four min_four   -- for this text's walks alone
set_option linter.unusedVariables false
set_option linter.unusedSimpArgs false

/-! ### spans_May: function 14 -/
def spans_May.l0 : Nat → Int → List (S31) → Int → Int → Option (Bool)
 | 0, _, _, _, _ => none
 | k + 1, x3, x6, x7, x8 => if x8 < x7 then (if 0 ≤ x8 then (if x8 < (x6.length : Int) then (if ((rd_T31 x6 x8).f0) ≤ (wrap64 (x3 + 1)) then (some false) else (if ((rd_T31 x6 x8).f0) < 0 then (some false) else (if ((rd_T31 x6 x8).f1) < ((rd_T31 x6 x8).f0) then (some false) else (if ((rd_T31 x6 x8).f1) > 16383 then (some false) else (spans_May.l0 k ((rd_T31 x6 x8).f1) x6 x7 (wrap64 (x8 + 1))))))) else (none)) else (none)) else (some true)
def spans_May.f (k : Nat) (l0 : List (S31)) : Option (Bool) := spans_May.l0 k (-2) l0 (l0.length : Int) 0
theorem spans_May.mono_l : ∀ k, (∀ y0 y1 y2 y3, LeO (spans_May.l0 k y0 y1 y2 y3) (spans_May.l0 (k + 1) y0 y1 y2 y3))
 | 0 => fun _ _ _ _ r h => by simp [spans_May.l0] at h
 | k + 1 => by
  have ih0 := spans_May.mono_l k
  ·intro y0 y1 y2 y3
   unfold spans_May.l0
   repeat' first
   | (with_reducible exact ih0 _ _ _ _)
   | (with_reducible exact LeO.refl _)
   | (with_reducible exact LeO.none _)
   | (with_reducible refine LeO.ite ?_ ?_)
   | (with_reducible refine LeO.bind ?_ (fun _ => ?_))
   | exact ih0 _ _ _ _
   | exact LeO.none _
   | refine LeO.ite ?_ ?_
   | refine LeO.bind ?_ (fun _ => ?_)
theorem spans_May.mono : ∀ a0 k, LeO (spans_May.f k a0) (spans_May.f (k + 1) a0) := by
 intro a0 k
 have ih0 := spans_May.mono_l k
 unfold spans_May.f
 repeat' first
  | (with_reducible exact ih0 _ _ _ _)
  | (with_reducible exact LeO.refl _)
  | (with_reducible exact LeO.none _)
  | (with_reducible refine LeO.ite ?_ ?_)
  | (with_reducible refine LeO.bind ?_ (fun _ => ?_))
  | exact ih0 _ _ _ _
  | exact LeO.none _
  | refine LeO.ite ?_ ?_
  | refine LeO.bind ?_ (fun _ => ?_)
set_option maxHeartbeats 8000000 in
set_option maxRecDepth 100000 in
theorem spans_May.calls (k : Nat) (A0 : Option Addr) (c0 : Nat) (l0 : List (S31)) (r : Bool) (w : World) (hr0 : Kd.C k31 w A0 l0.length l0) (hc0 : l0.length ≤ c0) (h : spans_May.f k l0 = some r) :
 Calls Tryd.prog 14 #[.slice A0 l0.length c0] w fun e w' => e = .returned (.bool r) ∧ Below w.heap.size w w' := by
 have hu31 := Tryd.underlying31
 have HR0 := Aside0.mk hr0
 have HC0 := Aside0.mk hc0
 clear hr0 hc0
 have HB := Aside0.mk (Below.refl w.heap.size w)
 have H : (spans_May.l0 k (-2) l0 (l0.length : Int) 0) = some r := h
 clear h
 have H' := Aside0.mk H
 clear H
 go_enter Tryd.func14, Tryd.ntmps14
 go_wp2
 go_loopg [3, 8] k (fun kq v3 v8 w' => ∃ (x3_1 : Int) (x8_1 : Int), v3 = .int .i64 x3_1 ∧ v8 = .int .i64 x8_1 ∧ Aside0 (spans_May.l0 kq x3_1 l0 (l0.length : Int) x8_1 = some r) ∧ Aside0 (kq ≤ k) ∧ Aside0 (Below w.heap.size w w'))
 case atStart => exact ⟨((-2)), (0), (by first | rfl | (simp; done) | (simp [*]; done)), (by first | rfl | (simp; done) | (simp [*]; done)), H', ⟨Nat.le_refl _⟩, ⟨by repeat (first | (with_reducible first | exact HB.out | apply below_alloc | apply pw_below_drewN | apply below_drew1) | exact HB.out)⟩⟩
 case round =>
  clear H'
  try clear c1
  obtain ⟨x3_1, x8_1, rfl, rfl, HA, HK1, HB⟩ := hrel
  cases gk with
  | zero => exact absurd HA.out (by simp [spans_May.l0])
  | succ k1 =>
   have H := HA.out
   clear HA
   simp only [spans_May.l0] at H
   by_cases c2 : x8_1 < (l0.length : Int)
   ·rw [if_pos c2] at H
    have c2b0 : decide (x8_1 < (l0.length : Int)) = true := decide_eq_true c2
    clear c2
    by_cases c3 : 0 ≤ x8_1
    ·rw [if_pos c3] at H
     have c3b0 : decide (0 ≤ x8_1) = true := decide_eq_true c3
     clear c3
     by_cases c4 : x8_1 < (l0.length : Int)
     ·rw [if_pos c4] at H
      have c4b0 : decide (x8_1 < (l0.length : Int)) = true := decide_eq_true c4
      clear c4
      by_cases c5 : ((rd_T31 l0 x8_1).f0) ≤ (wrap64 (x3_1 + 1))
      ·rw [if_pos c5] at H
       have c5b0 : decide (((rd_T31 l0 x8_1).f0) ≤ (wrap64 (x3_1 + 1))) = true := decide_eq_true c5
       clear c5
       obtain rfl := Option.some.inj H
       have p101 : 0 ≤ (x8_1 : Int) := of_decide_eq_true (by first | (with_reducible assumption) | assumption)
       have q101 : x8_1 < (l0.length : Int) := of_decide_eq_true (by first | (with_reducible assumption) | assumption)
       obtain ⟨ad101, e101, hx101_0, hx101_1⟩ := at_T31 HR0.out x8_1 p101 q101
       cases e101
       replace hx101_0 := (HB.out.cell (World.block_lt_of_cell? w _ hx101_0)).trans hx101_0
       replace hx101_1 := (HB.out.cell (World.block_lt_of_cell? w _ hx101_1)).trans hx101_1
       replace p101 := eq_true p101
       replace q101 := eq_true q101
       go_wp2_with (first | ((with_reducible refine gate_dst (N := 5) rfl ?_); refine box_event ?hg (N := 5) ?hd (cs := #[.int .i64 0, .int .i64 0]) (t := 31) ?hr ?_; (case hd => rfl); (case hg => rfl); (case hr => first | (go_simp; done) | (go_simp; rfl)); intro gb102 hg w6 hbox hb; have n0_ := Aside0.mk (below_step (by repeat (first | (with_reducible first | exact HB.out | apply below_alloc | apply pw_below_drewN | apply below_drew1) | exact HB.out)) hb); have n1_ := Aside0.mk (hbox); have n2_ := Aside0.mk ((by rw [hg]; exact (below_size (by repeat (first | (with_reducible first | exact HB.out | apply below_alloc | apply pw_below_drewN | apply below_drew1) | exact HB.out))) : w.heap.size ≤ gb102)); have n3_ := Aside0.mk ((by rw [hg]; exact (below_size (by repeat (first | (with_reducible first | exact HB.out | apply below_alloc | apply pw_below_drewN | apply below_drew1) | exact HB.out))) : w.heap.size ≤ gb102)); clear HB; have HB := n0_; have BK102 := n1_; have GW102 := n2_; have GE102 := n3_; clear n0_ n1_ n2_ n3_; clear hb hbox hg; have hcz7_0 : w6.cell? ⟨gb102, 0, none⟩ = some (.int .i64 0) := (blk_cell BK102.out 0).trans rfl; have hcz7_1 : w6.cell? ⟨gb102, 1, none⟩ = some (.int .i64 0) := (blk_cell BK102.out 1).trans rfl; have hfz7_0 := blk_frozen BK102.out 0; have hfz7_1 := blk_frozen BK102.out 1))
       go_ret
       exact ⟨by first | rfl | (simp [errW_none, errW_some] <;> rfl) | (simp [*, errW_none, errW_some] <;> rfl), by repeat (first | (with_reducible first | exact HB.out | apply below_alloc | apply pw_below_drewN | apply below_drew1 | refine below_set ?_ GE102.out) | exact HB.out)⟩
      ·rw [if_neg c5] at H
       have c5b0 : decide (((rd_T31 l0 x8_1).f0) ≤ (wrap64 (x3_1 + 1))) = false := decide_eq_false c5
       clear c5
       by_cases c8 : ((rd_T31 l0 x8_1).f0) < 0
       ·rw [if_pos c8] at H
        have c8b0 : decide (((rd_T31 l0 x8_1).f0) < 0) = true := decide_eq_true c8
        clear c8
        obtain rfl := Option.some.inj H
        have p101 : 0 ≤ (x8_1 : Int) := of_decide_eq_true (by first | (with_reducible assumption) | assumption)
        have q101 : x8_1 < (l0.length : Int) := of_decide_eq_true (by first | (with_reducible assumption) | assumption)
        obtain ⟨ad101, e101, hx101_0, hx101_1⟩ := at_T31 HR0.out x8_1 p101 q101
        cases e101
        replace hx101_0 := (HB.out.cell (World.block_lt_of_cell? w _ hx101_0)).trans hx101_0
        replace hx101_1 := (HB.out.cell (World.block_lt_of_cell? w _ hx101_1)).trans hx101_1
        replace p101 := eq_true p101
        replace q101 := eq_true q101
        go_wp2_with (first | ((with_reducible refine gate_dst (N := 5) rfl ?_); refine box_event ?hg (N := 5) ?hd (cs := #[.int .i64 0, .int .i64 0]) (t := 31) ?hr ?_; (case hd => rfl); (case hg => rfl); (case hr => first | (go_simp; done) | (go_simp; rfl)); intro gb102 hg w9 hbox hb; have n0_ := Aside0.mk (below_step (by repeat (first | (with_reducible first | exact HB.out | apply below_alloc | apply pw_below_drewN | apply below_drew1) | exact HB.out)) hb); have n1_ := Aside0.mk (hbox); have n2_ := Aside0.mk ((by rw [hg]; exact (below_size (by repeat (first | (with_reducible first | exact HB.out | apply below_alloc | apply pw_below_drewN | apply below_drew1) | exact HB.out))) : w.heap.size ≤ gb102)); have n3_ := Aside0.mk ((by rw [hg]; exact (below_size (by repeat (first | (with_reducible first | exact HB.out | apply below_alloc | apply pw_below_drewN | apply below_drew1) | exact HB.out))) : w.heap.size ≤ gb102)); clear HB; have HB := n0_; have BK102 := n1_; have GW102 := n2_; have GE102 := n3_; clear n0_ n1_ n2_ n3_; clear hb hbox hg; have hcz10_0 : w9.cell? ⟨gb102, 0, none⟩ = some (.int .i64 0) := (blk_cell BK102.out 0).trans rfl; have hcz10_1 : w9.cell? ⟨gb102, 1, none⟩ = some (.int .i64 0) := (blk_cell BK102.out 1).trans rfl; have hfz10_0 := blk_frozen BK102.out 0; have hfz10_1 := blk_frozen BK102.out 1))
        go_ret
        exact ⟨by first | rfl | (simp [errW_none, errW_some] <;> rfl) | (simp [*, errW_none, errW_some] <;> rfl), by repeat (first | (with_reducible first | exact HB.out | apply below_alloc | apply pw_below_drewN | apply below_drew1 | refine below_set ?_ GE102.out) | exact HB.out)⟩
       ·rw [if_neg c8] at H
        have c8b0 : decide (((rd_T31 l0 x8_1).f0) < 0) = false := decide_eq_false c8
        clear c8
        by_cases c11 : ((rd_T31 l0 x8_1).f1) < ((rd_T31 l0 x8_1).f0)
        ·rw [if_pos c11] at H
         have c11b0 : decide (((rd_T31 l0 x8_1).f1) < ((rd_T31 l0 x8_1).f0)) = true := decide_eq_true c11
         clear c11
         obtain rfl := Option.some.inj H
         have p101 : 0 ≤ (x8_1 : Int) := of_decide_eq_true (by first | (with_reducible assumption) | assumption)
         have q101 : x8_1 < (l0.length : Int) := of_decide_eq_true (by first | (with_reducible assumption) | assumption)
         obtain ⟨ad101, e101, hx101_0, hx101_1⟩ := at_T31 HR0.out x8_1 p101 q101
         cases e101
         replace hx101_0 := (HB.out.cell (World.block_lt_of_cell? w _ hx101_0)).trans hx101_0
         replace hx101_1 := (HB.out.cell (World.block_lt_of_cell? w _ hx101_1)).trans hx101_1
         replace p101 := eq_true p101
         replace q101 := eq_true q101
         go_wp2_with (first | ((with_reducible refine gate_dst (N := 5) rfl ?_); refine box_event ?hg (N := 5) ?hd (cs := #[.int .i64 0, .int .i64 0]) (t := 31) ?hr ?_; (case hd => rfl); (case hg => rfl); (case hr => first | (go_simp; done) | (go_simp; rfl)); intro gb102 hg w12 hbox hb; have n0_ := Aside0.mk (below_step (by repeat (first | (with_reducible first | exact HB.out | apply below_alloc | apply pw_below_drewN | apply below_drew1) | exact HB.out)) hb); have n1_ := Aside0.mk (hbox); have n2_ := Aside0.mk ((by rw [hg]; exact (below_size (by repeat (first | (with_reducible first | exact HB.out | apply below_alloc | apply pw_below_drewN | apply below_drew1) | exact HB.out))) : w.heap.size ≤ gb102)); have n3_ := Aside0.mk ((by rw [hg]; exact (below_size (by repeat (first | (with_reducible first | exact HB.out | apply below_alloc | apply pw_below_drewN | apply below_drew1) | exact HB.out))) : w.heap.size ≤ gb102)); clear HB; have HB := n0_; have BK102 := n1_; have GW102 := n2_; have GE102 := n3_; clear n0_ n1_ n2_ n3_; clear hb hbox hg; have hcz13_0 : w12.cell? ⟨gb102, 0, none⟩ = some (.int .i64 0) := (blk_cell BK102.out 0).trans rfl; have hcz13_1 : w12.cell? ⟨gb102, 1, none⟩ = some (.int .i64 0) := (blk_cell BK102.out 1).trans rfl; have hfz13_0 := blk_frozen BK102.out 0; have hfz13_1 := blk_frozen BK102.out 1))
         go_ret
         exact ⟨by first | rfl | (simp [errW_none, errW_some] <;> rfl) | (simp [*, errW_none, errW_some] <;> rfl), by repeat (first | (with_reducible first | exact HB.out | apply below_alloc | apply pw_below_drewN | apply below_drew1 | refine below_set ?_ GE102.out) | exact HB.out)⟩
        ·rw [if_neg c11] at H
         have c11b0 : decide (((rd_T31 l0 x8_1).f1) < ((rd_T31 l0 x8_1).f0)) = false := decide_eq_false c11
         clear c11
         by_cases c14 : ((rd_T31 l0 x8_1).f1) > 16383
         ·rw [if_pos c14] at H
          have c14b0 : decide (16383 < ((rd_T31 l0 x8_1).f1)) = true := decide_eq_true c14
          clear c14
          obtain rfl := Option.some.inj H
          have p101 : 0 ≤ (x8_1 : Int) := of_decide_eq_true (by first | (with_reducible assumption) | assumption)
          have q101 : x8_1 < (l0.length : Int) := of_decide_eq_true (by first | (with_reducible assumption) | assumption)
          obtain ⟨ad101, e101, hx101_0, hx101_1⟩ := at_T31 HR0.out x8_1 p101 q101
          cases e101
          replace hx101_0 := (HB.out.cell (World.block_lt_of_cell? w _ hx101_0)).trans hx101_0
          replace hx101_1 := (HB.out.cell (World.block_lt_of_cell? w _ hx101_1)).trans hx101_1
          replace p101 := eq_true p101
          replace q101 := eq_true q101
          go_wp2_with (first | ((with_reducible refine gate_dst (N := 5) rfl ?_); refine box_event ?hg (N := 5) ?hd (cs := #[.int .i64 0, .int .i64 0]) (t := 31) ?hr ?_; (case hd => rfl); (case hg => rfl); (case hr => first | (go_simp; done) | (go_simp; rfl)); intro gb102 hg w15 hbox hb; have n0_ := Aside0.mk (below_step (by repeat (first | (with_reducible first | exact HB.out | apply below_alloc | apply pw_below_drewN | apply below_drew1) | exact HB.out)) hb); have n1_ := Aside0.mk (hbox); have n2_ := Aside0.mk ((by rw [hg]; exact (below_size (by repeat (first | (with_reducible first | exact HB.out | apply below_alloc | apply pw_below_drewN | apply below_drew1) | exact HB.out))) : w.heap.size ≤ gb102)); have n3_ := Aside0.mk ((by rw [hg]; exact (below_size (by repeat (first | (with_reducible first | exact HB.out | apply below_alloc | apply pw_below_drewN | apply below_drew1) | exact HB.out))) : w.heap.size ≤ gb102)); clear HB; have HB := n0_; have BK102 := n1_; have GW102 := n2_; have GE102 := n3_; clear n0_ n1_ n2_ n3_; clear hb hbox hg; have hcz16_0 : w15.cell? ⟨gb102, 0, none⟩ = some (.int .i64 0) := (blk_cell BK102.out 0).trans rfl; have hcz16_1 : w15.cell? ⟨gb102, 1, none⟩ = some (.int .i64 0) := (blk_cell BK102.out 1).trans rfl; have hfz16_0 := blk_frozen BK102.out 0; have hfz16_1 := blk_frozen BK102.out 1))
          go_ret
          exact ⟨by first | rfl | (simp [errW_none, errW_some] <;> rfl) | (simp [*, errW_none, errW_some] <;> rfl), by repeat (first | (with_reducible first | exact HB.out | apply below_alloc | apply pw_below_drewN | apply below_drew1 | refine below_set ?_ GE102.out) | exact HB.out)⟩
         ·rw [if_neg c14] at H
          have c14b0 : decide (16383 < ((rd_T31 l0 x8_1).f1)) = false := decide_eq_false c14
          clear c14
          have H' := Aside0.mk H
          clear H
          have p101 : 0 ≤ (x8_1 : Int) := of_decide_eq_true (by first | (with_reducible assumption) | assumption)
          have q101 : x8_1 < (l0.length : Int) := of_decide_eq_true (by first | (with_reducible assumption) | assumption)
          obtain ⟨ad101, e101, hx101_0, hx101_1⟩ := at_T31 HR0.out x8_1 p101 q101
          cases e101
          replace hx101_0 := (HB.out.cell (World.block_lt_of_cell? w _ hx101_0)).trans hx101_0
          replace hx101_1 := (HB.out.cell (World.block_lt_of_cell? w _ hx101_1)).trans hx101_1
          replace p101 := eq_true p101
          replace q101 := eq_true q101
          go_wp2_with (first | ((with_reducible refine gate_dst (N := 5) rfl ?_); refine box_event ?hg (N := 5) ?hd (cs := #[.int .i64 0, .int .i64 0]) (t := 31) ?hr ?_; (case hd => rfl); (case hg => rfl); (case hr => first | (go_simp; done) | (go_simp; rfl)); intro gb102 hg w17 hbox hb; have n0_ := Aside0.mk (below_step (by repeat (first | (with_reducible first | exact HB.out | apply below_alloc | apply pw_below_drewN | apply below_drew1) | exact HB.out)) hb); have n1_ := Aside0.mk (hbox); have n2_ := Aside0.mk ((by rw [hg]; exact (below_size (by repeat (first | (with_reducible first | exact HB.out | apply below_alloc | apply pw_below_drewN | apply below_drew1) | exact HB.out))) : w.heap.size ≤ gb102)); have n3_ := Aside0.mk ((by rw [hg]; exact (below_size (by repeat (first | (with_reducible first | exact HB.out | apply below_alloc | apply pw_below_drewN | apply below_drew1) | exact HB.out))) : w.heap.size ≤ gb102)); clear HB; have HB := n0_; have BK102 := n1_; have GW102 := n2_; have GE102 := n3_; clear n0_ n1_ n2_ n3_; clear hb hbox hg; have hcz18_0 : w17.cell? ⟨gb102, 0, none⟩ = some (.int .i64 0) := (blk_cell BK102.out 0).trans rfl; have hcz18_1 : w17.cell? ⟨gb102, 1, none⟩ = some (.int .i64 0) := (blk_cell BK102.out 1).trans rfl; have hfz18_0 := blk_frozen BK102.out 0; have hfz18_1 := blk_frozen BK102.out 1))
          go_roundg k1
          case measure => have := HK1.out; omega
          case rel => exact ⟨((rd_T31 l0 x8_1).f1), (wrap64 (x8_1 + 1)), (by first | rfl | (simp; done) | (simp [*]; done)), (by first | rfl | (simp; done) | (simp [*]; done)), H', ⟨by have := HK1.out; omega⟩, ⟨by repeat (first | (with_reducible first | exact HB.out | apply below_alloc | apply pw_below_drewN | apply below_drew1 | refine below_set ?_ GE102.out) | exact HB.out)⟩⟩
     ·rw [if_neg c4] at H
      exact absurd H (by simp)
    ·rw [if_neg c3] at H
     exact absurd H (by simp)
   ·rw [if_neg c2] at H
    have c2b0 : decide (x8_1 < (l0.length : Int)) = false := decide_eq_false c2
    clear c2
    obtain rfl := Option.some.inj H
    go_wp2
    go_ret
    exact ⟨by first | rfl | (simp [errW_none, errW_some] <;> rfl) | (simp [*, errW_none, errW_some] <;> rfl), by repeat (first | (with_reducible first | exact HB.out | apply below_alloc | apply pw_below_drewN | apply below_drew1) | exact HB.out)⟩

end Go.Proofs.YtnlakdpfkgjdaaaDoor.G
