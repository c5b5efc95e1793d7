/- slot.Crc over what reads as bytes. Conditions: as many bytes as the form lets in. -/
import Derived.Test.YtijploopgmbhfaaDoorProg
import Derived.Test.YtijploopgmbhfaaDoorCavA
import Derived.Laws.IdiomStrings
import Derived.Laws.BitsAllLaws
import Derived.IntWalk
namespace Go.Proofs.YtijploopgmbhfaaDoor
open Go.RowKit Go.Cav
attribute [local go_sem] Oper.semAt_some
/-- one bit of the check sum's register -/
def crcS (r : Nat) : Nat := (r * 2 % 65536) ^^^ (4129 * (r / 32768))
/-- so many bits -/
def crcK : Nat → Nat → Nat
  | 0, r => r
  | k + 1, r => crcS (crcK k r)
/-- one byte -/
def crcB (r : Nat) (b : UInt8) : Nat := crcK 8 (r ^^^ b.toNat * 256)
/-- bytes -/
def crcN (l : List UInt8) : Nat := l.foldl crcB 0
theorem crcS_lt (r : Nat) (h : r < 65536) : crcS r < 65536 := by
  unfold crcS
  have h1 : r * 2 % 65536 < 2 ^ 16 := Nat.mod_lt _ (by decide)
  have h2 : 4129 * (r / 32768) < 2 ^ 16 := by omega
  exact Nat.xor_lt_two_pow h1 h2
theorem crcK_lt (k r : Nat) (h : r < 65536) : crcK k r < 65536 := by
  induction k with
  | zero => exact h
  | succ k ih => exact crcS_lt _ ih
theorem crcX_lt (r : Nat) (b : UInt8) (h : r < 65536) : r ^^^ b.toNat * 256 < 65536 := by
  have h1 : r < 2 ^ 16 := h
  have h2 : b.toNat * 256 < 2 ^ 16 := by have := b.toNat_lt; omega
  exact Nat.xor_lt_two_pow h1 h2
theorem crcB_lt (r : Nat) (b : UInt8) (h : r < 65536) : crcB r b < 65536 := crcK_lt _ _ (crcX_lt r b h)
theorem crcN_lt (l : List UInt8) : crcN l < 65536 := by
  unfold crcN
  suffices h : ∀ r, r < 65536 → l.foldl crcB r < 65536 from h 0 (by decide)
  induction l with
  | nil => exact fun r h => h
  | cons b l ih => exact fun r h => ih _ (crcB_lt r b h)
theorem crcS_at (x : Nat) (h : x < 65536) : bits .xor .u16 (IntKind.u16.wrap ((x : Int) * 2)) (4129 * ((x : Int) / 32768)) = ((crcS x : Nat) : Int) := by
  have e1 : IntKind.u16.wrap ((x : Int) * 2) = ((x * 2 % 65536 : Nat) : Int) := by simp only [IntKind.wrap]; simp [IntKind.bits, IntKind.signed]
  have e2 : 4129 * ((x : Int) / 32768) = ((4129 * (x / 32768) : Nat) : Int) := by omega
  rw [e1, e2, u16_xor_nat _ _ (Nat.mod_lt _ (by decide)) (by omega)]
  rfl
theorem crcX_at (x : Nat) (b : UInt8) (h : x < 65536) : bits .xor .u16 (x : Int) (IntKind.u16.wrap (IntKind.u16.wrap (b.toNat : Int) * 256)) = ((x ^^^ b.toNat * 256 : Nat) : Int) := by
  have hb := b.toNat_lt
  have e1 : IntKind.u16.wrap (b.toNat : Int) = (b.toNat : Int) := by simp only [IntKind.wrap]; simp [IntKind.bits, IntKind.signed]; omega
  have e2 : IntKind.u16.wrap (IntKind.u16.wrap (b.toNat : Int) * 256) = ((b.toNat * 256 : Nat) : Int) := by
    rw [e1]; simp only [IntKind.wrap]; simp [IntKind.bits, IntKind.signed]; omega
  rw [e2, u16_xor_nat _ _ h (by omega)]
set_option maxRecDepth 100000 in
set_option maxHeartbeats 4000000 in
theorem crc_calls (a : Addr) (c : Nat) (l : List UInt8) (w : World) (hs : l.length ≤ 9000000000000000000) (hc : ∀ j u, (l.map B8)[j]? = some u → w.cell? (a.add j) = some u) :
    Calls Tryd.prog 60 #[.slice (some a) l.length c] w fun e w' => e = .returned (.int .i64 (crcN l : Nat)) ∧ w = w' := by
  have HC := Lib.hid hc
  clear hc
  go_enter Tryd.func60, Tryd.ntmps60
  go_wp2
  go_loop [3, 9] (fun r i => ∃ (j x : Nat), j ≤ l.length ∧ i = .int .i64 (j : Int) ∧ r = .int .u16 x ∧ x < 65536 ∧ Hid (x = (l.take j).foldl crcB 0)) (fun r i => l.length - (intOf i).toNat)
  case atStart => exact ⟨0, 0, by omega, rfl, rfl, by omega, Lib.hid rfl⟩
  case round =>
    obtain ⟨j, x, hj, rfl, rfl, h1, hx⟩ := hrel
    by_cases hlt : j < l.length
    · have cj := HC.out j (B8 l[j]) (by rw [List.getElem?_map, List.getElem?_eq_getElem hlt]; rfl)
      have hltz : (j : Int) < (l.length : Int) := by omega
      have hx2 : crcK 8 (x ^^^ l[j].toNat * 256) = (l.take (j + 1)).foldl crcB 0 := by
        rw [List.take_succ_eq_append_getElem hlt, List.foldl_append, ← hx.out]; rfl
      have HX := Lib.hid hx2
      clear hx2 hx
      have ex := Lib.hid (crcX_at x l[j] h1)
      have hy := crcX_lt x l[j] h1
      go_wp2
      rw [ex.out]
      generalize x ^^^ l[j].toNat * 256 = y at HX ex hy
      clear ex h1
      go_loop [3, 18] (fun r i => ∃ (k x : Nat), k ≤ 8 ∧ i = .int .i64 (k : Int) ∧ r = .int .u16 x ∧ x < 65536 ∧ Hid (x = crcK k y)) (fun r i => 8 - (intOf i).toNat)
      case atStart => exact ⟨0, y, by omega, rfl, rfl, hy, Lib.hid rfl⟩
      case round =>
        obtain ⟨k, x, hk, rfl, rfl, h1, hx⟩ := hrel
        by_cases hk8 : k < 8
        · have hkz : (k : Int) < 8 := by omega
          have ex := Lib.hid (crcS_at x h1)
          go_wp2
          exact ⟨⟨k + 1, crcS x, by omega, by simp, by rw [ex.out], crcS_lt x h1, Lib.hid (by rw [hx.out]; rfl)⟩, by simp [intOf]; omega⟩
        · have hkz : ¬ (k : Int) < 8 := by omega
          obtain rfl : k = 8 := by omega
          go_wp2
          exact ⟨⟨j + 1, x, by omega, by simp, rfl, h1, Lib.hid (by rw [hx.out]; exact HX.out)⟩, by simp [intOf]; omega⟩
    · have hltz : ¬ (j : Int) < (l.length : Int) := by omega
      obtain rfl : j = l.length := by omega
      have hx2 : x = crcN l := by rw [hx.out, List.take_length]; rfl
      have HX := Lib.hid hx2
      clear hx2 hx
      go_wp2
      go_ret
      have e := HX.out
      subst e
      exact ⟨rfl, rfl⟩
end Go.Proofs.YtijploopgmbhfaaDoor
