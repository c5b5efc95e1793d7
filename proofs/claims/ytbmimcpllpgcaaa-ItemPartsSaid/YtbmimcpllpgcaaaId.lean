/- What 'some' and 'shaped' tell of an item. Conditions: bounds on its elements' number. -/
import Derived.Test.YtbmimcpllpgcaaaIc
namespace Go.Proofs.Ytbmimcpllpgcaaa
open Go.RowKit Go.Shelf Go.Cav

structure ItemV where
  kind : Int
  s : ByteArray
  fs : List (ByteArray × ByteArray)
  ls : List ByteArray
  exp : Int

/-- the bounds under which an item is spoken of -/
structure Fit (x : ItemV) : Prop where
  f : x.fs.length ≤ 10000000000
  l : x.ls.length ≤ 10000000000

def someP (n : Nat) : Prop := 1 ≤ n ∧ n ≤ 40
/-- has an item what its kind has, and nothing else? -/
def shapedP (x : ItemV) : Prop :=
  (x.kind = 1 ∧ x.fs.length + x.ls.length = 0) ∨ (x.kind = 2 ∧ x.s.toList.isEmpty = true ∧ x.ls.length = 0 ∧ someP x.fs.length ∧ risesP (x.fs.map Prod.fst)) ∨
  (x.kind = 3 ∧ x.s.toList.isEmpty = true ∧ x.fs.length = 0 ∧ someP x.ls.length) ∨ (x.kind = 4 ∧ x.s.toList.isEmpty = true ∧ x.fs.length = 0 ∧ someP x.ls.length ∧ risesP x.ls)

set_option maxHeartbeats 400000 in
theorem some_yes (n : Nat) (h : someP n) (w : World) : Calls Try.prog 32 #[.int .i64 (n : Int)] w fun e w' => e = .returned (.bool true) ∧ w = w' := by
  have h1 : (1 : Int) ≤ (n : Int) := by have := h.1; omega
  have h2 : (n : Int) ≤ 40 := by have := h.2; omega
  clear h
  go_enter Try.func32, Try.ntmps32
  go_wp2
  go_ret
  exact ⟨rfl, rfl⟩
set_option maxHeartbeats 400000 in
theorem some_no (n : Nat) (h : ¬ someP n) (w : World) : Calls Try.prog 32 #[.int .i64 (n : Int)] w fun e w' => e = .returned (.bool false) ∧ w = w' := by
  by_cases h1 : (1 : Int) ≤ (n : Int)
  · have h2 : ¬ (n : Int) ≤ 40 := fun e => h ⟨by omega, by omega⟩
    clear h
    go_enter Try.func32, Try.ntmps32
    go_wp2
    go_ret
    exact ⟨rfl, rfl⟩
  · clear h
    go_enter Try.func32, Try.ntmps32
    go_wp2
    go_ret
    exact ⟨rfl, rfl⟩

set_option maxRecDepth 100000 in
set_option maxHeartbeats 2000000 in
theorem shaped_text (w : World) (s : ByteArray) (af al : Option Addr) (nf nl cf cl : Nat) (exp : Int) (hf : nf ≤ 10000000000) (hl : nl ≤ 10000000000) :
    Calls Try.prog 21 #[.agg #[.int .i64 1, .string s, .slice af nf cf, .slice al nl cl, .int .i64 exp]] w fun e w' => ∃ b : Bool, e = .returned (.bool b) ∧ (b = true ↔ nf + nl = 0) ∧ Below w.heap.size w w' := by
  have hw : IntKind.i64.wrap ((nf : Int) + (nl : Int)) = (nf : Int) + (nl : Int) := by rw [IntKind.wrap_i64]; omega
  go_enter Try.func21, Try.ntmps21
  go_wp2
  go_ret
  refine ⟨_, rfl, ?_, (Below.refl _ w).alloc (Nat.le_refl _) _⟩
  simp
  try omega

set_option maxRecDepth 100000 in
set_option maxHeartbeats 2000000 in
theorem shaped_hash (w : World) (s : ByteArray) (fv : Value) (fs : List (ByteArray × ByteArray)) (hF : FieldsAt w fv fs) (al : Option Addr) (nl cl : Nat) (exp : Int) (hf : fs.length ≤ 10000000000) (hl : nl ≤ 10000000000) :
    Calls Try.prog 21 #[.agg #[.int .i64 2, .string s, fv, .slice al nl cl, .int .i64 exp]] w fun e w' => ∃ b : Bool, e = .returned (.bool b) ∧ (b = true ↔ s.toList.isEmpty = true ∧ nl = 0 ∧ someP fs.length ∧ risesP (fs.map Prod.fst)) ∧ Below w.heap.size w w' := by
  obtain ⟨af, cf, rfl, hcf⟩ := fields_slice hF
  have hb0 := Lib.hid ((Below.refl w.heap.size w).alloc (Nat.le_refl _) (.cells #[.int .i64 2, .string s, .slice af fs.length cf, .slice al nl cl, .int .i64 exp] 26))
  by_cases h1 : s.toList.isEmpty = true
  · by_cases h2 : (nl : Int) = 0
    · obtain rfl : nl = 0 := by omega
      by_cases h3 : someP fs.length
      · have sy := some_yes fs.length h3
        obtain ⟨x0, hx0⟩ : ∃ x0, fs[0]? = some x0 := ⟨_, List.getElem?_eq_getElem (show 0 < fs.length by have := h3.1; omega)⟩
        obtain ⟨ad, rfl, c0, _⟩ := hcf 0 x0 hx0
        have hblk : ad.block < w.heap.size := by have := World.block_lt_of_cell? w _ c0; rwa [add_block] at this
        have hb1 : Below w.heap.size w ((w.alloc (.cells #[.int .i64 2, .string s, .slice (some ad) fs.length cf, .slice al 0 cl, .int .i64 exp] 26)).alloc (.cells #[.slice (some ad) fs.length cf] 23)) := ((Below.refl w.heap.size w).alloc (Nat.le_refl _) _).alloc (by simp) _
        have hz1 : ((w.alloc (.cells #[.int .i64 2, .string s, .slice (some ad) fs.length cf, .slice al 0 cl, .int .i64 exp] 26)).alloc (.cells #[.slice (some ad) fs.length cf] 23)).heap.size = w.heap.size + 2 := by simp
        have hcB : ((w.alloc (.cells #[.int .i64 2, .string s, .slice (some ad) fs.length cf, .slice al 0 cl, .int .i64 exp] 26)).alloc (.cells #[.slice (some ad) fs.length cf] 23)).cell? ⟨w.heap.size + 1, 0, none⟩ = some (.slice (some ad) fs.length cf) := by
          have := (Boxed.new (w.alloc (.cells #[.int .i64 2, .string s, .slice (some ad) fs.length cf, .slice al 0 cl, .int .i64 exp] 26)) 23 (.slice (some ad) fs.length cf)).cell
          rwa [World.size_alloc] at this
        have rs := rising_any Prod.fst fs 38 (w.heap.size + 1) _ (enters_of Try.func38 (by kernel_rfl) rfl)
          (fun T hT => names_stops Fence.wide 5 trivial rfl (by omega) (w.heap.size + 1) _ T (.slice (some ad) fs.length cf) fs (by omega) _ (by omega) hcB (hF.below hb1) (fun k e h => by cases e; have := (hT _ h).1; omega))
        have Hrs := Lib.hid rs
        have Hb1 := Lib.hid hb1
        clear rs hb1 hz1 hcB hcf c0 hF hx0 hb0
        go_enter Try.func21, Try.ntmps21
        go_wp2_with (go_at_call 32; refine (sy _).mono ?_; rintro e w' ⟨rfl, rfl⟩)
        refine (names_any _ _ _ _).mono ?_
        rintro e w1 ⟨rfl, rfl⟩
        go_wp2_with fail
        refine Hrs.out.mono ?_
        rintro e w2 ⟨b, rfl, hb, hbel⟩
        have HB := Lib.hid hb
        have HE := Lib.hid (Hb1.out.trans (hbel.mono Hb1.out.size))
        clear hb hbel Hrs Hb1
        go_wp2
        go_ret
        exact ⟨b, rfl, ⟨fun h => ⟨h1, by trivial, h3, HB.out.1 h⟩, fun h => HB.out.2 h.2.2.2⟩, HE.out⟩
      · have sy := some_no fs.length h3
        go_enter Try.func21, Try.ntmps21
        go_wp2_with (go_at_call 32; refine (sy _).mono ?_; rintro e w' ⟨rfl, rfl⟩)
        go_ret
        exact ⟨false, rfl, ⟨fun h => (by cases h), fun h => absurd h.2.2.1 h3⟩, hb0.out⟩
    · go_enter Try.func21, Try.ntmps21
      go_wp2
      go_ret
      exact ⟨false, rfl, ⟨fun h => (by cases h), fun h => absurd h.2.1 (by omega)⟩, hb0.out⟩
  · have h1' : s.toList.isEmpty = false := by simpa using h1
    clear h1
    go_enter Try.func21, Try.ntmps21
    go_wp2
    go_ret
    exact ⟨false, rfl, ⟨fun h => (by cases h), fun h => (by rw [h1'] at h; cases h.1)⟩, hb0.out⟩

set_option maxRecDepth 100000 in
set_option maxHeartbeats 2000000 in
theorem shaped_list (w : World) (s : ByteArray) (af al : Option Addr) (nf nl cf cl : Nat) (exp : Int) :
    Calls Try.prog 21 #[.agg #[.int .i64 3, .string s, .slice af nf cf, .slice al nl cl, .int .i64 exp]] w fun e w' => ∃ b : Bool, e = .returned (.bool b) ∧ (b = true ↔ s.toList.isEmpty = true ∧ nf = 0 ∧ someP nl) ∧ Below w.heap.size w w' := by
  have hb0 := Lib.hid ((Below.refl w.heap.size w).alloc (Nat.le_refl _) (.cells #[.int .i64 3, .string s, .slice af nf cf, .slice al nl cl, .int .i64 exp] 26))
  by_cases h1 : s.toList.isEmpty = true
  · by_cases h2 : (nf : Int) = 0
    · obtain rfl : nf = 0 := by omega
      by_cases h3 : someP nl
      · have sy := some_yes nl h3
        go_enter Try.func21, Try.ntmps21
        go_wp2_with (go_at_call 32; refine (sy _).mono ?_; rintro e w' ⟨rfl, rfl⟩)
        go_ret
        exact ⟨true, rfl, ⟨fun _ => ⟨h1, by trivial, h3⟩, fun _ => rfl⟩, hb0.out⟩
      · have sy := some_no nl h3
        go_enter Try.func21, Try.ntmps21
        go_wp2_with (go_at_call 32; refine (sy _).mono ?_; rintro e w' ⟨rfl, rfl⟩)
        go_ret
        exact ⟨false, rfl, ⟨fun h => (by cases h), fun h => absurd h.2.2 h3⟩, hb0.out⟩
    · go_enter Try.func21, Try.ntmps21
      go_wp2
      go_ret
      exact ⟨false, rfl, ⟨fun h => (by cases h), fun h => absurd h.2.1 (by omega)⟩, hb0.out⟩
  · have h1' : s.toList.isEmpty = false := by simpa using h1
    clear h1
    go_enter Try.func21, Try.ntmps21
    go_wp2
    go_ret
    exact ⟨false, rfl, ⟨fun h => (by cases h), fun h => (by rw [h1'] at h; cases h.1)⟩, hb0.out⟩

set_option maxRecDepth 100000 in
set_option maxHeartbeats 2000000 in
theorem shaped_set (w : World) (s : ByteArray) (lv : Value) (ls : List ByteArray) (hL : ReadsA w 1 lv ls.length (ls.map .string)) (af : Option Addr) (nf cf : Nat) (exp : Int) (hl : ls.length ≤ 10000000000) :
    Calls Try.prog 21 #[.agg #[.int .i64 4, .string s, .slice af nf cf, lv, .int .i64 exp]] w fun e w' => ∃ b : Bool, e = .returned (.bool b) ∧ (b = true ↔ s.toList.isEmpty = true ∧ nf = 0 ∧ someP ls.length ∧ risesP (ls.map id)) ∧ Below w.heap.size w w' := by
  obtain ⟨al, cl, rfl, hcl⟩ := list_slice hL
  have hb0 := Lib.hid ((Below.refl w.heap.size w).alloc (Nat.le_refl _) (.cells #[.int .i64 4, .string s, .slice af nf cf, .slice al ls.length cl, .int .i64 exp] 26))
  by_cases h1 : s.toList.isEmpty = true
  · by_cases h2 : (nf : Int) = 0
    · obtain rfl : nf = 0 := by omega
      by_cases h3 : someP ls.length
      · have sy := some_yes ls.length h3
        obtain ⟨x0, hx0⟩ : ∃ x0, ls[0]? = some x0 := ⟨_, List.getElem?_eq_getElem (show 0 < ls.length by have := h3.1; omega)⟩
        obtain ⟨ad, rfl, c0⟩ := hcl 0 x0 hx0
        have hblk : ad.block < w.heap.size := by have := World.block_lt_of_cell? w _ c0; rwa [add_block] at this
        have hb1 : Below w.heap.size w ((w.alloc (.cells #[.int .i64 4, .string s, .slice af 0 cf, .slice (some ad) ls.length cl, .int .i64 exp] 26)).alloc (.cells #[.slice (some ad) ls.length cl] 24)) := ((Below.refl w.heap.size w).alloc (Nat.le_refl _) _).alloc (by simp) _
        have hz1 : ((w.alloc (.cells #[.int .i64 4, .string s, .slice af 0 cf, .slice (some ad) ls.length cl, .int .i64 exp] 26)).alloc (.cells #[.slice (some ad) ls.length cl] 24)).heap.size = w.heap.size + 2 := by simp
        have hcB : ((w.alloc (.cells #[.int .i64 4, .string s, .slice af 0 cf, .slice (some ad) ls.length cl, .int .i64 exp] 26)).alloc (.cells #[.slice (some ad) ls.length cl] 24)).cell? ⟨w.heap.size + 1, 0, none⟩ = some (.slice (some ad) ls.length cl) := by
          have := (Boxed.new (w.alloc (.cells #[.int .i64 4, .string s, .slice af 0 cf, .slice (some ad) ls.length cl, .int .i64 exp] 26)) 24 (.slice (some ad) ls.length cl)).cell
          rwa [World.size_alloc] at this
        have rs := rising_any id ls 39 (w.heap.size + 1) _ (enters_of Try.func39 (by kernel_rfl) rfl)
          (fun T hT => values_stops (fun x : ByteArray => Value.string x) Fence.wide 5 trivial rfl (by omega) (w.heap.size + 1) _ T (.slice (some ad) ls.length cl) ls (by omega) _ (by omega) hcB (hL.below hb1) (fun k e h => by cases e; have := (hT _ h).1; omega))
        have Hrs := Lib.hid rs
        have Hb1 := Lib.hid hb1
        clear rs hb1 hz1 hcB hcl c0 hL hx0 hb0
        go_enter Try.func21, Try.ntmps21
        go_wp2_with (go_at_call 32; refine (sy _).mono ?_; rintro e w' ⟨rfl, rfl⟩)
        refine (values_any _ _ _ _).mono ?_
        rintro e w1 ⟨rfl, rfl⟩
        go_wp2_with fail
        refine Hrs.out.mono ?_
        rintro e w2 ⟨b, rfl, hb, hbel⟩
        have HB := Lib.hid hb
        have HE := Lib.hid (Hb1.out.trans (hbel.mono Hb1.out.size))
        clear hb hbel Hrs Hb1
        go_wp2
        go_ret
        exact ⟨b, rfl, ⟨fun h => ⟨h1, by trivial, h3, HB.out.1 h⟩, fun h => HB.out.2 h.2.2.2⟩, HE.out⟩
      · have sy := some_no ls.length h3
        go_enter Try.func21, Try.ntmps21
        go_wp2_with (go_at_call 32; refine (sy _).mono ?_; rintro e w' ⟨rfl, rfl⟩)
        go_ret
        exact ⟨false, rfl, ⟨fun h => (by cases h), fun h => absurd h.2.2.1 h3⟩, hb0.out⟩
    · go_enter Try.func21, Try.ntmps21
      go_wp2
      go_ret
      exact ⟨false, rfl, ⟨fun h => (by cases h), fun h => absurd h.2.1 (by omega)⟩, hb0.out⟩
  · have h1' : s.toList.isEmpty = false := by simpa using h1
    clear h1
    go_enter Try.func21, Try.ntmps21
    go_wp2
    go_ret
    exact ⟨false, rfl, ⟨fun h => (by cases h), fun h => (by rw [h1'] at h; cases h.1)⟩, hb0.out⟩

set_option maxRecDepth 100000 in
set_option maxHeartbeats 2000000 in
theorem shaped_else (w : World) (kind : Int) (s : ByteArray) (af al : Option Addr) (nf nl cf cl : Nat) (exp : Int) (k1 : ¬ kind = 1) (k2 : ¬ kind = 2) (k3 : ¬ kind = 3) (k4 : ¬ kind = 4) :
    Calls Try.prog 21 #[.agg #[.int .i64 kind, .string s, .slice af nf cf, .slice al nl cl, .int .i64 exp]] w fun e w' => e = .returned (.bool false) ∧ Below w.heap.size w w' := by
  have hb0 := Lib.hid ((Below.refl w.heap.size w).alloc (Nat.le_refl _) (.cells #[.int .i64 kind, .string s, .slice af nf cf, .slice al nl cl, .int .i64 exp] 26))
  go_enter Try.func21, Try.ntmps21
  go_wp2
  go_ret
  exact ⟨rfl, hb0.out⟩

end Go.Proofs.Ytbmimcpllpgcaaa
