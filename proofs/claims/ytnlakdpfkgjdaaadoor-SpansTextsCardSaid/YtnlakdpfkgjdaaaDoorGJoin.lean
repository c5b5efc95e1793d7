/- The library's strings.Join and strconv.Itoa in the print's words. Conditions: bounds on lengths; a plain address; strconv's variables are as they are laid. -/
import Derived.Test.YtnlakdpfkgjdaaaDoorG0
import Derived.Test.YtnlakdpfkgjdaaaDoorWd
namespace Go.Proofs.YtnlakdpfkgjdaaaDoor.G
open Go.RowKit Go.Cav Go.Proofs.YtnlakdpfkgjdaaaDoorW.PrintWords Go.Proofs.YtnlakdpfkgjdaaaDoorW.PrintLast Go.Proofs.YtnlakdpfkgjdaaaDoorW.PrintMore
/-- texts side by side -/
def joinB (l : List ByteArray) (sep : ByteArray) : ByteArray := ⟨(Lib.join (l.map (·.data.toList)) sep.data.toList).toArray⟩
theorem plain_R {α : Type} {d : Kd α} {e base n c : Nat} {ok : Nat → Prop} {w : World} {A : Option Addr} {xs : List α} (h : d.R e w base ok (.slice A n c) xs) : ∀ ad, A = some ad → ∃ g, ad = ⟨g, 0, none⟩ ∧ g < w.heap.size := by
  obtain ⟨_, inner, ho, _⟩ := h
  rcases ho.2 with ⟨e1, _⟩ | ⟨g, cap, cur, e1, hb, hg, _⟩
  · cases e1; intro ad h; cases h
  · cases e1; intro ad h; cases h; exact ⟨g, rfl, (Array.getElem?_eq_some_iff.1 hg).1⟩
def strings_Join.f (l0 : List ByteArray) (a1 : ByteArray) : Option ByteArray := if l0.length ≤ 1000000000 ∧ (Lib.join (l0.map (·.data.toList)) a1.data.toList).length ≤ 140737488355328 then some (joinB l0 a1) else none
theorem strings_Join.calls (A0 : Option Addr) (c0 : Nat) (l0 : List ByteArray) (a1 : ByteArray) (r : ByteArray) (w : World) (hr0 : Kd.C Kd.string w A0 l0.length l0) (hc0 : l0.length ≤ c0) (h : strings_Join.f l0 a1 = some r) (hP : ∀ ad, A0 = some ad → ∃ g, ad = ⟨g, 0, none⟩ ∧ g < w.heap.size) :
    Calls Tryd.prog 36 #[.slice A0 l0.length c0, .string a1] w fun e w' => e = .returned (.string r) ∧ Below w.heap.size w w' := by
  unfold strings_Join.f at h
  split at h
  case isFalse => cases h
  case isTrue hb =>
    obtain rfl := Option.some.inj h
    rcases Nat.eq_zero_or_pos l0.length with h0 | h0
    · obtain rfl : l0 = [] := List.eq_nil_of_length_eq_zero h0
      refine (Tryd.strings_Join_none A0 c0 a1 w).mono ?_
      rintro e w' ⟨rfl, rfl⟩
      exact ⟨rfl, Below.refl _ _⟩
    · obtain ⟨ad, rfl, hc⟩ := hr0.2.2 h0
      obtain ⟨g, rfl, hg⟩ := hP ad rfl
      refine (Tryd.strings_Join g 0 c0 l0 a1 w (fun j x hj => ?_) hg (by omega) hc0 hb.2).mono fun e w' h => h
      obtain ⟨cs, h1, h2, h3⟩ := hc j x hj
      obtain rfl : cs = [.string x] := h2
      have h4 := h3 0 _ rfl
      have ha : (⟨g, 0, none⟩ : Addr).add (j * (Kd.string).sz + 0) = ⟨g, 0 + j, none⟩ := by
        show (⟨g, 0, none⟩ : Addr).add (j * 1 + 0) = _
        rw [Nat.mul_one, Nat.add_zero]
        unfold Addr.add
        split
        · rename_i h; rw [h]
        · rfl
      rw [ha] at h4
      exact h4
def strconv_Itoa.f (a0 : Int) : Option ByteArray := if -9223372036854775808 ≤ a0 ∧ a0 ≤ 9223372036854775807 then some (itoaB a0) else none
theorem strconv_Itoa.calls (a0 : Int) (r : ByteArray) (w : World) (h : strconv_Itoa.f a0 = some r) (hWd_ : Wd w) :
    Calls Tryd.prog 35 #[.int .i64 a0] w fun e w' => e = .returned (.string r) ∧ Below w.heap.size w w' := by
  unfold strconv_Itoa.f at h
  split at h
  case isFalse => cases h
  case isTrue hb =>
    obtain rfl := Option.some.inj h
    exact itoa_any a0 hb.1 hb.2 w hWd_
end Go.Proofs.YtnlakdpfkgjdaaaDoor.G
