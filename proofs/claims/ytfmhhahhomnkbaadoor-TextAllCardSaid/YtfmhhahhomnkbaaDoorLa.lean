/- From what a row lists as laid to the facts on strconv's variables, and a world that meets it. No conditions. -/
import Derived.Test.YtfmhhahhomnkbaaDoorRows
import Derived.Test.YtfmhhahhomnkbaaDoorWd
import Derived.Stop.LaidErr
import Derived.Lib.LaidTab
import Derived.LaidLaws
import Derived.Deep.DeepLaidRun
import Derived.ChangeSame
import Derived.ChangeVars
import Derived.JoinedOf
import Derived.RowKit
import Derived.RowKit3
import Derived.RowKitTokens
namespace Go.Proofs.YtfmhhahhomnkbaaDoor
open Go.RowKit

def lst : List (String × DataW Unit) := [("math/bits.deBruijn32tab", Rows.laid_math_bits_deBruijn32tab), ("math/bits.deBruijn64tab", Rows.laid_math_bits_deBruijn64tab), ("internal/strconv.uint64pow10", Rows.laid_internal_strconv_uint64pow10), ("strconv.ErrRange", Rows.laid_strconv_ErrRange), ("strconv.ErrSyntax", Rows.laid_strconv_ErrSyntax)]
theorem gES : Tryd.prog.globalNamed "strconv.ErrSyntax" = some 0 := by kernel_rfl
theorem gEST : (Tryd.prog.globals[0]?).map (·.type) = some 45 := by kernel_rfl
theorem gER : Tryd.prog.globalNamed "strconv.ErrRange" = some 1 := by kernel_rfl
theorem gERT : (Tryd.prog.globals[1]?).map (·.type) = some 45 := by kernel_rfl
theorem gT : Tryd.prog.globalNamed "internal/strconv.uint64pow10" = some 2 := by kernel_rfl
theorem gTT : (Tryd.prog.globals[2]?).map (·.type) = some 96 := by kernel_rfl
theorem c93 : Tryd.prog.cellsOf 93 = 1 := by kernel_rfl
theorem c9 : Tryd.prog.cellsOf 9 = 1 := by kernel_rfl
theorem c42 : Tryd.prog.cellsOf 42 = 1 := by kernel_rfl
theorem c96 : Tryd.prog.cellsOf 96 = 20 := by kernel_rfl
theorem star : "*" ++ "errors.errorString" = "*errors.errorString" := by decide
theorem row91 (u : TypeId) (h : Tryd.prog.typeName? 3 u = some "*errors.errorString") : u = 91 :=
  typeName_ptr_named (nm := "errors.errorString") (by rw [star]; kernel_rfl) (by kernel_rfl) (by decide) u (by rw [star]; exact h)
theorem wd_of_laid {W : World} (h : laidMet Tryd.prog lst W) : Wd W := by
  refine ⟨Lib.tabIs_of_head gT gTT Tryd.underlying96 Tryd.underlying42 c42 c96 h.tail.tail, ?_, ?_⟩
  · obtain ⟨a, s, hv, -, -, -⟩ := laid_sentinel h.tail.tail.tail.tail gES gEST Tryd.underlying45 row91 Tryd.underlying91 Tryd.underlying93 rfl rfl Tryd.underlying9 c93 c9
    exact ⟨_, by have h0 := World.var?_cell gES hv 0; simpa using h0, .inr ⟨_, _, rfl⟩⟩
  · obtain ⟨a, s, hv, -, -, -⟩ := laid_sentinel h.tail.tail.tail gER gERT Tryd.underlying45 row91 Tryd.underlying91 Tryd.underlying93 rfl rfl Tryd.underlying9 c93 c9
    exact ⟨_, by have h0 := World.var?_cell gER hv 0; simpa using h0, .inr ⟨_, _, rfl⟩⟩

/-! A world that meets it. -/
abbrev synS : ByteArray := { data := #[105, 110, 118, 97, 108, 105, 100, 32, 115, 121, 110, 116, 97, 120] }
abbrev rngS : ByteArray := { data := #[118, 97, 108, 117, 101, 32, 111, 117, 116, 32, 111, 102, 32, 114, 97, 110, 103, 101] }
noncomputable def low : Nat := (World.holding Tryd.prog default ⟨#[], #[], []⟩).heap.size
noncomputable def partsOf (k : IntKind) : DataW Unit → Array Value
  | .agg l => (l.map fun | .lit (.int _ z) => Value.int k z | _ => undef).toArray
  | _ => #[]
def setCells (w : World) (g : Nat) (cs : Array Value) : World :=
  { w with heap := w.heap.modify g fun
      | .cells _ t frozen => .cells cs t frozen
      | o => o }
noncomputable def laidWorld (os : Os) : World :=
  let w0 := World.holding Tryd.prog os ⟨#[.cells #[.string synS] 93, .cells #[.string rngS] 93], #[], []⟩
  setCells (setCells (setCells (setCells (setCells w0 0 #[.iface 91 (.pointer (some ⟨low, 0, none⟩))]) 1 #[.iface 91 (.pointer (some ⟨low + 1, 0, none⟩))]) 2 (partsOf .u64 Rows.laid_internal_strconv_uint64pow10)) 4 (partsOf .u8 Rows.laid_math_bits_deBruijn32tab)) 5 (partsOf .u8 Rows.laid_math_bits_deBruijn64tab)
set_option maxRecDepth 100000 in
theorem laidWorld_met (os : Os) (args : Array Value) : laidMet Tryd.prog lst ((laidWorld os).forCall (fun _ _ => 0) ⟨#[], args, []⟩).memory :=
  laidMet_of_run3 8 (by kernel_rfl) (by kernel_rfl) (by kernel_rfl)
end Go.Proofs.YtfmhhahhomnkbaaDoor
