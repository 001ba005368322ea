/- What the rows' list of variables gives: the table of the powers of ten. -/
import Derived.Test.YtkdicejlfagaeaaDoorCards
import Derived.Test.YtkdicejlfagaeaaDoorTie
import Derived.Test.YtkdicejlfagaeaaDoorShelf
import Derived.Test.YtkdicejlfagaeaaDoorRd
import Derived.WalkKit
import Derived.ProofKit
import Derived.OpenShut
import Derived.Deep.DeepHandedRow
import Derived.Lib.LaidTab
namespace Go.Proofs.YtkdicejlfagaeaaDoor
open Go.ChangeShapes Go.WideShapes Go.ChangeAt Go.RowKit

theorem gTab : Tryd.prog.globalNamed "internal/strconv.uint64pow10" = some 0 := by kernel_rfl
theorem gTabType : (Tryd.prog.globals[0]?).map (·.type) = some 78 := by kernel_rfl
theorem cellsTab : Tryd.prog.cellsOf 78 = 20 := by kernel_rfl
theorem cellsU64 : Tryd.prog.cellsOf 70 = 1 := by kernel_rfl
theorem tabData_eq : (Rows.laid_internal_strconv_uint64pow10 : DataW Unit) = Lib.tabData .u64 Lib.pow10Tab := by kernel_rfl
theorem tab_of {W : World} (h : laidMetH Tryd.prog [("math/bits.deBruijn32tab", Rows.laid_math_bits_deBruijn32tab), ("math/bits.deBruijn64tab", Rows.laid_math_bits_deBruijn64tab), ("internal/strconv.uint64pow10", Rows.laid_internal_strconv_uint64pow10)] W) : Tab Tryd.prog W := by
  have h' : laidMet Tryd.prog [("math/bits.deBruijn32tab", Rows.laid_math_bits_deBruijn32tab), ("math/bits.deBruijn64tab", Rows.laid_math_bits_deBruijn64tab), ("internal/strconv.uint64pow10", Rows.laid_internal_strconv_uint64pow10)] W := h
  obtain ⟨ps, ⟨_, _, _, _, _, _, _, _, _, _, ⟨_, _, _, _, _, _, _, _, _, _, ⟨g', t', cs, fuel, p, q, hg', ht', hvar, hd, _, _⟩, _⟩, _⟩, _⟩ := h'
  obtain rfl := Option.some.inj (gTab.symm.trans hg')
  obtain rfl := Option.some.inj (gTabType.symm.trans ht')
  rw [tabData_eq] at hd
  refine Lib.tabBelow_of_tabIs ?_
  unfold Lib.TabIs
  rw [hvar, ← Lib.cells_of_tab Tryd.underlying78 Tryd.underlying70 cellsU64 cellsTab hd]

set_option linter.unusedVariables false
def litVal : DataW Unit → Value
  | .lit (.int k z) => .int k z
  | _ => undef
def datCells : DataW Unit → Array Value
  | .agg l => (l.map litVal).toArray
  | _ => #[]
def laidIn (heap : Array Obj) (g : Nat) (d : DataW Unit) : Array Obj := heap.modify g fun
  | .cells _ t frozen => .cells (datCells d) t frozen
  | o => o
/-- A world for the witness: the settled one, with the tables. -/
noncomputable def laidWorld (os : Os) (args : Array Value) : World :=
  { World.holding Tryd.prog os ⟨#[], args, []⟩ with heap := laidIn (laidIn (laidIn (World.holding Tryd.prog os ⟨#[], args, []⟩).heap 0 Rows.laid_internal_strconv_uint64pow10) 1 Rows.laid_math_bits_deBruijn32tab) 2 Rows.laid_math_bits_deBruijn64tab }
end Go.Proofs.YtkdicejlfagaeaaDoor
