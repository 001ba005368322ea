/- A world for the witness of package grid's laws: the settled one, with what the row lists. -/
import Derived.Test.YtjclgoiclbkgjaaDoorCards
import Derived.Test.YtjclgoiclbkgjaaDoorTie
import Derived.WalkKit
import Derived.ProofKit
import Derived.OpenShut
import Derived.Deep.DeepHandedRow
import Derived.JoinedCond
namespace Go.Proofs.YtjclgoiclbkgjaaDoor
open Go.ChangeShapes Go.WideShapes Go.ChangeAt Go.RowKit

set_option linter.unusedVariables false
def litValG : DataW Unit → Value
  | .lit (.int k z) => .int k z
  | _ => undef
def datCellsG : DataW Unit → Array Value
  | .agg l => (l.map litValG).toArray
  | _ => #[]
def rowCellsG : DataW Unit → List Value
  | .agg l => l.map litValG
  | _ => []
/-- The ranges of a table that is listed. -/
def tabCellsG : DataW Unit → Array Value
  | .ptr (.agg (.slice l _ :: _)) => (l.flatMap rowCellsG).toArray
  | _ => #[]
def laidInG (heap : Array Obj) (g : Nat) (d : DataW Unit) : Array Obj := heap.modify g fun
  | .cells _ t frozen => .cells (datCellsG d) t frozen
  | o => o
def laidPtrG (heap : Array Obj) (g : Nat) (d : DataW Unit) : Array Obj :=
  ((heap.modify g fun
    | .cells _ t frozen => .cells #[.pointer (some ⟨heap.size, 0, none⟩)] t frozen
    | o => o).push (.cells #[.slice (some ⟨heap.size + 1, 0, none⟩) ((tabCellsG d).size / 3) ((tabCellsG d).size / 3), .slice none 0 0, .int .i64 2] 132 (0, 0))).push (.cells (tabCellsG d) 135 (0, 0))
noncomputable def laidWorldG (os : Os) (args : Array Value) : World :=
  { World.holding Tryd.prog os ⟨#[], args, []⟩ with heap := laidPtrG (laidInG (laidInG (laidInG (laidInG (World.holding Tryd.prog os ⟨#[], args, []⟩).heap 2 Rows.laid_internal_strconv_uint64pow10) 3 Rows.laid_math_bits_deBruijn32tab) 4 Rows.laid_math_bits_deBruijn64tab) 0 Rows.laid_strings_asciiSpace) 1 Rows.laid_unicode_White_Space }
end Go.Proofs.YtjclgoiclbkgjaaDoor
