/-
  No cell of these rows narrows 'for every input' (looked for: loops, veiled, ifaces, maps, wideKeys, modest, calm, conditions, laid).
  DERIVED. THE GIVEN ROWS OF THIS SEAT. 6 by the template 'for every input the law returns true; each argument reads behind the call as it read before'; 0 by the template 'total and deterministic' (their statements: YthildbehkmhioaaTotals.lean).
  GIVEN WITH THE SEED: the statements are not yours to turn. If you find one false, say at which input.
  Laid BY PROGRAM, IN A SANDBOX (cutbox-rows.mjs): the forced cells as the released guide's own fill.sh prints them over the translation 516c37e1a332ed0c… (all of the seat's roots in one cut). By AI agents, Wed Nov 11 2026. No macro, syntax, notation, axiom, sorry.
-/
import Derived.Test.YthildbehkmhioaaChecked
import GoSem.Claim
import GoSem.ClaimJoined
import GoSem.ClaimMapViews
import Derived.JoinedTies
import Derived.KernelRfl
namespace Go.Proofs.Ythildbehkmhioaa
/- THE CELL 'sum', in the pinned program and in every row, IS THE sha256 OF THE DUMP (.gsa) THAT YthildbehkmhioaaProg.lean LOADS. Nothing in Lean hashes anything: it is a label: what it is worth is what the hold of that sum in a sandbox is worth. -/
noncomputable def Try.pinned : Pinned := { name := "ythildbehkmhioaa", sum := "516c37e1a332ed0ce824a5550c57c43d24a0906493efb58f1f3fee0d5bbedea8", checked := Try.checked }
namespace Rows
def none {H : Type} : Left H := { results := [], args := [] }

/-- 'mullionlaw1.CellWidths': WHATEVER THE INPUT: true; the input reads as it did. -/
def cellWidthsSpec : ChangeSpec := { name := "cellWidths", fn := fun _ => fun
  | [d] => { results := [.lit (.bool true)], args := [d] }
  | _ => none }
def cellWidthsRow : OpenClaim := { program := "ythildbehkmhioaa", sum := "516c37e1a332ed0ce824a5550c57c43d24a0906493efb58f1f3fee0d5bbedea8", func := "mullion/mullionlaw1.CellWidths", spec := "cellWidths", inPlace := ["internal/abi.NoEscape", "internal/bytealg.MakeNoZero"], apart := false }
def CellWidthsSaid : Prop := cellWidthsRow.holds Try.pinned (OpenSpec.ofChange cellWidthsSpec)

/-- ITS FALSE NEIGHBOUR: 'it returns false'. Refute it at one input. -/
def cellWidthsWrong : ChangeSpec := { name := "cellWidths", fn := fun _ => fun
  | [d] => { results := [.lit (.bool false)], args := [d] }
  | _ => none }
def CellWidthsWrongFalsely : Prop := cellWidthsRow.holds Try.pinned (OpenSpec.ofChange cellWidthsWrong)

/-- 'mullionlaw1.CellJoins': WHATEVER THE INPUT: true; the input reads as it did. -/
def cellJoinsSpec : ChangeSpec := { name := "cellJoins", fn := fun _ => fun
  | [d1, d2] => { results := [.lit (.bool true)], args := [d1, d2] }
  | _ => none }
def cellJoinsRow : OpenClaim := { program := "ythildbehkmhioaa", sum := "516c37e1a332ed0ce824a5550c57c43d24a0906493efb58f1f3fee0d5bbedea8", func := "mullion/mullionlaw1.CellJoins", spec := "cellJoins", inPlace := ["internal/abi.NoEscape", "internal/bytealg.MakeNoZero"], apart := false }
def CellJoinsSaid : Prop := cellJoinsRow.holds Try.pinned (OpenSpec.ofChange cellJoinsSpec)

/-- ITS FALSE NEIGHBOUR: 'it returns false'. Refute it at one input. -/
def cellJoinsWrong : ChangeSpec := { name := "cellJoins", fn := fun _ => fun
  | [d1, d2] => { results := [.lit (.bool false)], args := [d1, d2] }
  | _ => none }
def CellJoinsWrongFalsely : Prop := cellJoinsRow.holds Try.pinned (OpenSpec.ofChange cellJoinsWrong)

/-- 'mullionlaw1.CellDecodes': WHATEVER THE INPUT: true; the input reads as it did. -/
def cellDecodesSpec : ChangeSpec := { name := "cellDecodes", fn := fun _ => fun
  | [d1, d2] => { results := [.lit (.bool true)], args := [d1, d2] }
  | _ => none }
def cellDecodesRow : OpenClaim := { program := "ythildbehkmhioaa", sum := "516c37e1a332ed0ce824a5550c57c43d24a0906493efb58f1f3fee0d5bbedea8", func := "mullion/mullionlaw1.CellDecodes", spec := "cellDecodes", inPlace := ["internal/abi.NoEscape", "internal/bytealg.MakeNoZero"], apart := false }
def CellDecodesSaid : Prop := cellDecodesRow.holds Try.pinned (OpenSpec.ofChange cellDecodesSpec)

/-- ITS FALSE NEIGHBOUR: 'it returns false'. Refute it at one input. -/
def cellDecodesWrong : ChangeSpec := { name := "cellDecodes", fn := fun _ => fun
  | [d1, d2] => { results := [.lit (.bool false)], args := [d1, d2] }
  | _ => none }
def CellDecodesWrongFalsely : Prop := cellDecodesRow.holds Try.pinned (OpenSpec.ofChange cellDecodesWrong)

/-- 'mullionlaw1.CellBack': WHATEVER THE INPUT: true; the input reads as it did. -/
def cellBackSpec : ChangeSpec := { name := "cellBack", fn := fun _ => fun
  | [d] => { results := [.lit (.bool true)], args := [d] }
  | _ => none }
def cellBackRow : OpenClaim := { program := "ythildbehkmhioaa", sum := "516c37e1a332ed0ce824a5550c57c43d24a0906493efb58f1f3fee0d5bbedea8", func := "mullion/mullionlaw1.CellBack", spec := "cellBack", inPlace := ["internal/abi.NoEscape", "internal/bytealg.MakeNoZero"], apart := false }
def CellBackSaid : Prop := cellBackRow.holds Try.pinned (OpenSpec.ofChange cellBackSpec)

/-- ITS FALSE NEIGHBOUR: 'it returns false'. Refute it at one input. -/
def cellBackWrong : ChangeSpec := { name := "cellBack", fn := fun _ => fun
  | [d] => { results := [.lit (.bool false)], args := [d] }
  | _ => none }
def CellBackWrongFalsely : Prop := cellBackRow.holds Try.pinned (OpenSpec.ofChange cellBackWrong)

/-- 'mullionlaw1.CellTexts': WHATEVER THE INPUT: true; the input reads as it did. -/
def cellTextsSpec : ChangeSpec := { name := "cellTexts", fn := fun _ => fun
  | [d1, d2] => { results := [.lit (.bool true)], args := [d1, d2] }
  | _ => none }
def cellTextsRow : OpenClaim := { program := "ythildbehkmhioaa", sum := "516c37e1a332ed0ce824a5550c57c43d24a0906493efb58f1f3fee0d5bbedea8", func := "mullion/mullionlaw1.CellTexts", spec := "cellTexts", inPlace := ["internal/abi.NoEscape", "internal/bytealg.MakeNoZero"], apart := false }
def CellTextsSaid : Prop := cellTextsRow.holds Try.pinned (OpenSpec.ofChange cellTextsSpec)

/-- ITS FALSE NEIGHBOUR: 'it returns false'. Refute it at one input. -/
def cellTextsWrong : ChangeSpec := { name := "cellTexts", fn := fun _ => fun
  | [d1, d2] => { results := [.lit (.bool false)], args := [d1, d2] }
  | _ => none }
def CellTextsWrongFalsely : Prop := cellTextsRow.holds Try.pinned (OpenSpec.ofChange cellTextsWrong)

/-- 'mullionlaw1.CellCuts': WHATEVER THE INPUT: true; the input reads as it did. -/
def cellCutsSpec : ChangeSpec := { name := "cellCuts", fn := fun _ => fun
  | [d1, d2] => { results := [.lit (.bool true)], args := [d1, d2] }
  | _ => none }
def cellCutsRow : OpenClaim := { program := "ythildbehkmhioaa", sum := "516c37e1a332ed0ce824a5550c57c43d24a0906493efb58f1f3fee0d5bbedea8", func := "mullion/mullionlaw1.CellCuts", spec := "cellCuts", inPlace := ["internal/abi.NoEscape", "internal/bytealg.MakeNoZero"], apart := false }
def CellCutsSaid : Prop := cellCutsRow.holds Try.pinned (OpenSpec.ofChange cellCutsSpec)

/-- ITS FALSE NEIGHBOUR: 'it returns false'. Refute it at one input. -/
def cellCutsWrong : ChangeSpec := { name := "cellCuts", fn := fun _ => fun
  | [d1, d2] => { results := [.lit (.bool false)], args := [d1, d2] }
  | _ => none }
def CellCutsWrongFalsely : Prop := cellCutsRow.holds Try.pinned (OpenSpec.ofChange cellCutsWrong)

/- THE SECOND FORM. 'bulk': how many values and letters a reading holds, each counted each time it is reached (what is shared counts as often as it is met; a slice's spare places count too). A statement '..UptoSaid' is the law's where the arguments, and the package variables that the reading takes, are together of bulk at most 1048576: NARROWER than '..Said'. Prove '..Said' where nothing that the law and all that it calls make is longer than what came in: it says more and counts as full. Else prove '..UptoSaid'. A law counts once. -/
mutual
def uptoBulk {H : Type} : DataW H → Nat
  | .lit (.string bytes) => bytes.length + 1
  | .lit _ => 1
  | .nil => 1
  | .ptr d => uptoBulk d + 1
  | .slice elems spare => uptoBulkAll elems + uptoBulkAll spare + 1
  | .agg parts => uptoBulkAll parts + 1
  | .iface _ d => uptoBulk d + 1
  | .map entries => uptoBulkEntries entries + 1
  | .held _ => 1
def uptoBulkAll {H : Type} : List (DataW H) → Nat
  | [] => 0
  | d :: r => uptoBulk d + uptoBulkAll r
def uptoBulkEntries {H : Type} : List (Lit × DataW H) → Nat
  | [] => 0
  | x :: r => uptoBulkEntry x + uptoBulkEntries r
def uptoBulkEntry {H : Type} : Lit × DataW H → Nat
  | (.string bytes, d) => bytes.length + uptoBulk d + 1
  | (_, d) => uptoBulk d + 1
 end
def uptoSmall : (H : Type) → List (DataW H) → Bool := fun _ ds => decide (uptoBulkAll ds ≤ 1048576)
def OpenSpec.upto (s : _root_.Go.ChangeSpec) : _root_.Go.OpenSpec := { _root_.Go.OpenSpec.ofChange s with cond := some uptoSmall }

/-- 'mullionlaw1.CellWidths', WHERE WHAT IT READS IS OF BULK AT MOST 1048576: true; the input reads as it did. -/
def cellWidthsUptoRow : OpenClaim := { program := "ythildbehkmhioaa", sum := "516c37e1a332ed0ce824a5550c57c43d24a0906493efb58f1f3fee0d5bbedea8", func := "mullion/mullionlaw1.CellWidths", spec := "cellWidths", inPlace := ["internal/abi.NoEscape", "internal/bytealg.MakeNoZero"], apart := false, narrowed := true }
def CellWidthsUptoSaid : Prop := cellWidthsUptoRow.holds Try.pinned (OpenSpec.upto cellWidthsSpec)

/-- 'mullionlaw1.CellJoins', WHERE WHAT IT READS IS OF BULK AT MOST 1048576: true; the input reads as it did. -/
def cellJoinsUptoRow : OpenClaim := { program := "ythildbehkmhioaa", sum := "516c37e1a332ed0ce824a5550c57c43d24a0906493efb58f1f3fee0d5bbedea8", func := "mullion/mullionlaw1.CellJoins", spec := "cellJoins", inPlace := ["internal/abi.NoEscape", "internal/bytealg.MakeNoZero"], apart := false, narrowed := true }
def CellJoinsUptoSaid : Prop := cellJoinsUptoRow.holds Try.pinned (OpenSpec.upto cellJoinsSpec)

/-- 'mullionlaw1.CellDecodes', WHERE WHAT IT READS IS OF BULK AT MOST 1048576: true; the input reads as it did. -/
def cellDecodesUptoRow : OpenClaim := { program := "ythildbehkmhioaa", sum := "516c37e1a332ed0ce824a5550c57c43d24a0906493efb58f1f3fee0d5bbedea8", func := "mullion/mullionlaw1.CellDecodes", spec := "cellDecodes", inPlace := ["internal/abi.NoEscape", "internal/bytealg.MakeNoZero"], apart := false, narrowed := true }
def CellDecodesUptoSaid : Prop := cellDecodesUptoRow.holds Try.pinned (OpenSpec.upto cellDecodesSpec)

/-- 'mullionlaw1.CellBack', WHERE WHAT IT READS IS OF BULK AT MOST 1048576: true; the input reads as it did. -/
def cellBackUptoRow : OpenClaim := { program := "ythildbehkmhioaa", sum := "516c37e1a332ed0ce824a5550c57c43d24a0906493efb58f1f3fee0d5bbedea8", func := "mullion/mullionlaw1.CellBack", spec := "cellBack", inPlace := ["internal/abi.NoEscape", "internal/bytealg.MakeNoZero"], apart := false, narrowed := true }
def CellBackUptoSaid : Prop := cellBackUptoRow.holds Try.pinned (OpenSpec.upto cellBackSpec)

/-- 'mullionlaw1.CellTexts', WHERE WHAT IT READS IS OF BULK AT MOST 1048576: true; the input reads as it did. -/
def cellTextsUptoRow : OpenClaim := { program := "ythildbehkmhioaa", sum := "516c37e1a332ed0ce824a5550c57c43d24a0906493efb58f1f3fee0d5bbedea8", func := "mullion/mullionlaw1.CellTexts", spec := "cellTexts", inPlace := ["internal/abi.NoEscape", "internal/bytealg.MakeNoZero"], apart := false, narrowed := true }
def CellTextsUptoSaid : Prop := cellTextsUptoRow.holds Try.pinned (OpenSpec.upto cellTextsSpec)

/-- 'mullionlaw1.CellCuts', WHERE WHAT IT READS IS OF BULK AT MOST 1048576: true; the input reads as it did. -/
def cellCutsUptoRow : OpenClaim := { program := "ythildbehkmhioaa", sum := "516c37e1a332ed0ce824a5550c57c43d24a0906493efb58f1f3fee0d5bbedea8", func := "mullion/mullionlaw1.CellCuts", spec := "cellCuts", inPlace := ["internal/abi.NoEscape", "internal/bytealg.MakeNoZero"], apart := false, narrowed := true }
def CellCutsUptoSaid : Prop := cellCutsUptoRow.holds Try.pinned (OpenSpec.upto cellCutsSpec)

end Rows
end Go.Proofs.Ythildbehkmhioaa
