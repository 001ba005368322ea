/- Chapter 6's examples, plain. -/
import Derived.Test.YtlfdgkiliegaiaaGreatDoorY11
import Derived.Test.YtlfdgkiliegaiaaGreatDoorY17
import Derived.Test.YtlfdgkiliegaiaaGreatDoorY8
import Derived.WalkMore
import Derived.ScopeJumps
import Derived.Deep.DeepCutAuto
import Derived.StillTailTactics
import Derived.Deep.RegionLaw
import Derived.Test.YtlfdgkiliegaiaaGreatDoorRows
import Derived.Deep.AppendSrc
import Derived.Lib.AppendStr
import Derived.Lib.FrozenHead
import Derived.ArgAppend
import Derived.Laws.IdiomCopy
import Derived.Laws.IdiomStrings
import Derived.Deep.Upon
import Derived.WalkKit
import Derived.WalkSpells
import Derived.WalkLawsBesides
import Derived.BigQuiet
import Derived.Lib.Hide
import Derived.Deep.QuietTactic
import Derived.Lib.AppendIntMem
import Derived.Lib.ItoaNum
import Derived.Lib.SlBytesConst
import Derived.Test.YtlfdgkiliegaiaaGreatDoorShelf
import Derived.Lib.ItoaLen
import Derived.Laws.Cover4
import Derived.Deep.RegionHeld3
import Derived.Lib.Builder
import Derived.Lib.RuneBytes
import Derived.Lib.UnsafeStr
import Derived.Lib.SliceRun
import Derived.Laws.ResultCell
import Derived.Deep.CutBlock
import Derived.Laws.EntriesVeiled
import Derived.Laws.StructEq
import Derived.Deep.DrawnRows
set_option linter.unusedVariables false
set_option linter.unusedSimpArgs false
namespace Go.Proofs.YtlfdgkiliegaiaaGreatDoor
open Go.RowKit
def zoA : List UInt8 := [97, 98, 99, 100, 101]
def zoB : List UInt8 := [27, 91, 50, 59, 51, 72, 27, 91, 54, 110, 27, 91, 49, 59, 51, 49, 109]
def zda : Trm × List UInt8 := (⟨za4 4 2 10, s0⟩ : Trm).feed zoA
def zlb : Trm × List UInt8 := zda.1.feed zoB
theorem zoU : zda.2 = [] := by kernel_rfl
theorem zej : zda.1.scr.now.x = 1 ∧ zda.1.scr.now.y = 1 ∧ zda.1.scr.now.wait = false ∧ zda.1.scr.modes = 9 ∧ zda.1.scr.has 8 = true := ⟨by kernel_rfl, by kernel_rfl, by kernel_rfl, by kernel_rfl, by kernel_rfl⟩
theorem zoV : zlb.2 = [27, 91, 50, 59, 51, 82] := by kernel_rfl
end Go.Proofs.YtlfdgkiliegaiaaGreatDoor
