/- The law ScreenLooks: the walk. -/
import Derived.Test.YthehkmopdeebmaaGreatDoorY35
set_option linter.unusedVariables false
set_option linter.unusedSimpArgs false
set_option maxRecDepth 100000
namespace Go.Proofs.YthehkmopdeebmaaGreatDoor
open _root_.Go.Proofs.Tryz
open Go.RowKit
attribute [local go_sem ↓] Go.wp_at_zero Go.wp_at_succ
theorem zjP (w:World) (s:ByteArray) (hm:s.size≤10000000) :
  ∃ v w',(convert 9 32 (.string s)).run prog w=.ok v w'∧Below w.heap.size w w'∧∀ B C p t pt,SR B C p w t pt→zbU C w' 1 v s.data.toList.length (zu s.data.toList) 0:=by
 obtain⟨v,w',D,A,E⟩:=ziZ (P:=prog) w 9 32 5 s underlying9 underlying32 underlying5 (by unfold maxLen;omega);exact⟨v,w',D,zkX E,fun B C p t pt hr=>⟨zP (ziN A rfl) (Nat.zero_le _),fun k hk=>hr.free (zg A k hk).1⟩⟩
end Go.Proofs.YthehkmopdeebmaaGreatDoor
