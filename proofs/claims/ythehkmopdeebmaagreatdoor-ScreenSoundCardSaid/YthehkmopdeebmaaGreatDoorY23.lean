/- What holds of a screen's grids,whatever is done,plain: CSI. -/
import Derived.Test.YthehkmopdeebmaaGreatDoorY17
import Derived.Test.YthehkmopdeebmaaGreatDoorY19
set_option linter.unusedVariables false
set_option linter.unusedSimpArgs false
namespace Go.Proofs.YthehkmopdeebmaaGreatDoor
open Go.RowKit
section
variable {P:Gr→Prop} {s:Scr}
theorem zfA {f:Scr→Scr} (hf:∀ t:Scr,t.Has P→(f t).Has P):∀ (n:Nat) (t:Scr),t.Has P→(itF f n t).Has P
 | 0,_,h=>h
 | n+1,t,h=>zfA hf n (f t) (hf t h)
theorem zeQ {f:Scr→Nat→Scr} (hf:∀ (t:Scr) i,t.Has P→(f t i).Has P):∀ (l:List Nat) (t:Scr),t.Has P→(l.foldl f t).Has P
 | [],_,h=>h
 | i::l,t,h=>zeQ hf l (f t i) (hf t i h)
theorem Scr.Has.move (h:s.Has P) (k n:Int):∀ t,s.move k n=some t→t.Has P:=by
 intro t ht;unfold Scr.move at ht
 repeat' split at ht
 all_goals first
  | (cases ht;exact h)
  | (injection ht with ht;subst ht;exact zfA (f:=Scr.tab) (fun _ hu=>hu) _ _ h)
  | (injection ht with ht;subst ht;exact zfA (f:=Scr.back) (fun _ hu=>hu) _ _ h)
  | cases ht
variable (C:Clo P)
include C
theorem Scr.Has.edit (h:s.Has P) (k n:Int):∀ t,s.edit k n=some t→t.Has P:=by
 intro t ht;unfold Scr.edit at ht;split at ht
 ·cases ht;exact h.turn _ fun g hg=>C.ins hg _ _ _ _
 split at ht
 ·cases ht;exact h.turn _ fun g hg=>C.del hg _ _ _ _
 split at ht
 ·cases ht;exact h.turn _ fun g hg=>C.erase hg _ _ _ _
 split at ht
 ·cases ht;split
  ·have A:((s.toX 0).calm).Has P:=h;exact A.turn _ fun g hg=>C.down hg _ _ _ _
  ·exact h
 split at ht
 ·cases ht;split
  ·have A:((s.toX 0).calm).Has P:=h;exact A.turn _ fun g hg=>C.up hg _ _ _ _ _
  ·exact h
 split at ht
 ·cases ht;exact h.turn _ fun g hg=>C.up hg _ _ _ _ _
 split at ht
 ·cases ht;exact h.turn _ fun g hg=>C.down hg _ _ _ _
 split at ht
 ·cases ht;refine zfA (fun u hu=>?_) _ _ h;split
  ·exact hu.print C _
  ·exact hu
 ·cases ht
theorem zfU {g:Gr} (h:P g) (m:Int) (b:Sty) (y:Int):∀ n,P (zcw m b y n g)
 | 0=>h
 | n+1=>C.wrap (C.erase (zfU h m b y n) _ _ _ _) _ _
theorem Scr.Has.clean (h:s.Has P) (y z:Int):(s.clean y z).Has P:=h.turn _ fun _ hg=>zfU C hg _ _ _ _
theorem Scr.Has.inRow (h:s.Has P) (k:Int):(s.inRow k).Has P:=by
 have A:s.calm.Has P:=h;unfold Scr.inRow;split
 ·exact A.turn _ fun g hg=>C.wrap (C.erase hg _ _ _ _) _ _
 split
 ·exact A.turn _ fun g hg=>C.erase hg _ _ _ _
 split
 ·exact A.clean C _ _
 ·exact A
theorem Scr.Has.inAll (h:s.Has P) (k:Int):(s.inAll k).Has P:=by
 have A:s.calm.Has P:=h;unfold Scr.inAll;split
 ·exact(h.inRow C 0).clean C _ _
 split
 ·exact(h.inRow C 1).clean C _ _
 split
 ·exact A.clean C _ _
 split
 ·exact⟨C.clear h.1,h.2⟩
 ·exact A
omit C in
theorem Scr.Has.report (h:s.Has P) (k:Int):(s.report k).Has P:=by
 unfold Scr.report
 repeat' split
 all_goals exact h
omit C in
theorem Scr.Has.region (h:s.Has P) (ps:List Int):(s.region ps).Has P:=by
 unfold Scr.region;dsimp only
 repeat' split
 all_goals exact h
omit C in
theorem Scr.Has.setMode1 (h:s.Has P) (k:Int) (on:Bool):(s.setMode1 k on).Has P:=by
 unfold Scr.setMode1
 repeat' split
 all_goals exact h
theorem Scr.Has.others (h:s.Has P) (k:Int) (ps:List Int):(s.others k ps).Has P:=by
 unfold Scr.others;dsimp only;split
 ·exact h
 split
 ·exact h.inAll C _
 split
 ·exact h.inRow C _
 split
 ·split
  ·exact h
  ·exact h
 split
 ·exact h.report _
 split
 ·split
  ·exact h
  ·split
   ·exact h
   ·exact h
 split
 ·exact zeQ (fun t i ht=>ht.setMode1 _ _) _ _ h
 split
 ·exact h
 split
 ·exact h.region _
 split
 ·exact h.keep _
 ·exact h
theorem Scr.Has.private (h:s.Has P) (k:Int) (on:Bool):(s.private k on).Has P:=by
 unfold Scr.private;dsimp only;split
 ·exact h
 split
 ·exact h
 split
 ·exact h
 split
 ·exact h
 split
 ·exact h.swap C _
 split
 ·exact h.keep _
 split
 ·split
  ·exact h.save.swap C _
  ·exact h.swap C _
 split
 ·exact h
 split
 ·exact h
 ·exact h
omit C in
theorem Scr.Has.soft (h:s.Has P):s.soft.Has P:=by
 unfold Scr.soft;dsimp only;refine Scr.Has.setSlot (P:=P) ?_ _;exact h
theorem Scr.Has.csi (h:s.Has P) (b:UInt8) (ps:List Int) (i:List UInt8):(s.csi b ps i).Has P:=by
 unfold Scr.csi;dsimp only;split
 ·cases hm:s.move (b.toNat:Int) (max 1 (par ps 0 1)) with
  | some t=>exact h.move _ _ t hm
  | none =>
   cases he:s.edit (b.toNat:Int) (max 1 (par ps 0 1)) with
   | some t=>exact h.edit C _ _ t he
   | none=>exact h.others C _ _
 split
 ·split
  ·exact zeQ (fun t i ht=>ht.private C _ _) _ _ h
  ·exact h
 split
 ·split
  ·exact h.soft
  ·exact h
 split
 ·split
  ·exact h
  ·exact h
 ·exact h
omit C in
theorem Scr.Has.named (h:s.Has P) (t:List UInt8):(s.named t).Has P:=by
 unfold Scr.named;split
 ·exact h
 ·exact h
end
end Go.Proofs.YthehkmopdeebmaaGreatDoor
