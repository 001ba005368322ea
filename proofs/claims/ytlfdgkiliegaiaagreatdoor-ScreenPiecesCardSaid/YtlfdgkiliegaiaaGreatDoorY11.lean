/- Texts laid together: Z1 Z3 W10 W12 Z2. -/
import Derived.Test.YtlfdgkiliegaiaaGreatDoorY1
import Derived.Test.YtlfdgkiliegaiaaGreatDoorY2
import Derived.Test.YtlfdgkiliegaiaaGreatDoorY3
import Derived.Test.YtlfdgkiliegaiaaGreatDoorY4
import Derived.Test.YtlfdgkiliegaiaaGreatDoorY5
import Derived.Test.YtlfdgkiliegaiaaGreatDoorY6
import Derived.Test.YtlfdgkiliegaiaaGreatDoorY8
import Derived.Lib.ItoaLen
import Derived.Deep.RegionHeld3
import Derived.Test.YtlfdgkiliegaiaaGreatDoorShelf
import Derived.Lib.Builder
import Derived.Lib.FrozenHead
import Derived.Lib.RuneBytes
import Derived.Lib.UnsafeStr
import Derived.Lib.SliceRun
import Derived.WalkSpells
import Derived.StillTailTactics
import Derived.Deep.RegionLaw
import Derived.Deep.DeepCutAuto
import Derived.Test.YtlfdgkiliegaiaaGreatDoorRows
import Derived.Deep.AppendSrc
import Derived.Lib.AppendStr
import Derived.ArgAppend
import Derived.Laws.IdiomCopy
import Derived.Laws.IdiomStrings
import Derived.Deep.Upon
import Derived.WalkKit
import Derived.WalkLawsBesides
import Derived.BigQuiet
import Derived.Lib.Hide
import Derived.Deep.QuietTactic
import Derived.Lib.AppendIntMem
import Derived.Lib.ItoaNum
import Derived.Laws.ResultCell
import Derived.Deep.CutBlock
import Derived.Laws.EntriesVeiled
import Derived.Laws.StructEq
import Derived.Deep.DrawnRows
import Derived.Laws.Cover4
import Derived.WalkMore
import Derived.ScopeJumps
import Derived.Lib.SlBytesConst
set_option linter.unusedVariables false
namespace Go.Proofs.YtlfdgkiliegaiaaGreatDoor
section
open Go.RowKit
def zee (x y : Int) : Int := IntKind.i64.wrap ((BitVec.ofInt 64 x &&& BitVec.ofInt 64 y).toNat : Int)
def bOr (x y : Int) : Int := IntKind.i64.wrap ((BitVec.ofInt 64 x ||| BitVec.ofInt 64 y).toNat : Int)
def Zm (x y : Int) : Int := IntKind.i64.wrap ((BitVec.ofInt 64 x &&& ~~~ (BitVec.ofInt 64 y)).toNat : Int)
structure Sav where
 x : Int
 y : Int
 wait : Bool
 pen : Sty
 origin : Bool
 l0 : Bool
 l1 : Bool
 second : Int
def sav0 : Sav := ⟨0, 0, false, plainS, false, false, false, 0⟩
structure Scr where
 now : Sav
 main : Gr
 other : Option Gr
 k0 : Sav
 k1 : Sav
 modes : Int
 top : Int
 bottom : Int
 tabs : List Bool
 title : List UInt8
 last : Int
 bells : Int
 out : List UInt8
def Scr.cols (s : Scr) : Int := s.main.cols
def Scr.rows (s : Scr) : Int := s.main.rows.length
def Scr.shown (s : Scr) : Gr := s.other.getD s.main
def Scr.turn (s : Scr) (f : Gr → Gr) : Scr := match s.other with
 | some g => { s with other := some (f g) }
 | none => { s with main := f s.main }
def Scr.has (s : Scr) (m : Int) : Bool := zee s.modes m != 0
def Scr.mode (s : Scr) (m : Int) (on : Bool) : Scr := { s with modes := if on then bOr (Zm s.modes m) m else Zm s.modes m }
def Scr.blank (s : Scr) : Sty := ⟨-1, s.now.pen.bg, 0⟩
def Scr.whole (s : Scr) : Scr := { s with top := 0, bottom := s.rows - 1 }
def zb6 (tabs : List Bool) (cols : Nat) : List Bool := (tabs ++ (List.range' tabs.length (cols - tabs.length)).map fun n => decide (0 < n ∧ n % 8 = 0)).take cols
def Scr.stops (s : Scr) : Scr := { s with tabs := zb6 s.tabs s.main.cols }
def Scr.reset (s : Scr) : Scr :=
 (Scr.whole (Scr.stops ⟨sav0, ZY s.main.cols s.main.rows.length s.main.limit, none, sav0, sav0, 9, 0, 0, [], [], 0, s.bells, s.out⟩))
def za4 (cols rows limit : Nat) : Scr := Scr.reset ⟨sav0, ZY cols rows limit, none, sav0, sav0, 0, 0, 0, [], [], 0, 0, []⟩
def Scr.index (s : Scr) : Scr :=
 if s.now.y = s.bottom then s.turn (fun g => g.up s.top s.bottom 1 s.blank s.other.isNone)
 else if s.now.y < s.rows - 1 then { s with now := { s.now with y := s.now.y + 1 } } else s
def Scr.reverse (s : Scr) : Scr :=
 if s.now.y = s.top then s.turn (fun g => g.down s.top s.bottom 1 s.blank)
 else if 0 < s.now.y then { s with now := { s.now with y := s.now.y - 1 } } else s
def Scr.place (s : Scr) (x y : Int) : Scr := { s with now := { s.now with x := max 0 (min x (s.cols - 1)), y := max 0 (min y (s.rows - 1)), wait := false } }
def Scr.line (s : Scr) (y : Int) : Int := if s.has 4 then max s.top (min (y + s.top) s.bottom) else y
def Scr.calm (s : Scr) : Scr := { s with now := { s.now with wait := false } }
def Scr.toX (s : Scr) (x : Int) : Scr := { s with now := { s.now with x := x } }
def Scr.on (s : Scr) : Scr := ((s.turn (fun g => g.setWrap s.now.y true)).toX 0).index
def zaC : List Int := [9670, 9618, 9225, 9228, 9229, 9226, 176, 177, 9252, 9227, 9496, 9488, 9484, 9492, 9532, 9146, 9147, 9472, 9148, 9149, 9500, 9508, 9524, 9516, 9474, 8804, 8805, 960, 8800, 163, 183]
def Scr.drawn (s : Scr) (r : Int) : Int := if (if s.now.second = 0 then s.now.l0 else s.now.l1) = true ∧ 96 ≤ r ∧ r ≤ 126 then zaC.getD (r - 96).toNat 0 else r
def Scr.fit (s : Scr) (w : Int) : Scr :=
 let s1 := (if s.now.wait && s.has 1 then s.on else s).calm
 if s1.cols - w < s1.now.x then (if s.has 1 then s1.on else s1.toX (s1.cols - w)) else s1
def Scr.lay (s : Scr) (c w : Int) : Scr :=
 let s1 := if s.has 2 then s.turn (fun g => g.ins s.now.x s.now.y w s.blank) else s
 let s2 := s1.turn (fun g => g.put s1.now.x s1.now.y ⟨c, w, s1.now.pen⟩)
 if s2.cols ≤ s2.now.x + w then { s2 with now := { s2.now with x := s2.cols - 1, wait := s2.has 1 } } else s2.toX (s2.now.x + w)
def Scr.print (s : Scr) (r : Int) : Scr :=
 let w := wid (s.drawn r)
 if w < 1 ∨ s.cols < w then s else { (s.fit w).lay (s.drawn r) w with last := r }
def zdF : Nat → List Bool → Int → Int → Int
 | 0, _, _, x => x
 | n + 1, t, m, x => if x < m ∧ t.getD x.toNat false = false then zdF n t m (x + 1) else x
def zdG : Nat → List Bool → Int → Int
 | 0, _, x => x
 | n + 1, t, x => if 0 < x ∧ t.getD x.toNat false = false then zdG n t (x - 1) else x
def Scr.tab (s : Scr) : Scr := s.place (zdF s.main.cols s.tabs (s.cols - 1) (min (s.now.x + 1) (s.cols - 1))) s.now.y
def Scr.back (s : Scr) : Scr := s.place (zdG s.main.cols s.tabs (s.now.x - 1)) s.now.y
def Scr.control (s : Scr) (b : UInt8) : Scr :=
 let k : Int := b.toNat
 let s := if 8 ≤ k ∧ k ≤ 13 then s.calm else s
 if k = 7 then { s with bells := IntKind.i64.wrap (s.bells + 1) }
 else if k = 8 then s.toX (max 0 (s.now.x - 1))
 else if k = 9 then s.tab
 else if k = 10 ∨ k = 11 ∨ k = 12 then (if s.index.has 512 then s.index.toX 0 else s.index)
 else if k = 13 then s.toX 0
 else if k = 14 ∨ k = 15 then { s with now := { s.now with second := 15 - k } } else s
def Scr.say (s : Scr) (t : List UInt8) : Scr := { s with out := s.out ++ t }
def Scr.slot (s : Scr) : Sav := if s.other.isSome then s.k1 else s.k0
def Scr.setSlot (s : Scr) (v : Sav) : Scr := if s.other.isSome then { s with k1 := v } else { s with k0 := v }
def Scr.save (s : Scr) : Scr := let s1 : Scr := { s with now := { s.now with origin := s.has 4 } }; s1.setSlot s1.now
def Scr.restore (s : Scr) : Scr := ({ s with now := s.slot } : Scr).mode 4 s.slot.origin
def Scr.keep (s : Scr) (on : Bool) : Scr := if on then s.save else s.restore
def Scr.swap (s : Scr) (on : Bool) : Scr :=
 if on = s.other.isSome then s
 else ((({ s with other := if on then some (ZY s.main.cols s.main.rows.length 0) else none } : Scr).mode 256 on).whole).calm
def zjR (g : Gr) : Nat → Nat → Gr
 | _, 0 => g
 | y, x + 1 => (zjR g y x).put x y ⟨69, 1, plainS⟩
def zbY (g : Gr) (cols : Nat) : Nat → Gr
 | 0 => g
 | y + 1 => ((zjR (zbY g cols y) y cols).setWrap y false)
def Scr.fill (s : Scr) : Scr := ((s.whole).place 0 0).turn (fun g => zbY g s.main.cols s.main.rows.length)
def da1 : List UInt8 := [27, 91, 63, 54, 50, 59, 99]
def Scr.bare (s : Scr) (b : UInt8) : Scr :=
 let k : Int := b.toNat
 if k = 55 then s.save
 else if k = 56 then s.restore
 else if k = 69 then (s.toX 0).index.calm
 else if k = 68 then s.index.calm
 else if k = 77 then s.reverse.calm
 else if k = 72 then { s with tabs := s.tabs.set s.now.x.toNat true }
 else if k = 99 then s.reset
 else if k = 61 ∨ k = 62 then s.mode 32 (k == 61)
 else if k = 90 then s.say da1 else s
def Scr.escape (s : Scr) (b : UInt8) (inter : List UInt8) : Scr :=
 let k : Int := b.toNat
 if inter = [40] then (if k = 48 then { s with now := { s.now with l0 := true } } else if k = 65 ∨ k = 66 then { s with now := { s.now with l0 := false } } else s)
 else if inter = [41] then (if k = 48 then { s with now := { s.now with l1 := true } } else if k = 65 ∨ k = 66 then { s with now := { s.now with l1 := false } } else s)
 else if inter = [35] then (if k = 56 then s.fill else s)
 else if inter = [] then s.bare b else s
def par (ps : List Int) (i : Nat) (first : Int) : Int := if i < ps.length ∧ 0 ≤ ps.getD i (-1) then min (ps.getD i (-1)) 9999 else first
def Scr.upY (s : Scr) (n : Int) : Int := if s.top ≤ s.now.y then s.now.y - min n (s.now.y - s.top) else s.now.y - n
def Scr.downY (s : Scr) (n : Int) : Int := if s.now.y ≤ s.bottom then s.now.y + min n (s.bottom - s.now.y) else s.now.y + n
def itF {α : Type} (f : α → α) : Nat → α → α
 | 0, a => a
 | n + 1, a => itF f n (f a)
def Scr.move (s : Scr) (k n : Int) : Option Scr :=
 if k = 65 then some (s.place s.now.x (s.upY n))
 else if k = 66 ∨ k = 101 then some (s.place s.now.x (s.downY n))
 else if k = 67 ∨ k = 97 then some (s.place (s.now.x + n) s.now.y)
 else if k = 68 then some (s.place (s.now.x - n) s.now.y)
 else if k = 69 then some ((s.place s.now.x (s.downY n)).toX 0)
 else if k = 70 then some ((s.place s.now.x (s.upY n)).toX 0)
 else if k = 71 ∨ k = 96 then some (s.place (n - 1) s.now.y)
 else if k = 100 then some (s.place s.now.x (s.line (n - 1)))
 else if k = 73 then some (itF Scr.tab n.toNat s)
 else if k = 90 then some (itF Scr.back n.toNat s) else none
def Scr.inside (s : Scr) : Bool := !(decide (s.now.y < s.top) || decide (s.bottom < s.now.y))
def Scr.edit (s : Scr) (k n : Int) : Option Scr :=
 if k = 64 then some (s.turn (fun g => g.ins s.now.x s.now.y n s.blank)).calm
 else if k = 80 then some (s.turn (fun g => g.del s.now.x s.now.y n s.blank)).calm
 else if k = 88 then some (s.turn (fun g => g.erase s.now.x s.now.y n s.blank)).calm
 else if k = 76 then some (if s.inside then ((s.toX 0).calm).turn (fun g => g.down s.now.y s.bottom n s.blank) else s)
 else if k = 77 then some (if s.inside then ((s.toX 0).calm).turn (fun g => g.up s.now.y s.bottom n s.blank false) else s)
 else if k = 83 then some (s.turn (fun g => g.up s.top s.bottom n s.blank s.other.isNone))
 else if k = 84 then some (s.turn (fun g => g.down s.top s.bottom n s.blank))
 else if k = 98 then some (itF (fun t => if t.last ≠ 0 then t.print t.last else t) n.toNat s) else none
def zcD (cols : Int) (b : Sty) (y : Int) : Nat → Gr → Gr
 | 0, g => g
 | n + 1, g => ((zcD cols b y n g).erase 0 (y + n) cols b).setWrap (y + n) false
def Scr.clean (s : Scr) (y z : Int) : Scr := s.turn (fun g => zcD s.cols s.blank y (z - y).toNat g)
def Scr.inRow (s : Scr) (k : Int) : Scr :=
 if k = 0 then s.calm.turn (fun g => (g.erase s.now.x s.now.y s.cols s.blank).setWrap s.now.y false)
 else if k = 1 then s.calm.turn (fun g => g.erase 0 s.now.y (s.now.x + 1) s.blank)
 else if k = 2 then s.calm.clean s.now.y (s.now.y + 1) else s.calm
def Scr.forget (s : Scr) : Scr := { s with main := { s.main with old := [] } }
def Scr.inAll (s : Scr) (k : Int) : Scr :=
 if k = 0 then (s.inRow 0).clean (s.now.y + 1) s.rows
 else if k = 1 then (s.inRow 1).clean 0 s.now.y
 else if k = 2 then s.calm.clean 0 s.rows
 else if k = 3 then s.calm.forget else s.calm
def Scr.report (s : Scr) (k : Int) : Scr :=
 if k = 5 then s.say [27, 91, 48, 110]
 else if k = 6 then s.say ([27, 91] ++ Lib.itoa ((if s.has 4 then max 0 (s.now.y - s.top) else s.now.y) + 1) ++ [59] ++ Lib.itoa (s.now.x + 1) ++ [82]) else s
def zfz (p : Sty) (n : Int) (kc : Nat × Int) : Sty :=
 let p1 : Sty := if n = kc.2 then { p with attr := bOr p.attr (2 ^ kc.1 : Nat) } else p
 if n = kc.2 + 20 ∧ 1 < kc.1 then { p1 with attr := Zm p1.attr (2 ^ kc.1 : Nat) } else p1
def Zz (p : Sty) (n : Int) : Sty :=
 if n = 0 then plainS
 else if n = 22 then { p with attr := Zm p.attr 3 }
 else if 30 ≤ n ∧ n ≤ 37 then { p with fg := n - 30 }
 else if n = 39 then { p with fg := -1 }
 else if 40 ≤ n ∧ n ≤ 47 then { p with bg := n - 40 }
 else if n = 49 then { p with bg := -1 }
 else if 90 ≤ n ∧ n ≤ 97 then { p with fg := n - 82 }
 else if 100 ≤ n ∧ n ≤ 107 then { p with bg := n - 92 }
 else [(0, 1), (1, 2), (2, 3), (3, 4), (4, 5), (5, 7), (6, 8), (7, 9)].foldl (fun p kc => zfz p n kc) p
def zZ (ps : List Int) (i : Nat) : Int × Nat :=
 if i + 2 ≤ ps.length ∧ par ps i 0 = 5 ∧ par ps (i + 1) 0 ≤ 255 then (par ps (i + 1) 0, 2)
 else if i + 4 ≤ ps.length ∧ par ps i 0 = 2 ∧ max (max (par ps (i + 1) 0) (par ps (i + 2) 0)) (par ps (i + 3) 0) ≤ 255 then (16777216 + par ps (i + 1) 0 * 65536 + par ps (i + 2) 0 * 256 + par ps (i + 3) 0, 4)
 else (0, 0)
def ZC (ps : List Int) : Nat → Nat → Sty → Sty
 | 0, _, p => p
 | f + 1, i, p =>
  if i < ps.length then
   if par ps i 0 = 38 ∨ par ps i 0 = 48 then
    if (zZ ps (i + 1)).2 = 0 then p
    else ZC ps f (i + 1 + (zZ ps (i + 1)).2) (if par ps i 0 = 38 then { p with fg := (zZ ps (i + 1)).1 } else { p with bg := (zZ ps (i + 1)).1 })
   else ZC ps f (i + 1) (Zz p (par ps i 0))
  else p
def zeA (ps : List Int) (p : Sty) : Sty := ZC ps ps.length 0 (if ps = [] then plainS else p)
def Scr.looks (s : Scr) (ps : List Int) : Scr := { s with now := { s.now with pen := zeA ps s.now.pen } }
def Scr.setMode1 (s : Scr) (k : Int) (on : Bool) : Scr := if k = 4 then s.mode 2 on else if k = 20 then s.mode 512 on else s
def Scr.region (s : Scr) (ps : List Int) : Scr :=
 let t := max 1 (par ps 0 1)
 let b0 := par ps 1 s.rows
 let b := min (if b0 = 0 then s.rows else b0) s.rows
 if t < b then let s1 : Scr := { s with top := t - 1, bottom := b - 1 }; s1.place 0 (s1.line 0) else s
def Scr.others (s : Scr) (k : Int) (ps : List Int) : Scr :=
 let n := par ps 0 0
 if k = 72 ∨ k = 102 then s.place (max 1 (par ps 1 1) - 1) (s.line (max 1 (par ps 0 1) - 1))
 else if k = 74 then s.inAll n
 else if k = 75 then s.inRow n
 else if k = 99 then (if n = 0 then s.say da1 else s)
 else if k = 110 then s.report n
 else if k = 103 then (if n = 0 then { s with tabs := s.tabs.set s.now.x.toNat false } else if n = 3 then { s with tabs := List.replicate s.tabs.length false } else s)
 else if k = 104 ∨ k = 108 then (List.range ps.length).foldl (fun t i => t.setMode1 (par ps i 0) (k == 104)) s
 else if k = 109 then s.looks ps
 else if k = 114 then s.region ps
 else if k = 115 ∨ k = 117 then s.keep (k == 115) else s
def Scr.private (s : Scr) (k : Int) (on : Bool) : Scr :=
 if k = 1 then s.mode 16 on
 else if k = 6 then let s1 := s.mode 4 on; s1.place 0 (s1.line 0)
 else if k = 7 then let s1 := s.mode 1 on; { s1 with now := { s1.now with wait := s1.now.wait && on } }
 else if k = 25 then s.mode 8 on
 else if k = 47 ∨ k = 1047 then s.swap on
 else if k = 1048 then s.keep on
 else if k = 1049 then (if on then s.save.swap true else (s.swap false).restore)
 else if k = 1000 then s.mode 128 on
 else if k = 2004 then s.mode 64 on else s
def Scr.soft (s : Scr) : Scr :=
 let s1 := ({ s with now := { sav0 with x := s.now.x, y := s.now.y } } : Scr).whole
 ({ s1 with modes := bOr (Zm s1.modes 54) 9 } : Scr).setSlot sav0
def Scr.csi (s : Scr) (b : UInt8) (ps : List Int) (inter : List UInt8) : Scr :=
 let k : Int := b.toNat
 if inter = [] then (match s.move k (max 1 (par ps 0 1)) with
  | some t => t
  | none => match s.edit k (max 1 (par ps 0 1)) with
   | some t => t
   | none => s.others k ps)
 else if inter = [63] then (if k = 104 ∨ k = 108 then (List.range ps.length).foldl (fun t i => t.private (par ps i 0) (k == 104)) s else s)
 else if inter = [33] then (if k = 112 then s.soft else s)
 else if inter = [62] then (if k = 99 ∧ par ps 0 0 = 0 then s.say [27, 91, 62, 48, 59, 49, 48, 59, 48, 99] else s) else s
def zaP : Int → List Int → List Int
 | _, [] => []
 | n, r :: l => if wid r < 1 then zaP n l else if 64 < n + wid r then [] else r :: zaP (n + wid r) l
def Scr.named (s : Scr) (t : List UInt8) : Scr :=
 if t.take 2 = [48, 59] ∨ t.take 2 = [50, 59] then { s with title := (zaP 0 (zcW (t.drop 2))).flatMap (fun r => (Utf8.encode r).data.toList) } else s
end
section
open Go.RowKit
theorem zce (a : Nat) (h : a < 9223372036854775808) : (BitVec.ofInt 64 (a : Int)).toNat = a := by
 rw [BitVec.ofInt_natCast, BitVec.toNat_ofNat]; omega
theorem znw (a b : Nat) (ha : a < 1024) (hb : b < 1024) : ∃ k : Nat, bOr (a : Int) (b : Int) = k ∧ k < 1024 := by
 have h : a ||| b < 2 ^ 10 := Nat.or_lt_two_pow (by omega) (by omega);refine ⟨a ||| b, ?_, by omega⟩;unfold bOr;rw [BitVec.toNat_or, zce a (by omega), zce b (by omega), zb _ (by omega) (by omega)]
theorem zmi (a : Nat) (y : Int) (ha : a < 1024) : ∃ k : Nat, Zm (a : Int) y = k ∧ k ≤ a := by
 have h : (BitVec.ofInt 64 (a : Int) &&& ~~~ (BitVec.ofInt 64 y)).toNat ≤ a := by
  rw [BitVec.toNat_and, zce a (by omega)];exact Nat.and_le_left
 refine ⟨_, ?_, h⟩;unfold Zm;rw [zb _ (by omega) (by omega)]
def M10 (m : Int) : Prop := 0 ≤ m ∧ m < 1024
theorem M10.or {a b : Int} (ha : M10 a) (hb : M10 b) : M10 (bOr a b) := by
 obtain ⟨x, rfl⟩ : ∃ n : Nat, a = n := ⟨a.toNat, by have := ha.1; omega⟩;obtain ⟨y, rfl⟩ : ∃ n : Nat, b = n := ⟨b.toNat, by have := hb.1; omega⟩;obtain ⟨k, e, h⟩ := znw x y (by have := ha.2; omega) (by have := hb.2; omega);rw [e]; exact ⟨by omega, by omega⟩
theorem zjS {a : Int} (ha : M10 a) (b : Int) : 0 ≤ Zm a b ∧ Zm a b ≤ a := by
 obtain ⟨x, rfl⟩ : ∃ n : Nat, a = n := ⟨a.toNat, by have := ha.1; omega⟩;obtain ⟨k, e, h⟩ := zmi x b (by have := ha.2; omega);rw [e]; exact ⟨by omega, by omega⟩
theorem M10.not {a : Int} (ha : M10 a) (b : Int) : M10 (Zm a b) := by
 have h := zjS ha b;have := ha.2;exact ⟨h.1, by omega⟩
structure Sav.In (c r : Nat) (v : Sav) : Prop where
 x0 : 0 ≤ v.x
 x1 : v.x < c
 y0 : 0 ≤ v.y
 y1 : v.y < r
 pen : okS v.pen = true
 sec : v.second = 0 ∨ v.second = 1
theorem zba : okS plainS = true := by decide
theorem zcE {c r : Nat} (hc : 1 ≤ c) (hr : 1 ≤ r) : sav0.In c r := ⟨by decide, by show (0 : Int) < c; omega, by decide, by show (0 : Int) < r; omega, zba, .inl rfl⟩
def zaH (c r : Nat) (g : Gr) : Prop := g.cols = c ∧ g.rows.length = r
structure Scr.Ok (c r : Nat) (s : Scr) : Prop where
 main : zaH c r s.main
 other : ∀ g, s.other = some g → zaH c r g
 now : s.now.In c r
 k0 : s.k0.In c r
 k1 : s.k1.In c r
 t0 : 0 ≤ s.top
 tb : s.top ≤ s.bottom
 b1 : s.bottom < r
 tl : s.tabs.length = c
 md : M10 s.modes
theorem zaH.of_dim {c r : Nat} {g g' : Gr} (h : zaH c r g) (hd : ∀ l, Dim g c r l → Dim g' c r l) : zaH c r g' := by
 have := hd g.limit ⟨h.1, h.2, rfl⟩;exact ⟨this.1, this.2.1⟩
section
variable {c r : Nat} {s : Scr}
theorem Scr.Ok.cols (h : s.Ok c r) : s.cols = c := by unfold Scr.cols; rw [h.main.1]
theorem Scr.Ok.rows (h : s.Ok c r) : s.rows = r := by unfold Scr.rows; rw [h.main.2]
theorem Scr.Ok.turn (h : s.Ok c r) (f : Gr → Gr) (hf : ∀ g, zaH c r g → zaH c r (f g)) : (s.turn f).Ok c r := by
 unfold Scr.turn;split
 ·rename_i g hg;exact ⟨h.main, fun g' hg' => by injection hg' with hg'; rw [← hg']; exact hf g (h.other g hg), h.now, h.k0, h.k1, h.t0, h.tb, h.b1, h.tl, h.md⟩
 ·rename_i hg;exact ⟨hf _ h.main, fun g' hg' => (by rw [hg] at hg'; cases hg'), h.now, h.k0, h.k1, h.t0, h.tb, h.b1, h.tl, h.md⟩
theorem zcf (s : Scr) (f : Gr → Gr) : (s.turn f).now = s.now := by unfold Scr.turn; split <;> rfl
theorem Scr.Ok.put (h : s.Ok c r) {v : Sav} (hv : v.In c r) : ({ s with now := v } : Scr).Ok c r := ⟨h.main, h.other, hv, h.k0, h.k1, h.t0, h.tb, h.b1, h.tl, h.md⟩
theorem Scr.Ok.toX (h : s.Ok c r) {x : Int} (h0 : 0 ≤ x) (h1 : x < c) : (s.toX x).Ok c r := h.put ⟨h0, h1, h.now.y0, h.now.y1, h.now.pen, h.now.sec⟩
theorem Scr.Ok.calm (h : s.Ok c r) : s.calm.Ok c r := h.put ⟨h.now.x0, h.now.x1, h.now.y0, h.now.y1, h.now.pen, h.now.sec⟩
theorem Scr.Ok.mode (h : s.Ok c r) (m : Int) (hm : M10 m) (on : Bool) : (s.mode m on).Ok c r := by
 refine ⟨h.main, h.other, h.now, h.k0, h.k1, h.t0, h.tb, h.b1, h.tl, ?_⟩;show M10 (if on = true then bOr (Zm s.modes m) m else Zm s.modes m);split
 ·exact (h.md.not m).or hm
 ·exact h.md.not m
theorem Scr.Ok.whole (h : s.Ok c r) (hr : 1 ≤ r) : s.whole.Ok c r := by
 have e := h.rows;exact ⟨h.main, h.other, h.now, h.k0, h.k1, Int.le_refl 0, by show 0 ≤ s.rows - 1; omega, by show s.rows - 1 < r; omega, h.tl, h.md⟩
theorem Scr.Ok.place (h : s.Ok c r) (hc : 1 ≤ c) (hr : 1 ≤ r) (x y : Int) : (s.place x y).Ok c r := by
 have e := h.rows;have e2 := h.cols;unfold Scr.place;exact h.put ⟨by show 0 ≤ max 0 _; omega, by show max 0 (min x (s.cols - 1)) < c; omega, by show 0 ≤ max 0 _; omega, by show max 0 (min y (s.rows - 1)) < r; omega, h.now.pen, h.now.sec⟩
theorem zhc {g : Gr} (h : zaH c r g) (t b n : Int) (p : Sty) (k : Bool) : zaH c r (g.up t b n p k) := h.of_dim fun _ hd => hd.up t b n p k
theorem zeB {g : Gr} (h : zaH c r g) (t b n : Int) (p : Sty) : zaH c r (g.down t b n p) := h.of_dim fun _ hd => hd.down t b n p
theorem zfA {g : Gr} (h : zaH c r g) (x y : Int) (q : Cel) : zaH c r (g.put x y q) := h.of_dim fun _ hd => hd.put x y q
theorem zcg {g : Gr} (h : zaH c r g) (y : Int) (is : Bool) : zaH c r (g.setWrap y is) := h.of_dim fun _ hd => hd.setWrap y is
theorem zfB {g : Gr} (h : zaH c r g) (x y n : Int) (p : Sty) : zaH c r (g.ins x y n p) := h.of_dim fun _ hd => zeV _ x y n p hd
theorem zmj {g : Gr} (h : zaH c r g) (x y n : Int) (p : Sty) : zaH c r (g.del x y n p) := h.of_dim fun _ hd => zeV _ x y n p hd
theorem zcF {g : Gr} (h : zaH c r g) (x y n : Int) (p : Sty) : zaH c r (g.erase x y n p) := h.of_dim fun _ hd => zeV _ x y n p hd
theorem zef {l : Nat} : zaH c r (ZY c r l) := ⟨(Dim.new c r l).1, (Dim.new c r l).2.1⟩
theorem Scr.Ok.index (h : s.Ok c r) : s.index.Ok c r := by
 have e := h.rows;unfold Scr.index;split
 ·exact h.turn _ fun g hg => zhc hg _ _ _ _ _
 ·split
  ·exact h.put ⟨h.now.x0, h.now.x1, by show 0 ≤ s.now.y + 1; have := h.now.y0; omega, by show s.now.y + 1 < r; omega, h.now.pen, h.now.sec⟩
  ·exact h
theorem Scr.Ok.reverse (h : s.Ok c r) : s.reverse.Ok c r := by
 unfold Scr.reverse;split
 ·exact h.turn _ fun g hg => zeB hg _ _ _ _
 ·split
  ·exact h.put ⟨h.now.x0, h.now.x1, by show 0 ≤ s.now.y - 1; omega, by show s.now.y - 1 < r; have := h.now.y1; omega, h.now.pen, h.now.sec⟩
  ·exact h
theorem Scr.Ok.on (h : s.Ok c r) (hc : 1 ≤ c) : s.on.Ok c r :=
 ((h.turn _ fun g hg => zcg hg _ _).toX (Int.le_refl 0) (by omega)).index
theorem Scr.Ok.fit (h : s.Ok c r) (hc : 1 ≤ c) (w : Int) (h1 : 1 ≤ w) (h2 : w ≤ c) : (s.fit w).Ok c r ∧ (s.fit w).now.x ≤ c - w := by
 have hs1 : ((if (s.now.wait && s.has 1) = true then s.on else s).calm).Ok c r := by
  split
  ·exact (h.on hc).calm
  ·exact h.calm
 unfold Scr.fit;generalize ((if (s.now.wait && s.has 1) = true then s.on else s).calm) = s1 at hs1 ⊢;have e := hs1.cols;dsimp only;have hon : s1.on.now.x = 0 := by
  unfold Scr.on Scr.index;split
  ·rw [zcf]; rfl
  ·split <;> rfl
 split
 ·split
  ·exact ⟨hs1.on hc, by rw [hon]; omega⟩
  ·exact ⟨hs1.toX (by omega) (by omega), by show s1.cols - w ≤ _; omega⟩
 ·exact ⟨hs1, by omega⟩
theorem Scr.Ok.lay (h : s.Ok c r) (hc : 1 ≤ c) (q w : Int) (h1 : 1 ≤ w) : (s.lay q w).Ok c r := by
 have hs1 : (if s.has 2 = true then s.turn (fun g => g.ins s.now.x s.now.y w s.blank) else s).Ok c r := by
  split
  ·exact h.turn _ fun g hg => zfB hg _ _ _ _
  ·exact h
 unfold Scr.lay;generalize (if s.has 2 = true then s.turn (fun g => g.ins s.now.x s.now.y w s.blank) else s) = s1 at hs1 ⊢;dsimp only;have hs2 := hs1.turn (fun g => g.put s1.now.x s1.now.y ⟨q, w, s1.now.pen⟩) fun g hg => zfA hg _ _ _;generalize (s1.turn fun g => g.put s1.now.x s1.now.y ⟨q, w, s1.now.pen⟩) = s2 at hs2 ⊢;have e := hs2.cols;split
 ·exact hs2.put ⟨by show 0 ≤ s2.cols - 1; omega, by show s2.cols - 1 < c; omega, hs2.now.y0, hs2.now.y1, hs2.now.pen, hs2.now.sec⟩
 ·exact hs2.toX (by have := hs2.now.x0; omega) (by omega)
theorem Scr.Ok.print (h : s.Ok c r) (hc : 1 ≤ c) (x : Int) : (s.print x).Ok c r := by
 have e := h.cols;unfold Scr.print;dsimp only;split
 ·exact h
 ·rename_i hw;have h3 := ((h.fit hc (wid (s.drawn x)) (by omega) (by omega)).1).lay hc (s.drawn x) (wid (s.drawn x)) (by omega);exact ⟨h3.main, h3.other, h3.now, h3.k0, h3.k1, h3.t0, h3.tb, h3.b1, h3.tl, h3.md⟩
theorem Scr.Ok.tab (h : s.Ok c r) (hc : 1 ≤ c) (hr : 1 ≤ r) : s.tab.Ok c r := h.place hc hr _ _
theorem Scr.Ok.back (h : s.Ok c r) (hc : 1 ≤ c) (hr : 1 ≤ r) : s.back.Ok c r := h.place hc hr _ _
theorem Scr.Ok.bell (h : s.Ok c r) (n : Int) : ({ s with bells := n } : Scr).Ok c r := ⟨h.main, h.other, h.now, h.k0, h.k1, h.t0, h.tb, h.b1, h.tl, h.md⟩
theorem Scr.Ok.control (h : s.Ok c r) (hc : 1 ≤ c) (hr : 1 ≤ r) (b : UInt8) : (s.control b).Ok c r := by
 unfold Scr.control;dsimp only;have h1 : (if 8 ≤ (b.toNat : Int) ∧ (b.toNat : Int) ≤ 13 then s.calm else s).Ok c r := by
  split
  ·exact h.calm
  ·exact h
 generalize (if 8 ≤ (b.toNat : Int) ∧ (b.toNat : Int) ≤ 13 then s.calm else s) = t at h1 ⊢
 repeat' split
 ·exact h1.bell _
 ·exact h1.toX (by omega) (by have := h1.now.x1; omega)
 ·exact h1.tab hc hr
 ·exact h1.index.toX (Int.le_refl 0) (by omega)
 ·exact h1.index
 ·exact h1.toX (Int.le_refl 0) (by omega)
 ·rename_i hk;exact h1.put ⟨h1.now.x0, h1.now.x1, h1.now.y0, h1.now.y1, h1.now.pen, by show 15 - (b.toNat : Int) = 0 ∨ 15 - (b.toNat : Int) = 1; omega⟩
 ·exact h1
theorem Scr.Ok.say (h : s.Ok c r) (t : List UInt8) : (s.say t).Ok c r := ⟨h.main, h.other, h.now, h.k0, h.k1, h.t0, h.tb, h.b1, h.tl, h.md⟩
theorem Scr.Ok.setSlot (h : s.Ok c r) {v : Sav} (hv : v.In c r) : (s.setSlot v).Ok c r := by
 unfold Scr.setSlot;split
 ·exact ⟨h.main, h.other, h.now, h.k0, hv, h.t0, h.tb, h.b1, h.tl, h.md⟩
 ·exact ⟨h.main, h.other, h.now, hv, h.k1, h.t0, h.tb, h.b1, h.tl, h.md⟩
theorem Scr.Ok.slot (h : s.Ok c r) : s.slot.In c r := by
 unfold Scr.slot;split
 ·exact h.k1
 ·exact h.k0
theorem Scr.Ok.save (h : s.Ok c r) : s.save.Ok c r := by
 have h1 := h.put (v := { s.now with origin := s.has 4 }) ⟨h.now.x0, h.now.x1, h.now.y0, h.now.y1, h.now.pen, h.now.sec⟩;exact h1.setSlot h1.now
theorem Scr.Ok.restore (h : s.Ok c r) : s.restore.Ok c r := (h.put h.slot).mode 4 ⟨by decide, by decide⟩ _
theorem Scr.Ok.keep (h : s.Ok c r) (on : Bool) : (s.keep on).Ok c r := by
 unfold Scr.keep;split
 ·exact h.save
 ·exact h.restore
theorem Scr.Ok.swap (h : s.Ok c r) (hr : 1 ≤ r) (on : Bool) : (s.swap on).Ok c r := by
 unfold Scr.swap;split
 ·exact h
 ·have h1 : ({ s with other := if on then some (ZY s.main.cols s.main.rows.length 0) else none } : Scr).Ok c r := ⟨h.main, fun g hg => (by
   have hg : (if on = true then some (ZY s.main.cols s.main.rows.length 0) else none) = some g := hg;split at hg
   ·injection hg with hg;rw [← hg, h.main.1, h.main.2]; exact zef
   ·cases hg), h.now, h.k0, h.k1, h.t0, h.tb, h.b1, h.tl, h.md⟩
  exact ((h1.mode 256 ⟨by decide, by decide⟩ on).whole hr).calm
theorem zi0 {g : Gr} (h : zaH c r g) (y x : Nat) : zaH c r (zjR g y x) := by
 induction x with
 | zero => exact h
 | succ x ih => exact zfA ih _ _ _
theorem zeg {g : Gr} (h : zaH c r g) (m y : Nat) : zaH c r (zbY g m y) := by
 induction y with
 | zero => exact h
 | succ y ih => exact zcg (zi0 ih _ _) _ _
theorem Scr.Ok.fill (h : s.Ok c r) (hc : 1 ≤ c) (hr : 1 ≤ r) : s.fill.Ok c r := ((h.whole hr).place hc hr 0 0).turn _ fun g hg => zeg hg _ _
theorem zdN (t : List Bool) (n : Nat) : (zb6 t n).length = n := by
 unfold zb6;rw [List.length_take, List.length_append, List.length_map, List.length_range'];omega
theorem Scr.Ok.reset (h : s.Ok c r) (hc : 1 ≤ c) (hr : 1 ≤ r) : s.reset.Ok c r := by
 have e1 := h.main.1;have e2 := h.main.2;have hm : zaH c r (ZY s.main.cols s.main.rows.length s.main.limit) := (by rw [e1, e2]; exact zef);refine ⟨hm, fun g hg => (by cases hg), zcE hc hr, zcE hc hr, zcE hc hr, Int.le_refl 0, ?_, ?_, ?_, (show M10 9 from ⟨by decide, by decide⟩)⟩
 ·show (0 : Int) ≤ ((ZY s.main.cols s.main.rows.length s.main.limit).rows.length : Int) - 1;rw [hm.2]; omega
 ·show ((ZY s.main.cols s.main.rows.length s.main.limit).rows.length : Int) - 1 < r;rw [hm.2]; omega
 ·show (zb6 [] (ZY s.main.cols s.main.rows.length s.main.limit).cols).length = c;rw [zdN, hm.1]
theorem Scr.Ok.setTabs (h : s.Ok c r) {t : List Bool} (ht : t.length = c) : ({ s with tabs := t } : Scr).Ok c r := ⟨h.main, h.other, h.now, h.k0, h.k1, h.t0, h.tb, h.b1, ht, h.md⟩
theorem Scr.Ok.bare (h : s.Ok c r) (hc : 1 ≤ c) (hr : 1 ≤ r) (b : UInt8) : (s.bare b).Ok c r := by
 unfold Scr.bare;dsimp only
 repeat' split
 ·exact h.save
 ·exact h.restore
 ·exact ((h.toX (Int.le_refl 0) (by omega)).index).calm
 ·exact h.index.calm
 ·exact h.reverse.calm
 ·exact h.setTabs (by rw [List.length_set]; exact h.tl)
 ·exact h.reset hc hr
 ·exact h.mode 32 ⟨by decide, by decide⟩ _
 ·exact h.say _
 ·exact h
theorem Scr.Ok.escape (h : s.Ok c r) (hc : 1 ≤ c) (hr : 1 ≤ r) (b : UInt8) (i : List UInt8) : (s.escape b i).Ok c r := by
 have hv : ∀ a d, ({ s.now with l0 := a, l1 := d } : Sav).In c r := fun a d => ⟨h.now.x0, h.now.x1, h.now.y0, h.now.y1, h.now.pen, h.now.sec⟩;unfold Scr.escape;dsimp only
 repeat' split
 ·exact h.put (hv true s.now.l1)
 ·exact h.put (hv false s.now.l1)
 ·exact h
 ·exact h.put (hv s.now.l0 true)
 ·exact h.put (hv s.now.l0 false)
 ·exact h
 ·exact h.fill hc hr
 ·exact h
 ·exact h.bare hc hr b
 ·exact h
end
end
section
open Go.RowKit
set_option maxRecDepth 100000
def zch (T : Nat → Nat) (p : Nat) (w : World) (s : PSt) : Prop :=
 (∀ k, T k ≠ 0 → k < w.heap.size) ∧ s.Fine ∧ ∃ d vi vp vt, zbU true T p d .nilFunc vi vp vt w s
theorem zi1 {T : Nat → Nat} {p : Nat} {w : World} {s : PSt} (h : zch T p w s) :
  ze (own T w) w ((w.setCell ⟨p, 2, none⟩ (zaF w.heap.size)).alloc (.cells #[ZP] 111)) ∧
   zam (own T w) true (adopt T w.heap.size (w.heap.size + 1) 3) p w.heap.size ((w.setCell ⟨p, 2, none⟩ (zaF w.heap.size)).alloc (.cells #[ZP] 111)) s [] := by
 obtain ⟨hl, _, d, vi, vp, vt, hC⟩ := h;have hA : zaY (own T w) T w := ⟨fun k hk => ⟨hl k hk, .inl hk⟩, fun k hk => .inr hk⟩;have hsz : ((w.setCell ⟨p, 2, none⟩ (zaF w.heap.size)).alloc (.cells #[ZP] 111)).heap.size = w.heap.size + 1 := (by simp);have g := zcc (zO (zr w (some p)) 2 (zaF w.heap.size)) (.cells #[ZP] 111);have m : Mod T (fun x => x = 1) w _ := Mod.of_gb g (fun k hk => by injection hk with hk; subst hk; exact hC.tp);have ad : ∀ k, k < w.heap.size → adopt T w.heap.size (w.heap.size + 1) 3 k = T k := fun k hk => zdw hk;have hA' := hA.adopt m.size 3;rw [hsz] at hA';have hb := zD (zw hC.blk 2 (zaF w.heap.size)) (.cells #[ZP] 111);have ho : ((w.setCell ⟨p, 2, none⟩ (zaF w.heap.size)).alloc (.cells #[ZP] 111)).heap[w.heap.size]? = some (.cells #[ZP] 111 (0, 0)) := by
  have := heap_alloc_new (w.setCell ⟨p, 2, none⟩ (zaF w.heap.size)) (.cells #[ZP] 111);rw [show (w.setCell ⟨p, 2, none⟩ (zaF w.heap.size)).heap.size = w.heap.size by simp] at this;exact this
 have hCr := (hC.retag ad).put (u' := true) (s' := s) (tell' := zaF w.heap.size) (vi' := vi) (vp' := vp) (vt' := vt) g hb rfl (hC.ri.retag fun k hk ht => (ad k hk).trans ht) (fun _ => (hC.rp rfl).retag fun k hk ht => (ad k hk).trans ht) (hC.rt.retag fun k hk ht => (ad k hk).trans ht);refine ⟨m.within hA (by decide), d, vi, vp, vt, ZP, [], rfl, hA', hCr, ⟨ho, zbi _ _ _ _, zdx (Nat.le_refl _) (by omega), fun x hx => by simp at hx⟩⟩
def zgi (T : Nat → Nat) : Nat → Nat := fun k => if T k = 3 ∨ T k = 7 then 0 else T k
theorem zcG {T : Nat → Nat} {k t : Nat} (h : T k = t) (h3 : t ≠ 3) (h7 : t ≠ 7) : zgi T k = t := by unfold zgi; rw [if_neg (by omega)]; exact h
theorem zmk {T : Nat → Nat} {k : Nat} (h : T k = 7) : zgi T k = 0 := by unfold zgi; rw [if_pos (.inr h)]
theorem zml {G : Nat → Prop} {T : Nat → Nat} {p o : Nat} {w : World} {s : PSt} {acts : List VAct} (h : zam G true T p o w s acts) (hf : s.Fine) :
  ∃ vo L, L.map (·.1) = acts ∧ w.cell? ⟨o, 0, none⟩ = some vo ∧ (w.setCell ⟨p, 2, none⟩ .nilFunc).cell? ⟨o, 0, none⟩ = some vo ∧ w.cell? ⟨p, 2, none⟩ = some (zaF o) ∧ (∀ i, w.frozen? ⟨p, i, none⟩ = false) ∧ ze G w (w.setCell ⟨p, 2, none⟩ .nilFunc) ∧ zch (zgi T) p (w.setCell ⟨p, 2, none⟩ .nilFunc) s ∧
   Row (zgi T) 0 6 vo L.length (zad L) (w.setCell ⟨p, 2, none⟩ .nilFunc) ∧ (∀ k, vo.ownBlock = some k → G k) ∧
   (∀ x ∈ L, Row (zgi T) 0 1 x.2 x.1.params.length (x.1.params.map (Value.int .i64)) (w.setCell ⟨p, 2, none⟩ .nilFunc) ∧ ∀ k, x.2.ownBlock = some k → G k) ∧ (∀ k, zgi T k ≠ 0 → G k) := by
 obtain ⟨d, vi, vp, vt, vo, L, hL, hA, hC, hT⟩ := h;have g := zO (zr w (some p)) 2 .nilFunc;have m : Mod T (fun x => x = 1) w (w.setCell ⟨p, 2, none⟩ .nilFunc) := Mod.of_gb g (fun k hk => by injection hk with hk; subst hk; exact hC.tp);have hb := zw hC.blk 2 .nilFunc;have hC' := hC.put (u' := true) (s' := s) (tell' := .nilFunc) (vi' := vi) (vp' := vp) (vt' := vt) g hb rfl hC.ri (fun _ => hC.rp rfl) hC.rt;have hT' := hT.mod m (by decide) (by decide) (by decide);have h0 : ∀ k, zgi T k ≠ 0 → T k ≠ 0 := fun k hk e => hk (zcG e (by decide) (by decide));refine ⟨vo, L, hL, za hT.blk 0, za hT'.blk 0, zR hC 2, zy hC.blk, m.within hA (by decide), ⟨fun k hk => ?_, hf, d, vi, vp, vt, ?_⟩, hT'.ro.retag fun k _ ht => zmk ht, fun k hk => (hA.tl k (by rw [hT.ro.tag k hk]; decide)).2, fun x hx => ⟨(hT'.told x hx).1.retag fun k _ ht => zcG ht (by decide) (by decide), (hT.told x hx).2⟩, fun k hk => (hA.tl k (h0 k hk)).2⟩
 ·exact Nat.lt_of_lt_of_le (hA.tl k (h0 k hk)).1 m.size
 ·exact ⟨hC'.blk, hC'.dec, hC'.dok, hC'.ri.retag fun k _ ht => zcG ht (by decide) (by decide), fun _ => (hC'.rp rfl).retag fun k _ ht => zcG ht (by decide) (by decide), hC'.rt.retag fun k _ ht => zcG ht (by decide) (by decide), zcG hC'.tp (by decide) (by decide), zcG hC'.td (by decide) (by decide)⟩
theorem Row.within {G : Nat → Prop} {T : Nat → Nat} {t size : Nat} {v : Value} {n : Nat} {xs : List Value} {w w' : World} (h : Row T t size v n xs w) (hw : ze G w w') (hg : ∀ k, v.ownBlock = some k → ¬ G k) : zn w' 0 size v n xs :=
 Zk h.own hw.size fun k hk => hw.block k (zl h.own k hk).2 (hg k hk)
theorem zkA (l : List UInt8) (k : Nat) (h : k < l.length) : l.take (k + 1) = l.take k ++ [l.getD k 0] := Zx l 0 k h
set_option maxRecDepth 100000 in
set_option maxHeartbeats 4000000 in
theorem zi2 {T : Nat → Nat} {p : Nat} {w : World} {s : PSt} (vb : Value) (l : List UInt8) (h : zch T p w s) (hv : Row T 0 1 vb l.length (zk l) w) (hl : l.length ≤ 100000000) :
  Calls Tryz.prog 60 #[.pointer (some ⟨p, 0, none⟩), vb] w fun e w' => ∃ vo T' L, e = .returned vo ∧ L.map (·.1) = (s.run l).2 ∧ ze (own T w) w w' ∧ zch T' p w' (s.run l).1 ∧ (∀ k, T' k ≠ 0 → own T w k) ∧
   Row T' 0 6 vo L.length (zad L) w' ∧ (∀ k, vo.ownBlock = some k → own T w k) ∧ ∀ x ∈ L, Row T' 0 1 x.2 x.1.params.length (x.1.params.map (Value.int .i64)) w' ∧ ∀ k, x.2.ownBlock = some k → own T w k := by
 have hlen : ∀ (ty : TypeId) (wx : World), (Builtin.len_ #[38] ty #[vb]).run Tryz.prog wx = .ok (.int .i64 l.length) wx := zcu Tryz.underlying38 hv.own;have hmf : ∀ (fn : Fn) (first cap : Array Value) (w : World), (Instr.makeFunc fn first cap).run Tryz.prog w = .ok (.func fn first cap) w := fun _ _ _ _ => rfl;have HV := Lib.hid hv;have HN := Lib.hid (show ∀ k, vb.ownBlock = some k → ¬ own T w k from fun k hk hg => by
  rcases hg with hg | hg
  ·exact hg (hv.tag k hk)
  ·have := (zl hv.own k hk).2; omega)
 obtain ⟨hs1, hs2⟩ := zi1 h;have HS1 := Lib.hid hs1;have HS2 := Lib.hid hs2;have HF := Lib.hid h.2.1;obtain ⟨hlr, hfr, d, vi, vp, vt, hC⟩ := h;have fz := zy hC.blk;have c2 : w.cell? ⟨p, 2, none⟩ = some .nilFunc := zR hC 2;have hpl := zj hC.blk;have hb1 := zD hC.blk (.cells #[ZP] 111);have a2 : (w.alloc (.cells #[.slice none 0 0] 111)).cell? ⟨p, 2, none⟩ = some .nilFunc := za hb1 2;have afz : ∀ i, (w.alloc (.cells #[.slice none 0 0] 111)).frozen? ⟨p, i, none⟩ = false := zy hb1;clear hv hs1 hs2 hlr hfr hC hb1;generalize own T w = G at *;go_enter Tryz.func60, Tryz.ntmps60;go_wp2_with fail
 go_loopw [14] (fun iv wr => ∃ k : Nat, k ≤ l.length ∧ iv = .int .i64 k ∧ ze G w wr ∧ zhr G true p w.heap.size wr (s.run (l.take k)).1 (s.run (l.take k)).2) (fun iv _ => l.length - (intOf iv).toNat)
 case atStart => exact ⟨0, by omega, rfl, HS1.out, _, HS2.out⟩
 case round =>
  obtain ⟨k, hk, rfl, hw, T2, hi⟩ := hrel;have HW := Lib.hid hw;have HI := Lib.hid hi;clear hw hi;by_cases hlt : k < l.length
  ·have HO := Lib.hid (HV.out.within HW.out HN.out);obtain ⟨b0, off0, c0, hvb, had, ⟨x, hx1, hx2⟩, _, _⟩ := zcV Tryz.underlying38 (by kernel_rfl) HO.out k hlt;have hxe : x = .int .u8 ((l.getD k 0).toNat : Int) := by
    unfold zk at hx1;rw [List.getElem?_map, List.getElem?_eq_getElem hlt] at hx1;rw [List.getD_eq_getElem?_getD, List.getElem?_eq_getElem hlt];exact (Option.some.inj hx1).symm
   subst hxe;have HSN := Lib.hid (znc (l.take k) (l.getD k 0) s);rw [← zkA l k hlt] at HSN;have hrl := zkg (l.take k) s;have htl : (l.take k).length ≤ k := List.length_take_le _ _;have HFk := Lib.hid (zga (l.take k) HF.out);generalize l.getD k 0 = b at *;generalize s.run (l.take k) = R at *;obtain ⟨s1, acts⟩ := R;dsimp only at hrl HFk HI HSN;have HST := Lib.hid (show s1.step b = if (s1.any1 b).1 then (s1.any1 b).2 else ((((s1.any1 b).2.1).took b).1, (s1.any1 b).2.2 ++ (((s1.any1 b).2.1).took b).2) from rfl);have HA1 := Lib.hid (zhA b HI.out (by omega));have HAF := Lib.hid (zeW b HFk.out);have HA32 := Lib.hid (zoa (s := s1) (b := b));have hal := ziG s1 b;generalize s1.any1 b = A at *;obtain ⟨ab, s2, acts2⟩ := A;dsimp only at HST HA1 HAF HA32 hal;have HVB := Lib.hid hvb;clear hx1 hvb;go_wp2_with fail;refine HA1.out.mono ?_;rintro e w2 ⟨rfl, hw2, T3, hi2⟩;have HW2 := Lib.hid (HW.out.trans hw2);have HI2 := Lib.hid hi2;clear hw2 hi2;cases ab
   ·rw [if_neg (by decide)] at HST;have HT2 := Lib.hid (zm7 b HI2.out HAF.out (by rw [List.length_append]; omega) (HA32.out rfl));go_wp2_with fail;refine HT2.out.mono ?_;rintro e w4 ⟨rfl, hw4, hi4⟩;have HW4 := Lib.hid (HW2.out.trans hw4);have HI4 := Lib.hid hi4;clear hw4 hi4;go_wp2_with fail;go_roundw
    case rel =>
     refine ⟨k + 1, by omega, by go_num, HW4.out, ?_⟩;have := HI4.out;rw [HSN.out, HST.out];rw [List.append_assoc] at this;exact this
    case measure => simp [intOf]; omega
   ·rw [if_pos rfl] at HST;go_wp2_with fail;go_roundw
    case rel =>
     refine ⟨k + 1, by omega, by go_num, HW2.out, T3, ?_⟩;rw [HSN.out, HST.out];exact HI2.out
    case measure => simp [intOf]; omega
  ·have hk2 : k = l.length := (by omega);have HE := Lib.hid (show (l.take k) = l by rw [hk2, List.take_length]);rw [HE.out] at HI;have HFl := Lib.hid (zga l HF.out);obtain ⟨vo, L, hL, ho1, ho2, hp2, hpf, hwn, hrest, hrow, hog, htold, hgg⟩ := zml HI.out HFl.out;obtain ⟨xo, mo, co, rfl⟩ := zu hrow.own;have HL := Lib.hid hL;have HWN := Lib.hid (HW.out.trans hwn);have HREST := Lib.hid hrest;have HROW := Lib.hid hrow;have HOG := Lib.hid hog;have HTOLD := Lib.hid htold;have HGG := Lib.hid hgg;clear hL hwn hrest hrow hog htold hgg;unfold zaF at hp2;go_wp2_with fail;go_ret;exact ⟨_, zgi T2, L, rfl, HL.out, HWN.out, HREST.out, HGG.out, HROW.out, HOG.out, HTOLD.out⟩
end
section
open Go.RowKit
theorem ze0 : ∀ (L : List (VAct × Value)) (j : Nat) (hj : j < L.length) (i : Nat), i < 6 → (zad L)[j * 6 + i]? = (L[j].1.cells L[j].2)[i]?
 | x :: L, 0, _, i, hi => by
  simp only [zad, List.flatMap_cons, Nat.zero_mul, Nat.zero_add];rw [List.getElem?_append_left (by simp [VAct.cells]; omega)];rfl
 | x :: L, j + 1, hj, i, hi => by
  have hl : (x.1.cells x.2).length = 6 := rfl;simp only [zad, List.flatMap_cons];rw [List.getElem?_append_right (by rw [hl]; omega), hl, show (j + 1) * 6 + i - 6 = j * 6 + i by omega];exact ze0 L j (by simpa using hj) i hi
def zo7 (T : Nat → Nat) (w : World) (v : Value) (L : List (VAct × Value)) : Prop :=
 Row T 0 6 v L.length (zad L) w ∧ ∀ x ∈ L, Row T 0 1 x.2 x.1.params.length (x.1.params.map (Value.int .i64)) w
theorem zch.below {T : Nat → Nat} {p : Nat} {w w' : World} {s : PSt} (h : zch T p w s) (g : Below w.heap.size w w') : zch T p w' s := by
 obtain ⟨hl, hf, d, vi, vp, vt, hC⟩ := h;exact ⟨fun k hk => Nat.lt_of_lt_of_le (hl k hk) g.size, hf, d, vi, vp, vt, hC.mod (.of_below g) id id id id id⟩
theorem zbF {k : IntKind} {w : World} {v : Value} {l : List Int} (h : zff k w v l) : l.length ≤ 9223372036854775807 := by
 rcases h with ⟨_, rfl⟩ | ⟨a, c, _, h1, h2, _⟩
 ·simp
 ·omega
end
section
open Go.RowKit
theorem zgw {Tp Tq : Nat → Nat} {q : Nat} {w w' : World} {s : PSt} (hq : zch Tq q w s) (hw : ze (own Tp w) w w') (hd : ∀ k, Tq k ≠ 0 → Tp k = 0) : zch Tq q w' s := by
 obtain ⟨hl, hf, d, vi, vp, vt, hC⟩ := hq;have m : Mod Tq (fun x => x = 0) w w' := ⟨hw.os, hw.tape, hw.output, hw.size, fun k hk h0 => hw.block k hk (fun e => by
  rcases e with e | e
  ·exact e (hd k h0)
  ·omega)⟩
 exact ⟨fun k hk => Nat.lt_of_lt_of_le (hl k hk) hw.size, hf, d, vi, vp, vt, hC.mod m (by decide) (by decide) (by decide) (by decide) (by decide)⟩
def zoO (o : Option Nat) : Value := .pointer (o.map fun q => ⟨q, 0, none⟩)
def Scr.cells (s : Scr) (pm : Nat) (po : Option Nat) (pp : Nat) (vt vo : Value) : Array Value :=
 #[.int .i64 s.now.x, .int .i64 s.now.y, .bool s.now.wait, .int .i64 s.now.pen.fg, .int .i64 s.now.pen.bg, .int .i64 s.now.pen.attr, .bool s.now.origin, .bool s.now.l0, .bool s.now.l1, .int .i64 s.now.second,
  .pointer (some ⟨pm, 0, none⟩), zoO po,
  .int .i64 s.k0.x, .int .i64 s.k0.y, .bool s.k0.wait, .int .i64 s.k0.pen.fg, .int .i64 s.k0.pen.bg, .int .i64 s.k0.pen.attr, .bool s.k0.origin, .bool s.k0.l0, .bool s.k0.l1, .int .i64 s.k0.second,
  .int .i64 s.k1.x, .int .i64 s.k1.y, .bool s.k1.wait, .int .i64 s.k1.pen.fg, .int .i64 s.k1.pen.bg, .int .i64 s.k1.pen.attr, .bool s.k1.origin, .bool s.k1.l0, .bool s.k1.l1, .int .i64 s.k1.second,
  .int .i64 s.modes, .int .i64 s.top, .int .i64 s.bottom, vt, .string ⟨s.title.toArray⟩, .int .i32 s.last, .int .i64 s.bells, .pointer (some ⟨pp, 0, none⟩), vo]
def Oth (To : Nat → Nat) (po : Option Nat) (w : World) (o : Option Gr) : Prop := (po = none ∧ o = none ∧ ∀ k, To k = 0) ∨ ∃ q g, po = some q ∧ o = some g ∧ GM To q w g
theorem Oth.kept {Tp To : Nat → Nat} {po : Option Nat} {w w' : World} {o : Option Gr} (h : Oth To po w o) (hw : ze (own Tp w) w w') (hd : ∀ k, To k ≠ 0 → Tp k = 0) : Oth To po w' o := by
 rcases h with h | ⟨q, g, h1, h2, hg⟩
 ·exact .inl h
 ·exact .inr ⟨q, g, h1, h2, hg.other hw hd⟩
structure SAt (C Tm To Tp : Nat → Nat) (p pm : Nat) (po : Option Nat) (pp : Nat) (vt vo : Value) (w : World) (s : Scr) (ps : PSt) : Prop where
 lt : ∀ k, C k ≠ 0 → k < w.heap.size
 cp : C p = 1
 blk : w.heap[p]? = some (.cells (s.cells pm po pp vt vo) 90 (0, 0))
 gm : GM Tm pm w s.main
 go : Oth To po w s.other
 rp : zch Tp pp w ps
 ta : zn w 0 1 vt s.tabs.length (s.tabs.map Value.bool)
 ou : zn w 0 1 vo s.out.length (zk s.out)
 t2 : ∀ k, vt.ownBlock = some k → C k = 2
 t3 : ∀ k, vo.ownBlock = some k → C k = 3
 t4 : ∀ k, Tm k ≠ 0 → C k = 4
 t5 : ∀ k, To k ≠ 0 → C k = 5
 t6 : ∀ k, Tp k ≠ 0 → C k = 6
def SM (C : Nat → Nat) (p : Nat) (w : World) (s : Scr) (ps : PSt) : Prop := ∃ Tm To Tp pm po pp vt vo, SAt C Tm To Tp p pm po pp vt vo w s ps
structure zar (C : Nat → Nat) (c : Nat) (w w' : World) : Prop where
 wi : ze (fun k => C k = c ∨ w.heap.size ≤ k) w w'
theorem zar.of_own {C T : Nat → Nat} {c : Nat} {w w' : World} (h : ze (own T w) w w') (ht : ∀ k, T k ≠ 0 → C k = c) : zar C c w w' := ⟨h.mono fun k hk => by
 rcases hk with e | e
 ·exact .inl (ht k e)
 ·exact .inr e⟩
theorem zar.of_gb {C : Nat → Nat} {c : Nat} {w w' : World} {row : Option Nat} (h : w.grownBy w' row) (ht : ∀ k, row = some k → C k = c ∨ w.heap.size ≤ k) : zar C c w w' := ⟨ze.of_gb h ht⟩
theorem zar.own {C : Nat → Nat} {c : Nat} {w w' : World} (h : zar C c w w') (hc : c ≠ 0) : ze (own C w) w w' := h.wi.mono fun k hk => by
 rcases hk with e | e
 ·exact .inl (by rw [e]; exact hc)
 ·exact .inr e
theorem zar.blk {C : Nat → Nat} {c d k : Nat} {w w' : World} {o : Obj} (h : zar C c w w') (hk : w.heap[k]? = some o) (hd : C k = d) (hn : d ≠ c) : w'.heap[k]? = some o :=
 (h.wi.block k (zj hk) (fun e => by
  have := zj hk;rcases e with e | e
  ·exact hn (by rw [← hd, e])
  ·omega)).trans hk
theorem zar.row {C : Nat → Nat} {c d n : Nat} {v : Value} {xs : List Value} {w w' : World} {size : Nat} (h : zar C c w w') (ho : zn w 0 size v n xs) (hd : ∀ k, v.ownBlock = some k → C k = d) (hn : d ≠ c) : zn w' 0 size v n xs :=
 Zk ho h.wi.size fun k hk => h.wi.block k (zl ho k hk).2 (fun e => by
  have := (zl ho k hk).2;rcases e with e | e
  ·exact hn (by rw [← hd k hk, e])
  ·omega)
theorem zar.tags {C : Nat → Nat} {c d : Nat} {w w' : World} {T : Nat → Nat} (h : zar C c w w') (hd : ∀ k, T k ≠ 0 → C k = d) (hn : d ≠ c) : ∃ Tp, ze (Go.Proofs.YtlfdgkiliegaiaaGreatDoor.own Tp w) w w' ∧ ∀ k, T k ≠ 0 → Tp k = 0 := by
 refine ⟨fun k => if C k = c then 1 else 0, h.wi.mono fun k hk => ?_, fun k hk => ?_⟩
 ·rcases hk with e | e
  ·exact .inl (by show (if C k = c then 1 else 0) ≠ 0; rw [if_pos e]; decide)
  ·exact .inr e
 ·show (if C k = c then 1 else 0) = 0;rw [if_neg (fun e => hn (by rw [← hd k hk, e]))]
theorem zar.gm {C : Nat → Nat} {c d q : Nat} {w w' : World} {T : Nat → Nat} {g : Gr} (h : zar C c w w') (hg : GM T q w g) (hd : ∀ k, T k ≠ 0 → C k = d) (hn : d ≠ c) : GM T q w' g := by
 obtain ⟨Tp, h1, h2⟩ := h.tags hd hn;exact hg.other h1 h2
theorem zar.oth {C : Nat → Nat} {c d : Nat} {q : Option Nat} {w w' : World} {T : Nat → Nat} {g : Option Gr} (h : zar C c w w') (hg : Oth T q w g) (hd : ∀ k, T k ≠ 0 → C k = d) (hn : d ≠ c) : Oth T q w' g := by
 obtain ⟨Tp, h1, h2⟩ := h.tags hd hn;exact hg.kept h1 h2
theorem zar.rest {C : Nat → Nat} {c d q : Nat} {w w' : World} {T : Nat → Nat} {s : PSt} (h : zar C c w w') (hg : zch T q w s) (hd : ∀ k, T k ≠ 0 → C k = d) (hn : d ≠ c) : zch T q w' s := by
 obtain ⟨Tp, h1, h2⟩ := h.tags hd hn;exact zgw hg h1 h2
def reC (C : Nat → Nat) (c : Nat) (T' : Nat → Nat) : Nat → Nat := fun k => if T' k ≠ 0 then c else if C k = c then 0 else C k
theorem zbw {C T' : Nat → Nat} {c k : Nat} (h : T' k ≠ 0) : reC C c T' k = c := by unfold reC; rw [if_pos h]
theorem znx {C T' : Nat → Nat} {c d k : Nat} (h : C k = d) (hd : d ≠ c) (h0 : T' k = 0) : reC C c T' k = d := by unfold reC; rw [if_neg (by rw [h0]; decide), if_neg (by rw [h]; exact hd), h]
theorem zaj {C T' : Nat → Nat} {c k : Nat} (h : reC C c T' k ≠ 0) : T' k ≠ 0 ∨ C k ≠ 0 := by
 unfold reC at h;by_cases h1 : T' k ≠ 0
 ·exact .inl h1
 ·rw [if_neg h1] at h;by_cases h2 : C k = c
  ·rw [if_pos h2] at h; exact absurd rfl h
  ·rw [if_neg h2] at h; exact .inr h
theorem zci {C T T' : Nat → Nat} {c d k : Nat} {w : World} (hlt : ∀ k, C k ≠ 0 → k < w.heap.size) (ht : ∀ k, T k ≠ 0 → C k = c) (hn : ∀ k, T' k ≠ 0 → own T w k) (h : C k = d) (h0 : d ≠ 0) (hd : d ≠ c) : reC C c T' k = d := by
 refine znx h hd (Classical.byContradiction fun e => ?_);rcases hn k e with e2 | e2
 ·exact hd (by rw [← h]; exact ht k e2)
 ·have := hlt k (by rw [h]; exact h0); omega
section
variable {C Tm To Tp : Nat → Nat} {p pm : Nat} {po : Option Nat} {pp : Nat} {vt vo : Value} {w w' : World} {s : Scr} {ps : PSt}
theorem SAt.below (h : SAt C Tm To Tp p pm po pp vt vo w s ps) (b : Below w.heap.size w w') : SAt C Tm To Tp p pm po pp vt vo w' s ps :=
 ⟨fun k hk => Nat.lt_of_lt_of_le (h.lt k hk) b.size, h.cp, zm h.blk b (zj h.blk), h.gm.below b, by
  rcases h.go with e | ⟨q, g, h1, h2, hg⟩
  ·exact .inl e
  ·exact .inr ⟨q, g, h1, h2, hg.below b⟩, h.rp.below b, zh h.ta b, zh h.ou b, h.t2, h.t3, h.t4, h.t5, h.t6⟩
theorem SAt.field (h : SAt C Tm To Tp p pm po pp vt vo w s ps) (i : Nat) (v : Value) {s' : Scr} (hs : (s.cells pm po pp vt vo).setIfInBounds i v = s'.cells pm po pp vt vo) (h1 : s'.main = s.main) (h2 : s'.other = s.other) (h3 : s'.tabs = s.tabs) (h4 : s'.out = s.out) :
  SAt C Tm To Tp p pm po pp vt vo (w.setCell ⟨p, i, none⟩ v) s' ps := by
 have g : w.grownBy (w.setCell ⟨p, i, none⟩ v) (some p) := zO (zr _ _) _ _;have K : zar C 1 w (w.setCell ⟨p, i, none⟩ v) := .of_gb g (fun k hk => by injection hk with hk; subst hk; exact .inl h.cp);refine ⟨fun k hk => Nat.lt_of_lt_of_le (h.lt k hk) g.size, h.cp, by rw [← hs]; exact zw h.blk i v, by rw [h1]; exact K.gm h.gm h.t4 (by decide), by rw [h2]; exact K.oth h.go h.t5 (by decide), K.rest h.rp h.t6 (by decide), ?_, ?_, h.t2, h.t3, h.t4, h.t5, h.t6⟩
 ·rw [h3]; exact K.row h.ta h.t2 (by decide)
 ·rw [h4]; exact K.row h.ou h.t3 (by decide)
theorem SAt.main' {T' : Nat → Nat} {g' : Gr} (h : SAt C Tm To Tp p pm po pp vt vo w s ps) (hw : ze (own Tm w) w w') (hg : GM T' pm w' g') (hn : ∀ k, T' k ≠ 0 → own Tm w k) :
  SAt (reC C 4 T') T' To Tp p pm po pp vt vo w' { s with main := g' } ps ∧ ∀ k, reC C 4 T' k ≠ 0 → own C w k := by
 have K := zar.of_own hw h.t4;have hk : ∀ {d k : Nat}, C k = d → d ≠ 0 → d ≠ 4 → reC C 4 T' k = d := fun e h0 hd => zci h.lt h.t4 hn e h0 hd;refine ⟨⟨fun k hk2 => ?_, hk h.cp (by decide) (by decide), K.blk h.blk h.cp (by decide), hg, K.oth h.go h.t5 (by decide), K.rest h.rp h.t6 (by decide), K.row h.ta h.t2 (by decide), K.row h.ou h.t3 (by decide), fun k e => hk (h.t2 k e) (by decide) (by decide), fun k e => hk (h.t3 k e) (by decide) (by decide), fun k e => zbw e, fun k e => hk (h.t5 k e) (by decide) (by decide), fun k e => hk (h.t6 k e) (by decide) (by decide)⟩, fun k hk2 => ?_⟩
 ·rcases zaj hk2 with e | e
  ·exact hg.lt k e
  ·exact Nat.lt_of_lt_of_le (h.lt k e) hw.size
 ·rcases zaj hk2 with e | e
  ·rcases hn k e with e2 | e2
   ·exact .inl (by rw [h.t4 k e2]; decide)
   ·exact .inr e2
  ·exact .inl e
theorem SAt.other' {T' : Nat → Nat} {q : Nat} {g g' : Gr} (h : SAt C Tm To Tp p pm (some q) pp vt vo w s ps) (hw : ze (own To w) w w') (hg : GM T' q w' g') (hn : ∀ k, T' k ≠ 0 → own To w k) :
  SAt (reC C 5 T') Tm T' Tp p pm (some q) pp vt vo w' { s with other := some g' } ps ∧ ∀ k, reC C 5 T' k ≠ 0 → own C w k := by
 have K := zar.of_own hw h.t5;have hk : ∀ {d k : Nat}, C k = d → d ≠ 0 → d ≠ 5 → reC C 5 T' k = d := fun e h0 hd => zci h.lt h.t5 hn e h0 hd;refine ⟨⟨fun k hk2 => ?_, hk h.cp (by decide) (by decide), K.blk h.blk h.cp (by decide), K.gm h.gm h.t4 (by decide), .inr ⟨q, g', rfl, rfl, hg⟩, K.rest h.rp h.t6 (by decide), K.row h.ta h.t2 (by decide), K.row h.ou h.t3 (by decide), fun k e => hk (h.t2 k e) (by decide) (by decide), fun k e => hk (h.t3 k e) (by decide) (by decide), fun k e => hk (h.t4 k e) (by decide) (by decide), fun k e => zbw e, fun k e => hk (h.t6 k e) (by decide) (by decide)⟩, fun k hk2 => ?_⟩
 ·rcases zaj hk2 with e | e
  ·exact hg.lt k e
  ·exact Nat.lt_of_lt_of_le (h.lt k e) hw.size
 ·rcases zaj hk2 with e | e
  ·rcases hn k e with e2 | e2
   ·exact .inl (by rw [h.t5 k e2]; decide)
   ·exact .inr e2
  ·exact .inl e
theorem SAt.parser' {T' : Nat → Nat} {ps' : PSt} (h : SAt C Tm To Tp p pm po pp vt vo w s ps) (hw : ze (own Tp w) w w') (hg : zch T' pp w' ps') (hn : ∀ k, T' k ≠ 0 → own Tp w k) :
  SAt (reC C 6 T') Tm To T' p pm po pp vt vo w' s ps' ∧ ∀ k, reC C 6 T' k ≠ 0 → own C w k := by
 have K := zar.of_own hw h.t6;have hk : ∀ {d k : Nat}, C k = d → d ≠ 0 → d ≠ 6 → reC C 6 T' k = d := fun e h0 hd => zci h.lt h.t6 hn e h0 hd;refine ⟨⟨fun k hk2 => ?_, hk h.cp (by decide) (by decide), K.blk h.blk h.cp (by decide), K.gm h.gm h.t4 (by decide), K.oth h.go h.t5 (by decide), hg, K.row h.ta h.t2 (by decide), K.row h.ou h.t3 (by decide), fun k e => hk (h.t2 k e) (by decide) (by decide), fun k e => hk (h.t3 k e) (by decide) (by decide), fun k e => hk (h.t4 k e) (by decide) (by decide), fun k e => hk (h.t5 k e) (by decide) (by decide), fun k e => zbw e⟩, fun k hk2 => ?_⟩
 ·rcases zaj hk2 with e | e
  ·exact hg.1 k e
  ·exact Nat.lt_of_lt_of_le (h.lt k e) hw.size
 ·rcases zaj hk2 with e | e
  ·rcases hn k e with e2 | e2
   ·exact .inl (by rw [h.t6 k e2]; decide)
   ·exact .inr e2
  ·exact .inl e
end
theorem zdl {C0 C : Nat → Nat} {w0 w w' : World} (h : ze (own C0 w0) w0 w) (hn : ∀ k, C k ≠ 0 → own C0 w0 k) (hw : ze (own C w) w w') : ze (own C0 w0) w0 w' :=
 h.trans (hw.mono fun k hk => by
  rcases hk with e | e
  ·exact hn k e
  ·exact .inr (by have := h.size; omega))
end
end Go.Proofs.YtlfdgkiliegaiaaGreatDoor
