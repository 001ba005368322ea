/- Package grid, texts laid together: Z1 Z3 Z4 P2 P3 A2 A3 D1 V1 V2. -/
import Derived.Test.YtlfdgkiliegaiaaGreatDoorY5
import Derived.Test.YtlfdgkiliegaiaaGreatDoorY6
import Derived.Test.YtlfdgkiliegaiaaGreatDoorY3
import Derived.Lib.ItoaLen
import Derived.Test.YtlfdgkiliegaiaaGreatDoorRows
import Derived.Test.YtlfdgkiliegaiaaGreatDoorY1
import Derived.Test.YtlfdgkiliegaiaaGreatDoorShelf
/- Package screen, plain: what its functions do. -/
namespace Go.Proofs.YtlfdgkiliegaiaaGreatDoor
open Go.RowKit

/-! Numbers as bits. -/
def bAnd (x y : Int) : Int := IntKind.i64.wrap ((BitVec.ofInt 64 x &&& BitVec.ofInt 64 y).toNat : Int)
def bOr (x y : Int) : Int := IntKind.i64.wrap ((BitVec.ofInt 64 x ||| BitVec.ofInt 64 y).toNat : Int)
def bNot (x y : Int) : Int := IntKind.i64.wrap ((BitVec.ofInt 64 x &&& ~~~ (BitVec.ofInt 64 y)).toNat : Int)
/-- What is saved. -/
structure Sav where
  x : Int
  y : Int
  wait : Bool
  pen : Sty
  origin : Bool
  l0 : Bool
  l1 : Bool
  second : Int
def sav0 : Sav := ⟨0, 0, false, plainS, false, false, false, 0⟩
/-- A screen, but its parser. -/
structure Scr where
  now : Sav
  main : Gr
  other : Option Gr
  k0 : Sav
  k1 : Sav
  modes : Int
  top : Int
  bottom : Int
  tabs : List Bool
  title : List UInt8
  last : Int
  bells : Int
  out : List UInt8
def Scr.cols (s : Scr) : Int := s.main.cols
def Scr.rows (s : Scr) : Int := s.main.rows.length
def Scr.shown (s : Scr) : Gr := s.other.getD s.main
def Scr.turn (s : Scr) (f : Gr → Gr) : Scr := match s.other with
  | some g => { s with other := some (f g) }
  | none => { s with main := f s.main }
def Scr.has (s : Scr) (m : Int) : Bool := bAnd s.modes m != 0
def Scr.mode (s : Scr) (m : Int) (on : Bool) : Scr := { s with modes := if on then bOr (bNot s.modes m) m else bNot s.modes m }
def Scr.blank (s : Scr) : Sty := ⟨-1, s.now.pen.bg, 0⟩
def Scr.whole (s : Scr) : Scr := { s with top := 0, bottom := s.rows - 1 }
/-- The tab stops of so many columns. -/
def stopsL (tabs : List Bool) (cols : Nat) : List Bool := (tabs ++ (List.range' tabs.length (cols - tabs.length)).map fun n => decide (0 < n ∧ n % 8 = 0)).take cols
def Scr.stops (s : Scr) : Scr := { s with tabs := stopsL s.tabs s.main.cols }
def Scr.reset (s : Scr) : Scr :=
  (Scr.whole (Scr.stops ⟨sav0, newG s.main.cols s.main.rows.length s.main.limit, none, sav0, sav0, 9, 0, 0, [], [], 0, s.bells, s.out⟩))
def newS (cols rows limit : Nat) : Scr := Scr.reset ⟨sav0, newG cols rows limit, none, sav0, sav0, 0, 0, 0, [], [], 0, 0, []⟩
def Scr.index (s : Scr) : Scr :=
  if s.now.y = s.bottom then s.turn (fun g => g.up s.top s.bottom 1 s.blank s.other.isNone)
  else if s.now.y < s.rows - 1 then { s with now := { s.now with y := s.now.y + 1 } } else s
def Scr.reverse (s : Scr) : Scr :=
  if s.now.y = s.top then s.turn (fun g => g.down s.top s.bottom 1 s.blank)
  else if 0 < s.now.y then { s with now := { s.now with y := s.now.y - 1 } } else s
def Scr.place (s : Scr) (x y : Int) : Scr := { s with now := { s.now with x := max 0 (min x (s.cols - 1)), y := max 0 (min y (s.rows - 1)), wait := false } }
def Scr.line (s : Scr) (y : Int) : Int := if s.has 4 then max s.top (min (y + s.top) s.bottom) else y
def Scr.calm (s : Scr) : Scr := { s with now := { s.now with wait := false } }
def Scr.toX (s : Scr) (x : Int) : Scr := { s with now := { s.now with x := x } }
def Scr.on (s : Scr) : Scr := ((s.turn (fun g => g.setWrap s.now.y true)).toX 0).index
def linesL : List Int := [9670, 9618, 9225, 9228, 9229, 9226, 176, 177, 9252, 9227, 9496, 9488, 9484, 9492, 9532, 9146, 9147, 9472, 9148, 9149, 9500, 9508, 9524, 9516, 9474, 8804, 8805, 960, 8800, 163, 183]
def Scr.drawn (s : Scr) (r : Int) : Int := if (if s.now.second = 0 then s.now.l0 else s.now.l1) = true ∧ 96 ≤ r ∧ r ≤ 126 then linesL.getD (r - 96).toNat 0 else r
/-- A rune where the cursor is, or in the next row. -/
def Scr.fit (s : Scr) (w : Int) : Scr :=
  let s1 := (if s.now.wait && s.has 1 then s.on else s).calm
  if s1.cols - w < s1.now.x then (if s.has 1 then s1.on else s1.toX (s1.cols - w)) else s1
def Scr.lay (s : Scr) (c w : Int) : Scr :=
  let s1 := if s.has 2 then s.turn (fun g => g.ins s.now.x s.now.y w s.blank) else s
  let s2 := s1.turn (fun g => g.put s1.now.x s1.now.y ⟨c, w, s1.now.pen⟩)
  if s2.cols ≤ s2.now.x + w then { s2 with now := { s2.now with x := s2.cols - 1, wait := s2.has 1 } } else s2.toX (s2.now.x + w)
def Scr.print (s : Scr) (r : Int) : Scr :=
  let w := wid (s.drawn r)
  if w < 1 ∨ s.cols < w then s else { (s.fit w).lay (s.drawn r) w with last := r }
def nextF : Nat → List Bool → Int → Int → Int
  | 0, _, _, x => x
  | n + 1, t, m, x => if x < m ∧ t.getD x.toNat false = false then nextF n t m (x + 1) else x
def prevF : Nat → List Bool → Int → Int
  | 0, _, x => x
  | n + 1, t, x => if 0 < x ∧ t.getD x.toNat false = false then prevF n t (x - 1) else x
def Scr.tab (s : Scr) : Scr := s.place (nextF s.main.cols s.tabs (s.cols - 1) (min (s.now.x + 1) (s.cols - 1))) s.now.y
def Scr.back (s : Scr) : Scr := s.place (prevF s.main.cols s.tabs (s.now.x - 1)) s.now.y
def Scr.control (s : Scr) (b : UInt8) : Scr :=
  let k : Int := b.toNat
  let s := if 8 ≤ k ∧ k ≤ 13 then s.calm else s
  if k = 7 then { s with bells := IntKind.i64.wrap (s.bells + 1) }
  else if k = 8 then s.toX (max 0 (s.now.x - 1))
  else if k = 9 then s.tab
  else if k = 10 ∨ k = 11 ∨ k = 12 then (if s.index.has 512 then s.index.toX 0 else s.index)
  else if k = 13 then s.toX 0
  else if k = 14 ∨ k = 15 then { s with now := { s.now with second := 15 - k } } else s
def Scr.say (s : Scr) (t : List UInt8) : Scr := { s with out := s.out ++ t }
def Scr.slot (s : Scr) : Sav := if s.other.isSome then s.k1 else s.k0
def Scr.setSlot (s : Scr) (v : Sav) : Scr := if s.other.isSome then { s with k1 := v } else { s with k0 := v }
def Scr.save (s : Scr) : Scr := let s1 : Scr := { s with now := { s.now with origin := s.has 4 } }; s1.setSlot s1.now
def Scr.restore (s : Scr) : Scr := ({ s with now := s.slot } : Scr).mode 4 s.slot.origin
def Scr.keep (s : Scr) (on : Bool) : Scr := if on then s.save else s.restore
/-- The other screen, or main. -/
def Scr.swap (s : Scr) (on : Bool) : Scr :=
  if on = s.other.isSome then s
  else ((({ s with other := if on then some (newG s.main.cols s.main.rows.length 0) else none } : Scr).mode 256 on).whole).calm
def fillE (g : Gr) : Nat → Nat → Gr
  | _, 0 => g
  | y, x + 1 => (fillE g y x).put x y ⟨69, 1, plainS⟩
def fillAll (g : Gr) (cols : Nat) : Nat → Gr
  | 0 => g
  | y + 1 => ((fillE (fillAll g cols y) y cols).setWrap y false)
def Scr.fill (s : Scr) : Scr := ((s.whole).place 0 0).turn (fun g => fillAll g s.main.cols s.main.rows.length)
def da1 : List UInt8 := [27, 91, 63, 54, 50, 59, 99]
def Scr.bare (s : Scr) (b : UInt8) : Scr :=
  let k : Int := b.toNat
  if k = 55 then s.save
  else if k = 56 then s.restore
  else if k = 69 then (s.toX 0).index.calm
  else if k = 68 then s.index.calm
  else if k = 77 then s.reverse.calm
  else if k = 72 then { s with tabs := s.tabs.set s.now.x.toNat true }
  else if k = 99 then s.reset
  else if k = 61 ∨ k = 62 then s.mode 32 (k == 61)
  else if k = 90 then s.say da1 else s
def Scr.escape (s : Scr) (b : UInt8) (inter : List UInt8) : Scr :=
  let k : Int := b.toNat
  if inter = [40] then (if k = 48 then { s with now := { s.now with l0 := true } } else if k = 65 ∨ k = 66 then { s with now := { s.now with l0 := false } } else s)
  else if inter = [41] then (if k = 48 then { s with now := { s.now with l1 := true } } else if k = 65 ∨ k = 66 then { s with now := { s.now with l1 := false } } else s)
  else if inter = [35] then (if k = 56 then s.fill else s)
  else if inter = [] then s.bare b else s
def par (ps : List Int) (i : Nat) (first : Int) : Int := if i < ps.length ∧ 0 ≤ ps.getD i (-1) then min (ps.getD i (-1)) 9999 else first
def Scr.upY (s : Scr) (n : Int) : Int := if s.top ≤ s.now.y then s.now.y - min n (s.now.y - s.top) else s.now.y - n
def Scr.downY (s : Scr) (n : Int) : Int := if s.now.y ≤ s.bottom then s.now.y + min n (s.bottom - s.now.y) else s.now.y + n
def itF {α : Type} (f : α → α) : Nat → α → α
  | 0, a => a
  | n + 1, a => itF f n (f a)
/-- What moves the cursor. -/
def Scr.move (s : Scr) (k n : Int) : Option Scr :=
  if k = 65 then some (s.place s.now.x (s.upY n))
  else if k = 66 ∨ k = 101 then some (s.place s.now.x (s.downY n))
  else if k = 67 ∨ k = 97 then some (s.place (s.now.x + n) s.now.y)
  else if k = 68 then some (s.place (s.now.x - n) s.now.y)
  else if k = 69 then some ((s.place s.now.x (s.downY n)).toX 0)
  else if k = 70 then some ((s.place s.now.x (s.upY n)).toX 0)
  else if k = 71 ∨ k = 96 then some (s.place (n - 1) s.now.y)
  else if k = 100 then some (s.place s.now.x (s.line (n - 1)))
  else if k = 73 then some (itF Scr.tab n.toNat s)
  else if k = 90 then some (itF Scr.back n.toNat s) else none
def Scr.inside (s : Scr) : Bool := !(decide (s.now.y < s.top) || decide (s.bottom < s.now.y))
/-- What changes cells. -/
def Scr.edit (s : Scr) (k n : Int) : Option Scr :=
  if k = 64 then some (s.turn (fun g => g.ins s.now.x s.now.y n s.blank)).calm
  else if k = 80 then some (s.turn (fun g => g.del s.now.x s.now.y n s.blank)).calm
  else if k = 88 then some (s.turn (fun g => g.erase s.now.x s.now.y n s.blank)).calm
  else if k = 76 then some (if s.inside then ((s.toX 0).calm).turn (fun g => g.down s.now.y s.bottom n s.blank) else s)
  else if k = 77 then some (if s.inside then ((s.toX 0).calm).turn (fun g => g.up s.now.y s.bottom n s.blank false) else s)
  else if k = 83 then some (s.turn (fun g => g.up s.top s.bottom n s.blank s.other.isNone))
  else if k = 84 then some (s.turn (fun g => g.down s.top s.bottom n s.blank))
  else if k = 98 then some (itF (fun t => if t.last ≠ 0 then t.print t.last else t) n.toNat s) else none
/-- Rows from .. (n of them) made blank. -/
def cleanF (cols : Int) (b : Sty) (y : Int) : Nat → Gr → Gr
  | 0, g => g
  | n + 1, g => ((cleanF cols b y n g).erase 0 (y + n) cols b).setWrap (y + n) false
def Scr.clean (s : Scr) (y z : Int) : Scr := s.turn (fun g => cleanF s.cols s.blank y (z - y).toNat g)
def Scr.inRow (s : Scr) (k : Int) : Scr :=
  if k = 0 then s.calm.turn (fun g => (g.erase s.now.x s.now.y s.cols s.blank).setWrap s.now.y false)
  else if k = 1 then s.calm.turn (fun g => g.erase 0 s.now.y (s.now.x + 1) s.blank)
  else if k = 2 then s.calm.clean s.now.y (s.now.y + 1) else s.calm
def Scr.forget (s : Scr) : Scr := { s with main := { s.main with old := [] } }
def Scr.inAll (s : Scr) (k : Int) : Scr :=
  if k = 0 then (s.inRow 0).clean (s.now.y + 1) s.rows
  else if k = 1 then (s.inRow 1).clean 0 s.now.y
  else if k = 2 then s.calm.clean 0 s.rows
  else if k = 3 then s.calm.forget else s.calm
def Scr.report (s : Scr) (k : Int) : Scr :=
  if k = 5 then s.say [27, 91, 48, 110]
  else if k = 6 then s.say ([27, 91] ++ Lib.itoa ((if s.has 4 then max 0 (s.now.y - s.top) else s.now.y) + 1) ++ [59] ++ Lib.itoa (s.now.x + 1) ++ [82]) else s
def pen1 (p : Sty) (n : Int) (kc : Nat × Int) : Sty :=
  let p1 : Sty := if n = kc.2 then { p with attr := bOr p.attr (2 ^ kc.1 : Nat) } else p
  if n = kc.2 + 20 ∧ 1 < kc.1 then { p1 with attr := bNot p1.attr (2 ^ kc.1 : Nat) } else p1
def look1 (p : Sty) (n : Int) : Sty :=
  if n = 0 then plainS
  else if n = 22 then { p with attr := bNot p.attr 3 }
  else if 30 ≤ n ∧ n ≤ 37 then { p with fg := n - 30 }
  else if n = 39 then { p with fg := -1 }
  else if 40 ≤ n ∧ n ≤ 47 then { p with bg := n - 40 }
  else if n = 49 then { p with bg := -1 }
  else if 90 ≤ n ∧ n ≤ 97 then { p with fg := n - 82 }
  else if 100 ≤ n ∧ n ≤ 107 then { p with bg := n - 92 }
  else [(0, 1), (1, 2), (2, 3), (3, 4), (4, 5), (5, 7), (6, 8), (7, 9)].foldl (fun p kc => pen1 p n kc) p
/-- A colour that parameters say, and how many they are. -/
def colourP (ps : List Int) (i : Nat) : Int × Nat :=
  if i + 2 ≤ ps.length ∧ par ps i 0 = 5 ∧ par ps (i + 1) 0 ≤ 255 then (par ps (i + 1) 0, 2)
  else if i + 4 ≤ ps.length ∧ par ps i 0 = 2 ∧ max (max (par ps (i + 1) 0) (par ps (i + 2) 0)) (par ps (i + 3) 0) ≤ 255 then (16777216 + par ps (i + 1) 0 * 65536 + par ps (i + 2) 0 * 256 + par ps (i + 3) 0, 4)
  else (0, 0)
def looksF (ps : List Int) : Nat → Nat → Sty → Sty
  | 0, _, p => p
  | f + 1, i, p =>
    if i < ps.length then
      if par ps i 0 = 38 ∨ par ps i 0 = 48 then
        if (colourP ps (i + 1)).2 = 0 then p
        else looksF ps f (i + 1 + (colourP ps (i + 1)).2) (if par ps i 0 = 38 then { p with fg := (colourP ps (i + 1)).1 } else { p with bg := (colourP ps (i + 1)).1 })
      else looksF ps f (i + 1) (look1 p (par ps i 0))
    else p
def looksL (ps : List Int) (p : Sty) : Sty := looksF ps ps.length 0 (if ps = [] then plainS else p)
def Scr.looks (s : Scr) (ps : List Int) : Scr := { s with now := { s.now with pen := looksL ps s.now.pen } }
def Scr.setMode1 (s : Scr) (k : Int) (on : Bool) : Scr := if k = 4 then s.mode 2 on else if k = 20 then s.mode 512 on else s
def Scr.region (s : Scr) (ps : List Int) : Scr :=
  let t := max 1 (par ps 0 1)
  let b0 := par ps 1 s.rows
  let b := min (if b0 = 0 then s.rows else b0) s.rows
  if t < b then let s1 : Scr := { s with top := t - 1, bottom := b - 1 }; s1.place 0 (s1.line 0) else s
def Scr.others (s : Scr) (k : Int) (ps : List Int) : Scr :=
  let n := par ps 0 0
  if k = 72 ∨ k = 102 then s.place (max 1 (par ps 1 1) - 1) (s.line (max 1 (par ps 0 1) - 1))
  else if k = 74 then s.inAll n
  else if k = 75 then s.inRow n
  else if k = 99 then (if n = 0 then s.say da1 else s)
  else if k = 110 then s.report n
  else if k = 103 then (if n = 0 then { s with tabs := s.tabs.set s.now.x.toNat false } else if n = 3 then { s with tabs := List.replicate s.tabs.length false } else s)
  else if k = 104 ∨ k = 108 then (List.range ps.length).foldl (fun t i => t.setMode1 (par ps i 0) (k == 104)) s
  else if k = 109 then s.looks ps
  else if k = 114 then s.region ps
  else if k = 115 ∨ k = 117 then s.keep (k == 115) else s
def Scr.private (s : Scr) (k : Int) (on : Bool) : Scr :=
  if k = 1 then s.mode 16 on
  else if k = 6 then let s1 := s.mode 4 on; s1.place 0 (s1.line 0)
  else if k = 7 then let s1 := s.mode 1 on; { s1 with now := { s1.now with wait := s1.now.wait && on } }
  else if k = 25 then s.mode 8 on
  else if k = 47 ∨ k = 1047 then s.swap on
  else if k = 1048 then s.keep on
  else if k = 1049 then (if on then s.save.swap true else (s.swap false).restore)
  else if k = 1000 then s.mode 128 on
  else if k = 2004 then s.mode 64 on else s
def Scr.soft (s : Scr) : Scr :=
  let s1 := ({ s with now := { sav0 with x := s.now.x, y := s.now.y } } : Scr).whole
  ({ s1 with modes := bOr (bNot s1.modes 54) 9 } : Scr).setSlot sav0
def Scr.csi (s : Scr) (b : UInt8) (ps : List Int) (inter : List UInt8) : Scr :=
  let k : Int := b.toNat
  if inter = [] then (match s.move k (max 1 (par ps 0 1)) with
    | some t => t
    | none => match s.edit k (max 1 (par ps 0 1)) with
      | some t => t
      | none => s.others k ps)
  else if inter = [63] then (if k = 104 ∨ k = 108 then (List.range ps.length).foldl (fun t i => t.private (par ps i 0) (k == 104)) s else s)
  else if inter = [33] then (if k = 112 then s.soft else s)
  else if inter = [62] then (if k = 99 ∧ par ps 0 0 = 0 then s.say [27, 91, 62, 48, 59, 49, 48, 59, 48, 99] else s) else s
/-- As much of a title as may be. -/
def titleF : Int → List Int → List Int
  | _, [] => []
  | n, r :: l => if wid r < 1 then titleF n l else if 64 < n + wid r then [] else r :: titleF (n + wid r) l
def Scr.named (s : Scr) (t : List UInt8) : Scr :=
  if t.take 2 = [48, 59] ∨ t.take 2 = [50, 59] then { s with title := (titleF 0 (runes (t.drop 2))).flatMap (fun r => (Utf8.encode r).data.toList) } else s
end Go.Proofs.YtlfdgkiliegaiaaGreatDoor

/- Package screen, plain: a screen stays in its bounds. -/
namespace Go.Proofs.YtlfdgkiliegaiaaGreatDoor
open Go.RowKit

theorem ofInt_nat (a : Nat) (h : a < 9223372036854775808) : (BitVec.ofInt 64 (a : Int)).toNat = a := by
  rw [BitVec.ofInt_natCast, BitVec.toNat_ofNat]; omega
theorem bOr_nat (a b : Nat) (ha : a < 1024) (hb : b < 1024) : ∃ k : Nat, bOr (a : Int) (b : Int) = k ∧ k < 1024 := by
  have h : a ||| b < 2 ^ 10 := Nat.or_lt_two_pow (by omega) (by omega)
  refine ⟨a ||| b, ?_, by omega⟩
  unfold bOr
  rw [BitVec.toNat_or, ofInt_nat a (by omega), ofInt_nat b (by omega), wrap64_id _ (by omega) (by omega)]
theorem bNot_nat (a : Nat) (y : Int) (ha : a < 1024) : ∃ k : Nat, bNot (a : Int) y = k ∧ k ≤ a := by
  have h : (BitVec.ofInt 64 (a : Int) &&& ~~~ (BitVec.ofInt 64 y)).toNat ≤ a := by
    rw [BitVec.toNat_and, ofInt_nat a (by omega)]
    exact Nat.and_le_left
  refine ⟨_, ?_, h⟩
  unfold bNot
  rw [wrap64_id _ (by omega) (by omega)]
def M10 (m : Int) : Prop := 0 ≤ m ∧ m < 1024
theorem M10.or {a b : Int} (ha : M10 a) (hb : M10 b) : M10 (bOr a b) := by
  obtain ⟨x, rfl⟩ : ∃ n : Nat, a = n := ⟨a.toNat, by have := ha.1; omega⟩
  obtain ⟨y, rfl⟩ : ∃ n : Nat, b = n := ⟨b.toNat, by have := hb.1; omega⟩
  obtain ⟨k, e, h⟩ := bOr_nat x y (by have := ha.2; omega) (by have := hb.2; omega)
  rw [e]; exact ⟨by omega, by omega⟩
theorem bNot_le {a : Int} (ha : M10 a) (b : Int) : 0 ≤ bNot a b ∧ bNot a b ≤ a := by
  obtain ⟨x, rfl⟩ : ∃ n : Nat, a = n := ⟨a.toNat, by have := ha.1; omega⟩
  obtain ⟨k, e, h⟩ := bNot_nat x b (by have := ha.2; omega)
  rw [e]; exact ⟨by omega, by omega⟩
theorem M10.not {a : Int} (ha : M10 a) (b : Int) : M10 (bNot a b) := by
  have h := bNot_le ha b
  have := ha.2
  exact ⟨h.1, by omega⟩
/-- What is saved lies on the screen. -/
structure Sav.In (c r : Nat) (v : Sav) : Prop where
  x0 : 0 ≤ v.x
  x1 : v.x < c
  y0 : 0 ≤ v.y
  y1 : v.y < r
  pen : okS v.pen = true
  sec : v.second = 0 ∨ v.second = 1
theorem plain_okS : okS plainS = true := by decide
theorem sav0_in {c r : Nat} (hc : 1 ≤ c) (hr : 1 ≤ r) : sav0.In c r := ⟨by decide, by show (0 : Int) < c; omega, by decide, by show (0 : Int) < r; omega, plain_okS, .inl rfl⟩
def Same (c r : Nat) (g : Gr) : Prop := g.cols = c ∧ g.rows.length = r
structure Scr.Ok (c r : Nat) (s : Scr) : Prop where
  main : Same c r s.main
  other : ∀ g, s.other = some g → Same c r g
  now : s.now.In c r
  k0 : s.k0.In c r
  k1 : s.k1.In c r
  t0 : 0 ≤ s.top
  tb : s.top ≤ s.bottom
  b1 : s.bottom < r
  tl : s.tabs.length = c
  md : M10 s.modes
theorem Same.of_dim {c r : Nat} {g g' : Gr} (h : Same c r g) (hd : ∀ l, Dim g c r l → Dim g' c r l) : Same c r g' := by
  have := hd g.limit ⟨h.1, h.2, rfl⟩
  exact ⟨this.1, this.2.1⟩
section
variable {c r : Nat} {s : Scr}
theorem Scr.Ok.cols (h : s.Ok c r) : s.cols = c := by unfold Scr.cols; rw [h.main.1]
theorem Scr.Ok.rows (h : s.Ok c r) : s.rows = r := by unfold Scr.rows; rw [h.main.2]
theorem Scr.Ok.turn (h : s.Ok c r) (f : Gr → Gr) (hf : ∀ g, Same c r g → Same c r (f g)) : (s.turn f).Ok c r := by
  unfold Scr.turn
  split
  · rename_i g hg
    exact ⟨h.main, fun g' hg' => by injection hg' with hg'; rw [← hg']; exact hf g (h.other g hg), h.now, h.k0, h.k1, h.t0, h.tb, h.b1, h.tl, h.md⟩
  · rename_i hg
    exact ⟨hf _ h.main, fun g' hg' => (by rw [hg] at hg'; cases hg'), h.now, h.k0, h.k1, h.t0, h.tb, h.b1, h.tl, h.md⟩
theorem turn_now (s : Scr) (f : Gr → Gr) : (s.turn f).now = s.now := by unfold Scr.turn; split <;> rfl
theorem Scr.Ok.put (h : s.Ok c r) {v : Sav} (hv : v.In c r) : ({ s with now := v } : Scr).Ok c r := ⟨h.main, h.other, hv, h.k0, h.k1, h.t0, h.tb, h.b1, h.tl, h.md⟩
theorem Scr.Ok.toX (h : s.Ok c r) {x : Int} (h0 : 0 ≤ x) (h1 : x < c) : (s.toX x).Ok c r := h.put ⟨h0, h1, h.now.y0, h.now.y1, h.now.pen, h.now.sec⟩
theorem Scr.Ok.calm (h : s.Ok c r) : s.calm.Ok c r := h.put ⟨h.now.x0, h.now.x1, h.now.y0, h.now.y1, h.now.pen, h.now.sec⟩
theorem Scr.Ok.mode (h : s.Ok c r) (m : Int) (hm : M10 m) (on : Bool) : (s.mode m on).Ok c r := by
  refine ⟨h.main, h.other, h.now, h.k0, h.k1, h.t0, h.tb, h.b1, h.tl, ?_⟩
  show M10 (if on = true then bOr (bNot s.modes m) m else bNot s.modes m)
  split
  · exact (h.md.not m).or hm
  · exact h.md.not m
theorem Scr.Ok.whole (h : s.Ok c r) (hr : 1 ≤ r) : s.whole.Ok c r := by
  have e := h.rows
  exact ⟨h.main, h.other, h.now, h.k0, h.k1, Int.le_refl 0, by show 0 ≤ s.rows - 1; omega, by show s.rows - 1 < r; omega, h.tl, h.md⟩
theorem Scr.Ok.place (h : s.Ok c r) (hc : 1 ≤ c) (hr : 1 ≤ r) (x y : Int) : (s.place x y).Ok c r := by
  have e := h.rows
  have e2 := h.cols
  unfold Scr.place
  exact h.put ⟨by show 0 ≤ max 0 _; omega, by show max 0 (min x (s.cols - 1)) < c; omega, by show 0 ≤ max 0 _; omega, by show max 0 (min y (s.rows - 1)) < r; omega, h.now.pen, h.now.sec⟩
theorem same_up {g : Gr} (h : Same c r g) (t b n : Int) (p : Sty) (k : Bool) : Same c r (g.up t b n p k) := h.of_dim fun _ hd => hd.up t b n p k
theorem same_down {g : Gr} (h : Same c r g) (t b n : Int) (p : Sty) : Same c r (g.down t b n p) := h.of_dim fun _ hd => hd.down t b n p
theorem same_put {g : Gr} (h : Same c r g) (x y : Int) (q : Cel) : Same c r (g.put x y q) := h.of_dim fun _ hd => hd.put x y q
theorem same_wrap {g : Gr} (h : Same c r g) (y : Int) (is : Bool) : Same c r (g.setWrap y is) := h.of_dim fun _ hd => hd.setWrap y is
theorem same_ins {g : Gr} (h : Same c r g) (x y n : Int) (p : Sty) : Same c r (g.ins x y n p) := h.of_dim fun _ hd => rowOp_dim _ x y n p hd
theorem same_del {g : Gr} (h : Same c r g) (x y n : Int) (p : Sty) : Same c r (g.del x y n p) := h.of_dim fun _ hd => rowOp_dim _ x y n p hd
theorem same_erase {g : Gr} (h : Same c r g) (x y n : Int) (p : Sty) : Same c r (g.erase x y n p) := h.of_dim fun _ hd => rowOp_dim _ x y n p hd
theorem same_new {l : Nat} : Same c r (newG c r l) := ⟨(Dim.new c r l).1, (Dim.new c r l).2.1⟩
theorem Scr.Ok.index (h : s.Ok c r) : s.index.Ok c r := by
  have e := h.rows
  unfold Scr.index
  split
  · exact h.turn _ fun g hg => same_up hg _ _ _ _ _
  · split
    · exact h.put ⟨h.now.x0, h.now.x1, by show 0 ≤ s.now.y + 1; have := h.now.y0; omega, by show s.now.y + 1 < r; omega, h.now.pen, h.now.sec⟩
    · exact h
theorem Scr.Ok.reverse (h : s.Ok c r) : s.reverse.Ok c r := by
  unfold Scr.reverse
  split
  · exact h.turn _ fun g hg => same_down hg _ _ _ _
  · split
    · exact h.put ⟨h.now.x0, h.now.x1, by show 0 ≤ s.now.y - 1; omega, by show s.now.y - 1 < r; have := h.now.y1; omega, h.now.pen, h.now.sec⟩
    · exact h
theorem Scr.Ok.on (h : s.Ok c r) (hc : 1 ≤ c) : s.on.Ok c r :=
  ((h.turn _ fun g hg => same_wrap hg _ _).toX (Int.le_refl 0) (by omega)).index
theorem Scr.Ok.fit (h : s.Ok c r) (hc : 1 ≤ c) (w : Int) (h1 : 1 ≤ w) (h2 : w ≤ c) : (s.fit w).Ok c r ∧ (s.fit w).now.x ≤ c - w := by
  have hs1 : ((if (s.now.wait && s.has 1) = true then s.on else s).calm).Ok c r := by
    split
    · exact (h.on hc).calm
    · exact h.calm
  unfold Scr.fit
  generalize ((if (s.now.wait && s.has 1) = true then s.on else s).calm) = s1 at hs1 ⊢
  have e := hs1.cols
  dsimp only
  have hon : s1.on.now.x = 0 := by
    unfold Scr.on Scr.index
    split
    · rw [turn_now]; rfl
    · split <;> rfl
  split
  · split
    · exact ⟨hs1.on hc, by rw [hon]; omega⟩
    · exact ⟨hs1.toX (by omega) (by omega), by show s1.cols - w ≤ _; omega⟩
  · exact ⟨hs1, by omega⟩
theorem Scr.Ok.lay (h : s.Ok c r) (hc : 1 ≤ c) (q w : Int) (h1 : 1 ≤ w) : (s.lay q w).Ok c r := by
  have hs1 : (if s.has 2 = true then s.turn (fun g => g.ins s.now.x s.now.y w s.blank) else s).Ok c r := by
    split
    · exact h.turn _ fun g hg => same_ins hg _ _ _ _
    · exact h
  unfold Scr.lay
  generalize (if s.has 2 = true then s.turn (fun g => g.ins s.now.x s.now.y w s.blank) else s) = s1 at hs1 ⊢
  dsimp only
  have hs2 := hs1.turn (fun g => g.put s1.now.x s1.now.y ⟨q, w, s1.now.pen⟩) fun g hg => same_put hg _ _ _
  generalize (s1.turn fun g => g.put s1.now.x s1.now.y ⟨q, w, s1.now.pen⟩) = s2 at hs2 ⊢
  have e := hs2.cols
  split
  · exact hs2.put ⟨by show 0 ≤ s2.cols - 1; omega, by show s2.cols - 1 < c; omega, hs2.now.y0, hs2.now.y1, hs2.now.pen, hs2.now.sec⟩
  · exact hs2.toX (by have := hs2.now.x0; omega) (by omega)
theorem Scr.Ok.print (h : s.Ok c r) (hc : 1 ≤ c) (x : Int) : (s.print x).Ok c r := by
  have e := h.cols
  unfold Scr.print
  dsimp only
  split
  · exact h
  · rename_i hw
    have h3 := ((h.fit hc (wid (s.drawn x)) (by omega) (by omega)).1).lay hc (s.drawn x) (wid (s.drawn x)) (by omega)
    exact ⟨h3.main, h3.other, h3.now, h3.k0, h3.k1, h3.t0, h3.tb, h3.b1, h3.tl, h3.md⟩
theorem Scr.Ok.tab (h : s.Ok c r) (hc : 1 ≤ c) (hr : 1 ≤ r) : s.tab.Ok c r := h.place hc hr _ _
theorem Scr.Ok.back (h : s.Ok c r) (hc : 1 ≤ c) (hr : 1 ≤ r) : s.back.Ok c r := h.place hc hr _ _
theorem Scr.Ok.bell (h : s.Ok c r) (n : Int) : ({ s with bells := n } : Scr).Ok c r := ⟨h.main, h.other, h.now, h.k0, h.k1, h.t0, h.tb, h.b1, h.tl, h.md⟩
theorem Scr.Ok.control (h : s.Ok c r) (hc : 1 ≤ c) (hr : 1 ≤ r) (b : UInt8) : (s.control b).Ok c r := by
  unfold Scr.control
  dsimp only
  have h1 : (if 8 ≤ (b.toNat : Int) ∧ (b.toNat : Int) ≤ 13 then s.calm else s).Ok c r := by
    split
    · exact h.calm
    · exact h
  generalize (if 8 ≤ (b.toNat : Int) ∧ (b.toNat : Int) ≤ 13 then s.calm else s) = t at h1 ⊢
  repeat' split
  · exact h1.bell _
  · exact h1.toX (by omega) (by have := h1.now.x1; omega)
  · exact h1.tab hc hr
  · exact h1.index.toX (Int.le_refl 0) (by omega)
  · exact h1.index
  · exact h1.toX (Int.le_refl 0) (by omega)
  · rename_i hk
    exact h1.put ⟨h1.now.x0, h1.now.x1, h1.now.y0, h1.now.y1, h1.now.pen, by show 15 - (b.toNat : Int) = 0 ∨ 15 - (b.toNat : Int) = 1; omega⟩
  · exact h1
theorem Scr.Ok.say (h : s.Ok c r) (t : List UInt8) : (s.say t).Ok c r := ⟨h.main, h.other, h.now, h.k0, h.k1, h.t0, h.tb, h.b1, h.tl, h.md⟩
theorem Scr.Ok.setSlot (h : s.Ok c r) {v : Sav} (hv : v.In c r) : (s.setSlot v).Ok c r := by
  unfold Scr.setSlot
  split
  · exact ⟨h.main, h.other, h.now, h.k0, hv, h.t0, h.tb, h.b1, h.tl, h.md⟩
  · exact ⟨h.main, h.other, h.now, hv, h.k1, h.t0, h.tb, h.b1, h.tl, h.md⟩
theorem Scr.Ok.slot (h : s.Ok c r) : s.slot.In c r := by
  unfold Scr.slot
  split
  · exact h.k1
  · exact h.k0
theorem Scr.Ok.save (h : s.Ok c r) : s.save.Ok c r := by
  have h1 := h.put (v := { s.now with origin := s.has 4 }) ⟨h.now.x0, h.now.x1, h.now.y0, h.now.y1, h.now.pen, h.now.sec⟩
  exact h1.setSlot h1.now
theorem Scr.Ok.restore (h : s.Ok c r) : s.restore.Ok c r := (h.put h.slot).mode 4 ⟨by decide, by decide⟩ _
theorem Scr.Ok.keep (h : s.Ok c r) (on : Bool) : (s.keep on).Ok c r := by
  unfold Scr.keep
  split
  · exact h.save
  · exact h.restore
theorem Scr.Ok.swap (h : s.Ok c r) (hr : 1 ≤ r) (on : Bool) : (s.swap on).Ok c r := by
  unfold Scr.swap
  split
  · exact h
  · have h1 : ({ s with other := if on then some (newG s.main.cols s.main.rows.length 0) else none } : Scr).Ok c r := ⟨h.main, fun g hg => (by
      have hg : (if on = true then some (newG s.main.cols s.main.rows.length 0) else none) = some g := hg
      split at hg
      · injection hg with hg
        rw [← hg, h.main.1, h.main.2]; exact same_new
      · cases hg), h.now, h.k0, h.k1, h.t0, h.tb, h.b1, h.tl, h.md⟩
    exact ((h1.mode 256 ⟨by decide, by decide⟩ on).whole hr).calm
theorem fillE_same {g : Gr} (h : Same c r g) (y x : Nat) : Same c r (fillE g y x) := by
  induction x with
  | zero => exact h
  | succ x ih => exact same_put ih _ _ _
theorem fillAll_same {g : Gr} (h : Same c r g) (m y : Nat) : Same c r (fillAll g m y) := by
  induction y with
  | zero => exact h
  | succ y ih => exact same_wrap (fillE_same ih _ _) _ _
theorem Scr.Ok.fill (h : s.Ok c r) (hc : 1 ≤ c) (hr : 1 ≤ r) : s.fill.Ok c r := ((h.whole hr).place hc hr 0 0).turn _ fun g hg => fillAll_same hg _ _
theorem stopsL_len (t : List Bool) (n : Nat) : (stopsL t n).length = n := by
  unfold stopsL
  rw [List.length_take, List.length_append, List.length_map, List.length_range']
  omega
theorem Scr.Ok.reset (h : s.Ok c r) (hc : 1 ≤ c) (hr : 1 ≤ r) : s.reset.Ok c r := by
  have e1 := h.main.1
  have e2 := h.main.2
  have hm : Same c r (newG s.main.cols s.main.rows.length s.main.limit) := by rw [e1, e2]; exact same_new
  refine ⟨hm, fun g hg => (by cases hg), sav0_in hc hr, sav0_in hc hr, sav0_in hc hr, Int.le_refl 0, ?_, ?_, ?_, (show M10 9 from ⟨by decide, by decide⟩)⟩
  · show (0 : Int) ≤ ((newG s.main.cols s.main.rows.length s.main.limit).rows.length : Int) - 1
    rw [hm.2]; omega
  · show ((newG s.main.cols s.main.rows.length s.main.limit).rows.length : Int) - 1 < r
    rw [hm.2]; omega
  · show (stopsL [] (newG s.main.cols s.main.rows.length s.main.limit).cols).length = c
    rw [stopsL_len, hm.1]
theorem Scr.Ok.setTabs (h : s.Ok c r) {t : List Bool} (ht : t.length = c) : ({ s with tabs := t } : Scr).Ok c r := ⟨h.main, h.other, h.now, h.k0, h.k1, h.t0, h.tb, h.b1, ht, h.md⟩
theorem Scr.Ok.bare (h : s.Ok c r) (hc : 1 ≤ c) (hr : 1 ≤ r) (b : UInt8) : (s.bare b).Ok c r := by
  unfold Scr.bare
  dsimp only
  repeat' split
  · exact h.save
  · exact h.restore
  · exact ((h.toX (Int.le_refl 0) (by omega)).index).calm
  · exact h.index.calm
  · exact h.reverse.calm
  · exact h.setTabs (by rw [List.length_set]; exact h.tl)
  · exact h.reset hc hr
  · exact h.mode 32 ⟨by decide, by decide⟩ _
  · exact h.say _
  · exact h
theorem Scr.Ok.escape (h : s.Ok c r) (hc : 1 ≤ c) (hr : 1 ≤ r) (b : UInt8) (i : List UInt8) : (s.escape b i).Ok c r := by
  have hv : ∀ a d, ({ s.now with l0 := a, l1 := d } : Sav).In c r := fun a d => ⟨h.now.x0, h.now.x1, h.now.y0, h.now.y1, h.now.pen, h.now.sec⟩
  unfold Scr.escape
  dsimp only
  repeat' split
  · exact h.put (hv true s.now.l1)
  · exact h.put (hv false s.now.l1)
  · exact h
  · exact h.put (hv s.now.l0 true)
  · exact h.put (hv s.now.l0 false)
  · exact h
  · exact h.fill hc hr
  · exact h
  · exact h.bare hc hr b
  · exact h
end
end Go.Proofs.YtlfdgkiliegaiaaGreatDoor

/- Package screen, plain: a screen stays in its bounds, second half: CSI. -/
namespace Go.Proofs.YtlfdgkiliegaiaaGreatDoor
open Go.RowKit

theorem okS_mk {f b a : Int} (hf : colOk f = true) (hb : colOk b = true) (h0 : 0 ≤ a) (h1 : a ≤ 255) : okS ⟨f, b, a⟩ = true := by
  unfold okS
  rw [hf, hb]
  simp; omega
theorem okS_parts {p : Sty} (h : okS p = true) : colOk p.fg = true ∧ colOk p.bg = true ∧ 0 ≤ p.attr ∧ p.attr ≤ 255 := by
  unfold okS at h
  simp only [Bool.and_eq_true, decide_eq_true_eq] at h
  exact ⟨h.1, h.2.1, h.2.2.1, h.2.2.2⟩
theorem colOk_small {x : Int} (h0 : -1 ≤ x) (h1 : x ≤ 255) : colOk x = true := by unfold colOk; simp; omega
theorem colOk_rgb {x : Int} (h0 : 16777216 ≤ x) (h1 : x < 33554432) : colOk x = true := by unfold colOk; simp; omega
theorem bOr_byte {a : Int} (b : Nat) (h0 : 0 ≤ a) (h1 : a ≤ 255) (hb : b ≤ 255) : 0 ≤ bOr a (b : Int) ∧ bOr a (b : Int) ≤ 255 := by
  obtain ⟨x, rfl⟩ : ∃ n : Nat, a = n := ⟨a.toNat, by omega⟩
  have h : x ||| b < 2 ^ 8 := Nat.or_lt_two_pow (by omega) (by omega)
  unfold bOr
  rw [BitVec.toNat_or, ofInt_nat x (by omega), ofInt_nat b (by omega), wrap64_id _ (by omega) (by omega)]
  omega
theorem bNot_byte {a : Int} (b : Int) (h0 : 0 ≤ a) (h1 : a ≤ 255) : 0 ≤ bNot a b ∧ bNot a b ≤ 255 := by
  have := bNot_le (a := a) ⟨h0, by omega⟩ b
  omega
theorem pen1_ok {p : Sty} (h : okS p = true) (n : Int) (kc : Nat × Int) (hk : 2 ^ kc.1 ≤ 255) : okS (pen1 p n kc) = true := by
  obtain ⟨h1, h2, h3, h4⟩ := okS_parts h
  unfold pen1
  have hp1 : okS (if n = kc.2 then { p with attr := bOr p.attr (2 ^ kc.1 : Nat) } else p) = true := by
    split
    · have := bOr_byte (2 ^ kc.1) h3 h4 hk
      exact okS_mk h1 h2 this.1 this.2
    · exact h
  generalize (if n = kc.2 then { p with attr := bOr p.attr (2 ^ kc.1 : Nat) } else p) = p1 at hp1 ⊢
  obtain ⟨g1, g2, g3, g4⟩ := okS_parts hp1
  dsimp only
  split
  · have := bNot_byte ((2 ^ kc.1 : Nat) : Int) g3 g4
    exact okS_mk g1 g2 this.1 this.2
  · exact hp1
theorem look1_ok {p : Sty} (h : okS p = true) (n : Int) : okS (look1 p n) = true := by
  obtain ⟨h1, h2, h3, h4⟩ := okS_parts h
  unfold look1
  repeat' split
  · exact plain_okS
  · have := bNot_byte 3 h3 h4
    exact okS_mk h1 h2 this.1 this.2
  · exact okS_mk (colOk_small (by omega) (by omega)) h2 h3 h4
  · exact okS_mk (colOk_small (by omega) (by omega)) h2 h3 h4
  · exact okS_mk h1 (colOk_small (by omega) (by omega)) h3 h4
  · exact okS_mk h1 (colOk_small (by omega) (by omega)) h3 h4
  · exact okS_mk (colOk_small (by omega) (by omega)) h2 h3 h4
  · exact okS_mk h1 (colOk_small (by omega) (by omega)) h3 h4
  · have step : ∀ (l : List (Nat × Int)) (p : Sty), (∀ kc ∈ l, 2 ^ kc.1 ≤ 255) → okS p = true → okS (l.foldl (fun p kc => pen1 p n kc) p) = true := by
      intro l
      induction l with
      | nil => intro p _ hp; exact hp
      | cons a l ih => intro p hl hp; exact ih _ (fun x hx => hl x (List.mem_cons_of_mem _ hx)) (pen1_ok hp n a (hl a (List.mem_cons_self ..)))
    exact step _ p (by decide) h
theorem par_range (ps : List Int) (i : Nat) (f : Int) (h0 : 0 ≤ f) (h1 : f ≤ 9999) : 0 ≤ par ps i f ∧ par ps i f ≤ 9999 := by
  unfold par
  split
  · omega
  · exact ⟨h0, h1⟩
theorem colourP_ok (ps : List Int) (i : Nat) (h : (colourP ps i).2 ≠ 0) : colOk (colourP ps i).1 = true := by
  have r1 := par_range ps (i + 1) 0 (by decide) (by decide)
  have r2 := par_range ps (i + 2) 0 (by decide) (by decide)
  have r3 := par_range ps (i + 3) 0 (by decide) (by decide)
  unfold colourP at h ⊢
  split
  · exact colOk_small (by omega) (by omega)
  · rename_i h5
    rw [if_neg h5] at h
    split
    · exact colOk_rgb (by dsimp only; omega) (by dsimp only; omega)
    · rename_i h6
      rw [if_neg h6] at h
      exact absurd rfl h
theorem looksF_ok (ps : List Int) : ∀ (f i : Nat) (p : Sty), okS p = true → okS (looksF ps f i p) = true := by
  intro f
  induction f with
  | zero => intro i p h; exact h
  | succ f ih =>
    intro i p h
    unfold looksF
    split
    · split
      · split
        · exact h
        · rename_i h2
          have hc := colourP_ok ps (i + 1) h2
          obtain ⟨h1, h2, h3, h4⟩ := okS_parts h
          refine ih _ _ ?_
          split
          · exact okS_mk hc h2 h3 h4
          · exact okS_mk h1 hc h3 h4
      · exact ih _ _ (look1_ok h _)
    · exact h
theorem looksL_ok (ps : List Int) {p : Sty} (h : okS p = true) : okS (looksL ps p) = true := looksF_ok ps _ _ _ (by
  split
  · exact plain_okS
  · exact h)
section
variable {c r : Nat} {s : Scr}
theorem itF_ok {f : Scr → Scr} (hf : ∀ t : Scr, t.Ok c r → (f t).Ok c r) : ∀ (n : Nat) (t : Scr), t.Ok c r → (itF f n t).Ok c r
  | 0, _, h => h
  | n + 1, t, h => itF_ok hf n (f t) (hf t h)
theorem Scr.Ok.move (h : s.Ok c r) (hc : 1 ≤ c) (hr : 1 ≤ r) (k n : Int) : ∀ t, s.move k n = some t → t.Ok c r := by
  intro t ht
  unfold Scr.move at ht
  repeat' split at ht
  all_goals first
    | (injection ht with ht; subst ht; exact h.place hc hr _ _)
    | (injection ht with ht; subst ht; exact (h.place hc hr _ _).toX (Int.le_refl 0) (by omega))
    | (injection ht with ht; subst ht; exact itF_ok (fun _ h => h.tab hc hr) _ _ h)
    | (injection ht with ht; subst ht; exact itF_ok (fun _ h => h.back hc hr) _ _ h)
    | cases ht
theorem Scr.Ok.edit (h : s.Ok c r) (hc : 1 ≤ c) (k n : Int) : ∀ t, s.edit k n = some t → t.Ok c r := by
  intro t ht
  have h0 := ((h.toX (Int.le_refl 0) (by omega)).calm)
  unfold Scr.edit at ht
  split at ht
  · injection ht with ht; subst ht; exact (h.turn _ fun g hg => same_ins hg _ _ _ _).calm
  split at ht
  · injection ht with ht; subst ht; exact (h.turn _ fun g hg => same_del hg _ _ _ _).calm
  split at ht
  · injection ht with ht; subst ht; exact (h.turn _ fun g hg => same_erase hg _ _ _ _).calm
  split at ht
  · injection ht with ht; subst ht
    split
    · exact h0.turn _ fun g hg => same_down hg _ _ _ _
    · exact h
  split at ht
  · injection ht with ht; subst ht
    split
    · exact h0.turn _ fun g hg => same_up hg _ _ _ _ _
    · exact h
  split at ht
  · injection ht with ht; subst ht; exact h.turn _ fun g hg => same_up hg _ _ _ _ _
  split at ht
  · injection ht with ht; subst ht; exact h.turn _ fun g hg => same_down hg _ _ _ _
  split at ht
  · injection ht with ht; subst ht
    refine itF_ok (fun t h => ?_) _ _ h
    split
    · exact h.print hc _
    · exact h
  · cases ht
theorem cleanF_same {g : Gr} (h : Same c r g) (m : Int) (b : Sty) (y : Int) (n : Nat) : Same c r (cleanF m b y n g) := by
  induction n with
  | zero => exact h
  | succ n ih => exact same_wrap (same_erase ih _ _ _ _) _ _
theorem Scr.Ok.clean (h : s.Ok c r) (y z : Int) : (s.clean y z).Ok c r := h.turn _ fun g hg => cleanF_same hg _ _ _ _
theorem Scr.Ok.inRow (h : s.Ok c r) (k : Int) : (s.inRow k).Ok c r := by
  unfold Scr.inRow
  repeat' split
  · exact h.calm.turn _ fun g hg => same_wrap (same_erase hg _ _ _ _) _ _
  · exact h.calm.turn _ fun g hg => same_erase hg _ _ _ _
  · exact h.calm.clean _ _
  · exact h.calm
theorem Scr.Ok.forget (h : s.Ok c r) : s.forget.Ok c r := ⟨h.main, h.other, h.now, h.k0, h.k1, h.t0, h.tb, h.b1, h.tl, h.md⟩
theorem Scr.Ok.inAll (h : s.Ok c r) (k : Int) : (s.inAll k).Ok c r := by
  unfold Scr.inAll
  repeat' split
  · exact (h.inRow 0).clean _ _
  · exact (h.inRow 1).clean _ _
  · exact h.calm.clean _ _
  · exact h.calm.forget
  · exact h.calm
theorem Scr.Ok.report (h : s.Ok c r) (k : Int) : (s.report k).Ok c r := by
  unfold Scr.report
  repeat' split
  · exact h.say _
  · exact h.say _
  · exact h.say _
  · exact h
theorem Scr.Ok.looks (h : s.Ok c r) (ps : List Int) : (s.looks ps).Ok c r := h.put ⟨h.now.x0, h.now.x1, h.now.y0, h.now.y1, looksL_ok ps h.now.pen, h.now.sec⟩
theorem Scr.Ok.setMode1 (h : s.Ok c r) (k : Int) (on : Bool) : (s.setMode1 k on).Ok c r := by
  unfold Scr.setMode1
  repeat' split
  · exact h.mode 2 ⟨by decide, by decide⟩ _
  · exact h.mode 512 ⟨by decide, by decide⟩ _
  · exact h
theorem Scr.Ok.region (h : s.Ok c r) (hc : 1 ≤ c) (hr : 1 ≤ r) (ps : List Int) : (s.region ps).Ok c r := by
  have e := h.rows
  unfold Scr.region
  dsimp only
  generalize (if par ps 1 s.rows = 0 then s.rows else par ps 1 s.rows) = b0
  split
  · rename_i hlt
    have h1 : ({ s with top := max 1 (par ps 0 1) - 1, bottom := min b0 s.rows - 1 } : Scr).Ok c r :=
      ⟨h.main, h.other, h.now, h.k0, h.k1, by show 0 ≤ max 1 (par ps 0 1) - 1; omega, by show max 1 (par ps 0 1) - 1 ≤ min b0 s.rows - 1; omega, by show min b0 s.rows - 1 < r; omega, h.tl, h.md⟩
    exact h1.place hc hr _ _
  · exact h
theorem foldl_ok {f : Scr → Nat → Scr} (hf : ∀ (t : Scr) i, t.Ok c r → (f t i).Ok c r) : ∀ (l : List Nat) (t : Scr), t.Ok c r → (l.foldl f t).Ok c r
  | [], _, h => h
  | i :: l, t, h => foldl_ok hf l (f t i) (hf t i h)
theorem Scr.Ok.others (h : s.Ok c r) (hc : 1 ≤ c) (hr : 1 ≤ r) (k : Int) (ps : List Int) : (s.others k ps).Ok c r := by
  unfold Scr.others
  dsimp only
  repeat' split
  · exact h.place hc hr _ _
  · exact h.inAll _
  · exact h.inRow _
  · exact h.say _
  · exact h
  · exact h.report _
  · exact h.setTabs (by rw [List.length_set]; exact h.tl)
  · exact h.setTabs (by rw [List.length_replicate]; exact h.tl)
  · exact h
  · exact foldl_ok (fun t i h => h.setMode1 _ _) _ _ h
  · exact h.looks ps
  · exact h.region hc hr ps
  · exact h.keep _
  · exact h
theorem Scr.Ok.private (h : s.Ok c r) (hc : 1 ≤ c) (hr : 1 ≤ r) (k : Int) (on : Bool) : (s.private k on).Ok c r := by
  unfold Scr.private
  dsimp only
  repeat' split
  · exact h.mode 16 ⟨by decide, by decide⟩ _
  · exact (h.mode 4 ⟨by decide, by decide⟩ on).place hc hr _ _
  · have h1 := h.mode 1 ⟨by decide, by decide⟩ on
    exact h1.put ⟨h1.now.x0, h1.now.x1, h1.now.y0, h1.now.y1, h1.now.pen, h1.now.sec⟩
  · exact h.mode 8 ⟨by decide, by decide⟩ _
  · exact h.swap hr _
  · exact h.keep _
  · exact h.save.swap hr _
  · exact (h.swap hr _).restore
  · exact h.mode 128 ⟨by decide, by decide⟩ _
  · exact h.mode 64 ⟨by decide, by decide⟩ _
  · exact h
theorem Scr.Ok.soft (h : s.Ok c r) (hc : 1 ≤ c) (hr : 1 ≤ r) : s.soft.Ok c r := by
  have h1 := (h.put (v := { sav0 with x := s.now.x, y := s.now.y }) ⟨h.now.x0, h.now.x1, h.now.y0, h.now.y1, plain_okS, .inl rfl⟩).whole hr
  unfold Scr.soft
  dsimp only
  generalize (({ s with now := { sav0 with x := s.now.x, y := s.now.y } } : Scr).whole) = s1 at h1 ⊢
  have h2 : ({ s1 with modes := bOr (bNot s1.modes 54) 9 } : Scr).Ok c r := ⟨h1.main, h1.other, h1.now, h1.k0, h1.k1, h1.t0, h1.tb, h1.b1, h1.tl, (h1.md.not 54).or ⟨by decide, by decide⟩⟩
  exact h2.setSlot (sav0_in hc hr)
theorem Scr.Ok.csi (h : s.Ok c r) (hc : 1 ≤ c) (hr : 1 ≤ r) (b : UInt8) (ps : List Int) (i : List UInt8) : (s.csi b ps i).Ok c r := by
  unfold Scr.csi
  dsimp only
  split
  · split
    · rename_i t ht; exact h.move hc hr _ _ t ht
    · split
      · rename_i t ht; exact h.edit hc _ _ t ht
      · exact h.others hc hr _ ps
  split
  · split
    · exact foldl_ok (fun t i h => h.private hc hr _ _) _ _ h
    · exact h
  split
  · split
    · exact h.soft hc hr
    · exact h
  split
  · split
    · exact h.say _
    · exact h
  · exact h
theorem Scr.Ok.named (h : s.Ok c r) (t : List UInt8) : (s.named t).Ok c r := by
  unfold Scr.named
  split
  · exact ⟨h.main, h.other, h.now, h.k0, h.k1, h.t0, h.tb, h.b1, h.tl, h.md⟩
  · exact h
end
end Go.Proofs.YtlfdgkiliegaiaaGreatDoor

/- Plain laws of UTF-8: what is encoded is decoded. No program here. -/
namespace Go.Proofs.YtlfdgkiliegaiaaGreatDoor

/-- The code point that is written for a rune. -/
def cp (r : Int) : Nat := if Utf8.valid r then r.toNat else 65533
def encL (r : Int) : List UInt8 := (Utf8.encode r).data.toList
theorem valid_iff (r : Int) : Utf8.valid r = true ↔ (0 ≤ r ∧ r < 55296) ∨ (57344 ≤ r ∧ r ≤ 1114111) := by
  unfold Utf8.valid; simp
theorem encL_eq (r : Int) : encL r =
    if cp r < 128 then [UInt8.ofNat (cp r)]
    else if cp r < 2048 then [UInt8.ofNat (192 + cp r / 64), UInt8.ofNat (128 + cp r % 64)]
    else if cp r < 65536 then [UInt8.ofNat (224 + cp r / 4096), UInt8.ofNat (128 + cp r / 64 % 64), UInt8.ofNat (128 + cp r % 64)]
    else [UInt8.ofNat (240 + cp r / 262144), UInt8.ofNat (128 + cp r / 4096 % 64), UInt8.ofNat (128 + cp r / 64 % 64), UInt8.ofNat (128 + cp r % 64)] := by
  unfold encL Utf8.encode
  have e : (if Utf8.valid r = true then r.toNat else Utf8.runeError) = cp r := rfl
  simp only [e]
  by_cases h1 : cp r < 128
  · rw [if_pos h1, if_pos h1]
  by_cases h2 : cp r < 2048
  · rw [if_neg h1, if_neg h1, if_pos h2, if_pos h2]
  by_cases h3 : cp r < 65536
  · rw [if_neg h1, if_neg h1, if_neg h2, if_neg h2, if_pos h3, if_pos h3]
  · rw [if_neg h1, if_neg h1, if_neg h2, if_neg h2, if_neg h3, if_neg h3]
theorem byte_of (n : Nat) (h : n < 256) : (UInt8.ofNat n).toNat = n := by simp; omega

theorem rngs_2 (b : Int) (h : 194 ≤ b ∧ b ≤ 223) : rngs b = (128, 191, 0) := by unfold rngs; rw [if_pos h]
theorem rngs_3 (b : Int) (h : 224 ≤ b ∧ b ≤ 239) : rngs b = (if b = 224 then 160 else 128, if b = 237 then 159 else 191, 1) := by
  unfold rngs; rw [if_neg (by omega)]
  by_cases c2 : b = 224
  · subst c2; rfl
  by_cases c3 : b = 237
  · subst c3; rfl
  rw [if_neg c2, if_neg c3, if_pos (by omega), if_neg c2, if_neg c3]
theorem rngs_4 (b : Int) (h : 240 ≤ b ∧ b ≤ 244) : rngs b = (if b = 240 then 144 else 128, if b = 244 then 143 else 191, 2) := by
  unfold rngs; rw [if_neg (by omega), if_neg (by omega), if_neg (by omega), if_neg (by omega)]
  by_cases c2 : b = 240
  · subst c2; rfl
  by_cases c3 : b = 244
  · subst c3; rfl
  rw [if_neg c2, if_pos (by omega), if_neg c2, if_neg c3]

theorem lead0 (b : Int) : lead b 0 = b % 32 := rfl
theorem lead1 (b : Int) : lead b 1 = b % 16 := rfl
theorem lead2 (b : Int) : lead b 2 = b % 8 := rfl
theorem encL_pos (r : Int) : 1 ≤ (encL r).length ∧ (encL r).length ≤ 4 := by
  rw [encL_eq]; repeat' split
  all_goals simp

/-- string(runes), as bytes. -/
def encAll (l : List Int) : List UInt8 := l.flatMap encL
/-- Runes that are told are code points. -/
theorem goT_valid : ∀ (k : Nat) (r lo hi : Int) (t : List UInt8) (i : Nat), 0 ≤ r → 0 ≤ lo →
    (goT k r lo hi t i).1 = 65533 ∨ (0 ≤ (goT k r lo hi t i).1 ∧ (goT k r lo hi t i).1 ≤ r * 64 ^ k + (64 ^ k - 1) ∧ r * 64 ^ k ≤ (goT k r lo hi t i).1) ∨ (goT k r lo hi t i).1 = 0
  | 0, r, _, _, _, _, h, _ => .inr (.inl ⟨h, by simp [goT], by simp [goT]⟩)
  | _ + 1, _, _, _, [], _, _, _ => .inr (.inr rfl)
  | k + 1, r, lo, hi, b :: t, i, h, h' => by
    rw [goT]
    split
    · exact .inl rfl
    · rcases goT_valid k (r * 64 + (b.toNat : Int) % 64) 128 191 t (i + 1) (by omega) (by omega) with e | ⟨e1, e2, e3⟩ | e
      · exact .inl e
      · refine .inr (.inl ⟨e1, ?_, ?_⟩)
        · rw [Int.pow_succ]
          have hp : (0 : Int) < 64 ^ k := Int.pow_pos (by decide)
          generalize (64 : Int) ^ k = q at *
          have hm : (b.toNat : Int) % 64 ≤ 63 := by omega
          have := Int.mul_le_mul_of_nonneg_right hm (Int.le_of_lt hp)
          rw [Int.add_mul] at e2
          have e4 : r * 64 * q = r * (q * 64) := by rw [Int.mul_assoc, Int.mul_comm 64 q]
          omega
        · rw [Int.pow_succ]
          have hp : (0 : Int) < 64 ^ k := Int.pow_pos (by decide)
          generalize (64 : Int) ^ k = q at *
          have hm : (0 : Int) ≤ (b.toNat : Int) % 64 := by omega
          have := Int.mul_le_mul_of_nonneg_right hm (Int.le_of_lt hp)
          rw [Int.add_mul] at e3
          have e4 : r * 64 * q = r * (q * 64) := by rw [Int.mul_assoc, Int.mul_comm 64 q]
          omega
      · exact .inr (.inr e)
theorem goT_bound2 (k : Nat) (r lo hi : Int) (t : List UInt8) (i : Nat) (h : 0 ≤ r) (hlo : 128 ≤ lo) (hhi : hi ≤ 191) :
    (goT (k + 1) r lo hi t i).1 = 65533 ∨ (goT (k + 1) r lo hi t i).1 = 0 ∨ ((r * 64 + (lo - 128)) * 64 ^ k ≤ (goT (k + 1) r lo hi t i).1 ∧ (goT (k + 1) r lo hi t i).1 ≤ (r * 64 + (hi - 128)) * 64 ^ k + (64 ^ k - 1)) := by
  cases t with
  | nil => exact .inr (.inl rfl)
  | cons b t =>
    rw [goT]
    split
    · exact .inl rfl
    · have hp : (0 : Int) < 64 ^ k := Int.pow_pos (by decide)
      rcases goT_valid k (r * 64 + (b.toNat : Int) % 64) 128 191 t (i + 1) (by omega) (by omega) with e | ⟨e1, e2, e3⟩ | e
      · exact .inl e
      · right; right
        generalize (64 : Int) ^ k = q at *
        have m1 : r * 64 + (lo - 128) ≤ r * 64 + (b.toNat : Int) % 64 := by omega
        have m2 : r * 64 + (b.toNat : Int) % 64 ≤ r * 64 + (hi - 128) := by omega
        have n1 := Int.mul_le_mul_of_nonneg_right m1 (Int.le_of_lt hp)
        have n2 := Int.mul_le_mul_of_nonneg_right m2 (Int.le_of_lt hp)
        omega
      · exact .inr (.inl e)
theorem takeT_valid (l : List UInt8) : Utf8.valid (takeT l).1 = true := by
  rw [valid_iff]
  cases l with
  | nil => left; exact ⟨Int.le_refl _, by decide⟩
  | cons b t =>
    rw [takeT_cons]
    split
    · left; dsimp only; omega
    rename_i h1
    split
    · right; dsimp only; omega
    rename_i h2
    have hb := b.toNat_lt
    have hc : (194 ≤ (b.toNat : Int) ∧ (b.toNat : Int) ≤ 223) ∨ (224 ≤ (b.toNat : Int) ∧ (b.toNat : Int) ≤ 239) ∨ (240 ≤ (b.toNat : Int) ∧ (b.toNat : Int) ≤ 244) := by
      by_cases c1 : (194 ≤ (b.toNat : Int) ∧ (b.toNat : Int) ≤ 223)
      · exact .inl c1
      by_cases c2 : (224 ≤ (b.toNat : Int) ∧ (b.toNat : Int) ≤ 239)
      · exact .inr (.inl c2)
      by_cases c3 : (240 ≤ (b.toNat : Int) ∧ (b.toNat : Int) ≤ 244)
      · exact .inr (.inr c3)
      · exfalso; apply h2; unfold rngs
        rw [if_neg c1, if_neg (by omega), if_neg (by omega), if_neg (by omega), if_neg (by omega), if_neg (by omega), if_neg (by omega)]; decide
    rcases hc with hc | hc | hc
    · rw [rngs_2 _ hc]
      dsimp only
      rw [show (0 : Int).toNat + 1 = 0 + 1 from rfl, lead0]
      have hG := goT_bound2 0 ((b.toNat : Int) % 32) 128 191 t 1 (by omega) (by omega) (by omega)
      generalize (goT (0 + 1) ((b.toNat : Int) % 32) 128 191 t 1).1 = G at *
      omega
    · rw [rngs_3 _ hc]
      dsimp only
      rw [show (1 : Int).toNat + 1 = 1 + 1 from rfl, lead1]
      have hG := goT_bound2 1 ((b.toNat : Int) % 16) (if (b.toNat : Int) = 224 then 160 else 128) (if (b.toNat : Int) = 237 then 159 else 191) t 1 (by omega) (by split <;> omega) (by split <;> omega)
      generalize (goT (1 + 1) ((b.toNat : Int) % 16) (if (b.toNat : Int) = 224 then 160 else 128) (if (b.toNat : Int) = 237 then 159 else 191) t 1).1 = G at *
      by_cases c3 : (b.toNat : Int) = 237
      · rw [if_pos c3] at hG; split at hG <;> omega
      · rw [if_neg c3] at hG; split at hG <;> omega
    · rw [rngs_4 _ hc]
      dsimp only
      rw [show (2 : Int).toNat + 1 = 2 + 1 from rfl, lead2]
      have hG := goT_bound2 2 ((b.toNat : Int) % 8) (if (b.toNat : Int) = 240 then 144 else 128) (if (b.toNat : Int) = 244 then 143 else 191) t 1 (by omega) (by split <;> omega) (by split <;> omega)
      generalize (goT (2 + 1) ((b.toNat : Int) % 8) (if (b.toNat : Int) = 240 then 144 else 128) (if (b.toNat : Int) = 244 then 143 else 191) t 1).1 = G at *
      by_cases c3 : (b.toNat : Int) = 240
      · rw [if_pos c3] at hG; split at hG <;> omega
      · rw [if_neg c3] at hG; split at hG <;> omega
theorem wholeF_valid : ∀ (n : Nat) (l : List UInt8), ∀ r ∈ (wholeF n l).1, Utf8.valid r = true
  | 0, _, r, h => by simp [wholeF] at h
  | _ + 1, [], r, h => by simp [wholeF] at h
  | n + 1, b :: t, r, h => by
    rw [wholeF] at h
    split at h
    · simp at h
    · rcases List.mem_cons.1 h with h | h
      · rw [h]; exact takeT_valid _
      · exact wholeF_valid n _ r h
theorem runes_valid (l : List UInt8) : ∀ r ∈ runes l, Utf8.valid r = true := by
  intro r h
  rw [runes_eq, runesR] at h
  rcases List.mem_append.1 h with h | h
  · exact wholeF_valid _ _ r h
  · split at h
    · simp at h
    · simp at h; rw [h]; decide
end Go.Proofs.YtlfdgkiliegaiaaGreatDoor

/- Plain laws of UTF-8: ranging over what was encoded. No program here. -/
namespace Go.Proofs.YtlfdgkiliegaiaaGreatDoor

theorem encAll_cons (r : Int) (l : List Int) : encAll (r :: l) = encL r ++ encAll l := by simp [encAll]
theorem runesBytes_eq (l : List Int) : runesBytes l = ⟨(encAll l).toArray⟩ := by
  have : ∀ (l : List Int) (s : ByteArray), l.foldl (fun r n => r ++ Utf8.encode n) s = ⟨(s.data.toList ++ encAll l).toArray⟩ := by
    intro l
    induction l with
    | nil => intro s; simp [encAll]
    | cons r l ih =>
      intro s
      rw [List.foldl_cons, ih]
      congr 1
      rw [encAll_cons]
      simp [encL]
  rw [runesBytes, this]; rfl
end Go.Proofs.YtlfdgkiliegaiaaGreatDoor

/- Walks of package cell: the decoder. -/
namespace Go.Proofs.YtlfdgkiliegaiaaGreatDoor
open Go.RowKit

def Dec.cells (d : Dec) : Array Value := #[.int .i32 d.r, .int .i64 d.hav, .int .i64 d.more, .int .u8 d.lo, .int .u8 d.hi]
/-- The decoder at block p. -/
def DecAt (w : World) (p : Nat) (d : Dec) : Prop := w.heap[p]? = some (.cells d.cells 214 (0, 0))

theorem DecAt_of {w : World} {p : Nat} {c : Array Value} {d : Dec} (h : w.heap[p]? = some (.cells c 214 (0, 0))) (e : c = d.cells) : DecAt w p d := by subst e; exact h
theorem beginD_1 (d : Dec) (b : Int) (h : b < 128) : beginD d b = ({ d with lo := 128, hi := 191 }, [b]) := by unfold beginD; rw [if_pos h]
theorem beginD_2 (d : Dec) (b : Int) (h : 194 ≤ b ∧ b ≤ 223) : beginD d b = (⟨b % 32, 1, 1, 128, 191⟩, []) := by unfold beginD; rw [if_neg (by omega), if_pos h]
theorem beginD_3 (d : Dec) (b : Int) (h : 224 ≤ b ∧ b ≤ 239) : beginD d b = (⟨b % 16, 1, 2, if b = 224 then 160 else 128, if b = 237 then 159 else 191⟩, []) := by
  unfold beginD; rw [if_neg (by omega), if_neg (by omega), if_pos h]
theorem beginD_4 (d : Dec) (b : Int) (h : 240 ≤ b ∧ b ≤ 244) : beginD d b = (⟨b % 8, 1, 3, if b = 240 then 144 else 128, if b = 244 then 143 else 191⟩, []) := by
  unfold beginD; rw [if_neg (by omega), if_neg (by omega), if_neg (by omega), if_pos h]
theorem beginD_5 (d : Dec) (b : Int) (h : 128 ≤ b) (h2 : ¬ (194 ≤ b ∧ b ≤ 223)) (h3 : ¬ (224 ≤ b ∧ b ≤ 239)) (h4 : ¬ (240 ≤ b ∧ b ≤ 244)) : beginD d b = ({ d with lo := 128, hi := 191 }, [65533]) := by
  unfold beginD; rw [if_neg (by omega), if_neg h2, if_neg h3, if_neg h4]

theorem beginD_len (d : Dec) (b : Int) : (beginD d b).2.length ≤ 1 := by
  unfold beginD; repeat' split
  all_goals simp

set_option maxHeartbeats 1000000 in
theorem begin_any (p : Nat) (d : Dec) (b : Int) (w : World) (hd : DecAt w p d) (h0 : 0 ≤ b) (h1 : b ≤ 255) :
    Calls Tryz.prog 201 #[.pointer (some ⟨p, 0, none⟩), .int .u8 b] w fun e w' => ∃ v, e = .returned v ∧
      w'.ownsRow w.heap.size 21 1 v (beginD d b).2.length ((beginD d b).2.map (Value.int .i32)) ∧ w.grownBy w' (some p) ∧ DecAt w' p (beginD d b).1 := by
  have c0 : w.cell? ⟨p, 0, none⟩ = some (.int .i32 d.r) := blk_cell hd 0
  have c1 : w.cell? ⟨p, 1, none⟩ = some (.int .i64 d.hav) := blk_cell hd 1
  have c2 : w.cell? ⟨p, 2, none⟩ = some (.int .i64 d.more) := blk_cell hd 2
  have c3 : w.cell? ⟨p, 3, none⟩ = some (.int .u8 d.lo) := blk_cell hd 3
  have c4 : w.cell? ⟨p, 4, none⟩ = some (.int .u8 d.hi) := blk_cell hd 4
  have fz := blk_free hd
  have HD : w.heap[p]? = some (.cells d.cells 214 (0, 0)) := hd
  replace HD := Lib.hid HD
  clear hd
  go_enter Tryz.func201, Tryz.ntmps201
  go_wp2
  all_goals
    apply ret1v rfl rfl
    · simp only [Array.getD_eq_getD_getElem?, List.getElem?_toArray, List.getElem?_cons_succ, List.getElem?_cons_zero, Option.getD_some]; rfl
    refine ⟨_, rfl, ?own, ?gb, ?dec⟩
    case gb => repeat (with_reducible first | refine gb_set ?_ _ _ | refine gb_alloc ?_ _ | exact gb_refl _ _)
    all_goals first | rw [beginD_1 d b (by omega)] | rw [beginD_2 d b (by omega)] | rw [beginD_3 d b (by omega)] | rw [beginD_4 d b (by omega)] | rw [beginD_5 d b (by omega) (by omega) (by omega) (by omega)] | skip
    case dec =>
      apply DecAt_of
      · repeat (with_reducible first | apply blk_set | apply blk_alloc | exact HD.out)
      · first | rfl | (simp only [beq_iff_eq, beq_eq_false_iff_ne, ne_eq] at *; simp [Dec.cells, *]; done)
    case own =>
      simp only [List.length_cons, List.length_nil, List.map_cons, List.map_nil, Nat.zero_add]
      with_reducible first | exact World.ownsRow_nil _ _ _ _ | apply ownsRow_new
      all_goals first | rfl | simp | decide

end Go.Proofs.YtlfdgkiliegaiaaGreatDoor

/- Walks of package cell: the decoder, fed. -/
namespace Go.Proofs.YtlfdgkiliegaiaaGreatDoor
open Go.RowKit

theorem runes_elem : Elem Tryz.prog 191 21 1 4 (.int .i32 0) := ⟨Tryz.underlying191, by kernel_rfl, rfl, by decide⟩

/-- What is pending has begun a sequence. -/
structure Dec.ok (d : Dec) : Prop where
  h0 : 0 ≤ d.hav
  h1 : d.hav + d.more ≤ 4
  m0 : 0 ≤ d.more
  r0 : 0 ≤ d.r
  r1 : d.hav ≠ 0 → d.r * 64 ^ d.more.toNat < 2097152
  m1 : d.hav ≠ 0 → 1 ≤ d.more
  lo : d.hav ≠ 0 → 128 ≤ d.lo
  hi : d.hav ≠ 0 → d.hi ≤ 191

set_option maxHeartbeats 1000000 in
theorem feed_any (p : Nat) (d : Dec) (b : Int) (w : World) (hd : DecAt w p d) (h0 : 0 ≤ b) (h1 : b ≤ 255) (hok : d.ok) :
    Calls Tryz.prog 149 #[.pointer (some ⟨p, 0, none⟩), .int .u8 b] w fun e w' => ∃ v, e = .returned v ∧
      w'.ownsRow w.heap.size 21 1 v (feedD d b).2.length ((feedD d b).2.map (Value.int .i32)) ∧ w.grownBy w' (some p) ∧ DecAt w' p (feedD d b).1 := by
  have c0 : w.cell? ⟨p, 0, none⟩ = some (.int .i32 d.r) := blk_cell hd 0
  have c1 : w.cell? ⟨p, 1, none⟩ = some (.int .i64 d.hav) := blk_cell hd 1
  have c2 : w.cell? ⟨p, 2, none⟩ = some (.int .i64 d.more) := blk_cell hd 2
  have c3 : w.cell? ⟨p, 3, none⟩ = some (.int .u8 d.lo) := blk_cell hd 3
  have c4 : w.cell? ⟨p, 4, none⟩ = some (.int .u8 d.hi) := blk_cell hd 4
  have fz := blk_free hd
  have HD : w.heap[p]? = some (.cells d.cells 214 (0, 0)) := hd
  replace HD := Lib.hid HD
  by_cases hh : d.hav = 0
  · have Hf := Lib.hid (show feedD d b = beginD d b by unfold feedD; rw [if_pos hh])
    have hb : (d.hav == 0) = true := by simpa using hh
    clear hh hok
    go_enter Tryz.func149, Tryz.ntmps149
    go_wp2_with fail
    refine (begin_any p d b _ hd h0 h1).mono ?_
    rintro e w1 ⟨v, rfl, hq⟩
    go_wp2_with fail
    go_ret
    rw [Hf.out]
    exact ⟨v, rfl, hq⟩
  by_cases hb : b < d.lo ∨ d.hi < b
  · have Hf := Lib.hid (show feedD d b = ((beginD { d with hav := 0 } b).1, 65533 :: (beginD { d with hav := 0 } b).2) by unfold feedD; rw [if_neg hh, if_pos hb])
    have hh2 : (d.hav == 0) = false := by simpa using hh
    clear hh hok
    have Hgo : ∀ W : World, W = (w.setCell ⟨p, 1, none⟩ (.int .i64 0)).alloc (.cells #[.int .i32 65533] 21) → DecAt W p { d with hav := 0 } := by
      intro W hW; subst hW
      exact DecAt_of (blk_alloc (blk_set HD.out _ _) _) rfl
    have HG := Lib.hid Hgo
    clear Hgo
    have hb : b < d.lo ∨ (¬ b < d.lo ∧ d.hi < b) := by omega
    rcases hb with hb | ⟨hb0, hb⟩
    all_goals
      go_enter Tryz.func149, Tryz.ntmps149
      go_wp2_with fail
      refine (begin_any p _ b _ (HG.out _ rfl) h0 h1).mono ?_
      rintro e w1 ⟨v, rfl, hown, hgb, hdec⟩
      have Hown := Lib.hid hown
      have Hgb := Lib.hid hgb
      have Hdec := Lib.hid hdec
      clear hown hgb hdec
      have hsz := HD.out
      replace hsz := heap_lt hsz
      have Hrow : Hid (w1.ownsRow w.heap.size 21 1 (.slice (some ⟨w.heap.size, 0, none⟩) 1 1) 1 [.int .i32 65533]) :=
        (ownsRow_new (w := w.setCell ⟨p, 1, none⟩ (.int .i64 0)) (n := 1) #[.int .i32 65533] _ (by simp) (by simp) (by decide) rfl rfl).kept Hgb.out (.inr (by simp [Value.ownBlock]; omega))
      go_wp2_with (at_builtin; refine held ?_)
      unfold Held
      have hlen : (beginD { d with hav := 0 } b).2.length ≤ 1 := beginD_len _ _
      have h2 := Hgb.out.size
      refine wpList_app runes_elem rfl rfl w.heap.size Hrow.out rfl (reads_own Hown.out) rfl (ints_oneCell _ _) (by unfold maxLen; omega) (by omega) (by simp at h2; omega) ?_
      intro v' w' h3 h4
      have H3 := Lib.hid h3
      have H4 := Lib.hid h4
      clear h3 h4 hlen h2
      go_wp2_with fail
      go_ret
      refine ⟨v', rfl, ?_, ?_, ?_⟩
      · rw [Hf.out]
        have := H3.out
        simp only [List.length_cons, List.map_cons]
        rw [Nat.add_comm]
        exact this
      · exact gb_trans_new (gb_trans (gb_alloc (gb_set (gb_refl _ _) _ _) _) Hgb.out) H4.out (by intro q hq; simp [Value.ownBlock] at hq; omega)
      · rw [Hf.out]
        exact blk_grown (o := .cells _ 214 (0, 0)) Hdec.out H4.out (by simp [Value.ownBlock]; omega)
  have m1 := hok.m1 hh
  have r1 := hok.r1 hh
  have r0 := hok.r0
  have hr : d.r * 64 < 2097152 := by
    have e : (64 : Int) ^ d.more.toNat = 64 * 64 ^ (d.more.toNat - 1) := by
      obtain ⟨k, hk⟩ : ∃ k, d.more.toNat = k + 1 := ⟨d.more.toNat - 1, by omega⟩
      rw [hk, Int.pow_succ, Int.mul_comm]; rfl
    have hp : (1 : Int) ≤ 64 ^ (d.more.toNat - 1) := by
      have : (0 : Int) < 64 ^ (d.more.toNat - 1) := Int.pow_pos (by decide)
      omega
    have := Int.mul_le_mul_of_nonneg_left (show (64 : Int) ≤ 64 ^ d.more.toNat by rw [e]; omega) r0
    omega
  have hh2 : (d.hav == 0) = false := by simpa using hh
  have hlo : ¬ b < d.lo := by omega
  have hhi : ¬ d.hi < b := by omega
  have k1 := hok.h0
  have k2 := hok.h1
  by_cases hm : 1 < d.more
  · have Hf := Lib.hid (show feedD d b = (⟨d.r * 64 + b % 64, d.hav + 1, d.more - 1, 128, 191⟩, []) by unfold feedD; rw [if_neg hh, if_neg hb, if_pos hm])
    clear hh hok
    go_enter Tryz.func149, Tryz.ntmps149
    go_wp2_with fail
    refine ret1v (v := .slice none 0 0) rfl rfl rfl ⟨_, rfl, ?qown, ?qgb, ?qdec⟩
    all_goals try rw [Hf.out]
    case qown => exact World.ownsRow_nil _ _ _ _
    case qgb => repeat (with_reducible first | refine gb_set ?_ _ _ | exact gb_refl _ _)
    case qdec =>
      apply DecAt_of
      · repeat (with_reducible first | apply blk_set | exact HD.out)
      · rfl
  · have Hf := Lib.hid (show feedD d b = (⟨d.r * 64 + b % 64, 0, d.more - 1, 128, 191⟩, [d.r * 64 + b % 64]) by unfold feedD; rw [if_neg hh, if_neg hb, if_neg hm])
    clear hh hok
    go_enter Tryz.func149, Tryz.ntmps149
    go_wp2_with fail
    refine ret1v (v := .slice (some ⟨w.heap.size, 0, none⟩) 1 1) rfl rfl rfl ⟨_, rfl, ?qown2, ?qgb2, ?qdec2⟩
    all_goals try rw [Hf.out]
    case qown2 => exact ownsRow_new #[.int .i32 (d.r * 64 + b % 64)] _ (by simp) (by simp) (by decide) rfl rfl
    case qgb2 => repeat (with_reducible first | refine gb_set ?_ _ _ | refine gb_alloc ?_ _ | exact gb_refl _ _)
    case qdec2 =>
      apply DecAt_of
      · repeat (with_reducible first | apply blk_set | apply blk_alloc | exact HD.out)
      · rfl

/-- cell.NewDecoder. -/
theorem dec0_ok : dec0.ok := ⟨by decide, by decide, by decide, by decide, fun h => absurd rfl h, fun h => absurd rfl h, fun h => absurd rfl h, fun h => absurd rfl h⟩
theorem newDec_any (w : World) :
    Calls Tryz.prog 127 #[] w fun e w' => e = .returned (.pointer (some ⟨w.heap.size, 0, none⟩)) ∧ w' = w.alloc (.cells dec0.cells 214) := by
  go_enter Tryz.func127, Tryz.ntmps127
  go_wp2
  go_ret
  exact ⟨rfl, rfl⟩
theorem end_any (p : Nat) (d : Dec) (w : World) (hd : DecAt w p d) :
    Calls Tryz.prog 147 #[.pointer (some ⟨p, 0, none⟩)] w fun e w' => ∃ v, e = .returned v ∧
      w'.ownsRow w.heap.size 21 1 v (endD d).2.length ((endD d).2.map (Value.int .i32)) ∧ w.grownBy w' (some p) ∧ DecAt w' p (endD d).1 := by
  have c1 : w.cell? ⟨p, 1, none⟩ = some (.int .i64 d.hav) := blk_cell hd 1
  have fz := blk_free hd
  have HD : w.heap[p]? = some (.cells d.cells 214 (0, 0)) := hd
  replace HD := Lib.hid HD
  by_cases hh : d.hav = 0
  · have Hf := Lib.hid (show endD d = (d, []) by unfold endD; rw [if_pos hh])
    have hh2 : (d.hav == 0) = true := by simpa using hh
    clear hh
    go_enter Tryz.func147, Tryz.ntmps147
    go_wp2
    refine ret1v (v := .slice none 0 0) rfl rfl rfl ⟨_, rfl, ?_, ?_, ?_⟩
    · rw [Hf.out]; exact World.ownsRow_nil _ _ _ _
    · exact gb_refl _ _
    · rw [Hf.out]; exact HD.out
  · have Hf := Lib.hid (show endD d = ({ d with hav := 0 }, [65533]) by unfold endD; rw [if_neg hh])
    have hh2 : (d.hav == 0) = false := by simpa using hh
    clear hh
    go_enter Tryz.func147, Tryz.ntmps147
    go_wp2
    refine ret1v (v := .slice (some ⟨w.heap.size, 0, none⟩) 1 1) rfl rfl rfl ⟨_, rfl, ?_, ?_, ?_⟩
    · rw [Hf.out]; exact ownsRow_new #[.int .i32 65533] _ (by simp) (by simp) (by decide) rfl rfl
    · exact gb_alloc (gb_set (gb_refl _ _) _ _) _
    · rw [Hf.out]; exact DecAt_of (blk_alloc (blk_set HD.out _ _) _) rfl
end Go.Proofs.YtlfdgkiliegaiaaGreatDoor

/- Plain facts of the decoder. -/
namespace Go.Proofs.YtlfdgkiliegaiaaGreatDoor
open Go.RowKit

theorem beginD_ok (d : Dec) (b : Int) (hr : 0 ≤ d.r) (hh : d.hav = 0) (hm : 0 ≤ d.more) (hm4 : d.more ≤ 4) : (beginD d b).1.ok := by
  unfold beginD
  split
  · exact ⟨by simp [hh], by simp [hh]; omega, hm, hr, fun h => absurd hh h, fun h => absurd hh h, fun h => absurd hh h, fun h => absurd hh h⟩
  split
  · exact ⟨by simp, by simp, by simp, by simp; omega, fun _ => by simp; omega, fun _ => by simp, fun _ => by simp, fun _ => by simp⟩
  split
  · exact ⟨by simp, by simp, by simp, by simp; omega, fun _ => by simp; omega, fun _ => by simp, fun _ => by simp only []; split <;> omega, fun _ => by simp only []; split <;> omega⟩
  split
  · exact ⟨by simp, by simp, by simp, by simp; omega, fun _ => by simp; omega, fun _ => by simp, fun _ => by simp only []; split <;> omega, fun _ => by simp only []; split <;> omega⟩
  · exact ⟨by simp [hh], by simp [hh]; omega, hm, hr, fun h => absurd hh h, fun h => absurd hh h, fun h => absurd hh h, fun h => absurd hh h⟩

theorem feedD_ok (d : Dec) (b : Int) (h0 : 0 ≤ b) (h1 : b ≤ 255) (hok : d.ok) : (feedD d b).1.ok := by
  have _ := h0; have _ := h1
  have k0 := hok.h0; have k1 := hok.h1; have k2 := hok.m0; have k3 := hok.r0
  unfold feedD
  split
  · rename_i h; exact beginD_ok d b k3 h k2 (by omega)
  rename_i hh
  have k4 := hok.r1 hh; have k5 := hok.m1 hh; have k6 := hok.lo hh; have k7 := hok.hi hh
  split
  · exact beginD_ok _ b k3 rfl k2 (by simp only []; omega)
  rename_i hb
  split
  · rename_i hm
    refine ⟨by simp only []; omega, by simp only []; omega, by simp only []; omega, by simp only []; omega, fun _ => ?_, fun _ => by simp only []; omega, fun _ => by simp, fun _ => by simp⟩
    simp only []
    have e : d.more.toNat = (d.more - 1).toNat + 1 := by omega
    rw [e, Int.pow_succ] at k4
    have hcase : (d.more - 1).toNat = 1 ∨ (d.more - 1).toNat = 2 := by omega
    rcases hcase with h | h <;> rw [h] at k4 ⊢ <;> omega
  · exact ⟨by simp, by simp only []; omega, by simp only []; omega, by simp only []; omega, fun h => absurd rfl h, fun h => absurd rfl h, fun h => absurd rfl h, fun h => absurd rfl h⟩

theorem byte_le (b : UInt8) : (b.toNat : Int) ≤ 255 := by have := b.toNat_lt; omega
theorem runD_ok : ∀ (l : List UInt8) (d : Dec), d.ok → (runD d l).1.ok
  | [], _, h => h
  | b :: l, d, h => runD_ok l _ (feedD_ok d _ (by omega) (byte_le b) h)
theorem feedD_len (d : Dec) (b : Int) : (feedD d b).2.length ≤ 2 := by
  unfold feedD
  repeat' split
  · have := beginD_len d b; omega
  · have := beginD_len { d with hav := 0 } b; simp; omega
  · simp
  · simp
theorem runD_len : ∀ (l : List UInt8) (d : Dec), (runD d l).2.length ≤ 2 * l.length
  | [], _ => by simp [runD]
  | b :: l, d => by
    have := runD_len l (feedD d b.toNat).1
    have := feedD_len d b.toNat
    simp [runD]; omega
theorem endD_len (d : Dec) : (endD d).2.length ≤ 1 := by unfold endD; split <;> simp
theorem runesB_len (s : ByteArray) : (runes s.data.toList).length ≤ 2 * s.size + 1 := by
  have h1 := runD_len s.data.toList dec0
  have h2 := endD_len (runD dec0 s.data.toList).1
  have h3 : s.data.toList.length = s.size := by simp
  unfold runes; rw [List.length_append]; omega

end Go.Proofs.YtlfdgkiliegaiaaGreatDoor

/- Walks of package vtparse: the small ones. -/
namespace Go.Proofs.YtlfdgkiliegaiaaGreatDoor
open Go.RowKit

def onlyL (l : List UInt8) (lo hi : Int) : Bool := l.all fun b => decide (lo ≤ (b.toNat : Int)) && decide ((b.toNat : Int) ≤ hi)
def betweenL (b : Int) : Bool := decide (32 ≤ b) && decide (b ≤ 47)
def beginsL (b : Int) : Bool := b == 91 || b == 93 || b == 80 || b == 88 || b == 94 || b == 95
def betweensL (l : List UInt8) : Bool := decide (l.length ≤ 2) && onlyL l 32 47
theorem between_any (b : Int) (w : World) :
    Calls Tryz.prog 202 #[.int .u8 b] w fun e w' => e = .returned (.bool (betweenL b)) ∧ w' = w := by
  have HB := Lib.hid (show betweenL b = (decide (32 ≤ b) && decide (b ≤ 47)) from rfl)
  by_cases h : 32 ≤ b
  all_goals
    go_enter Tryz.func202, Tryz.ntmps202
    go_wp2_with fail
    go_ret
    exact ⟨ret_bool (by rw [HB.out]; simp [h] <;> omega), by trivial⟩
theorem flag_any (b : Bool) (w : World) :
    Calls Tryz.prog 152 #[.bool b] w fun e w' => e = .returned (.int .i64 (if b then 1 else 0)) ∧ w' = w := by
  cases b
  all_goals
    go_enter Tryz.func152, Tryz.ntmps152
    go_wp2_with fail
    go_ret
    exact ⟨rfl, by trivial⟩
end Go.Proofs.YtlfdgkiliegaiaaGreatDoor

/- Walks of package vtparse: head. -/
namespace Go.Proofs.YtlfdgkiliegaiaaGreatDoor
open Go.RowKit

/-- An action, as numbers and bytes. -/
structure VAct where
  kind : Int
  rune : Int
  byte : UInt8
  params : List Int
  inter : ByteArray
  text : ByteArray
def VAct.val (a : VAct) (vp : Value) : Value := .agg #[.int .i64 a.kind, .int .i32 a.rune, .int .u8 (a.byte.toNat : Int), vp, .string a.inter, .string a.text]

def markL : List UInt8 → List UInt8 × List UInt8
  | [] => ([], [])
  | c :: r => if 60 ≤ (c.toNat : Int) ∧ (c.toNat : Int) ≤ 63 then ([c], r) else ([], c :: r)
def parL (f : Bool) (x : Int) : List UInt8 := (if f then [59] else []) ++ (if 0 ≤ x then Lib.itoa x else [])
def parsL : Bool → List Int → List UInt8
  | _, [] => []
  | f, x :: r => parL f x ++ parsL true r
theorem parsL_snoc : ∀ (l : List Int) (f : Bool) (x : Int), parsL f (l ++ [x]) = parsL f l ++ parL (f || !l.isEmpty) x
  | [], f, x => by simp [parsL]
  | y :: l, f, x => by simp [parsL, parsL_snoc l true x]
def parOk (x : Int) : Bool := decide (-1 ≤ x) && decide (x ≤ 9999)
def preOk (rest : List UInt8) (byte : UInt8) (params : List Int) : Bool :=
  betweensL rest && (decide (64 ≤ (byte.toNat : Int)) && (decide ((byte.toNat : Int) ≤ 126) && (decide (params.length ≤ 32) && !(decide (params = [-1])))))
def headOk (a : VAct) : Bool := preOk (markL a.inter.data.toList).2 a.byte a.params && a.params.all parOk
def headL (a : VAct) : List UInt8 := (markL a.inter.data.toList).1 ++ parsL false a.params ++ (markL a.inter.data.toList).2 ++ [a.byte]

end Go.Proofs.YtlfdgkiliegaiaaGreatDoor
