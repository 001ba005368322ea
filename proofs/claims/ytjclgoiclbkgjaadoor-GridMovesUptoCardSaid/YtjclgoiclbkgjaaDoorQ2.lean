/- Package grid, plain: what its functions do. -/
import Derived.Test.YtjclgoiclbkgjaaDoorQ1
namespace Go.Proofs.YtjclgoiclbkgjaaDoor
open Go.RowKit

/-- May a style be? -/
def colOk (c : Int) : Bool := decide (-1 ≤ c ∧ c ≤ 255) || decide (16777216 ≤ c ∧ c < 33554432)
def okS (s : Sty) : Bool := colOk s.fg && (colOk s.bg && (decide (0 ≤ s.attr) && decide (s.attr ≤ 255)))
def freshL (n cols : Nat) (s : Sty) : List Rw := List.replicate n ⟨List.replicate cols (blankC s), false⟩
def mayG (cols rows : Int) : Bool := decide (1 ≤ cols) && (decide (cols ≤ 250) && (decide (1 ≤ rows) && decide (rows ≤ 120)))
def newG (cols rows limit : Nat) : Gr := ⟨cols, limit, freshL rows cols plainS, []⟩
def Gr.row (g : Gr) (y : Int) : Rw :=
  if 0 ≤ y ∧ y < (g.rows.length : Int) then g.rows.getD y.toNat noR
  else if y < 0 ∧ -(g.old.length : Int) ≤ y then g.old.getD ((g.old.length : Int) + y).toNat noR
  else noR
def Gr.cell (g : Gr) (x y : Int) : Cel := if 0 ≤ x ∧ x < ((g.row y).cells.length : Int) then (g.row y).cells.getD x.toNat noC else noC
/-- A row's cells but the blanks at its end. -/
def trimL (l : List Cel) : List Cel := (l.reverse.dropWhile fun c => c.rune == 32).reverse
def Gr.setWrap (g : Gr) (y : Int) (is : Bool) : Gr :=
  if 0 ≤ y ∧ y < (g.rows.length : Int) then { g with rows := g.rows.set y.toNat { g.rows.getD y.toNat noR with wrap := is } } else g
/-- The cells of row y turned. -/
def Gr.turn (g : Gr) (y : Nat) (f : List Cel → List Cel) : Gr := { g with rows := g.rows.set y { g.rows.getD y noR with cells := f (g.rows.getD y noR).cells } }
def Gr.onIt (g : Gr) (x y : Int) (s : Sty) : Bool := decide (0 ≤ y) && (decide (y < (g.rows.length : Int)) && (decide (0 ≤ x) && (decide (x < (g.cols : Int)) && okS s)))
def layL (l : List Cel) (x : Nat) (c : Cel) : List Cel := putAt (cutL (cutL l x) ((x : Int) + c.width)) x (if c.width = 2 then [c, ⟨0, 0, c.sty⟩] else [c])
def keepL (limit : Nat) (l : List Rw) : List Rw := l.drop (l.length - limit)
def regionN (g : Gr) (top bottom n : Int) (s : Sty) : Nat :=
  if top < 0 ∨ bottom < top ∨ (g.rows.length : Int) ≤ bottom ∨ okS s = false then 0 else (max 0 (min n (bottom - top + 1))).toNat
/-- Rows top to bottom scrolled up by n (n at most bottom - top + 1, at least 1). -/
def upRows (rows : List Rw) (top bottom n cols : Nat) (s : Sty) : List Rw :=
  rows.take top ++ (rows.drop (top + n)).take (bottom + 1 - top - n) ++ freshL n cols s ++ rows.drop (bottom + 1)
def downRows (rows : List Rw) (top bottom n cols : Nat) (s : Sty) : List Rw :=
  rows.take top ++ freshL n cols s ++ (rows.drop top).take (bottom + 1 - top - n) ++ rows.drop (bottom + 1)
def Gr.up (g : Gr) (top bottom n : Int) (s : Sty) (keep : Bool) : Gr :=
  if regionN g top bottom n s = 0 then g
  else { g with rows := upRows g.rows top.toNat bottom.toNat (regionN g top bottom n s) g.cols s
                old := if keep = true ∧ top = 0 then keepL g.limit (g.old ++ (g.rows.drop top.toNat).take (regionN g top bottom n s)) else g.old }
def Gr.down (g : Gr) (top bottom n : Int) (s : Sty) : Gr :=
  if regionN g top bottom n s = 0 then g else { g with rows := downRows g.rows top.toNat bottom.toNat (regionN g top bottom n s) g.cols s }

def isPlain (c : Cel) : Bool := c.rune == 32 && (c.width == 1 && (c.sty.fg == -1 && (c.sty.bg == -1 && c.sty.attr == 0)))
/-- A line being split: the rows that are whole, the one that is being filled, where the marked cell came to lie. -/
structure Sp where
  done : List Rw
  cur : List Cel
  told : Option (Int × Int)
def spLay (cols : Nat) (mark : Int) (st : Sp) (i : Nat) (c : Cel) : Sp :=
  let cur1 := if c.width = 2 ∧ st.cur.length = cols - 1 then st.cur ++ [blankC plainS] else st.cur
  let done2 := if cur1.length = cols then st.done ++ [⟨cur1, true⟩] else st.done
  let cur2 := if cur1.length = cols then [] else cur1
  ⟨done2, cur2 ++ [c], if (i : Int) = mark then some ((cur2.length : Int), (done2.length : Int)) else st.told⟩
def spStep (cols : Nat) (mark : Int) (st : Sp) (i : Nat) (c : Cel) : Sp :=
  if cols = 1 ∧ c.width ≠ 1 then
    if c.width = 0 then { st with told := if (i : Int) = mark then some ((st.cur.length : Int) - 1, (st.done.length : Int)) else st.told }
    else spLay cols mark st i (blankC c.sty)
  else spLay cols mark st i c
def spRun (cols : Nat) (mark : Int) : Sp → Nat → List Cel → Sp
  | st, _, [] => st
  | st, i, c :: l => spRun cols mark (spStep cols mark st i c) (i + 1) l
def spEnd (cols : Nat) (st : Sp) : List Rw := st.done ++ [⟨st.cur ++ List.replicate (cols - st.cur.length) (blankC plainS), false⟩]
def splitG (l : List Cel) (cols : Nat) (mark : Int) : Sp := spRun cols mark ⟨[], [], none⟩ 0 l
/-- A line but for the plain blanks at its end, behind the mark. -/
def trimF : Nat → List Cel → Int → List Cel
  | 0, l, _ => l
  | n + 1, l, mark => if mark < (l.length : Int) - 1 ∧ l ≠ [] ∧ isPlain (l.getD (l.length - 1) noC) = true then trimF n (l.take (l.length - 1)) mark else l
def trimM (l : List Cel) (mark : Int) : List Cel := trimF l.length l mark
def wrapLast (l : List Rw) (is : Bool) : List Rw := l.set (l.length - 1) { l.getD (l.length - 1) noR with wrap := is }
structure Fl where
  out : List Rw
  px : Int
  py : Int
def flEnd (cols : Nat) (line : List Cel) (mark : Int) (wrap : Bool) (st : Fl) : Fl :=
  let sp := splitG (trimM line mark) cols mark
  ⟨st.out ++ wrapLast (spEnd cols sp) wrap, match sp.told with | some q => q.1 | none => st.px, match sp.told with | some q => (st.out.length : Int) + q.2 | none => st.py⟩
def flRun (cols : Nat) (place atx : Int) : List Rw → Nat → List Cel → Int → Fl → Fl
  | [], _, _, _, st => st
  | r :: rest, i, line, mark, st =>
    let mark2 := if (i : Int) = place then (line.length : Int) + atx else mark
    if r.wrap = false ∨ rest = [] then flRun cols place atx rest (i + 1) [] (-1) (flEnd cols (line ++ r.cells) mark2 r.wrap st)
    else flRun cols place atx rest (i + 1) (line ++ r.cells) mark2 st
/-- Rows but for plain ones at the end, behind py. -/
def trimR : Nat → List Rw → Int → List Rw
  | 0, l, _ => l
  | n + 1, l, py => if py < (l.length : Int) - 1 ∧ (l.getD (l.length - 1) noR).wrap = false ∧ (l.getD (l.length - 1) noR).cells.all isPlain = true then trimR n (l.take (l.length - 1)) py else l
def Gr.flow (g : Gr) (cols rows : Nat) (ax ay : Int) : Gr × Int × Int :=
  let st := flRun cols ((g.old.length : Int) + ay) ax (g.old ++ g.rows) 0 [] (-1) ⟨[], 0, 0⟩
  let out := trimR st.out.length st.out st.py
  let first := (min (max 0 ((out.length : Int) - rows)) st.py).toNat
  let now := (out.drop first).take rows
  (⟨cols, g.limit, now ++ freshL (rows - now.length) cols plainS, keepL g.limit (out.take first)⟩, st.px, st.py - first)
def fitL (r : Rw) (cols : Nat) : Rw :=
  if cols = r.cells.length then r else ⟨(cutL r.cells cols).take cols ++ List.replicate (cols - r.cells.length) (blankC plainS), false⟩
def into (n most : Int) : Int := max 0 (min n most)
def Gr.resize (g : Gr) (cols rows : Nat) (ax ay : Int) (reflow : Bool) : Gr × Int × Int :=
  if reflow then g.flow cols rows (into ax (g.cols - 1)) (into ay ((g.rows.length : Int) - 1))
  else
    let fit := g.rows.map fun r => fitL r cols
    (⟨cols, g.limit, if rows < fit.length then fit.take rows else fit ++ freshL (rows - fit.length) cols plainS, g.old.map fun r => fitL r cols⟩,
      min (into ax (g.cols - 1)) (cols - 1), min (into ay ((g.rows.length : Int) - 1)) (rows - 1))
end Go.Proofs.YtjclgoiclbkgjaaDoor
