/- Package grid, texts laid together: N13 Q6 N14 N16. -/
import Derived.Test.YtjclgoiclbkgjaaGreatDoorK20
import Derived.Test.YtjclgoiclbkgjaaGreatDoorK8
import Derived.Test.YtjclgoiclbkgjaaGreatDoorK4
import Derived.Test.YtjclgoiclbkgjaaGreatDoorK12
/- Walk of the document's grid: bare (a row that is wholly plain). -/
namespace Go.Proofs.YtjclgoiclbkgjaaGreatDoor
open Go.RowKit
attribute [local go_sem ↓] Go.wp_at_zero Go.wp_at_succ

set_option maxRecDepth 100000 in
set_option maxHeartbeats 4000000 in
theorem bareD_any (l : List Cel) (wp : Bool) (b off c : Nat) (w : World) (h : CellsAt w b off l) (hl : l.length ≤ 1000000) :
    Calls Tryz.prog 88 #[.agg #[.slice (some ⟨b, off, none⟩) l.length c, .bool wp]] w fun e w' => e = .returned (.bool (l.all isPlain && !wp)) ∧ Below w.heap.size w w' := by
  have HB0 := Lib.hid (Below.alloc (Below.refl w.heap.size w) (Nat.le_refl _) (.cells #[.slice (some ⟨b, off, none⟩) l.length c, .bool wp] 96))
  have HK0 := Lib.hid (blk_new w (.cells #[.slice (some ⟨b, off, none⟩) l.length c, .bool wp] 96))
  have HC := Lib.hid (h.below HB0.out)
  clear h
  go_enter Tryz.func88, Tryz.ntmps88
  go_upto_region 1 with fail
  generalize w.alloc (.cells #[.slice (some ⟨b, off, none⟩) l.length c, .bool wp] 96) = w1 at *
  go_upto_region 2 with fail
  go_loopw [3] (fun iv wr => ∃ k : Nat, k ≤ l.length ∧ iv = .int .i64 k ∧ Hid (Below w1.heap.size w1 wr) ∧ Hid ((l.take k).all isPlain = true)) (fun iv _ => l.length - (intOf iv).toNat)
  case atStart => exact ⟨0, Nat.zero_le _, rfl, Below.refl _ _, by simp [Hid]⟩
  case round =>
    obtain ⟨k, hk, rfl, HB, HA⟩ := hrel
    have hk1 := blk_below HK0.out HB.out (heap_lt HK0.out)
    have p0 : wr.cell? ⟨w.heap.size, 0, none⟩ = some (.slice (some ⟨b, off, none⟩) l.length c) := blk_cell hk1 0
    have p1 : wr.cell? ⟨w.heap.size, 1, none⟩ = some (.bool wp) := blk_cell hk1 1
    have HK1 := Lib.hid hk1
    have HW := Lib.hid (HB0.out.trans (HB.out.mono HB0.out.size))
    clear hk1
    by_cases hlt : k < l.length
    · obtain ⟨q0, q1, q2, q3, q4⟩ := (HC.out.below HB.out).at k hlt rfl
      have HCR := Lib.hid (HC.out.below HB.out)
      have hix := idx_at (P := Tryz.prog) (size := 5) Tryz.underlying42 cell_info b off l.length c k hlt
      have HAS := Lib.hid (all_snoc l k hlt)
      have HAT : ∀ wx, Below wr.heap.size wr wx → CellsAt wx b off l := fun wx bx => HCR.out.below bx
      have HAF := Lib.hid (fun wx (bx : Below wr.heap.size wr wx) => (HAT wx bx).at k hlt rfl)
      clear HAT
      have HAL : Hid (isPlain (l.getD k noC) = false → l.all isPlain = false) := fun hf => by
        rw [Bool.eq_false_iff]
        intro ha
        have hm : l.getD k noC ∈ l := by rw [List.getD_eq_getElem?_getD, List.getElem?_eq_getElem hlt]; exact List.getElem_mem _
        rw [(List.all_eq_true.1 ha) _ hm] at hf
        exact absurd hf (by decide)
      have d1 : decide ((k : Int) < (l.length : Int)) = true := decide_eq_true (by omega)
      have d1' : decide (k < l.length) = true := decide_eq_true hlt
      generalize l.getD k noC = cc at *
      obtain ⟨cr, cw, cs⟩ := cc
      obtain ⟨cf, cb, ca⟩ := cs
      dsimp only at q0 q1 q2 q3 q4
      have hq : ∀ wx, (binOp .neq 38 (.agg #[.int .i32 cr, .int .i64 cw, .int .i64 cf, .int .i64 cb, .int .i64 ca]) (blankC plainS).val).run Tryz.prog wx = .ok (.bool (!isPlain ⟨cr, cw, ⟨cf, cb, ca⟩⟩)) wx := fun wx => neq_cel ⟨cr, cw, ⟨cf, cb, ca⟩⟩ (blankC plainS) wx
      have hgd : ∀ x y wx, (eqGuard .neq 38 x y (.agg #[.int .i32 cr, .int .i64 cw, .int .i64 cf, .int .i64 cb, .int .i64 ca]) (blankC plainS).val).run Tryz.prog wx = .ok () wx := fun x y wx => guard_cel .neq x y ⟨cr, cw, ⟨cf, cb, ca⟩⟩ (blankC plainS) wx
      have HR0 := Lib.hid (Below.refl wr.heap.size wr)
      go_upto_region 4 with fail
      go_region_held3 (fun w' => w'.cell? ⟨w.heap.size, 0, none⟩ = some (.slice (some ⟨b, off, none⟩) l.length c) ∧ w'.cell? ⟨b, off + k * 5, none⟩ = some (.int .i32 cr) ∧ w'.cell? ⟨b, off + k * 5 + 1, none⟩ = some (.int .i64 cw) ∧ w'.cell? ⟨b, off + k * 5 + 2, none⟩ = some (.int .i64 cf) ∧ w'.cell? ⟨b, off + k * 5 + 3, none⟩ = some (.int .i64 cb) ∧ w'.cell? ⟨b, off + k * 5 + 4, none⟩ = some (.int .i64 ca)) (go_keep)
        (first
          | (go_at_call 23
             refine (refPlain_any _).mono ?_
             rintro e w5 ⟨rfl, b5⟩
             have b5' : Below wr.heap.size wr w5 := HR0.out.drew.trans b5
             have hk5 := blk_below HK1.out b5' (heap_lt HK1.out)
             have zh : w5.cell? ⟨w.heap.size, 0, none⟩ = some (.slice (some ⟨b, off, none⟩) l.length c) := blk_cell hk5 0
             obtain ⟨z0, z1, z2, z3, z4⟩ := HAF.out w5 b5'
             have HB5 := Lib.hid b5'
             clear b5 b5' hk5)
          | (go_at_call 64
             refine (blankD_any plainS _).mono ?_
             rintro e w6 ⟨rfl, b6⟩
             have b6' : Below wr.heap.size wr w6 := HB5.out.trans (b6.mono HB5.out.size)
             have hk6 := blk_below HK1.out b6' (heap_lt HK1.out)
             have yh : w6.cell? ⟨w.heap.size, 0, none⟩ = some (.slice (some ⟨b, off, none⟩) l.length c) := blk_cell hk6 0
             obtain ⟨y0, y1, y2, y3, y4⟩ := HAF.out w6 b6'
             have HB6 := Lib.hid b6'
             clear b6 b6' hk6))
      clear p0 p1 q0 q1 q2 q3 q4 zh z0 z1 z2 z3 z4 yh y0 y1 y2 y3 y4 hq hgd
      cases hpl : isPlain ⟨cr, cw, ⟨cf, cb, ca⟩⟩
      · have HE := Lib.hid (HAL.out hpl)
        clear HAS
        go_wp2_with fail
        exact ret1v rfl rfl rfl ⟨by rw [HE.out]; rfl, HW.out.trans (HB6.out.mono HW.out.size)⟩
      · go_wp2_with fail
        go_roundw
        case rel => exact ⟨k + 1, by omega, by go_num, HB.out.trans (HB6.out.mono HB.out.size), by show _ = _; rw [HAS.out, HA.out, hpl]; rfl⟩
        case measure => simp [intOf]; omega
    · have hkl : k = l.length := by omega
      subst hkl
      have d1 : decide ((l.length : Int) < (l.length : Int)) = false := decide_eq_false (by omega)
      have d1' : decide (l.length < l.length) = false := decide_eq_false (by omega)
      have HE := Lib.hid (show l.all isPlain = true by rw [← HA.out, List.take_length])
      go_wp2_with fail
      exact ret1v rfl rfl rfl ⟨by rw [HE.out, Bool.true_and]; rfl, HW.out⟩
end Go.Proofs.YtjclgoiclbkgjaaGreatDoor

/- The document's reflow, plain: lines first, then each line split; the same as flRun. -/
namespace Go.Proofs.YtjclgoiclbkgjaaGreatDoor
open Go.RowKit

/-- A line of the document: its cells, where the marked place lies in it, whether it goes on. -/
structure Ln where
  cells : List Cel
  pl : Int
  wrap : Bool
def ln0 : Ln := ⟨[], -1, false⟩
def lnTail (place atx : Int) : List Rw → Nat → List Cel → Int → List Ln
  | [], _, _, _ => []
  | r :: rest, i, line, mark =>
    if r.wrap = false ∨ rest = [] then ⟨line ++ r.cells, if (i : Int) = place then (line.length : Int) + atx else mark, r.wrap⟩ :: lnTail place atx rest (i + 1) [] (-1)
    else lnTail place atx rest (i + 1) (line ++ r.cells) (if (i : Int) = place then (line.length : Int) + atx else mark)
def flLn (cols : Nat) (st : Fl) (l : Ln) : Fl := flEnd cols l.cells l.pl l.wrap st
theorem flRun_lines (cols : Nat) (place atx : Int) (rows : List Rw) : ∀ (i : Nat) (line : List Cel) (mark : Int) (st : Fl), flRun cols place atx rows i line mark st = (lnTail place atx rows i line mark).foldl (flLn cols) st := by
  induction rows with
  | nil => intro i line mark st; rfl
  | cons r rest ih =>
    intro i line mark st
    unfold flRun lnTail
    dsimp only
    by_cases h : r.wrap = false ∨ rest = []
    · rw [if_pos h, if_pos h, List.foldl_cons, ih]; rfl
    · rw [if_neg h, if_neg h, ih]
/-- The lines so far: does the next row begin a line? -/
def lnBegins (out : List Ln) : Bool := match out.getLast? with | none => true | some c => !c.wrap
def lnBase (out : List Ln) : List Ln := if lnBegins out then out else out.dropLast
def lnLast (out : List Ln) : Ln := if lnBegins out then ln0 else out.getLast?.getD ln0
def lnStep (place atx : Int) (out : List Ln) (i : Nat) (r : Rw) : List Ln :=
  lnBase out ++ [⟨(lnLast out).cells ++ r.cells, if (i : Int) = place then ((lnLast out).cells.length : Int) + atx else (lnLast out).pl, r.wrap⟩]
def lnRun (place atx : Int) : List Ln → Nat → List Rw → List Ln
  | out, _, [] => out
  | out, i, r :: rest => lnRun place atx (lnStep place atx out i r) (i + 1) rest
theorem begins_snoc (D : List Ln) (c : Ln) : lnBegins (D ++ [c]) = !c.wrap := by unfold lnBegins; rw [List.getLast?_concat]
theorem base_snoc (D : List Ln) (c : Ln) : lnBase (D ++ [c]) = if c.wrap = false then D ++ [c] else D := by
  unfold lnBase
  rw [begins_snoc, List.dropLast_concat]
  cases c.wrap <;> rfl
theorem last_snoc (D : List Ln) (c : Ln) : lnLast (D ++ [c]) = if c.wrap = false then ln0 else c := by
  unfold lnLast
  rw [begins_snoc, List.getLast?_concat]
  cases c.wrap <;> rfl
theorem lnRun_tail (place atx : Int) (rows : List Rw) : ∀ (out : List Ln) (i : Nat), rows ≠ [] → lnRun place atx out i rows = lnBase out ++ lnTail place atx rows i (lnLast out).cells (lnLast out).pl := by
  induction rows with
  | nil => intro _ _ h; exact absurd rfl h
  | cons r rest ih =>
    intro out i _
    unfold lnRun lnTail
    by_cases h0 : rest = []
    · subst h0
      rw [if_pos (.inr rfl)]
      rfl
    · rw [ih _ _ h0]
      unfold lnStep
      rw [base_snoc, last_snoc]
      generalize (if (i : Int) = place then ((lnLast out).cells.length : Int) + atx else (lnLast out).pl) = m
      dsimp only
      by_cases hw : r.wrap = false
      · rw [if_pos hw, if_pos hw, if_pos (Or.inl hw), List.append_assoc]
        rfl
      · rw [if_neg hw, if_neg hw, if_neg (not_or.2 ⟨hw, h0⟩)]
theorem lnRun_all (place atx : Int) (rows : List Rw) : lnRun place atx [] 0 rows = lnTail place atx rows 0 [] (-1) := by
  by_cases h : rows = []
  · subst h; rfl
  · rw [lnRun_tail place atx rows [] 0 h]; rfl
theorem lnRun_snoc (place atx : Int) (l : List Rw) (r : Rw) : ∀ (out : List Ln) (i : Nat), lnRun place atx out i (l ++ [r]) = lnStep place atx (lnRun place atx out i l) (i + l.length) r := by
  induction l with
  | nil => intro out i; simp [lnRun]
  | cons a l ih =>
    intro out i
    rw [List.cons_append]
    unfold lnRun
    rw [ih, List.length_cons]
    congr 1
    omega
/-- The document's reflow of all rows. -/
theorem flRun_doc (cols : Nat) (place atx : Int) (rows : List Rw) : flRun cols place atx rows 0 [] (-1) ⟨[], 0, 0⟩ = (lnRun place atx [] 0 rows).foldl (flLn cols) ⟨[], 0, 0⟩ := by
  rw [flRun_lines, lnRun_all]
/-- A step of the document's split, where widths are 0, 1, 2. -/
theorem spStep_doc (cols : Nat) (mark : Int) (st : Sp) (i : Nat) (c : Cel) (hw : c.width = 0 ∨ c.width = 1 ∨ c.width = 2) :
    spStep cols mark st i c = if cols = 1 ∧ c.width = 0 then { st with told := if (i : Int) = mark then some ((st.cur.length : Int) - 1, (st.done.length : Int)) else st.told }
      else spLay cols mark st i (if cols = 1 ∧ c.width = 2 then blankC c.sty else c) := by
  unfold spStep
  by_cases h1 : cols = 1
  · rcases hw with h | h | h
    · rw [if_pos (show cols = 1 ∧ c.width ≠ 1 from ⟨h1, by omega⟩), if_pos (show c.width = 0 from h), if_pos (show cols = 1 ∧ c.width = 0 from ⟨h1, h⟩)]
    · rw [if_neg (show ¬ (cols = 1 ∧ c.width ≠ 1) from fun e => e.2 h), if_neg (show ¬ (cols = 1 ∧ c.width = 0) from fun e => by omega), if_neg (show ¬ (cols = 1 ∧ c.width = 2) from fun e => by omega)]
    · rw [if_pos (show cols = 1 ∧ c.width ≠ 1 from ⟨h1, by omega⟩), if_neg (show ¬ c.width = 0 by omega), if_neg (show ¬ (cols = 1 ∧ c.width = 0) from fun e => by omega), if_pos (show cols = 1 ∧ c.width = 2 from ⟨h1, h⟩)]
  · rw [if_neg (show ¬ (cols = 1 ∧ c.width ≠ 1) from fun e => h1 e.1), if_neg (show ¬ (cols = 1 ∧ c.width = 0) from fun e => h1 e.1), if_neg (show ¬ (cols = 1 ∧ c.width = 2) from fun e => h1 e.1)]
theorem spEnd_wrap (cols : Nat) (st : Sp) (is : Bool) : wrapLast (spEnd cols st) is = st.done ++ [⟨st.cur ++ List.replicate (cols - st.cur.length) (blankC plainS), is⟩] := by
  unfold wrapLast spEnd
  rw [List.length_append, List.length_singleton, Nat.add_sub_cancel, List.getD_eq_getElem?_getD, List.getElem?_append_right (Nat.le_refl _), Nat.sub_self, List.set_append_right _ _ (Nat.le_refl _), Nat.sub_self]
  rfl
/-- Plain blanks dropped from a line's end, by the count of cells that are left. -/
theorem trimM_at (l : List Cel) (mark : Int) (n : Nat) (h : n < l.length) : trimM (l.take (n + 1)) mark = if mark < (n : Int) ∧ isPlain (l.getD n noC) = true then trimM (l.take n) mark else l.take (n + 1) := by
  have hl : (l.take (n + 1)).length = n + 1 := by rw [List.length_take]; omega
  have hg : (l.take (n + 1)).getD n noC = l.getD n noC := by
    rw [List.getD_eq_getElem?_getD, List.getD_eq_getElem?_getD, List.getElem?_take, if_pos (by omega)]
  have ht : (l.take (n + 1)).take n = l.take n := by rw [List.take_take]; congr 1; omega
  have hne : l.take (n + 1) ≠ [] := fun e => by rw [e] at hl; simp at hl
  rw [trimM_step, hl, Nat.add_sub_cancel, hg, ht, show ((n + 1 : Nat) : Int) - 1 = (n : Int) by omega]
  by_cases h1 : mark < (n : Int) ∧ isPlain (l.getD n noC) = true
  · rw [if_pos h1, if_pos ⟨h1.1, hne, h1.2⟩]
  · rw [if_neg h1, if_neg (fun e => h1 ⟨e.1, e.2.2⟩)]
end Go.Proofs.YtjclgoiclbkgjaaGreatDoor

/- Walk of the document's grid: split; the state in memory. -/
namespace Go.Proofs.YtjclgoiclbkgjaaGreatDoor
open Go.RowKit

def saidX (t : Option (Int × Int)) : Int := match t with | some q => q.1 | none => 0
def saidY (t : Option (Int × Int)) : Int := match t with | some q => q.2 | none => -1
/-- The document's split in memory: rows that are whole (vO), the one being filled (vR), the place told (block pb). -/
structure SpD (w : World) (pb : Nat) (wr : World) (vO vR : Value) (L : List (Value × Rw)) (st : Sp) : Prop where
  gb : w.grownBy wr (some pb)
  pk : wr.heap[pb]? = some (.cells #[.int .i64 (saidX st.told), .int .i64 (saidY st.told)] 51 (0, 0))
  rows : RowsAt w.heap.size wr vO L
  lr : L.map (·.2) = st.done
  row : OwnC wr w.heap.size 5 vR st.cur.length (cvals st.cur)
  ap : ∀ q, vR.ownBlock = some q → vO.ownBlock ≠ some q ∧ ∀ x ∈ L, x.1.ownBlock ≠ some q
  hpb : pb < w.heap.size
theorem SpD.below {w : World} {pb : Nat} {wr w' : World} {vO vR : Value} {L : List (Value × Rw)} {st : Sp} (h : SpD w pb wr vO vR L st) (b : Below wr.heap.size wr w') : SpD w pb w' vO vR L st :=
  ⟨gb_below h.gb b h.gb.size, blk_below h.pk b (heap_lt h.pk), h.rows.below b, h.lr, ownC_below h.row b, h.ap, h.hpb⟩
theorem SpD.tell {w : World} {pb : Nat} {wr w' : World} {vO vR : Value} {L : List (Value × Rw)} {st : Sp} (h : SpD w pb wr vO vR L st) (x y : Int) (g : wr.grownBy w' (some pb)) (hk : w'.heap[pb]? = some (.cells #[.int .i64 x, .int .i64 y] 51 (0, 0))) :
    SpD w pb w' vO vR L { st with told := some (x, y) } :=
  have hpb := h.hpb
  ⟨gb_trans h.gb g, hk, h.rows.grown g (fun k hk => by injection hk with hk; omega), h.lr, ownC_grown h.row g (fun k hk e => by have := (ownC_lt h.row k hk).1; injection e with e; omega), h.ap, h.hpb⟩
theorem SpD.push {w : World} {pb : Nat} {wr w2 w3 : World} {vO vR vR' : Value} {L : List (Value × Rw)} {st : Sp} (h : SpD w pb wr vO vR L st) (bl : Below wr.heap.size wr w2) {x : Cel}
    (o3 : OwnC w3 w.heap.size 5 vR' (st.cur.length + 1) (cvals st.cur ++ x.vals)) (g : w2.grownBy w3 vR.ownBlock) (hn : ∀ k, vR'.ownBlock = some k → vR.ownBlock = some k ∨ w2.heap.size ≤ k) :
    SpD w pb w3 vO vR' L { st with cur := st.cur ++ [x] } := by
  have h2 := h.below bl
  have hpb := h.hpb
  refine ⟨gb_trans_new h2.gb g (fun q hq => (ownC_lt h.row q hq).1), blk_grown h2.pk g (fun e => by have := (ownC_lt h.row pb e.symm).1; omega), ?_, h.lr, ?_, fun q hq => ?_, hpb⟩
  · refine ⟨ownC_grown h2.rows.own g (fun k hk e => (h.ap k e).1 hk), fun y hy => ownC_grown (h2.rows.cells y hy) g (fun k hk e => (h.ap k e).2 y hy hk), h2.rows.nd, h2.rows.ap⟩
  · show OwnC w3 w.heap.size 5 vR' (st.cur ++ [x]).length (cvals (st.cur ++ [x]))
    rw [List.length_append, List.length_singleton, cvals_snoc]
    exact o3
  · rcases hn q hq with h1 | h1
    · exact h.ap q h1
    · refine ⟨fun e => ?_, fun y hy e => ?_⟩
      · have := (ownC_lt h2.rows.own q e).2; omega
      · have := (ownC_lt (h2.rows.cells y hy) q e).2; omega
theorem SpD.flush {w : World} {pb q0 : Nat} {wr w2 w3 : World} {vO vO' vR : Value} {L : List (Value × Rw)} {st : Sp} (h : SpD w pb wr vO vR L st) (hq0 : vR.ownBlock = some q0) (bl : Below wr.heap.size wr w2) (is : Bool)
    (o3 : OwnC w3 w.heap.size 2 vO' (L.length + 1) (rowVals L ++ [vR, .bool is])) (g : w2.grownBy w3 vO.ownBlock) (hn : ∀ k, vO'.ownBlock = some k → vO.ownBlock = some k ∨ w2.heap.size ≤ k) :
    SpD w pb w3 vO' (.slice none 0 0) (L ++ [(vR, ⟨st.cur, is⟩)]) { st with done := st.done ++ [⟨st.cur, is⟩], cur := [] } := by
  have h2 := h.below bl
  have hpb := h.hpb
  have hrl : ∀ x ∈ L, ∀ k, x.1.ownBlock = some k → vO.ownBlock ≠ some k := fun x hx k hk => by
    obtain ⟨q, e1, e2⟩ := h.rows.ap x hx
    rw [e1] at hk
    injection hk with hk
    rw [← hk]; exact e2
  refine ⟨gb_trans_new h2.gb g (fun q hq => (ownC_lt h.rows.own q hq).1), blk_grown h2.pk g (fun e => by have := (ownC_lt h.rows.own pb e.symm).1; omega), ⟨?_, fun x hx => ?_, ?_, fun x hx => ?_⟩, ?_, ownC_nil _ _ _, fun q hq => by simp [Value.ownBlock] at hq, hpb⟩
  · rw [List.length_append, List.length_singleton, rowVals_append]
    exact o3
  · rcases List.mem_append.1 hx with hx | hx
    · exact ownC_grown (h2.rows.cells x hx) g (fun k hk e => hrl x hx k hk e)
    · simp only [List.mem_singleton] at hx
      subst hx
      exact ownC_grown h2.row g (fun k hk e => (h.ap k hk).1 e)
  · rw [List.map_append, List.nodup_append]
    refine ⟨h.rows.nd, by simp, fun a ha c hc e => ?_⟩
    obtain ⟨x, hx, rfl⟩ := List.mem_map.1 ha
    simp only [List.map_cons, List.map_nil, List.mem_singleton] at hc
    subst hc
    exact (h.ap q0 hq0).2 x hx (by rw [e]; exact hq0)
  · have hlt : ∀ y : Value × Rw, y ∈ L ++ [(vR, (⟨st.cur, is⟩ : Rw))] → ∃ q, y.1.ownBlock = some q ∧ vO.ownBlock ≠ some q ∧ q < w2.heap.size := fun y hy => by
      rcases List.mem_append.1 hy with hy | hy
      · obtain ⟨q, e1, e2⟩ := h.rows.ap y hy
        exact ⟨q, e1, e2, (ownC_lt (h2.rows.cells y hy) q e1).2⟩
      · simp only [List.mem_singleton] at hy
        subst hy
        exact ⟨q0, hq0, (h.ap q0 hq0).1, (ownC_lt h2.row q0 hq0).2⟩
    obtain ⟨q, e1, e2, e3⟩ := hlt x hx
    refine ⟨q, e1, fun e => ?_⟩
    rcases hn q e with h1 | h1
    · exact e2 h1
    · omega
  · rw [List.map_append, h.lr]; rfl
/-- The same, with the cell that is being laid: it lies in block cb. -/
structure SpE (w : World) (pb cb : Nat) (c : Cel) (wr : World) (vO vR : Value) (L : List (Value × Rw)) (st : Sp) : Prop where
  s : SpD w pb wr vO vR L st
  ck : wr.heap[cb]? = some (.cells #[.int .i32 c.rune, .int .i64 c.width, .int .i64 c.sty.fg, .int .i64 c.sty.bg, .int .i64 c.sty.attr] 38 (0, 0))
  o1 : vO.ownBlock ≠ some cb
  r1 : vR.ownBlock ≠ some cb
  l1 : ∀ x ∈ L, x.1.ownBlock ≠ some cb
  hcb : w.heap.size ≤ cb
theorem SpE.start {w : World} {pb : Nat} {wr : World} {vO vR : Value} {L : List (Value × Rw)} {st : Sp} (h : SpD w pb wr vO vR L st) (c : Cel) :
    SpE w pb wr.heap.size c (wr.alloc (.cells #[.int .i32 c.rune, .int .i64 c.width, .int .i64 c.sty.fg, .int .i64 c.sty.bg, .int .i64 c.sty.attr] 38)) vO vR L st :=
  ⟨h.below (Below.alloc (Below.refl _ _) (Nat.le_refl _) _), blk_new _ _, fun e => by have := (ownC_lt h.rows.own _ e).2; omega, fun e => by have := (ownC_lt h.row _ e).2; omega, fun x hx e => by have := (ownC_lt (h.rows.cells x hx) _ e).2; omega, h.gb.size⟩
theorem SpE.below {w : World} {pb cb : Nat} {c : Cel} {wr w' : World} {vO vR : Value} {L : List (Value × Rw)} {st : Sp} (h : SpE w pb cb c wr vO vR L st) (b : Below wr.heap.size wr w') : SpE w pb cb c w' vO vR L st :=
  ⟨h.s.below b, blk_below h.ck b (heap_lt h.ck), h.o1, h.r1, h.l1, h.hcb⟩
theorem SpE.tell {w : World} {pb cb : Nat} {c : Cel} {wr w' : World} {vO vR : Value} {L : List (Value × Rw)} {st : Sp} (h : SpE w pb cb c wr vO vR L st) (x y : Int) (g : wr.grownBy w' (some pb)) (hk : w'.heap[pb]? = some (.cells #[.int .i64 x, .int .i64 y] 51 (0, 0))) :
    SpE w pb cb c w' vO vR L { st with told := some (x, y) } :=
  have hpb := h.s.hpb
  have hcb := h.hcb
  ⟨h.s.tell x y g hk, blk_grown h.ck g (fun e => by injection e with e; omega), h.o1, h.r1, h.l1, h.hcb⟩
theorem SpE.push {w : World} {pb cb : Nat} {c : Cel} {wr w2 w3 : World} {vO vR vR' : Value} {L : List (Value × Rw)} {st : Sp} (h : SpE w pb cb c wr vO vR L st) (bl : Below wr.heap.size wr w2) {x : Cel}
    (o3 : OwnC w3 w.heap.size 5 vR' (st.cur.length + 1) (cvals st.cur ++ x.vals)) (g : w2.grownBy w3 vR.ownBlock) (hn : ∀ k, vR'.ownBlock = some k → vR.ownBlock = some k ∨ w2.heap.size ≤ k) :
    SpE w pb cb c w3 vO vR' L { st with cur := st.cur ++ [x] } :=
  ⟨h.s.push bl o3 g hn, blk_grown (h.below bl).ck g (fun e => h.r1 e.symm), h.o1, fun e => by
    rcases hn cb e with h1 | h1
    · exact h.r1 h1
    · have := heap_lt h.ck; have := bl.size; omega, h.l1, h.hcb⟩
theorem SpE.flush {w : World} {pb cb q0 : Nat} {c : Cel} {wr w2 w3 : World} {vO vO' vR : Value} {L : List (Value × Rw)} {st : Sp} (h : SpE w pb cb c wr vO vR L st) (hq0 : vR.ownBlock = some q0) (bl : Below wr.heap.size wr w2) (is : Bool)
    (o3 : OwnC w3 w.heap.size 2 vO' (L.length + 1) (rowVals L ++ [vR, .bool is])) (g : w2.grownBy w3 vO.ownBlock) (hn : ∀ k, vO'.ownBlock = some k → vO.ownBlock = some k ∨ w2.heap.size ≤ k) :
    SpE w pb cb c w3 vO' (.slice none 0 0) (L ++ [(vR, ⟨st.cur, is⟩)]) { st with done := st.done ++ [⟨st.cur, is⟩], cur := [] } :=
  ⟨h.s.flush hq0 bl is o3 g hn, blk_grown (h.below bl).ck g (fun e => h.o1 e.symm), fun e => by
    rcases hn cb e with h1 | h1
    · exact h.o1 h1
    · have := heap_lt h.ck; have := bl.size; omega, by simp [Value.ownBlock], fun x hx => by
    rcases List.mem_append.1 hx with hx | hx
    · exact h.l1 x hx
    · simp only [List.mem_singleton] at hx; subst hx; exact h.r1, h.hcb⟩
/-- The cell turns into a blank. -/
theorem SpE.setc {w : World} {pb cb : Nat} {c : Cel} {wr : World} {vO vR : Value} {L : List (Value × Rw)} {st : Sp} (h : SpE w pb cb c wr vO vR L st) (c' : Cel) :
    SpE w pb cb c' (wr.setRow cb #[.int .i32 c'.rune, .int .i64 c'.width, .int .i64 c'.sty.fg, .int .i64 c'.sty.bg, .int .i64 c'.sty.attr]) vO vR L st := by
  have hpb := h.s.hpb
  have hcb := h.hcb
  have g := gb_setRow wr cb #[.int .i32 c'.rune, .int .i64 c'.width, .int .i64 c'.sty.fg, .int .i64 c'.sty.bg, .int .i64 c'.sty.attr]
  refine ⟨⟨gb_trans_new h.s.gb g (fun q hq => by injection hq with hq; omega), blk_grown h.s.pk g (fun e => by injection e with e; omega), ?_, h.s.lr, ownC_grown h.s.row g (fun k hk e => h.r1 (by rw [hk, ← e])), h.s.ap, hpb⟩, setRow_blk h.ck, h.o1, h.r1, h.l1, hcb⟩
  exact ⟨ownC_grown h.s.rows.own g (fun k hk e => h.o1 (by rw [hk, ← e])), fun y hy => ownC_grown (h.s.rows.cells y hy) g (fun k hk e => h.l1 y hy (by rw [hk, ← e])), h.s.rows.nd, h.s.rows.ap⟩
end Go.Proofs.YtjclgoiclbkgjaaGreatDoor

/- Results: a temporary and a cell. -/
namespace Go.Proofs.YtjclgoiclbkgjaaGreatDoor
open Go.RowKit

theorem results_tmp_cell {fn : Func} {p u : Tmp} {ty : TypeId} (h : fn.results = #[.tmp u, .cell p ty]) (tmps : Array Value) (P : Program) (w : World) :
    (results fn tmps).run P w = ((asAddr (tmps.getD p undef)).run P w).andThen fun a w₁ => ((loadVar ty a).run P w₁).andThen fun v w₂ => .ok (.tuple #[tmps.getD u undef, v]) w₂ := by
  unfold results
  rw [h]
  simp [Result.andThen]
theorem retRow3 {P : Program} {fn : Func} {R : Ending → World → Prop} {a : Act} {w : World} {p u : Tmp} {ty t : TypeId} {g : Nat} {cs : Array Value} {fr : Nat × Nat} {d : TypeDesc} {x : Value} (h : fn.results = #[.tmp u, .cell p ty]) (hdf : a.defers = [])
    (hp : a.tmps.getD p undef = .pointer (some ⟨g, 0, none⟩)) (hx : a.tmps.getD u undef = x) (hg : w.heap[g]? = some (.cells cs t fr)) (hu : P.underlying ty = some d) (hd : (match d with | .struct _ | .array _ _ => true | _ => false) = true) (hi : (P.info? ty).map (·.size) = some cs.size)
    (hR : R (.returned (.tuple #[x, .agg cs])) w) : bodyPost P fn R .ret a w :=
  bodyPost_ret (by rw [results_tmp_cell h, hp, hx]; simp [asAddr, run_loadVar_row w g t ty cs fr d hg hu hd hi, Result.andThen]) hdf hR
end Go.Proofs.YtjclgoiclbkgjaaGreatDoor
