/- Walks of package grid: split. -/
import Derived.Test.YtjclgoiclbkgjaaDoorG20
import Derived.Laws.EntriesVeiled
import Derived.Deep.DeepCutAuto
namespace Go.Proofs.YtjclgoiclbkgjaaDoor
open Go.RowKit
attribute [local go_sem ↓] Go.wp_at_zero Go.wp_at_succ

def tellX (t : Option (Int × Int)) (px : Int) : Int := match t with | some q => q.1 | none => px
def tellY (t : Option (Int × Int)) (py was : Int) : Int := match t with | some q => was + q.2 | none => py
/-- The state of a split: the world since w, what has been told, the rows. -/
structure SpS (w : World) (pb : Nat) (px py was : Int) (wr : World) (v : Value) (D : List (Value × Rw)) (lv : Value) (done : List Rw) (r : Rw) (told : Option (Int × Int)) : Prop where
  gb : w.grownBy wr (some pb)
  pk : wr.heap[pb]? = some (.cells #[.int .i64 (tellX told px), .int .i64 (tellY told py was)] 43 (0, 0))
  sp : SpAt w.heap.size (w.heap.size + 1) wr v D lv done r
theorem SpS.below {w : World} {pb : Nat} {px py was : Int} {wr w' : World} {v lv : Value} {D : List (Value × Rw)} {done : List Rw} {r : Rw} {told : Option (Int × Int)} (h : SpS w pb px py was wr v D lv done r told) (b : Below wr.heap.size wr w') : SpS w pb px py was w' v D lv done r told :=
  ⟨gb_below h.gb b h.gb.size, blk_below h.pk b (heap_lt h.pk), h.sp.below b⟩
/-- It is told. -/
theorem SpS.tell {w : World} {pb : Nat} {px py was : Int} {wr w' : World} {v lv : Value} {D : List (Value × Rw)} {done : List Rw} {r : Rw} {told : Option (Int × Int)} (h : SpS w pb px py was wr v D lv done r told) (hpb : pb < w.heap.size) (x y : Int) (g : wr.grownBy w' (some pb)) (hk : w'.heap[pb]? = some (.cells #[.int .i64 x, .int .i64 (was + y)] 43 (0, 0))) :
    SpS w pb px py was w' v D lv done r (some (x, y)) :=
  ⟨gb_trans h.gb g, hk, h.sp.grown g (fun k hk => by injection hk with hk; omega) (by omega)⟩
theorem cell_grown {w w' : World} {row : Option Nat} (g : w.grownBy w' row) {b o : Nat} {v : Value} (h : w.cell? ⟨b, o, none⟩ = some v) (hne : row ≠ some b) : w'.cell? ⟨b, o, none⟩ = some v := by
  have hb := cell_lt h
  have e := g.block b hb (fun e => hne e.symm)
  unfold World.cell? at h ⊢
  dsimp only at h ⊢
  rw [e]; exact h
theorem frozen_grown {w w' : World} {row : Option Nat} (g : w.grownBy w' row) {b o : Nat} (h : w.frozen? ⟨b, o, none⟩ = false) (hb : b < w.heap.size) (hne : row ≠ some b) : w'.frozen? ⟨b, o, none⟩ = false := by
  have e := g.block b hb (fun e => hne e.symm)
  unfold World.frozen? at h ⊢
  dsimp only at h ⊢
  rw [e]; exact h
theorem frozen_below {w w' : World} (g : Below w.heap.size w w') {b o : Nat} {v : Value} (hc : w.cell? ⟨b, o, none⟩ = some v) (h : w.frozen? ⟨b, o, none⟩ = false) : w'.frozen? ⟨b, o, none⟩ = false := by
  have e := g.block b (cell_lt hc)
  unfold World.frozen? at h ⊢
  dsimp only at h ⊢
  rw [e]; exact h
/-- The same, with the cell that is being laid: it lies in block cb. -/
structure SpC (w : World) (pb : Nat) (px py was : Int) (cb : Nat) (c' : Cel) (wr : World) (v : Value) (D : List (Value × Rw)) (lv : Value) (done : List Rw) (r : Rw) (told : Option (Int × Int)) : Prop where
  s : SpS w pb px py was wr v D lv done r told
  ck : wr.heap[cb]? = some (.cells #[.int .i32 c'.rune, .int .i64 c'.width, .int .i64 c'.sty.fg, .int .i64 c'.sty.bg, .int .i64 c'.sty.attr] 38 (0, 0))
  v1 : v.ownBlock ≠ some cb
  x1 : lv.ownBlock ≠ some cb
  hcb : w.heap.size + 1 < cb
  hpb : pb < w.heap.size
theorem SpC.cellc {w : World} {pb : Nat} {px py was : Int} {cb : Nat} {c' : Cel} {wr : World} {v lv : Value} {D : List (Value × Rw)} {done : List Rw} {r : Rw} {told : Option (Int × Int)} (h : SpC w pb px py was cb c' wr v D lv done r told) :
    wr.cell? ⟨cb, 0, none⟩ = some (.int .i32 c'.rune) ∧ wr.cell? ⟨cb, 1, none⟩ = some (.int .i64 c'.width) ∧ wr.cell? ⟨cb, 2, none⟩ = some (.int .i64 c'.sty.fg) ∧ wr.cell? ⟨cb, 3, none⟩ = some (.int .i64 c'.sty.bg) ∧ wr.cell? ⟨cb, 4, none⟩ = some (.int .i64 c'.sty.attr) :=
  ⟨blk_cell h.ck 0, blk_cell h.ck 1, blk_cell h.ck 2, blk_cell h.ck 3, blk_cell h.ck 4⟩
theorem SpC.tell {w : World} {pb : Nat} {px py was : Int} {cb : Nat} {c' : Cel} {wr w' : World} {v lv : Value} {D : List (Value × Rw)} {done : List Rw} {r : Rw} {told : Option (Int × Int)} (h : SpC w pb px py was cb c' wr v D lv done r told) (x y : Int) (g : wr.grownBy w' (some pb)) (hk : w'.heap[pb]? = some (.cells #[.int .i64 x, .int .i64 (was + y)] 43 (0, 0))) :
    SpC w pb px py was cb c' w' v D lv done r (some (x, y)) :=
  ⟨h.s.tell h.hpb x y g hk, blk_grown h.ck g (fun e => by injection e with e; have := h.hcb; have := h.hpb; omega), h.v1, h.x1, h.hcb, h.hpb⟩
theorem SpC.push {w : World} {pb : Nat} {px py was : Int} {cb : Nat} {c' : Cel} {wr w2 w3 : World} {v lv lv' : Value} {D : List (Value × Rw)} {done : List Rw} {r : Rw} {told : Option (Int × Int)} (h : SpC w pb px py was cb c' wr v D lv done r told) {b off c : Nat} (hv : v = .slice (some ⟨b, off, none⟩) (D.length + 1) c) (bl : Below wr.heap.size wr w2) {x : Cel}
    (o3 : OwnC w3 (w.heap.size + 1 + 1) 5 lv' (r.cells.length + 1) (cvals r.cells ++ x.vals)) (g : w2.grownBy w3 lv.ownBlock) (hn : ∀ k, lv'.ownBlock = some k → lv.ownBlock = some k ∨ w2.heap.size ≤ k) :
    SpC w pb px py was cb c' (w3.setCell ⟨b, off + D.length * 2, none⟩ lv') v D lv' done ⟨r.cells ++ [x], r.wrap⟩ told := by
  have hpb := h.hpb
  have hvb : v.ownBlock = some b := by rw [hv]; rfl
  have hb := ownC_lt h.s.sp.own b hvb
  have hlv : ∀ q, lv.ownBlock = some q → w.heap.size + 1 + 1 ≤ q := fun q hq => (ownC_lt h.s.sp.last q hq).1
  refine ⟨⟨gb_set_new (gb_trans_new (gb_below h.s.gb bl h.s.gb.size) g (fun q hq => by have := hlv q hq; omega)) hb.1 _ _, ?_, h.s.sp.push hv bl o3 g hn⟩, ?_, h.v1, fun e => ?_, h.hcb, hpb⟩
  · exact blk_set_other (blk_grown (blk_below h.s.pk bl (heap_lt h.s.pk)) g (fun e => by have := hlv pb e.symm; omega)) (by omega) _ _
  · exact blk_set_other (blk_grown (blk_below h.ck bl (heap_lt h.ck)) g (fun e => h.x1 e.symm)) (fun e => h.v1 (by rw [hvb, e])) _ _
  · rcases hn cb e with h1 | h1
    · exact h.x1 h1
    · have := heap_lt h.ck; have := bl.size; omega
theorem SpC.mark {w : World} {pb : Nat} {px py was : Int} {cb : Nat} {c' : Cel} {wr : World} {v lv : Value} {D : List (Value × Rw)} {done : List Rw} {l : List Cel} {b0 : Bool} {told : Option (Int × Int)} (h : SpC w pb px py was cb c' wr v D lv done ⟨l, b0⟩ told) {b off c : Nat} (hv : v = .slice (some ⟨b, off, none⟩) (D.length + 1) c) (is : Bool) :
    SpC w pb px py was cb c' (wr.setCell ⟨b, off + D.length * 2 + 1, none⟩ (.bool is)) v D lv done ⟨l, is⟩ told := by
  have hpb := h.hpb
  have hvb : v.ownBlock = some b := by rw [hv]; rfl
  have hb := ownC_lt h.s.sp.own b hvb
  exact ⟨⟨gb_set_new h.s.gb hb.1 _ _, blk_set_other h.s.pk (by omega) _ _, h.s.sp.mark hv is⟩, blk_set_other h.ck (fun e => h.v1 (by rw [hvb, e])) _ _, h.v1, h.x1, h.hcb, hpb⟩
theorem SpC.snoc {w : World} {pb : Nat} {px py was : Int} {cb q0 : Nat} {c' : Cel} {wr w2 w3 : World} {v lv v' : Value} {D : List (Value × Rw)} {done : List Rw} {r : Rw} {told : Option (Int × Int)} (h : SpC w pb px py was cb c' wr v D lv done r told) (hq0 : lv.ownBlock = some q0) (bl : Below wr.heap.size wr w2)
    (o3 : OwnC w3 w.heap.size 2 v' (D.length + 1 + 1) (rowVals (D ++ [(lv, r)]) ++ [.slice none 0 0, .bool false])) (g : w2.grownBy w3 v.ownBlock) (hn : ∀ k, v'.ownBlock = some k → v.ownBlock = some k ∨ w2.heap.size ≤ k) :
    SpC w pb px py was cb c' (w3.setCell ⟨w.heap.size + 1, 0, none⟩ v') v' (D ++ [(lv, r)]) (.slice none 0 0) (done ++ [r]) noR told := by
  have hpb := h.hpb
  have hcb := h.hcb
  have hvl : ∀ q, v.ownBlock = some q → w.heap.size ≤ q := fun q hq => (ownC_lt h.s.sp.own q hq).1
  refine ⟨⟨gb_set_new (gb_trans_new (gb_below h.s.gb bl h.s.gb.size) g hvl) (by omega) _ _, ?_, h.s.sp.snoc hq0 bl o3 g hn⟩, ?_, fun e => ?_, by simp [Value.ownBlock], hcb, hpb⟩
  · exact blk_set_other (blk_grown (blk_below h.s.pk bl (heap_lt h.s.pk)) g (fun e => by have := hvl pb e.symm; omega)) (by omega) _ _
  · exact blk_set_other (blk_grown (blk_below h.ck bl (heap_lt h.ck)) g (fun e => h.v1 e.symm)) (by omega) _ _
  · rcases hn cb e with h1 | h1
    · exact h.v1 h1
    · have := heap_lt h.ck; have := bl.size; omega
theorem spRun_snoc (cols : Nat) (mark : Int) (l : List Cel) (c : Cel) (st : Sp) (i : Nat) : spRun cols mark st i (l ++ [c]) = spStep cols mark (spRun cols mark st i l) (i + l.length) c := by
  induction l generalizing st i with
  | nil => rfl
  | cons x l ih =>
    show spRun cols mark (spStep cols mark st i x) (i + 1) (l ++ [c]) = _
    rw [ih, List.length_cons]
    show _ = spStep cols mark (spRun cols mark (spStep cols mark st i x) (i + 1) l) _ _
    congr 1; omega
end Go.Proofs.YtjclgoiclbkgjaaDoor
