/- A line that is being split: the rows in memory. -/
import Derived.Test.YtjclgoiclbkgjaaDoorG19
namespace Go.Proofs.YtjclgoiclbkgjaaDoor
open Go.RowKit

/-- The rows D are whole, the row r (its cells are lv) is being filled; the slice v of all lies in block o. -/
structure SpAt (B o : Nat) (w : World) (v : Value) (D : List (Value × Rw)) (lv : Value) (done : List Rw) (r : Rw) : Prop where
  blk : w.heap[o]? = some (.cells #[v] 68 (0, 0))
  own : OwnC w B 2 v (D.length + 1) (rowVals (D ++ [(lv, r)]))
  vo : v.ownBlock ≠ some o
  dn : D.map (·.2) = done
  cells : ∀ x ∈ D, OwnC w (o + 1) 5 x.1 x.2.cells.length (cvals x.2.cells)
  last : OwnC w (o + 1) 5 lv r.cells.length (cvals r.cells)
  nd : (D.map (·.1.ownBlock)).Nodup
  ap : ∀ x ∈ D, ∃ q, x.1.ownBlock = some q ∧ v.ownBlock ≠ some q ∧ lv.ownBlock ≠ some q
  apl : ∀ q, lv.ownBlock = some q → v.ownBlock ≠ some q
theorem SpAt.below {B o : Nat} {w w' : World} {v lv : Value} {D : List (Value × Rw)} {done : List Rw} {r : Rw} (h : SpAt B o w v D lv done r) (b : Below w.heap.size w w') : SpAt B o w' v D lv done r :=
  ⟨blk_below h.blk b (heap_lt h.blk), ownC_below h.own b, h.vo, h.dn, fun x hx => ownC_below (h.cells x hx) b, ownC_below h.last b, h.nd, h.ap, h.apl⟩
theorem SpAt.grown {B o : Nat} {w w' : World} {v lv : Value} {D : List (Value × Rw)} {done : List Rw} {r : Rw} {row : Option Nat} (h : SpAt B o w v D lv done r) (g : w.grownBy w' row) (hr : ∀ k, row = some k → k < B) (hBo : B ≤ o) : SpAt B o w' v D lv done r := by
  refine ⟨blk_grown h.blk g (fun e => by have := hr o e.symm; omega), ownC_grown h.own g (fun k hk e => ?_), h.vo, h.dn, fun x hx => ownC_grown (h.cells x hx) g (fun k hk e => ?_), ownC_grown h.last g (fun k hk e => ?_), h.nd, h.ap, h.apl⟩
  · have := (ownC_lt h.own k hk).1; have := hr k e; omega
  · have := (ownC_lt (h.cells x hx) k hk).1; have := hr k e; omega
  · have := (ownC_lt h.last k hk).1; have := hr k e; omega
theorem rowVals_last (D : List (Value × Rw)) (lv lv' : Value) (r r' : Rw) (hw : r.wrap = r'.wrap) : putAt (rowVals (D ++ [(lv, r)])) (D.length * 2) [lv'] = rowVals (D ++ [(lv', r')]) := by
  have e1 : rowVals (D ++ [(lv, r)]) = rowVals D ++ lv :: [.bool r.wrap] := by rw [rowVals_append]; rfl
  have e2 : rowVals (D ++ [(lv', r')]) = rowVals D ++ lv' :: [.bool r'.wrap] := by rw [rowVals_append]; rfl
  rw [e1, e2, putAt_mid _ _ _ _ _ (by rw [rowVals_len]), hw]
theorem rowVals_mark (D : List (Value × Rw)) (lv : Value) (l : List Cel) (b b' : Bool) : putAt (rowVals (D ++ [(lv, ⟨l, b⟩)])) (D.length * 2 + 1) [.bool b'] = rowVals (D ++ [(lv, ⟨l, b'⟩)]) := by
  have e1 : rowVals (D ++ [(lv, ⟨l, b⟩)]) = (rowVals D ++ [lv]) ++ .bool b :: [] := by rw [rowVals_append]; simp [rowVals]
  have e2 : rowVals (D ++ [(lv, ⟨l, b'⟩)]) = (rowVals D ++ [lv]) ++ .bool b' :: [] := by rw [rowVals_append]; simp [rowVals]
  rw [e1, e2, putAt_mid _ _ _ _ _ (by rw [List.length_append, rowVals_len]; rfl)]
theorem cvals_snoc (l : List Cel) (x : Cel) : cvals (l ++ [x]) = cvals l ++ x.vals := by rw [cvals_append]; simp [cvals]
theorem SpAt.cellsx {B o : Nat} {w : World} {v lv : Value} {D : List (Value × Rw)} {done : List Rw} {r : Rw} (h : SpAt B o w v D lv done r) : ∃ b off c, v = .slice (some ⟨b, off, none⟩) (D.length + 1) c ∧ D.length + 1 ≤ c ∧ c ≤ maxLen ∧
    w.cell? ⟨o, 0, none⟩ = some v ∧ w.frozen? ⟨o, 0, none⟩ = false ∧ w.cell? ⟨b, off + D.length * 2, none⟩ = some lv ∧ w.frozen? ⟨b, off + D.length * 2, none⟩ = false ∧ w.cell? ⟨b, off + D.length * 2 + 1, none⟩ = some (.bool r.wrap) ∧ w.frozen? ⟨b, off + D.length * 2 + 1, none⟩ = false ∧ b < w.heap.size ∧ b ≠ o ∧ B ≤ b := by
  obtain ⟨b, off, c, rfl, h1, h2⟩ := ownC_pos h.own (by omega)
  have hb := ownC_lt h.own b rfl
  have e1 : rowVals (D ++ [(lv, r)]) = rowVals D ++ [lv, .bool r.wrap] := by rw [rowVals_append]; rfl
  have hl : (rowVals D).length = D.length * 2 := rowVals_len D
  obtain ⟨a1, a2⟩ := ownC_cellx h.own (D.length * 2) (by omega)
  obtain ⟨a3, a4⟩ := ownC_cellx h.own (D.length * 2 + 1) (by omega)
  rw [e1, List.getElem?_append_right (by omega), hl, Nat.sub_self] at a1
  rw [e1, List.getElem?_append_right (by omega), hl, show D.length * 2 + 1 - D.length * 2 = 1 by omega] at a3
  exact ⟨b, off, c, rfl, h1, h2, blk_cell h.blk 0, blk_free h.blk 0, a1, a2, a3, a4, hb.2, fun e => h.vo (by rw [e]; rfl), hb.1⟩
/-- A cell behind the row's others. -/
theorem SpAt.push {B o : Nat} {w w2 w3 : World} {v lv lv' : Value} {D : List (Value × Rw)} {done : List Rw} {r : Rw} (h : SpAt B o w v D lv done r) {b off c : Nat} (hv : v = .slice (some ⟨b, off, none⟩) (D.length + 1) c) (bl : Below w.heap.size w w2) {x : Cel}
    (o3 : OwnC w3 (o + 1) 5 lv' (r.cells.length + 1) (cvals r.cells ++ x.vals)) (g : w2.grownBy w3 lv.ownBlock) (hn : ∀ k, lv'.ownBlock = some k → lv.ownBlock = some k ∨ w2.heap.size ≤ k) :
    SpAt B o (w3.setCell ⟨b, off + D.length * 2, none⟩ lv') v D lv' done ⟨r.cells ++ [x], r.wrap⟩ := by
  have hvb : v.ownBlock = some b := by rw [hv]; rfl
  have hb := ownC_lt h.own b hvb
  have hbs := bl.size
  have g4 : w3.grownBy (w3.setCell ⟨b, off + D.length * 2, none⟩ lv') (some b) := gb_set (gb_refl _ _) _ _
  have hlb : lv'.ownBlock ≠ some b := fun e => by
    rcases hn b e with h1 | h1
    · exact h.apl b h1 hvb
    · omega
  refine ⟨?_, ?_, h.vo, h.dn, fun y hy => ?_, ?_, h.nd, fun y hy => ?_, fun q hq e => ?_⟩
  · refine blk_grown (blk_grown (blk_below h.blk bl (heap_lt h.blk)) g (fun e => ?_)) g4 (fun e => h.vo (by rw [hvb, e]))
    have := (ownC_lt h.last o e.symm).1; omega
  · have h3 := ownC_grown (ownC_below h.own bl) g (fun k hk e => h.apl k e hk)
    rw [hv] at h3
    have h4 := ownC_put h3 (D.length * 2) [lv'] (by simp; omega)
    rw [rowVals_last D lv lv' r ⟨r.cells ++ [x], r.wrap⟩ rfl] at h4
    rw [hv]
    exact h4
  · obtain ⟨q, e1, e2, e3⟩ := h.ap y hy
    refine ownC_grown (ownC_grown (ownC_below (h.cells y hy) bl) g (fun k hk e => ?_)) g4 (fun k hk e => ?_)
    · rw [e1] at hk; injection hk with hk; exact e3 (by rw [e, hk])
    · rw [e1] at hk; injection hk with hk; exact e2 (by rw [hvb, e, hk])
  · show OwnC _ (o + 1) 5 lv' (r.cells ++ [x]).length (cvals (r.cells ++ [x]))
    rw [List.length_append, cvals_snoc]
    exact ownC_grown o3 g4 (fun k hk e => hlb (by rw [hk, e]))
  · obtain ⟨q, e1, e2, e3⟩ := h.ap y hy
    refine ⟨q, e1, e2, fun e => ?_⟩
    rcases hn q e with h1 | h1
    · exact e3 h1
    · have := (ownC_lt (h.cells y hy) q e1).2; omega
  · rcases hn q hq with h1 | h1
    · exact h.apl q h1 e
    · have := (ownC_lt h.own q e).2; omega
/-- The row's mark. -/
theorem SpAt.mark {B o : Nat} {w : World} {v lv : Value} {D : List (Value × Rw)} {done : List Rw} {l : List Cel} {b0 : Bool} (h : SpAt B o w v D lv done ⟨l, b0⟩) {b off c : Nat} (hv : v = .slice (some ⟨b, off, none⟩) (D.length + 1) c) (is : Bool) :
    SpAt B o (w.setCell ⟨b, off + D.length * 2 + 1, none⟩ (.bool is)) v D lv done ⟨l, is⟩ := by
  have hvb : v.ownBlock = some b := by rw [hv]; rfl
  have g4 : w.grownBy (w.setCell ⟨b, off + D.length * 2 + 1, none⟩ (.bool is)) (some b) := gb_set (gb_refl _ _) _ _
  refine ⟨blk_grown h.blk g4 (fun e => h.vo (by rw [hvb, e])), ?_, h.vo, h.dn, fun y hy => ?_, ownC_grown h.last g4 (fun k hk e => h.apl k hk (by rw [hvb, e])), h.nd, h.ap, h.apl⟩
  · have h3 := h.own
    rw [hv] at h3
    have h4 := ownC_put h3 (D.length * 2 + 1) [.bool is] (by simp; omega)
    rw [rowVals_mark] at h4
    rw [hv]
    exact h4
  · obtain ⟨q, e1, e2, e3⟩ := h.ap y hy
    refine ownC_grown (h.cells y hy) g4 (fun k hk e => ?_)
    rw [e1] at hk; injection hk with hk; exact e2 (by rw [hvb, e, hk])
/-- A row is whole, another one begins. -/
theorem SpAt.snoc {B o q0 : Nat} {w w2 w3 : World} {v lv v' : Value} {D : List (Value × Rw)} {done : List Rw} {r : Rw} (h : SpAt B o w v D lv done r) (hq0 : lv.ownBlock = some q0) (bl : Below w.heap.size w w2)
    (o3 : OwnC w3 B 2 v' (D.length + 1 + 1) (rowVals (D ++ [(lv, r)]) ++ [.slice none 0 0, .bool false])) (g : w2.grownBy w3 v.ownBlock) (hn : ∀ k, v'.ownBlock = some k → v.ownBlock = some k ∨ w2.heap.size ≤ k) :
    SpAt B o (w3.setCell ⟨o, 0, none⟩ v') v' (D ++ [(lv, r)]) (.slice none 0 0) (done ++ [r]) noR := by
  have hbs := bl.size
  have hol := heap_lt h.blk
  have g4 : w3.grownBy (w3.setCell ⟨o, 0, none⟩ v') (some o) := gb_set (gb_refl _ _) _ _
  have hvo : v'.ownBlock ≠ some o := fun e => by
    rcases hn o e with h1 | h1
    · exact h.vo h1
    · omega
  have hk : ∀ x ∈ D ++ [(lv, r)], ∃ q, x.1.ownBlock = some q ∧ v.ownBlock ≠ some q ∧ OwnC w (o + 1) 5 x.1 x.2.cells.length (cvals x.2.cells) := fun x hx => by
    rcases List.mem_append.1 hx with hx | hx
    · obtain ⟨q, e1, e2, _⟩ := h.ap x hx
      exact ⟨q, e1, e2, h.cells x hx⟩
    · rw [List.mem_singleton] at hx
      subst hx
      exact ⟨q0, hq0, h.apl q0 hq0, h.last⟩
  refine ⟨blk_set (blk_grown (blk_below h.blk bl hol) g (fun e => h.vo e.symm)) 0 v', ?_, hvo, ?_, fun x hx => ?_, ownC_nil _ _ _, ?_, fun x hx => ?_, fun q hq => by simp [Value.ownBlock] at hq⟩
  · have e : rowVals ((D ++ [(lv, r)]) ++ [(.slice none 0 0, noR)]) = rowVals (D ++ [(lv, r)]) ++ [.slice none 0 0, .bool false] := by rw [rowVals_append]; rfl
    rw [e, List.length_append]
    exact ownC_grown o3 g4 (fun k hk e => hvo (by rw [hk, e]))
  · rw [List.map_append, h.dn]; rfl
  · obtain ⟨q, e1, e2, e3⟩ := hk x hx
    refine ownC_grown (ownC_grown (ownC_below e3 bl) g (fun k hk e => ?_)) g4 (fun k hk e => ?_)
    · rw [e1] at hk; injection hk with hk; exact e2 (by rw [e, hk])
    · have := (ownC_lt e3 k hk).1
      injection e with e
      omega
  · rw [List.map_append, List.nodup_append]
    refine ⟨h.nd, by simp, fun a ha c hc e => ?_⟩
    obtain ⟨x, hx, rfl⟩ := List.mem_map.1 ha
    simp only [List.map_cons, List.map_nil, List.mem_singleton] at hc
    subst hc
    obtain ⟨q, e1, _, e3⟩ := h.ap x hx
    exact e3 (by rw [← e, e1])
  · obtain ⟨q, e1, e2, e3⟩ := hk x hx
    refine ⟨q, e1, fun e => ?_, by simp [Value.ownBlock]⟩
    rcases hn q e with h1 | h1
    · exact e2 h1
    · have := (ownC_lt e3 q e1).2; omega
theorem SpAt.rows {B o q0 : Nat} {w : World} {v lv : Value} {D : List (Value × Rw)} {done : List Rw} {r : Rw} (h : SpAt B o w v D lv done r) (hq0 : lv.ownBlock = some q0) (hB : B ≤ o + 1) : RowsAt B w v (D ++ [(lv, r)]) := by
  refine ⟨by rw [List.length_append]; exact h.own, fun x hx => ?_, ?_, fun x hx => ?_⟩
  · rcases List.mem_append.1 hx with hx | hx
    · exact ownC_mono (h.cells x hx) hB
    · rw [List.mem_singleton] at hx
      subst hx
      exact ownC_mono h.last hB
  · rw [List.map_append, List.nodup_append]
    refine ⟨h.nd, by simp, fun a ha c hc e => ?_⟩
    obtain ⟨x, hx, rfl⟩ := List.mem_map.1 ha
    simp only [List.map_cons, List.map_nil, List.mem_singleton] at hc
    subst hc
    obtain ⟨q, e1, _, e3⟩ := h.ap x hx
    exact e3 (by rw [← e, e1])
  · rcases List.mem_append.1 hx with hx | hx
    · obtain ⟨q, e1, e2, _⟩ := h.ap x hx
      exact ⟨q, e1, e2⟩
    · rw [List.mem_singleton] at hx
      subst hx
      exact ⟨q0, hq0, h.apl q0 hq0⟩
end Go.Proofs.YtjclgoiclbkgjaaDoor
