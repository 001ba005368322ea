/- The law GridMoves: the walk. -/
import Derived.Test.YtjclgoiclbkgjaaDoorG28
namespace Go.Proofs.YtjclgoiclbkgjaaDoor
open Go.RowKit
attribute [local go_sem ↓] Go.wp_at_zero Go.wp_at_succ

theorem row_nat (g : Gr) (y : Nat) : g.row (y : Int) = (g.rows[y]?).getD noR := by
  unfold Gr.row
  by_cases h : y < g.rows.length
  · rw [if_pos (by omega), Int.toNat_natCast, List.getD_eq_getElem?_getD]
  · rw [if_neg (by omega), if_neg (by omega), List.getElem?_eq_none (by omega)]; rfl
theorem region_in (g : Gr) (t b n : Nat) (h1 : t ≤ b) (h2 : b < g.rows.length) (h3 : n ≤ b + 1 - t) : regionN g (t : Int) (b : Int) (n : Int) plainS = n := by
  unfold regionN
  rw [if_neg (fun e => by
    rcases e with e | e | e | e
    · omega
    · omega
    · omega
    · exact absurd e (by decide))]
  omega
theorem up_row (g : Gr) (t b n : Nat) (h1 : t ≤ b) (h2 : b < g.rows.length) (h3 : n ≤ b + 1 - t) (h4 : 1 ≤ n) (y : Nat) :
    (g.up (t : Int) (b : Int) (n : Int) plainS false).row (y : Int) = if y < t then g.row y else if y + n ≤ b then g.row ((y + n : Nat) : Int) else if y ≤ b then blankR g.cols plainS else g.row y := by
  rw [row_nat, row_nat, row_nat]
  unfold Gr.up
  rw [region_in g t b n h1 h2 h3, if_neg (by omega)]
  show ((upRows g.rows (t : Int).toNat (b : Int).toNat n g.cols plainS)[y]?).getD noR = _
  rw [Int.toNat_natCast, Int.toNat_natCast, up_get h1 h2 h3]
  split
  · rfl
  · split
    · rfl
    · split
      · rfl
      · rfl
theorem down_row (g : Gr) (t b n : Nat) (h1 : t ≤ b) (h2 : b < g.rows.length) (h3 : n ≤ b + 1 - t) (h4 : 1 ≤ n) (y : Nat) :
    (g.down (t : Int) (b : Int) (n : Int) plainS).row (y : Int) = if y < t then g.row y else if y < t + n then blankR g.cols plainS else if y ≤ b then g.row ((y - n : Nat) : Int) else g.row y := by
  rw [row_nat, row_nat, row_nat]
  unfold Gr.down
  rw [region_in g t b n h1 h2 h3, if_neg (by omega)]
  show ((downRows g.rows (t : Int).toNat (b : Int).toNat n g.cols plainS)[y]?).getD noR = _
  rw [Int.toNat_natCast, Int.toNat_natCast, down_get h1 h2 h3]
  split
  · rfl
  · split
    · rfl
    · split
      · rfl
      · rfl
/-- Rows that are scrolled up, and down again. -/
theorem moved_row (g : Gr) (t b n : Nat) (h1 : t ≤ b) (h2 : b < g.rows.length) (h3 : n ≤ b + 1 - t) (h4 : 1 ≤ n) (y : Nat) :
    ((g.up (t : Int) (b : Int) (n : Int) plainS false).down (t : Int) (b : Int) (n : Int) plainS).row (y : Int) = if t ≤ y ∧ y < t + n then blankR g.cols plainS else g.row y := by
  have hd := Dim.up (g := g) ⟨rfl, rfl, rfl⟩ (t : Int) (b : Int) (n : Int) plainS false
  rw [down_row _ t b n h1 (by rw [hd.2.1]; exact h2) h3 h4, hd.1, up_row g t b n h1 h2 h3 h4, up_row g t b n h1 h2 h3 h4]
  repeat' split
  all_goals first
    | rfl
    | (exfalso; omega)
    | (rw [show y - n + n = y by omega])
theorem text_blank (n : Nat) (s : Sty) : textL (blankR n s).cells = [] := by
  unfold textL blankR
  rw [trim_blank]; rfl
theorem isVals_below {w w2 : World} {v : Value} {l : List Value} (h : IsVals w v l) (b : Below w.heap.size w w2) : IsVals w2 v l := by
  rcases h with h | ⟨a, c, e1, e2, e3, e4⟩
  · exact .inl h
  · exact .inr ⟨a, c, e1, e2, e3, fun j hj => cell_below b (e4 j hj)⟩
theorem Sh.mono {w w1 : World} {T : Nat → Nat} {p : Nat} {wi : World} {g : Gr} (h : Sh w1 T p wi g) (b : Below w.heap.size w w1) : Sh w T p wi g :=
  ⟨b.trans (h.b.mono b.size), h.gm, fun k hk => Nat.le_trans b.size (h.n k hk)⟩
/-- Two grids that lie apart. -/
structure Two (w : World) (T T2 : Nat → Nat) (q q2 : Nat) (wi : World) (g g2 : Gr) : Prop where
  a : Sh w T q wi g
  b : Sh w T2 q2 wi g2
  d : ∀ k, T2 k ≠ 0 → T k = 0
theorem Two.below {w : World} {T T2 : Nat → Nat} {q q2 : Nat} {wi wj : World} {g g2 : Gr} (h : Two w T T2 q q2 wi g g2) (b : Below wi.heap.size wi wj) : Two w T T2 q q2 wj g g2 := ⟨h.a.below b, h.b.below b, h.d⟩
theorem Two.turn {w : World} {T T' T2 : Nat → Nat} {q q2 : Nat} {wi wj : World} {g g' g2 : Gr} (h : Two w T T2 q q2 wi g g2) (hw : Within (own T wi) wi wj) (hg : GM T' q wj g') (hn : ∀ k, T' k ≠ 0 → own T wi k) : Two w T' T2 q q2 wj g' g2 :=
  ⟨h.a.turn hw hg hn, ⟨(h.a.turn hw hg hn).b, h.b.gm.other hw h.d, h.b.n⟩, fun k hk => by
    by_cases h0 : T' k = 0
    · exact h0
    · rcases hn k h0 with e | e
      · exact absurd (h.d k hk) e
      · have := h.b.gm.lt k hk; omega⟩
end Go.Proofs.YtjclgoiclbkgjaaDoor
