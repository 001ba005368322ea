/- A grid in memory. -/
import Derived.Test.YtjclgoiclbkgjaaDoorG3
namespace Go.Proofs.YtjclgoiclbkgjaaDoor
open Go.RowKit

def Cel.Ok (c : Cel) : Prop := -2147483648 ≤ c.rune ∧ c.rune ≤ 2147483647
structure Gr.WF (g : Gr) : Prop where
  c1 : 1 ≤ g.cols
  c2 : g.cols ≤ 250
  r1 : 1 ≤ g.rows.length
  r2 : g.rows.length ≤ 120
  li : g.limit ≤ 2000
  ol : g.old.length ≤ g.limit
  ce : ∀ r ∈ g.rows ++ g.old, r.cells.length = g.cols ∧ ∀ c ∈ r.cells, c.Ok
/-- A row's cells in memory. -/
structure CAt (T : Nat → Nat) (w : World) (x : Value × Rw) : Prop where
  own : OwnC w 0 5 x.1 x.2.cells.length (cvals x.2.cells)
  tag : ∃ q, x.1.ownBlock = some q ∧ T q = 10 + q
structure GAt (T : Nat → Nat) (p : Nat) (vr vo : Value) (Lr Lo : List (Value × Rw)) (w : World) (g : Gr) : Prop where
  lt : ∀ k, T k ≠ 0 → k < w.heap.size
  blk : w.heap[p]? = some (.cells #[.int .i64 g.cols, .int .i64 g.limit, vr, vo] 70 (0, 0))
  tp : T p = 1
  rr : Row T 2 2 vr Lr.length (rowVals Lr) w
  ro : Row T 3 2 vo Lo.length (rowVals Lo) w
  er : Lr.map (·.2) = g.rows
  eo : Lo.map (·.2) = g.old
  ca : ∀ x ∈ Lr ++ Lo, CAt T w x
  nd : ((Lr ++ Lo).map (·.1.ownBlock)).Nodup
  wf : g.WF
def GM (T : Nat → Nat) (p : Nat) (w : World) (g : Gr) : Prop := ∃ vr vo Lr Lo, GAt T p vr vo Lr Lo w g
theorem CAt.mod {T : Nat → Nat} {w w' : World} {x : Value × Rw} {q : Nat → Prop} (h : CAt T w x) (m : Mod T q w w') (hq : ∀ k, x.1.ownBlock = some k → ¬ q (10 + k)) : CAt T w' x :=
  ⟨ownC_blocks h.own m.size fun k hk => m.block k (ownC_lt h.own k hk).2 (by
    obtain ⟨b, e1, e2⟩ := h.tag
    have : b = k := by rw [e1] at hk; injection hk
    subst this
    rw [e2]; exact hq b hk), h.tag⟩
/-- Blocks of other kinds turned. -/
theorem GAt.mod {T : Nat → Nat} {p : Nat} {vr vo : Value} {Lr Lo : List (Value × Rw)} {w w' : World} {g : Gr} {q : Nat → Prop} (h : GAt T p vr vo Lr Lo w g) (m : Mod T q w w') (h1 : ¬ q 1) (h2 : ¬ q 2) (h3 : ¬ q 3) (h4 : ∀ k, ¬ q (10 + k)) : GAt T p vr vo Lr Lo w' g :=
  ⟨fun k hk => Nat.lt_of_lt_of_le (h.lt k hk) m.size, (m.block p (heap_lt h.blk) (by rw [h.tp]; exact h1)).trans h.blk, h.tp, h.rr.mod m h2, h.ro.mod m h3, h.er, h.eo, fun x hx => (h.ca x hx).mod m (fun k _ => h4 k), h.nd, h.wf⟩
theorem GM.below {T : Nat → Nat} {p : Nat} {w w' : World} {g : Gr} (h : GM T p w g) (b : Below w.heap.size w w') : GM T p w' g := by
  obtain ⟨vr, vo, Lr, Lo, h⟩ := h
  exact ⟨vr, vo, Lr, Lo, h.mod (.of_below b) id id id (fun _ => id)⟩
theorem GM.wf {T : Nat → Nat} {p : Nat} {w : World} {g : Gr} (h : GM T p w g) : g.WF := by
  obtain ⟨_, _, _, _, h⟩ := h; exact h.wf
theorem GM.lt {T : Nat → Nat} {p : Nat} {w : World} {g : Gr} (h : GM T p w g) : ∀ k, T k ≠ 0 → k < w.heap.size := by
  obtain ⟨_, _, _, _, h⟩ := h; exact h.lt
theorem GM.own0 {T : Nat → Nat} {p : Nat} {w : World} {g : Gr} (h : GM T p w g) {k : Nat} (hk : w.heap.size ≤ k) : T k = 0 := by
  by_cases h0 : T k = 0
  · exact h0
  · have := h.lt k h0; omega
/-- What another's doing leaves as it is. -/
theorem GM.other {Tp Tq : Nat → Nat} {q : Nat} {w w' : World} {g : Gr} (h : GM Tq q w g) (hw : Within (own Tp w) w w') (hd : ∀ k, Tq k ≠ 0 → Tp k = 0) : GM Tq q w' g := by
  obtain ⟨vr, vo, Lr, Lo, h⟩ := h
  have m : Mod Tq (fun x => x = 0) w w' := ⟨hw.os, hw.tape, hw.output, hw.size, fun k hk h0 => hw.block k hk (fun e => by
    rcases e with e | e
    · exact e (hd k h0)
    · omega)⟩
  exact ⟨vr, vo, Lr, Lo, h.mod m (by decide) (by decide) (by decide) (fun k => by omega)⟩
theorem rows_len {T : Nat → Nat} {p : Nat} {vr vo : Value} {Lr Lo : List (Value × Rw)} {w : World} {g : Gr} (h : GAt T p vr vo Lr Lo w g) : Lr.length = g.rows.length ∧ Lo.length = g.old.length := by
  rw [← h.er, ← h.eo, List.length_map, List.length_map]; exact ⟨rfl, rfl⟩
theorem newG_wf {cols rows limit : Nat} (h1 : 1 ≤ cols) (h2 : cols ≤ 250) (h3 : 1 ≤ rows) (h4 : rows ≤ 120) (h5 : limit ≤ 2000) : (newG cols rows limit).WF := by
  refine ⟨h1, h2, ?_, ?_, h5, Nat.zero_le _, fun r hr => ?_⟩
  · show 1 ≤ (freshL rows cols plainS).length
    unfold freshL; rw [List.length_replicate]; exact h3
  · show (freshL rows cols plainS).length ≤ 120
    unfold freshL; rw [List.length_replicate]; exact h4
  · have : r ∈ freshL rows cols plainS := by simpa [newG] using hr
    unfold freshL at this
    rw [List.eq_of_mem_replicate this]
    refine ⟨by rw [List.length_replicate]; rfl, fun c hc => ?_⟩
    rw [List.eq_of_mem_replicate hc]
    exact ⟨by decide, by decide⟩
/-- Tags of a grid that is new. -/
def newT4 (p : Nat) (v : Value) (a b : Nat) : Nat → Nat := fun k => if k = p then 1 else if v.ownBlock = some k then 2 else if a ≤ k ∧ k < b then 10 + k else 0
theorem gat_new {p B : Nat} {v : Value} {L : List (Value × Rw)} {w : World} {g : Gr} (hr : RowsAt B w v L) (hb : w.heap[p]? = some (.cells #[.int .i64 g.cols, .int .i64 g.limit, v, .slice none 0 0] 70 (0, 0)))
    (hv : v.ownBlock ≠ some p) (hp : ∀ x ∈ L, x.1.ownBlock ≠ some p) (_hB : B ≤ p) (he : L.map (·.2) = g.rows) (ho : g.old = []) (hwf : g.WF) : GM (newT4 p v B w.heap.size) p w g := by
  have hpl := heap_lt hb
  refine ⟨v, .slice none 0 0, L, [], ⟨fun k hk => ?_, hb, ?_, ⟨ownC_mono hr.own (Nat.zero_le _), fun k hk => ?_⟩, row_nil _ _ _ _, he, by rw [ho]; rfl, fun x hx => ?_, ?_, hwf⟩⟩
  · unfold newT4 at hk
    by_cases h1 : k = p
    · omega
    · rw [if_neg h1] at hk
      by_cases h2 : v.ownBlock = some k
      · exact (ownC_lt hr.own k h2).2
      · rw [if_neg h2] at hk
        by_cases h3 : B ≤ k ∧ k < w.heap.size
        · exact h3.2
        · rw [if_neg h3] at hk; exact absurd rfl hk
  · unfold newT4; rw [if_pos rfl]
  · unfold newT4
    rw [if_neg (fun e => hv (by rw [hk, e])), if_pos hk]
  · rw [List.append_nil] at hx
    obtain ⟨q, e1, e2⟩ := hr.ap x hx
    have hc := hr.cells x hx
    refine ⟨ownC_mono hc (Nat.zero_le _), q, e1, ?_⟩
    unfold newT4
    rw [if_neg (fun e => hp x hx (by rw [e1, e])), if_neg e2, if_pos (ownC_lt hc q e1)]
  · rw [List.append_nil]; exact hr.nd
theorem newT4_from {p B b : Nat} {v : Value} {n : Nat} {xs : List Value} {w : World} (hB : B ≤ p) (hv : OwnC w B 2 v n xs) : ∀ k, newT4 p v B b k ≠ 0 → B ≤ k := fun k hk => by
  unfold newT4 at hk
  by_cases h1 : k = p
  · omega
  · rw [if_neg h1] at hk
    by_cases h2 : v.ownBlock = some k
    · exact (ownC_lt hv k h2).1
    · rw [if_neg h2] at hk
      by_cases h3 : B ≤ k ∧ k < b
      · exact h3.1
      · rw [if_neg h3] at hk; exact absurd rfl hk
end Go.Proofs.YtjclgoiclbkgjaaDoor
