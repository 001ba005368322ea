/- Package grid, texts laid together: E3 N1. -/
import Derived.Test.YtjclgoiclbkgjaaGreatDoorK12
import Derived.Test.YtjclgoiclbkgjaaGreatDoorK6
/- A grid's rows in memory, while they are turned one by one. -/
namespace Go.Proofs.YtjclgoiclbkgjaaGreatDoor
open Go.RowKit

/-- The current rows L, the others M; of the blocks only those that are the grid's have turned since w. -/
structure Rz (T : Nat → Nat) (p t u : Nat) (K : Array Value) (w : World) (vL vM : Value) (L M : List (Value × Rw)) (w' : World) : Prop where
  wi : Within (own T w) w w'
  blk : w'.heap[p]? = some (.cells K 61 (0, 0))
  rl : Row T t 2 vL L.length (rowVals L) w'
  rm : Row T u 2 vM M.length (rowVals M) w'
  ca : ∀ x ∈ L ++ M, OwnC w' 0 5 x.1 x.2.cells.length (cvals x.2.cells) ∧ ∃ q, x.1.ownBlock = some q ∧ ((q < w.heap.size ∧ T q = 10 + q) ∨ w.heap.size ≤ q)
  nd : ((L ++ M).map (·.1.ownBlock)).Nodup
theorem nodup_swap {α β : Type} {f : α → β} {L M : List α} (h : ((L ++ M).map f).Nodup) : ((M ++ L).map f).Nodup := by
  rw [List.map_append, List.nodup_append] at h ⊢
  exact ⟨h.2.1, h.1, fun a ha b hb e => h.2.2 b hb a ha e.symm⟩
theorem Rz.swap {T : Nat → Nat} {p t u : Nat} {K : Array Value} {w w' : World} {vL vM : Value} {L M : List (Value × Rw)} (h : Rz T p t u K w vL vM L M w') : Rz T p u t K w vM vL M L w' :=
  ⟨h.wi, h.blk, h.rm, h.rl, fun x hx => h.ca x (by
    rcases List.mem_append.1 hx with hx | hx
    · exact List.mem_append_right _ hx
    · exact List.mem_append_left _ hx), nodup_swap h.nd⟩
theorem Rz.below {T : Nat → Nat} {p t u : Nat} {K : Array Value} {w w1 w2 : World} {vL vM : Value} {L M : List (Value × Rw)} (h : Rz T p t u K w vL vM L M w1) (b : Below w1.heap.size w1 w2) : Rz T p t u K w vL vM L M w2 :=
  ⟨h.wi.trans (Within.of_below b), blk_below h.blk b (heap_lt h.blk), ⟨ownC_below h.rl.own b, h.rl.tag⟩, ⟨ownC_below h.rm.own b, h.rm.tag⟩, fun x hx => ⟨ownC_below (h.ca x hx).1 b, (h.ca x hx).2⟩, h.nd⟩
theorem Rz.step {T : Nat → Nat} {p t u : Nat} {K : Array Value} {w w1 w2 w3 : World} {vL vM v' : Value} {A B M : List (Value × Rw)} {x : Value × Rw} {r' : Rw} {b : Nat}
    (hlt : ∀ k, T k ≠ 0 → k < w.heap.size) (hp : T p = 1) (htu : (t = 2 ∧ u = 3) ∨ (t = 3 ∧ u = 2))
    (h : Rz T p t u K w vL vM (A ++ x :: B) M w1) (hb : x.1.ownBlock = some b) (g2 : w1.grownBy w2 (some b))
    (hn : (v' = x.1 ∧ r' = x.2 ∧ Below w1.heap.size w1 w2) ∨ OwnC w2 w1.heap.size 5 v' r'.cells.length (cvals r'.cells) ∧ ∃ q, v'.ownBlock = some q)
    (g3 : w2.grownBy w3 vL.ownBlock) (ho : OwnC w3 0 2 vL (A ++ (v', r') :: B).length (rowVals (A ++ (v', r') :: B))) : Rz T p t u K w vL vM (A ++ (v', r') :: B) M w3 := by
  have hpl := hlt p (by rw [hp]; decide)
  obtain ⟨hx1, qx, hx2, hx3⟩ := h.ca x (List.mem_append_left _ (List.mem_append_right _ (List.mem_cons_self ..)))
  rw [hb] at hx2
  injection hx2 with hx2
  subst hx2
  have hsz1 := h.wi.size
  have hs2 := g2.size
  have htn : t = 2 ∨ t = 3 := by omega
  have hun : u = 2 ∨ u = 3 := by omega
  have hLt : ∀ k, vL.ownBlock = some k → T k = t ∧ k < w.heap.size := fun k hk => ⟨h.rl.tag k hk, hlt k (by rw [h.rl.tag k hk]; omega)⟩
  have hMt : ∀ k, vM.ownBlock = some k → T k = u ∧ k < w.heap.size := fun k hk => ⟨h.rm.tag k hk, hlt k (by rw [h.rm.tag k hk]; omega)⟩
  have hnd := h.nd
  -- the other rows
  have hoth : ∀ y, y ∈ A ++ B ++ M → OwnC w3 0 5 y.1 y.2.cells.length (cvals y.2.cells) ∧ ∃ q, y.1.ownBlock = some q ∧ ((q < w.heap.size ∧ T q = 10 + q) ∨ w.heap.size ≤ q) := fun y hy => by
    have hy2 : y ∈ A ++ x :: B ++ M := by
      rcases List.mem_append.1 hy with hy | hy
      · rcases List.mem_append.1 hy with hy | hy
        · exact List.mem_append_left _ (List.mem_append_left _ hy)
        · exact List.mem_append_left _ (List.mem_append_right _ (List.mem_cons_of_mem _ hy))
      · exact List.mem_append_right _ hy
    obtain ⟨h1, q, h2, h3⟩ := h.ca y hy2
    have hqb : q ≠ b := fun e => by
      subst e
      have hnd2 := hnd
      rw [List.append_assoc, List.map_append, List.nodup_append, List.cons_append, List.map_cons, List.nodup_cons] at hnd2
      rcases List.mem_append.1 hy with hy | hy
      · rcases List.mem_append.1 hy with hy | hy
        · exact hnd2.2.2 _ (List.mem_map_of_mem hy) _ (List.mem_cons_self ..) (by rw [h2, hb])
        · exact hnd2.2.1.1 (by rw [hb, ← h2]; exact List.mem_map_of_mem (f := fun z : Value × Rw => z.1.ownBlock) (List.mem_append_left _ hy))
      · exact hnd2.2.1.1 (by rw [hb, ← h2]; exact List.mem_map_of_mem (f := fun z : Value × Rw => z.1.ownBlock) (List.mem_append_right _ hy))
    refine ⟨ownC_grown (ownC_grown h1 g2 (fun k hk e => ?_)) g3 (fun k hk e => ?_), q, h2, h3⟩
    · rw [h2] at hk
      injection hk with hk
      injection e with e
      omega
    · rw [h2] at hk
      injection hk with hk
      have := hLt k e
      subst hk
      rcases h3 with h3 | h3
      · omega
      · omega
  have hnew : OwnC w3 0 5 v' r'.cells.length (cvals r'.cells) ∧ ∃ q, v'.ownBlock = some q ∧ ((q < w.heap.size ∧ T q = 10 + q) ∨ w.heap.size ≤ q) := by
    rcases hn with ⟨rfl, rfl, hbel⟩ | ⟨h1, q, h2⟩
    · refine ⟨ownC_grown (ownC_below hx1 hbel) g3 (fun k hk e => ?_), b, hb, hx3⟩
      rw [hb] at hk
      injection hk with hk
      have := hLt k e
      subst hk
      rcases hx3 with h3 | h3
      · omega
      · omega
    · have h4 := ownC_lt h1 q h2
      refine ⟨ownC_mono (ownC_grown h1 g3 (fun k hk e => ?_)) (Nat.zero_le _), q, h2, .inr (by omega)⟩
      rw [h2] at hk
      injection hk with hk
      have := hLt k e
      omega
  refine ⟨(h.wi.trans (Within.of_gb g2 (fun k hk => ?_))).trans (Within.of_gb g3 (fun k hk => .inl (by rw [(hLt k hk).1]; omega))), ?_, ⟨ho, h.rl.tag⟩, ⟨ownC_grown (ownC_grown h.rm.own g2 (fun k hk e => ?_)) g3 (fun k hk e => ?_), h.rm.tag⟩, fun y hy => ?_, ?_⟩
  · injection hk with hk
    subst hk
    rcases hx3 with h3 | h3
    · exact .inl (by omega)
    · exact .inr h3
  · refine blk_grown (blk_grown h.blk g2 (fun e => ?_)) g3 (fun e => ?_)
    · injection e with e
      subst e
      rcases hx3 with h3 | h3
      · omega
      · omega
    · have := hLt p e.symm
      omega
  · have := hMt k hk
    injection e with e
    subst e
    rcases hx3 with h3 | h3
    · omega
    · omega
  · have h1 := hMt k hk
    have h2 := hLt k e
    omega
  · rcases List.mem_append.1 hy with hy | hy
    · rcases List.mem_append.1 hy with hy | hy
      · exact hoth y (List.mem_append_left _ (List.mem_append_left _ hy))
      · rcases List.mem_cons.1 hy with hy | hy
        · subst hy; exact hnew
        · exact hoth y (List.mem_append_left _ (List.mem_append_right _ hy))
    · exact hoth y (List.mem_append_right _ hy)
  · rcases hn with ⟨rfl, rfl, hbel⟩ | ⟨h1, q, h2⟩
    · exact hnd
    · have h4 := ownC_lt h1 q h2
      have hall : ∀ y ∈ A ++ x :: B ++ M, y.1.ownBlock ≠ some q := fun y hy e => by
        have h5 := ownC_lt (h.ca y hy).1 q e
        omega
      rw [List.append_assoc, List.map_append, List.nodup_append, List.cons_append, List.map_cons, List.nodup_cons] at hnd ⊢
      refine ⟨hnd.1, ⟨fun hm => ?_, hnd.2.1.2⟩, fun a ha c hc e => ?_⟩
      · obtain ⟨y, hy, e⟩ := List.mem_map.1 hm
        refine hall y ?_ (by rw [e]; exact h2)
        rcases List.mem_append.1 hy with hy | hy
        · exact List.mem_append_left _ (List.mem_append_right _ (List.mem_cons_of_mem _ hy))
        · exact List.mem_append_right _ hy
      · rcases List.mem_cons.1 hc with hc | hc
        · obtain ⟨y, hy, e2⟩ := List.mem_map.1 ha
          exact hall y (List.mem_append_left _ (List.mem_append_left _ hy)) (by rw [e2, e, hc]; exact h2)
        · exact hnd.2.2 a ha c (List.mem_cons_of_mem _ hc) e
theorem Rz.start {T : Nat → Nat} {p : Nat} {vr vo : Value} {Lr Lo : List (Value × Rw)} {w w1 : World} {g : Gr} (h : GAt T p vr vo Lr Lo w g) (b : Within (own T w) w w1) (h1 : GAt T p vr vo Lr Lo w1 g) : Rz T p 2 3 #[.int .i64 g.cols, .int .i64 g.limit, vr, vo] w vr vo Lr Lo w1 :=
  ⟨b, h1.blk, h1.rr, h1.ro, fun x hx => by
    obtain ⟨q, e1, e2⟩ := (h.ca x hx).tag
    exact ⟨(h1.ca x hx).own, q, e1, .inl ⟨h.lt q (by omega), e2⟩⟩, h.nd⟩
/-- Rows in memory that make a grid, but for the block of the struct. -/
structure Rs (T : Nat → Nat) (w : World) (vr vo : Value) (Lr Lo : List (Value × Rw)) (w' : World) : Prop where
  wi : Within (own T w) w w'
  rr : OwnC w' 0 2 vr Lr.length (rowVals Lr)
  ro : OwnC w' 0 2 vo Lo.length (rowVals Lo)
  tr : ∀ k, vr.ownBlock = some k → T k = 2 ∨ (w.heap.size ≤ k ∧ vo.ownBlock ≠ some k)
  tv : ∀ k, vo.ownBlock = some k → T k = 3 ∨ w.heap.size ≤ k
  ca : ∀ x ∈ Lr ++ Lo, OwnC w' 0 5 x.1 x.2.cells.length (cvals x.2.cells) ∧ ∃ q, x.1.ownBlock = some q ∧ ((q < w.heap.size ∧ T q = 10 + q) ∨ (w.heap.size ≤ q ∧ vo.ownBlock ≠ some q ∧ vr.ownBlock ≠ some q))
  nd : ((Lr ++ Lo).map (·.1.ownBlock)).Nodup
/-- Something is stored into the struct. -/
theorem Rs.put {T : Nat → Nat} {p : Nat} {w w1 w2 : World} {vr vo : Value} {Lr Lo : List (Value × Rw)} (h : Rs T w vr vo Lr Lo w1) (hp : T p = 1) (hpl : p < w.heap.size) (g : w1.grownBy w2 (some p)) : Rs T w vr vo Lr Lo w2 := by
  have hr : ∀ k, vr.ownBlock = some k → k ≠ p := fun k hk e => by
    subst e
    rcases h.tr k hk with e | e
    · omega
    · omega
  have ho : ∀ k, vo.ownBlock = some k → k ≠ p := fun k hk e => by
    subst e
    rcases h.tv k hk with e | e
    · omega
    · omega
  refine ⟨h.wi.trans (Within.of_gb g (fun k hk => .inl (by injection hk with hk; subst hk; omega))), ownC_grown h.rr g (fun k hk e => hr k hk (by injection e with e; exact e.symm)), ownC_grown h.ro g (fun k hk e => ho k hk (by injection e with e; exact e.symm)), h.tr, h.tv, fun x hx => ?_, h.nd⟩
  obtain ⟨h1, q, h2, h3⟩ := h.ca x hx
  refine ⟨ownC_grown h1 g (fun k hk e => ?_), q, h2, h3⟩
  rw [h2] at hk
  injection hk with hk
  injection e with e
  subst hk e
  rcases h3 with h3 | h3
  · omega
  · omega
theorem Rz.tags {T : Nat → Nat} {p : Nat} {K : Array Value} {w w1 : World} {vL vM : Value} {L M : List (Value × Rw)} (hlt : ∀ k, T k ≠ 0 → k < w.heap.size) (h : Rz T p 2 3 K w vL vM L M w1) :
    ∀ x ∈ L ++ M, OwnC w1 0 5 x.1 x.2.cells.length (cvals x.2.cells) ∧ ∃ q, x.1.ownBlock = some q ∧ ((q < w.heap.size ∧ T q = 10 + q) ∨ (w.heap.size ≤ q ∧ vM.ownBlock ≠ some q ∧ vL.ownBlock ≠ some q)) := fun x hx => by
  obtain ⟨h1, q, h2, h3⟩ := h.ca x hx
  refine ⟨h1, q, h2, ?_⟩
  rcases h3 with h3 | h3
  · exact .inl h3
  · refine .inr ⟨h3, fun e => ?_, fun e => ?_⟩
    · have := hlt q (by rw [h.rm.tag q e]; decide)
      omega
    · have := hlt q (by rw [h.rl.tag q e]; decide)
      omega
/-- Fewer rows. -/
theorem Rz.cut {T : Nat → Nat} {p : Nat} {K : Array Value} {w w1 : World} {b off n c : Nat} {vM : Value} {L M : List (Value × Rw)} (hlt : ∀ k, T k ≠ 0 → k < w.heap.size) (h : Rz T p 2 3 K w (.slice (some ⟨b, off, none⟩) n c) vM L M w1) (hn : L.length = n) (y : Nat) (hy : y ≤ n) :
    Rs T w (.slice (some ⟨b, off, none⟩) y c) vM (L.take y) M w1 := by
  subst hn
  have hsub : ((L.take y ++ M).map (·.1.ownBlock)).Sublist ((L ++ M).map (·.1.ownBlock)) := (List.Sublist.append (List.take_sublist y L) (List.Sublist.refl M)).map _
  refine ⟨h.wi, ?_, h.rm.own, fun k hk => .inl (h.rl.tag k hk), fun k hk => .inl (h.rm.tag k hk), fun x hx => ?_, h.nd.sublist hsub⟩
  · rw [List.length_take, Nat.min_eq_left hy, ← rowVals_take]
    exact ownC_pre h.rl.own y hy
  · refine h.tags hlt x ?_
    rcases List.mem_append.1 hx with hx | hx
    · exact List.mem_append_left _ (List.mem_of_mem_take hx)
    · exact List.mem_append_right _ hx
/-- More rows. -/
theorem Rz.grow {T : Nat → Nat} {p : Nat} {K : Array Value} {w w1 w2 w3 : World} {vL vM v4 v7 : Value} {L M L4 : List (Value × Rw)} (hlt : ∀ k, T k ≠ 0 → k < w.heap.size) (h : Rz T p 2 3 K w vL vM L M w1)
    (b : Below w1.heap.size w1 w2) (r4 : RowsAt w1.heap.size w2 v4 L4) (o7 : OwnC w3 0 2 v7 (L.length + L4.length) (rowVals L ++ rowVals L4)) (g : w2.grownBy w3 vL.ownBlock) (hn : ∀ k, v7.ownBlock = some k → vL.ownBlock = some k ∨ w2.heap.size ≤ k) :
    Rs T w v7 vM (L ++ L4) M w3 := by
  have hs1 := h.wi.size
  have hs2 := b.size
  have hb := h.below b
  have hL : ∀ k, vL.ownBlock = some k → T k = 2 ∧ k < w.heap.size := fun k hk => ⟨h.rl.tag k hk, hlt k (by rw [h.rl.tag k hk]; decide)⟩
  have hM : ∀ k, vM.ownBlock = some k → T k = 3 ∧ k < w.heap.size := fun k hk => ⟨h.rm.tag k hk, hlt k (by rw [h.rm.tag k hk]; decide)⟩
  have hLM : ∀ x ∈ L ++ M, OwnC w3 0 5 x.1 x.2.cells.length (cvals x.2.cells) ∧ ∃ q, x.1.ownBlock = some q ∧ q < w1.heap.size ∧ ((q < w.heap.size ∧ T q = 10 + q) ∨ (w.heap.size ≤ q ∧ vM.ownBlock ≠ some q ∧ v7.ownBlock ≠ some q)) := fun x hx => by
    obtain ⟨h1, q, h2, h3⟩ := hb.tags hlt x hx
    have h4 := (ownC_lt (h.ca x hx).1 q h2).2
    refine ⟨ownC_grown h1 g (fun k hk e => ?_), q, h2, h4, ?_⟩
    · rw [h2] at hk
      injection hk with hk
      subst hk
      have := hL _ e
      rcases h3 with h3 | h3
      · omega
      · exact h3.2.2 e
    · rcases h3 with h3 | h3
      · exact .inl h3
      · refine .inr ⟨h3.1, h3.2.1, fun e => ?_⟩
        rcases hn q e with e2 | e2
        · exact h3.2.2 e2
        · omega
  have h4 : ∀ x ∈ L4, OwnC w3 0 5 x.1 x.2.cells.length (cvals x.2.cells) ∧ ∃ q, x.1.ownBlock = some q ∧ w1.heap.size ≤ q ∧ q < w2.heap.size := fun x hx => by
    obtain ⟨q, e1, _⟩ := r4.ap x hx
    have hc := r4.cells x hx
    have hl := ownC_lt hc q e1
    refine ⟨ownC_mono (ownC_grown hc g (fun k hk e => ?_)) (Nat.zero_le _), q, e1, hl⟩
    have := hL k e
    have := (ownC_lt hc k hk).1
    omega
  refine ⟨(h.wi.trans (Within.of_below b)).trans (Within.of_gb g (fun k hk => .inl (by rw [(hL k hk).1]; decide))), ?_, ownC_grown hb.rm.own g (fun k hk e => by have := hL k e; have := hM k hk; omega), fun k hk => ?_, fun k hk => .inl (hM k hk).1, fun x hx => ?_, ?_⟩
  · rw [List.length_append, rowVals_append]; exact o7
  · rcases hn k hk with e | e
    · exact .inl (hL k e).1
    · exact .inr ⟨by omega, fun e2 => by have := hM k e2; omega⟩
  · have hcase : x ∈ L ++ M ∨ x ∈ L4 := by
      rcases List.mem_append.1 hx with hx | hx
      · rcases List.mem_append.1 hx with hx | hx
        · exact .inl (List.mem_append_left _ hx)
        · exact .inr hx
      · exact .inl (List.mem_append_right _ hx)
    rcases hcase with hx | hx
    · obtain ⟨h1, q, h2, _, h3⟩ := hLM x hx
      exact ⟨h1, q, h2, h3⟩
    · obtain ⟨h1, q, h2, h3⟩ := h4 x hx
      refine ⟨h1, q, h2, .inr ⟨by omega, fun e => by have := hM q e; omega, fun e => ?_⟩⟩
      rcases hn q e with e2 | e2
      · have := hL q e2; omega
      · omega
  · have hnd := h.nd
    have hap : ∀ x ∈ L ++ M, ∀ y ∈ L4, x.1.ownBlock ≠ y.1.ownBlock := fun x hx y hy e => by
      obtain ⟨_, q, h2, h3, _⟩ := hLM x hx
      obtain ⟨_, q', h5, h6⟩ := h4 y hy
      rw [h2, h5] at e
      injection e with e
      omega
    rw [List.append_assoc]
    rw [List.map_append, List.nodup_append] at hnd
    refine nodup_map_append hnd.1 (nodup_map_append r4.nd hnd.2.1 fun x hx y hy e => hap y (List.mem_append_right _ hy) x hx e.symm) fun x hx y hy e => ?_
    rcases List.mem_append.1 hy with hy | hy
    · exact hap x (List.mem_append_left _ hx) y hy e
    · exact hnd.2.2 _ (List.mem_map_of_mem hx) _ (List.mem_map_of_mem hy) e
end Go.Proofs.YtjclgoiclbkgjaaGreatDoor

/- The document's grid in memory. -/
namespace Go.Proofs.YtjclgoiclbkgjaaGreatDoor
open Go.RowKit

structure RAt (T : Nat → Nat) (p : Nat) (vr vo : Value) (Lr Lo : List (Value × Rw)) (w : World) (g : Gr) : Prop where
  lt : ∀ k, T k ≠ 0 → k < w.heap.size
  blk : w.heap[p]? = some (.cells #[.int .i64 g.cols, .int .i64 g.limit, vr, vo] 65 (0, 0))
  tp : T p = 1
  rr : Row T 2 2 vr Lr.length (rowVals Lr) w
  ro : Row T 3 2 vo Lo.length (rowVals Lo) w
  er : Lr.map (·.2) = g.rows
  eo : Lo.map (·.2) = g.old
  ca : ∀ x ∈ Lr ++ Lo, CAt T w x
  nd : ((Lr ++ Lo).map (·.1.ownBlock)).Nodup
  wf : g.WF
def RM (T : Nat → Nat) (p : Nat) (w : World) (g : Gr) : Prop := ∃ vr vo Lr Lo, RAt T p vr vo Lr Lo w g
theorem RAt.mod {T : Nat → Nat} {p : Nat} {vr vo : Value} {Lr Lo : List (Value × Rw)} {w w' : World} {g : Gr} {q : Nat → Prop} (h : RAt T p vr vo Lr Lo w g) (m : Mod T q w w') (h1 : ¬ q 1) (h2 : ¬ q 2) (h3 : ¬ q 3) (h4 : ∀ k, ¬ q (10 + k)) : RAt T p vr vo Lr Lo w' g :=
  ⟨fun k hk => Nat.lt_of_lt_of_le (h.lt k hk) m.size, (m.block p (heap_lt h.blk) (by rw [h.tp]; exact h1)).trans h.blk, h.tp, h.rr.mod m h2, h.ro.mod m h3, h.er, h.eo, fun x hx => (h.ca x hx).mod m (fun k _ => h4 k), h.nd, h.wf⟩
theorem RM.below {T : Nat → Nat} {p : Nat} {w w' : World} {g : Gr} (h : RM T p w g) (b : Below w.heap.size w w') : RM T p w' g := by
  obtain ⟨vr, vo, Lr, Lo, h⟩ := h
  exact ⟨vr, vo, Lr, Lo, h.mod (.of_below b) id id id (fun _ => id)⟩
theorem RM.wf {T : Nat → Nat} {p : Nat} {w : World} {g : Gr} (h : RM T p w g) : g.WF := by
  obtain ⟨_, _, _, _, h⟩ := h; exact h.wf
theorem RM.lt {T : Nat → Nat} {p : Nat} {w : World} {g : Gr} (h : RM T p w g) : ∀ k, T k ≠ 0 → k < w.heap.size := by
  obtain ⟨_, _, _, _, h⟩ := h; exact h.lt
theorem RM.own0 {T : Nat → Nat} {p : Nat} {w : World} {g : Gr} (h : RM T p w g) {k : Nat} (hk : w.heap.size ≤ k) : T k = 0 := by
  by_cases h0 : T k = 0
  · exact h0
  · have := h.lt k h0; omega
theorem RM.other {Tp Tq : Nat → Nat} {q : Nat} {w w' : World} {g : Gr} (h : RM Tq q w g) (hw : Within (own Tp w) w w') (hd : ∀ k, Tq k ≠ 0 → Tp k = 0) : RM Tq q w' g := by
  obtain ⟨vr, vo, Lr, Lo, h⟩ := h
  have m : Mod Tq (fun x => x = 0) w w' := ⟨hw.os, hw.tape, hw.output, hw.size, fun k hk h0 => hw.block k hk (fun e => by
    rcases e with e | e
    · exact e (hd k h0)
    · omega)⟩
  exact ⟨vr, vo, Lr, Lo, h.mod m (by decide) (by decide) (by decide) (fun k => by omega)⟩
theorem rrows_len {T : Nat → Nat} {p : Nat} {vr vo : Value} {Lr Lo : List (Value × Rw)} {w : World} {g : Gr} (h : RAt T p vr vo Lr Lo w g) : Lr.length = g.rows.length ∧ Lo.length = g.old.length := by
  rw [← h.er, ← h.eo, List.length_map, List.length_map]; exact ⟨rfl, rfl⟩
theorem rat_new {p B : Nat} {v : Value} {L : List (Value × Rw)} {w : World} {g : Gr} (hr : RowsAt B w v L) (hb : w.heap[p]? = some (.cells #[.int .i64 g.cols, .int .i64 g.limit, v, .slice none 0 0] 65 (0, 0)))
    (hv : v.ownBlock ≠ some p) (hp : ∀ x ∈ L, x.1.ownBlock ≠ some p) (_hB : B ≤ p) (he : L.map (·.2) = g.rows) (ho : g.old = []) (hwf : g.WF) : RM (newT4 p v B w.heap.size) p w g := by
  have hpl := heap_lt hb
  refine ⟨v, .slice none 0 0, L, [], ⟨fun k hk => ?_, hb, ?_, ⟨ownC_mono hr.own (Nat.zero_le _), fun k hk => ?_⟩, row_nil _ _ _ _, he, by rw [ho]; rfl, fun x hx => ?_, ?_, hwf⟩⟩
  · unfold newT4 at hk
    by_cases h1 : k = p
    · omega
    · rw [if_neg h1] at hk
      by_cases h2 : v.ownBlock = some k
      · exact (ownC_lt hr.own k h2).2
      · rw [if_neg h2] at hk
        by_cases h3 : B ≤ k ∧ k < w.heap.size
        · exact h3.2
        · rw [if_neg h3] at hk; exact absurd rfl hk
  · unfold newT4; rw [if_pos rfl]
  · unfold newT4
    rw [if_neg (fun e => hv (by rw [hk, e])), if_pos hk]
  · rw [List.append_nil] at hx
    obtain ⟨q, e1, e2⟩ := hr.ap x hx
    have hc := hr.cells x hx
    refine ⟨ownC_mono hc (Nat.zero_le _), q, e1, ?_⟩
    unfold newT4
    rw [if_neg (fun e => hp x hx (by rw [e1, e])), if_neg e2, if_pos (ownC_lt hc q e1)]
  · rw [List.append_nil]; exact hr.nd
theorem rm_cells {T : Nat → Nat} {p : Nat} {vr vo : Value} {Lr Lo : List (Value × Rw)} {w : World} {g : Gr} (h : RAt T p vr vo Lr Lo w g) :
    w.cell? ⟨p, 0, none⟩ = some (.int .i64 g.cols) ∧ w.cell? ⟨p, 1, none⟩ = some (.int .i64 g.limit) ∧ w.cell? ⟨p, 2, none⟩ = some vr ∧ w.cell? ⟨p, 3, none⟩ = some vo :=
  ⟨blk_cell h.blk 0, blk_cell h.blk 1, blk_cell h.blk 2, blk_cell h.blk 3⟩
theorem RAt.turned {T : Nat → Nat} {p : Nat} {vr vo : Value} {Lr Lo : List (Value × Rw)} {w w' : World} {g : Gr} (h : RAt T p vr vo Lr Lo w g) (k : Nat) (hk : k < Lr.length) {b : Nat} (hb : Lr[k].1.ownBlock = some b)
    (m : Mod T (fun t => t = 10 + b) w w') (f : List Cel → List Cel) (ho : OwnC w' 0 5 Lr[k].1 (f Lr[k].2.cells).length (cvals (f Lr[k].2.cells))) (hl : (f Lr[k].2.cells).length = g.cols) (hok : ∀ c ∈ f Lr[k].2.cells, c.Ok) :
    RM T p w' (g.turn k f) := by
  have hlen := (rrows_len h).1
  have hr : g.rows.getD k noR = Lr[k].2 := by
    rw [← h.er, List.getD_eq_getElem?_getD, List.getElem?_map, List.getElem?_eq_getElem hk]; rfl
  have hkb : ∀ k', Lr[k].1.ownBlock = some k' → k' = b := fun k' e => by rw [hb] at e; injection e with e; exact e.symm
  have hcb : ∀ x ∈ Lr ++ Lo, x.1.ownBlock = some b → x ∈ Lr ++ Lo := fun x hx _ => hx
  have hset : (Lr.set k (Lr[k].1, { Lr[k].2 with cells := f Lr[k].2.cells })).map (·.1.ownBlock) = Lr.map (·.1.ownBlock) := by
    rw [List.map_set]
    apply List.ext_getElem?
    intro j
    by_cases hj : j = k
    · subst hj
      rw [List.getElem?_set_self (by simpa using hk), List.getElem?_map, List.getElem?_eq_getElem hk]; rfl
    · rw [List.getElem?_set_ne (fun e => hj e.symm)]
  have hrv : rowVals (Lr.set k (Lr[k].1, { Lr[k].2 with cells := f Lr[k].2.cells })) = rowVals Lr := by
    unfold rowVals
    rw [List.flatMap_def, List.flatMap_def, List.map_set]
    congr 1
    apply List.ext_getElem?
    intro j
    by_cases hj : j = k
    · subst hj
      rw [List.getElem?_set_self (by simpa using hk), List.getElem?_map, List.getElem?_eq_getElem hk]; rfl
    · rw [List.getElem?_set_ne (fun e => hj e.symm)]
  refine ⟨vr, vo, Lr.set k (Lr[k].1, { Lr[k].2 with cells := f Lr[k].2.cells }), Lo, ⟨fun k' hk' => Nat.lt_of_lt_of_le (h.lt k' hk') m.size, ?_, h.tp, ?_, h.ro.mod m (by omega), ?_, h.eo, fun x hx => ?_, ?_, ?_⟩⟩
  · exact (m.block p (heap_lt h.blk) (by rw [h.tp]; omega)).trans h.blk
  · rw [List.length_set, hrv]
    exact h.rr.mod m (by omega)
  · rw [List.map_set, h.er]
    unfold Gr.turn
    rw [hr]
  · rcases List.mem_append.1 hx with hx | hx
    · obtain ⟨j, hj⟩ := List.mem_iff_getElem?.1 hx
      by_cases hjk : j = k
      · subst hjk
        rw [List.getElem?_set_self hk] at hj
        injection hj with hj
        subst hj
        exact ⟨ho, (h.ca _ (List.mem_append_left _ (List.getElem_mem hk))).tag⟩
      · rw [List.getElem?_set_ne (fun e => hjk e.symm)] at hj
        have hjl : j < Lr.length := (List.getElem?_eq_some_iff.1 hj).1
        have hje : Lr[j] = x := (List.getElem?_eq_some_iff.1 hj).2
        have hxm : x ∈ Lr ++ Lo := List.mem_append_left _ (List.mem_of_getElem? hj)
        refine (h.ca x hxm).mod m (fun q hq e => ?_)
        have e' : q = b := by omega
        subst e'
        have hnd := h.nd
        rw [List.map_append, List.nodup_append] at hnd
        have hn1 := hnd.1
        have hh := List.pairwise_iff_getElem.1 hn1
        have g1 : ∀ i (hi : i < Lr.length), (Lr.map (·.1.ownBlock))[i]'(by simpa using hi) = Lr[i].1.ownBlock := fun i hi => by rw [List.getElem_map]
        rcases Nat.lt_trichotomy j k with hlt | heq | hgt
        · refine hh j k (by simpa using hjl) (by simpa using hk) hlt ?_
          rw [g1 j hjl, g1 k hk, hje, hq, hb]
        · exact hjk heq
        · refine hh k j (by simpa using hk) (by simpa using hjl) hgt ?_
          rw [g1 j hjl, g1 k hk, hje, hq, hb]
    · have hxm : x ∈ Lr ++ Lo := List.mem_append_right _ hx
      refine (h.ca x hxm).mod m (fun q hq e => ?_)
      have e' : q = b := by omega
      subst e'
      have hnd := h.nd
      rw [List.map_append, List.nodup_append] at hnd
      exact hnd.2.2 _ (List.mem_map_of_mem (List.getElem_mem hk)) _ (List.mem_map_of_mem hx) (by rw [hb, hq])
  · rw [List.map_append, hset, ← List.map_append]; exact h.nd
  · have wf := h.wf
    refine ⟨wf.c1, wf.c2, ?_, ?_, wf.li, wf.ol, fun r hr' => ?_⟩
    · show 1 ≤ (g.rows.set k _).length
      rw [List.length_set]; exact wf.r1
    · show (g.rows.set k _).length ≤ 120
      rw [List.length_set]; exact wf.r2
    · have hr2 : r ∈ g.rows.set k { g.rows.getD k noR with cells := f (g.rows.getD k noR).cells } ++ g.old := hr'
      rcases List.mem_append.1 hr2 with hm | hm
      · rcases List.mem_or_eq_of_mem_set hm with hm | rfl
        · exact wf.ce r (List.mem_append_left _ hm)
        · rw [hr]
          exact ⟨hl, hok⟩
      · exact wf.ce r (List.mem_append_right _ hm)
theorem rat_build {T : Nat → Nat} {p : Nat} {w w' : World} {g' : Gr} {vr vo : Value} {Lr Lo : List (Value × Rw)} (hlt : ∀ k, T k ≠ 0 → k < w.heap.size) (tp : T p = 1) (hsz : w.heap.size ≤ w'.heap.size)
    (blk : w'.heap[p]? = some (.cells #[.int .i64 g'.cols, .int .i64 g'.limit, vr, vo] 65 (0, 0))) (rr : OwnC w' 0 2 vr Lr.length (rowVals Lr)) (ro : OwnC w' 0 2 vo Lo.length (rowVals Lo))
    (tr : ∀ k, vr.ownBlock = some k → T k = 2 ∨ (w.heap.size ≤ k ∧ vo.ownBlock ≠ some k)) (tv : ∀ k, vo.ownBlock = some k → T k = 3 ∨ w.heap.size ≤ k)
    (ca : ∀ x ∈ Lr ++ Lo, OwnC w' 0 5 x.1 x.2.cells.length (cvals x.2.cells) ∧ ∃ q, x.1.ownBlock = some q ∧ ((q < w.heap.size ∧ T q = 10 + q) ∨ (w.heap.size ≤ q ∧ vo.ownBlock ≠ some q ∧ vr.ownBlock ≠ some q)))
    (nd : ((Lr ++ Lo).map (·.1.ownBlock)).Nodup) (er : Lr.map (·.2) = g'.rows) (eo : Lo.map (·.2) = g'.old) (wf : g'.WF) :
    ∃ T', RM T' p w' g' ∧ ∀ k, T' k ≠ 0 → own T w k := by
  have hpl : p < w.heap.size := hlt p (by rw [tp]; decide)
  refine ⟨fun k => if vr.ownBlock = some k then 2 else if vo.ownBlock = some k then 3 else if w.heap.size ≤ k ∧ k < w'.heap.size then 10 + k else T k, ⟨vr, vo, Lr, Lo, ⟨fun k hk => ?_, blk, ?_, ⟨rr, fun k hk => by show (if _ then _ else _) = 2; rw [if_pos hk]⟩, ⟨ro, fun k hk => ?_⟩, er, eo, fun x hx => ?_, nd, wf⟩⟩, fun k hk => ?_⟩
  · show k < w'.heap.size
    by_cases h1 : vr.ownBlock = some k
    · exact (ownC_lt rr k h1).2
    · by_cases h2 : vo.ownBlock = some k
      · exact (ownC_lt ro k h2).2
      · simp only [if_neg h1, if_neg h2] at hk
        by_cases h3 : w.heap.size ≤ k ∧ k < w'.heap.size
        · exact h3.2
        · rw [if_neg h3] at hk
          exact Nat.lt_of_lt_of_le (hlt k hk) hsz
  · show (if _ then _ else _) = 1
    rw [if_neg (fun e => by rcases tr p e with h | h <;> omega), if_neg (fun e => by rcases tv p e with h | h <;> omega), if_neg (by omega)]
    exact tp
  · show (if _ then _ else _) = 3
    have h1 : vr.ownBlock ≠ some k := fun e => by
      rcases tr k e with h | h
      · rcases tv k hk with h' | h'
        · omega
        · have := hlt k (by omega); omega
      · exact h.2 hk
    rw [if_neg h1, if_pos hk]
  · obtain ⟨h1, q, hq, h2⟩ := ca x hx
    refine ⟨h1, q, hq, ?_⟩
    show (if _ then _ else _) = 10 + q
    rcases h2 with ⟨hql, hqt⟩ | ⟨hql, hn1, hn2⟩
    · rw [if_neg (fun e => by rcases tr q e with h | h <;> omega), if_neg (fun e => by rcases tv q e with h | h <;> omega), if_neg (by omega)]
      exact hqt
    · rw [if_neg hn2, if_neg hn1, if_pos ⟨hql, (ownC_lt h1 q hq).2⟩]
  · by_cases h1 : vr.ownBlock = some k
    · rcases tr k h1 with h | h
      · exact .inl (by omega)
      · exact .inr h.1
    · by_cases h2 : vo.ownBlock = some k
      · rcases tv k h2 with h | h
        · exact .inl (by omega)
        · exact .inr h
      · simp only [if_neg h1, if_neg h2] at hk
        by_cases h3 : w.heap.size ≤ k ∧ k < w'.heap.size
        · exact .inr h3.1
        · rw [if_neg h3] at hk
          exact .inl hk
theorem RAt.rewrap {T : Nat → Nat} {p : Nat} {vr vo : Value} {Lr Lo : List (Value × Rw)} {w w' : World} {g : Gr} (h : RAt T p vr vo Lr Lo w g) (k : Nat) (hk : k < Lr.length) (is : Bool) (m : Mod T (fun t => t = 2) w w')
    (ho : OwnC w' 0 2 vr Lr.length (rowVals (Lr.set k (Lr[k].1, { Lr[k].2 with wrap := is })))) : RM T p w' { g with rows := g.rows.set k { g.rows.getD k noR with wrap := is } } := by
  have hr : g.rows.getD k noR = Lr[k].2 := by
    rw [← h.er, List.getD_eq_getElem?_getD, List.getElem?_map, List.getElem?_eq_getElem hk]; rfl
  have hset : (Lr.set k (Lr[k].1, { Lr[k].2 with wrap := is })).map (·.1.ownBlock) = Lr.map (·.1.ownBlock) := by
    rw [List.map_set]
    apply List.ext_getElem?
    intro j
    by_cases hj : j = k
    · subst hj
      rw [List.getElem?_set_self (by simpa using hk), List.getElem?_map, List.getElem?_eq_getElem hk]; rfl
    · rw [List.getElem?_set_ne (fun e => hj e.symm)]
  refine ⟨vr, vo, Lr.set k (Lr[k].1, { Lr[k].2 with wrap := is }), Lo, ⟨fun k' hk' => Nat.lt_of_lt_of_le (h.lt k' hk') m.size, ?_, h.tp, ?_, h.ro.mod m (by decide), ?_, h.eo, fun x hx => ?_, ?_, ?_⟩⟩
  · exact (m.block p (heap_lt h.blk) (by rw [h.tp]; decide)).trans h.blk
  · rw [List.length_set]
    exact ⟨ho, h.rr.tag⟩
  · rw [List.map_set, h.er, hr]
  · rcases List.mem_append.1 hx with hx | hx
    · rcases List.mem_or_eq_of_mem_set hx with hx | rfl
      · exact (h.ca x (List.mem_append_left _ hx)).mod m (fun q hq => by omega)
      · have := (h.ca Lr[k] (List.mem_append_left _ (List.getElem_mem hk))).mod m (fun q hq => by omega)
        exact ⟨this.own, this.tag⟩
    · exact (h.ca x (List.mem_append_right _ hx)).mod m (fun q hq => by omega)
  · rw [List.map_append, hset, ← List.map_append]; exact h.nd
  · have wf := h.wf
    refine ⟨wf.c1, wf.c2, ?_, ?_, wf.li, wf.ol, fun r hr' => ?_⟩
    · show 1 ≤ (g.rows.set k _).length
      rw [List.length_set]; exact wf.r1
    · show (g.rows.set k _).length ≤ 120
      rw [List.length_set]; exact wf.r2
    · have hr2 : r ∈ g.rows.set k { g.rows.getD k noR with wrap := is } ++ g.old := hr'
      rcases List.mem_append.1 hr2 with hm | hm
      · rcases List.mem_or_eq_of_mem_set hm with hm | rfl
        · exact wf.ce r (List.mem_append_left _ hm)
        · rw [hr]
          have hmem : Lr[k].2 ∈ g.rows := by rw [← h.er]; exact List.mem_map_of_mem (List.getElem_mem hk)
          exact wf.ce Lr[k].2 (List.mem_append_left _ hmem)
      · exact wf.ce r (List.mem_append_right _ hm)
structure RzD (T : Nat → Nat) (p t u : Nat) (K : Array Value) (w : World) (vL vM : Value) (L M : List (Value × Rw)) (w' : World) : Prop where
  wi : Within (own T w) w w'
  blk : w'.heap[p]? = some (.cells K 65 (0, 0))
  rl : Row T t 2 vL L.length (rowVals L) w'
  rm : Row T u 2 vM M.length (rowVals M) w'
  ca : ∀ x ∈ L ++ M, OwnC w' 0 5 x.1 x.2.cells.length (cvals x.2.cells) ∧ ∃ q, x.1.ownBlock = some q ∧ ((q < w.heap.size ∧ T q = 10 + q) ∨ w.heap.size ≤ q)
  nd : ((L ++ M).map (·.1.ownBlock)).Nodup
theorem RzD.swap {T : Nat → Nat} {p t u : Nat} {K : Array Value} {w w' : World} {vL vM : Value} {L M : List (Value × Rw)} (h : RzD T p t u K w vL vM L M w') : RzD T p u t K w vM vL M L w' :=
  ⟨h.wi, h.blk, h.rm, h.rl, fun x hx => h.ca x (by
    rcases List.mem_append.1 hx with hx | hx
    · exact List.mem_append_right _ hx
    · exact List.mem_append_left _ hx), nodup_swap h.nd⟩
theorem RzD.below {T : Nat → Nat} {p t u : Nat} {K : Array Value} {w w1 w2 : World} {vL vM : Value} {L M : List (Value × Rw)} (h : RzD T p t u K w vL vM L M w1) (b : Below w1.heap.size w1 w2) : RzD T p t u K w vL vM L M w2 :=
  ⟨h.wi.trans (Within.of_below b), blk_below h.blk b (heap_lt h.blk), ⟨ownC_below h.rl.own b, h.rl.tag⟩, ⟨ownC_below h.rm.own b, h.rm.tag⟩, fun x hx => ⟨ownC_below (h.ca x hx).1 b, (h.ca x hx).2⟩, h.nd⟩
theorem RzD.step {T : Nat → Nat} {p t u : Nat} {K : Array Value} {w w1 w2 w3 : World} {vL vM v' : Value} {A B M : List (Value × Rw)} {x : Value × Rw} {r' : Rw} {b : Nat}
    (hlt : ∀ k, T k ≠ 0 → k < w.heap.size) (hp : T p = 1) (htu : (t = 2 ∧ u = 3) ∨ (t = 3 ∧ u = 2))
    (h : RzD T p t u K w vL vM (A ++ x :: B) M w1) (hb : x.1.ownBlock = some b) (g2 : w1.grownBy w2 (some b))
    (hn : (v' = x.1 ∧ r' = x.2 ∧ Below w1.heap.size w1 w2) ∨ OwnC w2 w1.heap.size 5 v' r'.cells.length (cvals r'.cells) ∧ ∃ q, v'.ownBlock = some q)
    (g3 : w2.grownBy w3 vL.ownBlock) (ho : OwnC w3 0 2 vL (A ++ (v', r') :: B).length (rowVals (A ++ (v', r') :: B))) : RzD T p t u K w vL vM (A ++ (v', r') :: B) M w3 := by
  have hpl := hlt p (by rw [hp]; decide)
  obtain ⟨hx1, qx, hx2, hx3⟩ := h.ca x (List.mem_append_left _ (List.mem_append_right _ (List.mem_cons_self ..)))
  rw [hb] at hx2
  injection hx2 with hx2
  subst hx2
  have hsz1 := h.wi.size
  have hs2 := g2.size
  have htn : t = 2 ∨ t = 3 := by omega
  have hun : u = 2 ∨ u = 3 := by omega
  have hLt : ∀ k, vL.ownBlock = some k → T k = t ∧ k < w.heap.size := fun k hk => ⟨h.rl.tag k hk, hlt k (by rw [h.rl.tag k hk]; omega)⟩
  have hMt : ∀ k, vM.ownBlock = some k → T k = u ∧ k < w.heap.size := fun k hk => ⟨h.rm.tag k hk, hlt k (by rw [h.rm.tag k hk]; omega)⟩
  have hnd := h.nd
  -- the other rows
  have hoth : ∀ y, y ∈ A ++ B ++ M → OwnC w3 0 5 y.1 y.2.cells.length (cvals y.2.cells) ∧ ∃ q, y.1.ownBlock = some q ∧ ((q < w.heap.size ∧ T q = 10 + q) ∨ w.heap.size ≤ q) := fun y hy => by
    have hy2 : y ∈ A ++ x :: B ++ M := by
      rcases List.mem_append.1 hy with hy | hy
      · rcases List.mem_append.1 hy with hy | hy
        · exact List.mem_append_left _ (List.mem_append_left _ hy)
        · exact List.mem_append_left _ (List.mem_append_right _ (List.mem_cons_of_mem _ hy))
      · exact List.mem_append_right _ hy
    obtain ⟨h1, q, h2, h3⟩ := h.ca y hy2
    have hqb : q ≠ b := fun e => by
      subst e
      have hnd2 := hnd
      rw [List.append_assoc, List.map_append, List.nodup_append, List.cons_append, List.map_cons, List.nodup_cons] at hnd2
      rcases List.mem_append.1 hy with hy | hy
      · rcases List.mem_append.1 hy with hy | hy
        · exact hnd2.2.2 _ (List.mem_map_of_mem hy) _ (List.mem_cons_self ..) (by rw [h2, hb])
        · exact hnd2.2.1.1 (by rw [hb, ← h2]; exact List.mem_map_of_mem (f := fun z : Value × Rw => z.1.ownBlock) (List.mem_append_left _ hy))
      · exact hnd2.2.1.1 (by rw [hb, ← h2]; exact List.mem_map_of_mem (f := fun z : Value × Rw => z.1.ownBlock) (List.mem_append_right _ hy))
    refine ⟨ownC_grown (ownC_grown h1 g2 (fun k hk e => ?_)) g3 (fun k hk e => ?_), q, h2, h3⟩
    · rw [h2] at hk
      injection hk with hk
      injection e with e
      omega
    · rw [h2] at hk
      injection hk with hk
      have := hLt k e
      subst hk
      rcases h3 with h3 | h3
      · omega
      · omega
  have hnew : OwnC w3 0 5 v' r'.cells.length (cvals r'.cells) ∧ ∃ q, v'.ownBlock = some q ∧ ((q < w.heap.size ∧ T q = 10 + q) ∨ w.heap.size ≤ q) := by
    rcases hn with ⟨rfl, rfl, hbel⟩ | ⟨h1, q, h2⟩
    · refine ⟨ownC_grown (ownC_below hx1 hbel) g3 (fun k hk e => ?_), b, hb, hx3⟩
      rw [hb] at hk
      injection hk with hk
      have := hLt k e
      subst hk
      rcases hx3 with h3 | h3
      · omega
      · omega
    · have h4 := ownC_lt h1 q h2
      refine ⟨ownC_mono (ownC_grown h1 g3 (fun k hk e => ?_)) (Nat.zero_le _), q, h2, .inr (by omega)⟩
      rw [h2] at hk
      injection hk with hk
      have := hLt k e
      omega
  refine ⟨(h.wi.trans (Within.of_gb g2 (fun k hk => ?_))).trans (Within.of_gb g3 (fun k hk => .inl (by rw [(hLt k hk).1]; omega))), ?_, ⟨ho, h.rl.tag⟩, ⟨ownC_grown (ownC_grown h.rm.own g2 (fun k hk e => ?_)) g3 (fun k hk e => ?_), h.rm.tag⟩, fun y hy => ?_, ?_⟩
  · injection hk with hk
    subst hk
    rcases hx3 with h3 | h3
    · exact .inl (by omega)
    · exact .inr h3
  · refine blk_grown (blk_grown h.blk g2 (fun e => ?_)) g3 (fun e => ?_)
    · injection e with e
      subst e
      rcases hx3 with h3 | h3
      · omega
      · omega
    · have := hLt p e.symm
      omega
  · have := hMt k hk
    injection e with e
    subst e
    rcases hx3 with h3 | h3
    · omega
    · omega
  · have h1 := hMt k hk
    have h2 := hLt k e
    omega
  · rcases List.mem_append.1 hy with hy | hy
    · rcases List.mem_append.1 hy with hy | hy
      · exact hoth y (List.mem_append_left _ (List.mem_append_left _ hy))
      · rcases List.mem_cons.1 hy with hy | hy
        · subst hy; exact hnew
        · exact hoth y (List.mem_append_left _ (List.mem_append_right _ hy))
    · exact hoth y (List.mem_append_right _ hy)
  · rcases hn with ⟨rfl, rfl, hbel⟩ | ⟨h1, q, h2⟩
    · exact hnd
    · have h4 := ownC_lt h1 q h2
      have hall : ∀ y ∈ A ++ x :: B ++ M, y.1.ownBlock ≠ some q := fun y hy e => by
        have h5 := ownC_lt (h.ca y hy).1 q e
        omega
      rw [List.append_assoc, List.map_append, List.nodup_append, List.cons_append, List.map_cons, List.nodup_cons] at hnd ⊢
      refine ⟨hnd.1, ⟨fun hm => ?_, hnd.2.1.2⟩, fun a ha c hc e => ?_⟩
      · obtain ⟨y, hy, e⟩ := List.mem_map.1 hm
        refine hall y ?_ (by rw [e]; exact h2)
        rcases List.mem_append.1 hy with hy | hy
        · exact List.mem_append_left _ (List.mem_append_right _ (List.mem_cons_of_mem _ hy))
        · exact List.mem_append_right _ hy
      · rcases List.mem_cons.1 hc with hc | hc
        · obtain ⟨y, hy, e2⟩ := List.mem_map.1 ha
          exact hall y (List.mem_append_left _ (List.mem_append_left _ hy)) (by rw [e2, e, hc]; exact h2)
        · exact hnd.2.2 a ha c (List.mem_cons_of_mem _ hc) e
theorem RzD.start {T : Nat → Nat} {p : Nat} {vr vo : Value} {Lr Lo : List (Value × Rw)} {w w1 : World} {g : Gr} (h : RAt T p vr vo Lr Lo w g) (b : Within (own T w) w w1) (h1 : RAt T p vr vo Lr Lo w1 g) : RzD T p 2 3 #[.int .i64 g.cols, .int .i64 g.limit, vr, vo] w vr vo Lr Lo w1 :=
  ⟨b, h1.blk, h1.rr, h1.ro, fun x hx => by
    obtain ⟨q, e1, e2⟩ := (h.ca x hx).tag
    exact ⟨(h1.ca x hx).own, q, e1, .inl ⟨h.lt q (by omega), e2⟩⟩, h.nd⟩
theorem RzD.tags {T : Nat → Nat} {p : Nat} {K : Array Value} {w w1 : World} {vL vM : Value} {L M : List (Value × Rw)} (hlt : ∀ k, T k ≠ 0 → k < w.heap.size) (h : RzD T p 2 3 K w vL vM L M w1) :
    ∀ x ∈ L ++ M, OwnC w1 0 5 x.1 x.2.cells.length (cvals x.2.cells) ∧ ∃ q, x.1.ownBlock = some q ∧ ((q < w.heap.size ∧ T q = 10 + q) ∨ (w.heap.size ≤ q ∧ vM.ownBlock ≠ some q ∧ vL.ownBlock ≠ some q)) := fun x hx => by
  obtain ⟨h1, q, h2, h3⟩ := h.ca x hx
  refine ⟨h1, q, h2, ?_⟩
  rcases h3 with h3 | h3
  · exact .inl h3
  · refine .inr ⟨h3, fun e => ?_, fun e => ?_⟩
    · have := hlt q (by rw [h.rm.tag q e]; decide)
      omega
    · have := hlt q (by rw [h.rl.tag q e]; decide)
      omega
theorem RzD.cut {T : Nat → Nat} {p : Nat} {K : Array Value} {w w1 : World} {b off n c : Nat} {vM : Value} {L M : List (Value × Rw)} (hlt : ∀ k, T k ≠ 0 → k < w.heap.size) (h : RzD T p 2 3 K w (.slice (some ⟨b, off, none⟩) n c) vM L M w1) (hn : L.length = n) (y : Nat) (hy : y ≤ n) :
    Rs T w (.slice (some ⟨b, off, none⟩) y c) vM (L.take y) M w1 := by
  subst hn
  have hsub : ((L.take y ++ M).map (·.1.ownBlock)).Sublist ((L ++ M).map (·.1.ownBlock)) := (List.Sublist.append (List.take_sublist y L) (List.Sublist.refl M)).map _
  refine ⟨h.wi, ?_, h.rm.own, fun k hk => .inl (h.rl.tag k hk), fun k hk => .inl (h.rm.tag k hk), fun x hx => ?_, h.nd.sublist hsub⟩
  · rw [List.length_take, Nat.min_eq_left hy, ← rowVals_take]
    exact ownC_pre h.rl.own y hy
  · refine h.tags hlt x ?_
    rcases List.mem_append.1 hx with hx | hx
    · exact List.mem_append_left _ (List.mem_of_mem_take hx)
    · exact List.mem_append_right _ hx
theorem RzD.grow {T : Nat → Nat} {p : Nat} {K : Array Value} {w w1 w2 w3 : World} {vL vM v4 v7 : Value} {L M L4 : List (Value × Rw)} (hlt : ∀ k, T k ≠ 0 → k < w.heap.size) (h : RzD T p 2 3 K w vL vM L M w1)
    (b : Below w1.heap.size w1 w2) (r4 : RowsAt w1.heap.size w2 v4 L4) (o7 : OwnC w3 0 2 v7 (L.length + L4.length) (rowVals L ++ rowVals L4)) (g : w2.grownBy w3 vL.ownBlock) (hn : ∀ k, v7.ownBlock = some k → vL.ownBlock = some k ∨ w2.heap.size ≤ k) :
    Rs T w v7 vM (L ++ L4) M w3 := by
  have hs1 := h.wi.size
  have hs2 := b.size
  have hb := h.below b
  have hL : ∀ k, vL.ownBlock = some k → T k = 2 ∧ k < w.heap.size := fun k hk => ⟨h.rl.tag k hk, hlt k (by rw [h.rl.tag k hk]; decide)⟩
  have hM : ∀ k, vM.ownBlock = some k → T k = 3 ∧ k < w.heap.size := fun k hk => ⟨h.rm.tag k hk, hlt k (by rw [h.rm.tag k hk]; decide)⟩
  have hLM : ∀ x ∈ L ++ M, OwnC w3 0 5 x.1 x.2.cells.length (cvals x.2.cells) ∧ ∃ q, x.1.ownBlock = some q ∧ q < w1.heap.size ∧ ((q < w.heap.size ∧ T q = 10 + q) ∨ (w.heap.size ≤ q ∧ vM.ownBlock ≠ some q ∧ v7.ownBlock ≠ some q)) := fun x hx => by
    obtain ⟨h1, q, h2, h3⟩ := hb.tags hlt x hx
    have h4 := (ownC_lt (h.ca x hx).1 q h2).2
    refine ⟨ownC_grown h1 g (fun k hk e => ?_), q, h2, h4, ?_⟩
    · rw [h2] at hk
      injection hk with hk
      subst hk
      have := hL _ e
      rcases h3 with h3 | h3
      · omega
      · exact h3.2.2 e
    · rcases h3 with h3 | h3
      · exact .inl h3
      · refine .inr ⟨h3.1, h3.2.1, fun e => ?_⟩
        rcases hn q e with e2 | e2
        · exact h3.2.2 e2
        · omega
  have h4 : ∀ x ∈ L4, OwnC w3 0 5 x.1 x.2.cells.length (cvals x.2.cells) ∧ ∃ q, x.1.ownBlock = some q ∧ w1.heap.size ≤ q ∧ q < w2.heap.size := fun x hx => by
    obtain ⟨q, e1, _⟩ := r4.ap x hx
    have hc := r4.cells x hx
    have hl := ownC_lt hc q e1
    refine ⟨ownC_mono (ownC_grown hc g (fun k hk e => ?_)) (Nat.zero_le _), q, e1, hl⟩
    have := hL k e
    have := (ownC_lt hc k hk).1
    omega
  refine ⟨(h.wi.trans (Within.of_below b)).trans (Within.of_gb g (fun k hk => .inl (by rw [(hL k hk).1]; decide))), ?_, ownC_grown hb.rm.own g (fun k hk e => by have := hL k e; have := hM k hk; omega), fun k hk => ?_, fun k hk => .inl (hM k hk).1, fun x hx => ?_, ?_⟩
  · rw [List.length_append, rowVals_append]; exact o7
  · rcases hn k hk with e | e
    · exact .inl (hL k e).1
    · exact .inr ⟨by omega, fun e2 => by have := hM k e2; omega⟩
  · have hcase : x ∈ L ++ M ∨ x ∈ L4 := by
      rcases List.mem_append.1 hx with hx | hx
      · rcases List.mem_append.1 hx with hx | hx
        · exact .inl (List.mem_append_left _ hx)
        · exact .inr hx
      · exact .inl (List.mem_append_right _ hx)
    rcases hcase with hx | hx
    · obtain ⟨h1, q, h2, _, h3⟩ := hLM x hx
      exact ⟨h1, q, h2, h3⟩
    · obtain ⟨h1, q, h2, h3⟩ := h4 x hx
      refine ⟨h1, q, h2, .inr ⟨by omega, fun e => by have := hM q e; omega, fun e => ?_⟩⟩
      rcases hn q e with e2 | e2
      · have := hL q e2; omega
      · omega
  · have hnd := h.nd
    have hap : ∀ x ∈ L ++ M, ∀ y ∈ L4, x.1.ownBlock ≠ y.1.ownBlock := fun x hx y hy e => by
      obtain ⟨_, q, h2, h3, _⟩ := hLM x hx
      obtain ⟨_, q', h5, h6⟩ := h4 y hy
      rw [h2, h5] at e
      injection e with e
      omega
    rw [List.append_assoc]
    rw [List.map_append, List.nodup_append] at hnd
    refine nodup_map_append hnd.1 (nodup_map_append r4.nd hnd.2.1 fun x hx y hy e => hap y (List.mem_append_right _ hy) x hx e.symm) fun x hx y hy e => ?_
    rcases List.mem_append.1 hy with hy | hy
    · exact hap x (List.mem_append_left _ hx) y hy e
    · exact hnd.2.2 _ (List.mem_map_of_mem hx) _ (List.mem_map_of_mem hy) e
end Go.Proofs.YtjclgoiclbkgjaaGreatDoor
