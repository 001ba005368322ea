import Derived.Test.YtjclgoiclbkgjaaDoorK16
/- A grid's rows in memory, while they are turned one by one. -/
namespace Go.Proofs.YtjclgoiclbkgjaaDoor
open Go.RowKit

/-- The current rows L, the others M; of the blocks only those that are the grid's have turned since w. -/
structure Rz (T : Nat → Nat) (p t u : Nat) (K : Array Value) (w : World) (vL vM : Value) (L M : List (Value × Rw)) (w' : World) : Prop where
  wi : Within (own T w) w w'
  blk : w'.heap[p]? = some (.cells K 70 (0, 0))
  rl : Row T t 2 vL L.length (rowVals L) w'
  rm : Row T u 2 vM M.length (rowVals M) w'
  ca : ∀ x ∈ L ++ M, OwnC w' 0 5 x.1 x.2.cells.length (cvals x.2.cells) ∧ ∃ q, x.1.ownBlock = some q ∧ ((q < w.heap.size ∧ T q = 10 + q) ∨ w.heap.size ≤ q)
  nd : ((L ++ M).map (·.1.ownBlock)).Nodup
theorem nodup_swap {α β : Type} {f : α → β} {L M : List α} (h : ((L ++ M).map f).Nodup) : ((M ++ L).map f).Nodup := by
  rw [List.map_append, List.nodup_append] at h ⊢
  exact ⟨h.2.1, h.1, fun a ha b hb e => h.2.2 b hb a ha e.symm⟩
theorem Rz.swap {T : Nat → Nat} {p t u : Nat} {K : Array Value} {w w' : World} {vL vM : Value} {L M : List (Value × Rw)} (h : Rz T p t u K w vL vM L M w') : Rz T p u t K w vM vL M L w' :=
  ⟨h.wi, h.blk, h.rm, h.rl, fun x hx => h.ca x (by
    rcases List.mem_append.1 hx with hx | hx
    · exact List.mem_append_right _ hx
    · exact List.mem_append_left _ hx), nodup_swap h.nd⟩
theorem Rz.below {T : Nat → Nat} {p t u : Nat} {K : Array Value} {w w1 w2 : World} {vL vM : Value} {L M : List (Value × Rw)} (h : Rz T p t u K w vL vM L M w1) (b : Below w1.heap.size w1 w2) : Rz T p t u K w vL vM L M w2 :=
  ⟨h.wi.trans (Within.of_below b), blk_below h.blk b (heap_lt h.blk), ⟨ownC_below h.rl.own b, h.rl.tag⟩, ⟨ownC_below h.rm.own b, h.rm.tag⟩, fun x hx => ⟨ownC_below (h.ca x hx).1 b, (h.ca x hx).2⟩, h.nd⟩
theorem Rz.step {T : Nat → Nat} {p t u : Nat} {K : Array Value} {w w1 w2 w3 : World} {vL vM v' : Value} {A B M : List (Value × Rw)} {x : Value × Rw} {r' : Rw} {b : Nat}
    (hlt : ∀ k, T k ≠ 0 → k < w.heap.size) (hp : T p = 1) (htu : (t = 2 ∧ u = 3) ∨ (t = 3 ∧ u = 2))
    (h : Rz T p t u K w vL vM (A ++ x :: B) M w1) (hb : x.1.ownBlock = some b) (g2 : w1.grownBy w2 (some b))
    (hn : (v' = x.1 ∧ r' = x.2 ∧ Below w1.heap.size w1 w2) ∨ OwnC w2 w1.heap.size 5 v' r'.cells.length (cvals r'.cells) ∧ ∃ q, v'.ownBlock = some q)
    (g3 : w2.grownBy w3 vL.ownBlock) (ho : OwnC w3 0 2 vL (A ++ (v', r') :: B).length (rowVals (A ++ (v', r') :: B))) : Rz T p t u K w vL vM (A ++ (v', r') :: B) M w3 := by
  have hpl := hlt p (by rw [hp]; decide)
  obtain ⟨hx1, qx, hx2, hx3⟩ := h.ca x (List.mem_append_left _ (List.mem_append_right _ (List.mem_cons_self ..)))
  rw [hb] at hx2
  injection hx2 with hx2
  subst hx2
  have hsz1 := h.wi.size
  have hs2 := g2.size
  have htn : t = 2 ∨ t = 3 := by omega
  have hun : u = 2 ∨ u = 3 := by omega
  have hLt : ∀ k, vL.ownBlock = some k → T k = t ∧ k < w.heap.size := fun k hk => ⟨h.rl.tag k hk, hlt k (by rw [h.rl.tag k hk]; omega)⟩
  have hMt : ∀ k, vM.ownBlock = some k → T k = u ∧ k < w.heap.size := fun k hk => ⟨h.rm.tag k hk, hlt k (by rw [h.rm.tag k hk]; omega)⟩
  have hnd := h.nd
  -- the other rows
  have hoth : ∀ y, y ∈ A ++ B ++ M → OwnC w3 0 5 y.1 y.2.cells.length (cvals y.2.cells) ∧ ∃ q, y.1.ownBlock = some q ∧ ((q < w.heap.size ∧ T q = 10 + q) ∨ w.heap.size ≤ q) := fun y hy => by
    have hy2 : y ∈ A ++ x :: B ++ M := by
      rcases List.mem_append.1 hy with hy | hy
      · rcases List.mem_append.1 hy with hy | hy
        · exact List.mem_append_left _ (List.mem_append_left _ hy)
        · exact List.mem_append_left _ (List.mem_append_right _ (List.mem_cons_of_mem _ hy))
      · exact List.mem_append_right _ hy
    obtain ⟨h1, q, h2, h3⟩ := h.ca y hy2
    have hqb : q ≠ b := fun e => by
      subst e
      have hnd2 := hnd
      rw [List.append_assoc, List.map_append, List.nodup_append, List.cons_append, List.map_cons, List.nodup_cons] at hnd2
      rcases List.mem_append.1 hy with hy | hy
      · rcases List.mem_append.1 hy with hy | hy
        · exact hnd2.2.2 _ (List.mem_map_of_mem hy) _ (List.mem_cons_self ..) (by rw [h2, hb])
        · exact hnd2.2.1.1 (by rw [hb, ← h2]; exact List.mem_map_of_mem (f := fun z : Value × Rw => z.1.ownBlock) (List.mem_append_left _ hy))
      · exact hnd2.2.1.1 (by rw [hb, ← h2]; exact List.mem_map_of_mem (f := fun z : Value × Rw => z.1.ownBlock) (List.mem_append_right _ hy))
    refine ⟨ownC_grown (ownC_grown h1 g2 (fun k hk e => ?_)) g3 (fun k hk e => ?_), q, h2, h3⟩
    · rw [h2] at hk
      injection hk with hk
      injection e with e
      omega
    · rw [h2] at hk
      injection hk with hk
      have := hLt k e
      subst hk
      rcases h3 with h3 | h3
      · omega
      · omega
  have hnew : OwnC w3 0 5 v' r'.cells.length (cvals r'.cells) ∧ ∃ q, v'.ownBlock = some q ∧ ((q < w.heap.size ∧ T q = 10 + q) ∨ w.heap.size ≤ q) := by
    rcases hn with ⟨rfl, rfl, hbel⟩ | ⟨h1, q, h2⟩
    · refine ⟨ownC_grown (ownC_below hx1 hbel) g3 (fun k hk e => ?_), b, hb, hx3⟩
      rw [hb] at hk
      injection hk with hk
      have := hLt k e
      subst hk
      rcases hx3 with h3 | h3
      · omega
      · omega
    · have h4 := ownC_lt h1 q h2
      refine ⟨ownC_mono (ownC_grown h1 g3 (fun k hk e => ?_)) (Nat.zero_le _), q, h2, .inr (by omega)⟩
      rw [h2] at hk
      injection hk with hk
      have := hLt k e
      omega
  refine ⟨(h.wi.trans (Within.of_gb g2 (fun k hk => ?_))).trans (Within.of_gb g3 (fun k hk => .inl (by rw [(hLt k hk).1]; omega))), ?_, ⟨ho, h.rl.tag⟩, ⟨ownC_grown (ownC_grown h.rm.own g2 (fun k hk e => ?_)) g3 (fun k hk e => ?_), h.rm.tag⟩, fun y hy => ?_, ?_⟩
  · injection hk with hk
    subst hk
    rcases hx3 with h3 | h3
    · exact .inl (by omega)
    · exact .inr h3
  · refine blk_grown (blk_grown h.blk g2 (fun e => ?_)) g3 (fun e => ?_)
    · injection e with e
      subst e
      rcases hx3 with h3 | h3
      · omega
      · omega
    · have := hLt p e.symm
      omega
  · have := hMt k hk
    injection e with e
    subst e
    rcases hx3 with h3 | h3
    · omega
    · omega
  · have h1 := hMt k hk
    have h2 := hLt k e
    omega
  · rcases List.mem_append.1 hy with hy | hy
    · rcases List.mem_append.1 hy with hy | hy
      · exact hoth y (List.mem_append_left _ (List.mem_append_left _ hy))
      · rcases List.mem_cons.1 hy with hy | hy
        · subst hy; exact hnew
        · exact hoth y (List.mem_append_left _ (List.mem_append_right _ hy))
    · exact hoth y (List.mem_append_right _ hy)
  · rcases hn with ⟨rfl, rfl, hbel⟩ | ⟨h1, q, h2⟩
    · exact hnd
    · have h4 := ownC_lt h1 q h2
      have hall : ∀ y ∈ A ++ x :: B ++ M, y.1.ownBlock ≠ some q := fun y hy e => by
        have h5 := ownC_lt (h.ca y hy).1 q e
        omega
      rw [List.append_assoc, List.map_append, List.nodup_append, List.cons_append, List.map_cons, List.nodup_cons] at hnd ⊢
      refine ⟨hnd.1, ⟨fun hm => ?_, hnd.2.1.2⟩, fun a ha c hc e => ?_⟩
      · obtain ⟨y, hy, e⟩ := List.mem_map.1 hm
        refine hall y ?_ (by rw [e]; exact h2)
        rcases List.mem_append.1 hy with hy | hy
        · exact List.mem_append_left _ (List.mem_append_right _ (List.mem_cons_of_mem _ hy))
        · exact List.mem_append_right _ hy
      · rcases List.mem_cons.1 hc with hc | hc
        · obtain ⟨y, hy, e2⟩ := List.mem_map.1 ha
          exact hall y (List.mem_append_left _ (List.mem_append_left _ hy)) (by rw [e2, e, hc]; exact h2)
        · exact hnd.2.2 a ha c (List.mem_cons_of_mem _ hc) e
theorem Rz.start {T : Nat → Nat} {p : Nat} {vr vo : Value} {Lr Lo : List (Value × Rw)} {w w1 : World} {g : Gr} (h : GAt T p vr vo Lr Lo w g) (b : Within (own T w) w w1) (h1 : GAt T p vr vo Lr Lo w1 g) : Rz T p 2 3 #[.int .i64 g.cols, .int .i64 g.limit, vr, vo] w vr vo Lr Lo w1 :=
  ⟨b, h1.blk, h1.rr, h1.ro, fun x hx => by
    obtain ⟨q, e1, e2⟩ := (h.ca x hx).tag
    exact ⟨(h1.ca x hx).own, q, e1, .inl ⟨h.lt q (by omega), e2⟩⟩, h.nd⟩
/-- Rows in memory that make a grid, but for the block of the struct. -/
structure Rs (T : Nat → Nat) (w : World) (vr vo : Value) (Lr Lo : List (Value × Rw)) (w' : World) : Prop where
  wi : Within (own T w) w w'
  rr : OwnC w' 0 2 vr Lr.length (rowVals Lr)
  ro : OwnC w' 0 2 vo Lo.length (rowVals Lo)
  tr : ∀ k, vr.ownBlock = some k → T k = 2 ∨ (w.heap.size ≤ k ∧ vo.ownBlock ≠ some k)
  tv : ∀ k, vo.ownBlock = some k → T k = 3 ∨ w.heap.size ≤ k
  ca : ∀ x ∈ Lr ++ Lo, OwnC w' 0 5 x.1 x.2.cells.length (cvals x.2.cells) ∧ ∃ q, x.1.ownBlock = some q ∧ ((q < w.heap.size ∧ T q = 10 + q) ∨ (w.heap.size ≤ q ∧ vo.ownBlock ≠ some q ∧ vr.ownBlock ≠ some q))
  nd : ((Lr ++ Lo).map (·.1.ownBlock)).Nodup
/-- Something is stored into the struct. -/
theorem Rs.put {T : Nat → Nat} {p : Nat} {w w1 w2 : World} {vr vo : Value} {Lr Lo : List (Value × Rw)} (h : Rs T w vr vo Lr Lo w1) (hp : T p = 1) (hpl : p < w.heap.size) (g : w1.grownBy w2 (some p)) : Rs T w vr vo Lr Lo w2 := by
  have hr : ∀ k, vr.ownBlock = some k → k ≠ p := fun k hk e => by
    subst e
    rcases h.tr k hk with e | e
    · omega
    · omega
  have ho : ∀ k, vo.ownBlock = some k → k ≠ p := fun k hk e => by
    subst e
    rcases h.tv k hk with e | e
    · omega
    · omega
  refine ⟨h.wi.trans (Within.of_gb g (fun k hk => .inl (by injection hk with hk; subst hk; omega))), ownC_grown h.rr g (fun k hk e => hr k hk (by injection e with e; exact e.symm)), ownC_grown h.ro g (fun k hk e => ho k hk (by injection e with e; exact e.symm)), h.tr, h.tv, fun x hx => ?_, h.nd⟩
  obtain ⟨h1, q, h2, h3⟩ := h.ca x hx
  refine ⟨ownC_grown h1 g (fun k hk e => ?_), q, h2, h3⟩
  rw [h2] at hk
  injection hk with hk
  injection e with e
  subst hk e
  rcases h3 with h3 | h3
  · omega
  · omega
theorem Rz.tags {T : Nat → Nat} {p : Nat} {K : Array Value} {w w1 : World} {vL vM : Value} {L M : List (Value × Rw)} (hlt : ∀ k, T k ≠ 0 → k < w.heap.size) (h : Rz T p 2 3 K w vL vM L M w1) :
    ∀ x ∈ L ++ M, OwnC w1 0 5 x.1 x.2.cells.length (cvals x.2.cells) ∧ ∃ q, x.1.ownBlock = some q ∧ ((q < w.heap.size ∧ T q = 10 + q) ∨ (w.heap.size ≤ q ∧ vM.ownBlock ≠ some q ∧ vL.ownBlock ≠ some q)) := fun x hx => by
  obtain ⟨h1, q, h2, h3⟩ := h.ca x hx
  refine ⟨h1, q, h2, ?_⟩
  rcases h3 with h3 | h3
  · exact .inl h3
  · refine .inr ⟨h3, fun e => ?_, fun e => ?_⟩
    · have := hlt q (by rw [h.rm.tag q e]; decide)
      omega
    · have := hlt q (by rw [h.rl.tag q e]; decide)
      omega
/-- Fewer rows. -/
theorem Rz.cut {T : Nat → Nat} {p : Nat} {K : Array Value} {w w1 : World} {b off n c : Nat} {vM : Value} {L M : List (Value × Rw)} (hlt : ∀ k, T k ≠ 0 → k < w.heap.size) (h : Rz T p 2 3 K w (.slice (some ⟨b, off, none⟩) n c) vM L M w1) (hn : L.length = n) (y : Nat) (hy : y ≤ n) :
    Rs T w (.slice (some ⟨b, off, none⟩) y c) vM (L.take y) M w1 := by
  subst hn
  have hsub : ((L.take y ++ M).map (·.1.ownBlock)).Sublist ((L ++ M).map (·.1.ownBlock)) := (List.Sublist.append (List.take_sublist y L) (List.Sublist.refl M)).map _
  refine ⟨h.wi, ?_, h.rm.own, fun k hk => .inl (h.rl.tag k hk), fun k hk => .inl (h.rm.tag k hk), fun x hx => ?_, h.nd.sublist hsub⟩
  · rw [List.length_take, Nat.min_eq_left hy, ← rowVals_take]
    exact ownC_pre h.rl.own y hy
  · refine h.tags hlt x ?_
    rcases List.mem_append.1 hx with hx | hx
    · exact List.mem_append_left _ (List.mem_of_mem_take hx)
    · exact List.mem_append_right _ hx
/-- More rows. -/
theorem Rz.grow {T : Nat → Nat} {p : Nat} {K : Array Value} {w w1 w2 w3 : World} {vL vM v4 v7 : Value} {L M L4 : List (Value × Rw)} (hlt : ∀ k, T k ≠ 0 → k < w.heap.size) (h : Rz T p 2 3 K w vL vM L M w1)
    (b : Below w1.heap.size w1 w2) (r4 : RowsAt w1.heap.size w2 v4 L4) (o7 : OwnC w3 0 2 v7 (L.length + L4.length) (rowVals L ++ rowVals L4)) (g : w2.grownBy w3 vL.ownBlock) (hn : ∀ k, v7.ownBlock = some k → vL.ownBlock = some k ∨ w2.heap.size ≤ k) :
    Rs T w v7 vM (L ++ L4) M w3 := by
  have hs1 := h.wi.size
  have hs2 := b.size
  have hb := h.below b
  have hL : ∀ k, vL.ownBlock = some k → T k = 2 ∧ k < w.heap.size := fun k hk => ⟨h.rl.tag k hk, hlt k (by rw [h.rl.tag k hk]; decide)⟩
  have hM : ∀ k, vM.ownBlock = some k → T k = 3 ∧ k < w.heap.size := fun k hk => ⟨h.rm.tag k hk, hlt k (by rw [h.rm.tag k hk]; decide)⟩
  have hLM : ∀ x ∈ L ++ M, OwnC w3 0 5 x.1 x.2.cells.length (cvals x.2.cells) ∧ ∃ q, x.1.ownBlock = some q ∧ q < w1.heap.size ∧ ((q < w.heap.size ∧ T q = 10 + q) ∨ (w.heap.size ≤ q ∧ vM.ownBlock ≠ some q ∧ v7.ownBlock ≠ some q)) := fun x hx => by
    obtain ⟨h1, q, h2, h3⟩ := hb.tags hlt x hx
    have h4 := (ownC_lt (h.ca x hx).1 q h2).2
    refine ⟨ownC_grown h1 g (fun k hk e => ?_), q, h2, h4, ?_⟩
    · rw [h2] at hk
      injection hk with hk
      subst hk
      have := hL _ e
      rcases h3 with h3 | h3
      · omega
      · exact h3.2.2 e
    · rcases h3 with h3 | h3
      · exact .inl h3
      · refine .inr ⟨h3.1, h3.2.1, fun e => ?_⟩
        rcases hn q e with e2 | e2
        · exact h3.2.2 e2
        · omega
  have h4 : ∀ x ∈ L4, OwnC w3 0 5 x.1 x.2.cells.length (cvals x.2.cells) ∧ ∃ q, x.1.ownBlock = some q ∧ w1.heap.size ≤ q ∧ q < w2.heap.size := fun x hx => by
    obtain ⟨q, e1, _⟩ := r4.ap x hx
    have hc := r4.cells x hx
    have hl := ownC_lt hc q e1
    refine ⟨ownC_mono (ownC_grown hc g (fun k hk e => ?_)) (Nat.zero_le _), q, e1, hl⟩
    have := hL k e
    have := (ownC_lt hc k hk).1
    omega
  refine ⟨(h.wi.trans (Within.of_below b)).trans (Within.of_gb g (fun k hk => .inl (by rw [(hL k hk).1]; decide))), ?_, ownC_grown hb.rm.own g (fun k hk e => by have := hL k e; have := hM k hk; omega), fun k hk => ?_, fun k hk => .inl (hM k hk).1, fun x hx => ?_, ?_⟩
  · rw [List.length_append, rowVals_append]; exact o7
  · rcases hn k hk with e | e
    · exact .inl (hL k e).1
    · exact .inr ⟨by omega, fun e2 => by have := hM k e2; omega⟩
  · have hcase : x ∈ L ++ M ∨ x ∈ L4 := by
      rcases List.mem_append.1 hx with hx | hx
      · rcases List.mem_append.1 hx with hx | hx
        · exact .inl (List.mem_append_left _ hx)
        · exact .inr hx
      · exact .inl (List.mem_append_right _ hx)
    rcases hcase with hx | hx
    · obtain ⟨h1, q, h2, _, h3⟩ := hLM x hx
      exact ⟨h1, q, h2, h3⟩
    · obtain ⟨h1, q, h2, h3⟩ := h4 x hx
      refine ⟨h1, q, h2, .inr ⟨by omega, fun e => by have := hM q e; omega, fun e => ?_⟩⟩
      rcases hn q e with e2 | e2
      · have := hL q e2; omega
      · omega
  · have hnd := h.nd
    have hap : ∀ x ∈ L ++ M, ∀ y ∈ L4, x.1.ownBlock ≠ y.1.ownBlock := fun x hx y hy e => by
      obtain ⟨_, q, h2, h3, _⟩ := hLM x hx
      obtain ⟨_, q', h5, h6⟩ := h4 y hy
      rw [h2, h5] at e
      injection e with e
      omega
    rw [List.append_assoc]
    rw [List.map_append, List.nodup_append] at hnd
    refine nodup_map_append hnd.1 (nodup_map_append r4.nd hnd.2.1 fun x hx y hy e => hap y (List.mem_append_right _ hy) x hx e.symm) fun x hx y hy e => ?_
    rcases List.mem_append.1 hy with hy | hy
    · exact hap x (List.mem_append_left _ hx) y hy e
    · exact hnd.2.2 _ (List.mem_map_of_mem hx) _ (List.mem_map_of_mem hy) e
end Go.Proofs.YtjclgoiclbkgjaaDoor
