import Derived.Test.YtjclgoiclbkgjaaGreatDoorK9
import Derived.Test.YtjclgoiclbkgjaaGreatDoorK4
/- Reflow: rows in memory. -/
namespace Go.Proofs.YtjclgoiclbkgjaaGreatDoor
open Go.RowKit

theorem ownC_pre {w : World} {base size b off n c : Nat} {xs : List Value} (h : OwnC w base size (.slice (some ⟨b, off, none⟩) n c) n xs) (y : Nat) (h2 : y ≤ n) : OwnC w base size (.slice (some ⟨b, off, none⟩) y c) y (xs.take (y * size)) := by
  have := ownC_sub h 0 y (Nat.zero_le _) h2
  simpa using this
theorem RowsAt.pre {B : Nat} {w : World} {b off n c : Nat} {L : List (Value × Rw)} (h : RowsAt B w (.slice (some ⟨b, off, none⟩) n c) L) (hn : L.length = n) (y : Nat) (hy : y ≤ n) : RowsAt B w (.slice (some ⟨b, off, none⟩) y c) (L.take y) := by
  subst hn
  refine ⟨?_, fun x hx => h.cells x (List.mem_of_mem_take hx), ?_, fun x hx => h.ap x (List.mem_of_mem_take hx)⟩
  · rw [List.length_take, Nat.min_eq_left hy, ← rowVals_take]
    exact ownC_pre h.own y hy
  · rw [List.map_take]
    exact h.nd.sublist (List.take_sublist _ _)
theorem RowsAt.append {B pb : Nat} {w6 w7 w8 : World} {v v2 v3 : Value} {L L2 : List (Value × Rw)} (h : RowsAt B w6 v L) (g : w6.grownBy w7 (some pb)) (hpb : pb < B) (h2 : RowsAt w6.heap.size w7 v2 L2) (hB : B ≤ w6.heap.size)
    (o3 : OwnC w8 B 2 v3 (L.length + L2.length) (rowVals L ++ rowVals L2)) (g3 : w7.grownBy w8 v.ownBlock) (hn : ∀ k, v3.ownBlock = some k → v.ownBlock = some k ∨ w7.heap.size ≤ k) : RowsAt B w8 v3 (L ++ L2) := by
  have h7 : RowsAt B w7 v L := h.grown g (fun k hk => by injection hk with hk; omega)
  have hs := g.size
  refine ⟨?_, fun x hx => ?_, ?_, fun x hx => ?_⟩
  · rw [List.length_append, rowVals_append]; exact o3
  · rcases List.mem_append.1 hx with hx | hx
    · refine ownC_grown (h7.cells x hx) g3 (fun k hk e => ?_)
      obtain ⟨q, e1, e2⟩ := h.ap x hx
      rw [e1] at hk
      injection hk with hk
      exact e2 (by rw [e, hk])
    · refine ownC_mono (ownC_grown (h2.cells x hx) g3 (fun k hk e => ?_)) hB
      have h3 := (ownC_lt (h2.cells x hx) k hk).1
      have h4 := (ownC_lt h.own k e).2
      omega
  · rw [List.map_append, List.nodup_append]
    refine ⟨h.nd, h2.nd, fun a ha c hc e => ?_⟩
    obtain ⟨x, hx, rfl⟩ := List.mem_map.1 ha
    obtain ⟨y, hy, rfl⟩ := List.mem_map.1 hc
    obtain ⟨q, e1, e2⟩ := h.ap x hx
    have h3 := (ownC_lt (h.cells x hx) q e1).2
    have h4 := (ownC_lt (h2.cells y hy) q (by rw [← e]; exact e1)).1
    omega
  · rcases List.mem_append.1 hx with hx | hx
    · obtain ⟨q, e1, e2⟩ := h.ap x hx
      refine ⟨q, e1, fun e => ?_⟩
      have h3 := (ownC_lt (h.cells x hx) q e1).2
      rcases hn q e with h5 | h5
      · exact e2 h5
      · omega
    · obtain ⟨q, e1, e2⟩ := h2.ap x hx
      refine ⟨q, e1, fun e => ?_⟩
      have h3 := ownC_lt (h2.cells x hx) q e1
      rcases hn q e with h5 | h5
      · have := (ownC_lt h.own q h5).2; omega
      · omega
theorem RowsAt.relast {B : Nat} {w : World} {b off n c : Nat} {D : List (Value × Rw)} {xv : Value} {r : Rw} (h : RowsAt B w (.slice (some ⟨b, off, none⟩) n c) (D ++ [(xv, r)])) (hn : n = D.length + 1) (is : Bool) :
    RowsAt B (w.setCell ⟨b, off + D.length * 2 + 1, none⟩ (.bool is)) (.slice (some ⟨b, off, none⟩) n c) (D ++ [(xv, ⟨r.cells, is⟩)]) := by
  subst hn
  have g4 : w.grownBy (w.setCell ⟨b, off + D.length * 2 + 1, none⟩ (.bool is)) (some b) := gb_set (gb_refl _ _) _ _
  have hl : (D ++ [(xv, r)]).length = D.length + 1 := by simp
  have hl2 : (D ++ [(xv, (⟨r.cells, is⟩ : Rw))]).length = D.length + 1 := by simp
  have key : ∀ x ∈ D ++ [(xv, r)], OwnC (w.setCell ⟨b, off + D.length * 2 + 1, none⟩ (.bool is)) B 5 x.1 x.2.cells.length (cvals x.2.cells) := fun x hx =>
    ownC_grown (h.cells x hx) g4 (fun k hk e => by
      obtain ⟨q, e1, e2⟩ := h.ap x hx
      rw [e1] at hk
      injection hk with hk
      injection e with e
      exact e2 (by rw [e, hk]; rfl))
  have hlast : (xv, r) ∈ D ++ [(xv, r)] := List.mem_append_right _ (List.mem_singleton.2 rfl)
  refine ⟨?_, fun x hx => ?_, ?_, fun x hx => ?_⟩
  · rw [hl2]
    have h3 := h.own
    rw [hl] at h3
    have h4 := ownC_put h3 (D.length * 2 + 1) [.bool is] (by simp; omega)
    obtain ⟨rc, rw'⟩ := r
    rw [rowVals_mark] at h4
    exact h4
  · rcases List.mem_append.1 hx with hx | hx
    · exact key x (List.mem_append_left _ hx)
    · rw [List.mem_singleton] at hx
      subst hx
      exact key (xv, r) hlast
  · have := h.nd
    rw [List.map_append] at this ⊢
    exact this
  · rcases List.mem_append.1 hx with hx | hx
    · exact h.ap x (List.mem_append_left _ hx)
    · rw [List.mem_singleton] at hx
      subst hx
      exact h.ap (xv, r) hlast
theorem wrapLast_snoc (l : List Rw) (r : Rw) (is : Bool) : wrapLast (l ++ [r]) is = l ++ [⟨r.cells, is⟩] := by
  unfold wrapLast
  have e1 : (l ++ [r]).length - 1 = l.length := by simp
  rw [e1, List.set_append_right _ _ (Nat.le_refl _), Nat.sub_self, List.getD_eq_getElem?_getD, List.getElem?_append_right (Nat.le_refl _), Nat.sub_self]
  rfl
/-- The state of a reflow: the world since w5, the place that is told, the rows that are made. -/
structure FlS (w5 : World) (pb : Nat) (wr : World) (vO : Value) (L : List (Value × Rw)) (st : Fl) : Prop where
  gb : w5.grownBy wr (some pb)
  pk : wr.heap[pb]? = some (.cells #[.int .i64 st.px, .int .i64 st.py] 51 (0, 0))
  ro : RowsAt w5.heap.size wr vO L
  er : L.map (·.2) = st.out
theorem FlS.below {w5 : World} {pb : Nat} {wr w' : World} {vO : Value} {L : List (Value × Rw)} {st : Fl} (h : FlS w5 pb wr vO L st) (b : Below wr.heap.size wr w') : FlS w5 pb w' vO L st :=
  ⟨gb_below h.gb b h.gb.size, blk_below h.pk b (heap_lt h.pk), h.ro.below b, h.er⟩
/-- A line has been split and laid behind the others. -/
theorem FlS.line {w5 : World} {pb : Nat} {w6 w7 w8 : World} {vO v2 : Value} {L D : List (Value × Rw)} {xv : Value} {r : Rw} {st : Fl} {b off n c : Nat} (h : FlS w5 pb w6 vO L st) (hpb : pb < w5.heap.size) (g : w6.grownBy w7 (some pb)) (h2 : RowsAt w6.heap.size w7 v2 (D ++ [(xv, r)]))
    (cols : Nat) (line : List Cel) (mark : Int) (e2 : (D ++ [(xv, r)]).map (·.2) = spEnd cols (splitG (trimM line mark) cols mark))
    (hk : w7.heap[pb]? = some (.cells #[.int .i64 (tellX (splitG (trimM line mark) cols mark).told st.px), .int .i64 (tellY (splitG (trimM line mark) cols mark).told st.py st.out.length)] 51 (0, 0)))
    (o3 : OwnC w8 w5.heap.size 2 (.slice (some ⟨b, off, none⟩) n c) (L.length + (D ++ [(xv, r)]).length) (rowVals L ++ rowVals (D ++ [(xv, r)]))) (g3 : w7.grownBy w8 vO.ownBlock) (hn : ∀ k, (Value.slice (some ⟨b, off, none⟩) n c).ownBlock = some k → vO.ownBlock = some k ∨ w7.heap.size ≤ k) (is : Bool) :
    FlS w5 pb (w8.setCell ⟨b, off + (L ++ D).length * 2 + 1, none⟩ (.bool is)) (.slice (some ⟨b, off, none⟩) n c) (L ++ D ++ [(xv, ⟨r.cells, is⟩)]) (flEnd cols line mark is st) := by
  have hs := h.gb.size
  have ho := ownC_lt o3 b rfl
  have hv : ∀ q, vO.ownBlock = some q → w5.heap.size ≤ q := fun q hq => (ownC_lt h.ro.own q hq).1
  have h8 := h.ro.append g hpb h2 hs o3 g3 hn
  rw [← List.append_assoc] at h8
  have hnl : n = (L ++ D).length + 1 := by
    rcases o3.2 with ⟨e, _⟩ | ⟨b2, off2, c2, e, _⟩
    · simp at e
    · simp only [Value.slice.injEq] at e
      rw [e.2.1]; simp; omega
  refine ⟨gb_set_new (gb_trans_new (gb_trans h.gb g) g3 hv) ho.1 _ _, ?_, h8.relast hnl is, ?_⟩
  · have hm : tellX (splitG (trimM line mark) cols mark).told st.px = (flEnd cols line mark is st).px ∧ tellY (splitG (trimM line mark) cols mark).told st.py st.out.length = (flEnd cols line mark is st).py := ⟨rfl, rfl⟩
    rw [← hm.1, ← hm.2]
    exact blk_set_other (blk_grown hk g3 (fun e => by have := hv pb e.symm; omega)) (by omega) _ _
  · have e3 : (flEnd cols line mark is st).out = st.out ++ wrapLast (spEnd cols (splitG (trimM line mark) cols mark)) is := rfl
    rw [e3, ← e2, List.map_append, List.map_append, List.map_append, h.er]
    show _ = st.out ++ wrapLast (D.map _ ++ [r]) is
    rw [wrapLast_snoc, List.append_assoc]
    rfl
theorem nodup_map_append {L M : List (Value × Rw)} (h1 : (L.map (·.1.ownBlock)).Nodup) (h2 : (M.map (·.1.ownBlock)).Nodup) (h : ∀ x ∈ L, ∀ y ∈ M, x.1.ownBlock ≠ y.1.ownBlock) : ((L ++ M).map (·.1.ownBlock)).Nodup := by
  rw [List.map_append, List.nodup_append]
  refine ⟨h1, h2, fun a ha c hc e => ?_⟩
  obtain ⟨x, hx, rfl⟩ := List.mem_map.1 ha
  obtain ⟨y, hy, rfl⟩ := List.mem_map.1 hc
  exact h x hx y hy e
/-- The grid that a reflow leaves. -/
theorem flow_build {T : Nat → Nat} {p : Nat} {w : World} {g : Gr} {vr0 vo0 : Value} {Lr0 Lo0 : List (Value × Rw)} (h0 : GAt T p vr0 vo0 Lr0 Lo0 w g) {wz : World} {v9 vo2 : Value} {L L4 : List (Value × Rw)} {f d cols rows C C2 : Nat} {out : List Rw}
    (hsz : w.heap.size ≤ C) (hC : C ≤ C2) (hz : C2 ≤ wz.heap.size)
    (blk : wz.heap[p]? = some (.cells #[.int .i64 cols, .int .i64 g.limit, v9, vo2] 61 (0, 0)))
    (cl : ∀ x ∈ L, OwnC wz 0 5 x.1 x.2.cells.length (cvals x.2.cells) ∧ ∃ q, x.1.ownBlock = some q ∧ w.heap.size ≤ q ∧ q < C) (nd : (L.map (·.1.ownBlock)).Nodup)
    (ro : OwnC wz 0 2 vo2 (keptL g.limit (L.take f)).length (rowVals (keptL g.limit (L.take f)))) (no : ∀ k, vo2.ownBlock = some k → C ≤ k ∧ k < C2)
    (rr : OwnC wz 0 2 v9 ((L.drop f).take d ++ L4).length (rowVals ((L.drop f).take d ++ L4))) (nr : ∀ k, v9.ownBlock = some k → C2 ≤ k)
    (c4 : ∀ x ∈ L4, OwnC wz 0 5 x.1 x.2.cells.length (cvals x.2.cells) ∧ ∃ q, x.1.ownBlock = some q ∧ C2 ≤ q ∧ v9.ownBlock ≠ some q) (nd4 : (L4.map (·.1.ownBlock)).Nodup)
    (hout : L.map (·.2) = out) (hl4 : L4.map (·.2) = freshL (rows - ((out.drop f).take rows).length) cols plainS) (hd : (out.drop f).take rows = (out.drop f).take d)
    (wf : (⟨cols, g.limit, (out.drop f).take rows ++ freshL (rows - ((out.drop f).take rows).length) cols plainS, keepL g.limit (out.take f)⟩ : Gr).WF) :
    ∃ T', GM T' p wz ⟨cols, g.limit, (out.drop f).take rows ++ freshL (rows - ((out.drop f).take rows).length) cols plainS, keepL g.limit (out.take f)⟩ ∧ ∀ k, T' k ≠ 0 → own T w k := by
  have hM : ∀ x ∈ (L.drop f).take d, x ∈ L := fun x hx => List.mem_of_mem_drop (List.mem_of_mem_take hx)
  have hK : ∀ x ∈ keptL g.limit (L.take f), x ∈ L.take f := fun x hx => List.mem_of_mem_drop hx
  have hK2 : ∀ x ∈ keptL g.limit (L.take f), x ∈ L := fun x hx => List.mem_of_mem_take (hK x hx)
  have hLs : ∀ x ∈ L, OwnC wz 0 5 x.1 x.2.cells.length (cvals x.2.cells) ∧ ∃ q, x.1.ownBlock = some q ∧ ((q < w.heap.size ∧ T q = 10 + q) ∨ (w.heap.size ≤ q ∧ vo2.ownBlock ≠ some q ∧ v9.ownBlock ≠ some q)) := fun x hx => by
    obtain ⟨h1, q, h2, h3, h4⟩ := cl x hx
    exact ⟨h1, q, h2, .inr ⟨h3, fun e => by have := (no q e).1; omega, fun e => by have := nr q e; omega⟩⟩
  have ndM : (((L.drop f).take d).map (·.1.ownBlock)).Nodup := (nd.sublist ((List.drop_sublist f L).map _)).sublist ((List.take_sublist d _).map _)
  have ndK : ((keptL g.limit (L.take f)).map (·.1.ownBlock)).Nodup := (nd.sublist ((List.take_sublist f L).map _)).sublist ((List.drop_sublist _ _).map _)
  refine gat_build (g' := ⟨cols, g.limit, (out.drop f).take rows ++ freshL (rows - ((out.drop f).take rows).length) cols plainS, keepL g.limit (out.take f)⟩) (Lr := (L.drop f).take d ++ L4) (Lo := keptL g.limit (L.take f)) h0.lt h0.tp (by omega) blk rr ro (fun k hk => ?_) (fun k hk => ?_) (fun x hx => ?_) ?_ ?_ ?_ wf
  · have h1 := nr k hk
    exact .inr ⟨by omega, fun e => by have := (no k e).2; omega⟩
  · have h1 := (no k hk).1
    exact .inr (by omega)
  · rcases List.mem_append.1 hx with hx | hx
    · rcases List.mem_append.1 hx with hx | hx
      · exact hLs x (hM x hx)
      · obtain ⟨h1, q, h2, h3, h4⟩ := c4 x hx
        exact ⟨h1, q, h2, .inr ⟨by omega, fun e => by have := (no q e).2; omega, h4⟩⟩
    · exact hLs x (hK2 x hx)
  · have hLM : ∀ x ∈ (L.drop f).take d ++ L4, ∀ y ∈ keptL g.limit (L.take f), x.1.ownBlock ≠ y.1.ownBlock := fun x hx y hy e => by
      obtain ⟨_, qy, h2, _, h4⟩ := cl y (hK2 y hy)
      rcases List.mem_append.1 hx with hx | hx
      · have h5 := nd
        rw [← List.take_append_drop f L, List.map_append, List.nodup_append] at h5
        exact h5.2.2 _ (List.mem_map_of_mem (hK y hy)) _ (List.mem_map_of_mem (List.mem_of_mem_take hx)) e.symm
      · obtain ⟨_, q, h6, h7, _⟩ := c4 x hx
        rw [h6, h2] at e
        injection e with e
        omega
    refine nodup_map_append (nodup_map_append ndM nd4 fun x hx y hy e => ?_) ndK hLM
    obtain ⟨_, qx, h2, _, h4⟩ := cl x (hM x hx)
    obtain ⟨_, q, h6, h7, _⟩ := c4 y hy
    rw [h6, h2] at e
    injection e with e
    omega
  · rw [List.map_append, hl4, List.map_take, List.map_drop, hout]
    show (out.drop f).take d ++ _ = (out.drop f).take rows ++ _
    rw [hd]
  · show (keptL g.limit (L.take f)).map (·.2) = keepL g.limit (out.take f)
    unfold keptL keepL
    rw [List.map_drop, List.map_take, hout, List.length_take, List.length_take, ← hout, List.length_map]
set_option maxRecDepth 100000 in
theorem cloneR_nil (w : World) : Calls Tryz.prog 66 #[.slice none 0 0] w fun e w' => e = .returned (.slice none 0 0) ∧ Below w.heap.size w w' := by
  have hq := fun (wx : World) => Lib.run_eql_slice_nil (P := Tryz.prog) wx 57 77 none 0 0 0 0 Tryz.underlying57
  go_enter Tryz.func66, Tryz.ntmps66
  go_wp2_with fail
  exact ret1v rfl rfl rfl ⟨rfl, Below.refl _ _⟩
end Go.Proofs.YtjclgoiclbkgjaaGreatDoor
