/- Walks of package grid: row, Wrapped, Cell, Line. -/
import Derived.Test.YtjclgoiclbkgjaaDoorG4
import Derived.Lib.SliceRun
import Derived.WalkSpells
namespace Go.Proofs.YtjclgoiclbkgjaaDoor
open Go.RowKit

theorem row_field0 (x y : Value) (wx : World) : (Instr.field 76 (.agg #[x, y]) 0).run Tryd.prog wx = .ok x wx := by kernel_rfl
theorem row_field1 (x y : Value) (wx : World) : (Instr.field 76 (.agg #[x, y]) 1).run Tryd.prog wx = .ok y wx := by kernel_rfl
theorem ownC_row2 {w : World} {base b off n c : Nat} {L : List (Value × Rw)} (h : OwnC w base 2 (.slice (some ⟨b, off, none⟩) n c) n (rowVals L)) (k : Nat) (hk : k < L.length) :
    w.cell? ⟨b, off + k * 2, none⟩ = some L[k].1 ∧ w.cell? ⟨b, off + k * 2 + 1, none⟩ = some (.bool L[k].2.wrap) := by
  obtain ⟨e1, h2⟩ := h
  rcases h2 with ⟨e, _⟩ | ⟨b', off', c', e, hb, hbs, hnc, hcm, hcells, hxs⟩
  · simp at e
  · simp only [Value.slice.injEq, Option.some.injEq, Addr.mk.injEq] at e
    obtain ⟨⟨rfl, rfl, _⟩, _, rfl⟩ := e
    have key : ∀ i u, i < 2 → [L[k].1, Value.bool L[k].2.wrap][i]? = some u → w.cell? ⟨b, off + (k * 2 + i), none⟩ = some u := fun i u hi hu => hxs _ u (by rw [rowVals_at L k hk i hi]; exact hu)
    exact ⟨key 0 _ (by decide) rfl, key 1 _ (by decide) rfl⟩
theorem ownC_pos {w : World} {base size : Nat} {v : Value} {n : Nat} {xs : List Value} (h : OwnC w base size v n xs) (hn : 0 < n) : ∃ b off c, v = .slice (some ⟨b, off, none⟩) n c ∧ n ≤ c ∧ c ≤ maxLen := by
  rcases h.2 with ⟨_, h0⟩ | ⟨b, off, c, hv, _, _, h1, h2, _⟩
  · omega
  · exact ⟨b, off, c, hv, h1, h2⟩
theorem row_none {T : Nat → Nat} {p : Nat} {w : World} {g : Gr} (h : GM T p w g) (y : Int) (hy : ¬ (0 ≤ y ∧ y < (g.rows.length : Int)) ∧ ¬ (y < 0 ∧ -(g.old.length : Int) ≤ y)) :
    Calls Tryd.prog 44 #[.pointer (some ⟨p, 0, none⟩), .int .i64 y] w fun e w' => e = .returned (.agg #[.slice none 0 0, .bool false]) ∧ Below w.heap.size w w' := by
  obtain ⟨vr, vo, Lr, Lo, h0⟩ := h
  have hBz := Below.alloc (Below.refl w.heap.size w) (Nat.le_refl _) (.cells #[.slice none 0 0, .bool false] 76)
  have h := h0.mod (.of_below hBz) id id id (fun _ => id)
  obtain ⟨c0, c1, c2, c3⟩ := gm_cells h
  have hl := ownC_ln Tryd.underlying68 h.rr.own
  have ho := ownC_ln Tryd.underlying68 h.ro.own
  rw [(rows_len h).1] at hl
  rw [(rows_len h).2] at ho
  have w1 := h.wf.r2
  have w2 := h.wf.ol
  have w3 := h.wf.li
  clear h h0
  have hB := Below.alloc (Below.refl w.heap.size w) (Nat.le_refl _) (.cells #[.slice none 0 0, .bool false] 76)
  by_cases h0 : 0 ≤ y
  · have d1 : decide (0 ≤ y) = true := decide_eq_true h0
    have d2 : decide (y < (g.rows.length : Int)) = false := decide_eq_false (by omega)
    have d3 : decide (y < 0) = false := decide_eq_false (by omega)
    go_enter Tryd.func44, Tryd.ntmps44
    go_wp2_with fail
    (try simp only [Exit.inBlock, Exit.then])
    exact retRow rfl rfl rfl (blk_new _ _) Tryd.underlying76 rfl (by exact row_info) ⟨rfl, hB⟩
  · have d1 : decide (0 ≤ y) = false := decide_eq_false h0
    have d3 : decide (y < 0) = true := decide_eq_true (by omega)
    have d4 : decide (-(g.old.length : Int) ≤ y) = false := decide_eq_false (by omega)
    go_enter Tryd.func44, Tryd.ntmps44
    go_wp2_with fail
    (try simp only [Exit.inBlock, Exit.then])
    exact retRow rfl rfl rfl (blk_new _ _) Tryd.underlying76 rfl (by exact row_info) ⟨rfl, hB⟩
theorem row_some {T : Nat → Nat} {p : Nat} {w : World} {g : Gr} (h : GM T p w g) (k : Nat) (hk : k < g.rows.length) :
    Calls Tryd.prog 44 #[.pointer (some ⟨p, 0, none⟩), .int .i64 k] w fun e w' => ∃ v, e = .returned (.agg #[v, .bool (g.rows.getD k noR).wrap]) ∧ Below w.heap.size w w' ∧ OwnC w 0 5 v (g.rows.getD k noR).cells.length (cvals (g.rows.getD k noR).cells) := by
  obtain ⟨vr, vo, Lr, Lo, h0⟩ := h
  have hBz := Below.alloc (Below.refl w.heap.size w) (Nat.le_refl _) (.cells #[.slice none 0 0, .bool false] 76)
  have h := h0.mod (.of_below hBz) id id id (fun _ => id)
  obtain ⟨c0, c1, c2, c3⟩ := gm_cells h
  have hlen := (rows_len h).1
  have w1 := h.wf.r2
  obtain ⟨b, off, c, rfl, hnc, hcm⟩ := ownC_pos h.rr.own (by omega)
  have hkl : k < Lr.length := by omega
  obtain ⟨r0, r1⟩ := ownC_row2 h.rr.own k hkl
  have hx : (g.rows.getD k noR) = Lr[k].2 := by
    rw [← h.er, List.getD_eq_getElem?_getD, List.getElem?_map, List.getElem?_eq_getElem hkl]; rfl
  have hown := (h0.ca Lr[k] (List.mem_append_left _ (List.getElem_mem hkl))).own
  rw [hx]
  generalize Lr[k] = x at *
  obtain ⟨xv, xr⟩ := x
  dsimp only at r0 r1 hown hx ⊢
  have HO := Lib.hid hown
  obtain ⟨va, vc, rfl⟩ := ownC_sl hown
  have hl := ownC_ln Tryd.underlying68 h.rr.own
  have hix := idx_at (P := Tryd.prog) (size := 2) Tryd.underlying68 row_info b off Lr.length c k hkl
  clear h h0 hown
  have d1 : decide (0 ≤ (k : Int)) = true := decide_eq_true (by omega)
  have d2 : decide ((k : Int) < (Lr.length : Int)) = true := decide_eq_true (by omega)
  have d2' : decide (k < Lr.length) = true := decide_eq_true hkl
  have hB := Below.alloc (Below.refl w.heap.size w) (Nat.le_refl _) (.cells #[.slice va xr.cells.length vc, .bool xr.wrap] 76)
  go_enter Tryd.func44, Tryd.ntmps44
  go_wp2_with fail
  (try simp only [Exit.inBlock, Exit.then])
  exact retRow rfl rfl rfl (blk_new _ _) Tryd.underlying76 rfl (by exact row_info) ⟨_, rfl, hB, HO.out⟩
set_option maxRecDepth 100000 in
theorem row_old {T : Nat → Nat} {p : Nat} {w : World} {g : Gr} (h : GM T p w g) (k : Nat) (hk : k < g.old.length) :
    Calls Tryd.prog 44 #[.pointer (some ⟨p, 0, none⟩), .int .i64 ((k : Int) - g.old.length)] w fun e w' => ∃ v, e = .returned (.agg #[v, .bool (g.old.getD k noR).wrap]) ∧ Below w.heap.size w w' ∧ OwnC w 0 5 v (g.old.getD k noR).cells.length (cvals (g.old.getD k noR).cells) := by
  obtain ⟨vr, vo, Lr, Lo, h0⟩ := h
  have hBz := Below.alloc (Below.refl w.heap.size w) (Nat.le_refl _) (.cells #[.slice none 0 0, .bool false] 76)
  have h := h0.mod (.of_below hBz) id id id (fun _ => id)
  obtain ⟨c0, c1, c2, c3⟩ := gm_cells h
  have hlen := (rows_len h).2
  have w1 := h.wf.r2
  have w2 := h.wf.ol
  have w3 := h.wf.li
  obtain ⟨b, off, c, rfl, hnc, hcm⟩ := ownC_pos h.ro.own (by omega)
  have hkl : k < Lo.length := by omega
  obtain ⟨r0, r1⟩ := ownC_row2 h.ro.own k hkl
  have hx : (g.old.getD k noR) = Lo[k].2 := by
    rw [← h.eo, List.getD_eq_getElem?_getD, List.getElem?_map, List.getElem?_eq_getElem hkl]; rfl
  have hown := (h0.ca Lo[k] (List.mem_append_right _ (List.getElem_mem hkl))).own
  rw [hx]
  generalize Lo[k] = x at *
  obtain ⟨xv, xr⟩ := x
  dsimp only at r0 r1 hown hx ⊢
  have HO := Lib.hid hown
  obtain ⟨va, vc, rfl⟩ := ownC_sl hown
  have hl := ownC_ln Tryd.underlying68 h.ro.own
  have hix := idx_at (P := Tryd.prog) (size := 2) Tryd.underlying68 row_info b off Lo.length c k hkl
  rw [← hlen]
  rw [← hlen] at w2
  clear h h0 hown hlen
  have hy : (Lo.length : Int) + ((k : Int) - (Lo.length : Int)) = (k : Int) := by omega
  have d1 : decide (0 ≤ (k : Int) - (Lo.length : Int)) = false := decide_eq_false (by omega)
  have d3 : decide ((k : Int) - (Lo.length : Int) < 0) = true := decide_eq_true (by omega)
  have d4 : decide (-(Lo.length : Int) ≤ (k : Int) - (Lo.length : Int)) = true := decide_eq_true (by omega)
  have hwk : IntKind.i64.wrap (k : Int) = (k : Int) := wrap64_id _ (by omega) (by omega)
  have hB := Lib.hid (Below.alloc (Below.refl w.heap.size w) (Nat.le_refl _) (.cells #[.slice va xr.cells.length vc, .bool xr.wrap] 76))
  go_enter Tryd.func44, Tryd.ntmps44
  go_upto_region 4 with fail
  have hbk0 := blk_new w (.cells #[.slice none 0 0, .bool false] 76)
  generalize w.alloc (.cells #[.slice none 0 0, .bool false] 76) = wa at *
  go_still_tail 13, (by kernel_rfl)
  change wpList _ _ _ _ _ wa.drew
  have hbk := blk_drew hbk0
  have hBd := hBz.drew
  generalize hwd : wa.drew = wd at *
  have hst := run_storeVar_row (P := Tryd.prog) wd w.heap.size 76 76 _ #[.slice va xr.cells.length vc, .bool xr.wrap] hbk row_info rfl (by simp [Value.oneCell'])
  have hr2 := setRow_blk (cells := #[.slice va xr.cells.length vc, .bool xr.wrap]) hbk
  have hB3 := Lib.hid (below_row hBd (g := w.heap.size) (Nat.le_refl _) #[.slice va xr.cells.length vc, .bool xr.wrap])
  generalize wd.setRow w.heap.size #[.slice va xr.cells.length vc, .bool xr.wrap] = w3 at *
  go_wp2_with (refine wpList_storeR rfl _ _ _ rfl hst rfl rfl ?_)
  (try simp only [Exit.inBlock, Exit.then])
  exact retRow rfl rfl rfl hr2 Tryd.underlying76 rfl (by exact row_info) ⟨_, rfl, hB3.out, HO.out⟩
theorem row_any {T : Nat → Nat} {p : Nat} {w : World} {g : Gr} (h : GM T p w g) (y : Int) :
    Calls Tryd.prog 44 #[.pointer (some ⟨p, 0, none⟩), .int .i64 y] w fun e w' => ∃ v, e = .returned (.agg #[v, .bool (g.row y).wrap]) ∧ Below w.heap.size w w' ∧ OwnC w 0 5 v (g.row y).cells.length (cvals (g.row y).cells) := by
  by_cases h1 : 0 ≤ y ∧ y < (g.rows.length : Int)
  · obtain ⟨k, rfl⟩ : ∃ k : Nat, y = (k : Int) := ⟨y.toNat, by omega⟩
    have e : g.row k = g.rows.getD k noR := by unfold Gr.row; rw [if_pos h1, Int.toNat_natCast]
    rw [e]
    exact row_some h k (by omega)
  · by_cases h2 : y < 0 ∧ -(g.old.length : Int) ≤ y
    · obtain ⟨k, hk⟩ : ∃ k : Nat, (g.old.length : Int) + y = (k : Int) := ⟨((g.old.length : Int) + y).toNat, by omega⟩
      have e : g.row y = g.old.getD k noR := by unfold Gr.row; rw [if_neg h1, if_pos h2, hk, Int.toNat_natCast]
      rw [e, show y = (k : Int) - g.old.length by omega]
      exact row_old h k (by omega)
    · have e : g.row y = noR := by unfold Gr.row; rw [if_neg h1, if_neg h2]
      rw [e]
      refine (row_none h y ⟨h1, h2⟩).mono ?_
      rintro e w' ⟨rfl, b⟩
      exact ⟨_, rfl, b, ownC_nil _ _ _⟩
theorem own_empty (w : World) (e : TypeId) (size : Nat) : OwnC (w.alloc (.cells #[] e)) w.heap.size size (.slice (some ⟨w.heap.size, 0, none⟩) 0 0) 0 [] :=
  ⟨by simp, .inr ⟨w.heap.size, 0, 0, rfl, Nat.le_refl _, by simp, Nat.le_refl _, Nat.zero_le _, fun j hj => by omega, fun j u hu => by simp at hu⟩⟩
set_option maxRecDepth 100000 in
theorem wrapped_any {T : Nat → Nat} {p : Nat} {w : World} {g : Gr} (h : GM T p w g) (y : Int) :
    Calls Tryd.prog 34 #[.pointer (some ⟨p, 0, none⟩), .int .i64 y] w fun e w' => e = .returned (.bool (g.row y).wrap) ∧ Below w.heap.size w w' := by
  have HR := Lib.hid (row_any h y)
  go_enter Tryd.func34, Tryd.ntmps34
  go_wp2_with fail
  refine HR.out.mono ?_
  rintro e w2 ⟨v, rfl, b2, o2⟩
  have HB := Lib.hid b2
  clear b2
  obtain ⟨va, vc, rfl⟩ := ownC_sl o2
  clear o2
  have hf := row_field1 (.slice va (g.row y).cells.length vc) (.bool (g.row y).wrap)
  go_wp2_with fail
  go_ret
  exact ⟨rfl, HB.out⟩
set_option maxRecDepth 100000 in
theorem cloneC_any (l : List Cel) (v : Value) (w : World) (h : OwnC w 0 5 v l.length (cvals l)) (hl : l.length ≤ 100000) :
    Calls Tryd.prog 47 #[v] w fun e w' => ∃ v', e = .returned v' ∧ Below w.heap.size w w' ∧ OwnC w' w.heap.size 5 v' l.length (cvals l) := by
  rcases Nat.eq_zero_or_pos l.length with h0 | h0
  · have hnil : l = [] := List.eq_nil_of_length_eq_zero h0
    subst hnil
    obtain ⟨va, vc, rfl⟩ := ownC_sl h
    rw [List.length_nil] at h ⊢
    have hq := fun (wx : World) => Lib.run_eql_slice_nil (P := Tryd.prog) wx 51 38 va 0 vc 0 0 Tryd.underlying51
    cases va with
    | none =>
      clear h
      go_enter Tryd.func47, Tryd.ntmps47
      go_wp2_with fail
      exact ret1v rfl rfl rfl ⟨_, rfl, Below.refl _ _, ownC_nil _ _ _⟩
    | some a =>
      have HR := Lib.hid (ownC_reads h)
      clear h
      go_enter Tryd.func47, Tryd.ntmps47
      go_wp2_with (at_builtin; refine held ?_)
      unfold Held
      refine wpList_appC cells_elem rfl rfl w.heap.size (own_empty w 38 5) rfl (reads_kept HR.out (World.grownBy_alloc w _ none) (by intro _ _ e; simp at e)) rfl (cvals_one []) (by decide) (by decide) (by simp) ?_
      intro v6 w6 o6 g6
      have HB6 := Lib.hid ((Below.alloc (Below.refl w.heap.size w) (Nat.le_refl _) (.cells #[] 38)).grown g6 (by simp) (by intro q hq; simp [Value.ownBlock] at hq; omega))
      have HO6 := Lib.hid o6
      clear o6 g6
      go_wp2_with fail
      exact ret1v rfl rfl rfl ⟨_, rfl, HB6.out, HO6.out⟩
  · obtain ⟨b, off, c, rfl, hnc, hcm⟩ := ownC_pos h h0
    have hq := fun (wx : World) => Lib.run_eql_slice_nil (P := Tryd.prog) wx 51 38 (some ⟨b, off, none⟩) l.length c 0 0 Tryd.underlying51
    have HR := Lib.hid (ownC_reads h)
    clear h
    go_enter Tryd.func47, Tryd.ntmps47
    go_wp2_with (at_builtin; refine held ?_)
    unfold Held
    refine wpList_appC cells_elem rfl rfl w.heap.size (own_empty w 38 5) rfl (reads_kept HR.out (World.grownBy_alloc w _ none) (by intro _ _ e; simp at e)) rfl (cvals_one l) (by unfold maxLen; omega) (by omega) (by simp) ?_
    intro v6 w6 o6 g6
    rw [Nat.zero_add, List.nil_append] at o6
    have HB6 := Lib.hid ((Below.alloc (Below.refl w.heap.size w) (Nat.le_refl _) (.cells #[] 38)).grown g6 (by simp) (by intro q hq; simp [Value.ownBlock] at hq; omega))
    have HO6 := Lib.hid o6
    clear o6 g6
    go_wp2_with fail
    exact ret1v rfl rfl rfl ⟨_, rfl, HB6.out, HO6.out⟩
theorem line_any {T : Nat → Nat} {p : Nat} {w : World} {g : Gr} (h : GM T p w g) (y : Int) (hl : (g.row y).cells.length ≤ 1000) :
    Calls Tryd.prog 23 #[.pointer (some ⟨p, 0, none⟩), .int .i64 y] w fun e w' => ∃ v, e = .returned v ∧ Below w.heap.size w w' ∧ OwnC w' w.heap.size 5 v (g.row y).cells.length (cvals (g.row y).cells) := by
  have HR := Lib.hid (row_any h y)
  go_enter Tryd.func23, Tryd.ntmps23
  go_wp2_with fail
  refine HR.out.mono ?_
  rintro e w2 ⟨v, rfl, b2, o2⟩
  have HB := Lib.hid b2
  have HC := Lib.hid (cloneC_any (g.row y).cells v w2 (ownC_below o2 b2) (by omega))
  clear b2
  obtain ⟨va, vc, rfl⟩ := ownC_sl o2
  clear o2
  have hf := row_field0 (.slice va (g.row y).cells.length vc) (.bool (g.row y).wrap)
  go_wp2_with fail
  refine HC.out.mono ?_
  rintro e w3 ⟨v3, rfl, b3, o3⟩
  have HB3 := Lib.hid (HB.out.trans (b3.mono HB.out.size))
  have HO3 := Lib.hid (ownC_mono o3 HB.out.size)
  clear b3 o3
  go_wp2_with fail
  exact ret1v rfl rfl rfl ⟨_, rfl, HB3.out, HO3.out⟩
theorem wf_row {g : Gr} (h : g.WF) (y : Int) : (g.row y).cells.length ≤ 250 ∧ ∀ c ∈ (g.row y).cells, c.Ok := by
  have key : ∀ r, r ∈ g.rows ++ g.old → r.cells.length ≤ 250 ∧ ∀ c ∈ r.cells, c.Ok := fun r hr => by
    obtain ⟨e1, e2⟩ := h.ce r hr
    have := h.c2
    exact ⟨by omega, e2⟩
  have hget : ∀ (l : List Rw) (k : Nat), k < l.length → l.getD k noR ∈ l := fun l k hk => by
    rw [List.getD_eq_getElem?_getD, List.getElem?_eq_getElem hk]; exact List.getElem_mem hk
  unfold Gr.row
  split
  · exact key _ (List.mem_append_left _ (hget _ _ (by omega)))
  · split
    · exact key _ (List.mem_append_right _ (hget _ _ (by omega)))
    · exact ⟨by show 0 ≤ 250; omega, fun c hc => by simp [noR] at hc⟩
set_option maxRecDepth 100000 in
theorem cell_any {T : Nat → Nat} {p : Nat} {w : World} {g : Gr} (h : GM T p w g) (x y : Int) :
    Calls Tryd.prog 18 #[.pointer (some ⟨p, 0, none⟩), .int .i64 x, .int .i64 y] w fun e w' => e = .returned (g.cell x y).val ∧ Below w.heap.size w w' := by
  have hBz := Below.alloc (Below.refl w.heap.size w) (Nat.le_refl _) (.cells #[.int .i32 0, .int .i64 0, .int .i64 0, .int .i64 0, .int .i64 0] 38)
  have hbk0 := blk_new w (.cells #[.int .i32 0, .int .i64 0, .int .i64 0, .int .i64 0, .int .i64 0] 38)
  have hlen := (wf_row h.wf y).1
  have HR := Lib.hid (row_any (h.below hBz) y)
  have HC := Lib.hid (show g.cell x y = if 0 ≤ x ∧ x < ((g.row y).cells.length : Int) then (g.row y).cells.getD x.toNat noC else noC from rfl)
  generalize g.row y = r at *
  generalize g.cell x y = cc at *
  unfold Cel.val
  go_enter Tryd.func18, Tryd.ntmps18
  go_wp2_with fail
  refine HR.out.mono ?_
  rintro e w2 ⟨v, rfl, b2, o2⟩
  have hbk := blk_below hbk0 b2 (by simp)
  have HB := Lib.hid (hBz.trans (b2.mono (by simp)))
  have o2' := ownC_below o2 b2
  clear b2 o2 hBz hbk0
  obtain ⟨va, vc, rfl⟩ := ownC_sl o2'
  have hf := row_field0 (.slice va r.cells.length vc) (.bool r.wrap)
  by_cases h0 : 0 ≤ x ∧ x < (r.cells.length : Int)
  · obtain ⟨k, rfl⟩ : ∃ k : Nat, x = (k : Int) := ⟨x.toNat, by omega⟩
    have e := HC.out
    rw [if_pos h0, Int.toNat_natCast] at e
    obtain ⟨b, off, c, e2, hnc, hcm⟩ := ownC_pos o2' (by omega)
    simp only [Value.slice.injEq] at e2
    obtain ⟨rfl, _, rfl⟩ := e2
    obtain ⟨c0, c1, c2, c3, c4⟩ := ownC_cel o2' k (by omega) rfl
    have hix := idx_at (P := Tryd.prog) (size := 5) Tryd.underlying51 cell_info b off r.cells.length vc k (by omega)
    rw [← e] at c0 c1 c2 c3 c4
    obtain ⟨cr, cw, cs⟩ := cc
    dsimp only at c0 c1 c2 c3 c4 ⊢
    have d1 : decide (0 ≤ (k : Int)) = true := decide_eq_true (by omega)
    have d2 : decide ((k : Int) < (r.cells.length : Int)) = true := decide_eq_true (by omega)
    have d2' : decide (k < r.cells.length) = true := decide_eq_true (by omega)
    have hst := run_storeVar_row (P := Tryd.prog) w2 w.heap.size 38 38 _ #[.int .i32 cr, .int .i64 cw, .int .i64 cs.fg, .int .i64 cs.bg, .int .i64 cs.attr] hbk cell_info rfl (by simp [Value.oneCell'])
    have hr2 := setRow_blk (cells := #[.int .i32 cr, .int .i64 cw, .int .i64 cs.fg, .int .i64 cs.bg, .int .i64 cs.attr]) hbk
    have hB3 := Lib.hid (below_row HB.out (g := w.heap.size) (Nat.le_refl _) #[.int .i32 cr, .int .i64 cw, .int .i64 cs.fg, .int .i64 cs.bg, .int .i64 cs.attr])
    clear o2' e
    generalize w2.setRow w.heap.size #[.int .i32 cr, .int .i64 cw, .int .i64 cs.fg, .int .i64 cs.bg, .int .i64 cs.attr] = w3 at *
    go_wp2_with (refine wpList_storeR rfl _ _ _ rfl hst rfl rfl ?_)
    (try simp only [Exit.inBlock, Exit.then])
    exact retRow rfl rfl rfl hr2 Tryd.underlying38 rfl (by exact cell_info) ⟨rfl, hB3.out⟩
  · have e := HC.out
    rw [if_neg h0] at e
    subst e
    have hst := run_storeVar_row (P := Tryd.prog) w2 w.heap.size 38 38 _ #[.int .i32 0, .int .i64 0, .int .i64 0, .int .i64 0, .int .i64 0] hbk cell_info rfl (by simp [Value.oneCell'])
    have hr2 := setRow_blk (cells := #[.int .i32 0, .int .i64 0, .int .i64 0, .int .i64 0, .int .i64 0]) hbk
    have hB3 := Lib.hid (below_row HB.out (g := w.heap.size) (Nat.le_refl _) #[.int .i32 0, .int .i64 0, .int .i64 0, .int .i64 0, .int .i64 0])
    clear o2'
    generalize w2.setRow w.heap.size #[.int .i32 0, .int .i64 0, .int .i64 0, .int .i64 0, .int .i64 0] = w3 at *
    by_cases h1 : 0 ≤ x
    · have d1 : decide (0 ≤ x) = true := decide_eq_true h1
      have d2 : decide (x < (r.cells.length : Int)) = false := decide_eq_false (by omega)
      go_wp2_with (refine wpList_storeR rfl _ _ _ rfl hst rfl rfl ?_)
      (try simp only [Exit.inBlock, Exit.then])
      exact retRow rfl rfl rfl hr2 Tryd.underlying38 rfl (by exact cell_info) ⟨rfl, hB3.out⟩
    · have d1 : decide (0 ≤ x) = false := decide_eq_false h1
      go_wp2_with (refine wpList_storeR rfl _ _ _ rfl hst rfl rfl ?_)
      (try simp only [Exit.inBlock, Exit.then])
      exact retRow rfl rfl rfl hr2 Tryd.underlying38 rfl (by exact cell_info) ⟨rfl, hB3.out⟩
end Go.Proofs.YtjclgoiclbkgjaaDoor
