/- Package grid, texts laid together: G4 G5 G6 G7 G8. -/
import Derived.Test.YtjclgoiclbkgjaaGreatDoorK2
import Derived.Lib.SliceRun
import Derived.WalkSpells
import Derived.Test.YtjclgoiclbkgjaaGreatDoorShelf
import Derived.Lib.Builder
import Derived.Lib.FrozenHead
import Derived.Lib.RuneBytes
import Derived.Lib.UnsafeStr
/- Walks of package grid: New, sizes, row. -/
namespace Go.Proofs.YtjclgoiclbkgjaaGreatDoor
open Go.RowKit

theorem newGrid_no (cols rows hist : Int) (w : World) (h : mayG cols rows = false ∨ hist < 0 ∨ 2000 < hist) :
    Calls Tryz.prog 5 #[.int .i64 cols, .int .i64 rows, .int .i64 hist] w fun e w' => e = .returned (.tuple #[.pointer none, .int .i64 1]) ∧ w' = w := by
  have HM := Lib.hid (may_any cols rows w)
  cases hm : mayG cols rows
  · rw [hm] at HM
    go_enter Tryz.func5, Tryz.ntmps5
    go_wp2_with fail
    refine HM.out.mono ?_
    rintro e w2 ⟨rfl, rfl⟩
    go_wp2_with fail
    refine ret2w rfl rfl rfl rfl ⟨rfl, rfl⟩
  · rw [hm] at HM h
    by_cases h0 : hist < 0
    · have e0 : decide (hist < 0) = true := decide_eq_true h0
      go_enter Tryz.func5, Tryz.ntmps5
      go_wp2_with fail
      refine HM.out.mono ?_
      rintro e w2 ⟨rfl, rfl⟩
      go_wp2_with fail
      refine ret2w rfl rfl rfl rfl ⟨rfl, rfl⟩
    · have e0 : decide (hist < 0) = false := decide_eq_false h0
      have e1 : decide (2000 < hist) = true := decide_eq_true (by simp at h; omega)
      go_enter Tryz.func5, Tryz.ntmps5
      go_wp2_with fail
      refine HM.out.mono ?_
      rintro e w2 ⟨rfl, rfl⟩
      go_wp2_with fail
      refine ret2w rfl rfl rfl rfl ⟨rfl, rfl⟩
theorem newGrid_any (cols rows hist : Nat) (w : World) (h1 : 1 ≤ cols) (h2 : cols ≤ 250) (h3 : 1 ≤ rows) (h4 : rows ≤ 120) (h5 : hist ≤ 2000) :
    Calls Tryz.prog 5 #[.int .i64 cols, .int .i64 rows, .int .i64 hist] w fun e w' => ∃ p T, e = .returned (.tuple #[.pointer (some ⟨p, 0, none⟩), .int .i64 0]) ∧ Below w.heap.size w w' ∧ GM T p w' (newG cols rows hist) ∧ ∀ k, T k ≠ 0 → w.heap.size ≤ k := by
  have hm : mayG cols rows = true := by
    unfold mayG
    rw [decide_eq_true (by omega), decide_eq_true (by omega), decide_eq_true (by omega), decide_eq_true (by omega)]; rfl
  have HM := Lib.hid (may_any cols rows w)
  rw [hm] at HM
  have e0 : decide ((hist : Int) < 0) = false := decide_eq_false (by omega)
  have e1 : decide (2000 < (hist : Int)) = false := decide_eq_false (by omega)
  have e1' : decide (2000 < hist) = false := decide_eq_false (by omega)
  go_enter Tryz.func5, Tryz.ntmps5
  go_wp2_with fail
  refine HM.out.mono ?_
  rintro e w2 ⟨rfl, rfl⟩
  go_wp2_with fail
  refine (plain_any _).mono ?_
  rintro e w3 ⟨rfl, b3⟩
  have HB3 := Lib.hid b3
  clear b3
  go_wp2_with fail
  refine (fresh_any rows cols plainS w3 (by omega) (by omega)).mono ?_
  rintro e w4 ⟨v, L, rfl, b4, hL, hR⟩
  obtain ⟨va, vc, rfl⟩ := ownC_sl hR.own
  have HB4 := Lib.hid (HB3.out.trans (b4.mono HB3.out.size))
  have HR4 := Lib.hid hR
  have HL := Lib.hid hL
  have hs3 := HB3.out.size
  have hs4 := b4.size
  clear b4 hR hL
  go_wp2_with fail
  have hbk := blk_new w4 (.cells #[.int .i64 cols, .int .i64 hist, .slice va L.length vc, .slice none 0 0] 61)
  have hb5 := Below.alloc (Below.refl w4.heap.size w4) (Nat.le_refl _) (.cells #[.int .i64 cols, .int .i64 hist, .slice va L.length vc, .slice none 0 0] 61)
  have hr5 : RowsAt w3.heap.size (w4.alloc (.cells #[.int .i64 cols, .int .i64 hist, .slice va L.length vc, .slice none 0 0] 61)) (.slice va L.length vc) L :=
    ⟨ownC_below HR4.out.own hb5, fun x hx => ownC_below (HR4.out.cells x hx) hb5, HR4.out.nd, HR4.out.ap⟩
  refine ret2w rfl rfl rfl rfl ⟨w4.heap.size, _, rfl, HB4.out.trans (hb5.mono (by omega)), gat_new (g := newG cols rows hist) hr5 hbk ?_ ?_ (by omega) HL.out rfl (newG_wf h1 h2 h3 h4 h5), fun k hk => ?_⟩
  · intro e
    have := (ownC_lt HR4.out.own _ e).2
    omega
  · intro x hx e
    have := (ownC_lt (HR4.out.cells x hx) _ e).2
    omega
  · have := newT4_from (by omega) hr5.own k hk
    omega
theorem gm_cells {T : Nat → Nat} {p : Nat} {vr vo : Value} {Lr Lo : List (Value × Rw)} {w : World} {g : Gr} (h : GAt T p vr vo Lr Lo w g) :
    w.cell? ⟨p, 0, none⟩ = some (.int .i64 g.cols) ∧ w.cell? ⟨p, 1, none⟩ = some (.int .i64 g.limit) ∧ w.cell? ⟨p, 2, none⟩ = some vr ∧ w.cell? ⟨p, 3, none⟩ = some vo :=
  ⟨blk_cell h.blk 0, blk_cell h.blk 1, blk_cell h.blk 2, blk_cell h.blk 3⟩
theorem cols_any {T : Nat → Nat} {p : Nat} {w : World} {g : Gr} (h : GM T p w g) :
    Calls Tryz.prog 46 #[.pointer (some ⟨p, 0, none⟩)] w fun e w' => e = .returned (.int .i64 g.cols) ∧ w' = w := by
  obtain ⟨vr, vo, Lr, Lo, h⟩ := h
  obtain ⟨c0, c1, c2, c3⟩ := gm_cells h
  clear h
  go_enter Tryz.func46, Tryz.ntmps46
  go_wp2_with fail
  go_ret
  exact ⟨rfl, rfl⟩
theorem limit_any {T : Nat → Nat} {p : Nat} {w : World} {g : Gr} (h : GM T p w g) :
    Calls Tryz.prog 47 #[.pointer (some ⟨p, 0, none⟩)] w fun e w' => e = .returned (.int .i64 g.limit) ∧ w' = w := by
  obtain ⟨vr, vo, Lr, Lo, h⟩ := h
  obtain ⟨c0, c1, c2, c3⟩ := gm_cells h
  clear h
  go_enter Tryz.func47, Tryz.ntmps47
  go_wp2_with fail
  go_ret
  exact ⟨rfl, rfl⟩
theorem rowsN_any {T : Nat → Nat} {p : Nat} {w : World} {g : Gr} (h : GM T p w g) :
    Calls Tryz.prog 45 #[.pointer (some ⟨p, 0, none⟩)] w fun e w' => e = .returned (.int .i64 g.rows.length) ∧ w' = w := by
  obtain ⟨vr, vo, Lr, Lo, h⟩ := h
  obtain ⟨c0, c1, c2, c3⟩ := gm_cells h
  have hl := ownC_ln Tryz.underlying57 h.rr.own
  rw [(rows_len h).1] at hl
  clear h
  go_enter Tryz.func45, Tryz.ntmps45
  go_wp2_with fail
  go_ret
  exact ⟨rfl, rfl⟩
theorem history_any {T : Nat → Nat} {p : Nat} {w : World} {g : Gr} (h : GM T p w g) :
    Calls Tryz.prog 17 #[.pointer (some ⟨p, 0, none⟩)] w fun e w' => e = .returned (.int .i64 g.old.length) ∧ w' = w := by
  obtain ⟨vr, vo, Lr, Lo, h⟩ := h
  obtain ⟨c0, c1, c2, c3⟩ := gm_cells h
  have hl := ownC_ln Tryz.underlying57 h.ro.own
  rw [(rows_len h).2] at hl
  clear h
  go_enter Tryz.func17, Tryz.ntmps17
  go_wp2_with fail
  go_ret
  exact ⟨rfl, rfl⟩
end Go.Proofs.YtjclgoiclbkgjaaGreatDoor

/- Walks of package grid: row, Wrapped, Cell, Line. -/
namespace Go.Proofs.YtjclgoiclbkgjaaGreatDoor
open Go.RowKit

theorem row_field0 (x y : Value) (wx : World) : (Instr.field 77 (.agg #[x, y]) 0).run Tryz.prog wx = .ok x wx := by kernel_rfl
theorem row_field1 (x y : Value) (wx : World) : (Instr.field 77 (.agg #[x, y]) 1).run Tryz.prog wx = .ok y wx := by kernel_rfl
theorem ownC_row2 {w : World} {base b off n c : Nat} {L : List (Value × Rw)} (h : OwnC w base 2 (.slice (some ⟨b, off, none⟩) n c) n (rowVals L)) (k : Nat) (hk : k < L.length) :
    w.cell? ⟨b, off + k * 2, none⟩ = some L[k].1 ∧ w.cell? ⟨b, off + k * 2 + 1, none⟩ = some (.bool L[k].2.wrap) := by
  obtain ⟨e1, h2⟩ := h
  rcases h2 with ⟨e, _⟩ | ⟨b', off', c', e, hb, hbs, hnc, hcm, hcells, hxs⟩
  · simp at e
  · simp only [Value.slice.injEq, Option.some.injEq, Addr.mk.injEq] at e
    obtain ⟨⟨rfl, rfl, _⟩, _, rfl⟩ := e
    have key : ∀ i u, i < 2 → [L[k].1, Value.bool L[k].2.wrap][i]? = some u → w.cell? ⟨b, off + (k * 2 + i), none⟩ = some u := fun i u hi hu => hxs _ u (by rw [rowVals_at L k hk i hi]; exact hu)
    exact ⟨key 0 _ (by decide) rfl, key 1 _ (by decide) rfl⟩
theorem ownC_pos {w : World} {base size : Nat} {v : Value} {n : Nat} {xs : List Value} (h : OwnC w base size v n xs) (hn : 0 < n) : ∃ b off c, v = .slice (some ⟨b, off, none⟩) n c ∧ n ≤ c ∧ c ≤ maxLen := by
  rcases h.2 with ⟨_, h0⟩ | ⟨b, off, c, hv, _, _, h1, h2, _⟩
  · omega
  · exact ⟨b, off, c, hv, h1, h2⟩
theorem row_none {T : Nat → Nat} {p : Nat} {w : World} {g : Gr} (h : GM T p w g) (y : Int) (hy : ¬ (0 ≤ y ∧ y < (g.rows.length : Int)) ∧ ¬ (y < 0 ∧ -(g.old.length : Int) ≤ y)) :
    Calls Tryz.prog 50 #[.pointer (some ⟨p, 0, none⟩), .int .i64 y] w fun e w' => e = .returned (.agg #[.slice none 0 0, .bool false]) ∧ Below w.heap.size w w' := by
  obtain ⟨vr, vo, Lr, Lo, h0⟩ := h
  have hBz := Below.alloc (Below.refl w.heap.size w) (Nat.le_refl _) (.cells #[.slice none 0 0, .bool false] 77)
  have h := h0.mod (.of_below hBz) id id id (fun _ => id)
  obtain ⟨c0, c1, c2, c3⟩ := gm_cells h
  have hl := ownC_ln Tryz.underlying57 h.rr.own
  have ho := ownC_ln Tryz.underlying57 h.ro.own
  rw [(rows_len h).1] at hl
  rw [(rows_len h).2] at ho
  have w1 := h.wf.r2
  have w2 := h.wf.ol
  have w3 := h.wf.li
  clear h h0
  have hB := Below.alloc (Below.refl w.heap.size w) (Nat.le_refl _) (.cells #[.slice none 0 0, .bool false] 77)
  by_cases h0 : 0 ≤ y
  · have d1 : decide (0 ≤ y) = true := decide_eq_true h0
    have d2 : decide (y < (g.rows.length : Int)) = false := decide_eq_false (by omega)
    have d3 : decide (y < 0) = false := decide_eq_false (by omega)
    go_enter Tryz.func50, Tryz.ntmps50
    go_wp2_with fail
    (try simp only [Exit.inBlock, Exit.then])
    exact retRow rfl rfl rfl (blk_new _ _) Tryz.underlying77 rfl (by exact row_info) ⟨rfl, hB⟩
  · have d1 : decide (0 ≤ y) = false := decide_eq_false h0
    have d3 : decide (y < 0) = true := decide_eq_true (by omega)
    have d4 : decide (-(g.old.length : Int) ≤ y) = false := decide_eq_false (by omega)
    go_enter Tryz.func50, Tryz.ntmps50
    go_wp2_with fail
    (try simp only [Exit.inBlock, Exit.then])
    exact retRow rfl rfl rfl (blk_new _ _) Tryz.underlying77 rfl (by exact row_info) ⟨rfl, hB⟩
theorem row_some {T : Nat → Nat} {p : Nat} {w : World} {g : Gr} (h : GM T p w g) (k : Nat) (hk : k < g.rows.length) :
    Calls Tryz.prog 50 #[.pointer (some ⟨p, 0, none⟩), .int .i64 k] w fun e w' => ∃ v, e = .returned (.agg #[v, .bool (g.rows.getD k noR).wrap]) ∧ Below w.heap.size w w' ∧ OwnC w 0 5 v (g.rows.getD k noR).cells.length (cvals (g.rows.getD k noR).cells) := by
  obtain ⟨vr, vo, Lr, Lo, h0⟩ := h
  have hBz := Below.alloc (Below.refl w.heap.size w) (Nat.le_refl _) (.cells #[.slice none 0 0, .bool false] 77)
  have h := h0.mod (.of_below hBz) id id id (fun _ => id)
  obtain ⟨c0, c1, c2, c3⟩ := gm_cells h
  have hlen := (rows_len h).1
  have w1 := h.wf.r2
  obtain ⟨b, off, c, rfl, hnc, hcm⟩ := ownC_pos h.rr.own (by omega)
  have hkl : k < Lr.length := by omega
  obtain ⟨r0, r1⟩ := ownC_row2 h.rr.own k hkl
  have hx : (g.rows.getD k noR) = Lr[k].2 := by
    rw [← h.er, List.getD_eq_getElem?_getD, List.getElem?_map, List.getElem?_eq_getElem hkl]; rfl
  have hown := (h0.ca Lr[k] (List.mem_append_left _ (List.getElem_mem hkl))).own
  rw [hx]
  generalize Lr[k] = x at *
  obtain ⟨xv, xr⟩ := x
  dsimp only at r0 r1 hown hx ⊢
  have HO := Lib.hid hown
  obtain ⟨va, vc, rfl⟩ := ownC_sl hown
  have hl := ownC_ln Tryz.underlying57 h.rr.own
  have hix := idx_at (P := Tryz.prog) (size := 2) Tryz.underlying57 row_info b off Lr.length c k hkl
  clear h h0 hown
  have d1 : decide (0 ≤ (k : Int)) = true := decide_eq_true (by omega)
  have d2 : decide ((k : Int) < (Lr.length : Int)) = true := decide_eq_true (by omega)
  have d2' : decide (k < Lr.length) = true := decide_eq_true hkl
  have hB := Below.alloc (Below.refl w.heap.size w) (Nat.le_refl _) (.cells #[.slice va xr.cells.length vc, .bool xr.wrap] 77)
  go_enter Tryz.func50, Tryz.ntmps50
  go_wp2_with fail
  (try simp only [Exit.inBlock, Exit.then])
  exact retRow rfl rfl rfl (blk_new _ _) Tryz.underlying77 rfl (by exact row_info) ⟨_, rfl, hB, HO.out⟩
set_option maxRecDepth 100000 in
theorem row_old {T : Nat → Nat} {p : Nat} {w : World} {g : Gr} (h : GM T p w g) (k : Nat) (hk : k < g.old.length) :
    Calls Tryz.prog 50 #[.pointer (some ⟨p, 0, none⟩), .int .i64 ((k : Int) - g.old.length)] w fun e w' => ∃ v, e = .returned (.agg #[v, .bool (g.old.getD k noR).wrap]) ∧ Below w.heap.size w w' ∧ OwnC w 0 5 v (g.old.getD k noR).cells.length (cvals (g.old.getD k noR).cells) := by
  obtain ⟨vr, vo, Lr, Lo, h0⟩ := h
  have hBz := Below.alloc (Below.refl w.heap.size w) (Nat.le_refl _) (.cells #[.slice none 0 0, .bool false] 77)
  have h := h0.mod (.of_below hBz) id id id (fun _ => id)
  obtain ⟨c0, c1, c2, c3⟩ := gm_cells h
  have hlen := (rows_len h).2
  have w1 := h.wf.r2
  have w2 := h.wf.ol
  have w3 := h.wf.li
  obtain ⟨b, off, c, rfl, hnc, hcm⟩ := ownC_pos h.ro.own (by omega)
  have hkl : k < Lo.length := by omega
  obtain ⟨r0, r1⟩ := ownC_row2 h.ro.own k hkl
  have hx : (g.old.getD k noR) = Lo[k].2 := by
    rw [← h.eo, List.getD_eq_getElem?_getD, List.getElem?_map, List.getElem?_eq_getElem hkl]; rfl
  have hown := (h0.ca Lo[k] (List.mem_append_right _ (List.getElem_mem hkl))).own
  rw [hx]
  generalize Lo[k] = x at *
  obtain ⟨xv, xr⟩ := x
  dsimp only at r0 r1 hown hx ⊢
  have HO := Lib.hid hown
  obtain ⟨va, vc, rfl⟩ := ownC_sl hown
  have hl := ownC_ln Tryz.underlying57 h.ro.own
  have hix := idx_at (P := Tryz.prog) (size := 2) Tryz.underlying57 row_info b off Lo.length c k hkl
  rw [← hlen]
  rw [← hlen] at w2
  clear h h0 hown hlen
  have hy : (Lo.length : Int) + ((k : Int) - (Lo.length : Int)) = (k : Int) := by omega
  have d1 : decide (0 ≤ (k : Int) - (Lo.length : Int)) = false := decide_eq_false (by omega)
  have d3 : decide ((k : Int) - (Lo.length : Int) < 0) = true := decide_eq_true (by omega)
  have d4 : decide (-(Lo.length : Int) ≤ (k : Int) - (Lo.length : Int)) = true := decide_eq_true (by omega)
  have hwk : IntKind.i64.wrap (k : Int) = (k : Int) := wrap64_id _ (by omega) (by omega)
  have hB := Lib.hid (Below.alloc (Below.refl w.heap.size w) (Nat.le_refl _) (.cells #[.slice va xr.cells.length vc, .bool xr.wrap] 77))
  go_enter Tryz.func50, Tryz.ntmps50
  go_upto_region 4 with fail
  have hbk0 := blk_new w (.cells #[.slice none 0 0, .bool false] 77)
  generalize w.alloc (.cells #[.slice none 0 0, .bool false] 77) = wa at *
  go_still_tail 13, (by kernel_rfl)
  change wpList _ _ _ _ _ wa.drew
  have hbk := blk_drew hbk0
  have hBd := hBz.drew
  generalize hwd : wa.drew = wd at *
  have hst := run_storeVar_row (P := Tryz.prog) wd w.heap.size 77 77 _ #[.slice va xr.cells.length vc, .bool xr.wrap] hbk row_info rfl (by simp [Value.oneCell'])
  have hr2 := setRow_blk (cells := #[.slice va xr.cells.length vc, .bool xr.wrap]) hbk
  have hB3 := Lib.hid (below_row hBd (g := w.heap.size) (Nat.le_refl _) #[.slice va xr.cells.length vc, .bool xr.wrap])
  generalize wd.setRow w.heap.size #[.slice va xr.cells.length vc, .bool xr.wrap] = w3 at *
  go_wp2_with (refine wpList_storeR rfl _ _ _ rfl hst rfl rfl ?_)
  (try simp only [Exit.inBlock, Exit.then])
  exact retRow rfl rfl rfl hr2 Tryz.underlying77 rfl (by exact row_info) ⟨_, rfl, hB3.out, HO.out⟩
theorem row_any {T : Nat → Nat} {p : Nat} {w : World} {g : Gr} (h : GM T p w g) (y : Int) :
    Calls Tryz.prog 50 #[.pointer (some ⟨p, 0, none⟩), .int .i64 y] w fun e w' => ∃ v, e = .returned (.agg #[v, .bool (g.row y).wrap]) ∧ Below w.heap.size w w' ∧ OwnC w 0 5 v (g.row y).cells.length (cvals (g.row y).cells) := by
  by_cases h1 : 0 ≤ y ∧ y < (g.rows.length : Int)
  · obtain ⟨k, rfl⟩ : ∃ k : Nat, y = (k : Int) := ⟨y.toNat, by omega⟩
    have e : g.row k = g.rows.getD k noR := by unfold Gr.row; rw [if_pos h1, Int.toNat_natCast]
    rw [e]
    exact row_some h k (by omega)
  · by_cases h2 : y < 0 ∧ -(g.old.length : Int) ≤ y
    · obtain ⟨k, hk⟩ : ∃ k : Nat, (g.old.length : Int) + y = (k : Int) := ⟨((g.old.length : Int) + y).toNat, by omega⟩
      have e : g.row y = g.old.getD k noR := by unfold Gr.row; rw [if_neg h1, if_pos h2, hk, Int.toNat_natCast]
      rw [e, show y = (k : Int) - g.old.length by omega]
      exact row_old h k (by omega)
    · have e : g.row y = noR := by unfold Gr.row; rw [if_neg h1, if_neg h2]
      rw [e]
      refine (row_none h y ⟨h1, h2⟩).mono ?_
      rintro e w' ⟨rfl, b⟩
      exact ⟨_, rfl, b, ownC_nil _ _ _⟩
theorem own_empty (w : World) (e : TypeId) (size : Nat) : OwnC (w.alloc (.cells #[] e)) w.heap.size size (.slice (some ⟨w.heap.size, 0, none⟩) 0 0) 0 [] :=
  ⟨by simp, .inr ⟨w.heap.size, 0, 0, rfl, Nat.le_refl _, by simp, Nat.le_refl _, Nat.zero_le _, fun j hj => by omega, fun j u hu => by simp at hu⟩⟩
set_option maxRecDepth 100000 in
theorem wrapped_any {T : Nat → Nat} {p : Nat} {w : World} {g : Gr} (h : GM T p w g) (y : Int) :
    Calls Tryz.prog 16 #[.pointer (some ⟨p, 0, none⟩), .int .i64 y] w fun e w' => e = .returned (.bool (g.row y).wrap) ∧ Below w.heap.size w w' := by
  have HR := Lib.hid (row_any h y)
  go_enter Tryz.func16, Tryz.ntmps16
  go_wp2_with fail
  refine HR.out.mono ?_
  rintro e w2 ⟨v, rfl, b2, o2⟩
  have HB := Lib.hid b2
  clear b2
  obtain ⟨va, vc, rfl⟩ := ownC_sl o2
  clear o2
  have hf := row_field1 (.slice va (g.row y).cells.length vc) (.bool (g.row y).wrap)
  go_wp2_with fail
  go_ret
  exact ⟨rfl, HB.out⟩
set_option maxRecDepth 100000 in
theorem cloneC_any (l : List Cel) (v : Value) (w : World) (h : OwnC w 0 5 v l.length (cvals l)) (hl : l.length ≤ 100000) :
    Calls Tryz.prog 49 #[v] w fun e w' => ∃ v', e = .returned v' ∧ Below w.heap.size w w' ∧ OwnC w' w.heap.size 5 v' l.length (cvals l) := by
  rcases Nat.eq_zero_or_pos l.length with h0 | h0
  · have hnil : l = [] := List.eq_nil_of_length_eq_zero h0
    subst hnil
    obtain ⟨va, vc, rfl⟩ := ownC_sl h
    rw [List.length_nil] at h ⊢
    have hq := fun (wx : World) => Lib.run_eql_slice_nil (P := Tryz.prog) wx 42 38 va 0 vc 0 0 Tryz.underlying42
    cases va with
    | none =>
      clear h
      go_enter Tryz.func49, Tryz.ntmps49
      go_wp2_with fail
      exact ret1v rfl rfl rfl ⟨_, rfl, Below.refl _ _, ownC_nil _ _ _⟩
    | some a =>
      have HR := Lib.hid (ownC_reads h)
      clear h
      go_enter Tryz.func49, Tryz.ntmps49
      go_wp2_with (at_builtin; refine held ?_)
      unfold Held
      refine wpList_appC cells_elem rfl rfl w.heap.size (own_empty w 38 5) rfl (reads_kept HR.out (World.grownBy_alloc w _ none) (by intro _ _ e; simp at e)) rfl (cvals_one []) (by decide) (by decide) (by simp) ?_
      intro v6 w6 o6 g6
      have HB6 := Lib.hid ((Below.alloc (Below.refl w.heap.size w) (Nat.le_refl _) (.cells #[] 38)).grown g6 (by simp) (by intro q hq; simp [Value.ownBlock] at hq; omega))
      have HO6 := Lib.hid o6
      clear o6 g6
      go_wp2_with fail
      exact ret1v rfl rfl rfl ⟨_, rfl, HB6.out, HO6.out⟩
  · obtain ⟨b, off, c, rfl, hnc, hcm⟩ := ownC_pos h h0
    have hq := fun (wx : World) => Lib.run_eql_slice_nil (P := Tryz.prog) wx 42 38 (some ⟨b, off, none⟩) l.length c 0 0 Tryz.underlying42
    have HR := Lib.hid (ownC_reads h)
    clear h
    go_enter Tryz.func49, Tryz.ntmps49
    go_wp2_with (at_builtin; refine held ?_)
    unfold Held
    refine wpList_appC cells_elem rfl rfl w.heap.size (own_empty w 38 5) rfl (reads_kept HR.out (World.grownBy_alloc w _ none) (by intro _ _ e; simp at e)) rfl (cvals_one l) (by unfold maxLen; omega) (by omega) (by simp) ?_
    intro v6 w6 o6 g6
    rw [Nat.zero_add, List.nil_append] at o6
    have HB6 := Lib.hid ((Below.alloc (Below.refl w.heap.size w) (Nat.le_refl _) (.cells #[] 38)).grown g6 (by simp) (by intro q hq; simp [Value.ownBlock] at hq; omega))
    have HO6 := Lib.hid o6
    clear o6 g6
    go_wp2_with fail
    exact ret1v rfl rfl rfl ⟨_, rfl, HB6.out, HO6.out⟩
theorem line_any {T : Nat → Nat} {p : Nat} {w : World} {g : Gr} (h : GM T p w g) (y : Int) (hl : (g.row y).cells.length ≤ 1000) :
    Calls Tryz.prog 9 #[.pointer (some ⟨p, 0, none⟩), .int .i64 y] w fun e w' => ∃ v, e = .returned v ∧ Below w.heap.size w w' ∧ OwnC w' w.heap.size 5 v (g.row y).cells.length (cvals (g.row y).cells) := by
  have HR := Lib.hid (row_any h y)
  go_enter Tryz.func9, Tryz.ntmps9
  go_wp2_with fail
  refine HR.out.mono ?_
  rintro e w2 ⟨v, rfl, b2, o2⟩
  have HB := Lib.hid b2
  have HC := Lib.hid (cloneC_any (g.row y).cells v w2 (ownC_below o2 b2) (by omega))
  clear b2
  obtain ⟨va, vc, rfl⟩ := ownC_sl o2
  clear o2
  have hf := row_field0 (.slice va (g.row y).cells.length vc) (.bool (g.row y).wrap)
  go_wp2_with fail
  refine HC.out.mono ?_
  rintro e w3 ⟨v3, rfl, b3, o3⟩
  have HB3 := Lib.hid (HB.out.trans (b3.mono HB.out.size))
  have HO3 := Lib.hid (ownC_mono o3 HB.out.size)
  clear b3 o3
  go_wp2_with fail
  exact ret1v rfl rfl rfl ⟨_, rfl, HB3.out, HO3.out⟩
theorem wf_row {g : Gr} (h : g.WF) (y : Int) : (g.row y).cells.length ≤ 250 ∧ ∀ c ∈ (g.row y).cells, c.Ok := by
  have key : ∀ r, r ∈ g.rows ++ g.old → r.cells.length ≤ 250 ∧ ∀ c ∈ r.cells, c.Ok := fun r hr => by
    obtain ⟨e1, e2⟩ := h.ce r hr
    have := h.c2
    exact ⟨by omega, e2⟩
  have hget : ∀ (l : List Rw) (k : Nat), k < l.length → l.getD k noR ∈ l := fun l k hk => by
    rw [List.getD_eq_getElem?_getD, List.getElem?_eq_getElem hk]; exact List.getElem_mem hk
  unfold Gr.row
  split
  · exact key _ (List.mem_append_left _ (hget _ _ (by omega)))
  · split
    · exact key _ (List.mem_append_right _ (hget _ _ (by omega)))
    · exact ⟨by show 0 ≤ 250; omega, fun c hc => by simp [noR] at hc⟩
set_option maxRecDepth 100000 in
theorem cell_any {T : Nat → Nat} {p : Nat} {w : World} {g : Gr} (h : GM T p w g) (x y : Int) :
    Calls Tryz.prog 13 #[.pointer (some ⟨p, 0, none⟩), .int .i64 x, .int .i64 y] w fun e w' => e = .returned (g.cell x y).val ∧ Below w.heap.size w w' := by
  have hBz := Below.alloc (Below.refl w.heap.size w) (Nat.le_refl _) (.cells #[.int .i32 0, .int .i64 0, .int .i64 0, .int .i64 0, .int .i64 0] 38)
  have hbk0 := blk_new w (.cells #[.int .i32 0, .int .i64 0, .int .i64 0, .int .i64 0, .int .i64 0] 38)
  have hlen := (wf_row h.wf y).1
  have HR := Lib.hid (row_any (h.below hBz) y)
  have HC := Lib.hid (show g.cell x y = if 0 ≤ x ∧ x < ((g.row y).cells.length : Int) then (g.row y).cells.getD x.toNat noC else noC from rfl)
  generalize g.row y = r at *
  generalize g.cell x y = cc at *
  unfold Cel.val
  go_enter Tryz.func13, Tryz.ntmps13
  go_wp2_with fail
  refine HR.out.mono ?_
  rintro e w2 ⟨v, rfl, b2, o2⟩
  have hbk := blk_below hbk0 b2 (by simp)
  have HB := Lib.hid (hBz.trans (b2.mono (by simp)))
  have o2' := ownC_below o2 b2
  clear b2 o2 hBz hbk0
  obtain ⟨va, vc, rfl⟩ := ownC_sl o2'
  have hf := row_field0 (.slice va r.cells.length vc) (.bool r.wrap)
  by_cases h0 : 0 ≤ x ∧ x < (r.cells.length : Int)
  · obtain ⟨k, rfl⟩ : ∃ k : Nat, x = (k : Int) := ⟨x.toNat, by omega⟩
    have e := HC.out
    rw [if_pos h0, Int.toNat_natCast] at e
    obtain ⟨b, off, c, e2, hnc, hcm⟩ := ownC_pos o2' (by omega)
    simp only [Value.slice.injEq] at e2
    obtain ⟨rfl, _, rfl⟩ := e2
    obtain ⟨c0, c1, c2, c3, c4⟩ := ownC_cel o2' k (by omega) rfl
    have hix := idx_at (P := Tryz.prog) (size := 5) Tryz.underlying42 cell_info b off r.cells.length vc k (by omega)
    rw [← e] at c0 c1 c2 c3 c4
    obtain ⟨cr, cw, cs⟩ := cc
    dsimp only at c0 c1 c2 c3 c4 ⊢
    have d1 : decide (0 ≤ (k : Int)) = true := decide_eq_true (by omega)
    have d2 : decide ((k : Int) < (r.cells.length : Int)) = true := decide_eq_true (by omega)
    have d2' : decide (k < r.cells.length) = true := decide_eq_true (by omega)
    have hst := run_storeVar_row (P := Tryz.prog) w2 w.heap.size 38 38 _ #[.int .i32 cr, .int .i64 cw, .int .i64 cs.fg, .int .i64 cs.bg, .int .i64 cs.attr] hbk cell_info rfl (by simp [Value.oneCell'])
    have hr2 := setRow_blk (cells := #[.int .i32 cr, .int .i64 cw, .int .i64 cs.fg, .int .i64 cs.bg, .int .i64 cs.attr]) hbk
    have hB3 := Lib.hid (below_row HB.out (g := w.heap.size) (Nat.le_refl _) #[.int .i32 cr, .int .i64 cw, .int .i64 cs.fg, .int .i64 cs.bg, .int .i64 cs.attr])
    clear o2' e
    generalize w2.setRow w.heap.size #[.int .i32 cr, .int .i64 cw, .int .i64 cs.fg, .int .i64 cs.bg, .int .i64 cs.attr] = w3 at *
    go_wp2_with (refine wpList_storeR rfl _ _ _ rfl hst rfl rfl ?_)
    (try simp only [Exit.inBlock, Exit.then])
    exact retRow rfl rfl rfl hr2 Tryz.underlying38 rfl (by exact cell_info) ⟨rfl, hB3.out⟩
  · have e := HC.out
    rw [if_neg h0] at e
    subst e
    have hst := run_storeVar_row (P := Tryz.prog) w2 w.heap.size 38 38 _ #[.int .i32 0, .int .i64 0, .int .i64 0, .int .i64 0, .int .i64 0] hbk cell_info rfl (by simp [Value.oneCell'])
    have hr2 := setRow_blk (cells := #[.int .i32 0, .int .i64 0, .int .i64 0, .int .i64 0, .int .i64 0]) hbk
    have hB3 := Lib.hid (below_row HB.out (g := w.heap.size) (Nat.le_refl _) #[.int .i32 0, .int .i64 0, .int .i64 0, .int .i64 0, .int .i64 0])
    clear o2'
    generalize w2.setRow w.heap.size #[.int .i32 0, .int .i64 0, .int .i64 0, .int .i64 0, .int .i64 0] = w3 at *
    by_cases h1 : 0 ≤ x
    · have d1 : decide (0 ≤ x) = true := decide_eq_true h1
      have d2 : decide (x < (r.cells.length : Int)) = false := decide_eq_false (by omega)
      go_wp2_with (refine wpList_storeR rfl _ _ _ rfl hst rfl rfl ?_)
      (try simp only [Exit.inBlock, Exit.then])
      exact retRow rfl rfl rfl hr2 Tryz.underlying38 rfl (by exact cell_info) ⟨rfl, hB3.out⟩
    · have d1 : decide (0 ≤ x) = false := decide_eq_false h1
      go_wp2_with (refine wpList_storeR rfl _ _ _ rfl hst rfl rfl ?_)
      (try simp only [Exit.inBlock, Exit.then])
      exact retRow rfl rfl rfl hr2 Tryz.underlying38 rfl (by exact cell_info) ⟨rfl, hB3.out⟩
end Go.Proofs.YtjclgoiclbkgjaaGreatDoor

/- Walks of package grid: Text; strings.Builder's WriteRune. -/
namespace Go.Proofs.YtjclgoiclbkgjaaGreatDoor
open Go.RowKit

theorem bld_info : (Tryz.prog.info? 85).map (·.size) = some 2 := by kernel_rfl
theorem bld_lies : liesAt Tryz.prog Tryz.prog.depth 85 (2 / Tryz.prog.cellsOf 85) 0 85 1 = true := by kernel_rfl
set_option maxHeartbeats 1000000 in
set_option maxRecDepth 100000 in
theorem check_used (b : Nat) (w : World) (h0 : w.cell? ⟨b, 0, none⟩ = some (.pointer (some ⟨b, 0, none⟩))) :
    Calls Tryz.prog 79 #[.pointer (some ⟨b, 0, none⟩)] w fun e w' => e = .returned (.tuple #[]) ∧ w' = w := by
  obtain ⟨j, hj, _⟩ := Option.map_eq_some_iff.1 bld_info
  have hne := fun (wx : World) => Lib.run_neq_ptr_same (P := Tryz.prog) (w := wx) ⟨b, 0, none⟩ Tryz.underlying82 hj
  go_enter Tryz.func79, Tryz.ntmps79
  go_wp2_with fail
  go_end0
  exact ⟨rfl, rfl⟩
set_option maxHeartbeats 1000000 in
set_option maxRecDepth 100000 in
theorem check_fresh (b : Nat) (w : World) (h0 : w.cell? ⟨b, 0, none⟩ = some (.pointer none)) (hsh : w.shape? b = some (85, 2)) (hfz : w.frozen? ⟨b, 0, none⟩ = false) :
    Calls Tryz.prog 79 #[.pointer (some ⟨b, 0, none⟩)] w fun e w' => e = .returned (.tuple #[]) ∧ w' = w.setCell ⟨b, 0, none⟩ (.pointer (some ⟨b, 0, none⟩)) := by
  obtain ⟨j, hj, hjs⟩ := Option.map_eq_some_iff.1 bld_info
  have hto := Lib.run_to_unsafe (P := Tryz.prog) w ⟨b, 0, none⟩ Tryz.underlying82 Tryz.underlying125 hj (by rw [hjs]; decide) hsh (Nat.zero_lt_succ 1)
  have hfr := Lib.run_from_unsafe (P := Tryz.prog) w ⟨b, 0, none⟩ Tryz.underlying125 Tryz.underlying82 hj hsh bld_lies
  go_enter Tryz.func79, Tryz.ntmps79
  go_wp2_with fail
  rw [run_callFunc_extern Tryz.func90 (by kernel_rfl) (by kernel_rfl) (by kernel_rfl) (e := Extern.AbiNoEscape.same) (by kernel_rfl)]
  rw [Lib.run_noEscape]
  simp only [Result.andThen]
  rw [Oper.upon_value]
  go_wp2_with fail
  go_end0
  exact ⟨rfl, rfl⟩
theorem check_any (B b : Nat) (bs : List Value) (w : World) (h : Lib.IsBuilderF 85 5 B b bs w) :
    Calls Tryz.prog 79 #[.pointer (some ⟨b, 0, none⟩)] w fun e w' => e = .returned (.tuple #[]) ∧ Lib.BuilderAtF 85 5 B b (.pointer (some ⟨b, 0, none⟩)) bs w' ∧ Below B w w' := by
  rcases h with h | h
  · refine (check_fresh b w h.cell0 h.shape h.frozen0).mono ?_
    rintro e w' ⟨rfl, rfl⟩
    exact ⟨rfl, h.used _, (Below.refl B w).setCell (p := ⟨b, 0, none⟩) h.1 _⟩
  · refine (check_used b w h.cell0).mono ?_
    rintro e w' ⟨rfl, rfl⟩
    exact ⟨rfl, h, Below.refl B _⟩
set_option maxHeartbeats 2000000 in
set_option maxRecDepth 100000 in
theorem writeRune_any (B b : Nat) (bs : List Value) (r : Int) (hr0 : -2147483648 ≤ r) (hr1 : r ≤ 2147483647) (w : World) (h : Lib.IsBuilderF 85 5 B b bs w) (hlen : bs.length + 4 ≤ 140737488355328) (hBw : B ≤ w.heap.size) :
    Calls Tryz.prog 54 #[.pointer (some ⟨b, 0, none⟩), .int .i32 r] w fun e w' => (∃ n, e = .returned (.tuple #[.int .i64 n, .nilIface])) ∧ Lib.IsBuilderF 85 5 B b (bs ++ Lib.runeCells r) w' ∧ Below B w w' := by
  have hk4 := Lib.runeCells_le r
  have HC := Lib.hid (check_any B b bs w h)
  clear h
  go_enter Tryz.func54, Tryz.ntmps54
  go_wp2_with fail
  refine HC.out.mono ?_
  rintro e w1 ⟨rfl, h1, hb1⟩
  obtain ⟨hB, v, hbk, hown, hne⟩ := h1
  obtain ⟨ao, cap, rfl⟩ : ∃ ao cap, v = .slice ao bs.length cap := by
    rcases hown.2 with ⟨hv, h0⟩ | ⟨g, cap, cur, fz, hv, _⟩
    · exact ⟨none, 0, by rw [hv, h0]⟩
    · exact ⟨_, _, hv⟩
  have c0 : w1.cell? ⟨b, 0, none⟩ = some (.pointer (some ⟨b, 0, none⟩)) := blk_cell hbk 0
  have c1 : w1.cell? ⟨b, 1, none⟩ = some (.slice ao bs.length cap) := blk_cell hbk 1
  have HA := Lib.hid (Tryz.utf8_AppendRune_row B _ bs.length bs r hr0 hr1 w1 hown hlen (by have := hb1.size; omega))
  go_wp2_with fail
  refine HA.out.mono ?_
  rintro e w2 ⟨v', rfl, hown', o, hgrow⟩
  have hlt := heap_lt hbk
  have hb2 : w2.heap[b]? = some (.cells #[.pointer (some ⟨b, 0, none⟩), .slice ao bs.length cap] 85 (0, 0)) := by
    rw [hgrow.block b (by simp; omega) (fun e => hne e.symm), heap_alloc_old w1 _ hlt]
    exact hbk
  have d0 : w2.cell? ⟨b, 0, none⟩ = some (.pointer (some ⟨b, 0, none⟩)) := blk_cell hb2 0
  have d1 : w2.cell? ⟨b, 1, none⟩ = some (.slice ao bs.length cap) := blk_cell hb2 1
  have f1 : w2.frozen? ⟨b, 1, none⟩ = false := blk_free hb2 1
  obtain ⟨g, cap', rfl⟩ : ∃ g cap', v' = .slice (some ⟨g, 0, none⟩) (bs.length + (Lib.runeCells r).length) cap' := by
    rcases hown'.2 with ⟨_, h0⟩ | ⟨g, cap', cur, fz, hv, _⟩
    · omega
    · exact ⟨g, cap', hv⟩
  have HP := Lib.hid (Lib.BuilderAtF.put (T := 85) (e := 5) hB hb2 (bs' := bs ++ Lib.runeCells r) (by simpa using hown') (by decide))
  have HB := Lib.hid (((hb1.alloc (by have := hb1.size; omega) o).grown hgrow (by have := hb1.size; simp; omega) (fun k hk => (hown.lt k hk).1)).setCell (p := ⟨b, 1, none⟩) hB (.slice (some ⟨g, 0, none⟩) (bs.length + (Lib.runeCells r).length) cap'))
  clear HC HA hown hown' hgrow hb1 hbk
  generalize hw3 : w2.setCell ⟨b, 1, none⟩ (.slice (some ⟨g, 0, none⟩) (bs.length + (Lib.runeCells r).length) cap') = w3 at *
  have e1 : w3.cell? ⟨b, 1, none⟩ = some (.slice (some ⟨g, 0, none⟩) (bs.length + (Lib.runeCells r).length) cap') := by
    rw [← hw3]; exact World.cell?_setCell_same' w2 _ _ (by rw [d1]; rfl)
  go_wp2_with fail
  refine ret2w rfl rfl rfl rfl ⟨⟨_, rfl⟩, .inr HP.out, HB.out⟩
end Go.Proofs.YtjclgoiclbkgjaaGreatDoor

/- Walks of package grid: Text. -/
namespace Go.Proofs.YtjclgoiclbkgjaaGreatDoor
open Go.RowKit

def cellsText (l : List Cel) : List UInt8 := l.flatMap fun c => if 0 < c.width then Lib.encodeRune c.rune else []
def textL (l : List Cel) : List UInt8 := cellsText (trimL l)
theorem trim_snoc (l : List Cel) (c : Cel) : trimL (l ++ [c]) = if c.rune == 32 then trimL l else l ++ [c] := by
  unfold trimL
  rw [List.reverse_append, List.reverse_singleton, List.singleton_append, List.dropWhile_cons]
  split
  · rfl
  · rw [List.reverse_cons, List.reverse_reverse]
theorem take_last (l : List Cel) (k : Nat) (h : k < l.length) : l.take (k + 1) = l.take k ++ [l.getD k noC] := take_succ_getD l noC k h
theorem byteCells_app (a b : List UInt8) : Lib.byteCells (a ++ b) = Lib.byteCells a ++ Lib.byteCells b := by simp [Lib.byteCells]
theorem cellsText_snoc (l : List Cel) (c : Cel) : cellsText (l ++ [c]) = cellsText l ++ (if 0 < c.width then Lib.encodeRune c.rune else []) := by
  simp [cellsText]
theorem enc4 (r : Int) : (Lib.byteCells (Lib.encodeRune r)).length ≤ 4 := by rw [Lib.byteCells_encodeRune]; exact (Lib.runeCells_le r).2
theorem cellsText_le (l : List Cel) : (Lib.byteCells (cellsText l)).length ≤ 4 * l.length := by
  induction l with
  | nil => simp [cellsText, Lib.byteCells]
  | cons c l ih =>
    have e : cellsText (c :: l) = (if 0 < c.width then Lib.encodeRune c.rune else []) ++ cellsText l := rfl
    rw [e, byteCells_app, List.length_append, List.length_cons]
    have := enc4 c.rune
    split
    · omega
    · simp [Lib.byteCells] at ih ⊢; omega
theorem bld_alloc {T e : TypeId} {B b : Nat} {bs : List Value} {w : World} (h : Lib.IsBuilderF T e B b bs w) (o : Obj) : Lib.IsBuilderF T e B b bs (w.alloc o) := h.elim (fun x => .inl (x.alloc o)) (fun x => .inr (x.alloc o))
set_option maxHeartbeats 4000000 in
set_option maxRecDepth 100000 in
theorem text_any {T : Nat → Nat} {p : Nat} {w : World} {g : Gr} (h : GM T p w g) (y : Int) :
    Calls Tryz.prog 12 #[.pointer (some ⟨p, 0, none⟩), .int .i64 y] w fun e w' => e = .returned (.string ⟨(textL (g.row y).cells).toArray⟩) ∧ Below w.heap.size w w' := by
  have HW := Lib.hid (wf_row h.wf y)
  have HR := Lib.hid (row_any h y)
  clear h
  generalize g.row y = r at *
  obtain ⟨l, wrap⟩ := r
  dsimp only at HW HR ⊢
  go_enter Tryz.func12, Tryz.ntmps12
  go_wp2_with fail
  refine HR.out.mono ?_
  rintro e w2 ⟨v, rfl, b2, o2⟩
  have HB2 := Lib.hid b2
  have o2' := ownC_below o2 b2
  clear b2 o2
  obtain ⟨va, vc, rfl⟩ := ownC_sl o2'
  have hln := HW.out.1
  have hnc : l.length ≤ vc := by
    rcases o2'.2 with ⟨e, h0⟩ | ⟨_, _, _, e, _, _, h1, _⟩
    · omega
    · simp only [Value.slice.injEq] at e; omega
  have HO := Lib.hid o2'
  clear o2'
  have hf := row_field0 (.slice va l.length vc) (.bool wrap)
  go_wp2_with fail
  clear hf
  go_loopw [5] (fun sv wr => ∃ k : Nat, k ≤ l.length ∧ sv = .slice va k vc ∧ wr = w2 ∧ Hid (trimL (l.take k) = trimL l)) (fun sv _ => match sv with | .slice _ k _ => k | _ => 0)
  case atStart => exact ⟨l.length, Nat.le_refl _, rfl, rfl, Lib.hid (by rw [List.take_length])⟩
  case round =>
    obtain ⟨k, hk, rfl, hw, ht⟩ := hrel
    have hw' := hw.symm
    subst hw'
    have HT := Lib.hid ht.out
    clear ht
    by_cases hstop : 0 < k ∧ (l.getD (k - 1) noC).rune = 32
    · obtain ⟨b, off, c, e2, _, _⟩ := ownC_pos HO.out (by omega)
      simp only [Value.slice.injEq] at e2
      obtain ⟨rfl, _, rfl⟩ := e2
      obtain ⟨c0, _⟩ := ownC_cel HO.out (k - 1) (by omega) rfl
      rw [hstop.2] at c0
      have hix := idx_at (P := Tryz.prog) (size := 5) Tryz.underlying42 cell_info b off k vc (k - 1) (by omega)
      rw [show ((k - 1 : Nat) : Int) = (k : Int) - 1 by omega] at hix
      have hsl := slice_h (P := Tryz.prog) (size := 5) Tryz.underlying42 cell_info (some ⟨b, off, none⟩) k vc (k - 1) (by omega)
      rw [show ((k - 1 : Nat) : Int) = (k : Int) - 1 by omega] at hsl
      have d1 : decide (0 < (k : Int)) = true := decide_eq_true (by omega)
      have d1' : decide (0 < k) = true := decide_eq_true (by omega)
      go_wp2_with fail
      go_roundw
      case rel =>
        refine ⟨k - 1, by omega, rfl, by trivial, ?_⟩
        have := HT.out
        rw [show k = (k - 1) + 1 by omega, take_last _ _ (by omega), trim_snoc, hstop.2] at this
        exact this
      case measure => simp only []; omega
    · have HE := Lib.hid (show trimL l = l.take k from by
        rw [← HT.out]
        rcases Nat.eq_zero_or_pos k with h0 | h0
        · subst h0; simp [trimL]
        · have e : l.take k = l.take (k - 1) ++ [l.getD (k - 1) noC] := by
            rw [← take_last _ _ (by omega), show k - 1 + 1 = k by omega]
          rw [e, trim_snoc, beq_eq_false_iff_ne.2 (fun e => hstop ⟨h0, e⟩)]
          simp)
      have hbld : Lib.IsBuilderF 85 5 w2.heap.size w2.heap.size (Lib.byteCells (cellsText (l.take 0))) (w2.alloc (.cells #[.pointer none, .slice none 0 0] 85)) :=
        Lib.IsBuilderF.of (.inl ⟨Nat.le_refl _, .slice none 0 0, blk_new _ _, World.ownsRow_nil _ _ _ _, by simp [Value.ownBlock]⟩)
      have hBb := Below.alloc (Below.refl w2.heap.size w2) (Nat.le_refl _) (.cells #[.pointer none, .slice none 0 0] 85)
      rcases Nat.eq_zero_or_pos k with h0 | h0
      case' inl =>
        have d1 : decide (0 < (k : Int)) = false := decide_eq_false (by omega)
        have d1' : decide (0 < k) = false := decide_eq_false (by omega)
        go_wp2_with fail
      case' inr =>
        have d1 : decide (0 < (k : Int)) = true := decide_eq_true (by omega)
        have d1' : decide (0 < k) = true := decide_eq_true (by omega)
        obtain ⟨b, off, c, e2, _, _⟩ := ownC_pos HO.out (by omega)
        simp only [Value.slice.injEq] at e2
        obtain ⟨rfl, _, rfl⟩ := e2
        obtain ⟨c0, _⟩ := ownC_cel HO.out (k - 1) (by omega) rfl
        have d3 : ((l.getD (k - 1) noC).rune == 32) = false := beq_eq_false_iff_ne.2 (fun e => hstop ⟨h0, e⟩)
        have hix := idx_at (P := Tryz.prog) (size := 5) Tryz.underlying42 cell_info b off k vc (k - 1) (by omega)
        rw [show ((k - 1 : Nat) : Int) = (k : Int) - 1 by omega] at hix
        generalize (l.getD (k - 1) noC).rune = rn at *
        go_wp2_with fail
      all_goals
        go_loopw [8, 33] (fun _ iv wx => ∃ i : Nat, i ≤ k ∧ iv = .int .i64 i ∧ Below w2.heap.size w2 wx ∧ Lib.IsBuilderF 85 5 w2.heap.size w2.heap.size (Lib.byteCells (cellsText (l.take i))) wx) (fun _ iv _ => k - (intOf iv).toNat)
        case atStart => exact ⟨0, Nat.zero_le _, rfl, hBb, hbld⟩
        case round =>
          obtain ⟨i, hi, rfl, hb, hbd⟩ := hrel
          have HB := Lib.hid hb
          have HD := Lib.hid hbd
          have hbs := hb.size
          clear hb hbd
          by_cases hlt : i < k
          · (try (exfalso; omega))
            all_goals
              have ho := ownC_below HO.out HB.out
              obtain ⟨b', off', c', e2, _, _⟩ := ownC_pos ho (by omega)
              simp only [Value.slice.injEq, Option.some.injEq] at e2
              obtain ⟨e3, _, rfl⟩ := e2
              first | subst e3 | (simp only [Addr.mk.injEq] at e3; obtain ⟨e4, e5, _⟩ := e3; have e4' := e4.symm; have e5' := e5.symm; subst e4'; subst e5')
              obtain ⟨q0, q1, q2, q3, q4⟩ := ownC_cel ho i (by omega) rfl
              have hix2 := idx_at (P := Tryz.prog) (size := 5) Tryz.underlying42 cell_info b' off' k vc i hlt
              have hok := HW.out.2 (l.getD i noC) (by rw [List.getD_eq_getElem?_getD, List.getElem?_eq_getElem (by omega)]; exact List.getElem_mem _)
              have hsn := cellsText_snoc (l.take i) (l.getD i noC)
              rw [← take_last l i (by omega)] at hsn
              have HSN := Lib.hid hsn
              have hcl := cellsText_le (l.take i)
              rw [List.length_take, Nat.min_eq_left (by omega)] at hcl
              clear ho hsn
              generalize l.getD i noC = cc at *
              obtain ⟨cr, cw, cs⟩ := cc
              obtain ⟨hr0, hr1⟩ := hok
              dsimp only at q0 q1 q2 q3 q4 hr0 hr1 HSN
              have HD2 := Lib.hid (bld_alloc HD.out (.cells #[.int .i32 cr, .int .i64 cw, .int .i64 cs.fg, .int .i64 cs.bg, .int .i64 cs.attr] 38))
              have HB2' := Lib.hid (HB.out.alloc hbs (.cells #[.int .i32 cr, .int .i64 cw, .int .i64 cs.fg, .int .i64 cs.bg, .int .i64 cs.attr] 38))
              by_cases hcw : 0 < cw
              · have dw : decide (0 < cw) = true := decide_eq_true hcw
                have HWR := Lib.hid (writeRune_any w2.heap.size w2.heap.size _ cr hr0 hr1 _ HD2.out (by omega) (by simp; omega))
                go_wp2_with fail
                refine HWR.out.mono ?_
                rintro e w5 ⟨⟨nn, rfl⟩, h5, b5⟩
                have HD5 := Lib.hid h5
                have HB5 := Lib.hid (HB2'.out.trans b5)
                clear h5 b5 HWR
                go_wp2_with fail
                go_roundw
                case rel =>
                  refine ⟨i + 1, by omega, by go_num, HB5.out, ?_⟩
                  rw [HSN.out, if_pos hcw, byteCells_app, Lib.byteCells_encodeRune]
                  exact HD5.out
                case measure => simp [intOf] <;> omega
              · have dw : decide (0 < cw) = false := decide_eq_false hcw
                go_wp2_with fail
                go_roundw
                case rel =>
                  refine ⟨i + 1, by omega, by go_num, HB2'.out, ?_⟩
                  rw [HSN.out, if_neg hcw, List.append_nil]
                  exact HD2.out
                case measure => simp [intOf] <;> omega
          · have hik : i = k := by omega
            subst hik
            have HST := Lib.hid (Tryz.Builder_String_any_f w2.heap.size w2.heap.size _ wr HD.out hbs)
            go_wp2_with fail
            refine HST.out.mono ?_
            rintro e w6 ⟨rfl, _, b6⟩
            have HB6 := Lib.hid (HB2.out.trans ((HB.out.trans b6).mono HB2.out.size))
            clear b6
            go_wp2_with fail
            go_ret
            refine ⟨?_, HB6.out⟩
            unfold textL
            rw [HE.out]
            first | rfl | (rw [h0]; rfl)
end Go.Proofs.YtjclgoiclbkgjaaGreatDoor

/- Walks of package grid: on, Wrap; a row's cells turned. -/
namespace Go.Proofs.YtjclgoiclbkgjaaGreatDoor
open Go.RowKit

/-- What style.Right tells of a style, in any world behind w0. -/
def RightIn (w0 : World) (s : Sty) : Prop := ∀ w, Below w0.heap.size w0 w → Calls Tryz.prog 77 #[s.val] w fun e w' => e = .returned (.bool (okS s)) ∧ Below w.heap.size w w'
theorem RightIn.below {w0 w1 : World} {s : Sty} (h : RightIn w0 s) (b : Below w0.heap.size w0 w1) : RightIn w1 s := fun w hb => h w (b.trans (hb.mono b.size))
theorem name_plain (w : World) : Calls Tryz.prog 89 #[.int .i64 (-1)] w fun e w' => e = .returned (.string ⟨#[100, 101, 102, 97, 117, 108, 116]⟩) ∧ w' = w := by
  go_enter Tryz.func89, Tryz.ntmps89
  go_wp2_with fail
  go_ret
  exact ⟨rfl, rfl⟩
set_option maxRecDepth 100000 in
theorem right_plain {w0 : World} : RightIn w0 plainS := by
  intro w _
  have HB := Lib.hid ((Below.refl w.heap.size w).alloc (Nat.le_refl _) (.cells #[.int .i64 (-1), .int .i64 (-1), .int .i64 0] 36))
  unfold Sty.val plainS
  go_enter Tryz.func77, Tryz.ntmps77
  go_wp2_with fail
  refine (name_plain _).mono ?_
  rintro e w2 ⟨rfl, rfl⟩
  go_wp2_with fail
  refine (name_plain _).mono ?_
  rintro e w2 ⟨rfl, rfl⟩
  go_wp2_with fail
  go_ret
  exact ⟨rfl, HB.out⟩
set_option maxRecDepth 100000 in
theorem on_no {T : Nat → Nat} {p : Nat} {w : World} {g : Gr} (h : GM T p w g) (x y : Int) (s : Sty) (hs : RightIn w s) (hn : g.onIt x y s = false) :
    Calls Tryz.prog 51 #[.pointer (some ⟨p, 0, none⟩), .int .i64 x, .int .i64 y, s.val] w fun e w' => e = .returned (.slice none 0 0) ∧ Below w.heap.size w w' := by
  have hBz := Below.alloc (Below.refl w.heap.size w) (Nat.le_refl _) (.cells #[.int .i64 s.fg, .int .i64 s.bg, .int .i64 s.attr] 36)
  have HB := Lib.hid hBz
  have h' := h.below hBz
  have wf := h.wf
  clear h
  obtain ⟨vr, vo, Lr, Lo, h⟩ := h'
  obtain ⟨c0, c1, c2, c3⟩ := gm_cells h
  have hl := ownC_ln Tryz.underlying57 h.rr.own
  rw [(rows_len h).1] at hl
  clear h
  have HN := Lib.hid hn
  have w1 := wf.r2
  have w2 := wf.c2
  clear hn wf
  unfold Gr.onIt at HN
  unfold Sty.val
  by_cases h0 : 0 ≤ y
  rotate_left
  · have d0 : decide (y < 0) = true := decide_eq_true (by omega)
    go_enter Tryz.func51, Tryz.ntmps51
    go_wp2_with fail
    go_ret
    exact ⟨rfl, HB.out⟩
  have d0 : decide (y < 0) = false := decide_eq_false (by omega)
  by_cases h1 : y < (g.rows.length : Int)
  rotate_left
  · have d1 : decide ((g.rows.length : Int) ≤ y) = true := decide_eq_true (by omega)
    go_enter Tryz.func51, Tryz.ntmps51
    go_wp2_with fail
    go_ret
    exact ⟨rfl, HB.out⟩
  have d1 : decide ((g.rows.length : Int) ≤ y) = false := decide_eq_false (by omega)
  by_cases h2 : 0 ≤ x
  rotate_left
  · have d2 : decide (x < 0) = true := decide_eq_true (by omega)
    go_enter Tryz.func51, Tryz.ntmps51
    go_wp2_with fail
    go_ret
    exact ⟨rfl, HB.out⟩
  have d2 : decide (x < 0) = false := decide_eq_false (by omega)
  by_cases h3 : x < (g.cols : Int)
  rotate_left
  · have d3 : decide ((g.cols : Int) ≤ x) = true := decide_eq_true (by omega)
    go_enter Tryz.func51, Tryz.ntmps51
    go_wp2_with fail
    go_ret
    exact ⟨rfl, HB.out⟩
  have d3 : decide ((g.cols : Int) ≤ x) = false := decide_eq_false (by omega)
  have hok : okS s = false := by
    have := HN.out
    rw [decide_eq_true h0, decide_eq_true h1, decide_eq_true h2, decide_eq_true h3] at this
    simpa using this
  have HR := Lib.hid hs
  clear hs
  go_enter Tryz.func51, Tryz.ntmps51
  go_wp2_with fail
  refine (HR.out _ HB.out).mono ?_
  rintro e w3 ⟨rfl, b3⟩
  rw [hok]
  have HB3 := Lib.hid (HB.out.trans (b3.mono (by simp)))
  clear b3
  go_wp2_with fail
  go_ret
  exact ⟨rfl, HB3.out⟩
set_option maxRecDepth 100000 in
theorem on_yes {T : Nat → Nat} {p : Nat} {vr vo : Value} {Lr Lo : List (Value × Rw)} {w : World} {g : Gr} (h0 : GAt T p vr vo Lr Lo w g) (x y : Nat) (s : Sty) (hs : RightIn w s) (hx : x < g.cols) (hy : y < Lr.length) (hok : okS s = true) :
    Calls Tryz.prog 51 #[.pointer (some ⟨p, 0, none⟩), .int .i64 x, .int .i64 y, s.val] w fun e w' => e = .returned Lr[y].1 ∧ Below w.heap.size w w' := by
  have hBz := Below.alloc (Below.refl w.heap.size w) (Nat.le_refl _) (.cells #[.int .i64 s.fg, .int .i64 s.bg, .int .i64 s.attr] 36)
  have HB := Lib.hid hBz
  have H := Lib.hid (h0.mod (.of_below hBz) id id id (fun _ => id))
  have wf := h0.wf
  have w1 := wf.r2
  have w2 := wf.c2
  have hlen := (rows_len h0).1
  clear h0 wf
  obtain ⟨c0, c1, c2, c3⟩ := gm_cells H.out
  have hl := ownC_ln Tryz.underlying57 H.out.rr.own
  have d0 : decide ((y : Int) < 0) = false := decide_eq_false (by omega)
  have d1 : decide ((Lr.length : Int) ≤ (y : Int)) = false := decide_eq_false (by omega)
  have d1' : decide (Lr.length ≤ y) = false := decide_eq_false (by omega)
  have d2 : decide ((x : Int) < 0) = false := decide_eq_false (by omega)
  have d3 : decide ((g.cols : Int) ≤ (x : Int)) = false := decide_eq_false (by omega)
  have d3' : decide (g.cols ≤ x) = false := decide_eq_false (by omega)
  clear hlen
  have HR := Lib.hid hs
  clear hs hBz
  unfold Sty.val
  go_enter Tryz.func51, Tryz.ntmps51
  go_wp2_with fail
  refine (HR.out _ HB.out).mono ?_
  rintro e w3 ⟨rfl, b3⟩
  rw [hok]
  have HB3 := Lib.hid (HB.out.trans (b3.mono (by simp)))
  have H3 := H.out.mod (.of_below b3) id id id (fun _ => id)
  clear b3 c0 c1 c2 c3
  obtain ⟨c0, c1, c2, c3⟩ := gm_cells H3
  obtain ⟨b, off, c, rfl, _, _⟩ := ownC_pos H3.rr.own (by omega)
  obtain ⟨r0, r1⟩ := ownC_row2 H3.rr.own y hy
  have hix := idx_at (P := Tryz.prog) (size := 2) Tryz.underlying57 row_info b off Lr.length c y hy
  have hxs := ownC_sl (H3.ca Lr[y] (List.mem_append_left _ (List.getElem_mem hy))).own
  generalize hxv : Lr[y].1 = xv at *
  obtain ⟨xa, xc, rfl⟩ := hxs
  clear H3
  go_wp2_with fail
  exact ret1v rfl rfl rfl ⟨by rw [hxv]; rfl, HB3.out⟩
/-- A row's cells turned. -/
theorem GAt.turned {T : Nat → Nat} {p : Nat} {vr vo : Value} {Lr Lo : List (Value × Rw)} {w w' : World} {g : Gr} (h : GAt T p vr vo Lr Lo w g) (k : Nat) (hk : k < Lr.length) {b : Nat} (hb : Lr[k].1.ownBlock = some b)
    (m : Mod T (fun t => t = 10 + b) w w') (f : List Cel → List Cel) (ho : OwnC w' 0 5 Lr[k].1 (f Lr[k].2.cells).length (cvals (f Lr[k].2.cells))) (hl : (f Lr[k].2.cells).length = g.cols) (hok : ∀ c ∈ f Lr[k].2.cells, c.Ok) :
    GM T p w' (g.turn k f) := by
  have hlen := (rows_len h).1
  have hr : g.rows.getD k noR = Lr[k].2 := by
    rw [← h.er, List.getD_eq_getElem?_getD, List.getElem?_map, List.getElem?_eq_getElem hk]; rfl
  have hkb : ∀ k', Lr[k].1.ownBlock = some k' → k' = b := fun k' e => by rw [hb] at e; injection e with e; exact e.symm
  have hcb : ∀ x ∈ Lr ++ Lo, x.1.ownBlock = some b → x ∈ Lr ++ Lo := fun x hx _ => hx
  have hset : (Lr.set k (Lr[k].1, { Lr[k].2 with cells := f Lr[k].2.cells })).map (·.1.ownBlock) = Lr.map (·.1.ownBlock) := by
    rw [List.map_set]
    apply List.ext_getElem?
    intro j
    by_cases hj : j = k
    · subst hj
      rw [List.getElem?_set_self (by simpa using hk), List.getElem?_map, List.getElem?_eq_getElem hk]; rfl
    · rw [List.getElem?_set_ne (fun e => hj e.symm)]
  have hrv : rowVals (Lr.set k (Lr[k].1, { Lr[k].2 with cells := f Lr[k].2.cells })) = rowVals Lr := by
    unfold rowVals
    rw [List.flatMap_def, List.flatMap_def, List.map_set]
    congr 1
    apply List.ext_getElem?
    intro j
    by_cases hj : j = k
    · subst hj
      rw [List.getElem?_set_self (by simpa using hk), List.getElem?_map, List.getElem?_eq_getElem hk]; rfl
    · rw [List.getElem?_set_ne (fun e => hj e.symm)]
  refine ⟨vr, vo, Lr.set k (Lr[k].1, { Lr[k].2 with cells := f Lr[k].2.cells }), Lo, ⟨fun k' hk' => Nat.lt_of_lt_of_le (h.lt k' hk') m.size, ?_, h.tp, ?_, h.ro.mod m (by omega), ?_, h.eo, fun x hx => ?_, ?_, ?_⟩⟩
  · exact (m.block p (heap_lt h.blk) (by rw [h.tp]; omega)).trans h.blk
  · rw [List.length_set, hrv]
    exact h.rr.mod m (by omega)
  · rw [List.map_set, h.er]
    unfold Gr.turn
    rw [hr]
  · rcases List.mem_append.1 hx with hx | hx
    · obtain ⟨j, hj⟩ := List.mem_iff_getElem?.1 hx
      by_cases hjk : j = k
      · subst hjk
        rw [List.getElem?_set_self hk] at hj
        injection hj with hj
        subst hj
        exact ⟨ho, (h.ca _ (List.mem_append_left _ (List.getElem_mem hk))).tag⟩
      · rw [List.getElem?_set_ne (fun e => hjk e.symm)] at hj
        have hjl : j < Lr.length := (List.getElem?_eq_some_iff.1 hj).1
        have hje : Lr[j] = x := (List.getElem?_eq_some_iff.1 hj).2
        have hxm : x ∈ Lr ++ Lo := List.mem_append_left _ (List.mem_of_getElem? hj)
        refine (h.ca x hxm).mod m (fun q hq e => ?_)
        have e' : q = b := by omega
        subst e'
        have hnd := h.nd
        rw [List.map_append, List.nodup_append] at hnd
        have hn1 := hnd.1
        have hh := List.pairwise_iff_getElem.1 hn1
        have g1 : ∀ i (hi : i < Lr.length), (Lr.map (·.1.ownBlock))[i]'(by simpa using hi) = Lr[i].1.ownBlock := fun i hi => by rw [List.getElem_map]
        rcases Nat.lt_trichotomy j k with hlt | heq | hgt
        · refine hh j k (by simpa using hjl) (by simpa using hk) hlt ?_
          rw [g1 j hjl, g1 k hk, hje, hq, hb]
        · exact hjk heq
        · refine hh k j (by simpa using hk) (by simpa using hjl) hgt ?_
          rw [g1 j hjl, g1 k hk, hje, hq, hb]
    · have hxm : x ∈ Lr ++ Lo := List.mem_append_right _ hx
      refine (h.ca x hxm).mod m (fun q hq e => ?_)
      have e' : q = b := by omega
      subst e'
      have hnd := h.nd
      rw [List.map_append, List.nodup_append] at hnd
      exact hnd.2.2 _ (List.mem_map_of_mem (List.getElem_mem hk)) _ (List.mem_map_of_mem hx) (by rw [hb, hq])
  · rw [List.map_append, hset, ← List.map_append]; exact h.nd
  · have wf := h.wf
    refine ⟨wf.c1, wf.c2, ?_, ?_, wf.li, wf.ol, fun r hr' => ?_⟩
    · show 1 ≤ (g.rows.set k _).length
      rw [List.length_set]; exact wf.r1
    · show (g.rows.set k _).length ≤ 120
      rw [List.length_set]; exact wf.r2
    · have hr2 : r ∈ g.rows.set k { g.rows.getD k noR with cells := f (g.rows.getD k noR).cells } ++ g.old := hr'
      rcases List.mem_append.1 hr2 with hm | hm
      · rcases List.mem_or_eq_of_mem_set hm with hm | rfl
        · exact wf.ce r (List.mem_append_left _ hm)
        · rw [hr]
          exact ⟨hl, hok⟩
      · exact wf.ce r (List.mem_append_right _ hm)
end Go.Proofs.YtjclgoiclbkgjaaGreatDoor
