/- Package grid, texts laid together: G10 G11 G12 G13. -/
import Derived.Test.YtlfdgkiliegaiaaGreatDoorY3
import Derived.Deep.RegionHeld3
/- Walks of package grid: region, Clone of rows. -/
namespace Go.Proofs.YtlfdgkiliegaiaaGreatDoor
open Go.RowKit

set_option maxRecDepth 100000 in
set_option maxHeartbeats 1000000 in
theorem region_any {T : Nat → Nat} {p : Nat} {w : World} {g : Gr} (h : GM T p w g) (top bottom n : Int) (s : Sty) (hs : RightIn w s) :
    Calls Tryz.prog 278 #[.pointer (some ⟨p, 0, none⟩), .int .i64 top, .int .i64 bottom, .int .i64 n, s.val] w fun e w' => e = .returned (.int .i64 (regionN g top bottom n s)) ∧ Below w.heap.size w w' := by
  have hBz := Below.alloc (Below.refl w.heap.size w) (Nat.le_refl _) (.cells #[.int .i64 s.fg, .int .i64 s.bg, .int .i64 s.attr] 35)
  have HB := Lib.hid hBz
  have h' := h.below hBz
  have wf := h.wf
  clear h
  obtain ⟨vr, vo, Lr, Lo, h⟩ := h'
  obtain ⟨c0, c1, c2, c3⟩ := gm_cells h
  have hl := ownC_ln Tryz.underlying126 h.rr.own
  rw [(rows_len h).1] at hl
  clear h
  have w1 := wf.r2
  clear wf hBz
  unfold Sty.val
  by_cases h0 : top < 0
  · have HE := Lib.hid (show regionN g top bottom n s = 0 by unfold regionN; rw [if_pos (.inl h0)])
    have d0 : decide (top < 0) = true := decide_eq_true h0
    go_enter Tryz.func278, Tryz.ntmps278
    go_wp2_with fail
    go_ret
    exact ⟨ret_int (by rw [HE.out]; rfl), HB.out⟩
  have d0 : decide (top < 0) = false := decide_eq_false h0
  by_cases h1 : bottom < top
  · have HE := Lib.hid (show regionN g top bottom n s = 0 by unfold regionN; rw [if_pos (.inr (.inl h1))])
    have d1 : decide (bottom < top) = true := decide_eq_true h1
    go_enter Tryz.func278, Tryz.ntmps278
    go_wp2_with fail
    go_ret
    exact ⟨ret_int (by rw [HE.out]; rfl), HB.out⟩
  have d1 : decide (bottom < top) = false := decide_eq_false h1
  by_cases h2 : (g.rows.length : Int) ≤ bottom
  · have HE := Lib.hid (show regionN g top bottom n s = 0 by unfold regionN; rw [if_pos (.inr (.inr (.inl h2)))])
    have d2 : decide ((g.rows.length : Int) ≤ bottom) = true := decide_eq_true h2
    go_enter Tryz.func278, Tryz.ntmps278
    go_wp2_with fail
    go_ret
    exact ⟨ret_int (by rw [HE.out]; rfl), HB.out⟩
  have d2 : decide ((g.rows.length : Int) ≤ bottom) = false := decide_eq_false h2
  have HR := Lib.hid hs
  clear hs
  cases hok : okS s
  · have HE := Lib.hid (show regionN g top bottom n s = 0 by unfold regionN; rw [if_pos (.inr (.inr (.inr hok)))])
    go_enter Tryz.func278, Tryz.ntmps278
    go_wp2_with fail
    refine (HR.out _ HB.out).mono ?_
    rintro e w3 ⟨rfl, b3⟩
    rw [hok]
    have HB3 := Lib.hid (HB.out.trans (b3.mono (by simp)))
    clear b3
    go_wp2_with fail
    go_ret
    exact ⟨ret_int (by rw [HE.out]; rfl), HB3.out⟩
  · have HE := Lib.hid (show (regionN g top bottom n s : Int) = max 0 (min n (bottom - top + 1)) by
      unfold regionN
      rw [if_neg (by rw [hok]; simp; omega)]
      omega)
    have hw1 : IntKind.i64.wrap (bottom - top) = bottom - top := wrap64_id _ (by omega) (by omega)
    have hw2 : IntKind.i64.wrap (bottom - top + 1) = bottom - top + 1 := wrap64_id _ (by omega) (by omega)
    go_enter Tryz.func278, Tryz.ntmps278
    go_wp2_with fail
    refine (HR.out _ HB.out).mono ?_
    rintro e w3 ⟨rfl, b3⟩
    rw [hok]
    have HB3 := Lib.hid (HB.out.trans (b3.mono (by simp)))
    clear b3
    go_wp2_with fail
    go_ret
    exact ⟨ret_int HE.out.symm, HB3.out⟩
set_option maxRecDepth 100000 in
theorem cloneR_any (L : List (Value × Rw)) (a : Addr) (c : Nat) (w : World) (h : Reads w 2 (.slice (some a) L.length c) L.length (rowVals L)) (h1 : ∀ u ∈ rowVals L, u.oneCell' = true) (hl : L.length ≤ 100000) :
    Calls Tryz.prog 129 #[.slice (some a) L.length c] w fun e w' => ∃ v', e = .returned v' ∧ Below w.heap.size w w' ∧ OwnC w' w.heap.size 2 v' L.length (rowVals L) := by
  have hq := fun (wx : World) => Lib.run_eql_slice_nil (P := Tryz.prog) wx 126 130 (some a) L.length c 0 0 Tryz.underlying126
  have HR := Lib.hid h
  have H1 := Lib.hid h1
  clear h h1
  go_enter Tryz.func129, Tryz.ntmps129
  go_wp2_with (at_builtin; refine held ?_)
  unfold Held
  refine wpList_appC rows_elem rfl rfl w.heap.size (own_empty w 130 2) rfl (reads_kept HR.out (World.grownBy_alloc w _ none) (by intro _ _ e; simp at e)) rfl H1.out (by unfold maxLen; omega) (by omega) (by simp) ?_
  intro v6 w6 o6 g6
  rw [Nat.zero_add, List.nil_append] at o6
  have HB6 := Lib.hid ((Below.alloc (Below.refl w.heap.size w) (Nat.le_refl _) (.cells #[] 130)).grown g6 (by simp) (by intro q hq; simp [Value.ownBlock] at hq; omega))
  have HO6 := Lib.hid o6
  clear o6 g6
  go_wp2_with fail
  exact ret1v rfl rfl rfl ⟨_, rfl, HB6.out, HO6.out⟩
end Go.Proofs.YtlfdgkiliegaiaaGreatDoor

/- Walks of package grid: keep. -/
namespace Go.Proofs.YtlfdgkiliegaiaaGreatDoor
open Go.RowKit

theorem clear_own {P : Program} {t e : TypeId} {size : Nat} {z : Value} (ht : P.underlying t = some (.slice e)) (hz : ∀ w, (zeroValue e).run P w = .ok z w) (hzs : z.cells.size = size) (hz1 : ∀ u ∈ z.cells.toList, u.oneCell' = true) {w : World} {base b off n c : Nat} {xs : List Value} (h : OwnC w base size (.slice (some ⟨b, off, none⟩) n c) n xs)
    (x m c1 : Nat) (hm : 0 < m) (hx : x + m ≤ n) (ty : TypeId) :
    ∃ zs : List Value, zs.length = m * size ∧ (Builtin.clear_ #[t] ty #[.slice (some ⟨b, off + x * size, none⟩) m c1]).run P w = .ok (.tuple #[]) (w.setCells b (off + x * size) zs) := by
  obtain ⟨e1, h2⟩ := h
  rcases h2 with ⟨e, _⟩ | ⟨b', off', c', e, hb, hbs, hnc, hcm, hcells, hxs⟩
  · simp at e
  simp only [Value.slice.injEq, Option.some.injEq, Addr.mk.injEq] at e
  obtain ⟨⟨rfl, rfl, _⟩, _, rfl⟩ := e
  have hzl : (Builtin.zeroCells z.cells m).toList.length = m * size := by simp [Builtin.zeroCells, hzs]
  refine ⟨(Builtin.zeroCells z.cells m).toList, hzl, ?_⟩
  have hin : ∀ j, j < (Builtin.zeroCells z.cells m).toList.length → x * size + j < c * size := fun j hj => by
    have a1 : x * size + m * size ≤ c * size := by rw [← Nat.add_mul]; exact Nat.mul_le_mul_right _ (by omega)
    omega
  have hone : ∀ u ∈ (Builtin.zeroCells z.cells m).toList, u.oneCell' = true := fun u hu => by
    unfold Builtin.zeroCells at hu
    simp only [Array.toList_map, List.mem_map, Array.mem_toList_iff, Array.mem_range] at hu
    obtain ⟨i, hi, rfl⟩ := hu
    have hpos : 0 < z.cells.size := by
      rcases Nat.eq_zero_or_pos z.cells.size with h0 | h0
      · rw [h0] at hi; simp at hi
      · exact h0
    have hlt := Nat.mod_lt i hpos
    rw [getElem!_pos z.cells _ hlt]
    exact hz1 _ (by simp)
  have hst := run_storeCells_cells (P := P) b (off + x * size) (Builtin.zeroCells z.cells m).toList 0 w (fun j hj => by
      have := (hcells _ (hin j hj)).1
      rwa [← Nat.add_assoc] at this) (fun j hj => by
      have := (hcells _ (hin j hj)).2
      rwa [← Nat.add_assoc] at this) hone
  rw [Nat.add_zero] at hst
  obtain ⟨m', rfl⟩ : ∃ m', m = m' + 1 := ⟨m - 1, by omega⟩
  simp [Builtin.clear_, run_underlying ht, hz, hst]
theorem zero_row (w : World) : (zeroValue 130).run Tryz.prog w = .ok (.agg #[.slice none 0 0, .bool false]) w := by kernel_rfl
theorem zero_one : ∀ u ∈ (Value.agg #[.slice none 0 0, .bool false]).cells.toList, u.oneCell' = true := by
  intro u hu
  simp [Value.cells] at hu
  rcases hu with rfl | rfl <;> rfl
/-- The rows that are kept. -/
def keptL {α : Type} (limit : Nat) (l : List α) : List α := l.drop (l.length - limit)
theorem kept_vals (Lo Lk : List (Value × Rw)) (limit : Nat) (hlim : limit < (Lo ++ Lk).length) (zs : List Value) (_hz : zs.length = ((Lo ++ Lk).length - limit) * 2) :
    (putAt (putAt (rowVals (Lo ++ Lk)) 0 (rowVals (keptL limit (Lo ++ Lk)))) (limit * 2) zs).take (limit * 2) = rowVals (keptL limit (Lo ++ Lk)) := by
  generalize Lo ++ Lk = L at *
  have hk : (rowVals (keptL limit L)).length = limit * 2 := by
    rw [rowVals_len]; unfold keptL; rw [List.length_drop]; omega
  have hl : (rowVals L).length = L.length * 2 := rowVals_len L
  have e1 : putAt (rowVals L) 0 (rowVals (keptL limit L)) = rowVals (keptL limit L) ++ (rowVals L).drop (limit * 2) := by
    unfold putAt
    rw [List.take_zero, List.nil_append, Nat.zero_add, hk]
  rw [e1]
  unfold putAt
  rw [List.append_assoc, List.take_append_of_le_length (by rw [List.length_take, List.length_append, hk]; omega), List.take_take, Nat.min_self, List.take_append_of_le_length (by omega), List.take_of_length_le (by omega)]
set_option maxRecDepth 100000 in
set_option maxHeartbeats 4000000 in
theorem keep_any (p cols limit : Nat) (vr vo y : Value) (Lo Lk : List (Value × Rw)) (w : World) (hblk : w.heap[p]? = some (.cells #[.int .i64 cols, .int .i64 limit, vr, vo] 128 (0, 0)))
    (ho : OwnC w 0 2 vo Lo.length (rowVals Lo)) (hne : vo.ownBlock ≠ some p) (hy : Reads w 2 y Lk.length (rowVals Lk)) (h1o : ∀ u ∈ rowVals Lo, u.oneCell' = true) (h1 : ∀ u ∈ rowVals Lk, u.oneCell' = true) (hlo : Lo.length ≤ 1000000) (hlk : Lk.length ≤ 1000000) (hlim : limit ≤ 1000000) :
    Calls Tryz.prog 133 #[.pointer (some ⟨p, 0, none⟩), y] w fun e w' => e = .returned (.tuple #[]) ∧ Within (fun k => k = p ∨ vo.ownBlock = some k ∨ w.heap.size ≤ k) w w' ∧ ∃ vo',
      w'.heap[p]? = some (.cells #[.int .i64 cols, .int .i64 limit, vr, vo'] 128 (0, 0)) ∧ OwnC w' 0 2 vo' (keptL limit (Lo ++ Lk)).length (rowVals (keptL limit (Lo ++ Lk))) ∧ (∀ k, vo'.ownBlock = some k → vo.ownBlock = some k ∨ w.heap.size ≤ k) := by
  have c0 : w.cell? ⟨p, 0, none⟩ = some (.int .i64 cols) := blk_cell hblk 0
  have c1 : w.cell? ⟨p, 1, none⟩ = some (.int .i64 limit) := blk_cell hblk 1
  have c2 : w.cell? ⟨p, 2, none⟩ = some vr := blk_cell hblk 2
  have c3 : w.cell? ⟨p, 3, none⟩ = some vo := blk_cell hblk 3
  have hpl := heap_lt hblk
  have HK := Lib.hid hblk
  have HO := Lib.hid ho
  have HY := Lib.hid hy
  have H1 := Lib.hid h1
  have H1L := Lib.hid (show ∀ u ∈ rowVals (Lo ++ Lk), u.oneCell' = true from fun u hu => by
    rw [rowVals_append] at hu
    rcases List.mem_append.1 hu with hu | hu
    · exact h1o u hu
    · exact h1 u hu)
  clear hblk ho hy h1 h1o
  go_enter Tryz.func133, Tryz.ntmps133
  go_wp2_with (at_builtin; refine held ?_)
  unfold Held
  refine wpList_appD rows_elem rfl rfl 0 HO.out rfl HY.out rfl H1.out (by unfold maxLen; omega) (by omega) (Nat.zero_le _) ?_
  intro v2 w2 o2 g2 hn2
  obtain ⟨va, vc, rfl⟩ := ownC_sl o2
  have hbk2 := blk_grown HK.out g2 (fun e => hne e.symm)
  have d3 : w2.cell? ⟨p, 3, none⟩ = some vo := blk_cell hbk2 3
  have f3 : w2.frozen? ⟨p, 3, none⟩ = false := blk_free hbk2 3
  have hbk3 := blk_set hbk2 3 (.slice va (Lo.length + Lk.length) vc)
  have hps : (Value.slice va (Lo.length + Lk.length) vc).ownBlock ≠ some p := fun e => by
    rcases hn2 p e with e' | e'
    · exact hne e'
    · omega
  have g3 : w2.grownBy (w2.setCell ⟨p, 3, none⟩ (.slice va (Lo.length + Lk.length) vc)) (some p) := gb_set (gb_refl _ _) _ _
  rw [← rowVals_append] at o2
  have HO3 := Lib.hid (ownC_grown o2 g3 (fun k hk e => hps (by rw [hk]; exact e.symm)))
  have HW3 := Lib.hid (show Within (fun k => k = p ∨ vo.ownBlock = some k ∨ w.heap.size ≤ k) w (w2.setCell ⟨p, 3, none⟩ (.slice va (Lo.length + Lk.length) vc)) from
    (Within.of_gb g2 (fun k hk => .inr (.inl hk))).trans (Within.of_gb g3 (fun k hk => .inl (by injection hk with hk; exact hk.symm))))
  have HN := Lib.hid hn2
  have HK3 := Lib.hid (show (w2.setCell ⟨p, 3, none⟩ (.slice va (Lo.length + Lk.length) vc)).heap[p]? = some (.cells #[.int .i64 cols, .int .i64 limit, vr, .slice va (Lo.length + Lk.length) vc] 128 (0, 0)) from hbk3)
  clear o2 g2 hn2 g3 hbk3 hbk2
  go_wp2_with fail
  have hsz3 : (w2.setCell ⟨p, 3, none⟩ (.slice va (Lo.length + Lk.length) vc)).heap.size = w2.heap.size := by simp
  generalize w2.setCell ⟨p, 3, none⟩ (.slice va (Lo.length + Lk.length) vc) = w3 at *
  clear c0 c1 c2 c3 d3 f3
  have c0 : w3.cell? ⟨p, 0, none⟩ = some (.int .i64 cols) := blk_cell HK3.out 0
  have c1 : w3.cell? ⟨p, 1, none⟩ = some (.int .i64 limit) := blk_cell HK3.out 1
  have c3 : w3.cell? ⟨p, 3, none⟩ = some (.slice va (Lo.length + Lk.length) vc) := blk_cell HK3.out 3
  have hLL : (Lo ++ Lk).length = Lo.length + Lk.length := List.length_append
  have hLs : (Lo ++ Lk).length ≤ 2000000 := by omega
  generalize hL : Lo ++ Lk = L at *
  have hLL' := hLL.symm
  clear hLL
  generalize Lo.length + Lk.length = ln at *
  subst hLL'
  have hwr : IntKind.i64.wrap ((L.length : Int) - (limit : Int)) = (L.length : Int) - (limit : Int) := wrap64_id _ (by omega) (by omega)
  go_quiet (fail)
  by_cases hm : L.length ≤ limit
  · have d1 : decide (0 < (L.length : Int) - (limit : Int)) = false := decide_eq_false (by omega)
    have hkk : keptL limit L = L := by unfold keptL; rw [show L.length - limit = 0 by omega]; rfl
    go_wp2_with fail
    go_end0
    refine ⟨rfl, HW3.out.trans (Within.of_below (below_drewN (Below.refl _ _) nq)), _, HK3.out, ?_, HN.out⟩
    rw [hL, hkk]; exact HO3.out
  · have d1 : decide (0 < (L.length : Int) - (limit : Int)) = true := decide_eq_true (by omega)
    obtain ⟨b, off, c, e2, hnc, hcm⟩ := ownC_pos HO3.out (by omega)
    simp only [Value.slice.injEq] at e2
    obtain ⟨rfl, _, rfl⟩ := e2
    have hO := show OwnC (w3.drewN nq) 0 2 (.slice (some ⟨b, off, none⟩) L.length vc) L.length (rowVals L) from HO3.out
    have hK := show (w3.drewN nq).heap[p]? = some (.cells #[.int .i64 cols, .int .i64 limit, vr, .slice (some ⟨b, off, none⟩) L.length vc] 128 (0, 0)) from HK3.out
    have hW := HW3.out.trans (Within.of_below (below_drewN (Below.refl w3.heap.size w3) nq))
    have hbp : b ≠ p := fun e => hps (by rw [← e]; rfl)
    have hvb : vo.ownBlock = some b ∨ w.heap.size ≤ b := HN.out b rfl
    have hys : ((rowVals L).drop ((L.length - limit) * 2)).take ((L.length - (L.length - limit)) * 2) = rowVals (keptL limit L) := by
      rw [rowVals_drop, List.take_of_length_le (by rw [rowVals_len, List.length_drop]; exact Nat.le_refl _)]; rfl
    have hkl : (keptL limit L).length = limit := by unfold keptL; rw [List.length_drop]; omega
    have hone : ∀ u ∈ rowVals L, u.oneCell' = true := H1L.out
    generalize hwa0 : w3.drewN nq = wa0 at *
    clear c0 c1 c3
    have c1 : wa0.cell? ⟨p, 1, none⟩ = some (.int .i64 limit) := blk_cell hK 1
    have c3 : wa0.cell? ⟨p, 3, none⟩ = some (.slice (some ⟨b, off, none⟩) L.length vc) := blk_cell hK 3
    obtain ⟨a1, hsl1, ha1⟩ := slice_l' (P := Tryz.prog) (size := 2) Tryz.underlying126 row_info b off L.length vc (L.length - limit) (by omega) hnc
    rw [show ((L.length - limit : Nat) : Int) = (L.length : Int) - (limit : Int) by omega] at hsl1
    go_upto_region 3 with fail
    go_still_tail 10, (by kernel_rfl)
    change wpList _ _ _ _ _ wa0.drew
    have hOa := show OwnC wa0.drew 0 2 (.slice (some ⟨b, off, none⟩) L.length vc) L.length (rowVals L) from hO
    have hKa := blk_drew hK
    have hWa := hW.trans (Within.of_below (Below.refl wa0.heap.size wa0).drew)
    clear c1 c3
    generalize hwa : wa0.drew = wa at *
    have hrd := reads_sub hOa (L.length - limit) L.length (vc - (L.length - limit)) a1 ha1 (by omega) (Nat.le_refl _)
    rw [hys] at hrd
    have hcp := copy_own (P := Tryz.prog) Tryz.underlying126 row_info hOa 0 L.length vc ⟨b, off, none⟩ (fun _ => by rw [Nat.zero_mul, Nat.add_zero]) (by omega) hrd (by intro u hu; exact hone u (by
      rw [← hys] at hu
      exact List.mem_of_mem_drop (List.mem_of_mem_take hu)))
    rw [List.take_of_length_le (by rw [rowVals_len, hkl, show Nat.min (L.length - (L.length - limit)) L.length = limit by show min (L.length - (L.length - limit)) L.length = limit; omega]; exact Nat.le_refl _), Nat.zero_mul, Nat.add_zero] at hcp
    have hOb := copy_owned hOa 0 (rowVals (keptL limit L)) (by rw [rowVals_len, hkl]; omega)
    rw [Nat.zero_mul, Nat.add_zero] at hOb
    have gb := gb_setCells wa b off (rowVals (keptL limit L))
    have hKb := blk_grown hKa gb (by intro e; injection e with e; exact hbp e.symm)
    have hWb := hWa.trans (Within.of_gb gb (fun k hk => by injection hk with hk; subst hk; exact .inr hvb))
    clear gb hOa hKa hWa
    generalize wa.setCells b off (rowVals (keptL limit L)) = wb at *
    have c1 : wb.cell? ⟨p, 1, none⟩ = some (.int .i64 limit) := blk_cell hKb 1
    have c3 : wb.cell? ⟨p, 3, none⟩ = some (.slice (some ⟨b, off, none⟩) L.length vc) := blk_cell hKb 3
    have hsl2 := slice_l (P := Tryz.prog) (size := 2) Tryz.underlying126 row_info b off L.length vc limit (by omega) (by omega)
    go_upto_region 4 with fail
    go_still_tail 9, (by kernel_rfl)
    change wpList _ _ _ _ _ wb.drew
    have hOc := show OwnC wb.drew 0 2 (.slice (some ⟨b, off, none⟩) L.length vc) L.length _ from hOb
    have hKc := blk_drew hKb
    have hWc := hWb.trans (Within.of_below (Below.refl wb.heap.size wb).drew)
    clear c1 c3
    generalize hwc : wb.drew = wc at *
    obtain ⟨zs, hzl, hcl⟩ := clear_own (P := Tryz.prog) (size := 2) Tryz.underlying126 zero_row rfl zero_one hOc limit (L.length - limit) (vc - limit) (by omega) (by omega) 0
    have hOd := copy_owned hOc limit zs (by rw [hzl, ← Nat.add_mul]; exact Nat.mul_le_mul_right _ (by omega))
    have gd := gb_setCells wc b (off + limit * 2) zs
    have hKd := blk_grown hKc gd (by intro e; injection e with e; exact hbp e.symm)
    have hWd := hWc.trans (Within.of_gb gd (fun k hk => by injection hk with hk; subst hk; exact .inr hvb))
    clear gd hOc hKc hWc
    generalize wc.setCells b (off + limit * 2) zs = wd at *
    have c1 : wd.cell? ⟨p, 1, none⟩ = some (.int .i64 limit) := blk_cell hKd 1
    have c3 : wd.cell? ⟨p, 3, none⟩ = some (.slice (some ⟨b, off, none⟩) L.length vc) := blk_cell hKd 3
    have hsl3 := slice_h (P := Tryz.prog) (size := 2) Tryz.underlying126 row_info (some ⟨b, off, none⟩) L.length vc limit (by omega)
    go_upto_region 5 with fail
    go_still_tail 12, (by kernel_rfl)
    change wpList _ _ _ _ _ wd.drew
    have hOe := show OwnC wd.drew 0 2 (.slice (some ⟨b, off, none⟩) L.length vc) L.length _ from hOd
    have hKe := blk_drew hKd
    have hWe := hWd.trans (Within.of_below (Below.refl wd.heap.size wd).drew)
    clear c1 c3
    generalize hwe : wd.drew = we at *
    have c3 : we.cell? ⟨p, 3, none⟩ = some (.slice (some ⟨b, off, none⟩) L.length vc) := blk_cell hKe 3
    have f3 : we.frozen? ⟨p, 3, none⟩ = false := blk_free hKe 3
    have gf : we.grownBy (we.setCell ⟨p, 3, none⟩ (.slice (some ⟨b, off, none⟩) limit vc)) (some p) := gb_set (gb_refl _ _) _ _
    have HKf := Lib.hid (show (we.setCell ⟨p, 3, none⟩ (.slice (some ⟨b, off, none⟩) limit vc)).heap[p]? = some (.cells #[.int .i64 cols, .int .i64 limit, vr, .slice (some ⟨b, off, none⟩) limit vc] 128 (0, 0)) from blk_set hKe 3 _)
    have HWf := Lib.hid (hWe.trans (Within.of_gb gf (fun k hk => .inl (by injection hk with hk; exact hk.symm))))
    have hOs := ownC_sub (ownC_grown hOe gf (fun k hk e => by simp [Value.ownBlock] at hk; injection e with e; omega)) 0 limit (Nat.zero_le _) (by omega)
    rw [Nat.zero_mul, Nat.add_zero, Nat.sub_zero, Nat.sub_zero, List.drop_zero] at hOs
    have hkv := kept_vals Lo Lk limit (by rw [hL]; omega) zs (by rw [hL]; exact hzl)
    rw [hL] at hkv
    rw [hkv] at hOs
    have HOs := Lib.hid hOs
    clear hOs hkv gf hOe
    go_wp2_with fail
    go_end0
    refine ⟨rfl, HWf.out, _, HKf.out, ?_, fun k hk => ?_⟩
    · rw [hL, hkl]; exact HOs.out
    · simp [Value.ownBlock] at hk
      subst hk
      exact hvb
end Go.Proofs.YtlfdgkiliegaiaaGreatDoor

/- Walks of package grid: Up. -/
namespace Go.Proofs.YtlfdgkiliegaiaaGreatDoor
open Go.RowKit

theorem regionN_pos {g : Gr} {top bottom n : Int} {s : Sty} (h : regionN g top bottom n s ≠ 0) : 0 ≤ top ∧ top ≤ bottom ∧ bottom < (g.rows.length : Int) ∧ okS s = true ∧ 1 ≤ regionN g top bottom n s ∧ (regionN g top bottom n s : Int) ≤ bottom - top + 1 := by
  unfold regionN at h ⊢
  split at h
  · exact absurd rfl h
  · rename_i hn
    rw [if_neg hn]
    have hok : okS s = true := by
      cases ho : okS s
      · exact absurd (.inr (.inr (.inr ho))) hn
      · rfl
    refine ⟨by omega, by omega, by omega, hok, by omega, by omega⟩
theorem cats_one {T : Nat → Nat} {w : World} {L : List (Value × Rw)} (h : ∀ x ∈ L, CAt T w x) : ∀ u ∈ rowVals L, u.oneCell' = true := rowVals_one L fun x hx => by
  obtain ⟨a, c, e⟩ := ownC_sl (h x hx).own
  exact ⟨a, _, c, e⟩
/-- The rows of the screen behind a scroll up. -/
def upL {α : Type} (L : List α) (t b n : Nat) (F : List α) : List α := putAt (putAt L t ((L.drop (t + n)).take (b + 1 - (t + n)))) (b + 1 - n) F
theorem upL_eq {α : Type} (L F : List α) (t b n : Nat) (h1 : t ≤ b) (h2 : b < L.length) (h3 : 1 ≤ n) (h4 : n ≤ b + 1 - t) (hF : F.length = n) : upL L t b n F = L.take t ++ (L.drop (t + n)).take (b + 1 - t - n) ++ F ++ L.drop (b + 1) := by
  unfold upL
  have hM : ((L.drop (t + n)).take (b + 1 - (t + n))).length = b + 1 - t - n := by rw [List.length_take, List.length_drop]; omega
  have ht : (L.take t).length = t := by rw [List.length_take]; omega
  have e : b + 1 - (t + n) = b + 1 - t - n := by omega
  rw [e] at hM ⊢
  generalize (L.drop (t + n)).take (b + 1 - t - n) = M at *
  unfold putAt
  rw [hM, hF, show t + (b + 1 - t - n) = b + 1 - n by omega]
  rw [List.take_append_of_le_length (by rw [List.length_append, hM, ht]; omega), List.take_of_length_le (by rw [List.length_append, hM, ht]; omega)]
  congr 1
  rw [List.drop_append, List.drop_eq_nil_of_le (by rw [List.length_append, hM, ht]; omega), List.nil_append, List.drop_drop, List.length_append, hM, ht]
  congr 1; omega
/-- A grid laid anew out of what was its own and what is new. -/
theorem gat_build {T : Nat → Nat} {p : Nat} {w w' : World} {g' : Gr} {vr vo : Value} {Lr Lo : List (Value × Rw)} (hlt : ∀ k, T k ≠ 0 → k < w.heap.size) (tp : T p = 1) (hsz : w.heap.size ≤ w'.heap.size)
    (blk : w'.heap[p]? = some (.cells #[.int .i64 g'.cols, .int .i64 g'.limit, vr, vo] 128 (0, 0))) (rr : OwnC w' 0 2 vr Lr.length (rowVals Lr)) (ro : OwnC w' 0 2 vo Lo.length (rowVals Lo))
    (tr : ∀ k, vr.ownBlock = some k → T k = 2 ∨ (w.heap.size ≤ k ∧ vo.ownBlock ≠ some k)) (tv : ∀ k, vo.ownBlock = some k → T k = 3 ∨ w.heap.size ≤ k)
    (ca : ∀ x ∈ Lr ++ Lo, OwnC w' 0 5 x.1 x.2.cells.length (cvals x.2.cells) ∧ ∃ q, x.1.ownBlock = some q ∧ ((q < w.heap.size ∧ T q = 10 + q) ∨ (w.heap.size ≤ q ∧ vo.ownBlock ≠ some q ∧ vr.ownBlock ≠ some q)))
    (nd : ((Lr ++ Lo).map (·.1.ownBlock)).Nodup) (er : Lr.map (·.2) = g'.rows) (eo : Lo.map (·.2) = g'.old) (wf : g'.WF) :
    ∃ T', GM T' p w' g' ∧ ∀ k, T' k ≠ 0 → own T w k := by
  have hpl : p < w.heap.size := hlt p (by rw [tp]; decide)
  refine ⟨fun k => if vr.ownBlock = some k then 2 else if vo.ownBlock = some k then 3 else if w.heap.size ≤ k ∧ k < w'.heap.size then 10 + k else T k, ⟨vr, vo, Lr, Lo, ⟨fun k hk => ?_, blk, ?_, ⟨rr, fun k hk => by show (if _ then _ else _) = 2; rw [if_pos hk]⟩, ⟨ro, fun k hk => ?_⟩, er, eo, fun x hx => ?_, nd, wf⟩⟩, fun k hk => ?_⟩
  · show k < w'.heap.size
    by_cases h1 : vr.ownBlock = some k
    · exact (ownC_lt rr k h1).2
    · by_cases h2 : vo.ownBlock = some k
      · exact (ownC_lt ro k h2).2
      · simp only [if_neg h1, if_neg h2] at hk
        by_cases h3 : w.heap.size ≤ k ∧ k < w'.heap.size
        · exact h3.2
        · rw [if_neg h3] at hk
          exact Nat.lt_of_lt_of_le (hlt k hk) hsz
  · show (if _ then _ else _) = 1
    rw [if_neg (fun e => by rcases tr p e with h | h <;> omega), if_neg (fun e => by rcases tv p e with h | h <;> omega), if_neg (by omega)]
    exact tp
  · show (if _ then _ else _) = 3
    have h1 : vr.ownBlock ≠ some k := fun e => by
      rcases tr k e with h | h
      · rcases tv k hk with h' | h'
        · omega
        · have := hlt k (by omega); omega
      · exact h.2 hk
    rw [if_neg h1, if_pos hk]
  · obtain ⟨h1, q, hq, h2⟩ := ca x hx
    refine ⟨h1, q, hq, ?_⟩
    show (if _ then _ else _) = 10 + q
    rcases h2 with ⟨hql, hqt⟩ | ⟨hql, hn1, hn2⟩
    · rw [if_neg (fun e => by rcases tr q e with h | h <;> omega), if_neg (fun e => by rcases tv q e with h | h <;> omega), if_neg (by omega)]
      exact hqt
    · rw [if_neg hn2, if_neg hn1, if_pos ⟨hql, (ownC_lt h1 q hq).2⟩]
  · by_cases h1 : vr.ownBlock = some k
    · rcases tr k h1 with h | h
      · exact .inl (by omega)
      · exact .inr h.1
    · by_cases h2 : vo.ownBlock = some k
      · rcases tv k h2 with h | h
        · exact .inl (by omega)
        · exact .inr h
      · simp only [if_neg h1, if_neg h2] at hk
        by_cases h3 : w.heap.size ≤ k ∧ k < w'.heap.size
        · exact .inr h3.1
        · rw [if_neg h3] at hk
          exact .inl hk
/-- Nothing is there twice, in what is left and what is new. -/
theorem up_nodup (Lr Lo Lf Lo' : List (Value × Rw)) (t b n B : Nat) (h1 : t ≤ b) (_h2 : b < Lr.length) (h4 : n ≤ b + 1 - t) (hnd : ((Lr ++ Lo).map (·.1.ownBlock)).Nodup) (hlt : ∀ x ∈ Lr ++ Lo, ∀ k, x.1.ownBlock = some k → k < B)
    (hf : (Lf.map (·.1.ownBlock)).Nodup) (hfB : ∀ x ∈ Lf, ∃ k, x.1.ownBlock = some k ∧ B ≤ k) (hs : Lo'.Sublist (Lo ++ (Lr.drop t).take n)) :
    (((Lr.take t ++ (Lr.drop (t + n)).take (b + 1 - t - n) ++ Lf ++ Lr.drop (b + 1)) ++ Lo').map (·.1.ownBlock)).Nodup := by
  have hL : Lr = Lr.take t ++ ((Lr.drop t).take n ++ ((Lr.drop (t + n)).take (b + 1 - t - n) ++ Lr.drop (b + 1))) := by
    have e1 : Lr.drop (t + n) = (Lr.drop (t + n)).take (b + 1 - t - n) ++ Lr.drop (b + 1) := by
      have := (List.take_append_drop (b + 1 - t - n) (Lr.drop (t + n))).symm
      rwa [List.drop_drop, show t + n + (b + 1 - t - n) = b + 1 by omega] at this
    have e2 : Lr.drop t = (Lr.drop t).take n ++ Lr.drop (t + n) := by
      have := (List.take_append_drop n (Lr.drop t)).symm
      rwa [List.drop_drop] at this
    rw [← e1, ← e2, List.take_append_drop]
  generalize hA : Lr.take t = A at *
  generalize hF : (Lr.drop t).take n = O at *
  generalize hM : (Lr.drop (t + n)).take (b + 1 - t - n) = M at *
  generalize hD : Lr.drop (b + 1) = D at *
  have p1 : (Lr ++ Lo).Perm ((A ++ M ++ D) ++ (Lo ++ O)) := by
    rw [hL]
    have q1 : (A ++ (O ++ (M ++ D)) ++ Lo).Perm (A ++ ((M ++ D) ++ O) ++ Lo) := List.Perm.append_right _ (List.Perm.append_left _ List.perm_append_comm)
    refine q1.trans ?_
    have q2 : (A ++ ((M ++ D) ++ O) ++ Lo) = (A ++ M ++ D) ++ (O ++ Lo) := by simp
    rw [q2]
    exact List.Perm.append_left _ List.perm_append_comm
  have n1 : (((A ++ M ++ D) ++ (Lo ++ O)).map (·.1.ownBlock)).Nodup := (p1.map _).nodup_iff.1 hnd
  have n2 : (((A ++ M ++ D) ++ Lo').map (·.1.ownBlock)).Nodup := n1.sublist ((List.Sublist.append_left hs _).map _)
  have p2 : ((A ++ M ++ Lf ++ D) ++ Lo').Perm (((A ++ M ++ D) ++ Lo') ++ Lf) := by
    have q1 : ((A ++ M ++ Lf ++ D) ++ Lo') = (A ++ M) ++ (Lf ++ (D ++ Lo')) := by simp
    have q2 : (((A ++ M ++ D) ++ Lo') ++ Lf) = (A ++ M) ++ ((D ++ Lo') ++ Lf) := by simp
    rw [q1, q2]
    exact List.Perm.append_left _ List.perm_append_comm
  refine (p2.map _).nodup_iff.2 ?_
  rw [List.map_append, List.nodup_append]
  refine ⟨n2, hf, fun a ha c hc e => ?_⟩
  obtain ⟨x, hx, rfl⟩ := List.mem_map.1 ha
  obtain ⟨y, hy, rfl⟩ := List.mem_map.1 hc
  obtain ⟨k, hk, hkB⟩ := hfB y hy
  have hx' : x ∈ (A ++ M ++ D) ++ (Lo ++ O) := by
    rcases List.mem_append.1 hx with h | h
    · exact List.mem_append_left _ h
    · exact List.mem_append_right _ (hs.subset h)
  have := hlt x (p1.mem_iff.2 hx') k (by rw [e]; exact hk)
  omega
end Go.Proofs.YtlfdgkiliegaiaaGreatDoor

/- Walks of package grid: Up. -/
namespace Go.Proofs.YtlfdgkiliegaiaaGreatDoor
open Go.RowKit

theorem up_wf {g : Gr} (h : g.WF) (t b n : Nat) (s : Sty) (k : Bool) (h1 : t ≤ b) (h2 : b < g.rows.length) (h4 : n ≤ b + 1 - t) :
    (⟨g.cols, g.limit, upRows g.rows t b n g.cols s, if k = true ∧ t = 0 then keepL g.limit (g.old ++ (g.rows.drop t).take n) else g.old⟩ : Gr).WF := by
  refine ⟨h.c1, h.c2, by show 1 ≤ (upRows _ _ _ _ _ _).length; rw [up_len h1 h2 h4]; exact h.r1, by show (upRows _ _ _ _ _ _).length ≤ 120; rw [up_len h1 h2 h4]; exact h.r2, h.li, ?_, fun r hr => ?_⟩
  · show (if _ then _ else _ : List Rw).length ≤ g.limit
    split
    · unfold keepL; rw [List.length_drop]; omega
    · exact h.ol
  · have hf : ∀ r ∈ freshL n g.cols s, r.cells.length = g.cols ∧ ∀ c ∈ r.cells, c.Ok := fun r hr => by
      rw [List.eq_of_mem_replicate hr]
      refine ⟨List.length_replicate, fun c hc => ?_⟩
      rw [List.eq_of_mem_replicate hc]; exact blank_ok s
    rcases List.mem_append.1 hr with hr | hr
    · have hr' : r ∈ upRows g.rows t b n g.cols s := hr
      unfold upRows at hr'
      rcases List.mem_append.1 hr' with hr' | hr'
      · rcases List.mem_append.1 hr' with hr' | hr'
        · rcases List.mem_append.1 hr' with hr' | hr'
          · exact h.ce r (List.mem_append_left _ (List.mem_of_mem_take hr'))
          · exact h.ce r (List.mem_append_left _ (List.mem_of_mem_drop (List.mem_of_mem_take hr')))
        · exact hf r hr'
      · exact h.ce r (List.mem_append_left _ (List.mem_of_mem_drop hr'))
    · have hr' : r ∈ (if k = true ∧ t = 0 then keepL g.limit (g.old ++ (g.rows.drop t).take n) else g.old) := hr
      split at hr'
      · unfold keepL at hr'
        rcases List.mem_append.1 (List.mem_of_mem_drop hr') with hr' | hr'
        · exact h.ce r (List.mem_append_right _ hr')
        · exact h.ce r (List.mem_append_left _ (List.mem_of_mem_drop (List.mem_of_mem_take hr')))
      · exact h.ce r (List.mem_append_right _ hr')
set_option maxRecDepth 100000 in
set_option maxHeartbeats 8000000 in
theorem up_any {T : Nat → Nat} {p : Nat} {w : World} {g : Gr} (h : GM T p w g) (top bottom n : Int) (s : Sty) (hs : RightIn w s) (keep : Bool) :
    Calls Tryz.prog 208 #[.pointer (some ⟨p, 0, none⟩), .int .i64 top, .int .i64 bottom, .int .i64 n, s.val, .bool keep] w fun e w' => e = .returned (.tuple #[]) ∧ Within (own T w) w w' ∧ ∃ T', GM T' p w' (g.up top bottom n s keep) ∧ ∀ k, T' k ≠ 0 → own T w k := by
  have hBz := Below.alloc (Below.refl w.heap.size w) (Nat.le_refl _) (.cells #[.int .i64 s.fg, .int .i64 s.bg, .int .i64 s.attr] 35)
  have hbk0 := blk_new w (.cells #[.int .i64 s.fg, .int .i64 s.bg, .int .i64 s.attr] 35)
  have H0 := Lib.hid h
  have HG := Lib.hid (h.below hBz)
  clear h
  have HRG := Lib.hid (region_any HG.out top bottom n s (hs.below hBz))
  unfold Sty.val at HRG
  by_cases hR0 : regionN g top bottom n s = 0
  · have HE := Lib.hid (show g.up top bottom n s keep = g by unfold Gr.up; rw [if_pos hR0])
    rw [hR0] at HRG
    unfold Sty.val
    go_enter Tryz.func208, Tryz.ntmps208
    go_wp2_with fail
    refine HRG.out.mono ?_
    rintro e w2 ⟨rfl, b2⟩
    have HB2 := Lib.hid (hBz.trans (b2.mono (by simp)))
    clear b2
    go_wp2_with fail
    refine ret0w rfl rfl ⟨rfl, Within.of_below HB2.out, T, ?_, fun k hk => .inl hk⟩
    rw [HE.out]
    exact H0.out.below HB2.out
  obtain ⟨k1, k2, k3, hok, k5, k6⟩ := regionN_pos hR0
  have HEU := Lib.hid (show g.up top bottom n s keep = _ by unfold Gr.up; rw [if_neg hR0])
  generalize hRR : regionN g top bottom n s = R at *
  obtain ⟨t, rfl⟩ : ∃ t : Nat, top = (t : Int) := ⟨top.toNat, by omega⟩
  obtain ⟨b, rfl⟩ : ∃ b : Nat, bottom = (b : Int) := ⟨bottom.toNat, by omega⟩
  have hR1 : 1 ≤ R := by omega
  have hR2 : R ≤ b + 1 - t := by omega
  have htb : t ≤ b := by omega
  have hwf := H0.out.wf
  have hrl := hwf.r2
  have hcl := hwf.c2
  have hll := hwf.li
  have hol := hwf.ol
  have dR : ((R : Int) == 0) = false := beq_eq_false_iff_ne.2 (by omega)
  have dR' : (R == 0) = false := beq_eq_false_iff_ne.2 (by omega)
  clear hRR k1 k2 k6 hR0
  unfold Sty.val
  go_enter Tryz.func208, Tryz.ntmps208
  go_wp2_with fail
  refine HRG.out.mono ?_
  rintro e w2 ⟨rfl, b2⟩
  have HB2 := Lib.hid (hBz.trans (b2.mono (by simp)))
  have HK2 := Lib.hid (blk_below hbk0 b2 (by simp))
  have hs2 : w.heap.size < w2.heap.size := heap_lt HK2.out
  obtain ⟨vr, vo, Lr, Lo, hA0⟩ := H0.out
  have hA2 := hA0.mod (.of_below HB2.out) id id id (fun _ => id)
  have HA2 := Lib.hid hA2
  have hlen := (rows_len hA0).1
  have hleno := (rows_len hA0).2
  obtain ⟨bo, off, c, rfl, hnc, hcm⟩ := ownC_pos hA2.rr.own (by omega)
  have hbot : T bo = 2 := hA2.rr.tag bo rfl
  have hptag : T p = 1 := hA2.tp
  have hbop : bo ≠ p := fun e => by rw [e] at hbot; omega
  have hplt : p < w.heap.size := hA0.lt p (by omega)
  have hbolt : bo < w.heap.size := hA0.lt bo (by omega)
  have hbl : b < Lr.length := by omega
  clear hlen b2 HRG HG hbk0 hBz
  obtain ⟨c0, c1, c2, c3⟩ := gm_cells hA2
  have hone := cats_one (fun x hx => hA2.ca x (List.mem_append_left _ hx))
  have hoff : ((Lr.drop t).take R).length = R := by rw [List.length_take, List.length_drop]; omega
  have hrd := ownC_reads (ownC_sub hA2.rr.own t (t + R) (by omega) (by omega))
  rw [show t + R - t = R by omega, rowVals_drop, rowVals_take] at hrd
  have hsl1 := slice_lh (P := Tryz.prog) (size := 2) Tryz.underlying126 row_info bo off Lr.length c t (t + R) (by omega) (by omega) (by omega)
  rw [show t + R - t = R by omega, show ((t + R : Nat) : Int) = (t : Int) + (R : Int) by omega] at hsl1
  have HCL := Lib.hid (cloneR_any ((Lr.drop t).take R) ⟨bo, off + t * 2, none⟩ (c - t) w2 (by rw [hoff]; exact hrd) (fun u hu => hone u (by
    rw [← rowVals_take, ← rowVals_drop] at hu
    exact List.mem_of_mem_drop (List.mem_of_mem_take hu))) (by rw [hoff]; omega))
  rw [hoff] at HCL
  go_wp2_with fail
  refine HCL.out.mono ?_
  rintro e w3 ⟨ov, rfl, b3, o3⟩
  have HOV3 := Lib.hid o3
  have HB3 := Lib.hid (HB2.out.trans (b3.mono HB2.out.size))
  have hA3 := HA2.out.mod (.of_below b3) id id id (fun _ => id)
  have HK3 := Lib.hid (blk_below HK2.out b3 hs2)
  have hs3 := b3.size
  clear c0 c1 c2 c3 b3 o3 HCL hA2 hrd hsl1
  have HA3 := Lib.hid hA3
  obtain ⟨c0, c1, c2, c3⟩ := gm_cells hA3
  have hw1 : IntKind.i64.wrap ((b : Int) + 1) = (b : Int) + 1 := wrap64_id _ (by omega) (by omega)
  have hw2 : IntKind.i64.wrap ((t : Int) + (R : Int)) = (t : Int) + (R : Int) := wrap64_id _ (by omega) (by omega)
  have hsl1 := slice_lh (P := Tryz.prog) (size := 2) Tryz.underlying126 row_info bo off Lr.length c t (b + 1) (by omega) (by omega) (by omega)
  rw [show ((b + 1 : Nat) : Int) = (b : Int) + 1 by omega] at hsl1
  obtain ⟨a2, hsl2, ha2⟩ := slice_lh' (P := Tryz.prog) (size := 2) Tryz.underlying126 row_info bo off Lr.length c (t + R) (b + 1) (by omega) (by omega)
  rw [show ((b + 1 : Nat) : Int) = (b : Int) + 1 by omega, show ((t + R : Nat) : Int) = (t : Int) + (R : Int) by omega] at hsl2
  go_upto_region 4 with fail
  go_still_tail 18, (by kernel_rfl)
  change wpList _ _ _ _ _ w3.drew
  have hA4 := hA3.mod (.of_below (Below.refl _ _).drew) id id id (fun _ => id)
  have HOV4 := Lib.hid (show OwnC w3.drew w2.heap.size 2 ov R _ from HOV3.out)
  have HK4 := Lib.hid (blk_drew HK3.out)
  have HB4 := Lib.hid HB3.out.drew
  have hs4 : w3.drew.heap.size = w3.heap.size := rfl
  clear c0 c1 c2 c3 hA3 HA3 HK3 HB3 HOV3 HA2 HK2
  generalize hw4 : w3.drew = w4 at *
  have HA4 := Lib.hid hA4
  have hM : ((Lr.drop (t + R)).take (b + 1 - (t + R))).length = b + 1 - (t + R) := by rw [List.length_take, List.length_drop]; omega
  have hrd2 := reads_sub hA4.rr.own (t + R) (b + 1) (c - (t + R)) a2 ha2 (by omega) (by omega)
  rw [rowVals_drop, rowVals_take] at hrd2
  have hcp := copy_own (P := Tryz.prog) Tryz.underlying126 row_info hA4.rr.own t (b + 1 - t) (c - t) ⟨bo, off + t * 2, none⟩ (fun _ => rfl) (by omega) hrd2 (fun u hu => hone u (by
    rw [← rowVals_take, ← rowVals_drop] at hu
    exact List.mem_of_mem_drop (List.mem_of_mem_take hu)))
  rw [List.take_of_length_le (by rw [rowVals_len, hM, show Nat.min (b + 1 - (t + R)) (b + 1 - t) = b + 1 - (t + R) by show min (b + 1 - (t + R)) (b + 1 - t) = _; omega]; exact Nat.le_refl _)] at hcp
  have ho5 := copy_owned hA4.rr.own t (rowVals ((Lr.drop (t + R)).take (b + 1 - (t + R)))) (by rw [rowVals_len, hM]; omega)
  rw [← rowVals_put] at ho5
  have g5 := gb_setCells w4 bo (off + t * 2) (rowVals ((Lr.drop (t + R)).take (b + 1 - (t + R))))
  have m5 : Mod T (fun x => x = 2) w4 (w4.setCells bo (off + t * 2) (rowVals ((Lr.drop (t + R)).take (b + 1 - (t + R))))) := Mod.of_gb g5 (fun k hk => by injection hk with hk; subst hk; exact hbot)
  have hKp5 := (m5.block p (heap_lt hA4.blk) (by rw [hptag]; decide)).trans hA4.blk
  have HRO5 := Lib.hid (hA4.ro.mod m5 (by decide))
  have HCA5 := Lib.hid (show ∀ x ∈ Lr ++ Lo, CAt T (w4.setCells bo (off + t * 2) (rowVals ((Lr.drop (t + R)).take (b + 1 - (t + R))))) x from fun x hx => (hA4.ca x hx).mod m5 (fun k _ => by omega))
  have hvb : ∀ k, ov.ownBlock = some k → bo ≠ k := fun k hk => by
    have := (ownC_lt HOV4.out k hk).1; omega
  have HOV5 := Lib.hid (ownC_grown HOV4.out g5 (fun k hk e => hvb k hk (by injection e)))
  have HK5 := Lib.hid (blk_grown HK4.out g5 (by intro e; injection e with e; omega))
  have HW5 := Lib.hid ((Within.of_below (G := own T w) HB4.out).trans (Within.of_gb g5 (fun k hk => by injection hk with hk; subst hk; exact .inl (by omega))))
  have hs5 := size_setCells w4 bo (off + t * 2) (rowVals ((Lr.drop (t + R)).take (b + 1 - (t + R))))
  have HO5 := Lib.hid ho5
  have HKP5 := Lib.hid hKp5
  clear g5 m5 hA4 ho5 hKp5 hrd2 HOV4 HK4 HB4
  generalize w4.setCells bo (off + t * 2) (rowVals ((Lr.drop (t + R)).take (b + 1 - (t + R)))) = w5 at *
  have c0 : w5.cell? ⟨p, 0, none⟩ = some (.int .i64 g.cols) := blk_cell HKP5.out 0
  have c2 : w5.cell? ⟨p, 2, none⟩ = some (.slice (some ⟨bo, off, none⟩) Lr.length c) := blk_cell HKP5.out 2
  have q0 : w5.cell? ⟨w.heap.size, 0, none⟩ = some (.int .i64 s.fg) := blk_cell HK5.out 0
  have q1 : w5.cell? ⟨w.heap.size, 1, none⟩ = some (.int .i64 s.bg) := blk_cell HK5.out 1
  have q2 : w5.cell? ⟨w.heap.size, 2, none⟩ = some (.int .i64 s.attr) := blk_cell HK5.out 2
  have hw3 : IntKind.i64.wrap ((b : Int) + 1 - (R : Int)) = (b : Int) + 1 - (R : Int) := wrap64_id _ (by omega) (by omega)
  have hsl3 := slice_l (P := Tryz.prog) (size := 2) Tryz.underlying126 row_info bo off Lr.length c (b + 1 - R) (by omega) (by omega)
  rw [show ((b + 1 - R : Nat) : Int) = (b : Int) + 1 - (R : Int) by omega] at hsl3
  have hs5d : w5.drew.heap.size = w5.heap.size := rfl
  have HO5d := Lib.hid (show OwnC w5.drew 0 2 (.slice (some ⟨bo, off, none⟩) Lr.length c) Lr.length (rowVals (putAt Lr t ((Lr.drop (t + R)).take (b + 1 - (t + R))))) from HO5.out)
  have hpl5 : p < w5.heap.size := heap_lt HKP5.out
  have hql5 : w.heap.size < w5.heap.size := heap_lt HK5.out
  have hbo5 : bo < w5.heap.size := by omega
  have hpq : p ≠ w.heap.size := by omega
  have hbq : bo ≠ w.heap.size := by omega
  go_upto_region 5 with fail
  go_region_held3 (fun w' => w'.cell? ⟨p, 0, none⟩ = some (.int .i64 g.cols) ∧ w'.cell? ⟨p, 2, none⟩ = some (.slice (some ⟨bo, off, none⟩) Lr.length c) ∧ w'.cell? ⟨w.heap.size, 0, none⟩ = some (.int .i64 s.fg) ∧ w'.cell? ⟨w.heap.size, 1, none⟩ = some (.int .i64 s.bg) ∧ w'.cell? ⟨w.heap.size, 2, none⟩ = some (.int .i64 s.attr)) (go_keep)
    (first
      | (go_at_call 83
         refine (fresh_any R g.cols s _ (by omega) (by omega)).mono ?_
         rintro e w6 ⟨fv, Lf, rfl, b6, hLf, hRf⟩
         have hLfl : Lf.length = R := by
           have := congrArg List.length hLf
           rw [List.length_map] at this
           rw [this]; unfold freshL; rw [List.length_replicate]
         obtain ⟨fa, fc, rfl⟩ := ownC_sl hRf.own
         have hbk6 := blk_below (blk_drew HK5.out) b6 hql5
         have hkp6 := blk_below (blk_drew HKP5.out) b6 hpl5
         have ho6 := ownC_below HO5d.out b6
         have z0 : w6.cell? ⟨p, 0, none⟩ = some (.int .i64 g.cols) := blk_cell hkp6 0
         have z1 : w6.cell? ⟨p, 2, none⟩ = some (.slice (some ⟨bo, off, none⟩) Lr.length c) := blk_cell hkp6 2
         have z2 : w6.cell? ⟨w.heap.size, 0, none⟩ = some (.int .i64 s.fg) := blk_cell hbk6 0
         have z3 : w6.cell? ⟨w.heap.size, 1, none⟩ = some (.int .i64 s.bg) := blk_cell hbk6 1
         have z4 : w6.cell? ⟨w.heap.size, 2, none⟩ = some (.int .i64 s.attr) := blk_cell hbk6 2
         have hmin : Nat.min Lf.length (Lr.length - (b + 1 - R)) = Lf.length := by show min Lf.length (Lr.length - (b + 1 - R)) = _; omega
         have hcp6 := copy_own (P := Tryz.prog) Tryz.underlying126 row_info ho6 (b + 1 - R) (Lr.length - (b + 1 - R)) (c - (b + 1 - R)) ⟨bo, off + (b + 1 - R) * 2, none⟩ (fun _ => rfl) (by omega) (ownC_reads hRf.own) (rowVals_one Lf (fun x hx => by
           obtain ⟨xa, xc, e⟩ := ownC_sl (hRf.cells x hx)
           exact ⟨xa, _, xc, e⟩))
         rw [hmin, List.take_of_length_le (by rw [rowVals_len]; exact Nat.le_refl _)] at hcp6
         have g7 := gb_setCells w6 bo (off + (b + 1 - R) * 2) (rowVals Lf)
         have hbk7 := blk_grown hbk6 g7 (by intro e; injection e with e; exact hbq e.symm)
         have hkp7 := blk_grown hkp6 g7 (by intro e; injection e with e; exact hbop e.symm)
         have y0 : (w6.setCells bo (off + (b + 1 - R) * 2) (rowVals Lf)).cell? ⟨p, 0, none⟩ = some (.int .i64 g.cols) := blk_cell hkp7 0
         have y1 : (w6.setCells bo (off + (b + 1 - R) * 2) (rowVals Lf)).cell? ⟨p, 2, none⟩ = some (.slice (some ⟨bo, off, none⟩) Lr.length c) := blk_cell hkp7 2
         have y2 : (w6.setCells bo (off + (b + 1 - R) * 2) (rowVals Lf)).cell? ⟨w.heap.size, 0, none⟩ = some (.int .i64 s.fg) := blk_cell hbk7 0
         have y3 : (w6.setCells bo (off + (b + 1 - R) * 2) (rowVals Lf)).cell? ⟨w.heap.size, 1, none⟩ = some (.int .i64 s.bg) := blk_cell hbk7 1
         have y4 : (w6.setCells bo (off + (b + 1 - R) * 2) (rowVals Lf)).cell? ⟨w.heap.size, 2, none⟩ = some (.int .i64 s.attr) := blk_cell hbk7 2
         have HB6 := Lib.hid b6
         have HLf := Lib.hid hLf
         have HRF := Lib.hid hRf
         have HO6 := Lib.hid ho6
         have HKP7 := Lib.hid hkp7
         have HG7 := Lib.hid g7
         have HLL := Lib.hid hLfl
         clear b6 hLf hRf hbk6 hkp6 ho6 hbk7 hkp7 g7 hmin hLfl))
  have hs6 := HB6.out.size
  have hLfl := HLL.out
  have m7 : Mod T (fun x => x = 2) w6 (w6.setCells bo (off + (b + 1 - R) * 2) (rowVals Lf)) := Mod.of_gb HG7.out (fun k hk => by injection hk with hk; subst hk; exact hbot)
  have hm6 : Mod T (fun _ => False) w5 w6 := Mod.of_below ((Below.refl w5.heap.size w5).drew.trans HB6.out)
  have HCA7 := Lib.hid (show ∀ x ∈ Lr ++ Lo, CAt T (w6.setCells bo (off + (b + 1 - R) * 2) (rowVals Lf)) x from fun x hx => ((HCA5.out x hx).mod hm6 (fun _ _ => id)).mod m7 (fun k _ => by omega))
  have HRO7 := Lib.hid ((HRO5.out.mod hm6 id).mod m7 (by decide))
  have hrr := copy_owned HO6.out (b + 1 - R) (rowVals Lf) (by rw [rowVals_len]; omega)
  rw [← rowVals_put] at hrr
  have HRR7 := Lib.hid hrr
  have hfq : ∀ x ∈ Lf, ∃ q, x.1.ownBlock = some q ∧ w5.heap.size ≤ q := fun x hx => by
    obtain ⟨q, e1, _⟩ := HRF.out.ap x hx
    exact ⟨q, e1, (ownC_lt (HRF.out.cells x hx) q e1).1⟩
  have HFQ := Lib.hid hfq
  have HFC7 := Lib.hid (show ∀ x ∈ Lf, OwnC (w6.setCells bo (off + (b + 1 - R) * 2) (rowVals Lf)) 0 5 x.1 x.2.cells.length (cvals x.2.cells) from fun x hx => ownC_mono (ownC_grown (HRF.out.cells x hx) HG7.out (fun k hk e => by
    obtain ⟨q, e1, e2⟩ := hfq x hx
    rw [e1] at hk; injection hk with hk; injection e with e; omega)) (Nat.zero_le _))
  have HOV7 := Lib.hid (show OwnC (w6.setCells bo (off + (b + 1 - R) * 2) (rowVals Lf)) w2.heap.size 2 ov R _ from ownC_grown (ownC_below (show OwnC w5.drew w2.heap.size 2 ov R _ from HOV5.out) HB6.out) HG7.out (fun k hk e => hvb k hk (by injection e)))
  have HW7 := Lib.hid (((HW5.out.trans (Within.of_below (Below.refl w5.heap.size w5).drew)).trans (Within.of_below HB6.out)).trans (Within.of_gb HG7.out (fun k hk => by injection hk with hk; subst hk; exact .inl (by omega))))
  have hs7 := size_setCells w6 bo (off + (b + 1 - R) * 2) (rowVals Lf)
  have HND := Lib.hid HRF.out.nd
  have HL0 := Lib.hid hA0
  clear hcp6 y0 y1 y2 y3 y4 z0 z1 z2 z3 z4 m7 hm6 hrr hfq q0 q1 q2 c0 c2 HO5d HO6 HRO5 HCA5 HOV5 HO5 HB6 HRF HG7 HW5 HK5 HKP5 hA0 hsl3 hcp hsl1 hsl2
  generalize w6.setCells bo (off + (b + 1 - R) * 2) (rowVals Lf) = w7 at *
  have HU := Lib.hid (upL_eq Lr Lf t b R htb hbl hR1 hR2 hLfl)
  have HER := Lib.hid (show (upL Lr t b R Lf).map (·.2) = upRows g.rows t b R g.cols s by
    rw [HU.out]
    unfold upRows
    rw [List.map_append, List.map_append, List.map_append, List.map_take, List.map_take, List.map_drop, List.map_drop, HL0.out.er, HLf.out])
  have HUL := Lib.hid (show (upL Lr t b R Lf).length = Lr.length by
    unfold upL
    rw [putAt_len _ _ _ (by rw [putAt_len _ _ _ (by rw [hM]; omega)]; omega), putAt_len _ _ _ (by rw [hM]; omega)])
  have HUM := Lib.hid (show ∀ x ∈ upL Lr t b R Lf, x ∈ Lr ∨ x ∈ Lf from fun x hx => by
    unfold upL at hx
    rcases putAt_mem hx with hx | hx
    · rcases putAt_mem hx with hx | hx
      · exact .inl hx
      · exact .inl (List.mem_of_mem_drop (List.mem_of_mem_take hx))
    · exact .inr hx)
  have hszall : w.heap.size ≤ w7.heap.size := by omega
  have HBUILD := Lib.hid (show ∀ (w' : World) (vo' : Value) (Lo' : List (Value × Rw)) (g' : Gr), w7.heap.size ≤ w'.heap.size → Within (fun k => k = p ∨ vo.ownBlock = some k ∨ w7.heap.size ≤ k) w7 w' → g'.cols = g.cols → g'.limit = g.limit → g'.rows = upRows g.rows t b R g.cols s →
      w'.heap[p]? = some (.cells #[.int .i64 g.cols, .int .i64 g.limit, .slice (some ⟨bo, off, none⟩) Lr.length c, vo'] 128 (0, 0)) → OwnC w' 0 2 vo' Lo'.length (rowVals Lo') → (∀ k, vo'.ownBlock = some k → vo.ownBlock = some k ∨ w7.heap.size ≤ k) → Lo'.Sublist (Lo ++ (Lr.drop t).take R) → Lo'.map (·.2) = g'.old → g'.WF →
      Within (own T w) w w' ∧ ∃ T', GM T' p w' g' ∧ ∀ k, T' k ≠ 0 → own T w k from fun w' vo' Lo' g' hsz' hw' e1 e2 e3 hk' ho' hv' hsub eo' wf' => by
    have hvot : ∀ k, vo.ownBlock = some k → T k = 3 := HL0.out.ro.tag
    have hT0 : ∀ k, T k ≠ 0 → k < w.heap.size := HL0.out.lt
    have m' : Mod T (fun x => x = 1 ∨ x = 3) w7 w' := ⟨hw'.os, hw'.tape, hw'.output, hw'.size, fun k hk hn => hw'.block k hk (fun e => by
      rcases e with e | e | e
      · subst e; exact hn (.inl hptag)
      · exact hn (.inr (hvot k e))
      · omega)⟩
    have hnew : ∀ k, w.heap.size ≤ k → k < w7.heap.size → w'.heap[k]? = w7.heap[k]? := fun k hk hk2 => hw'.block k hk2 (fun e => by
      rcases e with e | e | e
      · omega
      · have := hT0 k (by rw [hvot k e]; decide); omega
      · omega)
    refine ⟨HW7.out.trans (hw'.mono (fun k hk => by
      rcases hk with e | e | e
      · subst e; exact .inl (by omega)
      · exact .inl (by rw [hvot k e]; decide)
      · exact .inr (by omega))), ?_⟩
    refine gat_build (vr := .slice (some ⟨bo, off, none⟩) Lr.length c) (vo := vo') (Lr := upL Lr t b R Lf) (Lo := Lo') hT0 hptag (Nat.le_trans hszall hsz') (by rw [e1, e2]; exact hk') ?_ ho' (fun k hk => ?_) (fun k hk => ?_) (fun x hx => ?_) ?_ (by rw [e3]; exact HER.out) eo' wf'
    · rw [HUL.out]
      refine ownC_blocks HRR7.out hsz' (fun k hk => ?_)
      simp [Value.ownBlock] at hk
      subst hk
      exact m'.block _ (by omega) (by rw [hbot]; decide)
    · simp [Value.ownBlock] at hk
      subst hk
      exact .inl hbot
    · rcases hv' k hk with h | h
      · exact .inl (hvot k h)
      · exact .inr (by omega)
    · have hold : x ∈ Lr ++ Lo → OwnC w' 0 5 x.1 x.2.cells.length (cvals x.2.cells) ∧ ∃ q, x.1.ownBlock = some q ∧ ((q < w.heap.size ∧ T q = 10 + q) ∨ (w.heap.size ≤ q ∧ vo'.ownBlock ≠ some q ∧ (Value.slice (some ⟨bo, off, none⟩) Lr.length c).ownBlock ≠ some q)) := fun hx => by
        have hc := (HCA7.out x hx).mod m' (fun k _ => by omega)
        obtain ⟨q, e1, e2⟩ := hc.tag
        exact ⟨hc.own, q, e1, .inl ⟨hT0 q (by omega), e2⟩⟩
      have hnewf : x ∈ Lf → OwnC w' 0 5 x.1 x.2.cells.length (cvals x.2.cells) ∧ ∃ q, x.1.ownBlock = some q ∧ ((q < w.heap.size ∧ T q = 10 + q) ∨ (w.heap.size ≤ q ∧ vo'.ownBlock ≠ some q ∧ (Value.slice (some ⟨bo, off, none⟩) Lr.length c).ownBlock ≠ some q)) := fun hx => by
        obtain ⟨q, e1, e2⟩ := HFQ.out x hx
        have hql := (ownC_lt (HFC7.out x hx) q e1).2
        refine ⟨ownC_blocks (HFC7.out x hx) hsz' (fun k hk => by rw [e1] at hk; injection hk with hk; subst hk; exact hnew _ (by omega) hql), q, e1, .inr ⟨by omega, fun e => ?_, fun e => ?_⟩⟩
        · rcases hv' q e with h | h
          · have := hT0 q (by rw [hvot q h]; decide); omega
          · omega
        · simp [Value.ownBlock] at e; omega
      rcases List.mem_append.1 hx with hx | hx
      · rcases HUM.out x hx with h | h
        · exact hold (List.mem_append_left _ h)
        · exact hnewf h
      · have := hsub.subset hx
        rcases List.mem_append.1 this with h | h
        · exact hold (List.mem_append_right _ h)
        · exact hold (List.mem_append_left _ (List.mem_of_mem_drop (List.mem_of_mem_take h)))
    · rw [HU.out]
      refine up_nodup Lr Lo Lf Lo' t b R w.heap.size htb hbl hR2 HL0.out.nd (fun x hx k hk => ?_) HND.out (fun x hx => ?_) hsub
      · exact (ownC_lt (HL0.out.ca x hx).own k hk).2
      · obtain ⟨q, e1, e2⟩ := HFQ.out x hx
        exact ⟨q, e1, by omega⟩)
  have HT3 := Lib.hid (show ∀ k, vo.ownBlock = some k → vo.ownBlock = some k ∨ w7.heap.size ≤ k from fun k hk => .inl hk)
  have hwfu := up_wf hwf t b R s keep htb (by omega) hR2
  have HWU := Lib.hid hwfu
  have hEold : (if keep = true ∧ (t : Int) = 0 then keepL g.limit (g.old ++ (g.rows.drop t).take R) else g.old) = (if keep = true ∧ t = 0 then keepL g.limit (g.old ++ (g.rows.drop t).take R) else g.old) := by
    by_cases ht : t = 0
    · subst ht; simp
    · rw [if_neg (by rintro ⟨_, h⟩; omega), if_neg (fun h => ht h.2)]
  have HEU2 := Lib.hid (show g.up t b n s keep = ⟨g.cols, g.limit, upRows g.rows t b R g.cols s, if keep = true ∧ t = 0 then keepL g.limit (g.old ++ (g.rows.drop t).take R) else g.old⟩ by
    rw [HEU.out, Int.toNat_natCast, Int.toNat_natCast, hEold])
  clear hwfu hEold HEU hwf
  by_cases hk0 : keep = true ∧ t = 0
  · obtain ⟨rfl, rfl⟩ := hk0
    have hov := ownC_reads HOV7.out
    have hnep : vo.ownBlock ≠ some p := fun e => by have := HL0.out.ro.tag p e; omega
    have hl0 : ((Lr.drop 0).take R).length = R := hoff
    have hone2 : ∀ u ∈ rowVals ((Lr.drop 0).take R), u.oneCell' = true := fun u hu => hone u (by
      rw [← rowVals_take, ← rowVals_drop] at hu
      exact List.mem_of_mem_drop (List.mem_of_mem_take hu))
    have hmapo : (keptL g.limit (Lo ++ (Lr.drop 0).take R)).map (·.2) = keepL g.limit (g.old ++ (g.rows.drop 0).take R) := by
      unfold keptL keepL
      rw [List.map_drop, List.map_append, List.map_take, List.map_drop, HL0.out.eo, HL0.out.er]
      congr 1
      rw [List.length_append, List.length_append, List.length_take, List.length_take, List.length_drop, List.length_drop, ← HL0.out.eo, ← HL0.out.er, List.length_map, List.length_map]
    have HMO := Lib.hid hmapo
    have HKE := Lib.hid (keep_any p g.cols g.limit (.slice (some ⟨bo, off, none⟩) Lr.length c) vo ov Lo ((Lr.drop 0).take R) w7 HKP7.out HRO7.out.own hnep (by rw [hl0]; exact hov) (cats_one (fun x hx => HL0.out.ca x (List.mem_append_right _ hx))) hone2 (by omega) (by rw [hl0]; omega) (by omega))
    clear hov hone2 hmapo hone
    go_wp2_with fail
    refine HKE.out.mono ?_
    rintro e w8 ⟨rfl, hw8, vo8, hk8, ho8, hv8⟩
    have hfin : Within (own T w) w w8 ∧ ∃ T', GM T' p w8 (g.up ((0 : Nat) : Int) b n s true) ∧ ∀ k, T' k ≠ 0 → own T w k := by
      have hwf2 := HWU.out
      rw [HEU2.out]
      rw [if_pos (by simp)] at hwf2 ⊢
      exact HBUILD.out w8 vo8 _ _ hw8.size hw8 rfl rfl rfl hk8 ho8 hv8 (List.drop_sublist _ _) HMO.out hwf2
    have HFI := Lib.hid hfin
    clear hfin hw8 hk8 ho8 hv8
    go_wp2_with fail
    go_end0
    exact ⟨rfl, HFI.out⟩
  · have HNK := Lib.hid hk0
    have hdone : Within (own T w) w w7 ∧ ∃ T', GM T' p w7 (g.up t b n s keep) ∧ ∀ k, T' k ≠ 0 → own T w k := by
      have hwf2 := HWU.out
      rw [HEU2.out]
      rw [if_neg hk0] at hwf2 ⊢
      exact HBUILD.out w7 vo Lo _ (Nat.le_refl _) (Within.refl _ _) rfl rfl rfl HKP7.out HRO7.out.own HT3.out (List.sublist_append_left _ _) HL0.out.eo hwf2
    have HD := Lib.hid hdone
    clear hdone
    cases keep
    · go_wp2_with fail
      go_end0
      exact ⟨rfl, HD.out⟩
    · have ht0 : ¬ t = 0 := fun e => hk0 ⟨rfl, e⟩
      have dt : ((t : Int) == 0) = false := beq_eq_false_iff_ne.2 (by omega)
      have dt' : (t == 0) = false := beq_eq_false_iff_ne.2 ht0
      clear hk0
      go_wp2_with fail
      go_end0
      exact ⟨rfl, HD.out⟩
end Go.Proofs.YtlfdgkiliegaiaaGreatDoor
