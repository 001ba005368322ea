/- Walks of package grid: keep. -/
import Derived.Test.YtjclgoiclbkgjaaDoorG10
namespace Go.Proofs.YtjclgoiclbkgjaaDoor
open Go.RowKit

theorem clear_own {P : Program} {t e : TypeId} {size : Nat} {z : Value} (ht : P.underlying t = some (.slice e)) (hz : ∀ w, (zeroValue e).run P w = .ok z w) (hzs : z.cells.size = size) (hz1 : ∀ u ∈ z.cells.toList, u.oneCell' = true) {w : World} {base b off n c : Nat} {xs : List Value} (h : OwnC w base size (.slice (some ⟨b, off, none⟩) n c) n xs)
    (x m c1 : Nat) (hm : 0 < m) (hx : x + m ≤ n) (ty : TypeId) :
    ∃ zs : List Value, zs.length = m * size ∧ (Builtin.clear_ #[t] ty #[.slice (some ⟨b, off + x * size, none⟩) m c1]).run P w = .ok (.tuple #[]) (w.setCells b (off + x * size) zs) := by
  obtain ⟨e1, h2⟩ := h
  rcases h2 with ⟨e, _⟩ | ⟨b', off', c', e, hb, hbs, hnc, hcm, hcells, hxs⟩
  · simp at e
  simp only [Value.slice.injEq, Option.some.injEq, Addr.mk.injEq] at e
  obtain ⟨⟨rfl, rfl, _⟩, _, rfl⟩ := e
  have hzl : (Builtin.zeroCells z.cells m).toList.length = m * size := by simp [Builtin.zeroCells, hzs]
  refine ⟨(Builtin.zeroCells z.cells m).toList, hzl, ?_⟩
  have hin : ∀ j, j < (Builtin.zeroCells z.cells m).toList.length → x * size + j < c * size := fun j hj => by
    have a1 : x * size + m * size ≤ c * size := by rw [← Nat.add_mul]; exact Nat.mul_le_mul_right _ (by omega)
    omega
  have hone : ∀ u ∈ (Builtin.zeroCells z.cells m).toList, u.oneCell' = true := fun u hu => by
    unfold Builtin.zeroCells at hu
    simp only [Array.toList_map, List.mem_map, Array.mem_toList_iff, Array.mem_range] at hu
    obtain ⟨i, hi, rfl⟩ := hu
    have hpos : 0 < z.cells.size := by
      rcases Nat.eq_zero_or_pos z.cells.size with h0 | h0
      · rw [h0] at hi; simp at hi
      · exact h0
    have hlt := Nat.mod_lt i hpos
    rw [getElem!_pos z.cells _ hlt]
    exact hz1 _ (by simp)
  have hst := run_storeCells_cells (P := P) b (off + x * size) (Builtin.zeroCells z.cells m).toList 0 w (fun j hj => by
      have := (hcells _ (hin j hj)).1
      rwa [← Nat.add_assoc] at this) (fun j hj => by
      have := (hcells _ (hin j hj)).2
      rwa [← Nat.add_assoc] at this) hone
  rw [Nat.add_zero] at hst
  obtain ⟨m', rfl⟩ : ∃ m', m = m' + 1 := ⟨m - 1, by omega⟩
  simp [Builtin.clear_, run_underlying ht, hz, hst]
theorem zero_row (w : World) : (zeroValue 76).run Tryd.prog w = .ok (.agg #[.slice none 0 0, .bool false]) w := by kernel_rfl
theorem zero_one : ∀ u ∈ (Value.agg #[.slice none 0 0, .bool false]).cells.toList, u.oneCell' = true := by
  intro u hu
  simp [Value.cells] at hu
  rcases hu with rfl | rfl <;> rfl
/-- The rows that are kept. -/
def keptL {α : Type} (limit : Nat) (l : List α) : List α := l.drop (l.length - limit)
theorem kept_vals (Lo Lk : List (Value × Rw)) (limit : Nat) (hlim : limit < (Lo ++ Lk).length) (zs : List Value) (_hz : zs.length = ((Lo ++ Lk).length - limit) * 2) :
    (putAt (putAt (rowVals (Lo ++ Lk)) 0 (rowVals (keptL limit (Lo ++ Lk)))) (limit * 2) zs).take (limit * 2) = rowVals (keptL limit (Lo ++ Lk)) := by
  generalize Lo ++ Lk = L at *
  have hk : (rowVals (keptL limit L)).length = limit * 2 := by
    rw [rowVals_len]; unfold keptL; rw [List.length_drop]; omega
  have hl : (rowVals L).length = L.length * 2 := rowVals_len L
  have e1 : putAt (rowVals L) 0 (rowVals (keptL limit L)) = rowVals (keptL limit L) ++ (rowVals L).drop (limit * 2) := by
    unfold putAt
    rw [List.take_zero, List.nil_append, Nat.zero_add, hk]
  rw [e1]
  unfold putAt
  rw [List.append_assoc, List.take_append_of_le_length (by rw [List.length_take, List.length_append, hk]; omega), List.take_take, Nat.min_self, List.take_append_of_le_length (by omega), List.take_of_length_le (by omega)]
set_option maxRecDepth 100000 in
set_option maxHeartbeats 4000000 in
theorem keep_any (p cols limit : Nat) (vr vo y : Value) (Lo Lk : List (Value × Rw)) (w : World) (hblk : w.heap[p]? = some (.cells #[.int .i64 cols, .int .i64 limit, vr, vo] 70 (0, 0)))
    (ho : OwnC w 0 2 vo Lo.length (rowVals Lo)) (hne : vo.ownBlock ≠ some p) (hy : Reads w 2 y Lk.length (rowVals Lk)) (h1o : ∀ u ∈ rowVals Lo, u.oneCell' = true) (h1 : ∀ u ∈ rowVals Lk, u.oneCell' = true) (hlo : Lo.length ≤ 1000000) (hlk : Lk.length ≤ 1000000) (hlim : limit ≤ 1000000) :
    Calls Tryd.prog 40 #[.pointer (some ⟨p, 0, none⟩), y] w fun e w' => e = .returned (.tuple #[]) ∧ Within (fun k => k = p ∨ vo.ownBlock = some k ∨ w.heap.size ≤ k) w w' ∧ ∃ vo',
      w'.heap[p]? = some (.cells #[.int .i64 cols, .int .i64 limit, vr, vo'] 70 (0, 0)) ∧ OwnC w' 0 2 vo' (keptL limit (Lo ++ Lk)).length (rowVals (keptL limit (Lo ++ Lk))) ∧ (∀ k, vo'.ownBlock = some k → vo.ownBlock = some k ∨ w.heap.size ≤ k) := by
  have c0 : w.cell? ⟨p, 0, none⟩ = some (.int .i64 cols) := blk_cell hblk 0
  have c1 : w.cell? ⟨p, 1, none⟩ = some (.int .i64 limit) := blk_cell hblk 1
  have c2 : w.cell? ⟨p, 2, none⟩ = some vr := blk_cell hblk 2
  have c3 : w.cell? ⟨p, 3, none⟩ = some vo := blk_cell hblk 3
  have hpl := heap_lt hblk
  have HK := Lib.hid hblk
  have HO := Lib.hid ho
  have HY := Lib.hid hy
  have H1 := Lib.hid h1
  have H1L := Lib.hid (show ∀ u ∈ rowVals (Lo ++ Lk), u.oneCell' = true from fun u hu => by
    rw [rowVals_append] at hu
    rcases List.mem_append.1 hu with hu | hu
    · exact h1o u hu
    · exact h1 u hu)
  clear hblk ho hy h1 h1o
  go_enter Tryd.func40, Tryd.ntmps40
  go_wp2_with (at_builtin; refine held ?_)
  unfold Held
  refine wpList_appD rows_elem rfl rfl 0 HO.out rfl HY.out rfl H1.out (by unfold maxLen; omega) (by omega) (Nat.zero_le _) ?_
  intro v2 w2 o2 g2 hn2
  obtain ⟨va, vc, rfl⟩ := ownC_sl o2
  have hbk2 := blk_grown HK.out g2 (fun e => hne e.symm)
  have d3 : w2.cell? ⟨p, 3, none⟩ = some vo := blk_cell hbk2 3
  have f3 : w2.frozen? ⟨p, 3, none⟩ = false := blk_free hbk2 3
  have hbk3 := blk_set hbk2 3 (.slice va (Lo.length + Lk.length) vc)
  have hps : (Value.slice va (Lo.length + Lk.length) vc).ownBlock ≠ some p := fun e => by
    rcases hn2 p e with e' | e'
    · exact hne e'
    · omega
  have g3 : w2.grownBy (w2.setCell ⟨p, 3, none⟩ (.slice va (Lo.length + Lk.length) vc)) (some p) := gb_set (gb_refl _ _) _ _
  rw [← rowVals_append] at o2
  have HO3 := Lib.hid (ownC_grown o2 g3 (fun k hk e => hps (by rw [hk]; exact e.symm)))
  have HW3 := Lib.hid (show Within (fun k => k = p ∨ vo.ownBlock = some k ∨ w.heap.size ≤ k) w (w2.setCell ⟨p, 3, none⟩ (.slice va (Lo.length + Lk.length) vc)) from
    (Within.of_gb g2 (fun k hk => .inr (.inl hk))).trans (Within.of_gb g3 (fun k hk => .inl (by injection hk with hk; exact hk.symm))))
  have HN := Lib.hid hn2
  have HK3 := Lib.hid (show (w2.setCell ⟨p, 3, none⟩ (.slice va (Lo.length + Lk.length) vc)).heap[p]? = some (.cells #[.int .i64 cols, .int .i64 limit, vr, .slice va (Lo.length + Lk.length) vc] 70 (0, 0)) from hbk3)
  clear o2 g2 hn2 g3 hbk3 hbk2
  go_wp2_with fail
  have hsz3 : (w2.setCell ⟨p, 3, none⟩ (.slice va (Lo.length + Lk.length) vc)).heap.size = w2.heap.size := by simp
  generalize w2.setCell ⟨p, 3, none⟩ (.slice va (Lo.length + Lk.length) vc) = w3 at *
  clear c0 c1 c2 c3 d3 f3
  have c0 : w3.cell? ⟨p, 0, none⟩ = some (.int .i64 cols) := blk_cell HK3.out 0
  have c1 : w3.cell? ⟨p, 1, none⟩ = some (.int .i64 limit) := blk_cell HK3.out 1
  have c3 : w3.cell? ⟨p, 3, none⟩ = some (.slice va (Lo.length + Lk.length) vc) := blk_cell HK3.out 3
  have hLL : (Lo ++ Lk).length = Lo.length + Lk.length := List.length_append
  have hLs : (Lo ++ Lk).length ≤ 2000000 := by omega
  generalize hL : Lo ++ Lk = L at *
  have hLL' := hLL.symm
  clear hLL
  generalize Lo.length + Lk.length = ln at *
  subst hLL'
  have hwr : IntKind.i64.wrap ((L.length : Int) - (limit : Int)) = (L.length : Int) - (limit : Int) := wrap64_id _ (by omega) (by omega)
  go_quiet (fail)
  by_cases hm : L.length ≤ limit
  · have d1 : decide (0 < (L.length : Int) - (limit : Int)) = false := decide_eq_false (by omega)
    have hkk : keptL limit L = L := by unfold keptL; rw [show L.length - limit = 0 by omega]; rfl
    go_wp2_with fail
    go_end0
    refine ⟨rfl, HW3.out.trans (Within.of_below (below_drewN (Below.refl _ _) nq)), _, HK3.out, ?_, HN.out⟩
    rw [hL, hkk]; exact HO3.out
  · have d1 : decide (0 < (L.length : Int) - (limit : Int)) = true := decide_eq_true (by omega)
    obtain ⟨b, off, c, e2, hnc, hcm⟩ := ownC_pos HO3.out (by omega)
    simp only [Value.slice.injEq] at e2
    obtain ⟨rfl, _, rfl⟩ := e2
    have hO := show OwnC (w3.drewN nq) 0 2 (.slice (some ⟨b, off, none⟩) L.length vc) L.length (rowVals L) from HO3.out
    have hK := show (w3.drewN nq).heap[p]? = some (.cells #[.int .i64 cols, .int .i64 limit, vr, .slice (some ⟨b, off, none⟩) L.length vc] 70 (0, 0)) from HK3.out
    have hW := HW3.out.trans (Within.of_below (below_drewN (Below.refl w3.heap.size w3) nq))
    have hbp : b ≠ p := fun e => hps (by rw [← e]; rfl)
    have hvb : vo.ownBlock = some b ∨ w.heap.size ≤ b := HN.out b rfl
    have hys : ((rowVals L).drop ((L.length - limit) * 2)).take ((L.length - (L.length - limit)) * 2) = rowVals (keptL limit L) := by
      rw [rowVals_drop, List.take_of_length_le (by rw [rowVals_len, List.length_drop]; exact Nat.le_refl _)]; rfl
    have hkl : (keptL limit L).length = limit := by unfold keptL; rw [List.length_drop]; omega
    have hone : ∀ u ∈ rowVals L, u.oneCell' = true := H1L.out
    generalize hwa0 : w3.drewN nq = wa0 at *
    clear c0 c1 c3
    have c1 : wa0.cell? ⟨p, 1, none⟩ = some (.int .i64 limit) := blk_cell hK 1
    have c3 : wa0.cell? ⟨p, 3, none⟩ = some (.slice (some ⟨b, off, none⟩) L.length vc) := blk_cell hK 3
    obtain ⟨a1, hsl1, ha1⟩ := slice_l' (P := Tryd.prog) (size := 2) Tryd.underlying68 row_info b off L.length vc (L.length - limit) (by omega) hnc
    rw [show ((L.length - limit : Nat) : Int) = (L.length : Int) - (limit : Int) by omega] at hsl1
    go_upto_region 3 with fail
    go_still_tail 10, (by kernel_rfl)
    change wpList _ _ _ _ _ wa0.drew
    have hOa := show OwnC wa0.drew 0 2 (.slice (some ⟨b, off, none⟩) L.length vc) L.length (rowVals L) from hO
    have hKa := blk_drew hK
    have hWa := hW.trans (Within.of_below (Below.refl wa0.heap.size wa0).drew)
    clear c1 c3
    generalize hwa : wa0.drew = wa at *
    have hrd := reads_sub hOa (L.length - limit) L.length (vc - (L.length - limit)) a1 ha1 (by omega) (Nat.le_refl _)
    rw [hys] at hrd
    have hcp := copy_own (P := Tryd.prog) Tryd.underlying68 row_info hOa 0 L.length vc ⟨b, off, none⟩ (fun _ => by rw [Nat.zero_mul, Nat.add_zero]) (by omega) hrd (by intro u hu; exact hone u (by
      rw [← hys] at hu
      exact List.mem_of_mem_drop (List.mem_of_mem_take hu)))
    rw [List.take_of_length_le (by rw [rowVals_len, hkl, show Nat.min (L.length - (L.length - limit)) L.length = limit by show min (L.length - (L.length - limit)) L.length = limit; omega]; exact Nat.le_refl _), Nat.zero_mul, Nat.add_zero] at hcp
    have hOb := copy_owned hOa 0 (rowVals (keptL limit L)) (by rw [rowVals_len, hkl]; omega)
    rw [Nat.zero_mul, Nat.add_zero] at hOb
    have gb := gb_setCells wa b off (rowVals (keptL limit L))
    have hKb := blk_grown hKa gb (by intro e; injection e with e; exact hbp e.symm)
    have hWb := hWa.trans (Within.of_gb gb (fun k hk => by injection hk with hk; subst hk; exact .inr hvb))
    clear gb hOa hKa hWa
    generalize wa.setCells b off (rowVals (keptL limit L)) = wb at *
    have c1 : wb.cell? ⟨p, 1, none⟩ = some (.int .i64 limit) := blk_cell hKb 1
    have c3 : wb.cell? ⟨p, 3, none⟩ = some (.slice (some ⟨b, off, none⟩) L.length vc) := blk_cell hKb 3
    have hsl2 := slice_l (P := Tryd.prog) (size := 2) Tryd.underlying68 row_info b off L.length vc limit (by omega) (by omega)
    go_upto_region 4 with fail
    go_still_tail 9, (by kernel_rfl)
    change wpList _ _ _ _ _ wb.drew
    have hOc := show OwnC wb.drew 0 2 (.slice (some ⟨b, off, none⟩) L.length vc) L.length _ from hOb
    have hKc := blk_drew hKb
    have hWc := hWb.trans (Within.of_below (Below.refl wb.heap.size wb).drew)
    clear c1 c3
    generalize hwc : wb.drew = wc at *
    obtain ⟨zs, hzl, hcl⟩ := clear_own (P := Tryd.prog) (size := 2) Tryd.underlying68 zero_row rfl zero_one hOc limit (L.length - limit) (vc - limit) (by omega) (by omega) 0
    have hOd := copy_owned hOc limit zs (by rw [hzl, ← Nat.add_mul]; exact Nat.mul_le_mul_right _ (by omega))
    have gd := gb_setCells wc b (off + limit * 2) zs
    have hKd := blk_grown hKc gd (by intro e; injection e with e; exact hbp e.symm)
    have hWd := hWc.trans (Within.of_gb gd (fun k hk => by injection hk with hk; subst hk; exact .inr hvb))
    clear gd hOc hKc hWc
    generalize wc.setCells b (off + limit * 2) zs = wd at *
    have c1 : wd.cell? ⟨p, 1, none⟩ = some (.int .i64 limit) := blk_cell hKd 1
    have c3 : wd.cell? ⟨p, 3, none⟩ = some (.slice (some ⟨b, off, none⟩) L.length vc) := blk_cell hKd 3
    have hsl3 := slice_h (P := Tryd.prog) (size := 2) Tryd.underlying68 row_info (some ⟨b, off, none⟩) L.length vc limit (by omega)
    go_upto_region 5 with fail
    go_still_tail 12, (by kernel_rfl)
    change wpList _ _ _ _ _ wd.drew
    have hOe := show OwnC wd.drew 0 2 (.slice (some ⟨b, off, none⟩) L.length vc) L.length _ from hOd
    have hKe := blk_drew hKd
    have hWe := hWd.trans (Within.of_below (Below.refl wd.heap.size wd).drew)
    clear c1 c3
    generalize hwe : wd.drew = we at *
    have c3 : we.cell? ⟨p, 3, none⟩ = some (.slice (some ⟨b, off, none⟩) L.length vc) := blk_cell hKe 3
    have f3 : we.frozen? ⟨p, 3, none⟩ = false := blk_free hKe 3
    have gf : we.grownBy (we.setCell ⟨p, 3, none⟩ (.slice (some ⟨b, off, none⟩) limit vc)) (some p) := gb_set (gb_refl _ _) _ _
    have HKf := Lib.hid (show (we.setCell ⟨p, 3, none⟩ (.slice (some ⟨b, off, none⟩) limit vc)).heap[p]? = some (.cells #[.int .i64 cols, .int .i64 limit, vr, .slice (some ⟨b, off, none⟩) limit vc] 70 (0, 0)) from blk_set hKe 3 _)
    have HWf := Lib.hid (hWe.trans (Within.of_gb gf (fun k hk => .inl (by injection hk with hk; exact hk.symm))))
    have hOs := ownC_sub (ownC_grown hOe gf (fun k hk e => by simp [Value.ownBlock] at hk; injection e with e; omega)) 0 limit (Nat.zero_le _) (by omega)
    rw [Nat.zero_mul, Nat.add_zero, Nat.sub_zero, Nat.sub_zero, List.drop_zero] at hOs
    have hkv := kept_vals Lo Lk limit (by rw [hL]; omega) zs (by rw [hL]; exact hzl)
    rw [hL] at hkv
    rw [hkv] at hOs
    have HOs := Lib.hid hOs
    clear hOs hkv gf hOe
    go_wp2_with fail
    go_end0
    refine ⟨rfl, HWf.out, _, HKf.out, ?_, fun k hk => ?_⟩
    · rw [hL, hkl]; exact HOs.out
    · simp [Value.ownBlock] at hk
      subst hk
      exact hvb
end Go.Proofs.YtjclgoiclbkgjaaDoor
