/- Package grid, texts laid together: N5 N6. -/
import Derived.Test.YtjclgoiclbkgjaaGreatDoorK15
import Derived.Test.YtjclgoiclbkgjaaGreatDoorK6
import Derived.Test.YtjclgoiclbkgjaaGreatDoorK7
import Derived.Deep.QuietTactic
import Derived.BigQuiet
/- Walks of the document's grid: region, keep; rows that are laid anew. -/
namespace Go.Proofs.YtjclgoiclbkgjaaGreatDoor
open Go.RowKit

/-- A slice of rows that is made anew since w3; F: rows in it that are fresh. -/
structure Br (w3 : World) (v : Value) (L F : List (Value × Rw)) (wi : World) : Prop where
  b : Below w3.heap.size w3 wi
  own : OwnC wi w3.heap.size 2 v L.length (rowVals L)
  fr : ∀ x ∈ F, OwnC wi w3.heap.size 5 x.1 x.2.cells.length (cvals x.2.cells) ∧ ∃ q, x.1.ownBlock = some q ∧ v.ownBlock ≠ some q
  nd : (F.map (·.1.ownBlock)).Nodup
theorem Br.below {w3 : World} {v : Value} {L F : List (Value × Rw)} {wi wj : World} (h : Br w3 v L F wi) (b : Below wi.heap.size wi wj) : Br w3 v L F wj :=
  ⟨h.b.trans (b.mono h.b.size), ownC_below h.own b, fun x hx => ⟨ownC_below (h.fr x hx).1 b, (h.fr x hx).2⟩, h.nd⟩
theorem br_empty (w3 wi : World) (b : Below w3.heap.size w3 wi) : Br w3 (.slice (some ⟨wi.heap.size, 0, none⟩) 0 0) [] [] (wi.alloc (.cells #[] 96)) :=
  ⟨b.alloc b.size _, ownC_mono (own_empty wi 96 2) b.size, fun x hx => by simp at hx, by simp⟩
theorem Br.app {w3 : World} {v v' : Value} {L F M : List (Value × Rw)} {wi wj wk : World} {j : Nat} (h : Br w3 v L F wi) (b : Below wi.heap.size wi wj)
    (o : OwnC wk w3.heap.size 2 v' (L.length + j) (rowVals L ++ rowVals M)) (hj : M.length = j) (g : wj.grownBy wk v.ownBlock) (n : ∀ k, v'.ownBlock = some k → v.ownBlock = some k ∨ wj.heap.size ≤ k) : Br w3 v' (L ++ M) F wk := by
  have hs := h.b.size
  have hs2 := b.size
  have hb := h.below b
  refine ⟨hb.b.grown g (by omega) (fun q hq => (ownC_lt h.own q hq).1), by rw [List.length_append, rowVals_append, hj]; exact o, fun x hx => ?_, h.nd⟩
  obtain ⟨h1, q, h2, h3⟩ := hb.fr x hx
  refine ⟨ownC_grown h1 g (fun k hk e => ?_), q, h2, fun e => ?_⟩
  · rw [h2] at hk
    injection hk with hk
    exact h3 (by rw [e, hk])
  · have h4 := (ownC_lt (h.fr x hx).1 q h2).2
    rcases n q e with e2 | e2
    · exact h3 e2
    · omega
/-- Fresh rows behind others. -/
theorem Br.fresh {w3 : World} {v v' v4 : Value} {L L4 : List (Value × Rw)} {wi wj wk : World} {j : Nat} (h : Br w3 v L [] wi) (b : Below wi.heap.size wi wj) (r : RowsAt wi.heap.size wj v4 L4)
    (o : OwnC wk w3.heap.size 2 v' (L.length + j) (rowVals L ++ rowVals L4)) (hj : L4.length = j) (g : wj.grownBy wk v.ownBlock) (n : ∀ k, v'.ownBlock = some k → v.ownBlock = some k ∨ wj.heap.size ≤ k) : Br w3 v' (L ++ L4) L4 wk := by
  have hs := h.b.size
  have h0 := h.app b o hj g n
  refine ⟨h0.b, h0.own, fun x hx => ?_, r.nd⟩
  obtain ⟨q, e1, _⟩ := r.ap x hx
  have h1 := r.cells x hx
  have h2 := ownC_lt h1 q e1
  have hv : ∀ k, v.ownBlock = some k → k < wi.heap.size := fun k hk => (ownC_lt h.own k hk).2
  refine ⟨ownC_mono (ownC_grown h1 g (fun k hk e => ?_)) hs, q, e1, fun e => ?_⟩
  · have := hv k e
    have := (ownC_lt h1 k hk).1
    omega
  · rcases n q e with e2 | e2
    · have := hv q e2; omega
    · omega
set_option maxRecDepth 100000 in
set_option maxHeartbeats 4000000 in
theorem regionD_any {T : Nat → Nat} {p : Nat} {w : World} {g : Gr} (h : RM T p w g) (top bottom n : Int) (s : Sty) :
    Calls Tryz.prog 68 #[.pointer (some ⟨p, 0, none⟩), .int .i64 top, .int .i64 bottom, .int .i64 n, s.val] w fun e w' => e = .returned (.int .i64 (regionN g top bottom n s)) ∧ Below w.heap.size w w' := by
  have hBz := Below.alloc (Below.refl w.heap.size w) (Nat.le_refl _) (.cells #[.int .i64 s.fg, .int .i64 s.bg, .int .i64 s.attr] 36)
  have HB := Lib.hid hBz
  have H := Lib.hid (h.below hBz)
  have w1 := h.wf.r2
  have HKS := Lib.hid (blk_new w (.cells #[.int .i64 s.fg, .int .i64 s.bg, .int .i64 s.attr] 36))
  clear h hBz
  go_enter Tryz.func68, Tryz.ntmps68
  unfold Sty.val
  go_upto_region 1 with fail
  generalize w.alloc (.cells #[.int .i64 s.fg, .int .i64 s.bg, .int .i64 s.attr] 36) = wa at *
  have s0 : wa.cell? ⟨w.heap.size, 0, none⟩ = some (.int .i64 s.fg) := blk_cell HKS.out 0
  have s1 : wa.cell? ⟨w.heap.size, 1, none⟩ = some (.int .i64 s.bg) := blk_cell HKS.out 1
  have s2 : wa.cell? ⟨w.heap.size, 2, none⟩ = some (.int .i64 s.attr) := blk_cell HKS.out 2
  go_wp2_with fail
  refine (rightStyle_any s wa).mono ?_
  rintro e w3 ⟨rfl, b3⟩
  have HB3 := Lib.hid (HB.out.trans (b3.mono HB.out.size))
  have H3 := Lib.hid (H.out.below b3)
  clear b3 s0 s1 s2
  cases hok : okS s
  · have HE := Lib.hid (show regionN g top bottom n s = 0 by unfold regionN; rw [if_pos (.inr (.inr (.inr hok)))])
    go_wp2_with fail
    exact ret1v rfl rfl rfl ⟨by rw [HE.out]; rfl, HB3.out⟩
  obtain ⟨vr, vo, Lr, Lo, h3⟩ := H3.out
  obtain ⟨c0, c1, c2, c3⟩ := rm_cells h3
  have hlr := (rrows_len h3).1
  have hl := ownC_ln Tryz.underlying62 h3.rr.own
  clear h3
  by_cases h1 : top < 0
  · have d0 : decide (top < 0) = true := decide_eq_true h1
    have HE := Lib.hid (show regionN g top bottom n s = 0 by unfold regionN; rw [if_pos (.inl h1)])
    go_wp2_with fail
    exact ret1v rfl rfl rfl ⟨by rw [HE.out]; rfl, HB3.out⟩
  have d0 : decide (top < 0) = false := decide_eq_false h1
  by_cases h2 : bottom < top
  · have d1 : decide (bottom < top) = true := decide_eq_true h2
    have HE := Lib.hid (show regionN g top bottom n s = 0 by unfold regionN; rw [if_pos (.inr (.inl h2))])
    go_wp2_with fail
    exact ret1v rfl rfl rfl ⟨by rw [HE.out]; rfl, HB3.out⟩
  have d1 : decide (bottom < top) = false := decide_eq_false h2
  by_cases h3 : (Lr.length : Int) ≤ bottom
  · have d2 : decide ((Lr.length : Int) ≤ bottom) = true := decide_eq_true h3
    have HE := Lib.hid (show regionN g top bottom n s = 0 by unfold regionN; rw [if_pos (.inr (.inr (.inl (by omega))))])
    go_wp2_with fail
    exact ret1v rfl rfl rfl ⟨by rw [HE.out]; rfl, HB3.out⟩
  have d2 : decide ((Lr.length : Int) ≤ bottom) = false := decide_eq_false h3
  by_cases h4 : n ≤ 0
  · have d3 : decide (n ≤ 0) = true := decide_eq_true h4
    have HE := Lib.hid (show regionN g top bottom n s = 0 by unfold regionN; split <;> omega)
    go_wp2_with fail
    exact ret1v rfl rfl rfl ⟨by rw [HE.out]; rfl, HB3.out⟩
  have d3 : decide (n ≤ 0) = false := decide_eq_false h4
  have hw1 : IntKind.i64.wrap (bottom - top) = bottom - top := wrap64_id _ (by omega) (by omega)
  have hw2 : IntKind.i64.wrap (bottom - top + 1) = bottom - top + 1 := wrap64_id _ (by omega) (by omega)
  have HE := Lib.hid (show (regionN g top bottom n s : Int) = min n (bottom - top + 1) by
    unfold regionN
    rw [if_neg (by
      rw [hok]
      rintro (e | e | e | e)
      · omega
      · omega
      · omega
      · cases e)]
    omega)
  clear hlr
  go_wp2_with fail
  exact ret1v rfl rfl rfl ⟨by rw [HE.out]; rfl, HB3.out⟩
end Go.Proofs.YtjclgoiclbkgjaaGreatDoor

/- Walks of the document's grid: keep. -/
namespace Go.Proofs.YtjclgoiclbkgjaaGreatDoor
open Go.RowKit
attribute [local go_sem ↓] Go.wp_at_zero Go.wp_at_succ

set_option maxRecDepth 100000 in
set_option maxHeartbeats 8000000 in
theorem keepD_any (p cols limit : Nat) (vr vo y : Value) (Lo Lk : List (Value × Rw)) (w : World) (hblk : w.heap[p]? = some (.cells #[.int .i64 cols, .int .i64 limit, vr, vo] 65 (0, 0)))
    (ho : OwnC w 0 2 vo Lo.length (rowVals Lo)) (hne : vo.ownBlock ≠ some p) (hy : Reads w 2 y Lk.length (rowVals Lk)) (h1o : ∀ u ∈ rowVals Lo, u.oneCell' = true) (h1 : ∀ u ∈ rowVals Lk, u.oneCell' = true) (hlo : Lo.length ≤ 1000000) (hlk : Lk.length ≤ 1000000) (hlim : limit ≤ 1000000) :
    Calls Tryz.prog 69 #[.pointer (some ⟨p, 0, none⟩), y] w fun e w' => e = .returned (.tuple #[]) ∧ Within (fun k => k = p ∨ vo.ownBlock = some k ∨ w.heap.size ≤ k) w w' ∧ ∃ vo',
      w'.heap[p]? = some (.cells #[.int .i64 cols, .int .i64 limit, vr, vo'] 65 (0, 0)) ∧ OwnC w' 0 2 vo' (keptL limit (Lo ++ Lk)).length (rowVals (keptL limit (Lo ++ Lk))) ∧ (∀ k, vo'.ownBlock = some k → vo.ownBlock = some k ∨ w.heap.size ≤ k) := by
  have c3 : w.cell? ⟨p, 3, none⟩ = some vo := blk_cell hblk 3
  have hpl := heap_lt hblk
  have HK := Lib.hid hblk
  have HO := Lib.hid ho
  have HY := Lib.hid hy
  have HN := Lib.hid hne
  have HONE := Lib.hid (show ∀ u ∈ rowVals (Lo ++ Lk), u.oneCell' = true from fun u hu => by
    rw [rowVals_append] at hu
    rcases List.mem_append.1 hu with hu | hu
    · exact h1o u hu
    · exact h1 u hu)
  have H1 := Lib.hid h1
  clear hblk ho hy hne h1o h1
  go_enter Tryz.func69, Tryz.ntmps69
  go_wp2_with (at_builtin; refine held ?_)
  unfold Held
  refine wpList_appD rowsD_elem rfl rfl 0 HO.out rfl HY.out rfl H1.out (by unfold maxLen; omega) (by omega) (Nat.zero_le _) ?_
  intro v2 w2 o2 g2 n2
  obtain ⟨a2, k2, rfl⟩ := ownC_sl o2
  have HK2 := Lib.hid (blk_grown HK.out g2 (fun e => HN.out e.symm))
  have hnp : (Value.slice a2 (Lo.length + Lk.length) k2).ownBlock ≠ some p := fun e => by
    rcases n2 p e with h | h
    · exact HN.out h
    · omega
  have HG2 := Lib.hid (show Within (fun k => k = p ∨ vo.ownBlock = some k ∨ w.heap.size ≤ k) w w2 from Within.of_gb g2 (fun k hk => .inr (.inl hk)))
  have HN2 := Lib.hid n2
  have c3' : w2.cell? ⟨p, 3, none⟩ = some vo := blk_cell HK2.out 3
  have f3' : w2.frozen? ⟨p, 3, none⟩ = false := blk_free HK2.out 3
  have g3 : w2.grownBy (w2.setCell ⟨p, 3, none⟩ (.slice a2 (Lo.length + Lk.length) k2)) (some p) := gb_set (gb_refl _ _) _ _
  have HK3 := Lib.hid (show (w2.setCell ⟨p, 3, none⟩ (.slice a2 (Lo.length + Lk.length) k2)).heap[p]? = some (.cells #[.int .i64 cols, .int .i64 limit, vr, .slice a2 (Lo.length + Lk.length) k2] 65 (0, 0)) from blk_set HK2.out 3 _)
  have HO3 := Lib.hid (show OwnC (w2.setCell ⟨p, 3, none⟩ (.slice a2 (Lo.length + Lk.length) k2)) 0 2 (.slice a2 (Lo.length + Lk.length) k2) (Lo.length + Lk.length) (rowVals (Lo ++ Lk)) from by
    rw [rowVals_append]
    exact ownC_grown o2 g3 (fun k hk e => hnp (by rw [e]; exact hk)))
  have HG3 := Lib.hid (HG2.out.trans (Within.of_gb g3 (fun k hk => .inl (by injection hk with hk; exact hk.symm))))
  have hs3 : w.heap.size ≤ (w2.setCell ⟨p, 3, none⟩ (.slice a2 (Lo.length + Lk.length) k2)).heap.size := HG3.out.size
  clear o2 g2 n2 g3 c3
  go_upto_region 1 with fail
  clear c3' f3'
  generalize w2.setCell ⟨p, 3, none⟩ (.slice a2 (Lo.length + Lk.length) k2) = w3 at *
  have x1 : w3.cell? ⟨p, 1, none⟩ = some (.int .i64 limit) := blk_cell HK3.out 1
  have x3 : w3.cell? ⟨p, 3, none⟩ = some (.slice a2 (Lo.length + Lk.length) k2) := blk_cell HK3.out 3
  have hln := ownC_ln Tryz.underlying62 HO3.out
  have hkl : (keptL limit (Lo ++ Lk)) = (Lo ++ Lk).drop (Lo.length + Lk.length - limit) := by unfold keptL; rw [List.length_append]
  by_cases hm : limit < Lo.length + Lk.length
  rotate_left
  · have d1 : decide ((limit : Int) < ((Lo.length + Lk.length : Nat) : Int)) = false := decide_eq_false (by omega)
    have d1' : decide (limit < Lo.length + Lk.length) = false := decide_eq_false hm
    have d1'' : decide ((limit : Int) < (Lo.length : Int) + (Lk.length : Int)) = false := decide_eq_false (by omega)
    have HKL := Lib.hid (show keptL limit (Lo ++ Lk) = Lo ++ Lk by rw [hkl, show Lo.length + Lk.length - limit = 0 by omega]; rfl)
    clear hkl
    go_quiet (fail)
    go_wp2_with fail
    go_end0
    refine ⟨rfl, HG3.out.trans (Within.of_below (below_drewN (Below.refl _ _) _)), _, blk_below HK3.out (below_drewN (Below.refl _ _) _) (heap_lt HK3.out), ?_, HN2.out⟩
    rw [HKL.out, List.length_append]
    exact ownC_below HO3.out (below_drewN (Below.refl _ _) _)
  · have d1 : decide ((limit : Int) < ((Lo.length + Lk.length : Nat) : Int)) = true := decide_eq_true (by omega)
    have d1' : decide (limit < Lo.length + Lk.length) = true := decide_eq_true hm
    have d1'' : decide ((limit : Int) < (Lo.length : Int) + (Lk.length : Int)) = true := decide_eq_true (by omega)
    obtain ⟨N, hN⟩ : ∃ N, N = Lo.length + Lk.length := ⟨_, rfl⟩
    rw [← hN] at hm hkl HK3 HO3 x3 hln HN2 hnp d1 d1' ⊢
    have HNN := Lib.hid hN
    have hNb : N ≤ 2000000 := by omega
    clear hN d1''
    obtain ⟨mr, hmr⟩ : ∃ mr, mr = N - limit := ⟨_, rfl⟩
    rw [← hmr] at hkl
    have hmr2 : mr ≤ N ∧ 1 ≤ mr := by omega
    have hw1 : IntKind.i64.wrap ((N : Int) - (limit : Int)) = (mr : Int) := by rw [wrap64_id _ (by omega) (by omega)]; omega
    have HKL := Lib.hid hkl
    clear hkl hmr
    have hlAL : (Lo ++ Lk).length = N := by rw [List.length_append]; exact HNN.out.symm
    obtain ⟨ab, ao, ac, e2, hac, hacm⟩ := ownC_pos HO3.out (by omega)
    simp only [Value.slice.injEq] at e2
    obtain ⟨e2, _, e3⟩ := e2
    subst e2 e3
    have hap : ab ≠ p := fun e => hnp (by rw [e]; rfl)
    go_quiet (fail)
    have HO4 := Lib.hid (ownC_below HO3.out (below_drewN (Below.refl w3.heap.size w3) nq))
    have HK4 := Lib.hid (blk_below HK3.out (below_drewN (Below.refl w3.heap.size w3) nq) (heap_lt HK3.out))
    have HG4 := Lib.hid (HG3.out.trans (Within.of_below (below_drewN (Below.refl w3.heap.size w3) nq)))
    clear x1 x3 HO3 HK3 HG3 hs3 hln
    generalize w3.drewN nq = w4 at *
    have x1 : w4.cell? ⟨p, 1, none⟩ = some (.int .i64 limit) := blk_cell HK4.out 1
    have x3 : w4.cell? ⟨p, 3, none⟩ = some (.slice (some ⟨ab, ao, none⟩) N k2) := blk_cell HK4.out 3
    have z3 : w4.frozen? ⟨p, 3, none⟩ = false := blk_free HK4.out 3
    have hln := ownC_ln Tryz.underlying62 HO4.out
    obtain ⟨sa, hsl, hsa⟩ := slice_l' (P := Tryz.prog) (size := 2) Tryz.underlying62 rowD_info ab ao N k2 mr (by omega) hac
    have HRD := Lib.hid (show ∀ wx, OwnC wx 0 2 (.slice (some ⟨ab, ao, none⟩) N k2) N (rowVals (Lo ++ Lk)) → Reads wx 2 (.slice (some sa) (N - mr) (k2 - mr)) (N - mr) (rowVals ((Lo ++ Lk).drop mr)) from fun wx hx => by
      have := reads_sub hx mr N (k2 - mr) sa hsa (by omega) (Nat.le_refl _)
      rw [rowVals_drop, rowVals_take, List.take_of_length_le (by rw [List.length_drop, hlAL]; exact Nat.le_refl _)] at this
      exact this)
    have HON2 := Lib.hid (show ∀ u ∈ rowVals ((Lo ++ Lk).drop mr), u.oneCell' = true from fun u hu => HONE.out u (by rw [← rowVals_drop] at hu; exact List.mem_of_mem_drop hu))
    have hs4 : w.heap.size ≤ w4.heap.size := HG4.out.size
    have hp4 : p < w4.heap.size := heap_lt HK4.out
    have ha4 : ab < w4.heap.size := (ownC_lt HO4.out ab rfl).2
    clear hlAL
    go_upto_region 2 with fail
    refine wpL_begin (c := 20) (S := (fun bb w' => True ∧ (bb = false → w'.cell? ⟨p, 3, none⟩ = some (.slice (some ⟨ab, ao, none⟩) N k2) ∧ w'.cell? ⟨p, 1, none⟩ = some (.int .i64 limit)))) (by kernel_rfl) (⟨trivial, fun _ => ⟨x3, x1⟩⟩) (fun _ => ?_)
    refine wpL_tk false 0 (⟨trivial, fun _ => ⟨x3, x1⟩⟩) ?_
    refine wpL_tk false 2 (⟨trivial, fun _ => ⟨x3, x1⟩⟩) ?_
    refine wpL_tk false 3 (⟨trivial, fun _ => ⟨x3, x1⟩⟩) ?_
    refine wpL_tk false 4 (⟨trivial, fun _ => ⟨x3, x1⟩⟩) ?_
    refine wpL_td 5 (⟨trivial, fun _ => ⟨x3, x1⟩⟩) ?_
    refine wpL_tk false 6 (⟨trivial, fun _ => ⟨x3, x1⟩⟩) ?_
    refine wpL_tk false 7 (⟨trivial, fun _ => ⟨x3, x1⟩⟩) ?_
    refine wpL_tk false 8 (⟨trivial, fun _ => ⟨x3, x1⟩⟩) ?_
    refine wpL_td 9 (⟨trivial, fun _ => ⟨x3, x1⟩⟩) ?_
    refine wpL_tk false 10 (⟨trivial, fun _ => ⟨x3, x1⟩⟩) ?_
    refine wpL_tk false 11 (⟨trivial, fun _ => ⟨x3, x1⟩⟩) ?_
    refine wpL_tk false 12 (⟨trivial, fun _ => ⟨x3, x1⟩⟩) ?_
    refine wpL_tk false 13 (⟨trivial, fun _ => ⟨x3, x1⟩⟩) ?_
    refine wpL_td 14 (⟨trivial, fun _ => ⟨x3, x1⟩⟩) ?_
    refine wpL_tk false 15 (⟨trivial, fun _ => ⟨x3, x1⟩⟩) ?_
    refine wpL_tk false 16 (⟨trivial, fun _ => ⟨x3, x1⟩⟩) ?_
    refine wpL_on false 1 fun K hK => ?_
    refine wanted_on rfl ?_
    go_wp2_with fail
    have HBA := Lib.hid (show Below w4.heap.size w4 (w4.drew.alloc (.cells #[] 96)) from (Below.refl w4.heap.size w4).drew.alloc (Nat.le_refl _) _)
    have HE4 := Lib.hid (own_empty w4.drew 96 2)
    have x1a : (w4.drew.alloc (.cells #[] 96)).cell? ⟨p, 1, none⟩ = some (.int .i64 limit) := cell_below HBA.out x1
    have x3a : (w4.drew.alloc (.cells #[] 96)).cell? ⟨p, 3, none⟩ = some (.slice (some ⟨ab, ao, none⟩) N k2) := cell_below HBA.out x3
    refine hK.out _ _ (⟨trivial, fun _ => ⟨x3a, x1a⟩⟩) (fun _ => ?_)
    clear hK K 
    try simp only [Act.put, List.setIfInBounds_toArray, List.set_cons_zero, List.set_cons_succ]
    refine wpL_on false 17 fun K hK => ?_
    apply step_appS rowsD_elem
    case hgd => rfl
    case ho => rfl
    case hown => exact HE4.out
    case hs => rfl
    case hr => exact src_reads Tryz.underlying62 (HRD.out _ (ownC_below HO4.out HBA.out)) HON2.out
    case hx => rfl
    case h63 => unfold maxLen; omega
    case hbytes => omega
    case hbase => exact HBA.out.size
    rw [List.nil_append, Nat.zero_add]
    intro v7 w7 o7 g7 n7
    obtain ⟨a7, c7, rfl⟩ := ownC_sl o7
    have hne7 : (Value.slice (some ⟨w4.drew.heap.size, 0, none⟩) 0 0).ownBlock ≠ some p := fun e => by simp only [Value.ownBlock] at e; injection e with e; have h5 : w4.drew.heap.size = w4.heap.size := rfl; omega
    have x1b : w7.cell? ⟨p, 1, none⟩ = some (.int .i64 limit) := cell_grown g7 x1a hne7
    have x3b : w7.cell? ⟨p, 3, none⟩ = some (.slice (some ⟨ab, ao, none⟩) N k2) := cell_grown g7 x3a hne7
    have z3b : w7.frozen? ⟨p, 3, none⟩ = false := frozen_grown g7 (frozen_below HBA.out x3 z3) (cell_lt x3a) hne7
    have HO7 := Lib.hid o7
    have HG7 := Lib.hid g7
    have HN7 := Lib.hid n7
    have HNE7 := Lib.hid hne7
    refine hK.out _ _ (⟨trivial, fun _ => ⟨x3b, x1b⟩⟩) (fun _ => ?_)
    clear hK K o7 g7 n7 hne7
    try simp only [Act.put, List.setIfInBounds_toArray, List.set_cons_zero, List.set_cons_succ]
    refine wpL_tk false 18 (⟨trivial, fun _ => ⟨x3b, x1b⟩⟩) ?_
    refine wpL_tk false 19 (⟨trivial, fun _ => ⟨x3b, x1b⟩⟩) ?_
    refine wpL_on true 20 fun K hK => ?_
    refine wanted_on rfl ?_
    go_wp2_with fail
    refine hK.out _ _ (⟨trivial, fun e => by cases e⟩) (fun _ => ?_)
    clear hK K 
    try simp only [Act.put]
    refine wpL_done (by kernel_rfl) ?_ _
    have hsd : w4.drew.heap.size = w4.heap.size := rfl
    have hb7 := ownC_lt HO7.out
    have g8 : w7.grownBy (w7.setCell ⟨p, 3, none⟩ (.slice a7 (N - mr) c7)) (some p) := gb_set (gb_refl _ _) _ _
    have HB7 := Lib.hid (HBA.out.grown HG7.out HBA.out.size (fun q hq => by simp only [Value.ownBlock] at hq; injection hq with hq; omega))
    have HKZ := Lib.hid (show (w7.setCell ⟨p, 3, none⟩ (.slice a7 (N - mr) c7)).heap[p]? = some (.cells #[.int .i64 cols, .int .i64 limit, vr, .slice a7 (N - mr) c7] 65 (0, 0)) from blk_set (blk_below HK4.out HB7.out hp4) 3 _)
    have HGZ := Lib.hid (show Within (fun k => k = p ∨ vo.ownBlock = some k ∨ w.heap.size ≤ k) w (w7.setCell ⟨p, 3, none⟩ (.slice a7 (N - mr) c7)) from (HG4.out.trans (Within.of_below HB7.out)).trans (Within.of_gb g8 (fun k hk => .inl (by injection hk with hk; exact hk.symm))))
    have HOZ := Lib.hid (show OwnC (w7.setCell ⟨p, 3, none⟩ (.slice a7 (N - mr) c7)) 0 2 (.slice a7 (N - mr) c7) (N - mr) (rowVals ((Lo ++ Lk).drop mr)) from
      ownC_mono (ownC_grown HO7.out g8 (fun k hk e => by have := (hb7 k hk).1; injection e with e; omega)) (Nat.zero_le _))
    clear g8 x1 x3 z3 x1a x3a x1b x3b z3b
    go_wp2_with fail
    go_end0
    refine ⟨rfl, HGZ.out, _, HKZ.out, ?_, fun k hk => .inr (by have := (hb7 k hk).1; omega)⟩
    rw [HKL.out, List.length_drop, List.length_append, ← HNN.out]
    exact HOZ.out
end Go.Proofs.YtjclgoiclbkgjaaGreatDoor
