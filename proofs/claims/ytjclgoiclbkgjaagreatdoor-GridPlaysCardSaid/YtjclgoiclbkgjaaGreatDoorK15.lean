/- Package grid, texts laid together: N3 N4. -/
import Derived.Test.YtjclgoiclbkgjaaGreatDoorK14
import Derived.Test.YtjclgoiclbkgjaaGreatDoorK3
import Derived.Test.YtjclgoiclbkgjaaGreatDoorK12
/- Walks of the document's grid: many, Put, Erase, Insert, Delete. -/
namespace Go.Proofs.YtjclgoiclbkgjaaGreatDoor
open Go.RowKit

theorem within_of_rowD {T : Nat → Nat} {w w2 w' : World} {b : Nat} (hb : Below w.heap.size w w2) (ht : T b ≠ 0) (g : w2.grownBy w' (some b)) : Within (own T w) w w' :=
  (Within.of_below hb).trans (Within.of_gb g (fun k hk => .inl (by injection hk with hk; subst hk; exact ht)))
def manyV (g : Gr) (x y n : Int) (s : Sty) : Nat := if g.onIt x y s = true ∧ 0 < n then manyN g x n else 0
theorem manyV_pos {g : Gr} {x y n : Int} {s : Sty} (h : manyV g x y n s ≠ 0) : g.onIt x y s = true ∧ 0 < n ∧ manyV g x y n s = manyN g x n := by
  unfold manyV at h ⊢
  split at h
  · rename_i h0
    rw [if_pos h0]
    exact ⟨h0.1, h0.2, rfl⟩
  · exact absurd rfl h
theorem rowOp_many (g : Gr) (f : List Cel → Nat → Nat → Sty → List Cel) (x y n : Int) (s : Sty) : g.rowOp f x y n s = if manyV g x y n s = 0 then g else g.turn y.toNat (fun l => f l x.toNat (manyV g x y n s) s) := by
  unfold Gr.rowOp manyV
  by_cases h : g.onIt x y s = true ∧ 0 < n
  · rw [if_pos h, if_pos h]
    obtain ⟨_, _, h3, h4, _⟩ := onIt_iff h.1
    have h2 := h.2
    rw [if_neg (by unfold manyN; omega)]
  · rw [if_neg h, if_neg h, if_pos rfl]
set_option maxRecDepth 100000 in
set_option maxHeartbeats 4000000 in
theorem manyD_any {T : Nat → Nat} {p : Nat} {w : World} {g : Gr} (h : RM T p w g) (x y n : Int) (s : Sty) :
    Calls Tryz.prog 63 #[.pointer (some ⟨p, 0, none⟩), .int .i64 x, .int .i64 y, .int .i64 n, s.val] w fun e w' => e = .returned (.int .i64 (manyV g x y n s)) ∧ Below w.heap.size w w' := by
  have hBz := Below.alloc (Below.refl w.heap.size w) (Nat.le_refl _) (.cells #[.int .i64 s.fg, .int .i64 s.bg, .int .i64 s.attr] 36)
  have HB := Lib.hid hBz
  have H := Lib.hid (h.below hBz)
  have wf := h.wf
  have w1 := wf.r2
  have w2 := wf.c2
  have HKS := Lib.hid (blk_new w (.cells #[.int .i64 s.fg, .int .i64 s.bg, .int .i64 s.attr] 36))
  clear h wf hBz
  go_enter Tryz.func63, Tryz.ntmps63
  unfold Sty.val
  go_upto_region 1 with fail
  generalize w.alloc (.cells #[.int .i64 s.fg, .int .i64 s.bg, .int .i64 s.attr] 36) = wa at *
  have s0 : wa.cell? ⟨w.heap.size, 0, none⟩ = some (.int .i64 s.fg) := blk_cell HKS.out 0
  have s1 : wa.cell? ⟨w.heap.size, 1, none⟩ = some (.int .i64 s.bg) := blk_cell HKS.out 1
  have s2 : wa.cell? ⟨w.heap.size, 2, none⟩ = some (.int .i64 s.attr) := blk_cell HKS.out 2
  go_wp2_with fail
  refine (rightStyle_any s wa).mono ?_
  rintro e w3 ⟨rfl, b3⟩
  have HB3 := Lib.hid (HB.out.trans (b3.mono HB.out.size))
  have H3 := Lib.hid (H.out.below b3)
  clear b3 s0 s1 s2
  cases hok : okS s
  · have HE := Lib.hid (show manyV g x y n s = 0 by unfold manyV Gr.onIt; rw [hok]; simp)
    go_wp2_with fail
    exact ret1v rfl rfl rfl ⟨by rw [HE.out]; rfl, HB3.out⟩
  obtain ⟨vr, vo, Lr, Lo, h3⟩ := H3.out
  obtain ⟨c0, c1, c2, c3⟩ := rm_cells h3
  have hlr := (rrows_len h3).1
  have hl := ownC_ln Tryz.underlying62 h3.rr.own
  have HLR := Lib.hid hlr
  clear h3
  by_cases hy0 : y < 0
  · have d0 : decide (y < 0) = true := decide_eq_true hy0
    have HE := Lib.hid (show manyV g x y n s = 0 by unfold manyV; rw [if_neg (fun e => by have := onIt_iff e.1; omega)])
    go_wp2_with fail
    exact ret1v rfl rfl rfl ⟨by rw [HE.out]; rfl, HB3.out⟩
  have d0 : decide (y < 0) = false := decide_eq_false hy0
  by_cases hy1 : (Lr.length : Int) ≤ y
  · have d1 : decide ((Lr.length : Int) ≤ y) = true := decide_eq_true hy1
    have HE := Lib.hid (show manyV g x y n s = 0 by unfold manyV; rw [if_neg (fun e => by have := onIt_iff e.1; omega)])
    go_wp2_with fail
    exact ret1v rfl rfl rfl ⟨by rw [HE.out]; rfl, HB3.out⟩
  have d1 : decide ((Lr.length : Int) ≤ y) = false := decide_eq_false hy1
  by_cases hx0 : x < 0
  · have d2 : decide (x < 0) = true := decide_eq_true hx0
    have HE := Lib.hid (show manyV g x y n s = 0 by unfold manyV; rw [if_neg (fun e => by have := onIt_iff e.1; omega)])
    go_wp2_with fail
    exact ret1v rfl rfl rfl ⟨by rw [HE.out]; rfl, HB3.out⟩
  have d2 : decide (x < 0) = false := decide_eq_false hx0
  by_cases hx1 : (g.cols : Int) ≤ x
  · have d3 : decide ((g.cols : Int) ≤ x) = true := decide_eq_true hx1
    have HE := Lib.hid (show manyV g x y n s = 0 by unfold manyV; rw [if_neg (fun e => by have := onIt_iff e.1; omega)])
    go_wp2_with fail
    exact ret1v rfl rfl rfl ⟨by rw [HE.out]; rfl, HB3.out⟩
  have d3 : decide ((g.cols : Int) ≤ x) = false := decide_eq_false hx1
  by_cases hn0 : n ≤ 0
  · have d4 : decide (n ≤ 0) = true := decide_eq_true hn0
    have HE := Lib.hid (show manyV g x y n s = 0 by unfold manyV; rw [if_neg (fun e => by have := e.2; omega)])
    go_wp2_with fail
    exact ret1v rfl rfl rfl ⟨by rw [HE.out]; rfl, HB3.out⟩
  have d4 : decide (n ≤ 0) = false := decide_eq_false hn0
  have hwc : IntKind.i64.wrap ((g.cols : Int) - x) = (g.cols : Int) - x := wrap64_id _ (by omega) (by omega)
  have HE := Lib.hid (show (manyV g x y n s : Int) = min n ((g.cols : Int) - x) by
    have hon : g.onIt x y s = true := by
      unfold Gr.onIt
      rw [decide_eq_true (show 0 ≤ y by omega), decide_eq_true (show y < (g.rows.length : Int) by omega), decide_eq_true (show 0 ≤ x by omega), decide_eq_true (show x < (g.cols : Int) by omega), hok]
      rfl
    unfold manyV
    rw [if_pos ⟨hon, by omega⟩]
    unfold manyN
    omega)
  clear hlr
  go_wp2_with fail
  exact ret1v rfl rfl rfl ⟨by rw [HE.out]; rfl, HB3.out⟩
set_option maxRecDepth 100000 in
set_option maxHeartbeats 8000000 in
theorem eraseD_any {T : Nat → Nat} {p : Nat} {w : World} {g : Gr} (h : RM T p w g) (hwh : g.All WhR) (x y n : Int) (s : Sty) :
    Calls Tryz.prog 27 #[.pointer (some ⟨p, 0, none⟩), .int .i64 x, .int .i64 y, .int .i64 n, s.val] w fun e w' => e = .returned (.tuple #[]) ∧ Within (own T w) w w' ∧ ∃ T', RM T' p w' (g.erase x y n s) ∧ ∀ k, T' k ≠ 0 → own T w k := by
  have hBz := Below.alloc (Below.refl w.heap.size w) (Nat.le_refl _) (.cells #[.int .i64 s.fg, .int .i64 s.bg, .int .i64 s.attr] 36)
  have HB := Lib.hid hBz
  have H := Lib.hid (h.below hBz)
  have HKS := Lib.hid (blk_new w (.cells #[.int .i64 s.fg, .int .i64 s.bg, .int .i64 s.attr] 36))
  have HEQ := Lib.hid (rowOp_many g eraseL x y n s)
  have HLT := Lib.hid h.lt
  have HWH := Lib.hid hwh
  clear h hBz hwh
  go_enter Tryz.func27, Tryz.ntmps27
  unfold Sty.val
  go_upto_region 1 with fail
  generalize w.alloc (.cells #[.int .i64 s.fg, .int .i64 s.bg, .int .i64 s.attr] 36) = wa at *
  have s0 : wa.cell? ⟨w.heap.size, 0, none⟩ = some (.int .i64 s.fg) := blk_cell HKS.out 0
  have s1 : wa.cell? ⟨w.heap.size, 1, none⟩ = some (.int .i64 s.bg) := blk_cell HKS.out 1
  have s2 : wa.cell? ⟨w.heap.size, 2, none⟩ = some (.int .i64 s.attr) := blk_cell HKS.out 2
  go_wp2_with fail
  refine (manyD_any H.out x y n s).mono ?_
  rintro e w3 ⟨rfl, b3⟩
  have HB3 := Lib.hid (HB.out.trans (b3.mono HB.out.size))
  have H3 := Lib.hid (H.out.below b3)
  have HK3 := Lib.hid (blk_below HKS.out b3 (heap_lt HKS.out))
  clear b3 s0 s1 s2
  by_cases hm0 : manyV g x y n s = 0
  · rw [hm0]
    have HE := Lib.hid (show g.erase x y n s = g by have := HEQ.out; rw [if_pos hm0] at this; exact this)
    go_wp2_with fail
    refine ret0w rfl rfl ⟨rfl, Within.of_below HB3.out, T, ?_, fun k hk => .inl hk⟩
    rw [HE.out]
    exact H3.out
  obtain ⟨hon, hn0, hmv⟩ := manyV_pos hm0
  obtain ⟨n1, n2, n3, n4, n5⟩ := onIt_iff hon
  obtain ⟨xn, rfl⟩ : ∃ k : Nat, x = (k : Int) := ⟨x.toNat, by omega⟩
  obtain ⟨yn, rfl⟩ : ∃ k : Nat, y = (k : Int) := ⟨y.toNat, by omega⟩
  have hN2 : 1 ≤ manyV g xn yn n s ∧ xn + manyV g xn yn n s ≤ g.cols := by unfold manyN at hmv; omega
  have hE := HEQ.out
  rw [if_neg hm0, Int.toNat_natCast, Int.toNat_natCast] at hE
  clear HEQ hmv
  generalize manyV g xn yn n s = N at *
  have HE := Lib.hid (show g.erase xn yn n s = g.turn yn (fun l => eraseL l xn N s) from hE)
  have d0 : ((N : Int) == 0) = false := beq_eq_false_iff_ne.2 (by omega)
  obtain ⟨vr, vo, Lr, Lo, h3⟩ := H3.out
  have HA := Lib.hid h3
  have hlen := (rrows_len h3).1
  have hyl : yn < Lr.length := by omega
  have hcols := h3.wf.c2
  have hrc : Lr[yn].2.cells.length = g.cols := (h3.wf.ce _ (List.mem_append_left _ (by rw [← h3.er]; exact List.mem_map_of_mem (List.getElem_mem hyl)))).1
  have hrok : ∀ c ∈ Lr[yn].2.cells, c.Ok := (h3.wf.ce _ (List.mem_append_left _ (by rw [← h3.er]; exact List.mem_map_of_mem (List.getElem_mem hyl)))).2
  have hwr : Wh Lr[yn].2.cells := HWH.out _ (List.mem_append_right _ (by rw [← h3.er]; exact List.mem_map_of_mem (List.getElem_mem hyl)))
  have hcx := h3.ca Lr[yn] (List.mem_append_left _ (List.getElem_mem hyl))
  obtain ⟨b, off, vc, hxv, hnc, hcm⟩ := ownC_pos hcx.own (by omega)
  rw [hrc] at hxv hnc
  have hO3 := hcx.own
  rw [hxv, hrc] at hO3
  obtain ⟨q, hq1, hq2⟩ := hcx.tag
  have hqb : q = b := by rw [hxv] at hq1; simp only [Value.ownBlock] at hq1; injection hq1 with e; exact e.symm
  subst hqb
  have hbl : q < w.heap.size := HLT.out q (by omega)
  obtain ⟨rb, ro, rc, hvr, _, _⟩ := ownC_pos h3.rr.own (by omega)
  subst hvr
  obtain ⟨c0, c1, c2, c3⟩ := rm_cells h3
  obtain ⟨r0, r1⟩ := ownC_row2 h3.rr.own yn hyl
  rw [hxv] at r0
  have hix := idx_at (P := Tryz.prog) (size := 2) Tryz.underlying62 rowD_info rb ro Lr.length rc yn hyl
  have hwx : IntKind.i64.wrap ((xn : Int) + (N : Int)) = (xn : Int) + (N : Int) := wrap64_id _ (by omega) (by omega)
  have hwc : IntKind.i64.wrap ((g.cols : Int) - (N : Int)) = (g.cols : Int) - (N : Int) := wrap64_id _ (by omega) (by omega)
  have hpt : T p = 1 := h3.tp
  have hbp : q ≠ p := fun e => by rw [e] at hq2; omega
  have hks : q ≠ w.heap.size := by omega
  clear hcx h3 n1 n2 n3 n4 hm0 hon hE
  go_wp2_with fail
  refine (cutD_any Lr[yn].2.cells xn q off g.cols vc w3 hO3 hrc (by omega) (by omega) hwr).mono ?_
  rintro e w5 ⟨rfl, g5, o5⟩
  have HG5 := Lib.hid g5
  have HO5 := Lib.hid o5
  have HWR5 := Lib.hid (cutL_wh hwr xn)
  have hl5 : (cutL Lr[yn].2.cells xn).length = g.cols := by rw [cutL_len]; exact hrc
  have HK5 := Lib.hid (blk_grown HK3.out g5 (by intro e; injection e with e; omega))
  have k0 : w5.cell? ⟨p, 0, none⟩ = some (.int .i64 g.cols) := cell_grown g5 c0 (fun e => hbp (by injection e))
  clear g5 o5 c0 c1 c2 c3 r0 r1
  go_wp2_with fail
  refine (cutD_any (cutL Lr[yn].2.cells xn) ((xn : Int) + (N : Int)) q off g.cols vc w5 HO5.out hl5 (by omega) (by omega) HWR5.out).mono ?_
  rintro e w6 ⟨rfl, g6, o6⟩
  rw [show (xn : Int) + (N : Int) = ((xn + N : Nat) : Int) by omega] at o6
  have HG6 := Lib.hid (gb_trans HG5.out g6)
  have HO6 := Lib.hid o6
  have HK6 := Lib.hid (blk_grown HK5.out g6 (by intro e; injection e with e; omega))
  have k0 : w6.cell? ⟨p, 0, none⟩ = some (.int .i64 g.cols) := cell_grown g6 k0 (fun e => hbp (by injection e))
  have hl6 : (cutL (cutL Lr[yn].2.cells xn) ((xn + N : Nat) : Int)).length = g.cols := by rw [cutL_len]; exact hl5
  clear g6 o6 HG5 HO5 HK5
  obtain ⟨m2, hm2⟩ : ∃ m2, cutL (cutL Lr[yn].2.cells xn) ((xn + N : Nat) : Int) = m2 := ⟨_, rfl⟩
  have HM2 := Lib.hid hm2
  rw [hm2] at HO6 hl6
  clear hm2 k0
  go_upto_region 7 with fail
  go_loopw [11] (fun iv wr => ∃ k : Nat, k ≤ N ∧ iv = .int .i64 ((xn + k : Nat) : Int) ∧ Hid (w3.grownBy wr (some q)) ∧ Hid (OwnC wr 0 5 (.slice (some ⟨q, off, none⟩) g.cols vc) g.cols (cvals (fillL m2 xn k s))) ∧ Hid (wr.heap[w.heap.size]? = some (.cells #[.int .i64 s.fg, .int .i64 s.bg, .int .i64 s.attr] 36 (0, 0)))) (fun iv _ => xn + N - (intOf iv).toNat)
  case atStart => exact ⟨0, Nat.zero_le _, rfl, HG6, by rw [fill_zero]; exact HO6, HK6⟩
  case round =>
    obtain ⟨k, hk, rfl, HG, HO, HK⟩ := hrel
    obtain ⟨wo, rfl⟩ : ∃ wo, wo = wr := ⟨wr, rfl⟩
    by_cases hlt : k < N
    · have d1 : decide (((xn + k : Nat) : Int) < (xn : Int) + (N : Int)) = true := decide_eq_true (by omega)
      have d1' : decide (xn + k < xn + N) = true := decide_eq_true (by omega)
      have d1'' : decide ((xn : Int) + (k : Int) < (xn : Int) + (N : Int)) = true := decide_eq_true (by omega)
      have hwk : IntKind.i64.wrap (((xn + k : Nat) : Int) + 1) = ((xn + (k + 1) : Nat) : Int) := by rw [wrap64_id _ (by omega) (by omega)]; omega
      obtain ⟨j, hj⟩ : ∃ j, xn + k = j := ⟨_, rfl⟩
      obtain ⟨j1, hj1⟩ : ∃ j1, xn + (k + 1) = j1 := ⟨_, rfl⟩
      rw [hj, hj1] at hwk
      rw [hj] at d1 ⊢
      have HJ := Lib.hid (show xn + k = j ∧ xn + (k + 1) = j1 from ⟨hj, hj1⟩)
      have hjc : j < g.cols := by omega
      clear hj hj1 d1' d1''
      have k0 : wo.cell? ⟨w.heap.size, 0, none⟩ = some (.int .i64 s.fg) := blk_cell HK.out 0
      have k1 : wo.cell? ⟨w.heap.size, 1, none⟩ = some (.int .i64 s.bg) := blk_cell HK.out 1
      have k2 : wo.cell? ⟨w.heap.size, 2, none⟩ = some (.int .i64 s.attr) := blk_cell HK.out 2
      have HBL := Lib.hid (blankD_any s wo)
      unfold Sty.val Cel.val blankC at HBL
      dsimp only at HBL
      go_wp2_with fail
      refine HBL.out.mono ?_
      rintro e w7 ⟨rfl, b7⟩
      have hix7 := idx_at (P := Tryz.prog) (size := 5) Tryz.underlying42 cell_info q off g.cols vc j hjc
      have HO7 := ownC_below HO.out b7
      have hst := store_own (P := Tryz.prog) cell_info HO7 j hjc #[.int .i32 32, .int .i64 1, .int .i64 s.fg, .int .i64 s.bg, .int .i64 s.attr] rfl (cvals_one' ⟨32, 1, s⟩)
      have HP := ownC_put HO7 (j * 5) (cvals [blankC s]) (by rw [cvals_len]; simp; omega)
      rw [← cvals_put] at HP
      have hfs : putAt (fillL m2 xn k s) j [blankC s] = fillL m2 xn (k + 1) s := by
        have := fill_succ m2 xn k s (by omega)
        rw [HJ.out.1] at this
        exact this
      rw [hfs] at HP
      have g8 := gb_setCells w7 q (off + j * 5) (cvals [blankC s])
      replace hst : (storeVar 38 ⟨q, off + j * 5, none⟩ (.agg #[.int .i32 32, .int .i64 1, .int .i64 s.fg, .int .i64 s.bg, .int .i64 s.attr])).run Tryz.prog w7 = .ok () (w7.setCells q (off + j * 5) (cvals [blankC s])) := hst
      have HG8 := Lib.hid (gb_trans (gb_below HG.out b7 HG.out.size) g8)
      have HK8 := Lib.hid (blk_grown (blk_below HK.out b7 (heap_lt HK.out)) g8 (by intro e; injection e with e; omega))
      have HO8 := Lib.hid HP
      clear HP g8 HO7 b7 k0 k1 k2
      generalize w7.setCells q (off + j * 5) (cvals [blankC s]) = w8 at *
      go_wp2_with (refine wpList_storeR rfl _ _ _ rfl hst rfl rfl ?_)
      go_roundw
      case rel => exact ⟨k + 1, by omega, by rw [HJ.out.2], HG8, HO8, HK8⟩
      case measure => (have := HJ.out; simp [intOf]; omega)
    · have hkn : k = N := by omega
      have d1 : decide (((xn + k : Nat) : Int) < (xn : Int) + (N : Int)) = false := decide_eq_false (by omega)
      have d1' : decide (xn + k < xn + N) = false := decide_eq_false (by omega)
      have d1'' : decide ((xn : Int) + (k : Int) < (xn : Int) + (N : Int)) = false := decide_eq_false (by omega)
      obtain ⟨j, hj⟩ : ∃ j, xn + k = j := ⟨_, rfl⟩
      rw [hj] at d1 ⊢
      have hO9 := HO.out
      rw [hkn, ← HM2.out] at hO9
      have HO9 := Lib.hid hO9
      clear hO9 hj d1' d1'' hkn
      go_wp2_with fail
      go_end0
      have hll : (eraseL Lr[yn].2.cells xn N s).length = g.cols := by
        rw [eraseL_len s (by omega)]; exact hrc
      refine ⟨rfl, within_of_rowD HB3.out (by omega) HG.out, T, ?_, fun k hk => .inl hk⟩
      rw [HE.out]
      refine HA.out.turned yn hyl (b := q) (by rw [hxv]; rfl) (Mod.of_gb HG.out (fun k hk => by injection hk with hk; subst hk; exact hq2)) _ ?_ hll (eraseL_ok hrok)
      rw [hll, hxv]
      exact HO9.out
/-- A row's cells are put anew, in a block that is new. -/
theorem RAt.recell {T : Nat → Nat} {p rb ro rc : Nat} {vo : Value} {Lr Lo : List (Value × Rw)} {w3 w9 : World} {g : Gr} (h : RAt T p (.slice (some ⟨rb, ro, none⟩) Lr.length rc) vo Lr Lo w3 g) (yn : Nat) (hy : yn < Lr.length) {q : Nat} (hq : Lr[yn].1.ownBlock = some q)
    {v' : Value} {cs : List Cel} (g2 : w3.grownBy w9 (some q)) (hn : OwnC w9 w3.heap.size 5 v' cs.length (cvals cs)) (hl : cs.length = g.cols) (hok : ∀ c ∈ cs, c.Ok) (f : List Cel → List Cel) (hf : f Lr[yn].2.cells = cs) :
    Within (own T w3) w3 (w9.setCell ⟨rb, ro + yn * 2, none⟩ v') ∧ ∃ T', RM T' p (w9.setCell ⟨rb, ro + yn * 2, none⟩ v') (g.turn yn f) ∧ ∀ k, T' k ≠ 0 → own T w3 k := by
  have hc1 := h.wf.c1
  obtain ⟨A, x, B, hA, hL⟩ : ∃ A x B, A.length = yn ∧ Lr = A ++ x :: B := by
    refine ⟨Lr.take yn, Lr[yn], Lr.drop (yn + 1), by rw [List.length_take]; omega, ?_⟩
    rw [← List.drop_eq_getElem_cons, List.take_append_drop]
  have hx : Lr[yn] = x := by
    subst hL
    subst hA
    simp
  rw [hx] at hq hf
  obtain ⟨b', o', c', hv, _, _⟩ := ownC_pos hn (by omega)
  have hz := RzD.start h (Within.refl _ _) h
  have hltk := h.lt
  have g3 : w9.grownBy (w9.setCell ⟨rb, ro + yn * 2, none⟩ v') (Value.slice (some ⟨rb, ro, none⟩) Lr.length rc).ownBlock := gb_set (gb_refl _ _) _ _
  have hlen : (A ++ (v', (⟨cs, x.2.wrap⟩ : Rw)) :: B).length = Lr.length := by rw [hL]; simp
  have hqr : ∀ k, (Value.slice (some ⟨rb, ro, none⟩) Lr.length rc).ownBlock = some k → some q ≠ some k := fun k hk e => by
    have h1 := h.rr.tag k hk
    obtain ⟨q2, e1, e2⟩ := (h.ca x (List.mem_append_left _ (by rw [hL]; simp))).tag
    rw [hq] at e1
    injection e1 with e1
    injection e with e
    subst e1 e
    omega
  have ho := ownC_grown h.rr.own g2 (fun k hk e => hqr k hk e)
  have hput := ownC_put ho (yn * 2) [v'] (by simp; omega)
  have hpv : putAt (rowVals Lr) (yn * 2) [v'] = rowVals (A ++ (v', (⟨cs, x.2.wrap⟩ : Rw)) :: B) := by
    rw [hL, rowVals_append, rowVals_append]
    exact putAt_mid (rowVals A) (.bool x.2.wrap :: rowVals B) x.1 v' (yn * 2) (by rw [rowVals_len, hA])
  rw [hpv] at hput
  have hst := RzD.step (K := #[.int .i64 g.cols, .int .i64 g.limit, .slice (some ⟨rb, ro, none⟩) Lr.length rc, vo]) (A := A) (B := B) (x := x) (M := Lo) (v' := v') (r' := ⟨cs, x.2.wrap⟩) hltk h.tp (.inl ⟨rfl, rfl⟩) (by rw [← hL]; exact hz) hq g2 (.inr ⟨hn, b', by rw [hv]; rfl⟩) g3 (by rw [hlen]; exact hput)
  have hcell : (g.rows.getD yn noR) = x.2 := by
    rw [← h.er, hL, List.getD_eq_getElem?_getD, List.getElem?_map]
    subst hA
    simp
  have hgt : g.turn yn f = { g with rows := g.rows.set yn ⟨cs, x.2.wrap⟩ } := by
    unfold Gr.turn
    rw [hcell, hf]
  have her : (A ++ (v', (⟨cs, x.2.wrap⟩ : Rw)) :: B).map (·.2) = (g.turn yn f).rows := by
    rw [hgt]
    show _ = g.rows.set yn _
    rw [← h.er, hL]
    subst hA
    simp
  refine ⟨hst.wi, rat_build hltk h.tp hst.wi.size (by rw [hgt]; exact hst.blk) hst.rl.own hst.rm.own (fun k hk => .inl (hst.rl.tag k hk)) (fun k hk => .inl (hst.rm.tag k hk)) (hst.tags hltk) hst.nd her (by rw [hgt]; exact h.eo) ?_⟩
  rw [hgt]
  refine ⟨h.wf.c1, h.wf.c2, by show 1 ≤ (g.rows.set _ _).length; rw [List.length_set]; exact h.wf.r1, by show (g.rows.set _ _).length ≤ 120; rw [List.length_set]; exact h.wf.r2, h.wf.li, h.wf.ol, fun r hr => ?_⟩
  rcases List.mem_append.1 hr with hr | hr
  · rcases List.mem_or_eq_of_mem_set hr with hr | hr
    · exact h.wf.ce r (List.mem_append_left _ hr)
    · rw [hr]; exact ⟨hl, hok⟩
  · exact h.wf.ce r (List.mem_append_right _ hr)
/-- A line that is made anew, behind a row that was cut. -/
structure Bf (w3 : World) (q off n c : Nat) (m : List Cel) (v : Value) (xs : List Cel) (wi : World) : Prop where
  gb : w3.grownBy wi (some q)
  own : OwnC wi w3.heap.size 5 v xs.length (cvals xs)
  row : OwnC wi 0 5 (.slice (some ⟨q, off, none⟩) n c) n (cvals m)
theorem Bf.app {w3 : World} {q off n c : Nat} {m : List Cel} {v v' : Value} {xs ys : List Cel} {wi wj wk : World} {j : Nat} (h : Bf w3 q off n c m v xs wi) (hq : q < w3.heap.size) (b : Below wi.heap.size wi wj)
    (o : OwnC wk w3.heap.size 5 v' (xs.length + j) (cvals xs ++ cvals ys)) (hj : ys.length = j) (g : wj.grownBy wk v.ownBlock) : Bf w3 q off n c m v' (xs ++ ys) wk := by
  have hs := h.gb.size
  have hv : ∀ k, v.ownBlock = some k → w3.heap.size ≤ k := fun k hk => (ownC_lt h.own k hk).1
  refine ⟨gb_trans_new (gb_below h.gb b hs) g hv, ?_, ownC_grown (ownC_below h.row b) g (fun k hk e => ?_)⟩
  · rw [List.length_append, cvals_append, hj]; exact o
  · simp only [Value.ownBlock] at hk
    injection hk with hk
    have := hv k e
    omega
theorem Bf.blk {w3 : World} {q off n c : Nat} {m : List Cel} {v : Value} {xs : List Cel} {wi : World} (h : Bf w3 q off n c m v xs wi) {k : Nat} {o : Obj} (hk : w3.heap[k]? = some o) (hne : k ≠ q) : wi.heap[k]? = some o :=
  blk_grown hk h.gb (fun e => hne (by injection e))
set_option maxRecDepth 100000 in
set_option maxHeartbeats 8000000 in
theorem insD_any {T : Nat → Nat} {p : Nat} {w : World} {g : Gr} (h : RM T p w g) (hwh : g.All WhR) (x y n : Int) (s : Sty) :
    Calls Tryz.prog 29 #[.pointer (some ⟨p, 0, none⟩), .int .i64 x, .int .i64 y, .int .i64 n, s.val] w fun e w' => e = .returned (.tuple #[]) ∧ Within (own T w) w w' ∧ ∃ T', RM T' p w' (g.ins x y n s) ∧ ∀ k, T' k ≠ 0 → own T w k := by
  have hBz := Below.alloc (Below.refl w.heap.size w) (Nat.le_refl _) (.cells #[.int .i64 s.fg, .int .i64 s.bg, .int .i64 s.attr] 36)
  have HB := Lib.hid hBz
  have H := Lib.hid (h.below hBz)
  have HKS := Lib.hid (blk_new w (.cells #[.int .i64 s.fg, .int .i64 s.bg, .int .i64 s.attr] 36))
  have HEQ := Lib.hid (rowOp_many g insL x y n s)
  have HLT := Lib.hid h.lt
  have HWH := Lib.hid hwh
  clear h hBz hwh
  go_enter Tryz.func29, Tryz.ntmps29
  unfold Sty.val
  go_upto_region 1 with fail
  generalize w.alloc (.cells #[.int .i64 s.fg, .int .i64 s.bg, .int .i64 s.attr] 36) = wa at *
  have s0 : wa.cell? ⟨w.heap.size, 0, none⟩ = some (.int .i64 s.fg) := blk_cell HKS.out 0
  have s1 : wa.cell? ⟨w.heap.size, 1, none⟩ = some (.int .i64 s.bg) := blk_cell HKS.out 1
  have s2 : wa.cell? ⟨w.heap.size, 2, none⟩ = some (.int .i64 s.attr) := blk_cell HKS.out 2
  go_wp2_with fail
  refine (manyD_any H.out x y n s).mono ?_
  rintro e w3 ⟨rfl, b3⟩
  have HB3 := Lib.hid (HB.out.trans (b3.mono HB.out.size))
  have H3 := Lib.hid (H.out.below b3)
  have HK3 := Lib.hid (blk_below HKS.out b3 (heap_lt HKS.out))
  clear b3 s0 s1 s2
  by_cases hm0 : manyV g x y n s = 0
  · rw [hm0]
    have HE := Lib.hid (show g.ins x y n s = g by have := HEQ.out; rw [if_pos hm0] at this; exact this)
    go_wp2_with fail
    refine ret0w rfl rfl ⟨rfl, Within.of_below HB3.out, T, ?_, fun k hk => .inl hk⟩
    rw [HE.out]
    exact H3.out
  obtain ⟨hon, hn0, hmv⟩ := manyV_pos hm0
  obtain ⟨n1, n2, n3, n4, n5⟩ := onIt_iff hon
  obtain ⟨xn, rfl⟩ : ∃ k : Nat, x = (k : Int) := ⟨x.toNat, by omega⟩
  obtain ⟨yn, rfl⟩ : ∃ k : Nat, y = (k : Int) := ⟨y.toNat, by omega⟩
  have hN2 : 1 ≤ manyV g xn yn n s ∧ xn + manyV g xn yn n s ≤ g.cols := by unfold manyN at hmv; omega
  have hE := HEQ.out
  rw [if_neg hm0, Int.toNat_natCast, Int.toNat_natCast] at hE
  clear HEQ hmv
  generalize manyV g xn yn n s = N at *
  have HE := Lib.hid (show g.ins xn yn n s = g.turn yn (fun l => insL l xn N s) from hE)
  have d0 : ((N : Int) == 0) = false := beq_eq_false_iff_ne.2 (by omega)
  obtain ⟨vr, vo, Lr, Lo, h3⟩ := H3.out
  have HA := Lib.hid h3
  have hlen := (rrows_len h3).1
  have hyl : yn < Lr.length := by omega
  have hcols := h3.wf.c2
  have hrc : Lr[yn].2.cells.length = g.cols := (h3.wf.ce _ (List.mem_append_left _ (by rw [← h3.er]; exact List.mem_map_of_mem (List.getElem_mem hyl)))).1
  have hrok : ∀ c ∈ Lr[yn].2.cells, c.Ok := (h3.wf.ce _ (List.mem_append_left _ (by rw [← h3.er]; exact List.mem_map_of_mem (List.getElem_mem hyl)))).2
  have hwr : Wh Lr[yn].2.cells := HWH.out _ (List.mem_append_right _ (by rw [← h3.er]; exact List.mem_map_of_mem (List.getElem_mem hyl)))
  have hcx := h3.ca Lr[yn] (List.mem_append_left _ (List.getElem_mem hyl))
  obtain ⟨b, off, vc, hxv, hnc, hcm⟩ := ownC_pos hcx.own (by omega)
  rw [hrc] at hxv hnc
  have hO3 := hcx.own
  rw [hxv, hrc] at hO3
  obtain ⟨q, hq1, hq2⟩ := hcx.tag
  have hqb : q = b := by rw [hxv] at hq1; simp only [Value.ownBlock] at hq1; injection hq1 with e; exact e.symm
  subst hqb
  have hbl : q < w.heap.size := HLT.out q (by omega)
  obtain ⟨rb, ro, rc, hvr, _, _⟩ := ownC_pos h3.rr.own (by omega)
  subst hvr
  obtain ⟨c0, c1, c2, c3⟩ := rm_cells h3
  obtain ⟨r0, r1⟩ := ownC_row2 h3.rr.own yn hyl
  rw [hxv] at r0
  have hix := idx_at (P := Tryz.prog) (size := 2) Tryz.underlying62 rowD_info rb ro Lr.length rc yn hyl
  have hwx : IntKind.i64.wrap ((xn : Int) + (N : Int)) = (xn : Int) + (N : Int) := wrap64_id _ (by omega) (by omega)
  have hwc : IntKind.i64.wrap ((g.cols : Int) - (N : Int)) = (g.cols : Int) - (N : Int) := wrap64_id _ (by omega) (by omega)
  have hpt : T p = 1 := h3.tp
  have hbp : q ≠ p := fun e => by rw [e] at hq2; omega
  have hks : q ≠ w.heap.size := by omega
  clear hcx h3 n1 n2 n3 n4 hm0 hon hE
  go_wp2_with fail
  refine (cutD_any Lr[yn].2.cells xn q off g.cols vc w3 hO3 hrc (by omega) (by omega) hwr).mono ?_
  rintro e w5 ⟨rfl, g5, o5⟩
  have HG5 := Lib.hid g5
  have HO5 := Lib.hid o5
  have HWR5 := Lib.hid (cutL_wh hwr xn)
  have hl5 : (cutL Lr[yn].2.cells xn).length = g.cols := by rw [cutL_len]; exact hrc
  have HK5 := Lib.hid (blk_grown HK3.out g5 (by intro e; injection e with e; omega))
  have k0 : w5.cell? ⟨p, 0, none⟩ = some (.int .i64 g.cols) := cell_grown g5 c0 (fun e => hbp (by injection e))
  clear g5 o5 c0 c1 c2 c3 r0 r1
  go_wp2_with fail
  refine (cutD_any (cutL Lr[yn].2.cells xn) ((g.cols : Int) - (N : Int)) q off g.cols vc w5 HO5.out hl5 (by omega) (by omega) HWR5.out).mono ?_
  rintro e w6 ⟨rfl, g6, o6⟩
  rw [show (g.cols : Int) - (N : Int) = ((Lr[yn].2.cells.length - N : Nat) : Int) by omega] at o6
  have HG6 := Lib.hid (gb_trans HG5.out g6)
  have HO6 := Lib.hid o6
  have HK6 := Lib.hid (blk_grown HK5.out g6 (by intro e; injection e with e; omega))
  have k0 : w6.cell? ⟨p, 0, none⟩ = some (.int .i64 g.cols) := cell_grown g6 k0 (fun e => hbp (by injection e))
  have hl6 : (cutL (cutL Lr[yn].2.cells xn) ((Lr[yn].2.cells.length - N : Nat) : Int)).length = g.cols := by rw [cutL_len]; exact hl5
  clear g6 o6 HG5 HO5 HK5
  have HLL := Lib.hid (show (insL Lr[yn].2.cells xn N s).length = g.cols by rw [insL_len s (by omega)]; exact hrc)
  obtain ⟨m2, hm2⟩ : ∃ m2, cutL (cutL Lr[yn].2.cells xn) ((Lr[yn].2.cells.length - N : Nat) : Int) = m2 := ⟨_, rfl⟩
  have HIN := Lib.hid (show insL Lr[yn].2.cells xn N s = m2.take xn ++ List.replicate N (blankC s) ++ (m2.drop xn).take (g.cols - N - xn) by
    unfold insL
    rw [hm2, hrc])
  rw [hm2] at HO6 hl6
  clear hm2
  have hs36 : w3.heap.size ≤ w6.heap.size := HG6.out.size
  have hq3 : q < w3.heap.size := by have := HB3.out.size; omega
  have HBa := Lib.hid ((Below.refl w6.heap.size w6).alloc (Nat.le_refl _) (.cells #[] 38))
  have HF0 := Lib.hid (show Bf w3 q off g.cols vc m2 (.slice (some ⟨w6.heap.size, 0, none⟩) 0 0) [] (w6.alloc (.cells #[] 38)) from
    ⟨gb_below HG6.out HBa.out HG6.out.size, ownC_mono (own_empty w6 38 5) hs36, ownC_below HO6.out HBa.out⟩)
  have hsh := fun wx => slice_h (P := Tryz.prog) Tryz.underlying42 cell_info (some ⟨q, off, none⟩) g.cols vc xn (by omega) wx
  have HPR := Lib.hid (show ∀ wx, OwnC wx 0 5 (.slice (some ⟨q, off, none⟩) g.cols vc) g.cols (cvals m2) → OwnC wx 0 5 (.slice (some ⟨q, off, none⟩) xn vc) xn (cvals (m2.take xn)) from fun wx hx => by
    have := ownC_pre hx xn (by omega)
    rw [cvals_take] at this
    exact this)
  have hlt : (m2.take xn).length = xn := by rw [List.length_take]; omega
  have hpq : p ≠ q := fun e => hbp e.symm
  clear hbp
  go_wp2_with (at_builtin; refine held ?_)
  unfold Held
  refine wpList_appD cells_elem rfl rfl w3.heap.size HF0.out.own rfl (ownC_reads (HPR.out _ HF0.out.row)) rfl (cvals_one _) (by unfold maxLen; simp; omega) (by simp; omega) (by simp; omega) ?_
  intro v7 w7 o7 g7 n7
  have HF7 := Lib.hid (show Bf w3 q off g.cols vc m2 v7 (m2.take xn) w7 from HF0.out.app hq3 (Below.refl _ _) o7 hlt g7)
  clear o7 g7 n7 hsh HF0 k0
  have s0 : w7.cell? ⟨w.heap.size, 0, none⟩ = some (.int .i64 s.fg) := blk_cell (HF7.out.blk HK3.out (fun e => hks e.symm)) 0
  have s1 : w7.cell? ⟨w.heap.size, 1, none⟩ = some (.int .i64 s.bg) := blk_cell (HF7.out.blk HK3.out (fun e => hks e.symm)) 1
  have s2 : w7.cell? ⟨w.heap.size, 2, none⟩ = some (.int .i64 s.attr) := blk_cell (HF7.out.blk HK3.out (fun e => hks e.symm)) 2
  have HBL := Lib.hid (blanksD_any N s w7 (by omega))
  unfold Sty.val at HBL
  go_wp2_with fail
  refine HBL.out.mono ?_
  rintro e wb ⟨vb, rfl, bb, ob⟩
  have HOB := Lib.hid ob
  have HBB := Lib.hid bb
  have hlx : (m2.take xn).length = xn := by simp [List.length_take, List.length_drop]; omega
  have hsb := Nat.le_trans HF7.out.gb.size bb.size
  clear ob bb s0 s1 s2 HBL
  go_wp2_with (at_builtin; refine held ?_)
  unfold Held
  refine wpList_appD cells_elem rfl rfl w3.heap.size (ownC_below HF7.out.own HBB.out) rfl (ownC_reads HOB.out) rfl (cvals_one _) (by rw [hlx]; unfold maxLen; omega) (by rw [hlx]; omega) hsb ?_
  intro v8 w8 o8 g8 n8
  have HF8 := Lib.hid (show Bf w3 q off g.cols vc m2 v8 (m2.take xn ++ List.replicate N (blankC s)) w8 from HF7.out.app hq3 HBB.out o8 (by rw [List.length_replicate]) g8)
  clear o8 g8 n8 HOB HBB hlx hsb
  have k0 : w8.cell? ⟨p, 0, none⟩ = some (.int .i64 g.cols) := (rm_cells HA.out).1 |> fun c0 => cell_grown HF8.out.gb c0 (fun e => hpq (by injection e with e; exact e.symm))
  obtain ⟨sa, hsl, hsa⟩ := slice_lh' (P := Tryz.prog) (size := 5) Tryz.underlying42 cell_info q off g.cols vc xn (g.cols - N) (by omega) (by omega)
  rw [show ((g.cols - N : Nat) : Int) = (g.cols : Int) - (N : Int) by omega] at hsl
  have hlx : (m2.take xn ++ List.replicate N (blankC s)).length = xn + N := by simp [List.length_take, List.length_drop]; omega
  have hly : ((m2.drop xn).take (g.cols - N - xn)).length = (g.cols - N) - xn := by simp [List.length_take, List.length_drop]; omega
  have HRD := Lib.hid (show Reads w8 5 (.slice (some sa) ((g.cols - N) - xn) (vc - xn)) ((g.cols - N) - xn) (cvals ((m2.drop xn).take (g.cols - N - xn))) by
    have := reads_sub HF8.out.row xn ((g.cols - N)) (vc - xn) sa hsa (by omega) (by omega)
    rw [cvals_drop, cvals_take] at this
    exact this)
  have hsb := HF8.out.gb.size
  go_wp2_with (at_builtin; refine held ?_)
  unfold Held
  refine wpList_appD cells_elem rfl rfl w3.heap.size HF8.out.own rfl HRD.out rfl (cvals_one _) (by rw [hlx]; unfold maxLen; omega) (by rw [hlx]; omega) hsb ?_
  intro v9 w9 o9 g9 n9
  have HF9 := Lib.hid (show Bf w3 q off g.cols vc m2 v9 (m2.take xn ++ List.replicate N (blankC s) ++ (m2.drop xn).take (g.cols - N - xn)) w9 from HF8.out.app hq3 (Below.refl _ _) o9 hly g9)
  clear o9 g9 n9 HRD hlx hly hsb hsl
  have HF := Lib.hid (show Bf w3 q off g.cols vc m2 v9 (insL Lr[yn].2.cells xn N s) w9 by rw [HIN.out]; exact HF9.out)
  have HCR := Lib.hid (rm_cells HA.out)
  have c2 : w9.cell? ⟨p, 2, none⟩ = some (.slice (some ⟨rb, ro, none⟩) Lr.length rc) := cell_grown HF.out.gb HCR.out.2.2.1 (fun e => hpq (by injection e with e; exact e.symm))
  have hrq : rb ≠ q := fun e => by
    have h1 := HA.out.rr.tag rb rfl
    rw [e, hq2] at h1
    omega
  have HRR := ownC_grown HA.out.rr.own HF.out.gb (fun k hk e => hrq (by simp only [Value.ownBlock] at hk; injection hk with hk; injection e with e; rw [hk, e]))
  obtain ⟨r0, r1⟩ := ownC_row2 HRR yn hyl
  have z0 := (ownC_cellx HRR (yn * 2) (by omega)).2
  obtain ⟨va, vc9, hv9⟩ := ownC_sl HF.out.own
  have HREC := Lib.hid (HA.out.recell yn hyl (by rw [hxv]; rfl) HF.out.gb HF.out.own HLL.out (insL_ok hrok) (fun l => insL l xn N s) rfl)
  have HV9 := Lib.hid hv9
  rw [hv9] at HREC
  subst hv9
  clear HRR
  go_wp2_with fail
  go_end0
  obtain ⟨hw, T2, hg2, hn2⟩ := HREC.out
  refine ⟨rfl, (Within.of_below HB3.out).trans (hw.mono fun k hk => ?_), T2, by rw [HE.out]; exact hg2, fun k hk => ?_⟩
  · rcases hk with e | e
    · exact .inl e
    · exact .inr (by have := HB3.out.size; omega)
  · rcases hn2 k hk with e | e
    · exact .inl e
    · exact .inr (by have := HB3.out.size; omega)
set_option maxRecDepth 100000 in
set_option maxHeartbeats 8000000 in
theorem delD_any {T : Nat → Nat} {p : Nat} {w : World} {g : Gr} (h : RM T p w g) (hwh : g.All WhR) (x y n : Int) (s : Sty) :
    Calls Tryz.prog 31 #[.pointer (some ⟨p, 0, none⟩), .int .i64 x, .int .i64 y, .int .i64 n, s.val] w fun e w' => e = .returned (.tuple #[]) ∧ Within (own T w) w w' ∧ ∃ T', RM T' p w' (g.del x y n s) ∧ ∀ k, T' k ≠ 0 → own T w k := by
  have hBz := Below.alloc (Below.refl w.heap.size w) (Nat.le_refl _) (.cells #[.int .i64 s.fg, .int .i64 s.bg, .int .i64 s.attr] 36)
  have HB := Lib.hid hBz
  have H := Lib.hid (h.below hBz)
  have HKS := Lib.hid (blk_new w (.cells #[.int .i64 s.fg, .int .i64 s.bg, .int .i64 s.attr] 36))
  have HEQ := Lib.hid (rowOp_many g delL x y n s)
  have HLT := Lib.hid h.lt
  have HWH := Lib.hid hwh
  clear h hBz hwh
  go_enter Tryz.func31, Tryz.ntmps31
  unfold Sty.val
  go_upto_region 1 with fail
  generalize w.alloc (.cells #[.int .i64 s.fg, .int .i64 s.bg, .int .i64 s.attr] 36) = wa at *
  have s0 : wa.cell? ⟨w.heap.size, 0, none⟩ = some (.int .i64 s.fg) := blk_cell HKS.out 0
  have s1 : wa.cell? ⟨w.heap.size, 1, none⟩ = some (.int .i64 s.bg) := blk_cell HKS.out 1
  have s2 : wa.cell? ⟨w.heap.size, 2, none⟩ = some (.int .i64 s.attr) := blk_cell HKS.out 2
  go_wp2_with fail
  refine (manyD_any H.out x y n s).mono ?_
  rintro e w3 ⟨rfl, b3⟩
  have HB3 := Lib.hid (HB.out.trans (b3.mono HB.out.size))
  have H3 := Lib.hid (H.out.below b3)
  have HK3 := Lib.hid (blk_below HKS.out b3 (heap_lt HKS.out))
  clear b3 s0 s1 s2
  by_cases hm0 : manyV g x y n s = 0
  · rw [hm0]
    have HE := Lib.hid (show g.del x y n s = g by have := HEQ.out; rw [if_pos hm0] at this; exact this)
    go_wp2_with fail
    refine ret0w rfl rfl ⟨rfl, Within.of_below HB3.out, T, ?_, fun k hk => .inl hk⟩
    rw [HE.out]
    exact H3.out
  obtain ⟨hon, hn0, hmv⟩ := manyV_pos hm0
  obtain ⟨n1, n2, n3, n4, n5⟩ := onIt_iff hon
  obtain ⟨xn, rfl⟩ : ∃ k : Nat, x = (k : Int) := ⟨x.toNat, by omega⟩
  obtain ⟨yn, rfl⟩ : ∃ k : Nat, y = (k : Int) := ⟨y.toNat, by omega⟩
  have hN2 : 1 ≤ manyV g xn yn n s ∧ xn + manyV g xn yn n s ≤ g.cols := by unfold manyN at hmv; omega
  have hE := HEQ.out
  rw [if_neg hm0, Int.toNat_natCast, Int.toNat_natCast] at hE
  clear HEQ hmv
  generalize manyV g xn yn n s = N at *
  have HE := Lib.hid (show g.del xn yn n s = g.turn yn (fun l => delL l xn N s) from hE)
  have d0 : ((N : Int) == 0) = false := beq_eq_false_iff_ne.2 (by omega)
  obtain ⟨vr, vo, Lr, Lo, h3⟩ := H3.out
  have HA := Lib.hid h3
  have hlen := (rrows_len h3).1
  have hyl : yn < Lr.length := by omega
  have hcols := h3.wf.c2
  have hrc : Lr[yn].2.cells.length = g.cols := (h3.wf.ce _ (List.mem_append_left _ (by rw [← h3.er]; exact List.mem_map_of_mem (List.getElem_mem hyl)))).1
  have hrok : ∀ c ∈ Lr[yn].2.cells, c.Ok := (h3.wf.ce _ (List.mem_append_left _ (by rw [← h3.er]; exact List.mem_map_of_mem (List.getElem_mem hyl)))).2
  have hwr : Wh Lr[yn].2.cells := HWH.out _ (List.mem_append_right _ (by rw [← h3.er]; exact List.mem_map_of_mem (List.getElem_mem hyl)))
  have hcx := h3.ca Lr[yn] (List.mem_append_left _ (List.getElem_mem hyl))
  obtain ⟨b, off, vc, hxv, hnc, hcm⟩ := ownC_pos hcx.own (by omega)
  rw [hrc] at hxv hnc
  have hO3 := hcx.own
  rw [hxv, hrc] at hO3
  obtain ⟨q, hq1, hq2⟩ := hcx.tag
  have hqb : q = b := by rw [hxv] at hq1; simp only [Value.ownBlock] at hq1; injection hq1 with e; exact e.symm
  subst hqb
  have hbl : q < w.heap.size := HLT.out q (by omega)
  obtain ⟨rb, ro, rc, hvr, _, _⟩ := ownC_pos h3.rr.own (by omega)
  subst hvr
  obtain ⟨c0, c1, c2, c3⟩ := rm_cells h3
  obtain ⟨r0, r1⟩ := ownC_row2 h3.rr.own yn hyl
  rw [hxv] at r0
  have hix := idx_at (P := Tryz.prog) (size := 2) Tryz.underlying62 rowD_info rb ro Lr.length rc yn hyl
  have hwx : IntKind.i64.wrap ((xn : Int) + (N : Int)) = (xn : Int) + (N : Int) := wrap64_id _ (by omega) (by omega)
  have hwc : IntKind.i64.wrap ((g.cols : Int) - (N : Int)) = (g.cols : Int) - (N : Int) := wrap64_id _ (by omega) (by omega)
  have hpt : T p = 1 := h3.tp
  have hbp : q ≠ p := fun e => by rw [e] at hq2; omega
  have hks : q ≠ w.heap.size := by omega
  clear hcx h3 n1 n2 n3 n4 hm0 hon hE
  go_wp2_with fail
  refine (cutD_any Lr[yn].2.cells xn q off g.cols vc w3 hO3 hrc (by omega) (by omega) hwr).mono ?_
  rintro e w5 ⟨rfl, g5, o5⟩
  have HG5 := Lib.hid g5
  have HO5 := Lib.hid o5
  have HWR5 := Lib.hid (cutL_wh hwr xn)
  have hl5 : (cutL Lr[yn].2.cells xn).length = g.cols := by rw [cutL_len]; exact hrc
  have HK5 := Lib.hid (blk_grown HK3.out g5 (by intro e; injection e with e; omega))
  have k0 : w5.cell? ⟨p, 0, none⟩ = some (.int .i64 g.cols) := cell_grown g5 c0 (fun e => hbp (by injection e))
  clear g5 o5 c0 c1 c2 c3 r0 r1
  go_wp2_with fail
  refine (cutD_any (cutL Lr[yn].2.cells xn) ((xn : Int) + (N : Int)) q off g.cols vc w5 HO5.out hl5 (by omega) (by omega) HWR5.out).mono ?_
  rintro e w6 ⟨rfl, g6, o6⟩
  rw [show (xn : Int) + (N : Int) = ((xn + N : Nat) : Int) by omega] at o6
  have HG6 := Lib.hid (gb_trans HG5.out g6)
  have HO6 := Lib.hid o6
  have HK6 := Lib.hid (blk_grown HK5.out g6 (by intro e; injection e with e; omega))
  have k0 : w6.cell? ⟨p, 0, none⟩ = some (.int .i64 g.cols) := cell_grown g6 k0 (fun e => hbp (by injection e))
  have hl6 : (cutL (cutL Lr[yn].2.cells xn) ((xn + N : Nat) : Int)).length = g.cols := by rw [cutL_len]; exact hl5
  clear g6 o6 HG5 HO5 HK5
  have HLL := Lib.hid (show (delL Lr[yn].2.cells xn N s).length = g.cols by rw [delL_len s (by omega)]; exact hrc)
  obtain ⟨m2, hm2⟩ : ∃ m2, cutL (cutL Lr[yn].2.cells xn) ((xn + N : Nat) : Int) = m2 := ⟨_, rfl⟩
  have HIN := Lib.hid (show delL Lr[yn].2.cells xn N s = m2.take xn ++ m2.drop (xn + N) ++ List.replicate N (blankC s) by
    unfold delL
    rw [hm2])
  rw [hm2] at HO6 hl6
  clear hm2
  have hs36 : w3.heap.size ≤ w6.heap.size := HG6.out.size
  have hq3 : q < w3.heap.size := by have := HB3.out.size; omega
  have HBa := Lib.hid ((Below.refl w6.heap.size w6).alloc (Nat.le_refl _) (.cells #[] 38))
  have HF0 := Lib.hid (show Bf w3 q off g.cols vc m2 (.slice (some ⟨w6.heap.size, 0, none⟩) 0 0) [] (w6.alloc (.cells #[] 38)) from
    ⟨gb_below HG6.out HBa.out HG6.out.size, ownC_mono (own_empty w6 38 5) hs36, ownC_below HO6.out HBa.out⟩)
  have hsh := fun wx => slice_h (P := Tryz.prog) Tryz.underlying42 cell_info (some ⟨q, off, none⟩) g.cols vc xn (by omega) wx
  have HPR := Lib.hid (show ∀ wx, OwnC wx 0 5 (.slice (some ⟨q, off, none⟩) g.cols vc) g.cols (cvals m2) → OwnC wx 0 5 (.slice (some ⟨q, off, none⟩) xn vc) xn (cvals (m2.take xn)) from fun wx hx => by
    have := ownC_pre hx xn (by omega)
    rw [cvals_take] at this
    exact this)
  have hlt : (m2.take xn).length = xn := by rw [List.length_take]; omega
  have hpq : p ≠ q := fun e => hbp e.symm
  clear hbp
  go_wp2_with (at_builtin; refine held ?_)
  unfold Held
  refine wpList_appD cells_elem rfl rfl w3.heap.size HF0.out.own rfl (ownC_reads (HPR.out _ HF0.out.row)) rfl (cvals_one _) (by unfold maxLen; simp; omega) (by simp; omega) (by simp; omega) ?_
  intro v7 w7 o7 g7 n7
  have HF7 := Lib.hid (show Bf w3 q off g.cols vc m2 v7 (m2.take xn) w7 from HF0.out.app hq3 (Below.refl _ _) o7 hlt g7)
  clear o7 g7 n7 hsh HF0 k0
  obtain ⟨sa, hsl, hsa⟩ := slice_l' (P := Tryz.prog) (size := 5) Tryz.underlying42 cell_info q off g.cols vc (xn + N) (by omega) hnc
  rw [show ((xn + N : Nat) : Int) = (xn : Int) + (N : Int) by omega] at hsl
  have hlx : (m2.take xn).length = xn := by simp [List.length_take, List.length_drop]; omega
  have hly : (m2.drop (xn + N)).length = g.cols - (xn + N) := by simp [List.length_take, List.length_drop]; omega
  have HRD := Lib.hid (show Reads w7 5 (.slice (some sa) (g.cols - (xn + N)) (vc - (xn + N))) (g.cols - (xn + N)) (cvals (m2.drop (xn + N))) by
    have := reads_sub HF7.out.row (xn + N) (g.cols) (vc - (xn + N)) sa hsa (by omega) (by omega)
    rw [cvals_drop, cvals_take] at this
    rw [List.take_of_length_le (by rw [List.length_drop]; omega)] at this
    exact this)
  have hsb := HF7.out.gb.size
  go_wp2_with (at_builtin; refine held ?_)
  unfold Held
  refine wpList_appD cells_elem rfl rfl w3.heap.size HF7.out.own rfl HRD.out rfl (cvals_one _) (by rw [hlx]; unfold maxLen; omega) (by rw [hlx]; omega) hsb ?_
  intro v8 w8 o8 g8 n8
  have HF8 := Lib.hid (show Bf w3 q off g.cols vc m2 v8 (m2.take xn ++ m2.drop (xn + N)) w8 from HF7.out.app hq3 (Below.refl _ _) o8 hly g8)
  clear o8 g8 n8 HRD hlx hly hsb hsl
  have s0 : w8.cell? ⟨w.heap.size, 0, none⟩ = some (.int .i64 s.fg) := blk_cell (HF8.out.blk HK3.out (fun e => hks e.symm)) 0
  have s1 : w8.cell? ⟨w.heap.size, 1, none⟩ = some (.int .i64 s.bg) := blk_cell (HF8.out.blk HK3.out (fun e => hks e.symm)) 1
  have s2 : w8.cell? ⟨w.heap.size, 2, none⟩ = some (.int .i64 s.attr) := blk_cell (HF8.out.blk HK3.out (fun e => hks e.symm)) 2
  have HBL := Lib.hid (blanksD_any N s w8 (by omega))
  unfold Sty.val at HBL
  go_wp2_with fail
  refine HBL.out.mono ?_
  rintro e wb ⟨vb, rfl, bb, ob⟩
  have HOB := Lib.hid ob
  have HBB := Lib.hid bb
  have hlx : (m2.take xn ++ m2.drop (xn + N)).length = g.cols - N := by simp [List.length_take, List.length_drop]; omega
  have hsb := Nat.le_trans HF8.out.gb.size bb.size
  clear ob bb s0 s1 s2 HBL
  go_wp2_with (at_builtin; refine held ?_)
  unfold Held
  refine wpList_appD cells_elem rfl rfl w3.heap.size (ownC_below HF8.out.own HBB.out) rfl (ownC_reads HOB.out) rfl (cvals_one _) (by rw [hlx]; unfold maxLen; omega) (by rw [hlx]; omega) hsb ?_
  intro v9 w9 o9 g9 n9
  have HF9 := Lib.hid (show Bf w3 q off g.cols vc m2 v9 (m2.take xn ++ m2.drop (xn + N) ++ List.replicate N (blankC s)) w9 from HF8.out.app hq3 HBB.out o9 (by rw [List.length_replicate]) g9)
  clear o9 g9 n9 HOB HBB hlx hsb
  have HF := Lib.hid (show Bf w3 q off g.cols vc m2 v9 (delL Lr[yn].2.cells xn N s) w9 by rw [HIN.out]; exact HF9.out)
  have HCR := Lib.hid (rm_cells HA.out)
  have c2 : w9.cell? ⟨p, 2, none⟩ = some (.slice (some ⟨rb, ro, none⟩) Lr.length rc) := cell_grown HF.out.gb HCR.out.2.2.1 (fun e => hpq (by injection e with e; exact e.symm))
  have hrq : rb ≠ q := fun e => by
    have h1 := HA.out.rr.tag rb rfl
    rw [e, hq2] at h1
    omega
  have HRR := ownC_grown HA.out.rr.own HF.out.gb (fun k hk e => hrq (by simp only [Value.ownBlock] at hk; injection hk with hk; injection e with e; rw [hk, e]))
  obtain ⟨r0, r1⟩ := ownC_row2 HRR yn hyl
  have z0 := (ownC_cellx HRR (yn * 2) (by omega)).2
  obtain ⟨va, vc9, hv9⟩ := ownC_sl HF.out.own
  have HREC := Lib.hid (HA.out.recell yn hyl (by rw [hxv]; rfl) HF.out.gb HF.out.own HLL.out (delL_ok hrok) (fun l => delL l xn N s) rfl)
  have HV9 := Lib.hid hv9
  rw [hv9] at HREC
  subst hv9
  clear HRR
  go_wp2_with fail
  go_end0
  obtain ⟨hw, T2, hg2, hn2⟩ := HREC.out
  refine ⟨rfl, (Within.of_below HB3.out).trans (hw.mono fun k hk => ?_), T2, by rw [HE.out]; exact hg2, fun k hk => ?_⟩
  · rcases hk with e | e
    · exact .inl e
    · exact .inr (by have := HB3.out.size; omega)
  · rcases hn2 k hk with e | e
    · exact .inl e
    · exact .inr (by have := HB3.out.size; omega)
end Go.Proofs.YtjclgoiclbkgjaaGreatDoor

/- Walks of the document's grid: row, Cell, Line, TextOf, Wrapped, Wrap. -/
namespace Go.Proofs.YtjclgoiclbkgjaaGreatDoor
open Go.RowKit

def Gr.is (g : Gr) (y : Int) : Bool := (decide (0 ≤ y) && decide (y < (g.rows.length : Int))) || (decide (y < 0) && decide (-(g.old.length : Int) ≤ y))
set_option maxRecDepth 100000 in
theorem rowD_none {T : Nat → Nat} {p : Nat} {w : World} {g : Gr} (h : RM T p w g) (y : Int) (hy : ¬ (0 ≤ y ∧ y < (g.rows.length : Int)) ∧ ¬ (y < 0 ∧ -(g.old.length : Int) ≤ y)) :
    Calls Tryz.prog 73 #[.pointer (some ⟨p, 0, none⟩), .int .i64 y] w fun e w' => e = .returned (.tuple #[.agg #[.slice none 0 0, .bool false], .bool false]) ∧ Below w.heap.size w w' := by
  obtain ⟨vr, vo, Lr, Lo, h0⟩ := h
  have hBz := Below.alloc (Below.refl w.heap.size w) (Nat.le_refl _) (.cells #[.slice none 0 0, .bool false] 96)
  have h := h0.mod (.of_below hBz) id id id (fun _ => id)
  obtain ⟨c0, c1, c2, c3⟩ := rm_cells h
  have hl := ownC_ln Tryz.underlying62 h.rr.own
  have ho := ownC_ln Tryz.underlying62 h.ro.own
  rw [(rrows_len h).1] at hl
  rw [(rrows_len h).2] at ho
  have w1 := h.wf.r2
  have w2 := h.wf.ol
  have w3 := h.wf.li
  clear h h0
  have hB := Below.alloc (Below.refl w.heap.size w) (Nat.le_refl _) (.cells #[.slice none 0 0, .bool false] 96)
  by_cases h0 : 0 ≤ y
  · have d1 : decide (0 ≤ y) = true := decide_eq_true h0
    have d2 : decide (y < (g.rows.length : Int)) = false := decide_eq_false (by omega)
    have d3 : decide (y < 0) = false := decide_eq_false (by omega)
    go_enter Tryz.func73, Tryz.ntmps73
    go_wp2_with fail
    (try simp only [Exit.inBlock, Exit.then])
    exact retRow2 (x := .bool false) rfl rfl rfl rfl (blk_new _ _) Tryz.underlying96 rfl (by exact rowD_info) ⟨rfl, hB⟩
  · have d1 : decide (0 ≤ y) = false := decide_eq_false h0
    have d3 : decide (y < 0) = true := decide_eq_true (by omega)
    have d4 : decide (-(g.old.length : Int) ≤ y) = false := decide_eq_false (by omega)
    go_enter Tryz.func73, Tryz.ntmps73
    go_wp2_with fail
    (try simp only [Exit.inBlock, Exit.then])
    exact retRow2 (x := .bool false) rfl rfl rfl rfl (blk_new _ _) Tryz.underlying96 rfl (by exact rowD_info) ⟨rfl, hB⟩
set_option maxRecDepth 100000 in
theorem rowD_some {T : Nat → Nat} {p : Nat} {w : World} {g : Gr} (h : RM T p w g) (k : Nat) (hk : k < g.rows.length) :
    Calls Tryz.prog 73 #[.pointer (some ⟨p, 0, none⟩), .int .i64 k] w fun e w' => ∃ v, e = .returned (.tuple #[.agg #[v, .bool (g.rows.getD k noR).wrap], .bool true]) ∧ Below w.heap.size w w' ∧ OwnC w 0 5 v (g.rows.getD k noR).cells.length (cvals (g.rows.getD k noR).cells) := by
  obtain ⟨vr, vo, Lr, Lo, h0⟩ := h
  have hBz := Below.alloc (Below.refl w.heap.size w) (Nat.le_refl _) (.cells #[.slice none 0 0, .bool false] 96)
  have h := h0.mod (.of_below hBz) id id id (fun _ => id)
  obtain ⟨c0, c1, c2, c3⟩ := rm_cells h
  have hlen := (rrows_len h).1
  have w1 := h.wf.r2
  obtain ⟨b, off, c, rfl, hnc, hcm⟩ := ownC_pos h.rr.own (by omega)
  have hkl : k < Lr.length := by omega
  obtain ⟨r0, r1⟩ := ownC_row2 h.rr.own k hkl
  have hx : (g.rows.getD k noR) = Lr[k].2 := by
    rw [← h.er, List.getD_eq_getElem?_getD, List.getElem?_map, List.getElem?_eq_getElem hkl]; rfl
  have hown := (h0.ca Lr[k] (List.mem_append_left _ (List.getElem_mem hkl))).own
  rw [hx]
  generalize Lr[k] = x at *
  obtain ⟨xv, xr⟩ := x
  dsimp only at r0 r1 hown hx ⊢
  have HO := Lib.hid hown
  obtain ⟨va, vc, rfl⟩ := ownC_sl hown
  have hl := ownC_ln Tryz.underlying62 h.rr.own
  have hix := idx_at (P := Tryz.prog) (size := 2) Tryz.underlying62 rowD_info b off Lr.length c k hkl
  clear h h0 hown
  have d1 : decide (0 ≤ (k : Int)) = true := decide_eq_true (by omega)
  have d2 : decide ((k : Int) < (Lr.length : Int)) = true := decide_eq_true (by omega)
  have d2' : decide (k < Lr.length) = true := decide_eq_true hkl
  have hB := Below.alloc (Below.refl w.heap.size w) (Nat.le_refl _) (.cells #[.slice va xr.cells.length vc, .bool xr.wrap] 96)
  go_enter Tryz.func73, Tryz.ntmps73
  go_wp2_with fail
  (try simp only [Exit.inBlock, Exit.then])
  exact retRow2 (x := .bool true) rfl rfl rfl rfl (blk_new _ _) Tryz.underlying96 rfl (by exact rowD_info) ⟨_, rfl, hB, HO.out⟩
set_option maxRecDepth 100000 in
theorem rowD_old {T : Nat → Nat} {p : Nat} {w : World} {g : Gr} (h : RM T p w g) (k : Nat) (hk : k < g.old.length) :
    Calls Tryz.prog 73 #[.pointer (some ⟨p, 0, none⟩), .int .i64 ((k : Int) - g.old.length)] w fun e w' => ∃ v, e = .returned (.tuple #[.agg #[v, .bool (g.old.getD k noR).wrap], .bool true]) ∧ Below w.heap.size w w' ∧ OwnC w 0 5 v (g.old.getD k noR).cells.length (cvals (g.old.getD k noR).cells) := by
  obtain ⟨vr, vo, Lr, Lo, h0⟩ := h
  have hBz := Below.alloc (Below.refl w.heap.size w) (Nat.le_refl _) (.cells #[.slice none 0 0, .bool false] 96)
  have h := h0.mod (.of_below hBz) id id id (fun _ => id)
  obtain ⟨c0, c1, c2, c3⟩ := rm_cells h
  have hlen := (rrows_len h).2
  have w1 := h.wf.r2
  have w2 := h.wf.ol
  have w3 := h.wf.li
  obtain ⟨b, off, c, rfl, hnc, hcm⟩ := ownC_pos h.ro.own (by omega)
  have hkl : k < Lo.length := by omega
  obtain ⟨r0, r1⟩ := ownC_row2 h.ro.own k hkl
  have hx : (g.old.getD k noR) = Lo[k].2 := by
    rw [← h.eo, List.getD_eq_getElem?_getD, List.getElem?_map, List.getElem?_eq_getElem hkl]; rfl
  have hown := (h0.ca Lo[k] (List.mem_append_right _ (List.getElem_mem hkl))).own
  rw [hx]
  generalize Lo[k] = x at *
  obtain ⟨xv, xr⟩ := x
  dsimp only at r0 r1 hown hx ⊢
  have HO := Lib.hid hown
  obtain ⟨va, vc, rfl⟩ := ownC_sl hown
  have hl := ownC_ln Tryz.underlying62 h.ro.own
  have hix := idx_at (P := Tryz.prog) (size := 2) Tryz.underlying62 rowD_info b off Lo.length c k hkl
  rw [← hlen]
  rw [← hlen] at w2
  clear h h0 hown hlen
  have hy : (Lo.length : Int) + ((k : Int) - (Lo.length : Int)) = (k : Int) := by omega
  have d1 : decide (0 ≤ (k : Int) - (Lo.length : Int)) = false := decide_eq_false (by omega)
  have d3 : decide ((k : Int) - (Lo.length : Int) < 0) = true := decide_eq_true (by omega)
  have d4 : decide (-(Lo.length : Int) ≤ (k : Int) - (Lo.length : Int)) = true := decide_eq_true (by omega)
  have hwk : IntKind.i64.wrap (k : Int) = (k : Int) := wrap64_id _ (by omega) (by omega)
  have hB := Lib.hid (Below.alloc (Below.refl w.heap.size w) (Nat.le_refl _) (.cells #[.slice va xr.cells.length vc, .bool xr.wrap] 96))
  go_enter Tryz.func73, Tryz.ntmps73
  go_upto_region 4 with fail
  have hbk0 := blk_new w (.cells #[.slice none 0 0, .bool false] 96)
  generalize w.alloc (.cells #[.slice none 0 0, .bool false] 96) = wa at *
  go_still_tail 13, (by kernel_rfl)
  change wpList _ _ _ _ _ wa.drew
  have hbk := blk_drew hbk0
  have hBd := hBz.drew
  generalize hwd : wa.drew = wd at *
  have hst := run_storeVar_row (P := Tryz.prog) wd w.heap.size 96 96 _ #[.slice va xr.cells.length vc, .bool xr.wrap] hbk rowD_info rfl (by simp [Value.oneCell'])
  have hr2 := setRow_blk (cells := #[.slice va xr.cells.length vc, .bool xr.wrap]) hbk
  have hB3 := Lib.hid (below_row hBd (g := w.heap.size) (Nat.le_refl _) #[.slice va xr.cells.length vc, .bool xr.wrap])
  generalize wd.setRow w.heap.size #[.slice va xr.cells.length vc, .bool xr.wrap] = w3 at *
  go_wp2_with (refine wpList_storeR rfl _ _ _ rfl hst rfl rfl ?_)
  (try simp only [Exit.inBlock, Exit.then])
  exact retRow2 (x := .bool true) rfl rfl rfl rfl hr2 Tryz.underlying96 rfl (by exact rowD_info) ⟨_, rfl, hB3.out, HO.out⟩
set_option maxRecDepth 100000 in
theorem rowD_any {T : Nat → Nat} {p : Nat} {w : World} {g : Gr} (h : RM T p w g) (y : Int) :
    Calls Tryz.prog 73 #[.pointer (some ⟨p, 0, none⟩), .int .i64 y] w fun e w' => ∃ v, e = .returned (.tuple #[.agg #[v, .bool (g.row y).wrap], .bool (g.is y)]) ∧ Below w.heap.size w w' ∧ OwnC w 0 5 v (g.row y).cells.length (cvals (g.row y).cells) := by
  by_cases h1 : 0 ≤ y ∧ y < (g.rows.length : Int)
  · obtain ⟨k, rfl⟩ : ∃ k : Nat, y = (k : Int) := ⟨y.toNat, by omega⟩
    have e : g.row k = g.rows.getD k noR := by unfold Gr.row; rw [if_pos h1, Int.toNat_natCast]
    have hi : g.is (k : Int) = true := by unfold Gr.is; rw [decide_eq_true h1.1, decide_eq_true h1.2]; rfl
    rw [e, hi]
    exact rowD_some h k (by omega)
  · by_cases h2 : y < 0 ∧ -(g.old.length : Int) ≤ y
    · obtain ⟨k, hk⟩ : ∃ k : Nat, (g.old.length : Int) + y = (k : Int) := ⟨((g.old.length : Int) + y).toNat, by omega⟩
      have e : g.row y = g.old.getD k noR := by unfold Gr.row; rw [if_neg h1, if_pos h2, hk, Int.toNat_natCast]
      have hi : g.is y = true := by unfold Gr.is; rw [decide_eq_true h2.1, decide_eq_true h2.2, Bool.and_self, Bool.or_true]
      rw [e, hi, show y = (k : Int) - g.old.length by omega]
      exact rowD_old h k (by omega)
    · have e : g.row y = noR := by unfold Gr.row; rw [if_neg h1, if_neg h2]
      have hi : g.is y = false := by unfold Gr.is; simp; omega
      rw [e, hi]
      refine (rowD_none h y ⟨h1, h2⟩).mono ?_
      rintro e w' ⟨rfl, b⟩
      exact ⟨_, rfl, b, ownC_nil _ _ _⟩
theorem is_cells {g : Gr} {y : Int} (h : g.is y = false) : g.row y = noR := by
  unfold Gr.is at h
  simp at h
  unfold Gr.row
  rw [if_neg (by omega), if_neg (by omega)]
set_option maxRecDepth 100000 in
set_option maxHeartbeats 2000000 in
theorem wrappedD_any {T : Nat → Nat} {p : Nat} {w : World} {g : Gr} (h : RM T p w g) (y : Int) :
    Calls Tryz.prog 42 #[.pointer (some ⟨p, 0, none⟩), .int .i64 y] w fun e w' => e = .returned (.bool (g.row y).wrap) ∧ Below w.heap.size w w' := by
  have HR := Lib.hid (rowD_any h y)
  go_enter Tryz.func42, Tryz.ntmps42
  go_wp2_with fail
  refine HR.out.mono ?_
  rintro e w2 ⟨v, rfl, b2, o2⟩
  obtain ⟨va, vc, rfl⟩ := ownC_sl o2
  have HB := Lib.hid (Below.alloc b2 b2.size (.cells #[.slice va (g.row y).cells.length vc, .bool (g.row y).wrap] 96))
  clear b2 o2
  go_wp2_with fail
  go_ret
  exact ⟨rfl, HB.out⟩
set_option maxRecDepth 100000 in
set_option maxHeartbeats 2000000 in
theorem lineD_any {T : Nat → Nat} {p : Nat} {w : World} {g : Gr} (h : RM T p w g) (y : Int) :
    Calls Tryz.prog 41 #[.pointer (some ⟨p, 0, none⟩), .int .i64 y] w fun e w' => ∃ v, e = .returned v ∧ Below w.heap.size w w' ∧ OwnC w 0 5 v (g.row y).cells.length (cvals (g.row y).cells) := by
  have HR := Lib.hid (rowD_any h y)
  go_enter Tryz.func41, Tryz.ntmps41
  go_wp2_with fail
  refine HR.out.mono ?_
  rintro e w2 ⟨v, rfl, b2, o2⟩
  obtain ⟨va, vc, rfl⟩ := ownC_sl o2
  have HB := Lib.hid (Below.alloc b2 b2.size (.cells #[.slice va (g.row y).cells.length vc, .bool (g.row y).wrap] 96))
  have HO := Lib.hid o2
  clear b2 o2
  go_wp2_with fail
  exact ret1v rfl rfl rfl ⟨_, rfl, HB.out, HO.out⟩
set_option maxRecDepth 100000 in
set_option maxHeartbeats 2000000 in
theorem wrapD_any {T : Nat → Nat} {p : Nat} {w : World} {g : Gr} (h : RM T p w g) (y : Int) (is : Bool) :
    Calls Tryz.prog 36 #[.pointer (some ⟨p, 0, none⟩), .int .i64 y, .bool is] w fun e w' => e = .returned (.tuple #[]) ∧ Within (own T w) w w' ∧ RM T p w' (g.setWrap y is) := by
  have H0 := Lib.hid h
  obtain ⟨vr, vo, Lr, Lo, h⟩ := h
  obtain ⟨c0, c1, c2, c3⟩ := rm_cells h
  have hl := ownC_ln Tryz.underlying62 h.rr.own
  have hlen := (rrows_len h).1
  by_cases hy : 0 ≤ y ∧ y < (g.rows.length : Int)
  · obtain ⟨k, rfl⟩ : ∃ k : Nat, y = (k : Int) := ⟨y.toNat, by omega⟩
    have hE := Lib.hid (show g.setWrap k is = { g with rows := g.rows.set k { g.rows.getD k noR with wrap := is } } by
      unfold Gr.setWrap; rw [if_pos hy, Int.toNat_natCast])
    have hkl : k < Lr.length := by omega
    obtain ⟨b, off, c, rfl, hnc, hcm⟩ := ownC_pos h.rr.own (by omega)
    have hix := idx_at (P := Tryz.prog) (size := 2) Tryz.underlying62 rowD_info b off Lr.length c k hkl
    obtain ⟨r1, f1⟩ := ownC_cellx h.rr.own (k * 2 + 1) (by omega)
    rw [rowVals_at Lr k hkl 1 (by decide), ← Nat.add_assoc] at r1
    rw [← Nat.add_assoc] at f1
    replace r1 : w.cell? ⟨b, off + k * 2 + 1, none⟩ = some (.bool Lr[k].2.wrap) := r1
    have d1 : decide (0 ≤ (k : Int)) = true := decide_eq_true (by omega)
    have d2 : decide ((k : Int) < (Lr.length : Int)) = true := decide_eq_true (by omega)
    have d2' : decide (k < Lr.length) = true := decide_eq_true hkl
    have hP := ownC_put h.rr.own (k * 2 + 1) [.bool is] (by simp; omega)
    rw [rowVals_wrap Lr k hkl] at hP
    change OwnC (w.setCell ⟨b, off + (k * 2 + 1), none⟩ (.bool is)) _ _ _ _ _ at hP
    rw [← Nat.add_assoc] at hP
    have g1 : w.grownBy (w.setCell ⟨b, off + k * 2 + 1, none⟩ (.bool is)) (some b) := gb_set (gb_refl _ _) _ _
    have tb : T b = 2 := h.rr.tag b rfl
    have HM := Lib.hid (h.rewrap k hkl is (Mod.of_gb g1 (fun q hq => by injection hq with hq; rw [← hq]; exact tb)) hP)
    have HW := Lib.hid (show Within (own T w) w (w.setCell ⟨b, off + k * 2 + 1, none⟩ (.bool is)) from Within.of_gb g1 (fun q hq => by injection hq with hq; rw [← hq]; exact .inl (by rw [tb]; decide)))
    clear h hP g1 hlen hy
    generalize Lr[k].2.wrap = bo at *
    go_enter Tryz.func36, Tryz.ntmps36
    go_wp2_with fail
    go_end0
    exact ⟨rfl, HW.out, by rw [hE.out]; exact HM.out⟩
  · have hE := Lib.hid (show g.setWrap y is = g by unfold Gr.setWrap; rw [if_neg hy])
    rw [hlen] at hl
    clear h
    by_cases h0 : 0 ≤ y
    · have d1 : decide (0 ≤ y) = true := decide_eq_true h0
      have d2 : decide (y < (g.rows.length : Int)) = false := decide_eq_false (by omega)
      go_enter Tryz.func36, Tryz.ntmps36
      go_wp2_with fail
      go_end0
      exact ⟨rfl, Within.refl _ _, by rw [hE.out]; exact H0.out⟩
    · have d1 : decide (0 ≤ y) = false := decide_eq_false h0
      go_enter Tryz.func36, Tryz.ntmps36
      go_wp2_with fail
      go_end0
      exact ⟨rfl, Within.refl _ _, by rw [hE.out]; exact H0.out⟩
end Go.Proofs.YtjclgoiclbkgjaaGreatDoor
