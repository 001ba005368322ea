/- Package grid, texts laid together: E1 E4 S3 E2. -/
import Derived.Test.YtjclgoiclbkgjaaDoorK15
import Derived.Test.YtjclgoiclbkgjaaDoorK7
import Derived.Test.YtjclgoiclbkgjaaDoorK9
import Derived.Test.YtjclgoiclbkgjaaDoorK6
import Derived.Test.YtjclgoiclbkgjaaDoorK5
import Derived.Test.YtjclgoiclbkgjaaDoorK14
/- Walks of package grid: Erase, Insert, Delete. -/
namespace Go.Proofs.YtjclgoiclbkgjaaDoor
open Go.RowKit

theorem within_of_row {T : Nat → Nat} {w w2 w' : World} {b : Nat} (hb : Below w.heap.size w w2) (ht : T b ≠ 0) (g : w2.grownBy w' (some b)) : Within (own T w) w w' :=
  (Within.of_below hb).trans (Within.of_gb g (fun k hk => .inl (by injection hk with hk; subst hk; exact ht)))
set_option maxRecDepth 100000 in
set_option maxHeartbeats 8000000 in
theorem erase_any {T : Nat → Nat} {p : Nat} {w : World} {g : Gr} (h : GM T p w g) (x y n : Int) (s : Sty) (hs : RightIn w s) :
    Calls Tryd.prog 30 #[.pointer (some ⟨p, 0, none⟩), .int .i64 x, .int .i64 y, .int .i64 n, s.val] w fun e w' => e = .returned (.tuple #[]) ∧ Within (own T w) w w' ∧ GM T p w' (g.erase x y n s) := by
  have hBz := Below.alloc (Below.refl w.heap.size w) (Nat.le_refl _) (.cells #[.int .i64 s.fg, .int .i64 s.bg, .int .i64 s.attr] 33)
  have hbk0 := blk_new w (.cells #[.int .i64 s.fg, .int .i64 s.bg, .int .i64 s.attr] 33)
  have HG0 := Lib.hid (h.below hBz)
  have HLT := Lib.hid h.lt
  clear h
  cases hon : g.onIt x y s
  · have HE := Lib.hid (show g.erase x y n s = g by unfold Gr.erase Gr.rowOp; rw [hon, if_neg (by simp)])
    have HON := Lib.hid (on_no HG0.out x y s (hs.below hBz) hon)
    have hq := fun (wx : World) => Lib.run_eql_slice_nil (P := Tryd.prog) wx 51 38 none 0 0 0 0 Tryd.underlying51
    unfold Sty.val at HON ⊢
    go_enter Tryd.func30, Tryd.ntmps30
    go_wp2_with fail
    refine HON.out.mono ?_
    rintro e w2 ⟨rfl, b2⟩
    have HG2 := Lib.hid (HG0.out.below b2)
    have HB2 := Lib.hid (hBz.trans (b2.mono (by simp)))
    clear b2 HON
    go_wp2_with fail
    refine ret0w rfl rfl ⟨rfl, Within.of_below HB2.out, ?_⟩
    rw [HE.out]
    exact HG2.out
  · obtain ⟨n1, n2, n3, n4, n5⟩ := onIt_iff hon
    obtain ⟨xn, rfl⟩ : ∃ k : Nat, x = (k : Int) := ⟨x.toNat, by omega⟩
    obtain ⟨yn, rfl⟩ : ∃ k : Nat, y = (k : Int) := ⟨y.toNat, by omega⟩
    obtain ⟨vr, vo, Lr, Lo, hA⟩ := HG0.out
    have hlen := (rows_len hA).1
    have hyl : yn < Lr.length := by omega
    have hcols := hA.wf.c2
    have hrc : Lr[yn].2.cells.length = g.cols := (hA.wf.ce _ (List.mem_append_left _ (by rw [← hA.er]; exact List.mem_map_of_mem (List.getElem_mem hyl)))).1
    have hrok : ∀ c ∈ Lr[yn].2.cells, c.Ok := (hA.wf.ce _ (List.mem_append_left _ (by rw [← hA.er]; exact List.mem_map_of_mem (List.getElem_mem hyl)))).2
    have HON := Lib.hid (on_yes hA xn yn s (hs.below hBz) (by omega) hyl n5)
    have hcx := hA.ca Lr[yn] (List.mem_append_left _ (List.getElem_mem hyl))
    have HC := Lib.hid hcx
    obtain ⟨b, off, vc, hxv, hnc, hcm⟩ := ownC_pos hcx.own (by omega)
    rw [hrc] at hxv hnc
    have HA := Lib.hid hA
    clear hA hcx
    rw [hxv] at HON
    have hq := fun (wx : World) => Lib.run_eql_slice_nil (P := Tryd.prog) wx 51 38 (some ⟨b, off, none⟩) g.cols vc 0 0 Tryd.underlying51
    unfold Sty.val at HON ⊢
    by_cases hn0 : 0 < n
    rotate_left
    · have d0 : decide (n ≤ 0) = true := decide_eq_true (by omega)
      have HE := Lib.hid (show g.erase xn yn n s = g by unfold Gr.erase Gr.rowOp; rw [if_neg (fun e => hn0 e.2)])
      go_enter Tryd.func30, Tryd.ntmps30
      go_wp2_with fail
      refine HON.out.mono ?_
      rintro e w2 ⟨rfl, b2⟩
      have HG2 := Lib.hid (HG0.out.below b2)
      have HB2 := Lib.hid (hBz.trans (b2.mono (by simp)))
      clear b2 HON
      go_wp2_with fail
      refine ret0w rfl rfl ⟨rfl, Within.of_below HB2.out, ?_⟩
      rw [HE.out]
      exact HG2.out
    have d0 : decide (n ≤ 0) = false := decide_eq_false (by omega)
    obtain ⟨N, hN⟩ : ∃ N : Nat, N = manyN g xn n := ⟨_, rfl⟩
    have hmin : min n ((g.cols : Int) - (xn : Int)) = (N : Int) := by unfold manyN at hN; omega
    have hN2 : 1 ≤ N ∧ xn + N ≤ g.cols := by unfold manyN at hN; omega
    have HE := Lib.hid (show g.erase xn yn n s = g.turn yn (fun l => eraseL l xn N s) by
      unfold Gr.erase Gr.rowOp
      rw [if_pos ⟨hon, hn0⟩, hN, Int.toNat_natCast, Int.toNat_natCast])
    have hbt : T b = 10 + b := by
      obtain ⟨q, e1, e2⟩ := HC.out.tag
      rw [hxv] at e1
      simp only [Value.ownBlock] at e1
      injection e1 with e1
      subst e1; exact e2
    have hbl : b < w.heap.size := HLT.out b (by omega)
    have hwm : IntKind.i64.wrap ((g.cols : Int) - (xn : Int)) = (g.cols : Int) - (xn : Int) := wrap64_id _ (by omega) (by omega)
    have hwx : IntKind.i64.wrap ((xn : Int) + (N : Int)) = (xn : Int) + (N : Int) := wrap64_id _ (by omega) (by omega)
    have hwc : IntKind.i64.wrap ((g.cols : Int) - (N : Int)) = (g.cols : Int) - (N : Int) := wrap64_id _ (by omega) (by omega)
    clear hN hon n1 n2 n3 n4
    go_enter Tryd.func30, Tryd.ntmps30
    go_wp2_with fail
    refine HON.out.mono ?_
    rintro e w2 ⟨rfl, b2⟩
    have HA2 := Lib.hid (HA.out.mod (.of_below b2) id id id (fun _ => id))
    have HB2 := Lib.hid (hBz.trans (b2.mono (by simp)))
    have hbk2 := blk_below hbk0 b2 (by simp)
    have hkp2 := HA2.out.blk
    have c0 : w2.cell? ⟨p, 0, none⟩ = some (.int .i64 g.cols) := (gm_cells HA2.out).1
    have O2 := (HA2.out.ca Lr[yn] (List.mem_append_left _ (List.getElem_mem hyl))).own
    have hpt : T p = 1 := HA2.out.tp
    have hbp : b ≠ p := fun e => by rw [e] at hbt; omega
    rw [hxv, hrc] at O2
    have HTN := Lib.hid (show ∀ w', w2.grownBy w' (some b) → OwnC w' 0 5 (.slice (some ⟨b, off, none⟩) g.cols vc) g.cols (cvals (eraseL Lr[yn].2.cells xn N s)) → GM T p w' (g.turn yn (fun l => eraseL l xn N s)) from fun w' g' o' => by
      have hll : (eraseL Lr[yn].2.cells xn N s).length = g.cols := by
        rw [eraseL_len s (by omega)]
        exact hrc
      refine HA2.out.turned yn hyl (b := b) (by rw [hxv]; rfl) (Mod.of_gb g' (fun k hk => by injection hk with hk; subst hk; exact hbt)) _ ?_ ?_ ?_
      · rw [hll, hxv]; exact o'
      · exact hll
      · exact eraseL_ok hrok)
    have HWI := Lib.hid (show ∀ w', w2.grownBy w' (some b) → Within (own T w) w w' from fun w' g' => within_of_row HB2.out (by omega) g')
    clear b2 HON hbk0 HA2
    generalize Lr[yn].2.cells = lx at *
    have hgc : g.cols ≤ 1000000 := by omega
    go_wp2_with fail
    refine (cut_any lx xn b off g.cols vc w2 O2 hrc hgc (by omega)).mono ?_
    rintro e w5 ⟨rfl, g5, o5⟩
    have hbk5 := blk_grown hbk2 g5 (by intro e; injection e with e; omega)
    have hkp5 := blk_grown hkp2 g5 (by intro e; injection e with e; exact hbp e.symm)
    have k0 : w5.cell? ⟨p, 0, none⟩ = some (.int .i64 g.cols) := blk_cell hkp5 0
    have HO5 := Lib.hid o5
    have HK5 := Lib.hid hbk5
    have HP5 := Lib.hid hkp5
    have HG5 := Lib.hid g5
    clear o5 hbk5 g5 O2 c0 hbk2 hkp2 hkp5
    go_wp2_with fail
    refine (cut_any (cutL lx xn) ((xn : Int) + (N : Int)) b off g.cols vc w5 HO5.out (by rw [cutL_len]; exact hrc) hgc (by omega)).mono ?_
    rintro e w6 ⟨rfl, g6, o6⟩
    rw [show (xn : Int) + (N : Int) = ((xn + N : Nat) : Int) by omega] at o6
    have hbk6 := blk_grown HK5.out g6 (by intro e; injection e with e; omega)
    have hkp6 := blk_grown HP5.out g6 (by intro e; injection e with e; exact hbp e.symm)
    have HG6 := Lib.hid (gb_trans HG5.out g6)
    have HK6 := Lib.hid hbk6
    have HP6 := Lib.hid hkp6
    have HO6 := Lib.hid o6
    clear k0 g6 o6 hbk6 hkp6 HG5 HK5 HP5 HO5 hq
    have hlen2 : (cutL (cutL lx xn) ((xn + N : Nat) : Int)).length = g.cols := by rw [cutL_len, cutL_len]; exact hrc
    have HKF := HK6
    have HPF := HP6
    have HOF := HO6
    have HGF := HG6
    clear HK6 HP6 HO6 HG6
    have hsl := slice_lh (P := Tryd.prog) (size := 5) Tryd.underlying51 cell_info b off g.cols vc xn (xn + N) (by omega) (by omega) (by omega)
    rw [show xn + N - xn = N by omega, show ((xn + N : Nat) : Int) = (xn : Int) + (N : Int) by omega] at hsl
    have f0 : w6.cell? ⟨w.heap.size, 0, none⟩ = some (.int .i64 s.fg) := blk_cell HKF.out 0
    have f1 : w6.cell? ⟨w.heap.size, 1, none⟩ = some (.int .i64 s.bg) := blk_cell HKF.out 1
    have f2 : w6.cell? ⟨w.heap.size, 2, none⟩ = some (.int .i64 s.attr) := blk_cell HKF.out 2
    have j0 : w6.cell? ⟨p, 0, none⟩ = some (.int .i64 g.cols) := blk_cell HPF.out 0
    have HFI := Lib.hid (fun wx (ho : OwnC wx 0 5 (.slice (some ⟨b, off, none⟩) g.cols vc) g.cols (cvals (cutL (cutL lx xn) ((xn + N : Nat) : Int)))) => fill_any (cutL (cutL lx xn) ((xn + N : Nat) : Int)) s b off g.cols vc xn N (vc - xn) wx ho hlen2 (by omega) (by unfold maxLen; omega))
    unfold Sty.val at HFI
    go_upto_region 6 with fail
    go_still_tail 7, (by kernel_rfl)
    change wpList _ _ _ _ _ w6.drew
    have HOD := Lib.hid (show OwnC w6.drew 0 5 (.slice (some ⟨b, off, none⟩) g.cols vc) g.cols (cvals (cutL (cutL lx xn) ((xn + N : Nat) : Int))) from HOF.out)
    have HGD := Lib.hid (gb_drew HGF.out)
    clear f0 f1 f2 j0 HOF HGF HKF HPF
    generalize w6.drew = wd at *
    go_wp2_with fail
    refine (HFI.out _ HOD.out).mono ?_
    rintro e w9 ⟨rfl, g9, o9⟩
    have HG9 := Lib.hid (gb_trans HGD.out g9)
    have HO9 := Lib.hid o9
    clear g9 o9
    go_wp2_with fail
    go_end0
    refine ⟨rfl, HWI.out _ HG9.out, ?_⟩
    rw [HE.out]
    refine HTN.out _ HG9.out ?_
    have := HO9.out
    unfold eraseL
    exact this
set_option maxRecDepth 100000 in
set_option maxHeartbeats 8000000 in
theorem ins_any {T : Nat → Nat} {p : Nat} {w : World} {g : Gr} (h : GM T p w g) (x y n : Int) (s : Sty) (hs : RightIn w s) :
    Calls Tryd.prog 31 #[.pointer (some ⟨p, 0, none⟩), .int .i64 x, .int .i64 y, .int .i64 n, s.val] w fun e w' => e = .returned (.tuple #[]) ∧ Within (own T w) w w' ∧ GM T p w' (g.ins x y n s) := by
  have hBz := Below.alloc (Below.refl w.heap.size w) (Nat.le_refl _) (.cells #[.int .i64 s.fg, .int .i64 s.bg, .int .i64 s.attr] 33)
  have hbk0 := blk_new w (.cells #[.int .i64 s.fg, .int .i64 s.bg, .int .i64 s.attr] 33)
  have HG0 := Lib.hid (h.below hBz)
  have HLT := Lib.hid h.lt
  clear h
  cases hon : g.onIt x y s
  · have HE := Lib.hid (show g.ins x y n s = g by unfold Gr.ins Gr.rowOp; rw [hon, if_neg (by simp)])
    have HON := Lib.hid (on_no HG0.out x y s (hs.below hBz) hon)
    have hq := fun (wx : World) => Lib.run_eql_slice_nil (P := Tryd.prog) wx 51 38 none 0 0 0 0 Tryd.underlying51
    unfold Sty.val at HON ⊢
    go_enter Tryd.func31, Tryd.ntmps31
    go_wp2_with fail
    refine HON.out.mono ?_
    rintro e w2 ⟨rfl, b2⟩
    have HG2 := Lib.hid (HG0.out.below b2)
    have HB2 := Lib.hid (hBz.trans (b2.mono (by simp)))
    clear b2 HON
    go_wp2_with fail
    refine ret0w rfl rfl ⟨rfl, Within.of_below HB2.out, ?_⟩
    rw [HE.out]
    exact HG2.out
  · obtain ⟨n1, n2, n3, n4, n5⟩ := onIt_iff hon
    obtain ⟨xn, rfl⟩ : ∃ k : Nat, x = (k : Int) := ⟨x.toNat, by omega⟩
    obtain ⟨yn, rfl⟩ : ∃ k : Nat, y = (k : Int) := ⟨y.toNat, by omega⟩
    obtain ⟨vr, vo, Lr, Lo, hA⟩ := HG0.out
    have hlen := (rows_len hA).1
    have hyl : yn < Lr.length := by omega
    have hcols := hA.wf.c2
    have hrc : Lr[yn].2.cells.length = g.cols := (hA.wf.ce _ (List.mem_append_left _ (by rw [← hA.er]; exact List.mem_map_of_mem (List.getElem_mem hyl)))).1
    have hrok : ∀ c ∈ Lr[yn].2.cells, c.Ok := (hA.wf.ce _ (List.mem_append_left _ (by rw [← hA.er]; exact List.mem_map_of_mem (List.getElem_mem hyl)))).2
    have HON := Lib.hid (on_yes hA xn yn s (hs.below hBz) (by omega) hyl n5)
    have hcx := hA.ca Lr[yn] (List.mem_append_left _ (List.getElem_mem hyl))
    have HC := Lib.hid hcx
    obtain ⟨b, off, vc, hxv, hnc, hcm⟩ := ownC_pos hcx.own (by omega)
    rw [hrc] at hxv hnc
    have HA := Lib.hid hA
    clear hA hcx
    rw [hxv] at HON
    have hq := fun (wx : World) => Lib.run_eql_slice_nil (P := Tryd.prog) wx 51 38 (some ⟨b, off, none⟩) g.cols vc 0 0 Tryd.underlying51
    unfold Sty.val at HON ⊢
    by_cases hn0 : 0 < n
    rotate_left
    · have d0 : decide (n ≤ 0) = true := decide_eq_true (by omega)
      have HE := Lib.hid (show g.ins xn yn n s = g by unfold Gr.ins Gr.rowOp; rw [if_neg (fun e => hn0 e.2)])
      go_enter Tryd.func31, Tryd.ntmps31
      go_wp2_with fail
      refine HON.out.mono ?_
      rintro e w2 ⟨rfl, b2⟩
      have HG2 := Lib.hid (HG0.out.below b2)
      have HB2 := Lib.hid (hBz.trans (b2.mono (by simp)))
      clear b2 HON
      go_wp2_with fail
      refine ret0w rfl rfl ⟨rfl, Within.of_below HB2.out, ?_⟩
      rw [HE.out]
      exact HG2.out
    have d0 : decide (n ≤ 0) = false := decide_eq_false (by omega)
    obtain ⟨N, hN⟩ : ∃ N : Nat, N = manyN g xn n := ⟨_, rfl⟩
    have hmin : min n ((g.cols : Int) - (xn : Int)) = (N : Int) := by unfold manyN at hN; omega
    have hN2 : 1 ≤ N ∧ xn + N ≤ g.cols := by unfold manyN at hN; omega
    have HE := Lib.hid (show g.ins xn yn n s = g.turn yn (fun l => insL l xn N s) by
      unfold Gr.ins Gr.rowOp
      rw [if_pos ⟨hon, hn0⟩, hN, Int.toNat_natCast, Int.toNat_natCast])
    have hbt : T b = 10 + b := by
      obtain ⟨q, e1, e2⟩ := HC.out.tag
      rw [hxv] at e1
      simp only [Value.ownBlock] at e1
      injection e1 with e1
      subst e1; exact e2
    have hbl : b < w.heap.size := HLT.out b (by omega)
    have hwm : IntKind.i64.wrap ((g.cols : Int) - (xn : Int)) = (g.cols : Int) - (xn : Int) := wrap64_id _ (by omega) (by omega)
    have hwx : IntKind.i64.wrap ((xn : Int) + (N : Int)) = (xn : Int) + (N : Int) := wrap64_id _ (by omega) (by omega)
    have hwc : IntKind.i64.wrap ((g.cols : Int) - (N : Int)) = (g.cols : Int) - (N : Int) := wrap64_id _ (by omega) (by omega)
    clear hN hon n1 n2 n3 n4
    go_enter Tryd.func31, Tryd.ntmps31
    go_wp2_with fail
    refine HON.out.mono ?_
    rintro e w2 ⟨rfl, b2⟩
    have HA2 := Lib.hid (HA.out.mod (.of_below b2) id id id (fun _ => id))
    have HB2 := Lib.hid (hBz.trans (b2.mono (by simp)))
    have hbk2 := blk_below hbk0 b2 (by simp)
    have hkp2 := HA2.out.blk
    have c0 : w2.cell? ⟨p, 0, none⟩ = some (.int .i64 g.cols) := (gm_cells HA2.out).1
    have O2 := (HA2.out.ca Lr[yn] (List.mem_append_left _ (List.getElem_mem hyl))).own
    have hpt : T p = 1 := HA2.out.tp
    have hbp : b ≠ p := fun e => by rw [e] at hbt; omega
    rw [hxv, hrc] at O2
    have HTN := Lib.hid (show ∀ w', w2.grownBy w' (some b) → OwnC w' 0 5 (.slice (some ⟨b, off, none⟩) g.cols vc) g.cols (cvals (insL Lr[yn].2.cells xn N s)) → GM T p w' (g.turn yn (fun l => insL l xn N s)) from fun w' g' o' => by
      have hll : (insL Lr[yn].2.cells xn N s).length = g.cols := by
        rw [insL_len s (by omega)]
        exact hrc
      refine HA2.out.turned yn hyl (b := b) (by rw [hxv]; rfl) (Mod.of_gb g' (fun k hk => by injection hk with hk; subst hk; exact hbt)) _ ?_ ?_ ?_
      · rw [hll, hxv]; exact o'
      · exact hll
      · exact insL_ok hrok)
    have HWI := Lib.hid (show ∀ w', w2.grownBy w' (some b) → Within (own T w) w w' from fun w' g' => within_of_row HB2.out (by omega) g')
    clear b2 HON hbk0 HA2
    generalize Lr[yn].2.cells = lx at *
    have hgc : g.cols ≤ 1000000 := by omega
    go_wp2_with fail
    refine (cut_any lx xn b off g.cols vc w2 O2 hrc hgc (by omega)).mono ?_
    rintro e w5 ⟨rfl, g5, o5⟩
    have hbk5 := blk_grown hbk2 g5 (by intro e; injection e with e; omega)
    have hkp5 := blk_grown hkp2 g5 (by intro e; injection e with e; exact hbp e.symm)
    have k0 : w5.cell? ⟨p, 0, none⟩ = some (.int .i64 g.cols) := blk_cell hkp5 0
    have HO5 := Lib.hid o5
    have HK5 := Lib.hid hbk5
    have HP5 := Lib.hid hkp5
    have HG5 := Lib.hid g5
    clear o5 hbk5 g5 O2 c0 hbk2 hkp2 hkp5
    go_wp2_with fail
    refine (cut_any (cutL lx xn) ((g.cols : Int) - (N : Int)) b off g.cols vc w5 HO5.out (by rw [cutL_len]; exact hrc) hgc (by omega)).mono ?_
    rintro e w6 ⟨rfl, g6, o6⟩
    rw [show (g.cols : Int) - (N : Int) = ((lx.length - N : Nat) : Int) by omega] at o6
    have hbk6 := blk_grown HK5.out g6 (by intro e; injection e with e; omega)
    have hkp6 := blk_grown HP5.out g6 (by intro e; injection e with e; exact hbp e.symm)
    have HG6 := Lib.hid (gb_trans HG5.out g6)
    have HK6 := Lib.hid hbk6
    have HP6 := Lib.hid hkp6
    have HO6 := Lib.hid o6
    clear k0 g6 o6 hbk6 hkp6 HG5 HK5 HP5 HO5 hq
    have hlen2 : (cutL (cutL lx xn) ((lx.length - N : Nat) : Int)).length = g.cols := by rw [cutL_len, cutL_len]; exact hrc
    obtain ⟨da, hsl1, hda⟩ := slice_l' (P := Tryd.prog) (size := 5) Tryd.underlying51 cell_info b off g.cols vc (xn + N) (by omega) hnc
    rw [show ((xn + N : Nat) : Int) = (xn : Int) + (N : Int) by omega] at hsl1
    have hsl2 := slice_l (P := Tryd.prog) (size := 5) Tryd.underlying51 cell_info b off g.cols vc xn (by omega) (by omega)
    have hrd := reads_sub HO6.out xn g.cols (vc - xn) ⟨b, off + xn * 5, none⟩ (fun _ => rfl) (by omega) (Nat.le_refl _)
    rw [cvals_drop, cvals_take, List.take_of_length_le (by rw [List.length_drop, hlen2]; exact Nat.le_refl _)] at hrd
    have hcp := fun (wx : World) (ho : OwnC wx 0 5 (.slice (some ⟨b, off, none⟩) g.cols vc) g.cols (cvals (cutL (cutL lx xn) ((lx.length - N : Nat) : Int)))) (hr : Reads wx 5 (.slice (some ⟨b, off + xn * 5, none⟩) (g.cols - xn) (vc - xn)) (g.cols - xn) (cvals ((cutL (cutL lx xn) ((lx.length - N : Nat) : Int)).drop xn))) => copy_own (P := Tryd.prog) Tryd.underlying51 cell_info ho (xn + N) (g.cols - (xn + N)) (vc - (xn + N)) da (fun h0 => hda (by omega)) (by omega) hr (cvals_one _) 3
    have HRD := Lib.hid (show Reads w6.drew 5 (.slice (some ⟨b, off + xn * 5, none⟩) (g.cols - xn) (vc - xn)) (g.cols - xn) (cvals ((cutL (cutL lx xn) ((lx.length - N : Nat) : Int)).drop xn)) from hrd)
    have HO6d := Lib.hid (show OwnC w6.drew 0 5 (.slice (some ⟨b, off, none⟩) g.cols vc) g.cols (cvals (cutL (cutL lx xn) ((lx.length - N : Nat) : Int))) from HO6.out)
    have hcp6 := hcp w6.drew HO6d.out HRD.out
    rw [show Nat.min (g.cols - xn) (g.cols - (xn + N)) = g.cols - (xn + N) by show min _ _ = _; omega, cvals_take] at hcp6
    clear hcp hrd
    have hml : (((cutL (cutL lx xn) ((lx.length - N : Nat) : Int)).drop xn).take (g.cols - (xn + N))).length = g.cols - (xn + N) := by rw [List.length_take, List.length_drop, hlen2]; omega
    go_upto_region 6 with fail
    go_still_tail 8, (by kernel_rfl)
    change wpList _ _ _ _ _ w6.drew
    have hO7 := copy_owned HO6d.out (xn + N) (cvals (((cutL (cutL lx xn) ((lx.length - N : Nat) : Int)).drop xn).take (g.cols - (xn + N)))) (by rw [cvals_len, hml]; omega)
    rw [← cvals_put] at hO7
    have g7 := gb_setCells w6.drew b (off + (xn + N) * 5) (cvals (((cutL (cutL lx xn) ((lx.length - N : Nat) : Int)).drop xn).take (g.cols - (xn + N))))
    have HKF := Lib.hid (blk_grown (blk_drew HK6.out) g7 (by intro e; injection e with e; omega))
    have HPF := Lib.hid (blk_grown (blk_drew HP6.out) g7 (by intro e; injection e with e; exact hbp e.symm))
    have HGF := Lib.hid (gb_trans (gb_drew HG6.out) g7)
    have HOF := Lib.hid hO7
    clear hO7 g7 HK6 HP6 HG6 HO6 HO6d HRD
    generalize hw7 : w6.drew.setCells b (off + (xn + N) * 5) (cvals (((cutL (cutL lx xn) ((lx.length - N : Nat) : Int)).drop xn).take (g.cols - (xn + N)))) = w7 at *
    clear hw7
    have f0 : w7.cell? ⟨w.heap.size, 0, none⟩ = some (.int .i64 s.fg) := blk_cell HKF.out 0
    have f1 : w7.cell? ⟨w.heap.size, 1, none⟩ = some (.int .i64 s.bg) := blk_cell HKF.out 1
    have f2 : w7.cell? ⟨w.heap.size, 2, none⟩ = some (.int .i64 s.attr) := blk_cell HKF.out 2
    have j0 : w7.cell? ⟨p, 0, none⟩ = some (.int .i64 g.cols) := blk_cell HPF.out 0
    have hsl := slice_lh (P := Tryd.prog) (size := 5) Tryd.underlying51 cell_info b off g.cols vc xn (xn + N) (by omega) (by omega) (by omega)
    rw [show xn + N - xn = N by omega, show ((xn + N : Nat) : Int) = (xn : Int) + (N : Int) by omega] at hsl
    have HFI := Lib.hid (fun wx (ho : OwnC wx 0 5 (.slice (some ⟨b, off, none⟩) g.cols vc) g.cols (cvals (putAt (cutL (cutL lx xn) ((lx.length - N : Nat) : Int)) (xn + N) (((cutL (cutL lx xn) ((lx.length - N : Nat) : Int)).drop xn).take (g.cols - (xn + N)))))) => fill_any (putAt (cutL (cutL lx xn) ((lx.length - N : Nat) : Int)) (xn + N) (((cutL (cutL lx xn) ((lx.length - N : Nat) : Int)).drop xn).take (g.cols - (xn + N)))) s b off g.cols vc xn N (vc - xn) wx ho (by rw [putAt_len _ _ _ (by rw [hml, hlen2]; omega)]; exact hlen2) (by omega) (by unfold maxLen; omega))
    unfold Sty.val at HFI
    go_upto_region 7 with fail
    go_still_tail 7, (by kernel_rfl)
    change wpList _ _ _ _ _ w7.drew
    have HOD := Lib.hid (show OwnC w7.drew 0 5 (.slice (some ⟨b, off, none⟩) g.cols vc) g.cols (cvals (putAt (cutL (cutL lx xn) ((lx.length - N : Nat) : Int)) (xn + N) (((cutL (cutL lx xn) ((lx.length - N : Nat) : Int)).drop xn).take (g.cols - (xn + N))))) from HOF.out)
    have HGD := Lib.hid (gb_drew HGF.out)
    clear f0 f1 f2 j0 HOF HGF HKF HPF
    generalize w7.drew = wd at *
    go_wp2_with fail
    refine (HFI.out _ HOD.out).mono ?_
    rintro e w9 ⟨rfl, g9, o9⟩
    have HG9 := Lib.hid (gb_trans HGD.out g9)
    have HO9 := Lib.hid o9
    clear g9 o9
    go_wp2_with fail
    go_end0
    refine ⟨rfl, HWI.out _ HG9.out, ?_⟩
    rw [HE.out]
    refine HTN.out _ HG9.out ?_
    have := HO9.out
    rw [show g.cols - (xn + N) = lx.length - xn - N by omega, ins_eq lx xn N s (by omega)] at this
    exact this
set_option maxRecDepth 100000 in
set_option maxHeartbeats 8000000 in
theorem del_any {T : Nat → Nat} {p : Nat} {w : World} {g : Gr} (h : GM T p w g) (x y n : Int) (s : Sty) (hs : RightIn w s) :
    Calls Tryd.prog 32 #[.pointer (some ⟨p, 0, none⟩), .int .i64 x, .int .i64 y, .int .i64 n, s.val] w fun e w' => e = .returned (.tuple #[]) ∧ Within (own T w) w w' ∧ GM T p w' (g.del x y n s) := by
  have hBz := Below.alloc (Below.refl w.heap.size w) (Nat.le_refl _) (.cells #[.int .i64 s.fg, .int .i64 s.bg, .int .i64 s.attr] 33)
  have hbk0 := blk_new w (.cells #[.int .i64 s.fg, .int .i64 s.bg, .int .i64 s.attr] 33)
  have HG0 := Lib.hid (h.below hBz)
  have HLT := Lib.hid h.lt
  clear h
  cases hon : g.onIt x y s
  · have HE := Lib.hid (show g.del x y n s = g by unfold Gr.del Gr.rowOp; rw [hon, if_neg (by simp)])
    have HON := Lib.hid (on_no HG0.out x y s (hs.below hBz) hon)
    have hq := fun (wx : World) => Lib.run_eql_slice_nil (P := Tryd.prog) wx 51 38 none 0 0 0 0 Tryd.underlying51
    unfold Sty.val at HON ⊢
    go_enter Tryd.func32, Tryd.ntmps32
    go_wp2_with fail
    refine HON.out.mono ?_
    rintro e w2 ⟨rfl, b2⟩
    have HG2 := Lib.hid (HG0.out.below b2)
    have HB2 := Lib.hid (hBz.trans (b2.mono (by simp)))
    clear b2 HON
    go_wp2_with fail
    refine ret0w rfl rfl ⟨rfl, Within.of_below HB2.out, ?_⟩
    rw [HE.out]
    exact HG2.out
  · obtain ⟨n1, n2, n3, n4, n5⟩ := onIt_iff hon
    obtain ⟨xn, rfl⟩ : ∃ k : Nat, x = (k : Int) := ⟨x.toNat, by omega⟩
    obtain ⟨yn, rfl⟩ : ∃ k : Nat, y = (k : Int) := ⟨y.toNat, by omega⟩
    obtain ⟨vr, vo, Lr, Lo, hA⟩ := HG0.out
    have hlen := (rows_len hA).1
    have hyl : yn < Lr.length := by omega
    have hcols := hA.wf.c2
    have hrc : Lr[yn].2.cells.length = g.cols := (hA.wf.ce _ (List.mem_append_left _ (by rw [← hA.er]; exact List.mem_map_of_mem (List.getElem_mem hyl)))).1
    have hrok : ∀ c ∈ Lr[yn].2.cells, c.Ok := (hA.wf.ce _ (List.mem_append_left _ (by rw [← hA.er]; exact List.mem_map_of_mem (List.getElem_mem hyl)))).2
    have HON := Lib.hid (on_yes hA xn yn s (hs.below hBz) (by omega) hyl n5)
    have hcx := hA.ca Lr[yn] (List.mem_append_left _ (List.getElem_mem hyl))
    have HC := Lib.hid hcx
    obtain ⟨b, off, vc, hxv, hnc, hcm⟩ := ownC_pos hcx.own (by omega)
    rw [hrc] at hxv hnc
    have HA := Lib.hid hA
    clear hA hcx
    rw [hxv] at HON
    have hq := fun (wx : World) => Lib.run_eql_slice_nil (P := Tryd.prog) wx 51 38 (some ⟨b, off, none⟩) g.cols vc 0 0 Tryd.underlying51
    unfold Sty.val at HON ⊢
    by_cases hn0 : 0 < n
    rotate_left
    · have d0 : decide (n ≤ 0) = true := decide_eq_true (by omega)
      have HE := Lib.hid (show g.del xn yn n s = g by unfold Gr.del Gr.rowOp; rw [if_neg (fun e => hn0 e.2)])
      go_enter Tryd.func32, Tryd.ntmps32
      go_wp2_with fail
      refine HON.out.mono ?_
      rintro e w2 ⟨rfl, b2⟩
      have HG2 := Lib.hid (HG0.out.below b2)
      have HB2 := Lib.hid (hBz.trans (b2.mono (by simp)))
      clear b2 HON
      go_wp2_with fail
      refine ret0w rfl rfl ⟨rfl, Within.of_below HB2.out, ?_⟩
      rw [HE.out]
      exact HG2.out
    have d0 : decide (n ≤ 0) = false := decide_eq_false (by omega)
    obtain ⟨N, hN⟩ : ∃ N : Nat, N = manyN g xn n := ⟨_, rfl⟩
    have hmin : min n ((g.cols : Int) - (xn : Int)) = (N : Int) := by unfold manyN at hN; omega
    have hN2 : 1 ≤ N ∧ xn + N ≤ g.cols := by unfold manyN at hN; omega
    have HE := Lib.hid (show g.del xn yn n s = g.turn yn (fun l => delL l xn N s) by
      unfold Gr.del Gr.rowOp
      rw [if_pos ⟨hon, hn0⟩, hN, Int.toNat_natCast, Int.toNat_natCast])
    have hbt : T b = 10 + b := by
      obtain ⟨q, e1, e2⟩ := HC.out.tag
      rw [hxv] at e1
      simp only [Value.ownBlock] at e1
      injection e1 with e1
      subst e1; exact e2
    have hbl : b < w.heap.size := HLT.out b (by omega)
    have hwm : IntKind.i64.wrap ((g.cols : Int) - (xn : Int)) = (g.cols : Int) - (xn : Int) := wrap64_id _ (by omega) (by omega)
    have hwx : IntKind.i64.wrap ((xn : Int) + (N : Int)) = (xn : Int) + (N : Int) := wrap64_id _ (by omega) (by omega)
    have hwc : IntKind.i64.wrap ((g.cols : Int) - (N : Int)) = (g.cols : Int) - (N : Int) := wrap64_id _ (by omega) (by omega)
    clear hN hon n1 n2 n3 n4
    go_enter Tryd.func32, Tryd.ntmps32
    go_wp2_with fail
    refine HON.out.mono ?_
    rintro e w2 ⟨rfl, b2⟩
    have HA2 := Lib.hid (HA.out.mod (.of_below b2) id id id (fun _ => id))
    have HB2 := Lib.hid (hBz.trans (b2.mono (by simp)))
    have hbk2 := blk_below hbk0 b2 (by simp)
    have hkp2 := HA2.out.blk
    have c0 : w2.cell? ⟨p, 0, none⟩ = some (.int .i64 g.cols) := (gm_cells HA2.out).1
    have O2 := (HA2.out.ca Lr[yn] (List.mem_append_left _ (List.getElem_mem hyl))).own
    have hpt : T p = 1 := HA2.out.tp
    have hbp : b ≠ p := fun e => by rw [e] at hbt; omega
    rw [hxv, hrc] at O2
    have HTN := Lib.hid (show ∀ w', w2.grownBy w' (some b) → OwnC w' 0 5 (.slice (some ⟨b, off, none⟩) g.cols vc) g.cols (cvals (delL Lr[yn].2.cells xn N s)) → GM T p w' (g.turn yn (fun l => delL l xn N s)) from fun w' g' o' => by
      have hll : (delL Lr[yn].2.cells xn N s).length = g.cols := by
        rw [delL_len s (by omega)]
        exact hrc
      refine HA2.out.turned yn hyl (b := b) (by rw [hxv]; rfl) (Mod.of_gb g' (fun k hk => by injection hk with hk; subst hk; exact hbt)) _ ?_ ?_ ?_
      · rw [hll, hxv]; exact o'
      · exact hll
      · exact delL_ok hrok)
    have HWI := Lib.hid (show ∀ w', w2.grownBy w' (some b) → Within (own T w) w w' from fun w' g' => within_of_row HB2.out (by omega) g')
    clear b2 HON hbk0 HA2
    generalize Lr[yn].2.cells = lx at *
    have hgc : g.cols ≤ 1000000 := by omega
    go_wp2_with fail
    refine (cut_any lx xn b off g.cols vc w2 O2 hrc hgc (by omega)).mono ?_
    rintro e w5 ⟨rfl, g5, o5⟩
    have hbk5 := blk_grown hbk2 g5 (by intro e; injection e with e; omega)
    have hkp5 := blk_grown hkp2 g5 (by intro e; injection e with e; exact hbp e.symm)
    have k0 : w5.cell? ⟨p, 0, none⟩ = some (.int .i64 g.cols) := blk_cell hkp5 0
    have HO5 := Lib.hid o5
    have HK5 := Lib.hid hbk5
    have HP5 := Lib.hid hkp5
    have HG5 := Lib.hid g5
    clear o5 hbk5 g5 O2 c0 hbk2 hkp2 hkp5
    go_wp2_with fail
    refine (cut_any (cutL lx xn) ((xn : Int) + (N : Int)) b off g.cols vc w5 HO5.out (by rw [cutL_len]; exact hrc) hgc (by omega)).mono ?_
    rintro e w6 ⟨rfl, g6, o6⟩
    rw [show (xn : Int) + (N : Int) = ((xn + N : Nat) : Int) by omega] at o6
    have hbk6 := blk_grown HK5.out g6 (by intro e; injection e with e; omega)
    have hkp6 := blk_grown HP5.out g6 (by intro e; injection e with e; exact hbp e.symm)
    have HG6 := Lib.hid (gb_trans HG5.out g6)
    have HK6 := Lib.hid hbk6
    have HP6 := Lib.hid hkp6
    have HO6 := Lib.hid o6
    clear k0 g6 o6 hbk6 hkp6 HG5 HK5 HP5 HO5 hq
    have hlen2 : (cutL (cutL lx xn) ((xn + N : Nat) : Int)).length = g.cols := by rw [cutL_len, cutL_len]; exact hrc
    have hsl1 := slice_l (P := Tryd.prog) (size := 5) Tryd.underlying51 cell_info b off g.cols vc xn (by omega) (by omega)
    obtain ⟨sa, hsl2, hsa⟩ := slice_l' (P := Tryd.prog) (size := 5) Tryd.underlying51 cell_info b off g.cols vc (xn + N) (by omega) hnc
    rw [show ((xn + N : Nat) : Int) = (xn : Int) + (N : Int) by omega] at hsl2
    have hrd := reads_sub HO6.out (xn + N) g.cols (vc - (xn + N)) sa hsa (by omega) (Nat.le_refl _)
    rw [cvals_drop, cvals_take, List.take_of_length_le (by rw [List.length_drop, hlen2]; exact Nat.le_refl _)] at hrd
    have hcp := fun (wx : World) (ho : OwnC wx 0 5 (.slice (some ⟨b, off, none⟩) g.cols vc) g.cols (cvals (cutL (cutL lx xn) ((xn + N : Nat) : Int)))) (hr : Reads wx 5 (.slice (some sa) (g.cols - (xn + N)) (vc - (xn + N))) (g.cols - (xn + N)) (cvals ((cutL (cutL lx xn) ((xn + N : Nat) : Int)).drop (xn + N)))) => copy_own (P := Tryd.prog) Tryd.underlying51 cell_info ho xn (g.cols - xn) (vc - xn) ⟨b, off + xn * 5, none⟩ (fun _ => rfl) (by omega) hr (cvals_one _) 3
    have HRD := Lib.hid (show Reads w6.drew 5 (.slice (some sa) (g.cols - (xn + N)) (vc - (xn + N))) (g.cols - (xn + N)) (cvals ((cutL (cutL lx xn) ((xn + N : Nat) : Int)).drop (xn + N))) from hrd)
    have HO6d := Lib.hid (show OwnC w6.drew 0 5 (.slice (some ⟨b, off, none⟩) g.cols vc) g.cols (cvals (cutL (cutL lx xn) ((xn + N : Nat) : Int))) from HO6.out)
    have hcp6 := hcp w6.drew HO6d.out HRD.out
    rw [show Nat.min (g.cols - (xn + N)) (g.cols - xn) = g.cols - (xn + N) by show min _ _ = _; omega, cvals_take] at hcp6
    clear hcp hrd
    have hml : (((cutL (cutL lx xn) ((xn + N : Nat) : Int)).drop (xn + N)).take (g.cols - (xn + N))).length = g.cols - (xn + N) := by rw [List.length_take, List.length_drop, hlen2]; omega
    go_upto_region 6 with fail
    go_still_tail 8, (by kernel_rfl)
    change wpList _ _ _ _ _ w6.drew
    have hO7 := copy_owned HO6d.out xn (cvals (((cutL (cutL lx xn) ((xn + N : Nat) : Int)).drop (xn + N)).take (g.cols - (xn + N)))) (by rw [cvals_len, hml]; omega)
    rw [← cvals_put] at hO7
    have g7 := gb_setCells w6.drew b (off + xn * 5) (cvals (((cutL (cutL lx xn) ((xn + N : Nat) : Int)).drop (xn + N)).take (g.cols - (xn + N))))
    have HKF := Lib.hid (blk_grown (blk_drew HK6.out) g7 (by intro e; injection e with e; omega))
    have HPF := Lib.hid (blk_grown (blk_drew HP6.out) g7 (by intro e; injection e with e; exact hbp e.symm))
    have HGF := Lib.hid (gb_trans (gb_drew HG6.out) g7)
    have HOF := Lib.hid hO7
    clear hO7 g7 HK6 HP6 HG6 HO6 HO6d HRD
    generalize hw7 : w6.drew.setCells b (off + xn * 5) (cvals (((cutL (cutL lx xn) ((xn + N : Nat) : Int)).drop (xn + N)).take (g.cols - (xn + N)))) = w7 at *
    clear hw7
    have f0 : w7.cell? ⟨w.heap.size, 0, none⟩ = some (.int .i64 s.fg) := blk_cell HKF.out 0
    have f1 : w7.cell? ⟨w.heap.size, 1, none⟩ = some (.int .i64 s.bg) := blk_cell HKF.out 1
    have f2 : w7.cell? ⟨w.heap.size, 2, none⟩ = some (.int .i64 s.attr) := blk_cell HKF.out 2
    have j0 : w7.cell? ⟨p, 0, none⟩ = some (.int .i64 g.cols) := blk_cell HPF.out 0
    have hsl := slice_l (P := Tryd.prog) (size := 5) Tryd.underlying51 cell_info b off g.cols vc (g.cols - N) (by omega) (by omega)
    rw [show g.cols - (g.cols - N) = N by omega, show ((g.cols - N : Nat) : Int) = (g.cols : Int) - (N : Int) by omega] at hsl
    have HFI := Lib.hid (fun wx (ho : OwnC wx 0 5 (.slice (some ⟨b, off, none⟩) g.cols vc) g.cols (cvals (putAt (cutL (cutL lx xn) ((xn + N : Nat) : Int)) xn (((cutL (cutL lx xn) ((xn + N : Nat) : Int)).drop (xn + N)).take (g.cols - (xn + N)))))) => fill_any (putAt (cutL (cutL lx xn) ((xn + N : Nat) : Int)) xn (((cutL (cutL lx xn) ((xn + N : Nat) : Int)).drop (xn + N)).take (g.cols - (xn + N)))) s b off g.cols vc (g.cols - N) N (vc - (g.cols - N)) wx ho (by rw [putAt_len _ _ _ (by rw [hml, hlen2]; omega)]; exact hlen2) (by omega) (by unfold maxLen; omega))
    unfold Sty.val at HFI
    go_upto_region 7 with fail
    go_still_tail 9, (by kernel_rfl)
    change wpList _ _ _ _ _ w7.drew
    have HOD := Lib.hid (show OwnC w7.drew 0 5 (.slice (some ⟨b, off, none⟩) g.cols vc) g.cols (cvals (putAt (cutL (cutL lx xn) ((xn + N : Nat) : Int)) xn (((cutL (cutL lx xn) ((xn + N : Nat) : Int)).drop (xn + N)).take (g.cols - (xn + N))))) from HOF.out)
    have HGD := Lib.hid (gb_drew HGF.out)
    clear f0 f1 f2 j0 HOF HGF HKF HPF
    generalize w7.drew = wd at *
    go_wp2_with fail
    refine (HFI.out _ HOD.out).mono ?_
    rintro e w9 ⟨rfl, g9, o9⟩
    have HG9 := Lib.hid (gb_trans HGD.out g9)
    have HO9 := Lib.hid o9
    clear g9 o9
    go_wp2_with fail
    go_end0
    refine ⟨rfl, HWI.out _ HG9.out, ?_⟩
    rw [HE.out]
    refine HTN.out _ HG9.out ?_
    have := HO9.out
    rw [List.take_of_length_le (by rw [List.length_drop, hlen2]; exact Nat.le_refl _), show g.cols - N = lx.length - N by omega, del_eq lx xn N s (by omega)] at this
    exact this
end Go.Proofs.YtjclgoiclbkgjaaDoor

/- Walks of the law GridWhole: do wide cells and paddings stand as they must? -/
namespace Go.Proofs.YtjclgoiclbkgjaaDoor
open Go.RowKit
attribute [local go_sem ↓] Go.wp_at_zero Go.wp_at_succ

theorem beqZ (a b : Int) (h : a ≠ b) : (a == b) = false := beq_eq_false_iff_ne.2 h
theorem bneZ (a b : Int) (h : a ≠ b) : (a != b) = true := by simp [h]
set_option maxRecDepth 100000 in
set_option maxHeartbeats 8000000 in
theorem whole_any {T : Nat → Nat} {p bp : Nat} {w : World} {g : Gr} (h : GM T p w g) (hwh : g.All WhR) (hb : w.heap[bp]? = some (.cells #[.pointer (some ⟨p, 0, none⟩), .pointer none] 63 (0, 0))) :
    Calls Tryd.prog 33 #[.pointer (some ⟨bp, 0, none⟩)] w fun e w' => e = .returned (.bool true) ∧ Below w.heap.size w w' := by
  have hwf := h.wf
  have hol := hwf.ol
  have hli := hwf.li
  have hr2 := hwf.r2
  have hc2 := hwf.c2
  have HWF := Lib.hid hwf
  have H := Lib.hid h
  have HWH := Lib.hid hwh
  have hn2 : g.old.length + g.rows.length ≤ 2120 := by omega
  have HRA := Lib.hid (fun k hk => row_all g k hk)
  have b0 : w.cell? ⟨bp, 0, none⟩ = some (.pointer (some ⟨p, 0, none⟩)) := blk_cell hb 0
  clear h hwf hwh hb
  go_enter Tryd.func33, Tryd.ntmps33
  go_wp2_with fail
  refine (history_any H.out).mono ?_
  rintro e wx1 ⟨rfl, hx1⟩
  subst wx1
  clear b0
  have hwu : IntKind.i64.wrap (-(g.old.length : Int)) = -(g.old.length : Int) := wrap64_id _ (by omega) (by omega)
  go_upto_region 3 with fail
  clear hwu
  go_loopw [4] (fun yv wr => ∃ k : Nat, (k ≤ g.old.length + g.rows.length) ∧ yv = .int .i64 ((k : Int) - (g.old.length : Int)) ∧ Hid (Below w.heap.size w wr)) (fun yv _ => ((g.rows.length : Int) - intOf yv).toNat)
  case atStart => exact ⟨0, Nat.zero_le _, by go_num, Below.refl _ _⟩
  case round =>
    obtain ⟨k, hk, rfl, HB⟩ := hrel
    obtain ⟨wo, rfl⟩ : ∃ wo, wo = wr := ⟨wr, rfl⟩
    have HG := Lib.hid (H.out.below HB.out)
    by_cases hlt : k < g.old.length + g.rows.length
    · have d1 : decide (((k : Int) - (g.old.length : Int)) < (g.rows.length : Int)) = true := decide_eq_true (by omega)
      have hwy : IntKind.i64.wrap ((k : Int) - (g.old.length : Int) + 1) = (k : Int) - (g.old.length : Int) + 1 := wrap64_id _ (by omega) (by omega)
      go_wp2_with fail
      refine (rowsN_any HG.out).mono ?_
      rintro e wx1 ⟨rfl, hx1⟩
      obtain ⟨wo, rfl⟩ : ∃ wo, wo = wx1 := ⟨wx1, rfl⟩
      subst hx1
      go_wp2_with fail
      refine (line_any HG.out ((k : Int) - (g.old.length : Int)) (by have := (wf_row HG.out.wf ((k : Int) - (g.old.length : Int))).1; omega)).mono ?_
      rintro e w2 ⟨lv, rfl, b2, o2⟩
      have HB2 := Lib.hid (HB.out.trans (b2.mono HB.out.size))
      have HG2 := Lib.hid (HG.out.below b2)
      rw [HRA.out k hlt] at o2
      have hmem : (g.old ++ g.rows).getD k noR ∈ g.old ++ g.rows := by
        rw [List.getD_eq_getElem?_getD, List.getElem?_eq_getElem (by rw [List.length_append]; omega)]
        exact List.getElem_mem _
      have HR := Lib.hid (HWH.out _ hmem)
      have hrc : ((g.old ++ g.rows).getD k noR).cells.length = g.cols := (HWF.out.ce _ (by
        rcases List.mem_append.1 hmem with hm | hm
        · exact List.mem_append_right _ hm
        · exact List.mem_append_left _ hm)).1
      have HL2 := Lib.hid o2
      clear b2 o2 hmem
      generalize (g.old ++ g.rows).getD k noR = r at *
      have HR := Lib.hid (show Wh r.cells from HR.out)
      obtain ⟨n, hn⟩ : ∃ n, n = r.cells.length := ⟨_, rfl⟩
      have hn1 : 1 ≤ n := by have := HWF.out.c1; omega
      have hn250 : n ≤ 250 := by omega
      have HGN := Lib.hid (show g.cols = n by omega)
      clear hrc
      rw [← hn] at HL2
      have HN := Lib.hid hn
      clear hn
      obtain ⟨lb, lo, lc, e1, _, _⟩ := ownC_pos HL2.out (by omega)
      subst e1
      have hwn1 : IntKind.i64.wrap ((n : Int) - 1) = (n : Int) - 1 := wrap64_id _ (by omega) (by omega)
      have hw2s : wo.heap.size ≤ w2.heap.size := by
        have := (ownC_lt HL2.out lb rfl)
        omega
      go_wp2_with fail
      refine (cols_any HG2.out).mono ?_
      rintro e wx1 ⟨rfl, hx1⟩
      obtain ⟨w2, rfl⟩ : ∃ w2, w2 = wx1 := ⟨wx1, rfl⟩
      subst hx1
      rw [HGN.out]
      go_upto_region 9 with fail
      go_loopw [6] (fun xv wi => ∃ x : Nat, (x ≤ n ∧ wo.heap.size ≤ wi.heap.size) ∧ xv = .int .i64 x ∧ Hid (Below w.heap.size w wi) ∧ Hid (OwnC wi wo.heap.size 5 (.slice (some ⟨lb, lo, none⟩) n lc) n (cvals r.cells))) (fun xv _ => n - (intOf xv).toNat)
      case atStart => exact ⟨0, ⟨Nat.zero_le _, hw2s⟩, rfl, HB2, HL2⟩
      case round =>
        obtain ⟨x, ⟨hx, hsi⟩, rfl, HBi, HLi⟩ := hrel
        obtain ⟨wi, rfl⟩ : ∃ wi, wi = wr := ⟨wr, rfl⟩
        by_cases hxl : x < n
        · have d2 : decide ((x : Int) < (n : Int)) = true := decide_eq_true (by omega)
          have d2' : decide (x < n) = true := decide_eq_true hxl
          obtain ⟨p0, p1, p2, p3, p4⟩ := ownC_cel HLi.out x hxl HN.out.symm
          have hix := idx_at (P := Tryd.prog) (size := 5) Tryd.underlying51 cell_info lb lo n lc x hxl
          have HBa := Lib.hid (fun o => HBi.out.alloc HBi.out.size o)
          have HLa := Lib.hid (fun o => ownC_alloc HLi.out o)
          have hsa : ∀ o, (wi.alloc o).heap.size = wi.heap.size + 1 := fun o => by simp
          rcases wh_at HR.out x (by have := HN.out; omega) with h1 | ⟨h1, h2, h3⟩ | ⟨h1, h2, h3, h4, h5⟩
          · -- one column
            generalize r.cells.getD x noC = cl at *
            obtain ⟨ru, wd, sy⟩ := cl
            dsimp only at p0 p1 p2 p3 p4 h1
            subst h1
            have hwx : IntKind.i64.wrap ((x : Int) + 1) = (x : Int) + 1 := wrap64_id _ (by omega) (by omega)
            go_wp2_with fail
            go_roundw
            case rel => exact ⟨x + 1, ⟨by omega, by rw [hsa]; omega⟩, by go_num, HBa.out _, HLa.out _⟩
            case measure => simp [intOf]; omega
          · -- two
            obtain ⟨z, hz⟩ : ∃ z : Nat, z = x + 1 := ⟨_, rfl⟩
            rw [← hz] at h2 h3
            replace h2 : z < n := by have := HN.out; omega
            have hwx : IntKind.i64.wrap ((x : Int) + 1) = (z : Int) := by rw [wrap64_id _ (by omega) (by omega)]; omega
            have d3 : ((x : Int) == (n : Int) - 1) = false := beqZ _ _ (by omega)
            obtain ⟨_, q1, _⟩ := ownC_cel HLi.out z (by omega) HN.out.symm
            have hiz := idx_at (P := Tryd.prog) (size := 5) Tryd.underlying51 cell_info lb lo n lc z (by omega)
            rw [h3] at q1
            generalize r.cells.getD x noC = cl at *
            obtain ⟨ru, wd, sy⟩ := cl
            dsimp only at p0 p1 p2 p3 p4 h1
            subst h1
            have HZ := Lib.hid hz
            clear hz h2 h3
            have q1a : ∀ o, (wi.alloc o).cell? ⟨lb, lo + z * 5 + 1, none⟩ = some (.int .i64 0) := fun o => by
              exact cell_below (Below.alloc (Below.refl _ _) (Nat.le_refl _) o) q1
            go_wp2_with fail
            go_roundw
            case rel => exact ⟨x + 1, ⟨by omega, by rw [hsa]; omega⟩, by rw [HZ.out], HBa.out _, HLa.out _⟩
            case measure => (have := HZ.out; simp [intOf]; omega)
          · -- a padding
            obtain ⟨y, hy⟩ : ∃ y : Nat, x = y + 1 := ⟨x - 1, by omega⟩
            have hyx : x - 1 = y := by omega
            rw [hyx] at h3 h5
            have hwx : IntKind.i64.wrap ((x : Int) + 1) = (x : Int) + 1 := wrap64_id _ (by omega) (by omega)
            have hwy2 : IntKind.i64.wrap ((x : Int) - 1) = (y : Int) := by rw [wrap64_id _ (by omega) (by omega)]; omega
            have d3 : ((x : Int) == 0) = false := beqZ _ _ (by omega)
            obtain ⟨_, q1, q2, q3, q4⟩ := ownC_cel HLi.out y (by omega) HN.out.symm
            have hiy := idx_at (P := Tryd.prog) (size := 5) Tryd.underlying51 cell_info lb lo n lc y (by omega)
            rw [← h5] at q2 q3 q4
            rw [h3] at q1
            generalize r.cells.getD x noC = cl at *
            obtain ⟨ru, wd, sy⟩ := cl
            dsimp only at p0 p1 p2 p3 p4 q2 q3 q4 h1 h4
            subst h1 h4
            have hns := fun wx : World => neq_sty sy sy wx
            have hgs := fun op x y (wx : World) => guard_sty op x y sy sy wx
            rw [(Sty.eqb_iff sy sy).2 rfl] at hns
            unfold Sty.val at hns hgs
            have q1a := fun o => cell_below (Below.alloc (Below.refl wi.heap.size wi) (Nat.le_refl _) o) q1
            have q2a := fun o => cell_below (Below.alloc (Below.refl wi.heap.size wi) (Nat.le_refl _) o) q2
            have q3a := fun o => cell_below (Below.alloc (Below.refl wi.heap.size wi) (Nat.le_refl _) o) q3
            have q4a := fun o => cell_below (Below.alloc (Below.refl wi.heap.size wi) (Nat.le_refl _) o) q4
            clear hy hyx h2 h3 h5
            go_wp2_with fail
            go_quiet (fail)
            go_wp2_with fail
            go_roundw
            case rel => exact ⟨x + 1, ⟨by omega, by show _ ≤ (wi.alloc _).heap.size; rw [hsa]; omega⟩, by go_num, below_drewN (HBa.out _) _, ownC_below (HLa.out _) (below_drewN (Below.refl _ _) _)⟩
            case measure => simp [intOf]; omega
        · have hxn : x = n := by omega
          have d2 : decide ((x : Int) < (n : Int)) = false := decide_eq_false (by omega)
          have d2' : decide (x < n) = false := decide_eq_false hxl
          go_wp2_with fail
          go_roundw
          case rel => exact ⟨k + 1, by omega, by go_num, HBi⟩
          case measure => simp [intOf]; omega
    · have hkn : k = g.old.length + g.rows.length := by omega
      have d1 : decide (((k : Int) - (g.old.length : Int)) < (g.rows.length : Int)) = false := decide_eq_false (by omega)
      go_wp2_with fail
      refine (rowsN_any HG.out).mono ?_
      rintro e wx1 ⟨rfl, hx1⟩
      obtain ⟨wo, rfl⟩ : ∃ wo, wo = wx1 := ⟨wx1, rfl⟩
      subst hx1
      go_wp2_with fail
      exact ret1v rfl rfl rfl ⟨rfl, HB.out⟩
end Go.Proofs.YtjclgoiclbkgjaaDoor

/- Resize without reflow, plain: rows keep their form. -/
namespace Go.Proofs.YtjclgoiclbkgjaaDoor
open Go.RowKit

theorem fitL_ok {r : Rw} (h : ∀ c ∈ r.cells, c.Ok) (cols : Nat) : ∀ c ∈ (fitL r cols).cells, c.Ok := by
  unfold fitL
  split
  · exact h
  · intro c hc
    rcases List.mem_append.1 hc with hc | hc
    · exact cutL_ok h c (List.mem_of_mem_take hc)
    · rw [List.eq_of_mem_replicate hc]; exact blank_ok _
def sizedR (l : List Rw) (cols rows : Nat) : List Rw := if rows < l.length then l.take rows else l ++ freshL (rows - l.length) cols plainS
theorem sizedR_len (l : List Rw) (cols rows : Nat) : (sizedR l cols rows).length = rows := by
  unfold sizedR
  split
  · rw [List.length_take]; omega
  · rw [List.length_append]; unfold freshL; rw [List.length_replicate]; omega
theorem sizedR_mem {l : List Rw} {cols rows : Nat} {r : Rw} (h : r ∈ sizedR l cols rows) : r ∈ l ∨ r = ⟨List.replicate cols (blankC plainS), false⟩ := by
  unfold sizedR at h
  split at h
  · exact .inl (List.mem_of_mem_take h)
  · rcases List.mem_append.1 h with h | h
    · exact .inl h
    · unfold freshL at h
      exact .inr (List.eq_of_mem_replicate h)
theorem resizeC_eq (g : Gr) (cols rows : Nat) (ax ay : Int) : g.resize cols rows ax ay false = (⟨cols, g.limit, sizedR (g.rows.map fun r => fitL r cols) cols rows, g.old.map fun r => fitL r cols⟩,
      min (into ax (g.cols - 1)) (cols - 1), min (into ay ((g.rows.length : Int) - 1)) (rows - 1)) := by
  unfold Gr.resize
  rw [if_neg (by decide)]
  rfl
theorem resizeC_wf {g : Gr} (h : g.WF) (cols rows : Nat) (ax ay : Int) (c1 : 1 ≤ cols) (c2 : cols ≤ 250) (r1 : 1 ≤ rows) (r2 : rows ≤ 120) : (g.resize cols rows ax ay false).1.WF := by
  rw [resizeC_eq]
  refine ⟨c1, c2, ?_, ?_, h.li, ?_, fun r hr => ?_⟩
  · show 1 ≤ (sizedR _ _ _).length
    rw [sizedR_len]; exact r1
  · show (sizedR _ _ _).length ≤ 120
    rw [sizedR_len]; exact r2
  · show (g.old.map _).length ≤ g.limit
    rw [List.length_map]; exact h.ol
  · have key : ∀ x ∈ g.rows ++ g.old, (fitL x cols).cells.length = cols ∧ ∀ c ∈ (fitL x cols).cells, c.Ok := fun x hx => ⟨fitL_len _ _, fitL_ok (h.ce x hx).2 cols⟩
    rcases List.mem_append.1 hr with hr | hr
    · rcases sizedR_mem hr with hr | hr
      · obtain ⟨x, hx, rfl⟩ := List.mem_map.1 hr
        exact key x (List.mem_append_left _ hx)
      · rw [hr]
        refine ⟨by rw [List.length_replicate], fun c hc => ?_⟩
        rw [List.eq_of_mem_replicate hc]
        exact blank_ok _
    · obtain ⟨x, hx, rfl⟩ := List.mem_map.1 hr
      exact key x (List.mem_append_right _ hx)
end Go.Proofs.YtjclgoiclbkgjaaDoor

/- Walks of package grid: fitted. -/
namespace Go.Proofs.YtjclgoiclbkgjaaDoor
open Go.RowKit

theorem fit_cells (l : List Cel) (cols : Nat) : putAt (List.replicate cols (blankC plainS)) 0 ((cutL l cols).take (min l.length cols)) = (cutL l cols).take cols ++ List.replicate (cols - l.length) (blankC plainS) := by
  unfold putAt
  have hl := cutL_len l (cols : Int)
  rw [List.take_zero, List.nil_append, List.length_take, hl, Nat.zero_add, List.drop_replicate]
  by_cases h : cols ≤ l.length
  · rw [Nat.min_eq_right h, Nat.min_eq_left h, show cols - cols = cols - l.length by omega]
  · rw [Nat.min_eq_left (by omega), Nat.min_eq_left (Nat.le_refl _), List.take_of_length_le (by omega), List.take_of_length_le (by omega)]
theorem ownC_base {w : World} {base B size q n c : Nat} {xs : List Value} (h : OwnC w base size (.slice (some ⟨q, 0, none⟩) n c) n xs) (hq : B ≤ q) : OwnC w B size (.slice (some ⟨q, 0, none⟩) n c) n xs := by
  refine ⟨h.1, ?_⟩
  rcases h.2 with h2 | ⟨b', off', c', e, h1, h2⟩
  · exact .inl h2
  · refine .inr ⟨b', off', c', e, ?_, h2⟩
    simp only [Value.slice.injEq, Option.some.injEq, Addr.mk.injEq] at e
    omega
set_option maxRecDepth 100000 in
set_option maxHeartbeats 8000000 in
theorem fitted_any (r : Rw) (b off c cols : Nat) (w : World) (h : OwnC w 0 5 (.slice (some ⟨b, off, none⟩) r.cells.length c) r.cells.length (cvals r.cells)) (hl : 1 ≤ r.cells.length ∧ r.cells.length ≤ 1000) (hc : 1 ≤ cols ∧ cols ≤ 250) :
    Calls Tryd.prog 46 #[.agg #[.slice (some ⟨b, off, none⟩) r.cells.length c, .bool r.wrap], .int .i64 cols] w fun e w' => ∃ v, e = .returned (.agg #[v, .bool (fitL r cols).wrap]) ∧ w.grownBy w' (some b) ∧
      ((cols = r.cells.length ∧ v = .slice (some ⟨b, off, none⟩) r.cells.length c ∧ Below w.heap.size w w') ∨ (cols ≠ r.cells.length ∧ OwnC w' w.heap.size 5 v cols (cvals (fitL r cols).cells))) := by
  obtain ⟨lx, wr⟩ := r
  dsimp only at h hl ⊢
  have hbl := (ownC_lt h b rfl).2
  have HB0 := Lib.hid (Below.alloc (Below.refl w.heap.size w) (Nat.le_refl _) (.cells #[.slice (some ⟨b, off, none⟩) lx.length c, .bool wr] 76))
  have HB1 := Lib.hid (Below.alloc HB0.out (by simp) (.cells #[.slice none 0 0, .bool false] 76))
  by_cases he : cols = lx.length
  · subst he
    have d1 : ((lx.length : Int) == (lx.length : Int)) = true := beq_self_eq_true _
    have hB : Below w.heap.size w ((w.alloc (.cells #[.slice (some ⟨b, off, none⟩) lx.length c, .bool wr] 76)).alloc (.cells #[.slice (some ⟨b, off, none⟩) lx.length c, .bool wr] 76)) := Below.alloc HB0.out (by simp) _
    go_enter Tryd.func46, Tryd.ntmps46
    go_wp2_with fail
    (try simp only [Exit.inBlock, Exit.then])
    exact retRow rfl rfl rfl (blk_new2 _ _ _) Tryd.underlying76 rfl (by exact row_info) ⟨_, by unfold fitL; rw [if_pos rfl], gb_of_below _ hB, .inl ⟨trivial, rfl, hB⟩⟩
  · have d1 : ((cols : Int) == (lx.length : Int)) = false := by simp; omega
    have HF := Lib.hid (show fitL ⟨lx, wr⟩ cols = ⟨(cutL lx cols).take cols ++ List.replicate (cols - lx.length) (blankC plainS), false⟩ by unfold fitL; rw [if_neg he])
    have HK0 := Lib.hid (blk_alloc (blk_new w (.cells #[.slice (some ⟨b, off, none⟩) lx.length c, .bool wr] 76)) (.cells #[.slice none 0 0, .bool false] 76))
    have HR0 := Lib.hid (blk_new2 w (.cells #[.slice (some ⟨b, off, none⟩) lx.length c, .bool wr] 76) (.cells #[.slice none 0 0, .bool false] 76))
    have HO0 := Lib.hid (ownC_alloc (ownC_alloc h (.cells #[.slice (some ⟨b, off, none⟩) lx.length c, .bool wr] 76)) (.cells #[.slice none 0 0, .bool false] 76))
    have hsz1 : ((w.alloc (.cells #[.slice (some ⟨b, off, none⟩) lx.length c, .bool wr] 76)).alloc (.cells #[.slice none 0 0, .bool false] 76)).heap.size = w.heap.size + 2 := by simp
    clear h HB0
    have hnl : lx.length ≤ 1000000 := by omega
    go_enter Tryd.func46, Tryd.ntmps46
    go_upto_region 1 with fail
    generalize (w.alloc (.cells #[.slice (some ⟨b, off, none⟩) lx.length c, .bool wr] 76)).alloc (.cells #[.slice none 0 0, .bool false] 76) = w1 at *
    have k0 : w1.cell? ⟨w.heap.size, 0, none⟩ = some (.slice (some ⟨b, off, none⟩) lx.length c) := blk_cell HK0.out 0
    go_wp2_with fail
    refine (cut_any lx cols b off lx.length c w1 HO0.out rfl hnl (by omega)).mono ?_
    rintro e w2 ⟨rfl, g2, o2⟩
    have HK2 := Lib.hid (blk_grown HK0.out g2 (by intro e; injection e with e; omega))
    have HR2 := Lib.hid (blk_grown HR0.out g2 (by intro e; injection e with e; omega))
    have HG2 := Lib.hid (gb_trans (gb_of_below (some b) HB1.out) g2)
    have hs2 := g2.size
    have HO2 := Lib.hid o2
    clear k0 g2 o2 HK0 HR0 HO0 HB1
    obtain ⟨w3, hmk, ho3, b3, hs3⟩ := make_full cells_elem cols (by omega) (by omega) (by omega) w2
    rw [made_cells] at ho3
    generalize hq : w2.heap.size = q at *
    have HK3 := Lib.hid (blk_below HK2.out b3 (by omega))
    have HR3 := Lib.hid (blk_below HR2.out b3 (by omega))
    have HG3 := Lib.hid (gb_below HG2.out b3 (by omega))
    have HO3 := Lib.hid (ownC_below HO2.out (by rw [hq]; exact b3))
    have HN3 := Lib.hid ho3
    clear ho3 b3 HK2 HR2 HG2 HO2
    go_wp2_with fail
    clear hmk
    refine (plain_any w3).mono ?_
    rintro e w4 ⟨rfl, b4⟩
    have hs4 := b4.size
    have HK4 := Lib.hid (blk_below HK3.out b4 (by omega))
    have HR4 := Lib.hid (blk_below HR3.out b4 (by omega))
    have HG4 := Lib.hid (gb_below HG3.out b4 (by omega))
    have HO4 := Lib.hid (ownC_below HO3.out b4)
    have HFL := Lib.hid (fill_any (List.replicate cols noC) plainS q 0 cols cols 0 cols cols w4 (ownC_mono (ownC_below HN3.out b4) (Nat.zero_le _)) (by rw [List.length_replicate]) (by omega) (by unfold maxLen; omega))
    simp only [Nat.zero_mul, Nat.add_zero, fill_all] at HFL
    clear b4 HK3 HR3 HG3 HO3 HN3
    go_wp2_with fail
    refine HFL.out.mono ?_
    rintro e w5 ⟨rfl, g5, o5⟩
    have hs5 := g5.size
    have HK5 := Lib.hid (blk_grown HK4.out g5 (by intro e; injection e with e; omega))
    have HR5 := Lib.hid (blk_grown HR4.out g5 (by intro e; injection e with e; omega))
    have HG5 := Lib.hid (gb_trans_new HG4.out g5 (by intro k hk; injection hk with hk; omega))
    have HO5 := Lib.hid (ownC_grown HO4.out g5 (by intro k hk e; simp only [Value.ownBlock] at hk; injection hk with hk; injection e with e; omega))
    have hcp := copy_own (P := Tryd.prog) Tryd.underlying51 cell_info o5 0 cols cols ⟨q, 0, none⟩ (fun _ => by simp) (by omega) (ownC_reads HO5.out) (cvals_one _) 3
    have hO6 := copy_owned o5 0 (cvals ((cutL lx cols).take (Nat.min lx.length cols))) (by rw [cvals_len, List.length_take, cutL_len]; have : Nat.min lx.length cols = min lx.length cols := rfl; omega)
    rw [cvals_take] at hcp
    rw [← cvals_put, show Nat.min lx.length cols = min lx.length cols from rfl, fit_cells] at hO6
    rw [show Nat.min lx.length cols = min lx.length cols from rfl] at hcp
    simp only [Nat.zero_mul, Nat.add_zero] at hcp hO6
    have g6 := gb_setCells w5 q 0 (cvals ((cutL lx cols).take (min lx.length cols)))
    have k5 : w5.cell? ⟨w.heap.size, 0, none⟩ = some (.slice (some ⟨b, off, none⟩) lx.length c) := blk_cell HK5.out 0
    have HR6 := Lib.hid (blk_grown HR5.out g6 (by intro e; injection e with e; omega))
    have HG6 := Lib.hid (gb_trans_new HG5.out g6 (by intro k hk; injection hk with hk; omega))
    have HN6 := Lib.hid hO6
    have hs6 := g6.size
    clear hO6 g6 o5 g5 HK4 HR4 HG4 HO4 HK5 HR5 HG5 HO5
    go_upto_region 7 with fail
    generalize w5.setCells q 0 (cvals ((cutL lx cols).take (min lx.length cols))) = w6 at *
    have hst := run_storeVar_row (P := Tryd.prog) w6 (w.heap.size + 1) 76 76 _ #[.slice (some ⟨q, 0, none⟩) cols cols, .bool false] HR6.out (by kernel_rfl) rfl (by simp [Value.oneCell'])
    have hr7 := setRow_blk (cells := #[.slice (some ⟨q, 0, none⟩) cols cols, .bool false]) HR6.out
    have HG7 := Lib.hid (gb_setRow w6 (w.heap.size + 1) #[.slice (some ⟨q, 0, none⟩) cols cols, .bool false])
    have HG8 := Lib.hid (gb_trans_new HG6.out HG7.out (by intro k hk; injection hk with hk; omega))
    have HN8 := Lib.hid (ownC_grown (ownC_base HN6.out (show w.heap.size ≤ q by omega)) HG7.out (by intro k hk e; simp only [Value.ownBlock] at hk; injection hk with hk; injection e with e; omega))
    clear k5 hcp
    go_wp2_with (refine wpList_storeR rfl _ _ _ rfl hst rfl rfl ?_)
    (try simp only [Exit.inBlock, Exit.then])
    exact retRow rfl rfl rfl hr7 Tryd.underlying76 rfl (by exact row_info) ⟨_, by rw [HF.out], HG8.out, .inr ⟨he, by rw [HF.out]; exact HN8.out⟩⟩
end Go.Proofs.YtjclgoiclbkgjaaDoor
