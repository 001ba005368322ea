/- Package grid, texts laid together: G13 G14 G15. -/
import Derived.Test.YtjclgoiclbkgjaaGreatDoorK5
import Derived.Deep.RegionHeld3
/- Walks of package grid: Up. -/
namespace Go.Proofs.YtjclgoiclbkgjaaGreatDoor
open Go.RowKit

theorem up_wf {g : Gr} (h : g.WF) (t b n : Nat) (s : Sty) (k : Bool) (h1 : t ≤ b) (h2 : b < g.rows.length) (h4 : n ≤ b + 1 - t) :
    (⟨g.cols, g.limit, upRows g.rows t b n g.cols s, if k = true ∧ t = 0 then keepL g.limit (g.old ++ (g.rows.drop t).take n) else g.old⟩ : Gr).WF := by
  refine ⟨h.c1, h.c2, by show 1 ≤ (upRows _ _ _ _ _ _).length; rw [up_len h1 h2 h4]; exact h.r1, by show (upRows _ _ _ _ _ _).length ≤ 120; rw [up_len h1 h2 h4]; exact h.r2, h.li, ?_, fun r hr => ?_⟩
  · show (if _ then _ else _ : List Rw).length ≤ g.limit
    split
    · unfold keepL; rw [List.length_drop]; omega
    · exact h.ol
  · have hf : ∀ r ∈ freshL n g.cols s, r.cells.length = g.cols ∧ ∀ c ∈ r.cells, c.Ok := fun r hr => by
      rw [List.eq_of_mem_replicate hr]
      refine ⟨List.length_replicate, fun c hc => ?_⟩
      rw [List.eq_of_mem_replicate hc]; exact blank_ok s
    rcases List.mem_append.1 hr with hr | hr
    · have hr' : r ∈ upRows g.rows t b n g.cols s := hr
      unfold upRows at hr'
      rcases List.mem_append.1 hr' with hr' | hr'
      · rcases List.mem_append.1 hr' with hr' | hr'
        · rcases List.mem_append.1 hr' with hr' | hr'
          · exact h.ce r (List.mem_append_left _ (List.mem_of_mem_take hr'))
          · exact h.ce r (List.mem_append_left _ (List.mem_of_mem_drop (List.mem_of_mem_take hr')))
        · exact hf r hr'
      · exact h.ce r (List.mem_append_left _ (List.mem_of_mem_drop hr'))
    · have hr' : r ∈ (if k = true ∧ t = 0 then keepL g.limit (g.old ++ (g.rows.drop t).take n) else g.old) := hr
      split at hr'
      · unfold keepL at hr'
        rcases List.mem_append.1 (List.mem_of_mem_drop hr') with hr' | hr'
        · exact h.ce r (List.mem_append_right _ hr')
        · exact h.ce r (List.mem_append_left _ (List.mem_of_mem_drop (List.mem_of_mem_take hr')))
      · exact h.ce r (List.mem_append_right _ hr')
set_option maxRecDepth 100000 in
set_option maxHeartbeats 8000000 in
theorem up_any {T : Nat → Nat} {p : Nat} {w : World} {g : Gr} (h : GM T p w g) (top bottom n : Int) (s : Sty) (hs : RightIn w s) (keep : Bool) :
    Calls Tryz.prog 32 #[.pointer (some ⟨p, 0, none⟩), .int .i64 top, .int .i64 bottom, .int .i64 n, s.val, .bool keep] w fun e w' => e = .returned (.tuple #[]) ∧ Within (own T w) w w' ∧ ∃ T', GM T' p w' (g.up top bottom n s keep) ∧ ∀ k, T' k ≠ 0 → own T w k := by
  have hBz := Below.alloc (Below.refl w.heap.size w) (Nat.le_refl _) (.cells #[.int .i64 s.fg, .int .i64 s.bg, .int .i64 s.attr] 36)
  have hbk0 := blk_new w (.cells #[.int .i64 s.fg, .int .i64 s.bg, .int .i64 s.attr] 36)
  have H0 := Lib.hid h
  have HG := Lib.hid (h.below hBz)
  clear h
  have HRG := Lib.hid (region_any HG.out top bottom n s (hs.below hBz))
  unfold Sty.val at HRG
  by_cases hR0 : regionN g top bottom n s = 0
  · have HE := Lib.hid (show g.up top bottom n s keep = g by unfold Gr.up; rw [if_pos hR0])
    rw [hR0] at HRG
    unfold Sty.val
    go_enter Tryz.func32, Tryz.ntmps32
    go_wp2_with fail
    refine HRG.out.mono ?_
    rintro e w2 ⟨rfl, b2⟩
    have HB2 := Lib.hid (hBz.trans (b2.mono (by simp)))
    clear b2
    go_wp2_with fail
    refine ret0w rfl rfl ⟨rfl, Within.of_below HB2.out, T, ?_, fun k hk => .inl hk⟩
    rw [HE.out]
    exact H0.out.below HB2.out
  obtain ⟨k1, k2, k3, hok, k5, k6⟩ := regionN_pos hR0
  have HEU := Lib.hid (show g.up top bottom n s keep = _ by unfold Gr.up; rw [if_neg hR0])
  generalize hRR : regionN g top bottom n s = R at *
  obtain ⟨t, rfl⟩ : ∃ t : Nat, top = (t : Int) := ⟨top.toNat, by omega⟩
  obtain ⟨b, rfl⟩ : ∃ b : Nat, bottom = (b : Int) := ⟨bottom.toNat, by omega⟩
  have hR1 : 1 ≤ R := by omega
  have hR2 : R ≤ b + 1 - t := by omega
  have htb : t ≤ b := by omega
  have hwf := H0.out.wf
  have hrl := hwf.r2
  have hcl := hwf.c2
  have hll := hwf.li
  have hol := hwf.ol
  have dR : ((R : Int) == 0) = false := beq_eq_false_iff_ne.2 (by omega)
  have dR' : (R == 0) = false := beq_eq_false_iff_ne.2 (by omega)
  clear hRR k1 k2 k6 hR0
  unfold Sty.val
  go_enter Tryz.func32, Tryz.ntmps32
  go_wp2_with fail
  refine HRG.out.mono ?_
  rintro e w2 ⟨rfl, b2⟩
  have HB2 := Lib.hid (hBz.trans (b2.mono (by simp)))
  have HK2 := Lib.hid (blk_below hbk0 b2 (by simp))
  have hs2 : w.heap.size < w2.heap.size := heap_lt HK2.out
  obtain ⟨vr, vo, Lr, Lo, hA0⟩ := H0.out
  have hA2 := hA0.mod (.of_below HB2.out) id id id (fun _ => id)
  have HA2 := Lib.hid hA2
  have hlen := (rows_len hA0).1
  have hleno := (rows_len hA0).2
  obtain ⟨bo, off, c, rfl, hnc, hcm⟩ := ownC_pos hA2.rr.own (by omega)
  have hbot : T bo = 2 := hA2.rr.tag bo rfl
  have hptag : T p = 1 := hA2.tp
  have hbop : bo ≠ p := fun e => by rw [e] at hbot; omega
  have hplt : p < w.heap.size := hA0.lt p (by omega)
  have hbolt : bo < w.heap.size := hA0.lt bo (by omega)
  have hbl : b < Lr.length := by omega
  clear hlen b2 HRG HG hbk0 hBz
  obtain ⟨c0, c1, c2, c3⟩ := gm_cells hA2
  have hone := cats_one (fun x hx => hA2.ca x (List.mem_append_left _ hx))
  have hoff : ((Lr.drop t).take R).length = R := by rw [List.length_take, List.length_drop]; omega
  have hrd := ownC_reads (ownC_sub hA2.rr.own t (t + R) (by omega) (by omega))
  rw [show t + R - t = R by omega, rowVals_drop, rowVals_take] at hrd
  have hsl1 := slice_lh (P := Tryz.prog) (size := 2) Tryz.underlying57 row_info bo off Lr.length c t (t + R) (by omega) (by omega) (by omega)
  rw [show t + R - t = R by omega, show ((t + R : Nat) : Int) = (t : Int) + (R : Int) by omega] at hsl1
  have HCL := Lib.hid (cloneR_any ((Lr.drop t).take R) ⟨bo, off + t * 2, none⟩ (c - t) w2 (by rw [hoff]; exact hrd) (fun u hu => hone u (by
    rw [← rowVals_take, ← rowVals_drop] at hu
    exact List.mem_of_mem_drop (List.mem_of_mem_take hu))) (by rw [hoff]; omega))
  rw [hoff] at HCL
  go_wp2_with fail
  refine HCL.out.mono ?_
  rintro e w3 ⟨ov, rfl, b3, o3⟩
  have HOV3 := Lib.hid o3
  have HB3 := Lib.hid (HB2.out.trans (b3.mono HB2.out.size))
  have hA3 := HA2.out.mod (.of_below b3) id id id (fun _ => id)
  have HK3 := Lib.hid (blk_below HK2.out b3 hs2)
  have hs3 := b3.size
  clear c0 c1 c2 c3 b3 o3 HCL hA2 hrd hsl1
  have HA3 := Lib.hid hA3
  obtain ⟨c0, c1, c2, c3⟩ := gm_cells hA3
  have hw1 : IntKind.i64.wrap ((b : Int) + 1) = (b : Int) + 1 := wrap64_id _ (by omega) (by omega)
  have hw2 : IntKind.i64.wrap ((t : Int) + (R : Int)) = (t : Int) + (R : Int) := wrap64_id _ (by omega) (by omega)
  have hsl1 := slice_lh (P := Tryz.prog) (size := 2) Tryz.underlying57 row_info bo off Lr.length c t (b + 1) (by omega) (by omega) (by omega)
  rw [show ((b + 1 : Nat) : Int) = (b : Int) + 1 by omega] at hsl1
  obtain ⟨a2, hsl2, ha2⟩ := slice_lh' (P := Tryz.prog) (size := 2) Tryz.underlying57 row_info bo off Lr.length c (t + R) (b + 1) (by omega) (by omega)
  rw [show ((b + 1 : Nat) : Int) = (b : Int) + 1 by omega, show ((t + R : Nat) : Int) = (t : Int) + (R : Int) by omega] at hsl2
  go_upto_region 4 with fail
  go_still_tail 18, (by kernel_rfl)
  change wpList _ _ _ _ _ w3.drew
  have hA4 := hA3.mod (.of_below (Below.refl _ _).drew) id id id (fun _ => id)
  have HOV4 := Lib.hid (show OwnC w3.drew w2.heap.size 2 ov R _ from HOV3.out)
  have HK4 := Lib.hid (blk_drew HK3.out)
  have HB4 := Lib.hid HB3.out.drew
  have hs4 : w3.drew.heap.size = w3.heap.size := rfl
  clear c0 c1 c2 c3 hA3 HA3 HK3 HB3 HOV3 HA2 HK2
  generalize hw4 : w3.drew = w4 at *
  have HA4 := Lib.hid hA4
  have hM : ((Lr.drop (t + R)).take (b + 1 - (t + R))).length = b + 1 - (t + R) := by rw [List.length_take, List.length_drop]; omega
  have hrd2 := reads_sub hA4.rr.own (t + R) (b + 1) (c - (t + R)) a2 ha2 (by omega) (by omega)
  rw [rowVals_drop, rowVals_take] at hrd2
  have hcp := copy_own (P := Tryz.prog) Tryz.underlying57 row_info hA4.rr.own t (b + 1 - t) (c - t) ⟨bo, off + t * 2, none⟩ (fun _ => rfl) (by omega) hrd2 (fun u hu => hone u (by
    rw [← rowVals_take, ← rowVals_drop] at hu
    exact List.mem_of_mem_drop (List.mem_of_mem_take hu)))
  rw [List.take_of_length_le (by rw [rowVals_len, hM, show Nat.min (b + 1 - (t + R)) (b + 1 - t) = b + 1 - (t + R) by show min (b + 1 - (t + R)) (b + 1 - t) = _; omega]; exact Nat.le_refl _)] at hcp
  have ho5 := copy_owned hA4.rr.own t (rowVals ((Lr.drop (t + R)).take (b + 1 - (t + R)))) (by rw [rowVals_len, hM]; omega)
  rw [← rowVals_put] at ho5
  have g5 := gb_setCells w4 bo (off + t * 2) (rowVals ((Lr.drop (t + R)).take (b + 1 - (t + R))))
  have m5 : Mod T (fun x => x = 2) w4 (w4.setCells bo (off + t * 2) (rowVals ((Lr.drop (t + R)).take (b + 1 - (t + R))))) := Mod.of_gb g5 (fun k hk => by injection hk with hk; subst hk; exact hbot)
  have hKp5 := (m5.block p (heap_lt hA4.blk) (by rw [hptag]; decide)).trans hA4.blk
  have HRO5 := Lib.hid (hA4.ro.mod m5 (by decide))
  have HCA5 := Lib.hid (show ∀ x ∈ Lr ++ Lo, CAt T (w4.setCells bo (off + t * 2) (rowVals ((Lr.drop (t + R)).take (b + 1 - (t + R))))) x from fun x hx => (hA4.ca x hx).mod m5 (fun k _ => by omega))
  have hvb : ∀ k, ov.ownBlock = some k → bo ≠ k := fun k hk => by
    have := (ownC_lt HOV4.out k hk).1; omega
  have HOV5 := Lib.hid (ownC_grown HOV4.out g5 (fun k hk e => hvb k hk (by injection e)))
  have HK5 := Lib.hid (blk_grown HK4.out g5 (by intro e; injection e with e; omega))
  have HW5 := Lib.hid ((Within.of_below (G := own T w) HB4.out).trans (Within.of_gb g5 (fun k hk => by injection hk with hk; subst hk; exact .inl (by omega))))
  have hs5 := size_setCells w4 bo (off + t * 2) (rowVals ((Lr.drop (t + R)).take (b + 1 - (t + R))))
  have HO5 := Lib.hid ho5
  have HKP5 := Lib.hid hKp5
  clear g5 m5 hA4 ho5 hKp5 hrd2 HOV4 HK4 HB4
  generalize w4.setCells bo (off + t * 2) (rowVals ((Lr.drop (t + R)).take (b + 1 - (t + R)))) = w5 at *
  have c0 : w5.cell? ⟨p, 0, none⟩ = some (.int .i64 g.cols) := blk_cell HKP5.out 0
  have c2 : w5.cell? ⟨p, 2, none⟩ = some (.slice (some ⟨bo, off, none⟩) Lr.length c) := blk_cell HKP5.out 2
  have q0 : w5.cell? ⟨w.heap.size, 0, none⟩ = some (.int .i64 s.fg) := blk_cell HK5.out 0
  have q1 : w5.cell? ⟨w.heap.size, 1, none⟩ = some (.int .i64 s.bg) := blk_cell HK5.out 1
  have q2 : w5.cell? ⟨w.heap.size, 2, none⟩ = some (.int .i64 s.attr) := blk_cell HK5.out 2
  have hw3 : IntKind.i64.wrap ((b : Int) + 1 - (R : Int)) = (b : Int) + 1 - (R : Int) := wrap64_id _ (by omega) (by omega)
  have hsl3 := slice_l (P := Tryz.prog) (size := 2) Tryz.underlying57 row_info bo off Lr.length c (b + 1 - R) (by omega) (by omega)
  rw [show ((b + 1 - R : Nat) : Int) = (b : Int) + 1 - (R : Int) by omega] at hsl3
  have hs5d : w5.drew.heap.size = w5.heap.size := rfl
  have HO5d := Lib.hid (show OwnC w5.drew 0 2 (.slice (some ⟨bo, off, none⟩) Lr.length c) Lr.length (rowVals (putAt Lr t ((Lr.drop (t + R)).take (b + 1 - (t + R))))) from HO5.out)
  have hpl5 : p < w5.heap.size := heap_lt HKP5.out
  have hql5 : w.heap.size < w5.heap.size := heap_lt HK5.out
  have hbo5 : bo < w5.heap.size := by omega
  have hpq : p ≠ w.heap.size := by omega
  have hbq : bo ≠ w.heap.size := by omega
  go_upto_region 5 with fail
  go_region_held3 (fun w' => w'.cell? ⟨p, 0, none⟩ = some (.int .i64 g.cols) ∧ w'.cell? ⟨p, 2, none⟩ = some (.slice (some ⟨bo, off, none⟩) Lr.length c) ∧ w'.cell? ⟨w.heap.size, 0, none⟩ = some (.int .i64 s.fg) ∧ w'.cell? ⟨w.heap.size, 1, none⟩ = some (.int .i64 s.bg) ∧ w'.cell? ⟨w.heap.size, 2, none⟩ = some (.int .i64 s.attr)) (go_keep)
    (first
      | (go_at_call 19
         refine (fresh_any R g.cols s _ (by omega) (by omega)).mono ?_
         rintro e w6 ⟨fv, Lf, rfl, b6, hLf, hRf⟩
         have hLfl : Lf.length = R := by
           have := congrArg List.length hLf
           rw [List.length_map] at this
           rw [this]; unfold freshL; rw [List.length_replicate]
         obtain ⟨fa, fc, rfl⟩ := ownC_sl hRf.own
         have hbk6 := blk_below (blk_drew HK5.out) b6 hql5
         have hkp6 := blk_below (blk_drew HKP5.out) b6 hpl5
         have ho6 := ownC_below HO5d.out b6
         have z0 : w6.cell? ⟨p, 0, none⟩ = some (.int .i64 g.cols) := blk_cell hkp6 0
         have z1 : w6.cell? ⟨p, 2, none⟩ = some (.slice (some ⟨bo, off, none⟩) Lr.length c) := blk_cell hkp6 2
         have z2 : w6.cell? ⟨w.heap.size, 0, none⟩ = some (.int .i64 s.fg) := blk_cell hbk6 0
         have z3 : w6.cell? ⟨w.heap.size, 1, none⟩ = some (.int .i64 s.bg) := blk_cell hbk6 1
         have z4 : w6.cell? ⟨w.heap.size, 2, none⟩ = some (.int .i64 s.attr) := blk_cell hbk6 2
         have hmin : Nat.min Lf.length (Lr.length - (b + 1 - R)) = Lf.length := by show min Lf.length (Lr.length - (b + 1 - R)) = _; omega
         have hcp6 := copy_own (P := Tryz.prog) Tryz.underlying57 row_info ho6 (b + 1 - R) (Lr.length - (b + 1 - R)) (c - (b + 1 - R)) ⟨bo, off + (b + 1 - R) * 2, none⟩ (fun _ => rfl) (by omega) (ownC_reads hRf.own) (rowVals_one Lf (fun x hx => by
           obtain ⟨xa, xc, e⟩ := ownC_sl (hRf.cells x hx)
           exact ⟨xa, _, xc, e⟩))
         rw [hmin, List.take_of_length_le (by rw [rowVals_len]; exact Nat.le_refl _)] at hcp6
         have g7 := gb_setCells w6 bo (off + (b + 1 - R) * 2) (rowVals Lf)
         have hbk7 := blk_grown hbk6 g7 (by intro e; injection e with e; exact hbq e.symm)
         have hkp7 := blk_grown hkp6 g7 (by intro e; injection e with e; exact hbop e.symm)
         have y0 : (w6.setCells bo (off + (b + 1 - R) * 2) (rowVals Lf)).cell? ⟨p, 0, none⟩ = some (.int .i64 g.cols) := blk_cell hkp7 0
         have y1 : (w6.setCells bo (off + (b + 1 - R) * 2) (rowVals Lf)).cell? ⟨p, 2, none⟩ = some (.slice (some ⟨bo, off, none⟩) Lr.length c) := blk_cell hkp7 2
         have y2 : (w6.setCells bo (off + (b + 1 - R) * 2) (rowVals Lf)).cell? ⟨w.heap.size, 0, none⟩ = some (.int .i64 s.fg) := blk_cell hbk7 0
         have y3 : (w6.setCells bo (off + (b + 1 - R) * 2) (rowVals Lf)).cell? ⟨w.heap.size, 1, none⟩ = some (.int .i64 s.bg) := blk_cell hbk7 1
         have y4 : (w6.setCells bo (off + (b + 1 - R) * 2) (rowVals Lf)).cell? ⟨w.heap.size, 2, none⟩ = some (.int .i64 s.attr) := blk_cell hbk7 2
         have HB6 := Lib.hid b6
         have HLf := Lib.hid hLf
         have HRF := Lib.hid hRf
         have HO6 := Lib.hid ho6
         have HKP7 := Lib.hid hkp7
         have HG7 := Lib.hid g7
         have HLL := Lib.hid hLfl
         clear b6 hLf hRf hbk6 hkp6 ho6 hbk7 hkp7 g7 hmin hLfl))
  have hs6 := HB6.out.size
  have hLfl := HLL.out
  have m7 : Mod T (fun x => x = 2) w6 (w6.setCells bo (off + (b + 1 - R) * 2) (rowVals Lf)) := Mod.of_gb HG7.out (fun k hk => by injection hk with hk; subst hk; exact hbot)
  have hm6 : Mod T (fun _ => False) w5 w6 := Mod.of_below ((Below.refl w5.heap.size w5).drew.trans HB6.out)
  have HCA7 := Lib.hid (show ∀ x ∈ Lr ++ Lo, CAt T (w6.setCells bo (off + (b + 1 - R) * 2) (rowVals Lf)) x from fun x hx => ((HCA5.out x hx).mod hm6 (fun _ _ => id)).mod m7 (fun k _ => by omega))
  have HRO7 := Lib.hid ((HRO5.out.mod hm6 id).mod m7 (by decide))
  have hrr := copy_owned HO6.out (b + 1 - R) (rowVals Lf) (by rw [rowVals_len]; omega)
  rw [← rowVals_put] at hrr
  have HRR7 := Lib.hid hrr
  have hfq : ∀ x ∈ Lf, ∃ q, x.1.ownBlock = some q ∧ w5.heap.size ≤ q := fun x hx => by
    obtain ⟨q, e1, _⟩ := HRF.out.ap x hx
    exact ⟨q, e1, (ownC_lt (HRF.out.cells x hx) q e1).1⟩
  have HFQ := Lib.hid hfq
  have HFC7 := Lib.hid (show ∀ x ∈ Lf, OwnC (w6.setCells bo (off + (b + 1 - R) * 2) (rowVals Lf)) 0 5 x.1 x.2.cells.length (cvals x.2.cells) from fun x hx => ownC_mono (ownC_grown (HRF.out.cells x hx) HG7.out (fun k hk e => by
    obtain ⟨q, e1, e2⟩ := hfq x hx
    rw [e1] at hk; injection hk with hk; injection e with e; omega)) (Nat.zero_le _))
  have HOV7 := Lib.hid (show OwnC (w6.setCells bo (off + (b + 1 - R) * 2) (rowVals Lf)) w2.heap.size 2 ov R _ from ownC_grown (ownC_below (show OwnC w5.drew w2.heap.size 2 ov R _ from HOV5.out) HB6.out) HG7.out (fun k hk e => hvb k hk (by injection e)))
  have HW7 := Lib.hid (((HW5.out.trans (Within.of_below (Below.refl w5.heap.size w5).drew)).trans (Within.of_below HB6.out)).trans (Within.of_gb HG7.out (fun k hk => by injection hk with hk; subst hk; exact .inl (by omega))))
  have hs7 := size_setCells w6 bo (off + (b + 1 - R) * 2) (rowVals Lf)
  have HND := Lib.hid HRF.out.nd
  have HL0 := Lib.hid hA0
  clear hcp6 y0 y1 y2 y3 y4 z0 z1 z2 z3 z4 m7 hm6 hrr hfq q0 q1 q2 c0 c2 HO5d HO6 HRO5 HCA5 HOV5 HO5 HB6 HRF HG7 HW5 HK5 HKP5 hA0 hsl3 hcp hsl1 hsl2
  generalize w6.setCells bo (off + (b + 1 - R) * 2) (rowVals Lf) = w7 at *
  have HU := Lib.hid (upL_eq Lr Lf t b R htb hbl hR1 hR2 hLfl)
  have HER := Lib.hid (show (upL Lr t b R Lf).map (·.2) = upRows g.rows t b R g.cols s by
    rw [HU.out]
    unfold upRows
    rw [List.map_append, List.map_append, List.map_append, List.map_take, List.map_take, List.map_drop, List.map_drop, HL0.out.er, HLf.out])
  have HUL := Lib.hid (show (upL Lr t b R Lf).length = Lr.length by
    unfold upL
    rw [putAt_len _ _ _ (by rw [putAt_len _ _ _ (by rw [hM]; omega)]; omega), putAt_len _ _ _ (by rw [hM]; omega)])
  have HUM := Lib.hid (show ∀ x ∈ upL Lr t b R Lf, x ∈ Lr ∨ x ∈ Lf from fun x hx => by
    unfold upL at hx
    rcases putAt_mem hx with hx | hx
    · rcases putAt_mem hx with hx | hx
      · exact .inl hx
      · exact .inl (List.mem_of_mem_drop (List.mem_of_mem_take hx))
    · exact .inr hx)
  have hszall : w.heap.size ≤ w7.heap.size := by omega
  have HBUILD := Lib.hid (show ∀ (w' : World) (vo' : Value) (Lo' : List (Value × Rw)) (g' : Gr), w7.heap.size ≤ w'.heap.size → Within (fun k => k = p ∨ vo.ownBlock = some k ∨ w7.heap.size ≤ k) w7 w' → g'.cols = g.cols → g'.limit = g.limit → g'.rows = upRows g.rows t b R g.cols s →
      w'.heap[p]? = some (.cells #[.int .i64 g.cols, .int .i64 g.limit, .slice (some ⟨bo, off, none⟩) Lr.length c, vo'] 61 (0, 0)) → OwnC w' 0 2 vo' Lo'.length (rowVals Lo') → (∀ k, vo'.ownBlock = some k → vo.ownBlock = some k ∨ w7.heap.size ≤ k) → Lo'.Sublist (Lo ++ (Lr.drop t).take R) → Lo'.map (·.2) = g'.old → g'.WF →
      Within (own T w) w w' ∧ ∃ T', GM T' p w' g' ∧ ∀ k, T' k ≠ 0 → own T w k from fun w' vo' Lo' g' hsz' hw' e1 e2 e3 hk' ho' hv' hsub eo' wf' => by
    have hvot : ∀ k, vo.ownBlock = some k → T k = 3 := HL0.out.ro.tag
    have hT0 : ∀ k, T k ≠ 0 → k < w.heap.size := HL0.out.lt
    have m' : Mod T (fun x => x = 1 ∨ x = 3) w7 w' := ⟨hw'.os, hw'.tape, hw'.output, hw'.size, fun k hk hn => hw'.block k hk (fun e => by
      rcases e with e | e | e
      · subst e; exact hn (.inl hptag)
      · exact hn (.inr (hvot k e))
      · omega)⟩
    have hnew : ∀ k, w.heap.size ≤ k → k < w7.heap.size → w'.heap[k]? = w7.heap[k]? := fun k hk hk2 => hw'.block k hk2 (fun e => by
      rcases e with e | e | e
      · omega
      · have := hT0 k (by rw [hvot k e]; decide); omega
      · omega)
    refine ⟨HW7.out.trans (hw'.mono (fun k hk => by
      rcases hk with e | e | e
      · subst e; exact .inl (by omega)
      · exact .inl (by rw [hvot k e]; decide)
      · exact .inr (by omega))), ?_⟩
    refine gat_build (vr := .slice (some ⟨bo, off, none⟩) Lr.length c) (vo := vo') (Lr := upL Lr t b R Lf) (Lo := Lo') hT0 hptag (Nat.le_trans hszall hsz') (by rw [e1, e2]; exact hk') ?_ ho' (fun k hk => ?_) (fun k hk => ?_) (fun x hx => ?_) ?_ (by rw [e3]; exact HER.out) eo' wf'
    · rw [HUL.out]
      refine ownC_blocks HRR7.out hsz' (fun k hk => ?_)
      simp [Value.ownBlock] at hk
      subst hk
      exact m'.block _ (by omega) (by rw [hbot]; decide)
    · simp [Value.ownBlock] at hk
      subst hk
      exact .inl hbot
    · rcases hv' k hk with h | h
      · exact .inl (hvot k h)
      · exact .inr (by omega)
    · have hold : x ∈ Lr ++ Lo → OwnC w' 0 5 x.1 x.2.cells.length (cvals x.2.cells) ∧ ∃ q, x.1.ownBlock = some q ∧ ((q < w.heap.size ∧ T q = 10 + q) ∨ (w.heap.size ≤ q ∧ vo'.ownBlock ≠ some q ∧ (Value.slice (some ⟨bo, off, none⟩) Lr.length c).ownBlock ≠ some q)) := fun hx => by
        have hc := (HCA7.out x hx).mod m' (fun k _ => by omega)
        obtain ⟨q, e1, e2⟩ := hc.tag
        exact ⟨hc.own, q, e1, .inl ⟨hT0 q (by omega), e2⟩⟩
      have hnewf : x ∈ Lf → OwnC w' 0 5 x.1 x.2.cells.length (cvals x.2.cells) ∧ ∃ q, x.1.ownBlock = some q ∧ ((q < w.heap.size ∧ T q = 10 + q) ∨ (w.heap.size ≤ q ∧ vo'.ownBlock ≠ some q ∧ (Value.slice (some ⟨bo, off, none⟩) Lr.length c).ownBlock ≠ some q)) := fun hx => by
        obtain ⟨q, e1, e2⟩ := HFQ.out x hx
        have hql := (ownC_lt (HFC7.out x hx) q e1).2
        refine ⟨ownC_blocks (HFC7.out x hx) hsz' (fun k hk => by rw [e1] at hk; injection hk with hk; subst hk; exact hnew _ (by omega) hql), q, e1, .inr ⟨by omega, fun e => ?_, fun e => ?_⟩⟩
        · rcases hv' q e with h | h
          · have := hT0 q (by rw [hvot q h]; decide); omega
          · omega
        · simp [Value.ownBlock] at e; omega
      rcases List.mem_append.1 hx with hx | hx
      · rcases HUM.out x hx with h | h
        · exact hold (List.mem_append_left _ h)
        · exact hnewf h
      · have := hsub.subset hx
        rcases List.mem_append.1 this with h | h
        · exact hold (List.mem_append_right _ h)
        · exact hold (List.mem_append_left _ (List.mem_of_mem_drop (List.mem_of_mem_take h)))
    · rw [HU.out]
      refine up_nodup Lr Lo Lf Lo' t b R w.heap.size htb hbl hR2 HL0.out.nd (fun x hx k hk => ?_) HND.out (fun x hx => ?_) hsub
      · exact (ownC_lt (HL0.out.ca x hx).own k hk).2
      · obtain ⟨q, e1, e2⟩ := HFQ.out x hx
        exact ⟨q, e1, by omega⟩)
  have HT3 := Lib.hid (show ∀ k, vo.ownBlock = some k → vo.ownBlock = some k ∨ w7.heap.size ≤ k from fun k hk => .inl hk)
  have hwfu := up_wf hwf t b R s keep htb (by omega) hR2
  have HWU := Lib.hid hwfu
  have hEold : (if keep = true ∧ (t : Int) = 0 then keepL g.limit (g.old ++ (g.rows.drop t).take R) else g.old) = (if keep = true ∧ t = 0 then keepL g.limit (g.old ++ (g.rows.drop t).take R) else g.old) := by
    by_cases ht : t = 0
    · subst ht; simp
    · rw [if_neg (by rintro ⟨_, h⟩; omega), if_neg (fun h => ht h.2)]
  have HEU2 := Lib.hid (show g.up t b n s keep = ⟨g.cols, g.limit, upRows g.rows t b R g.cols s, if keep = true ∧ t = 0 then keepL g.limit (g.old ++ (g.rows.drop t).take R) else g.old⟩ by
    rw [HEU.out, Int.toNat_natCast, Int.toNat_natCast, hEold])
  clear hwfu hEold HEU hwf
  by_cases hk0 : keep = true ∧ t = 0
  · obtain ⟨rfl, rfl⟩ := hk0
    have hov := ownC_reads HOV7.out
    have hnep : vo.ownBlock ≠ some p := fun e => by have := HL0.out.ro.tag p e; omega
    have hl0 : ((Lr.drop 0).take R).length = R := hoff
    have hone2 : ∀ u ∈ rowVals ((Lr.drop 0).take R), u.oneCell' = true := fun u hu => hone u (by
      rw [← rowVals_take, ← rowVals_drop] at hu
      exact List.mem_of_mem_drop (List.mem_of_mem_take hu))
    have hmapo : (keptL g.limit (Lo ++ (Lr.drop 0).take R)).map (·.2) = keepL g.limit (g.old ++ (g.rows.drop 0).take R) := by
      unfold keptL keepL
      rw [List.map_drop, List.map_append, List.map_take, List.map_drop, HL0.out.eo, HL0.out.er]
      congr 1
      rw [List.length_append, List.length_append, List.length_take, List.length_take, List.length_drop, List.length_drop, ← HL0.out.eo, ← HL0.out.er, List.length_map, List.length_map]
    have HMO := Lib.hid hmapo
    have HKE := Lib.hid (keep_any p g.cols g.limit (.slice (some ⟨bo, off, none⟩) Lr.length c) vo ov Lo ((Lr.drop 0).take R) w7 HKP7.out HRO7.out.own hnep (by rw [hl0]; exact hov) (cats_one (fun x hx => HL0.out.ca x (List.mem_append_right _ hx))) hone2 (by omega) (by rw [hl0]; omega) (by omega))
    clear hov hone2 hmapo hone
    go_wp2_with fail
    refine HKE.out.mono ?_
    rintro e w8 ⟨rfl, hw8, vo8, hk8, ho8, hv8⟩
    have hfin : Within (own T w) w w8 ∧ ∃ T', GM T' p w8 (g.up ((0 : Nat) : Int) b n s true) ∧ ∀ k, T' k ≠ 0 → own T w k := by
      have hwf2 := HWU.out
      rw [HEU2.out]
      rw [if_pos (by simp)] at hwf2 ⊢
      exact HBUILD.out w8 vo8 _ _ hw8.size hw8 rfl rfl rfl hk8 ho8 hv8 (List.drop_sublist _ _) HMO.out hwf2
    have HFI := Lib.hid hfin
    clear hfin hw8 hk8 ho8 hv8
    go_wp2_with fail
    go_end0
    exact ⟨rfl, HFI.out⟩
  · have HNK := Lib.hid hk0
    have hdone : Within (own T w) w w7 ∧ ∃ T', GM T' p w7 (g.up t b n s keep) ∧ ∀ k, T' k ≠ 0 → own T w k := by
      have hwf2 := HWU.out
      rw [HEU2.out]
      rw [if_neg hk0] at hwf2 ⊢
      exact HBUILD.out w7 vo Lo _ (Nat.le_refl _) (Within.refl _ _) rfl rfl rfl HKP7.out HRO7.out.own HT3.out (List.sublist_append_left _ _) HL0.out.eo hwf2
    have HD := Lib.hid hdone
    clear hdone
    cases keep
    · go_wp2_with fail
      go_end0
      exact ⟨rfl, HD.out⟩
    · have ht0 : ¬ t = 0 := fun e => hk0 ⟨rfl, e⟩
      have dt : ((t : Int) == 0) = false := beq_eq_false_iff_ne.2 (by omega)
      have dt' : (t == 0) = false := beq_eq_false_iff_ne.2 ht0
      clear hk0
      go_wp2_with fail
      go_end0
      exact ⟨rfl, HD.out⟩
end Go.Proofs.YtjclgoiclbkgjaaGreatDoor

/- Walks of package grid: Down. -/
namespace Go.Proofs.YtjclgoiclbkgjaaGreatDoor
open Go.RowKit

def dnL {α : Type} (L : List α) (t b n : Nat) (F : List α) : List α := putAt (putAt L (t + n) ((L.drop t).take (b + 1 - n - t))) t F
theorem dnL_eq {α : Type} (L F : List α) (t b n : Nat) (h1 : t ≤ b) (h2 : b < L.length) (_h3 : 1 ≤ n) (h4 : n ≤ b + 1 - t) (hF : F.length = n) : dnL L t b n F = L.take t ++ F ++ (L.drop t).take (b + 1 - t - n) ++ L.drop (b + 1) := by
  unfold dnL
  have e : b + 1 - n - t = b + 1 - t - n := by omega
  rw [e]
  have hM : ((L.drop t).take (b + 1 - t - n)).length = b + 1 - t - n := by rw [List.length_take, List.length_drop]; omega
  generalize (L.drop t).take (b + 1 - t - n) = M at *
  have htn : (L.take (t + n)).length = t + n := by rw [List.length_take]; omega
  unfold putAt
  rw [hM, hF, show t + n + (b + 1 - t - n) = b + 1 by omega]
  have e1 : (L.take (t + n) ++ M ++ L.drop (b + 1)).take t = L.take t := by
    rw [List.take_append_of_le_length (by rw [List.length_append, htn]; omega), List.take_append_of_le_length (by omega), List.take_take, Nat.min_eq_left (by omega)]
  have e2 : (L.take (t + n) ++ M ++ L.drop (b + 1)).drop (t + n) = M ++ L.drop (b + 1) := by
    rw [List.append_assoc, List.drop_append, List.drop_eq_nil_of_le (by omega), List.nil_append, htn, Nat.sub_self, List.drop_zero]
  rw [e1, e2]
  simp
theorem dn_nodup (Lr Lo Lf : List (Value × Rw)) (t b n B : Nat) (h1 : t ≤ b) (h4 : n ≤ b + 1 - t) (hnd : ((Lr ++ Lo).map (·.1.ownBlock)).Nodup) (hlt : ∀ x ∈ Lr ++ Lo, ∀ k, x.1.ownBlock = some k → k < B)
    (hf : (Lf.map (·.1.ownBlock)).Nodup) (hfB : ∀ x ∈ Lf, ∃ k, x.1.ownBlock = some k ∧ B ≤ k) :
    (((Lr.take t ++ Lf ++ (Lr.drop t).take (b + 1 - t - n) ++ Lr.drop (b + 1)) ++ Lo).map (·.1.ownBlock)).Nodup := by
  have hs : (Lr.take t ++ (Lr.drop t).take (b + 1 - t - n) ++ Lr.drop (b + 1)).Sublist Lr := by
    have e2 : (Lr.drop t) = (Lr.drop t).take (b + 1 - t) ++ Lr.drop (b + 1) := by
      have := (List.take_append_drop (b + 1 - t) (Lr.drop t)).symm
      rwa [List.drop_drop, show t + (b + 1 - t) = b + 1 by omega] at this
    have e1 : Lr = Lr.take t ++ ((Lr.drop t).take (b + 1 - t) ++ Lr.drop (b + 1)) := by rw [← e2, List.take_append_drop]
    have hsub : ((Lr.drop t).take (b + 1 - t - n)).Sublist ((Lr.drop t).take (b + 1 - t)) := by
      have : (Lr.drop t).take (b + 1 - t - n) = ((Lr.drop t).take (b + 1 - t)).take (b + 1 - t - n) := by rw [List.take_take, Nat.min_eq_left (by omega)]
      rw [this]; exact List.take_sublist _ _
    have hfin : (Lr.take t ++ ((Lr.drop t).take (b + 1 - t - n) ++ Lr.drop (b + 1))).Sublist (Lr.take t ++ ((Lr.drop t).take (b + 1 - t) ++ Lr.drop (b + 1))) := List.Sublist.append_left (List.Sublist.append_right hsub _) _
    rw [← e1] at hfin
    rwa [List.append_assoc]
  generalize hA : Lr.take t = A at *
  generalize hM : (Lr.drop t).take (b + 1 - t - n) = M at *
  generalize hD : Lr.drop (b + 1) = D at *
  have n2 : (((A ++ M ++ D) ++ Lo).map (·.1.ownBlock)).Nodup := hnd.sublist ((List.Sublist.append_right hs _).map _)
  have p2 : ((A ++ Lf ++ M ++ D) ++ Lo).Perm (((A ++ M ++ D) ++ Lo) ++ Lf) := by
    have q1 : ((A ++ Lf ++ M ++ D) ++ Lo) = A ++ (Lf ++ (M ++ D ++ Lo)) := by simp
    have q2 : (((A ++ M ++ D) ++ Lo) ++ Lf) = A ++ ((M ++ D ++ Lo) ++ Lf) := by simp
    rw [q1, q2]
    exact List.Perm.append_left _ List.perm_append_comm
  refine (p2.map _).nodup_iff.2 ?_
  rw [List.map_append, List.nodup_append]
  refine ⟨n2, hf, fun a ha c hc e => ?_⟩
  obtain ⟨x, hx, rfl⟩ := List.mem_map.1 ha
  obtain ⟨y, hy, rfl⟩ := List.mem_map.1 hc
  obtain ⟨k, hk, hkB⟩ := hfB y hy
  have hx' : x ∈ Lr ++ Lo := by
    rcases List.mem_append.1 hx with h | h
    · exact List.mem_append_left _ (hs.subset h)
    · exact List.mem_append_right _ h
  have := hlt x hx' k (by rw [e]; exact hk)
  omega
theorem down_wf {g : Gr} (h : g.WF) (t b n : Nat) (s : Sty) (h1 : t ≤ b) (h2 : b < g.rows.length) (h4 : n ≤ b + 1 - t) :
    (⟨g.cols, g.limit, downRows g.rows t b n g.cols s, g.old⟩ : Gr).WF := by
  refine ⟨h.c1, h.c2, by show 1 ≤ (downRows _ _ _ _ _ _).length; rw [down_len h1 h2 h4]; exact h.r1, by show (downRows _ _ _ _ _ _).length ≤ 120; rw [down_len h1 h2 h4]; exact h.r2, h.li, h.ol, fun r hr => ?_⟩
  have hf : ∀ r ∈ freshL n g.cols s, r.cells.length = g.cols ∧ ∀ c ∈ r.cells, c.Ok := fun r hr => by
    rw [List.eq_of_mem_replicate hr]
    refine ⟨List.length_replicate, fun c hc => ?_⟩
    rw [List.eq_of_mem_replicate hc]; exact blank_ok s
  rcases List.mem_append.1 hr with hr | hr
  · have hr' : r ∈ downRows g.rows t b n g.cols s := hr
    unfold downRows at hr'
    rcases List.mem_append.1 hr' with hr' | hr'
    · rcases List.mem_append.1 hr' with hr' | hr'
      · rcases List.mem_append.1 hr' with hr' | hr'
        · exact h.ce r (List.mem_append_left _ (List.mem_of_mem_take hr'))
        · exact hf r hr'
      · exact h.ce r (List.mem_append_left _ (List.mem_of_mem_drop (List.mem_of_mem_take hr')))
    · exact h.ce r (List.mem_append_left _ (List.mem_of_mem_drop hr'))
  · exact h.ce r (List.mem_append_right _ hr)
set_option maxRecDepth 100000 in
set_option maxHeartbeats 8000000 in
theorem down_any {T : Nat → Nat} {p : Nat} {w : World} {g : Gr} (h : GM T p w g) (top bottom n : Int) (s : Sty) (hs : RightIn w s) :
    Calls Tryz.prog 34 #[.pointer (some ⟨p, 0, none⟩), .int .i64 top, .int .i64 bottom, .int .i64 n, s.val] w fun e w' => e = .returned (.tuple #[]) ∧ Within (own T w) w w' ∧ ∃ T', GM T' p w' (g.down top bottom n s) ∧ ∀ k, T' k ≠ 0 → own T w k := by
  have hBz := Below.alloc (Below.refl w.heap.size w) (Nat.le_refl _) (.cells #[.int .i64 s.fg, .int .i64 s.bg, .int .i64 s.attr] 36)
  have hbk0 := blk_new w (.cells #[.int .i64 s.fg, .int .i64 s.bg, .int .i64 s.attr] 36)
  have H0 := Lib.hid h
  have HG := Lib.hid (h.below hBz)
  clear h
  have HRG := Lib.hid (region_any HG.out top bottom n s (hs.below hBz))
  unfold Sty.val at HRG
  by_cases hR0 : regionN g top bottom n s = 0
  · have HE := Lib.hid (show g.down top bottom n s = g by unfold Gr.down; rw [if_pos hR0])
    rw [hR0] at HRG
    unfold Sty.val
    go_enter Tryz.func34, Tryz.ntmps34
    go_wp2_with fail
    refine HRG.out.mono ?_
    rintro e w2 ⟨rfl, b2⟩
    have HB2 := Lib.hid (hBz.trans (b2.mono (by simp)))
    clear b2
    go_wp2_with fail
    refine ret0w rfl rfl ⟨rfl, Within.of_below HB2.out, T, ?_, fun k hk => .inl hk⟩
    rw [HE.out]
    exact H0.out.below HB2.out
  obtain ⟨k1, k2, k3, hok, k5, k6⟩ := regionN_pos hR0
  have HEU := Lib.hid (show g.down top bottom n s = _ by unfold Gr.down; rw [if_neg hR0])
  generalize hRR : regionN g top bottom n s = R at *
  obtain ⟨t, rfl⟩ : ∃ t : Nat, top = (t : Int) := ⟨top.toNat, by omega⟩
  obtain ⟨b, rfl⟩ : ∃ b : Nat, bottom = (b : Int) := ⟨bottom.toNat, by omega⟩
  have hR1 : 1 ≤ R := by omega
  have hR2 : R ≤ b + 1 - t := by omega
  have htb : t ≤ b := by omega
  have hwf := H0.out.wf
  have hrl := hwf.r2
  have hcl := hwf.c2
  have hll := hwf.li
  have hol := hwf.ol
  have dR : ((R : Int) == 0) = false := beq_eq_false_iff_ne.2 (by omega)
  have dR' : (R == 0) = false := beq_eq_false_iff_ne.2 (by omega)
  clear hRR k1 k2 k6 hR0
  unfold Sty.val
  go_enter Tryz.func34, Tryz.ntmps34
  go_wp2_with fail
  refine HRG.out.mono ?_
  rintro e w2 ⟨rfl, b2⟩
  have HB2 := Lib.hid (hBz.trans (b2.mono (by simp)))
  have HK2 := Lib.hid (blk_below hbk0 b2 (by simp))
  have hs2 : w.heap.size < w2.heap.size := heap_lt HK2.out
  obtain ⟨vr, vo, Lr, Lo, hA0⟩ := H0.out
  have hA2 := hA0.mod (.of_below HB2.out) id id id (fun _ => id)
  have HA2 := Lib.hid hA2
  have hlen := (rows_len hA0).1
  have hleno := (rows_len hA0).2
  obtain ⟨bo, off, c, rfl, hnc, hcm⟩ := ownC_pos hA2.rr.own (by omega)
  have hbot : T bo = 2 := hA2.rr.tag bo rfl
  have hptag : T p = 1 := hA2.tp
  have hbop : bo ≠ p := fun e => by rw [e] at hbot; omega
  have hplt : p < w.heap.size := hA0.lt p (by omega)
  have hbolt : bo < w.heap.size := hA0.lt bo (by omega)
  have hbl : b < Lr.length := by omega
  clear hlen b2 HRG HG hbk0 hBz
  obtain ⟨c0, c1, c2, c3⟩ := gm_cells hA2
  have hone := cats_one (fun x hx => hA2.ca x (List.mem_append_left _ hx))
  have HB3 := HB2
  have HK3 := HK2
  have hA3 := hA2
  have HA3 := HA2
  have hw1 : IntKind.i64.wrap ((b : Int) + 1) = (b : Int) + 1 := wrap64_id _ (by omega) (by omega)
  have hw2 : IntKind.i64.wrap ((t : Int) + (R : Int)) = (t : Int) + (R : Int) := wrap64_id _ (by omega) (by omega)
  have hw3 : IntKind.i64.wrap ((b : Int) + 1 - (R : Int)) = (b : Int) + 1 - (R : Int) := wrap64_id _ (by omega) (by omega)
  obtain ⟨a1, hsl1, ha1⟩ := slice_lh' (P := Tryz.prog) (size := 2) Tryz.underlying57 row_info bo off Lr.length c (t + R) (b + 1) (by omega) (by omega)
  rw [show ((b + 1 : Nat) : Int) = (b : Int) + 1 by omega, show ((t + R : Nat) : Int) = (t : Int) + (R : Int) by omega] at hsl1
  have hsl2 := slice_lh (P := Tryz.prog) (size := 2) Tryz.underlying57 row_info bo off Lr.length c t (b + 1 - R) (by omega) (by omega) (by omega)
  rw [show ((b + 1 - R : Nat) : Int) = (b : Int) + 1 - (R : Int) by omega] at hsl2
  go_upto_region 3 with fail
  go_still_tail 20, (by kernel_rfl)
  change wpList _ _ _ _ _ w2.drew
  have hA4 := hA3.mod (.of_below (Below.refl _ _).drew) id id id (fun _ => id)
  have HK4 := Lib.hid (blk_drew HK3.out)
  have HB4 := Lib.hid HB3.out.drew
  have hs4 : w2.drew.heap.size = w2.heap.size := rfl
  clear c0 c1 c2 c3 hA3 HA3 HK3 HB3 HA2 HK2 hA2
  generalize hw4 : w2.drew = w4 at *
  have HA4 := Lib.hid hA4
  have hM : ((Lr.drop t).take (b + 1 - R - t)).length = b + 1 - R - t := by rw [List.length_take, List.length_drop]; omega
  have hrd2 := ownC_reads (ownC_sub hA4.rr.own t (b + 1 - R) (by omega) (by omega))
  rw [rowVals_drop, rowVals_take] at hrd2
  have hcp := copy_own (P := Tryz.prog) Tryz.underlying57 row_info hA4.rr.own (t + R) (b + 1 - (t + R)) (c - (t + R)) a1 (fun h => ha1 (by omega)) (by omega) hrd2 (fun u hu => hone u (by
    rw [← rowVals_take, ← rowVals_drop] at hu
    exact List.mem_of_mem_drop (List.mem_of_mem_take hu)))
  rw [List.take_of_length_le (by rw [rowVals_len, hM, show Nat.min (b + 1 - R - t) (b + 1 - (t + R)) = b + 1 - R - t by show min (b + 1 - R - t) (b + 1 - (t + R)) = _; omega]; exact Nat.le_refl _)] at hcp
  have ho5 := copy_owned hA4.rr.own (t + R) (rowVals ((Lr.drop t).take (b + 1 - R - t))) (by rw [rowVals_len, hM]; omega)
  rw [← rowVals_put] at ho5
  have g5 := gb_setCells w4 bo (off + (t + R) * 2) (rowVals ((Lr.drop t).take (b + 1 - R - t)))
  have m5 : Mod T (fun x => x = 2) w4 (w4.setCells bo (off + (t + R) * 2) (rowVals ((Lr.drop t).take (b + 1 - R - t)))) := Mod.of_gb g5 (fun k hk => by injection hk with hk; subst hk; exact hbot)
  have hKp5 := (m5.block p (heap_lt hA4.blk) (by rw [hptag]; decide)).trans hA4.blk
  have HRO5 := Lib.hid (hA4.ro.mod m5 (by decide))
  have HCA5 := Lib.hid (show ∀ x ∈ Lr ++ Lo, CAt T (w4.setCells bo (off + (t + R) * 2) (rowVals ((Lr.drop t).take (b + 1 - R - t)))) x from fun x hx => (hA4.ca x hx).mod m5 (fun k _ => by omega))
  have HK5 := Lib.hid (blk_grown HK4.out g5 (by intro e; injection e with e; omega))
  have HW5 := Lib.hid ((Within.of_below (G := own T w) HB4.out).trans (Within.of_gb g5 (fun k hk => by injection hk with hk; subst hk; exact .inl (by omega))))
  have hs5 := size_setCells w4 bo (off + (t + R) * 2) (rowVals ((Lr.drop t).take (b + 1 - R - t)))
  have HO5 := Lib.hid ho5
  have HKP5 := Lib.hid hKp5
  clear g5 m5 hA4 ho5 hKp5 hrd2 HK4 HB4
  generalize w4.setCells bo (off + (t + R) * 2) (rowVals ((Lr.drop t).take (b + 1 - R - t))) = w5 at *
  have c0 : w5.cell? ⟨p, 0, none⟩ = some (.int .i64 g.cols) := blk_cell HKP5.out 0
  have c2 : w5.cell? ⟨p, 2, none⟩ = some (.slice (some ⟨bo, off, none⟩) Lr.length c) := blk_cell HKP5.out 2
  have q0 : w5.cell? ⟨w.heap.size, 0, none⟩ = some (.int .i64 s.fg) := blk_cell HK5.out 0
  have q1 : w5.cell? ⟨w.heap.size, 1, none⟩ = some (.int .i64 s.bg) := blk_cell HK5.out 1
  have q2 : w5.cell? ⟨w.heap.size, 2, none⟩ = some (.int .i64 s.attr) := blk_cell HK5.out 2
  have hsl3 := slice_l (P := Tryz.prog) (size := 2) Tryz.underlying57 row_info bo off Lr.length c t (by omega) (by omega)
  have hs5d : w5.drew.heap.size = w5.heap.size := rfl
  have HO5d := Lib.hid (show OwnC w5.drew 0 2 (.slice (some ⟨bo, off, none⟩) Lr.length c) Lr.length (rowVals (putAt Lr (t + R) ((Lr.drop t).take (b + 1 - R - t)))) from HO5.out)
  have hpl5 : p < w5.heap.size := heap_lt HKP5.out
  have hql5 : w.heap.size < w5.heap.size := heap_lt HK5.out
  have hbo5 : bo < w5.heap.size := by omega
  have hpq : p ≠ w.heap.size := by omega
  have hbq : bo ≠ w.heap.size := by omega
  go_upto_region 4 with fail
  go_region_held3 (fun w' => w'.cell? ⟨p, 0, none⟩ = some (.int .i64 g.cols) ∧ w'.cell? ⟨p, 2, none⟩ = some (.slice (some ⟨bo, off, none⟩) Lr.length c) ∧ w'.cell? ⟨w.heap.size, 0, none⟩ = some (.int .i64 s.fg) ∧ w'.cell? ⟨w.heap.size, 1, none⟩ = some (.int .i64 s.bg) ∧ w'.cell? ⟨w.heap.size, 2, none⟩ = some (.int .i64 s.attr)) (go_keep)
    (first
      | (go_at_call 19
         refine (fresh_any R g.cols s _ (by omega) (by omega)).mono ?_
         rintro e w6 ⟨fv, Lf, rfl, b6, hLf, hRf⟩
         have hLfl : Lf.length = R := by
           have := congrArg List.length hLf
           rw [List.length_map] at this
           rw [this]; unfold freshL; rw [List.length_replicate]
         obtain ⟨fa, fc, rfl⟩ := ownC_sl hRf.own
         have hbk6 := blk_below (blk_drew HK5.out) b6 hql5
         have hkp6 := blk_below (blk_drew HKP5.out) b6 hpl5
         have ho6 := ownC_below HO5d.out b6
         have z0 : w6.cell? ⟨p, 0, none⟩ = some (.int .i64 g.cols) := blk_cell hkp6 0
         have z1 : w6.cell? ⟨p, 2, none⟩ = some (.slice (some ⟨bo, off, none⟩) Lr.length c) := blk_cell hkp6 2
         have z2 : w6.cell? ⟨w.heap.size, 0, none⟩ = some (.int .i64 s.fg) := blk_cell hbk6 0
         have z3 : w6.cell? ⟨w.heap.size, 1, none⟩ = some (.int .i64 s.bg) := blk_cell hbk6 1
         have z4 : w6.cell? ⟨w.heap.size, 2, none⟩ = some (.int .i64 s.attr) := blk_cell hbk6 2
         have hmin : Nat.min Lf.length (Lr.length - t) = Lf.length := by show min Lf.length (Lr.length - t) = _; omega
         have hcp6 := copy_own (P := Tryz.prog) Tryz.underlying57 row_info ho6 t (Lr.length - t) (c - t) ⟨bo, off + t * 2, none⟩ (fun _ => rfl) (by omega) (ownC_reads hRf.own) (rowVals_one Lf (fun x hx => by
           obtain ⟨xa, xc, e⟩ := ownC_sl (hRf.cells x hx)
           exact ⟨xa, _, xc, e⟩))
         rw [hmin, List.take_of_length_le (by rw [rowVals_len]; exact Nat.le_refl _)] at hcp6
         have g7 := gb_setCells w6 bo (off + t * 2) (rowVals Lf)
         have hbk7 := blk_grown hbk6 g7 (by intro e; injection e with e; exact hbq e.symm)
         have hkp7 := blk_grown hkp6 g7 (by intro e; injection e with e; exact hbop e.symm)
         have y0 : (w6.setCells bo (off + t * 2) (rowVals Lf)).cell? ⟨p, 0, none⟩ = some (.int .i64 g.cols) := blk_cell hkp7 0
         have y1 : (w6.setCells bo (off + t * 2) (rowVals Lf)).cell? ⟨p, 2, none⟩ = some (.slice (some ⟨bo, off, none⟩) Lr.length c) := blk_cell hkp7 2
         have y2 : (w6.setCells bo (off + t * 2) (rowVals Lf)).cell? ⟨w.heap.size, 0, none⟩ = some (.int .i64 s.fg) := blk_cell hbk7 0
         have y3 : (w6.setCells bo (off + t * 2) (rowVals Lf)).cell? ⟨w.heap.size, 1, none⟩ = some (.int .i64 s.bg) := blk_cell hbk7 1
         have y4 : (w6.setCells bo (off + t * 2) (rowVals Lf)).cell? ⟨w.heap.size, 2, none⟩ = some (.int .i64 s.attr) := blk_cell hbk7 2
         have HB6 := Lib.hid b6
         have HLf := Lib.hid hLf
         have HRF := Lib.hid hRf
         have HO6 := Lib.hid ho6
         have HKP7 := Lib.hid hkp7
         have HG7 := Lib.hid g7
         have HLL := Lib.hid hLfl
         clear b6 hLf hRf hbk6 hkp6 ho6 hbk7 hkp7 g7 hmin hLfl))
  have hs6 := HB6.out.size
  have hLfl := HLL.out
  have m7 : Mod T (fun x => x = 2) w6 (w6.setCells bo (off + t * 2) (rowVals Lf)) := Mod.of_gb HG7.out (fun k hk => by injection hk with hk; subst hk; exact hbot)
  have hm6 : Mod T (fun _ => False) w5 w6 := Mod.of_below ((Below.refl w5.heap.size w5).drew.trans HB6.out)
  have HCA7 := Lib.hid (show ∀ x ∈ Lr ++ Lo, CAt T (w6.setCells bo (off + t * 2) (rowVals Lf)) x from fun x hx => ((HCA5.out x hx).mod hm6 (fun _ _ => id)).mod m7 (fun k _ => by omega))
  have HRO7 := Lib.hid ((HRO5.out.mod hm6 id).mod m7 (by decide))
  have hrr := copy_owned HO6.out t (rowVals Lf) (by rw [rowVals_len]; omega)
  rw [← rowVals_put] at hrr
  have HRR7 := Lib.hid hrr
  have hfq : ∀ x ∈ Lf, ∃ q, x.1.ownBlock = some q ∧ w5.heap.size ≤ q := fun x hx => by
    obtain ⟨q, e1, _⟩ := HRF.out.ap x hx
    exact ⟨q, e1, (ownC_lt (HRF.out.cells x hx) q e1).1⟩
  have HFQ := Lib.hid hfq
  have HFC7 := Lib.hid (show ∀ x ∈ Lf, OwnC (w6.setCells bo (off + t * 2) (rowVals Lf)) 0 5 x.1 x.2.cells.length (cvals x.2.cells) from fun x hx => ownC_mono (ownC_grown (HRF.out.cells x hx) HG7.out (fun k hk e => by
    obtain ⟨q, e1, e2⟩ := hfq x hx
    rw [e1] at hk; injection hk with hk; injection e with e; omega)) (Nat.zero_le _))
  have HW7 := Lib.hid (((HW5.out.trans (Within.of_below (Below.refl w5.heap.size w5).drew)).trans (Within.of_below HB6.out)).trans (Within.of_gb HG7.out (fun k hk => by injection hk with hk; subst hk; exact .inl (by omega))))
  have hs7 := size_setCells w6 bo (off + t * 2) (rowVals Lf)
  have HND := Lib.hid HRF.out.nd
  have HL0 := Lib.hid hA0
  clear hcp6 y0 y1 y2 y3 y4 z0 z1 z2 z3 z4 m7 hm6 hrr hfq q0 q1 q2 c0 c2 HO5d HO6 HRO5 HCA5 HO5 HB6 HRF HG7 HW5 HK5 HKP5 hA0 hsl3 hcp hsl1 hsl2
  generalize w6.setCells bo (off + t * 2) (rowVals Lf) = w7 at *
  have HU := Lib.hid (dnL_eq Lr Lf t b R htb hbl hR1 hR2 hLfl)
  have HER := Lib.hid (show (dnL Lr t b R Lf).map (·.2) = downRows g.rows t b R g.cols s by
    rw [HU.out]
    unfold downRows
    rw [List.map_append, List.map_append, List.map_append, List.map_take, List.map_take, List.map_drop, List.map_drop, HL0.out.er, HLf.out])
  have HUL := Lib.hid (show (dnL Lr t b R Lf).length = Lr.length by
    unfold dnL
    rw [putAt_len _ _ _ (by rw [putAt_len _ _ _ (by rw [hM]; omega)]; omega), putAt_len _ _ _ (by rw [hM]; omega)])
  have HUM := Lib.hid (show ∀ x ∈ dnL Lr t b R Lf, x ∈ Lr ∨ x ∈ Lf from fun x hx => by
    unfold dnL at hx
    rcases putAt_mem hx with hx | hx
    · rcases putAt_mem hx with hx | hx
      · exact .inl hx
      · exact .inl (List.mem_of_mem_drop (List.mem_of_mem_take hx))
    · exact .inr hx)
  have hszall : w.heap.size ≤ w7.heap.size := by omega
  have hvot : ∀ k, vo.ownBlock = some k → T k = 3 := HL0.out.ro.tag
  have hT0 : ∀ k, T k ≠ 0 → k < w.heap.size := HL0.out.lt
  have hgd : g.down t b n s = ⟨g.cols, g.limit, downRows g.rows t b R g.cols s, g.old⟩ := by
    rw [HEU.out, Int.toNat_natCast, Int.toNat_natCast]
  have hfin : ∃ T', GM T' p w7 (g.down t b n s) ∧ ∀ k, T' k ≠ 0 → own T w k := by
    rw [hgd]
    refine gat_build (vr := .slice (some ⟨bo, off, none⟩) Lr.length c) (vo := vo) (Lr := dnL Lr t b R Lf) (Lo := Lo) hT0 hptag hszall HKP7.out ?_ HRO7.out.own (fun k hk => ?_) (fun k hk => .inl (hvot k hk)) (fun x hx => ?_) ?_ HER.out HL0.out.eo (down_wf hwf t b R s htb (by omega) hR2)
    · rw [HUL.out]; exact HRR7.out
    · simp [Value.ownBlock] at hk
      subst hk
      exact .inl hbot
    · have hold : x ∈ Lr ++ Lo → OwnC w7 0 5 x.1 x.2.cells.length (cvals x.2.cells) ∧ ∃ q, x.1.ownBlock = some q ∧ ((q < w.heap.size ∧ T q = 10 + q) ∨ (w.heap.size ≤ q ∧ vo.ownBlock ≠ some q ∧ (Value.slice (some ⟨bo, off, none⟩) Lr.length c).ownBlock ≠ some q)) := fun hx => by
        have hc := HCA7.out x hx
        obtain ⟨q, e1, e2⟩ := hc.tag
        exact ⟨hc.own, q, e1, .inl ⟨hT0 q (by omega), e2⟩⟩
      have hnewf : x ∈ Lf → OwnC w7 0 5 x.1 x.2.cells.length (cvals x.2.cells) ∧ ∃ q, x.1.ownBlock = some q ∧ ((q < w.heap.size ∧ T q = 10 + q) ∨ (w.heap.size ≤ q ∧ vo.ownBlock ≠ some q ∧ (Value.slice (some ⟨bo, off, none⟩) Lr.length c).ownBlock ≠ some q)) := fun hx => by
        obtain ⟨q, e1, e2⟩ := HFQ.out x hx
        refine ⟨HFC7.out x hx, q, e1, .inr ⟨by omega, fun e => ?_, fun e => ?_⟩⟩
        · have := hT0 q (by rw [hvot q e]; decide); omega
        · simp [Value.ownBlock] at e; omega
      rcases List.mem_append.1 hx with hx | hx
      · rcases HUM.out x hx with h | h
        · exact hold (List.mem_append_left _ h)
        · exact hnewf h
      · exact hold (List.mem_append_right _ hx)
    · rw [HU.out]
      refine dn_nodup Lr Lo Lf t b R w.heap.size htb hR2 HL0.out.nd (fun x hx k hk => ?_) HND.out (fun x hx => ?_)
      · exact (ownC_lt (HL0.out.ca x hx).own k hk).2
      · obtain ⟨q, e1, e2⟩ := HFQ.out x hx
        exact ⟨q, e1, by omega⟩
  have HF := Lib.hid hfin
  clear hfin hgd
  go_wp2_with fail
  go_end0
  exact ⟨rfl, HW7.out, HF.out⟩
end Go.Proofs.YtjclgoiclbkgjaaGreatDoor

/- Walks of package grid: Wrap. -/
namespace Go.Proofs.YtjclgoiclbkgjaaGreatDoor
open Go.RowKit

theorem ownC_cellx {w : World} {base size b off n c : Nat} {xs : List Value} (h : OwnC w base size (.slice (some ⟨b, off, none⟩) n c) n xs) (j : Nat) (hj : j < n * size) :
    w.cell? ⟨b, off + j, none⟩ = xs[j]? ∧ w.frozen? ⟨b, off + j, none⟩ = false := by
  obtain ⟨e1, h2⟩ := h
  rcases h2 with ⟨e, _⟩ | ⟨b', off', c', e, hb, hbs, hnc, hcm, hcells, hxs⟩
  · simp at e
  · simp only [Value.slice.injEq, Option.some.injEq, Addr.mk.injEq] at e
    obtain ⟨⟨rfl, rfl, _⟩, _, rfl⟩ := e
    have hc : j < c * size := Nat.lt_of_lt_of_le hj (Nat.mul_le_mul_right _ hnc)
    refine ⟨?_, (hcells j hc).2⟩
    have hjx : j < xs.length := by rw [e1]; exact hj
    rw [hxs j _ (List.getElem?_eq_getElem hjx), List.getElem?_eq_getElem hjx]
theorem rowVals_split (A B : List (Value × Rw)) (x : Value × Rw) : rowVals (A ++ x :: B) = (rowVals A ++ [x.1]) ++ .bool x.2.wrap :: rowVals B := by
  rw [rowVals_append, List.append_assoc]
  rfl
theorem rowVals_wrap (L : List (Value × Rw)) (k : Nat) (hk : k < L.length) (is : Bool) : putAt (rowVals L) (k * 2 + 1) [.bool is] = rowVals (L.set k (L[k].1, { L[k].2 with wrap := is })) := by
  have e : L = L.take k ++ L[k] :: L.drop (k + 1) := by
    rw [List.getElem_cons_drop, List.take_append_drop]
  have hl : (L.take k).length = k := by rw [List.length_take]; omega
  rw [List.set_eq_take_append_cons_drop, if_pos hk]
  generalize hx : L[k] = x at *
  generalize L.take k = A at *
  generalize L.drop (k + 1) = B at *
  rw [e, rowVals_split, rowVals_split, putAt_mid _ _ _ _ _ (by rw [List.length_append, rowVals_len, hl]; rfl)]
/-- A row's mark is turned. -/
theorem GAt.rewrap {T : Nat → Nat} {p : Nat} {vr vo : Value} {Lr Lo : List (Value × Rw)} {w w' : World} {g : Gr} (h : GAt T p vr vo Lr Lo w g) (k : Nat) (hk : k < Lr.length) (is : Bool) (m : Mod T (fun t => t = 2) w w')
    (ho : OwnC w' 0 2 vr Lr.length (rowVals (Lr.set k (Lr[k].1, { Lr[k].2 with wrap := is })))) : GM T p w' { g with rows := g.rows.set k { g.rows.getD k noR with wrap := is } } := by
  have hr : g.rows.getD k noR = Lr[k].2 := by
    rw [← h.er, List.getD_eq_getElem?_getD, List.getElem?_map, List.getElem?_eq_getElem hk]; rfl
  have hset : (Lr.set k (Lr[k].1, { Lr[k].2 with wrap := is })).map (·.1.ownBlock) = Lr.map (·.1.ownBlock) := by
    rw [List.map_set]
    apply List.ext_getElem?
    intro j
    by_cases hj : j = k
    · subst hj
      rw [List.getElem?_set_self (by simpa using hk), List.getElem?_map, List.getElem?_eq_getElem hk]; rfl
    · rw [List.getElem?_set_ne (fun e => hj e.symm)]
  refine ⟨vr, vo, Lr.set k (Lr[k].1, { Lr[k].2 with wrap := is }), Lo, ⟨fun k' hk' => Nat.lt_of_lt_of_le (h.lt k' hk') m.size, ?_, h.tp, ?_, h.ro.mod m (by decide), ?_, h.eo, fun x hx => ?_, ?_, ?_⟩⟩
  · exact (m.block p (heap_lt h.blk) (by rw [h.tp]; decide)).trans h.blk
  · rw [List.length_set]
    exact ⟨ho, h.rr.tag⟩
  · rw [List.map_set, h.er, hr]
  · rcases List.mem_append.1 hx with hx | hx
    · rcases List.mem_or_eq_of_mem_set hx with hx | rfl
      · exact (h.ca x (List.mem_append_left _ hx)).mod m (fun q hq => by omega)
      · have := (h.ca Lr[k] (List.mem_append_left _ (List.getElem_mem hk))).mod m (fun q hq => by omega)
        exact ⟨this.own, this.tag⟩
    · exact (h.ca x (List.mem_append_right _ hx)).mod m (fun q hq => by omega)
  · rw [List.map_append, hset, ← List.map_append]; exact h.nd
  · have wf := h.wf
    refine ⟨wf.c1, wf.c2, ?_, ?_, wf.li, wf.ol, fun r hr' => ?_⟩
    · show 1 ≤ (g.rows.set k _).length
      rw [List.length_set]; exact wf.r1
    · show (g.rows.set k _).length ≤ 120
      rw [List.length_set]; exact wf.r2
    · have hr2 : r ∈ g.rows.set k { g.rows.getD k noR with wrap := is } ++ g.old := hr'
      rcases List.mem_append.1 hr2 with hm | hm
      · rcases List.mem_or_eq_of_mem_set hm with hm | rfl
        · exact wf.ce r (List.mem_append_left _ hm)
        · rw [hr]
          have hmem : Lr[k].2 ∈ g.rows := by rw [← h.er]; exact List.mem_map_of_mem (List.getElem_mem hk)
          exact wf.ce Lr[k].2 (List.mem_append_left _ hmem)
      · exact wf.ce r (List.mem_append_right _ hm)
set_option maxRecDepth 100000 in
theorem wrap_any {T : Nat → Nat} {p : Nat} {w : World} {g : Gr} (h : GM T p w g) (y : Int) (is : Bool) :
    Calls Tryz.prog 14 #[.pointer (some ⟨p, 0, none⟩), .int .i64 y, .bool is] w fun e w' => e = .returned (.tuple #[]) ∧ Within (own T w) w w' ∧ GM T p w' (g.setWrap y is) := by
  have H0 := Lib.hid h
  obtain ⟨vr, vo, Lr, Lo, h⟩ := h
  obtain ⟨c0, c1, c2, c3⟩ := gm_cells h
  have hl := ownC_ln Tryz.underlying57 h.rr.own
  have hlen := (rows_len h).1
  by_cases hy : 0 ≤ y ∧ y < (g.rows.length : Int)
  · obtain ⟨k, rfl⟩ : ∃ k : Nat, y = (k : Int) := ⟨y.toNat, by omega⟩
    have hE := Lib.hid (show g.setWrap k is = { g with rows := g.rows.set k { g.rows.getD k noR with wrap := is } } by
      unfold Gr.setWrap; rw [if_pos hy, Int.toNat_natCast])
    have hkl : k < Lr.length := by omega
    obtain ⟨b, off, c, rfl, hnc, hcm⟩ := ownC_pos h.rr.own (by omega)
    have hix := idx_at (P := Tryz.prog) (size := 2) Tryz.underlying57 row_info b off Lr.length c k hkl
    obtain ⟨r1, f1⟩ := ownC_cellx h.rr.own (k * 2 + 1) (by omega)
    rw [rowVals_at Lr k hkl 1 (by decide), ← Nat.add_assoc] at r1
    rw [← Nat.add_assoc] at f1
    replace r1 : w.cell? ⟨b, off + k * 2 + 1, none⟩ = some (.bool Lr[k].2.wrap) := r1
    have d1 : decide (0 ≤ (k : Int)) = true := decide_eq_true (by omega)
    have d2 : decide ((k : Int) < (Lr.length : Int)) = true := decide_eq_true (by omega)
    have d2' : decide (k < Lr.length) = true := decide_eq_true hkl
    have hP := ownC_put h.rr.own (k * 2 + 1) [.bool is] (by simp; omega)
    rw [rowVals_wrap Lr k hkl] at hP
    change OwnC (w.setCell ⟨b, off + (k * 2 + 1), none⟩ (.bool is)) _ _ _ _ _ at hP
    rw [← Nat.add_assoc] at hP
    have g1 : w.grownBy (w.setCell ⟨b, off + k * 2 + 1, none⟩ (.bool is)) (some b) := gb_set (gb_refl _ _) _ _
    have tb : T b = 2 := h.rr.tag b rfl
    have HM := Lib.hid (h.rewrap k hkl is (Mod.of_gb g1 (fun q hq => by injection hq with hq; rw [← hq]; exact tb)) hP)
    have HW := Lib.hid (show Within (own T w) w (w.setCell ⟨b, off + k * 2 + 1, none⟩ (.bool is)) from Within.of_gb g1 (fun q hq => by injection hq with hq; rw [← hq]; exact .inl (by rw [tb]; decide)))
    clear h hP g1 hlen hy
    generalize Lr[k].2.wrap = bo at *
    go_enter Tryz.func14, Tryz.ntmps14
    go_wp2_with fail
    go_end0
    exact ⟨rfl, HW.out, by rw [hE.out]; exact HM.out⟩
  · have hE := Lib.hid (show g.setWrap y is = g by unfold Gr.setWrap; rw [if_neg hy])
    rw [hlen] at hl
    clear h
    by_cases h0 : 0 ≤ y
    · have d1 : decide (0 ≤ y) = true := decide_eq_true h0
      have d2 : decide (y < (g.rows.length : Int)) = false := decide_eq_false (by omega)
      go_enter Tryz.func14, Tryz.ntmps14
      go_wp2_with fail
      go_end0
      exact ⟨rfl, Within.refl _ _, by rw [hE.out]; exact H0.out⟩
    · have d1 : decide (0 ≤ y) = false := decide_eq_false h0
      go_enter Tryz.func14, Tryz.ntmps14
      go_wp2_with fail
      go_end0
      exact ⟨rfl, Within.refl _ _, by rw [hE.out]; exact H0.out⟩
end Go.Proofs.YtjclgoiclbkgjaaGreatDoor
