/- Package grid, texts laid together: G14 G15 RegL G17 F2 Dm S1 S2 R1. -/
import Derived.Test.YtlfdgkiliegaiaaGreatDoorY4
import Derived.Test.YtlfdgkiliegaiaaGreatDoorY1
import Derived.Deep.RegionHeld3
import Derived.Deep.DrawnRows
import Derived.Laws.StructEq
import Derived.Laws.EntriesVeiled
import Derived.Deep.DeepCutAuto
import Derived.Test.YtlfdgkiliegaiaaGreatDoorY3
import Derived.Deep.CutBlock
import Derived.Laws.ResultCell
import Derived.Laws.Bits64b
/- Walks of package grid: Down. -/
namespace Go.Proofs.YtlfdgkiliegaiaaGreatDoor
open Go.RowKit

def dnL {α : Type} (L : List α) (t b n : Nat) (F : List α) : List α := putAt (putAt L (t + n) ((L.drop t).take (b + 1 - n - t))) t F
theorem dnL_eq {α : Type} (L F : List α) (t b n : Nat) (h1 : t ≤ b) (h2 : b < L.length) (_h3 : 1 ≤ n) (h4 : n ≤ b + 1 - t) (hF : F.length = n) : dnL L t b n F = L.take t ++ F ++ (L.drop t).take (b + 1 - t - n) ++ L.drop (b + 1) := by
  unfold dnL
  have e : b + 1 - n - t = b + 1 - t - n := by omega
  rw [e]
  have hM : ((L.drop t).take (b + 1 - t - n)).length = b + 1 - t - n := by rw [List.length_take, List.length_drop]; omega
  generalize (L.drop t).take (b + 1 - t - n) = M at *
  have htn : (L.take (t + n)).length = t + n := by rw [List.length_take]; omega
  unfold putAt
  rw [hM, hF, show t + n + (b + 1 - t - n) = b + 1 by omega]
  have e1 : (L.take (t + n) ++ M ++ L.drop (b + 1)).take t = L.take t := by
    rw [List.take_append_of_le_length (by rw [List.length_append, htn]; omega), List.take_append_of_le_length (by omega), List.take_take, Nat.min_eq_left (by omega)]
  have e2 : (L.take (t + n) ++ M ++ L.drop (b + 1)).drop (t + n) = M ++ L.drop (b + 1) := by
    rw [List.append_assoc, List.drop_append, List.drop_eq_nil_of_le (by omega), List.nil_append, htn, Nat.sub_self, List.drop_zero]
  rw [e1, e2]
  simp
theorem dn_nodup (Lr Lo Lf : List (Value × Rw)) (t b n B : Nat) (h1 : t ≤ b) (h4 : n ≤ b + 1 - t) (hnd : ((Lr ++ Lo).map (·.1.ownBlock)).Nodup) (hlt : ∀ x ∈ Lr ++ Lo, ∀ k, x.1.ownBlock = some k → k < B)
    (hf : (Lf.map (·.1.ownBlock)).Nodup) (hfB : ∀ x ∈ Lf, ∃ k, x.1.ownBlock = some k ∧ B ≤ k) :
    (((Lr.take t ++ Lf ++ (Lr.drop t).take (b + 1 - t - n) ++ Lr.drop (b + 1)) ++ Lo).map (·.1.ownBlock)).Nodup := by
  have hs : (Lr.take t ++ (Lr.drop t).take (b + 1 - t - n) ++ Lr.drop (b + 1)).Sublist Lr := by
    have e2 : (Lr.drop t) = (Lr.drop t).take (b + 1 - t) ++ Lr.drop (b + 1) := by
      have := (List.take_append_drop (b + 1 - t) (Lr.drop t)).symm
      rwa [List.drop_drop, show t + (b + 1 - t) = b + 1 by omega] at this
    have e1 : Lr = Lr.take t ++ ((Lr.drop t).take (b + 1 - t) ++ Lr.drop (b + 1)) := by rw [← e2, List.take_append_drop]
    have hsub : ((Lr.drop t).take (b + 1 - t - n)).Sublist ((Lr.drop t).take (b + 1 - t)) := by
      have : (Lr.drop t).take (b + 1 - t - n) = ((Lr.drop t).take (b + 1 - t)).take (b + 1 - t - n) := by rw [List.take_take, Nat.min_eq_left (by omega)]
      rw [this]; exact List.take_sublist _ _
    have hfin : (Lr.take t ++ ((Lr.drop t).take (b + 1 - t - n) ++ Lr.drop (b + 1))).Sublist (Lr.take t ++ ((Lr.drop t).take (b + 1 - t) ++ Lr.drop (b + 1))) := List.Sublist.append_left (List.Sublist.append_right hsub _) _
    rw [← e1] at hfin
    rwa [List.append_assoc]
  generalize hA : Lr.take t = A at *
  generalize hM : (Lr.drop t).take (b + 1 - t - n) = M at *
  generalize hD : Lr.drop (b + 1) = D at *
  have n2 : (((A ++ M ++ D) ++ Lo).map (·.1.ownBlock)).Nodup := hnd.sublist ((List.Sublist.append_right hs _).map _)
  have p2 : ((A ++ Lf ++ M ++ D) ++ Lo).Perm (((A ++ M ++ D) ++ Lo) ++ Lf) := by
    have q1 : ((A ++ Lf ++ M ++ D) ++ Lo) = A ++ (Lf ++ (M ++ D ++ Lo)) := by simp
    have q2 : (((A ++ M ++ D) ++ Lo) ++ Lf) = A ++ ((M ++ D ++ Lo) ++ Lf) := by simp
    rw [q1, q2]
    exact List.Perm.append_left _ List.perm_append_comm
  refine (p2.map _).nodup_iff.2 ?_
  rw [List.map_append, List.nodup_append]
  refine ⟨n2, hf, fun a ha c hc e => ?_⟩
  obtain ⟨x, hx, rfl⟩ := List.mem_map.1 ha
  obtain ⟨y, hy, rfl⟩ := List.mem_map.1 hc
  obtain ⟨k, hk, hkB⟩ := hfB y hy
  have hx' : x ∈ Lr ++ Lo := by
    rcases List.mem_append.1 hx with h | h
    · exact List.mem_append_left _ (hs.subset h)
    · exact List.mem_append_right _ h
  have := hlt x hx' k (by rw [e]; exact hk)
  omega
theorem down_wf {g : Gr} (h : g.WF) (t b n : Nat) (s : Sty) (h1 : t ≤ b) (h2 : b < g.rows.length) (h4 : n ≤ b + 1 - t) :
    (⟨g.cols, g.limit, downRows g.rows t b n g.cols s, g.old⟩ : Gr).WF := by
  refine ⟨h.c1, h.c2, by show 1 ≤ (downRows _ _ _ _ _ _).length; rw [down_len h1 h2 h4]; exact h.r1, by show (downRows _ _ _ _ _ _).length ≤ 120; rw [down_len h1 h2 h4]; exact h.r2, h.li, h.ol, fun r hr => ?_⟩
  have hf : ∀ r ∈ freshL n g.cols s, r.cells.length = g.cols ∧ ∀ c ∈ r.cells, c.Ok := fun r hr => by
    rw [List.eq_of_mem_replicate hr]
    refine ⟨List.length_replicate, fun c hc => ?_⟩
    rw [List.eq_of_mem_replicate hc]; exact blank_ok s
  rcases List.mem_append.1 hr with hr | hr
  · have hr' : r ∈ downRows g.rows t b n g.cols s := hr
    unfold downRows at hr'
    rcases List.mem_append.1 hr' with hr' | hr'
    · rcases List.mem_append.1 hr' with hr' | hr'
      · rcases List.mem_append.1 hr' with hr' | hr'
        · exact h.ce r (List.mem_append_left _ (List.mem_of_mem_take hr'))
        · exact hf r hr'
      · exact h.ce r (List.mem_append_left _ (List.mem_of_mem_drop (List.mem_of_mem_take hr')))
    · exact h.ce r (List.mem_append_left _ (List.mem_of_mem_drop hr'))
  · exact h.ce r (List.mem_append_right _ hr)
set_option maxRecDepth 100000 in
set_option maxHeartbeats 8000000 in
theorem down_any {T : Nat → Nat} {p : Nat} {w : World} {g : Gr} (h : GM T p w g) (top bottom n : Int) (s : Sty) (hs : RightIn w s) :
    Calls Tryz.prog 279 #[.pointer (some ⟨p, 0, none⟩), .int .i64 top, .int .i64 bottom, .int .i64 n, s.val] w fun e w' => e = .returned (.tuple #[]) ∧ Within (own T w) w w' ∧ ∃ T', GM T' p w' (g.down top bottom n s) ∧ ∀ k, T' k ≠ 0 → own T w k := by
  have hBz := Below.alloc (Below.refl w.heap.size w) (Nat.le_refl _) (.cells #[.int .i64 s.fg, .int .i64 s.bg, .int .i64 s.attr] 35)
  have hbk0 := blk_new w (.cells #[.int .i64 s.fg, .int .i64 s.bg, .int .i64 s.attr] 35)
  have H0 := Lib.hid h
  have HG := Lib.hid (h.below hBz)
  clear h
  have HRG := Lib.hid (region_any HG.out top bottom n s (hs.below hBz))
  unfold Sty.val at HRG
  by_cases hR0 : regionN g top bottom n s = 0
  · have HE := Lib.hid (show g.down top bottom n s = g by unfold Gr.down; rw [if_pos hR0])
    rw [hR0] at HRG
    unfold Sty.val
    go_enter Tryz.func279, Tryz.ntmps279
    go_wp2_with fail
    refine HRG.out.mono ?_
    rintro e w2 ⟨rfl, b2⟩
    have HB2 := Lib.hid (hBz.trans (b2.mono (by simp)))
    clear b2
    go_wp2_with fail
    refine ret0w rfl rfl ⟨rfl, Within.of_below HB2.out, T, ?_, fun k hk => .inl hk⟩
    rw [HE.out]
    exact H0.out.below HB2.out
  obtain ⟨k1, k2, k3, hok, k5, k6⟩ := regionN_pos hR0
  have HEU := Lib.hid (show g.down top bottom n s = _ by unfold Gr.down; rw [if_neg hR0])
  generalize hRR : regionN g top bottom n s = R at *
  obtain ⟨t, rfl⟩ : ∃ t : Nat, top = (t : Int) := ⟨top.toNat, by omega⟩
  obtain ⟨b, rfl⟩ : ∃ b : Nat, bottom = (b : Int) := ⟨bottom.toNat, by omega⟩
  have hR1 : 1 ≤ R := by omega
  have hR2 : R ≤ b + 1 - t := by omega
  have htb : t ≤ b := by omega
  have hwf := H0.out.wf
  have hrl := hwf.r2
  have hcl := hwf.c2
  have hll := hwf.li
  have hol := hwf.ol
  have dR : ((R : Int) == 0) = false := beq_eq_false_iff_ne.2 (by omega)
  have dR' : (R == 0) = false := beq_eq_false_iff_ne.2 (by omega)
  clear hRR k1 k2 k6 hR0
  unfold Sty.val
  go_enter Tryz.func279, Tryz.ntmps279
  go_wp2_with fail
  refine HRG.out.mono ?_
  rintro e w2 ⟨rfl, b2⟩
  have HB2 := Lib.hid (hBz.trans (b2.mono (by simp)))
  have HK2 := Lib.hid (blk_below hbk0 b2 (by simp))
  have hs2 : w.heap.size < w2.heap.size := heap_lt HK2.out
  obtain ⟨vr, vo, Lr, Lo, hA0⟩ := H0.out
  have hA2 := hA0.mod (.of_below HB2.out) id id id (fun _ => id)
  have HA2 := Lib.hid hA2
  have hlen := (rows_len hA0).1
  have hleno := (rows_len hA0).2
  obtain ⟨bo, off, c, rfl, hnc, hcm⟩ := ownC_pos hA2.rr.own (by omega)
  have hbot : T bo = 2 := hA2.rr.tag bo rfl
  have hptag : T p = 1 := hA2.tp
  have hbop : bo ≠ p := fun e => by rw [e] at hbot; omega
  have hplt : p < w.heap.size := hA0.lt p (by omega)
  have hbolt : bo < w.heap.size := hA0.lt bo (by omega)
  have hbl : b < Lr.length := by omega
  clear hlen b2 HRG HG hbk0 hBz
  obtain ⟨c0, c1, c2, c3⟩ := gm_cells hA2
  have hone := cats_one (fun x hx => hA2.ca x (List.mem_append_left _ hx))
  have HB3 := HB2
  have HK3 := HK2
  have hA3 := hA2
  have HA3 := HA2
  have hw1 : IntKind.i64.wrap ((b : Int) + 1) = (b : Int) + 1 := wrap64_id _ (by omega) (by omega)
  have hw2 : IntKind.i64.wrap ((t : Int) + (R : Int)) = (t : Int) + (R : Int) := wrap64_id _ (by omega) (by omega)
  have hw3 : IntKind.i64.wrap ((b : Int) + 1 - (R : Int)) = (b : Int) + 1 - (R : Int) := wrap64_id _ (by omega) (by omega)
  obtain ⟨a1, hsl1, ha1⟩ := slice_lh' (P := Tryz.prog) (size := 2) Tryz.underlying126 row_info bo off Lr.length c (t + R) (b + 1) (by omega) (by omega)
  rw [show ((b + 1 : Nat) : Int) = (b : Int) + 1 by omega, show ((t + R : Nat) : Int) = (t : Int) + (R : Int) by omega] at hsl1
  have hsl2 := slice_lh (P := Tryz.prog) (size := 2) Tryz.underlying126 row_info bo off Lr.length c t (b + 1 - R) (by omega) (by omega) (by omega)
  rw [show ((b + 1 - R : Nat) : Int) = (b : Int) + 1 - (R : Int) by omega] at hsl2
  go_upto_region 3 with fail
  go_still_tail 20, (by kernel_rfl)
  change wpList _ _ _ _ _ w2.drew
  have hA4 := hA3.mod (.of_below (Below.refl _ _).drew) id id id (fun _ => id)
  have HK4 := Lib.hid (blk_drew HK3.out)
  have HB4 := Lib.hid HB3.out.drew
  have hs4 : w2.drew.heap.size = w2.heap.size := rfl
  clear c0 c1 c2 c3 hA3 HA3 HK3 HB3 HA2 HK2 hA2
  generalize hw4 : w2.drew = w4 at *
  have HA4 := Lib.hid hA4
  have hM : ((Lr.drop t).take (b + 1 - R - t)).length = b + 1 - R - t := by rw [List.length_take, List.length_drop]; omega
  have hrd2 := ownC_reads (ownC_sub hA4.rr.own t (b + 1 - R) (by omega) (by omega))
  rw [rowVals_drop, rowVals_take] at hrd2
  have hcp := copy_own (P := Tryz.prog) Tryz.underlying126 row_info hA4.rr.own (t + R) (b + 1 - (t + R)) (c - (t + R)) a1 (fun h => ha1 (by omega)) (by omega) hrd2 (fun u hu => hone u (by
    rw [← rowVals_take, ← rowVals_drop] at hu
    exact List.mem_of_mem_drop (List.mem_of_mem_take hu)))
  rw [List.take_of_length_le (by rw [rowVals_len, hM, show Nat.min (b + 1 - R - t) (b + 1 - (t + R)) = b + 1 - R - t by show min (b + 1 - R - t) (b + 1 - (t + R)) = _; omega]; exact Nat.le_refl _)] at hcp
  have ho5 := copy_owned hA4.rr.own (t + R) (rowVals ((Lr.drop t).take (b + 1 - R - t))) (by rw [rowVals_len, hM]; omega)
  rw [← rowVals_put] at ho5
  have g5 := gb_setCells w4 bo (off + (t + R) * 2) (rowVals ((Lr.drop t).take (b + 1 - R - t)))
  have m5 : Mod T (fun x => x = 2) w4 (w4.setCells bo (off + (t + R) * 2) (rowVals ((Lr.drop t).take (b + 1 - R - t)))) := Mod.of_gb g5 (fun k hk => by injection hk with hk; subst hk; exact hbot)
  have hKp5 := (m5.block p (heap_lt hA4.blk) (by rw [hptag]; decide)).trans hA4.blk
  have HRO5 := Lib.hid (hA4.ro.mod m5 (by decide))
  have HCA5 := Lib.hid (show ∀ x ∈ Lr ++ Lo, CAt T (w4.setCells bo (off + (t + R) * 2) (rowVals ((Lr.drop t).take (b + 1 - R - t)))) x from fun x hx => (hA4.ca x hx).mod m5 (fun k _ => by omega))
  have HK5 := Lib.hid (blk_grown HK4.out g5 (by intro e; injection e with e; omega))
  have HW5 := Lib.hid ((Within.of_below (G := own T w) HB4.out).trans (Within.of_gb g5 (fun k hk => by injection hk with hk; subst hk; exact .inl (by omega))))
  have hs5 := size_setCells w4 bo (off + (t + R) * 2) (rowVals ((Lr.drop t).take (b + 1 - R - t)))
  have HO5 := Lib.hid ho5
  have HKP5 := Lib.hid hKp5
  clear g5 m5 hA4 ho5 hKp5 hrd2 HK4 HB4
  generalize w4.setCells bo (off + (t + R) * 2) (rowVals ((Lr.drop t).take (b + 1 - R - t))) = w5 at *
  have c0 : w5.cell? ⟨p, 0, none⟩ = some (.int .i64 g.cols) := blk_cell HKP5.out 0
  have c2 : w5.cell? ⟨p, 2, none⟩ = some (.slice (some ⟨bo, off, none⟩) Lr.length c) := blk_cell HKP5.out 2
  have q0 : w5.cell? ⟨w.heap.size, 0, none⟩ = some (.int .i64 s.fg) := blk_cell HK5.out 0
  have q1 : w5.cell? ⟨w.heap.size, 1, none⟩ = some (.int .i64 s.bg) := blk_cell HK5.out 1
  have q2 : w5.cell? ⟨w.heap.size, 2, none⟩ = some (.int .i64 s.attr) := blk_cell HK5.out 2
  have hsl3 := slice_l (P := Tryz.prog) (size := 2) Tryz.underlying126 row_info bo off Lr.length c t (by omega) (by omega)
  have hs5d : w5.drew.heap.size = w5.heap.size := rfl
  have HO5d := Lib.hid (show OwnC w5.drew 0 2 (.slice (some ⟨bo, off, none⟩) Lr.length c) Lr.length (rowVals (putAt Lr (t + R) ((Lr.drop t).take (b + 1 - R - t)))) from HO5.out)
  have hpl5 : p < w5.heap.size := heap_lt HKP5.out
  have hql5 : w.heap.size < w5.heap.size := heap_lt HK5.out
  have hbo5 : bo < w5.heap.size := by omega
  have hpq : p ≠ w.heap.size := by omega
  have hbq : bo ≠ w.heap.size := by omega
  go_upto_region 4 with fail
  go_region_held3 (fun w' => w'.cell? ⟨p, 0, none⟩ = some (.int .i64 g.cols) ∧ w'.cell? ⟨p, 2, none⟩ = some (.slice (some ⟨bo, off, none⟩) Lr.length c) ∧ w'.cell? ⟨w.heap.size, 0, none⟩ = some (.int .i64 s.fg) ∧ w'.cell? ⟨w.heap.size, 1, none⟩ = some (.int .i64 s.bg) ∧ w'.cell? ⟨w.heap.size, 2, none⟩ = some (.int .i64 s.attr)) (go_keep)
    (first
      | (go_at_call 83
         refine (fresh_any R g.cols s _ (by omega) (by omega)).mono ?_
         rintro e w6 ⟨fv, Lf, rfl, b6, hLf, hRf⟩
         have hLfl : Lf.length = R := by
           have := congrArg List.length hLf
           rw [List.length_map] at this
           rw [this]; unfold freshL; rw [List.length_replicate]
         obtain ⟨fa, fc, rfl⟩ := ownC_sl hRf.own
         have hbk6 := blk_below (blk_drew HK5.out) b6 hql5
         have hkp6 := blk_below (blk_drew HKP5.out) b6 hpl5
         have ho6 := ownC_below HO5d.out b6
         have z0 : w6.cell? ⟨p, 0, none⟩ = some (.int .i64 g.cols) := blk_cell hkp6 0
         have z1 : w6.cell? ⟨p, 2, none⟩ = some (.slice (some ⟨bo, off, none⟩) Lr.length c) := blk_cell hkp6 2
         have z2 : w6.cell? ⟨w.heap.size, 0, none⟩ = some (.int .i64 s.fg) := blk_cell hbk6 0
         have z3 : w6.cell? ⟨w.heap.size, 1, none⟩ = some (.int .i64 s.bg) := blk_cell hbk6 1
         have z4 : w6.cell? ⟨w.heap.size, 2, none⟩ = some (.int .i64 s.attr) := blk_cell hbk6 2
         have hmin : Nat.min Lf.length (Lr.length - t) = Lf.length := by show min Lf.length (Lr.length - t) = _; omega
         have hcp6 := copy_own (P := Tryz.prog) Tryz.underlying126 row_info ho6 t (Lr.length - t) (c - t) ⟨bo, off + t * 2, none⟩ (fun _ => rfl) (by omega) (ownC_reads hRf.own) (rowVals_one Lf (fun x hx => by
           obtain ⟨xa, xc, e⟩ := ownC_sl (hRf.cells x hx)
           exact ⟨xa, _, xc, e⟩))
         rw [hmin, List.take_of_length_le (by rw [rowVals_len]; exact Nat.le_refl _)] at hcp6
         have g7 := gb_setCells w6 bo (off + t * 2) (rowVals Lf)
         have hbk7 := blk_grown hbk6 g7 (by intro e; injection e with e; exact hbq e.symm)
         have hkp7 := blk_grown hkp6 g7 (by intro e; injection e with e; exact hbop e.symm)
         have y0 : (w6.setCells bo (off + t * 2) (rowVals Lf)).cell? ⟨p, 0, none⟩ = some (.int .i64 g.cols) := blk_cell hkp7 0
         have y1 : (w6.setCells bo (off + t * 2) (rowVals Lf)).cell? ⟨p, 2, none⟩ = some (.slice (some ⟨bo, off, none⟩) Lr.length c) := blk_cell hkp7 2
         have y2 : (w6.setCells bo (off + t * 2) (rowVals Lf)).cell? ⟨w.heap.size, 0, none⟩ = some (.int .i64 s.fg) := blk_cell hbk7 0
         have y3 : (w6.setCells bo (off + t * 2) (rowVals Lf)).cell? ⟨w.heap.size, 1, none⟩ = some (.int .i64 s.bg) := blk_cell hbk7 1
         have y4 : (w6.setCells bo (off + t * 2) (rowVals Lf)).cell? ⟨w.heap.size, 2, none⟩ = some (.int .i64 s.attr) := blk_cell hbk7 2
         have HB6 := Lib.hid b6
         have HLf := Lib.hid hLf
         have HRF := Lib.hid hRf
         have HO6 := Lib.hid ho6
         have HKP7 := Lib.hid hkp7
         have HG7 := Lib.hid g7
         have HLL := Lib.hid hLfl
         clear b6 hLf hRf hbk6 hkp6 ho6 hbk7 hkp7 g7 hmin hLfl))
  have hs6 := HB6.out.size
  have hLfl := HLL.out
  have m7 : Mod T (fun x => x = 2) w6 (w6.setCells bo (off + t * 2) (rowVals Lf)) := Mod.of_gb HG7.out (fun k hk => by injection hk with hk; subst hk; exact hbot)
  have hm6 : Mod T (fun _ => False) w5 w6 := Mod.of_below ((Below.refl w5.heap.size w5).drew.trans HB6.out)
  have HCA7 := Lib.hid (show ∀ x ∈ Lr ++ Lo, CAt T (w6.setCells bo (off + t * 2) (rowVals Lf)) x from fun x hx => ((HCA5.out x hx).mod hm6 (fun _ _ => id)).mod m7 (fun k _ => by omega))
  have HRO7 := Lib.hid ((HRO5.out.mod hm6 id).mod m7 (by decide))
  have hrr := copy_owned HO6.out t (rowVals Lf) (by rw [rowVals_len]; omega)
  rw [← rowVals_put] at hrr
  have HRR7 := Lib.hid hrr
  have hfq : ∀ x ∈ Lf, ∃ q, x.1.ownBlock = some q ∧ w5.heap.size ≤ q := fun x hx => by
    obtain ⟨q, e1, _⟩ := HRF.out.ap x hx
    exact ⟨q, e1, (ownC_lt (HRF.out.cells x hx) q e1).1⟩
  have HFQ := Lib.hid hfq
  have HFC7 := Lib.hid (show ∀ x ∈ Lf, OwnC (w6.setCells bo (off + t * 2) (rowVals Lf)) 0 5 x.1 x.2.cells.length (cvals x.2.cells) from fun x hx => ownC_mono (ownC_grown (HRF.out.cells x hx) HG7.out (fun k hk e => by
    obtain ⟨q, e1, e2⟩ := hfq x hx
    rw [e1] at hk; injection hk with hk; injection e with e; omega)) (Nat.zero_le _))
  have HW7 := Lib.hid (((HW5.out.trans (Within.of_below (Below.refl w5.heap.size w5).drew)).trans (Within.of_below HB6.out)).trans (Within.of_gb HG7.out (fun k hk => by injection hk with hk; subst hk; exact .inl (by omega))))
  have hs7 := size_setCells w6 bo (off + t * 2) (rowVals Lf)
  have HND := Lib.hid HRF.out.nd
  have HL0 := Lib.hid hA0
  clear hcp6 y0 y1 y2 y3 y4 z0 z1 z2 z3 z4 m7 hm6 hrr hfq q0 q1 q2 c0 c2 HO5d HO6 HRO5 HCA5 HO5 HB6 HRF HG7 HW5 HK5 HKP5 hA0 hsl3 hcp hsl1 hsl2
  generalize w6.setCells bo (off + t * 2) (rowVals Lf) = w7 at *
  have HU := Lib.hid (dnL_eq Lr Lf t b R htb hbl hR1 hR2 hLfl)
  have HER := Lib.hid (show (dnL Lr t b R Lf).map (·.2) = downRows g.rows t b R g.cols s by
    rw [HU.out]
    unfold downRows
    rw [List.map_append, List.map_append, List.map_append, List.map_take, List.map_take, List.map_drop, List.map_drop, HL0.out.er, HLf.out])
  have HUL := Lib.hid (show (dnL Lr t b R Lf).length = Lr.length by
    unfold dnL
    rw [putAt_len _ _ _ (by rw [putAt_len _ _ _ (by rw [hM]; omega)]; omega), putAt_len _ _ _ (by rw [hM]; omega)])
  have HUM := Lib.hid (show ∀ x ∈ dnL Lr t b R Lf, x ∈ Lr ∨ x ∈ Lf from fun x hx => by
    unfold dnL at hx
    rcases putAt_mem hx with hx | hx
    · rcases putAt_mem hx with hx | hx
      · exact .inl hx
      · exact .inl (List.mem_of_mem_drop (List.mem_of_mem_take hx))
    · exact .inr hx)
  have hszall : w.heap.size ≤ w7.heap.size := by omega
  have hvot : ∀ k, vo.ownBlock = some k → T k = 3 := HL0.out.ro.tag
  have hT0 : ∀ k, T k ≠ 0 → k < w.heap.size := HL0.out.lt
  have hgd : g.down t b n s = ⟨g.cols, g.limit, downRows g.rows t b R g.cols s, g.old⟩ := by
    rw [HEU.out, Int.toNat_natCast, Int.toNat_natCast]
  have hfin : ∃ T', GM T' p w7 (g.down t b n s) ∧ ∀ k, T' k ≠ 0 → own T w k := by
    rw [hgd]
    refine gat_build (vr := .slice (some ⟨bo, off, none⟩) Lr.length c) (vo := vo) (Lr := dnL Lr t b R Lf) (Lo := Lo) hT0 hptag hszall HKP7.out ?_ HRO7.out.own (fun k hk => ?_) (fun k hk => .inl (hvot k hk)) (fun x hx => ?_) ?_ HER.out HL0.out.eo (down_wf hwf t b R s htb (by omega) hR2)
    · rw [HUL.out]; exact HRR7.out
    · simp [Value.ownBlock] at hk
      subst hk
      exact .inl hbot
    · have hold : x ∈ Lr ++ Lo → OwnC w7 0 5 x.1 x.2.cells.length (cvals x.2.cells) ∧ ∃ q, x.1.ownBlock = some q ∧ ((q < w.heap.size ∧ T q = 10 + q) ∨ (w.heap.size ≤ q ∧ vo.ownBlock ≠ some q ∧ (Value.slice (some ⟨bo, off, none⟩) Lr.length c).ownBlock ≠ some q)) := fun hx => by
        have hc := HCA7.out x hx
        obtain ⟨q, e1, e2⟩ := hc.tag
        exact ⟨hc.own, q, e1, .inl ⟨hT0 q (by omega), e2⟩⟩
      have hnewf : x ∈ Lf → OwnC w7 0 5 x.1 x.2.cells.length (cvals x.2.cells) ∧ ∃ q, x.1.ownBlock = some q ∧ ((q < w.heap.size ∧ T q = 10 + q) ∨ (w.heap.size ≤ q ∧ vo.ownBlock ≠ some q ∧ (Value.slice (some ⟨bo, off, none⟩) Lr.length c).ownBlock ≠ some q)) := fun hx => by
        obtain ⟨q, e1, e2⟩ := HFQ.out x hx
        refine ⟨HFC7.out x hx, q, e1, .inr ⟨by omega, fun e => ?_, fun e => ?_⟩⟩
        · have := hT0 q (by rw [hvot q e]; decide); omega
        · simp [Value.ownBlock] at e; omega
      rcases List.mem_append.1 hx with hx | hx
      · rcases HUM.out x hx with h | h
        · exact hold (List.mem_append_left _ h)
        · exact hnewf h
      · exact hold (List.mem_append_right _ hx)
    · rw [HU.out]
      refine dn_nodup Lr Lo Lf t b R w.heap.size htb hR2 HL0.out.nd (fun x hx k hk => ?_) HND.out (fun x hx => ?_)
      · exact (ownC_lt (HL0.out.ca x hx).own k hk).2
      · obtain ⟨q, e1, e2⟩ := HFQ.out x hx
        exact ⟨q, e1, by omega⟩
  have HF := Lib.hid hfin
  clear hfin hgd
  go_wp2_with fail
  go_end0
  exact ⟨rfl, HW7.out, HF.out⟩
end Go.Proofs.YtlfdgkiliegaiaaGreatDoor

/- Walks of package grid: Wrap. -/
namespace Go.Proofs.YtlfdgkiliegaiaaGreatDoor
open Go.RowKit

theorem ownC_cellx {w : World} {base size b off n c : Nat} {xs : List Value} (h : OwnC w base size (.slice (some ⟨b, off, none⟩) n c) n xs) (j : Nat) (hj : j < n * size) :
    w.cell? ⟨b, off + j, none⟩ = xs[j]? ∧ w.frozen? ⟨b, off + j, none⟩ = false := by
  obtain ⟨e1, h2⟩ := h
  rcases h2 with ⟨e, _⟩ | ⟨b', off', c', e, hb, hbs, hnc, hcm, hcells, hxs⟩
  · simp at e
  · simp only [Value.slice.injEq, Option.some.injEq, Addr.mk.injEq] at e
    obtain ⟨⟨rfl, rfl, _⟩, _, rfl⟩ := e
    have hc : j < c * size := Nat.lt_of_lt_of_le hj (Nat.mul_le_mul_right _ hnc)
    refine ⟨?_, (hcells j hc).2⟩
    have hjx : j < xs.length := by rw [e1]; exact hj
    rw [hxs j _ (List.getElem?_eq_getElem hjx), List.getElem?_eq_getElem hjx]
theorem rowVals_split (A B : List (Value × Rw)) (x : Value × Rw) : rowVals (A ++ x :: B) = (rowVals A ++ [x.1]) ++ .bool x.2.wrap :: rowVals B := by
  rw [rowVals_append, List.append_assoc]
  rfl
theorem rowVals_wrap (L : List (Value × Rw)) (k : Nat) (hk : k < L.length) (is : Bool) : putAt (rowVals L) (k * 2 + 1) [.bool is] = rowVals (L.set k (L[k].1, { L[k].2 with wrap := is })) := by
  have e : L = L.take k ++ L[k] :: L.drop (k + 1) := by
    rw [List.getElem_cons_drop, List.take_append_drop]
  have hl : (L.take k).length = k := by rw [List.length_take]; omega
  rw [List.set_eq_take_append_cons_drop, if_pos hk]
  generalize hx : L[k] = x at *
  generalize L.take k = A at *
  generalize L.drop (k + 1) = B at *
  rw [e, rowVals_split, rowVals_split, putAt_mid _ _ _ _ _ (by rw [List.length_append, rowVals_len, hl]; rfl)]
/-- A row's mark is turned. -/
theorem GAt.rewrap {T : Nat → Nat} {p : Nat} {vr vo : Value} {Lr Lo : List (Value × Rw)} {w w' : World} {g : Gr} (h : GAt T p vr vo Lr Lo w g) (k : Nat) (hk : k < Lr.length) (is : Bool) (m : Mod T (fun t => t = 2) w w')
    (ho : OwnC w' 0 2 vr Lr.length (rowVals (Lr.set k (Lr[k].1, { Lr[k].2 with wrap := is })))) : GM T p w' { g with rows := g.rows.set k { g.rows.getD k noR with wrap := is } } := by
  have hr : g.rows.getD k noR = Lr[k].2 := by
    rw [← h.er, List.getD_eq_getElem?_getD, List.getElem?_map, List.getElem?_eq_getElem hk]; rfl
  have hset : (Lr.set k (Lr[k].1, { Lr[k].2 with wrap := is })).map (·.1.ownBlock) = Lr.map (·.1.ownBlock) := by
    rw [List.map_set]
    apply List.ext_getElem?
    intro j
    by_cases hj : j = k
    · subst hj
      rw [List.getElem?_set_self (by simpa using hk), List.getElem?_map, List.getElem?_eq_getElem hk]; rfl
    · rw [List.getElem?_set_ne (fun e => hj e.symm)]
  refine ⟨vr, vo, Lr.set k (Lr[k].1, { Lr[k].2 with wrap := is }), Lo, ⟨fun k' hk' => Nat.lt_of_lt_of_le (h.lt k' hk') m.size, ?_, h.tp, ?_, h.ro.mod m (by decide), ?_, h.eo, fun x hx => ?_, ?_, ?_⟩⟩
  · exact (m.block p (heap_lt h.blk) (by rw [h.tp]; decide)).trans h.blk
  · rw [List.length_set]
    exact ⟨ho, h.rr.tag⟩
  · rw [List.map_set, h.er, hr]
  · rcases List.mem_append.1 hx with hx | hx
    · rcases List.mem_or_eq_of_mem_set hx with hx | rfl
      · exact (h.ca x (List.mem_append_left _ hx)).mod m (fun q hq => by omega)
      · have := (h.ca Lr[k] (List.mem_append_left _ (List.getElem_mem hk))).mod m (fun q hq => by omega)
        exact ⟨this.own, this.tag⟩
    · exact (h.ca x (List.mem_append_right _ hx)).mod m (fun q hq => by omega)
  · rw [List.map_append, hset, ← List.map_append]; exact h.nd
  · have wf := h.wf
    refine ⟨wf.c1, wf.c2, ?_, ?_, wf.li, wf.ol, fun r hr' => ?_⟩
    · show 1 ≤ (g.rows.set k _).length
      rw [List.length_set]; exact wf.r1
    · show (g.rows.set k _).length ≤ 120
      rw [List.length_set]; exact wf.r2
    · have hr2 : r ∈ g.rows.set k { g.rows.getD k noR with wrap := is } ++ g.old := hr'
      rcases List.mem_append.1 hr2 with hm | hm
      · rcases List.mem_or_eq_of_mem_set hm with hm | rfl
        · exact wf.ce r (List.mem_append_left _ hm)
        · rw [hr]
          have hmem : Lr[k].2 ∈ g.rows := by rw [← h.er]; exact List.mem_map_of_mem (List.getElem_mem hk)
          exact wf.ce Lr[k].2 (List.mem_append_left _ hmem)
      · exact wf.ce r (List.mem_append_right _ hm)
set_option maxRecDepth 100000 in
theorem wrap_any {T : Nat → Nat} {p : Nat} {w : World} {g : Gr} (h : GM T p w g) (y : Int) (is : Bool) :
    Calls Tryz.prog 205 #[.pointer (some ⟨p, 0, none⟩), .int .i64 y, .bool is] w fun e w' => e = .returned (.tuple #[]) ∧ Within (own T w) w w' ∧ GM T p w' (g.setWrap y is) := by
  have H0 := Lib.hid h
  obtain ⟨vr, vo, Lr, Lo, h⟩ := h
  obtain ⟨c0, c1, c2, c3⟩ := gm_cells h
  have hl := ownC_ln Tryz.underlying126 h.rr.own
  have hlen := (rows_len h).1
  by_cases hy : 0 ≤ y ∧ y < (g.rows.length : Int)
  · obtain ⟨k, rfl⟩ : ∃ k : Nat, y = (k : Int) := ⟨y.toNat, by omega⟩
    have hE := Lib.hid (show g.setWrap k is = { g with rows := g.rows.set k { g.rows.getD k noR with wrap := is } } by
      unfold Gr.setWrap; rw [if_pos hy, Int.toNat_natCast])
    have hkl : k < Lr.length := by omega
    obtain ⟨b, off, c, rfl, hnc, hcm⟩ := ownC_pos h.rr.own (by omega)
    have hix := idx_at (P := Tryz.prog) (size := 2) Tryz.underlying126 row_info b off Lr.length c k hkl
    obtain ⟨r1, f1⟩ := ownC_cellx h.rr.own (k * 2 + 1) (by omega)
    rw [rowVals_at Lr k hkl 1 (by decide), ← Nat.add_assoc] at r1
    rw [← Nat.add_assoc] at f1
    replace r1 : w.cell? ⟨b, off + k * 2 + 1, none⟩ = some (.bool Lr[k].2.wrap) := r1
    have d1 : decide (0 ≤ (k : Int)) = true := decide_eq_true (by omega)
    have d2 : decide ((k : Int) < (Lr.length : Int)) = true := decide_eq_true (by omega)
    have d2' : decide (k < Lr.length) = true := decide_eq_true hkl
    have hP := ownC_put h.rr.own (k * 2 + 1) [.bool is] (by simp; omega)
    rw [rowVals_wrap Lr k hkl] at hP
    change OwnC (w.setCell ⟨b, off + (k * 2 + 1), none⟩ (.bool is)) _ _ _ _ _ at hP
    rw [← Nat.add_assoc] at hP
    have g1 : w.grownBy (w.setCell ⟨b, off + k * 2 + 1, none⟩ (.bool is)) (some b) := gb_set (gb_refl _ _) _ _
    have tb : T b = 2 := h.rr.tag b rfl
    have HM := Lib.hid (h.rewrap k hkl is (Mod.of_gb g1 (fun q hq => by injection hq with hq; rw [← hq]; exact tb)) hP)
    have HW := Lib.hid (show Within (own T w) w (w.setCell ⟨b, off + k * 2 + 1, none⟩ (.bool is)) from Within.of_gb g1 (fun q hq => by injection hq with hq; rw [← hq]; exact .inl (by rw [tb]; decide)))
    clear h hP g1 hlen hy
    generalize Lr[k].2.wrap = bo at *
    go_enter Tryz.func205, Tryz.ntmps205
    go_wp2_with fail
    go_end0
    exact ⟨rfl, HW.out, by rw [hE.out]; exact HM.out⟩
  · have hE := Lib.hid (show g.setWrap y is = g by unfold Gr.setWrap; rw [if_neg hy])
    rw [hlen] at hl
    clear h
    by_cases h0 : 0 ≤ y
    · have d1 : decide (0 ≤ y) = true := decide_eq_true h0
      have d2 : decide (y < (g.rows.length : Int)) = false := decide_eq_false (by omega)
      go_enter Tryz.func205, Tryz.ntmps205
      go_wp2_with fail
      go_end0
      exact ⟨rfl, Within.refl _ _, by rw [hE.out]; exact H0.out⟩
    · have d1 : decide (0 ≤ y) = false := decide_eq_false h0
      go_enter Tryz.func205, Tryz.ntmps205
      go_wp2_with fail
      go_end0
      exact ⟨rfl, Within.refl _ _, by rw [hE.out]; exact H0.out⟩
end Go.Proofs.YtlfdgkiliegaiaaGreatDoor

/- A drawing region in whose course what is held of the world turns once: behind its operation c another condition holds. -/
namespace Go.Proofs.YtlfdgkiliegaiaaGreatDoor
open Go
section
variable {P : Program} {ops : Array Oper} {Q : Exit → Act → World → Prop} {md : Region.Mode} {c : Nat} {S : Bool → World → Prop}

/-- Has operation c come up? -/
def upC (c : Nat) (listed : Array Bool) : Bool := listed.getD c false
def wpL (P : Program) (md : Region.Mode) (ops : Array Oper) (Q : Exit → Act → World → Prop) (c : Nat) (S : Bool → World → Prop) : Nat → Array Bool → Act → World → Prop
  | 0, listed, a, w => Region.ready md ops listed = [] ∧ Q .normal a w
  | n + 1, listed, a, w => (Region.ready md ops listed = [] → Q .normal a w) ∧
    (∀ i ∈ Region.ready md ops listed, wpOp P ops Q i (fun a2 w2 => S (upC c (listed.setIfInBounds i true)) w2 ∧ wpL P md ops Q c S n (listed.setIfInBounds i true) a2 w2) a w)
theorem wpL_any : ∀ (n : Nat) (listed : Array Bool) (a : Act) (w : World), wpL P md ops Q c S n listed a w → wpAny P md ops Q n listed a w
  | 0, _, _, _, h => h
  | n + 1, _, _, _, h => ⟨h.1, fun i hi => wpOp_mono (fun a2 w2 h2 => wpL_any n _ a2 w2 h2.2) (h.2 i hi)⟩
theorem wpL_begin {id : Nat} {a : Act} {w : World} (hm : P.follows .mixedOrders = true) (hS : S false w.drew) (h : S false w.drew → wpL P .any ops Q c S ops.size (Array.replicate ops.size false) a w.drew) : (Code.region id ops true).wp P Q a w :=
  wp_region_any hm (wpL_any _ _ _ _ (h hS))
theorem wpL_done {listed : Array Bool} {a : Act} {w : World} (hr : Region.ready md ops listed = []) (h : Q .normal a w) : ∀ n, wpL P md ops Q c S n listed a w
  | 0 => ⟨hr, h⟩
  | _ + 1 => ⟨fun _ => h, by rw [hr]; simp⟩
theorem wpL_first {i : Nat} {oi : Oper} {v : Value} {dep : Bool} (hi : ops[i]? = some oi) (hsel : ∀ (j : Nat) (o : Oper) cs b, ops[j]? = some o → o.op ≠ .select cs b)
    (hQ : ∀ k a w, Q (.panic k) (a.put oi.dst v) w → Q (.panic k) a w) (hic : i ≠ c)
    (hdep : dep = true → ∃ oc, ops[c]? = some oc ∧ ∃ e ∈ oc.after, Region.binds md e = true ∧ e.on = i) :
    ∀ (n : Nat) (listed : Array Bool) (a : Act) (w : World),
      (∀ j oj, ops[j]? = some oj → j ≠ i → listed.getD j true = false → (∀ e ∈ oj.after, Region.binds md e = true → e.on ≠ i) → oi.apart ops oj = true) →
      i ∈ Region.ready md ops listed → (dep = true → upC c listed = false) → YieldsIf P ops (fun w => ∃ b, S b w ∧ (dep = true → b = false)) oi v a → S (upC c listed) w →
      wpL P md ops Q c S n (listed.setIfInBounds i true) (a.put oi.dst v) w → wpL P md ops Q c S (n + 1) listed a w := by
  have hset : ∀ listed : Array Bool, upC c (listed.setIfInBounds i true) = upC c listed := fun listed => getD_set_ne false hic
  intro n
  induction n with
  | zero =>
    intro listed a w _ hr hd hy hS H
    refine ⟨fun h => (by rw [h] at hr; cases hr), fun j hj => ?_⟩
    by_cases hji : j = i
    · subst hji
      exact hy.wpOp hi ⟨_, hS, hd⟩ ⟨by rw [hset]; exact hS, H⟩
    · have := ready_mono hj hji
      rw [H.1] at this
      cases this
  | succ n ih =>
    intro listed a w hfree hr hd hy hS H
    refine ⟨fun h => (by rw [h] at hr; cases hr), fun j hj => ?_⟩
    by_cases hji : j = i
    · subst hji
      exact hy.wpOp hi ⟨_, hS, hd⟩ ⟨by rw [hset]; exact hS, H⟩
    · have h1 := H.2 j (ready_mono hj hji)
      obtain ⟨hjun, oj, hoj, hall⟩ := mem_ready.1 hj
      have hnot : ∀ e ∈ oj.after, Region.binds md e = true → e.on ≠ i := fun e he hb heq => by
        have h1 := hall e he hb
        have h0 := (mem_ready.1 hr).1
        rw [heq] at h1
        rcases Nat.lt_or_ge i listed.size with h2 | h2
        · simp [h2] at h0 h1; rw [h0] at h1; cases h1
        · simp [Array.getElem?_eq_none h2] at h1
      have h2 := wpOp_putIf hoj (hfree j oj hoj hji hjun hnot) (fun cs b => hsel i oi cs b hi) (fun cs b => hsel j oj cs b hoj) hQ hy h1
      have hfree2 : ∀ k ok, ops[k]? = some ok → k ≠ i → (listed.setIfInBounds j true).getD k true = false →
          (∀ e ∈ ok.after, Region.binds md e = true → e.on ≠ i) → oi.apart ops ok = true := fun k ok hk hki hun hno => by
        refine hfree k ok hk hki ?_ hno
        by_cases hjk : j = k
        · subst hjk; exact hjun
        · rw [getD_set_ne true hjk] at hun; exact hun
      have hd2 : dep = true → upC c (listed.setIfInBounds j true) = false := fun e => by
        have hjc : j ≠ c := fun hjc => by
          subst hjc
          obtain ⟨oc, h3, e3, h4, h5, h6⟩ := hdep e
          rw [hoj] at h3
          injection h3 with h3
          subst h3
          exact hnot e3 h4 h5 h6
        unfold upC
        rw [getD_set_ne false hjc]
        exact hd e
      refine wpOp_mono (fun a2 w2 h3 => ?_) h2
      have hS2 : S (upC c (listed.setIfInBounds j true)) w2 := by
        have := h3.2.1
        rw [Array.setIfInBounds_comm _ _ (Ne.symm hji), hset] at this
        exact this
      refine ⟨hS2, ih (listed.setIfInBounds j true) a2 w2 hfree2 (ready_mono hr (Ne.symm hji)) hd2 h3.1 hS2 ?_⟩
      rw [Array.setIfInBounds_comm _ _ hji]
      exact h3.2.2
/-- What yields its value at either condition is taken first. -/
theorem wpL_take {i : Nat} {oi : Oper} {v : Value} {n : Nat} {listed : Array Bool} {a : Act} {w : World} {b : Bool} (hi : ops[i]? = some oi)
    (hs : Region.noSelect ops = true) (hf : Region.free md ops listed i = true) (hr : (Region.ready md ops listed).contains i = true) (hic : (i == c) = false)
    (hQ : ∀ k a w, Q (.panic k) (a.put oi.dst v) w → Q (.panic k) a w) (hb : upC c listed = b) (hS : S b w) (hy : YieldsIf P ops (fun w => ∃ b, S b w) oi v a)
    (h : wpL P md ops Q c S n (listed.setIfInBounds i true) (a.put oi.dst v) w) : wpL P md ops Q c S (n + 1) listed a w :=
  wpL_first (dep := false) hi (Region.noSelect_spec hs) hQ (by simpa using hic) (fun e => by cases e) n listed a w (Region.free_spec hi hf) (by simpa using hr) (fun e => by cases e)
    (hy.imp (fun ⟨hw, hv⟩ => ⟨hw, fun w ⟨b, hb, _⟩ => hv w ⟨b, hb⟩⟩) id) (by rw [hb]; exact hS) h
/-- What operation c waits for, and yields its value at the first condition, is taken first. -/
theorem wpL_takeD {i : Nat} {oi oc : Oper} {v : Value} {n : Nat} {listed : Array Bool} {a : Act} {w : World} (hi : ops[i]? = some oi) (hc : ops[c]? = some oc)
    (hd : (oc.after.any fun e => Region.binds md e && e.on == i) = true)
    (hs : Region.noSelect ops = true) (hf : Region.free md ops listed i = true) (hr : (Region.ready md ops listed).contains i = true) (hic : (i == c) = false)
    (hQ : ∀ k a w, Q (.panic k) (a.put oi.dst v) w → Q (.panic k) a w) (hb : upC c listed = false) (hS : S false w) (hy : YieldsIf P ops (S false) oi v a)
    (h : wpL P md ops Q c S n (listed.setIfInBounds i true) (a.put oi.dst v) w) : wpL P md ops Q c S (n + 1) listed a w :=
  wpL_first (dep := true) hi (Region.noSelect_spec hs) hQ (by simpa using hic) (fun _ => by
      rw [Array.any_eq_true'] at hd
      obtain ⟨e, he, h2⟩ := hd
      rw [Bool.and_eq_true] at h2
      exact ⟨oc, hc, e, he, h2.1, by simpa using h2.2⟩) n listed a w (Region.free_spec hi hf) (by simpa using hr) (fun _ => hb)
    (hy.imp (fun ⟨hw, hv⟩ => ⟨hw, fun w ⟨b, h1, h2⟩ => hv w (by have := h2 rfl; subst this; exact h1)⟩) id) (by rw [hb]; exact hS) h
/-- The one operation that may come up is carried out. -/
theorem wpL_one {i : Nat} {o : Oper} {n : Nat} {listed : Array Bool} {a : Act} {w : World} {b : Bool} (hr : Region.ready md ops listed = [i]) (ho : ops[i]? = some o) (hb : upC c (listed.setIfInBounds i true) = b)
    (h : ∀ K : Act → World → Prop, Shut (∀ a w, S b w → (S b w → wpL P md ops Q c S n (listed.setIfInBounds i true) a w) → K a w) → if Region.wanted o (yielded ops a.tmps) = true then Oper.wp P o a w K Q else K (a.put o.dst undef) w) :
    wpL P md ops Q c S (n + 1) listed a w :=
  ⟨fun h0 => (by rw [hr] at h0; cases h0), fun j hj => by
    rw [hr, List.mem_singleton] at hj
    subst hj
    refine wpOp_step ho (fun K hK => h K (fun a w hS hW => hK a w ⟨?_, hW hS⟩))
    rw [hb]; exact hS⟩
/-- Either of two may come up. -/
theorem wpL_two {i j : Nat} {oi oj : Oper} {n : Nat} {listed : Array Bool} {a : Act} {w : World} {b1 b2 : Bool} (hr : Region.ready md ops listed = [i, j]) (hi : ops[i]? = some oi) (hj : ops[j]? = some oj)
    (hb1 : upC c (listed.setIfInBounds i true) = b1) (hb2 : upC c (listed.setIfInBounds j true) = b2)
    (h1 : ∀ K : Act → World → Prop, Shut (∀ a w, S b1 w → (S b1 w → wpL P md ops Q c S n (listed.setIfInBounds i true) a w) → K a w) → if Region.wanted oi (yielded ops a.tmps) = true then Oper.wp P oi a w K Q else K (a.put oi.dst undef) w)
    (h2 : ∀ K : Act → World → Prop, Shut (∀ a w, S b2 w → (S b2 w → wpL P md ops Q c S n (listed.setIfInBounds j true) a w) → K a w) → if Region.wanted oj (yielded ops a.tmps) = true then Oper.wp P oj a w K Q else K (a.put oj.dst undef) w) :
    wpL P md ops Q c S (n + 1) listed a w :=
  ⟨fun h0 => (by rw [hr] at h0; cases h0), fun k hk => by
    rw [hr, List.mem_cons, List.mem_singleton] at hk
    rcases hk with rfl | rfl
    · refine wpOp_step hi (fun K hK => h1 K (fun a w hS hW => hK a w ⟨?_, hW hS⟩))
      rw [hb1]; exact hS
    · refine wpOp_step hj (fun K hK => h2 K (fun a w hS hW => hK a w ⟨?_, hW hS⟩))
      rw [hb2]; exact hS⟩
/-! The same in short: what is the same at each operation is found by itself. -/
theorem wpL_tk (b : Bool) (i : Nat) {oi : Oper} {v : Value} {n : Nat} {listed l' : Array Bool} {a a' : Act} {w : World} (hS : S b w) (h : wpL P md ops Q c S n l' a' w)
    (hi : ops[i]? = some oi := by (simp only [List.getElem?_toArray, List.getElem?_cons_succ, List.getElem?_cons_zero]; rfl))
    (hs : Region.noSelect ops = true := by kernel_rfl) (hf : Region.free md ops listed i = true := by kernel_rfl) (hr : (Region.ready md ops listed).contains i = true := by kernel_rfl)
    (hic : (i == c) = false := by rfl) (hb : upC c listed = b := by rfl) (hw : Region.wanted oi (yielded ops a.tmps) = true := by rfl)
    (hy : ∀ wS, (∃ b, S b wS) → (execOp a.eval oi).run P wS = .ok (.value v) wS := by (intro wS hSw; obtain ⟨hSb, hSw, hSx⟩ := hSw; clear hSx; go_simp; (try (with_reducible rfl))))
    (hQ : ∀ k a w, Q (.panic k) (a.put oi.dst v) w → Q (.panic k) a w := by exact fun _ _ _ h => h)
    (ha : a.put oi.dst v = a' := by ((try simp only [Act.put, List.setIfInBounds_toArray, List.set_cons_zero, List.set_cons_succ]) <;> rfl))
    (hl : listed.setIfInBounds i true = l' := by ((try simp only [List.setIfInBounds_toArray, List.set_cons_zero, List.set_cons_succ]) <;> rfl)) :
    wpL P md ops Q c S (n + 1) listed a w := by
  subst ha hl
  exact wpL_take hi hs hf hr hic hQ hb hS (Or.inl ⟨hw, hy⟩) h
theorem wpL_td (i : Nat) {oi oc : Oper} {v : Value} {n : Nat} {listed l' : Array Bool} {a a' : Act} {w : World} (hS : S false w) (h : wpL P md ops Q c S n l' a' w)
    (hi : ops[i]? = some oi := by (simp only [List.getElem?_toArray, List.getElem?_cons_succ, List.getElem?_cons_zero]; rfl))
    (hc : ops[c]? = some oc := by (simp only [List.getElem?_toArray, List.getElem?_cons_succ, List.getElem?_cons_zero]; rfl))
    (hd : (oc.after.any fun e => Region.binds md e && e.on == i) = true := by kernel_rfl)
    (hs : Region.noSelect ops = true := by kernel_rfl) (hf : Region.free md ops listed i = true := by kernel_rfl) (hr : (Region.ready md ops listed).contains i = true := by kernel_rfl)
    (hic : (i == c) = false := by rfl) (hb : upC c listed = false := by rfl) (hw : Region.wanted oi (yielded ops a.tmps) = true := by rfl)
    (hy : ∀ wS, S false wS → (execOp a.eval oi).run P wS = .ok (.value v) wS := by (intro wS hSw; obtain ⟨hSw, hSx⟩ := hSw; have hSx := hSx rfl; go_simp; (try (with_reducible rfl))))
    (hQ : ∀ k a w, Q (.panic k) (a.put oi.dst v) w → Q (.panic k) a w := by exact fun _ _ _ h => h)
    (ha : a.put oi.dst v = a' := by ((try simp only [Act.put, List.setIfInBounds_toArray, List.set_cons_zero, List.set_cons_succ]) <;> rfl))
    (hl : listed.setIfInBounds i true = l' := by ((try simp only [List.setIfInBounds_toArray, List.set_cons_zero, List.set_cons_succ]) <;> rfl)) :
    wpL P md ops Q c S (n + 1) listed a w := by
  subst ha hl
  exact wpL_takeD hi hc hd hs hf hr hic hQ hb hS (Or.inl ⟨hw, hy⟩) h
theorem wpL_on (b : Bool) (i : Nat) {o : Oper} {n : Nat} {listed l' : Array Bool} {a : Act} {w : World}
    (h : ∀ K : Act → World → Prop, Shut (∀ a w, S b w → (S b w → wpL P md ops Q c S n l' a w) → K a w) → if Region.wanted o (yielded ops a.tmps) = true then Oper.wp P o a w K Q else K (a.put o.dst undef) w)
    (hr : Region.ready md ops listed = [i] := by kernel_rfl)
    (ho : ops[i]? = some o := by (simp only [List.getElem?_toArray, List.getElem?_cons_succ, List.getElem?_cons_zero]; rfl))
    (hl : listed.setIfInBounds i true = l' := by ((try simp only [List.setIfInBounds_toArray, List.set_cons_zero, List.set_cons_succ]) <;> rfl))
    (hb : upC c l' = b := by rfl) : wpL P md ops Q c S (n + 1) listed a w := by
  subst hl
  exact wpL_one hr ho hb h
theorem wpL_tw (b1 b2 : Bool) (i j : Nat) {oi oj : Oper} {n : Nat} {listed l1 l2 : Array Bool} {a : Act} {w : World}
    (h1 : ∀ K : Act → World → Prop, Shut (∀ a w, S b1 w → (S b1 w → wpL P md ops Q c S n l1 a w) → K a w) → if Region.wanted oi (yielded ops a.tmps) = true then Oper.wp P oi a w K Q else K (a.put oi.dst undef) w)
    (h2 : ∀ K : Act → World → Prop, Shut (∀ a w, S b2 w → (S b2 w → wpL P md ops Q c S n l2 a w) → K a w) → if Region.wanted oj (yielded ops a.tmps) = true then Oper.wp P oj a w K Q else K (a.put oj.dst undef) w)
    (hr : Region.ready md ops listed = [i, j] := by kernel_rfl)
    (hi : ops[i]? = some oi := by (simp only [List.getElem?_toArray, List.getElem?_cons_succ, List.getElem?_cons_zero]; rfl))
    (hj : ops[j]? = some oj := by (simp only [List.getElem?_toArray, List.getElem?_cons_succ, List.getElem?_cons_zero]; rfl))
    (hl1 : listed.setIfInBounds i true = l1 := by ((try simp only [List.setIfInBounds_toArray, List.set_cons_zero, List.set_cons_succ]) <;> rfl))
    (hl2 : listed.setIfInBounds j true = l2 := by ((try simp only [List.setIfInBounds_toArray, List.set_cons_zero, List.set_cons_succ]) <;> rfl))
    (hb1 : upC c l1 = b1 := by rfl) (hb2 : upC c l2 = b2 := by rfl) : wpL P md ops Q c S (n + 1) listed a w := by
  subst hl1 hl2
  exact wpL_two hr hi hj hb1 hb2 h1 h2
theorem wanted_on {ops : Array Oper} {o : Oper} {a : Act} {X E : Prop} (hg : o.guard = none) (h : X) : if Region.wanted o (yielded ops a.tmps) = true then X else E := by
  rw [if_pos (by simp [Region.wanted, hg])]
  exact h
end
end Go.Proofs.YtlfdgkiliegaiaaGreatDoor

/- Cells compared; plain. -/
namespace Go.Proofs.YtlfdgkiliegaiaaGreatDoor
open Go.RowKit
attribute [local go_sem ↓] Go.wp_at_zero Go.wp_at_succ

def Sty.eqb (a b : Sty) : Bool := a.fg == b.fg && (a.bg == b.bg && a.attr == b.attr)
theorem Sty.eqb_iff (a b : Sty) : a.eqb b = true ↔ a = b := by
  obtain ⟨f, g, t⟩ := a
  obtain ⟨f', g', t'⟩ := b
  simp [Sty.eqb]
theorem eq_sty_in (a b : Sty) (d : Nat) (w : World) : (Op.equalIn (d + 2) 35 a.val b.val).run Tryz.prog w = .ok (a.eqb b) w := by
  have hS : Tryz.prog.underlying 35 = some (.struct (Tryz.prog.fieldsOf 35)) := by kernel_rfl
  have hp : Tryz.prog.stoodInHeld 35 = false := by kernel_rfl
  unfold Sty.val
  rw [run_equalIn_agg w (d + 1) 35 _ _ hS hp]
  simp only [Program.fieldsOf, Tryz.underlying35]
  go_simp
  unfold Sty.eqb
  by_cases h1 : a.fg = b.fg <;> by_cases h2 : a.bg = b.bg <;> by_cases h3 : a.attr = b.attr <;> simp [h1, h2, h3]
theorem eql_sty (a b : Sty) (w : World) : (binOp .eql 35 a.val b.val).run Tryz.prog w = .ok (.bool (a.eqb b)) w := by
  have := eq_sty_in a b 9998 w
  unfold Sty.val at *
  rw [run_eql_struct, show (10000 : Nat) = 9998 + 2 from rfl, this]; rfl
theorem guard_sty (op : BinOp) (x y : Operand) (a b : Sty) (w : World) : (eqGuard op 35 x y a.val b.val).run Tryz.prog w = .ok () w := run_eqGuard_agg w op 35 x y _ _ (by kernel_rfl)
end Go.Proofs.YtlfdgkiliegaiaaGreatDoor

/- Reflow: the walk. -/
namespace Go.Proofs.YtlfdgkiliegaiaaGreatDoor
open Go.RowKit
attribute [local go_sem ↓] Go.wp_at_zero Go.wp_at_succ

theorem gb_setRow (w : World) (g : Nat) (cs : Array Value) : w.grownBy (w.setRow g cs) (some g) := by
  refine ⟨rfl, rfl, rfl, ?_, fun k hk hne => ?_⟩
  · simp [World.setRow]
  · show (w.heap.modify g _)[k]? = _
    rw [Array.getElem?_modify, if_neg (fun e => hne (by rw [e]))]
end Go.Proofs.YtlfdgkiliegaiaaGreatDoor

/- Grids' sizes; slices that read as values. -/
namespace Go.Proofs.YtlfdgkiliegaiaaGreatDoor
open Go.RowKit
attribute [local go_sem ↓] Go.wp_at_zero Go.wp_at_succ

def Dim (g : Gr) (c r l : Nat) : Prop := g.cols = c ∧ g.rows.length = r ∧ g.limit = l
theorem Dim.up {g : Gr} {c r l : Nat} (h : Dim g c r l) (t b n : Int) (s : Sty) (k : Bool) : Dim (g.up t b n s k) c r l := by
  unfold Gr.up
  split
  · exact h
  · rename_i h0
    refine ⟨h.1, ?_, h.2.2⟩
    have hr : regionN g t b n s ≠ 0 := h0
    unfold regionN at hr
    by_cases hc : t < 0 ∨ b < t ∨ (g.rows.length : Int) ≤ b ∨ okS s = false
    · rw [if_pos hc] at hr; exact absurd rfl hr
    · rw [if_neg hc] at hr
      have hn : regionN g t b n s = (max 0 (min n (b - t + 1))).toNat := by unfold regionN; rw [if_neg hc]
      show (upRows g.rows t.toNat b.toNat (regionN g t b n s) g.cols s).length = r
      rw [up_len (by omega) (by omega) (by rw [hn]; omega)]
      exact h.2.1
theorem Dim.down {g : Gr} {c r l : Nat} (h : Dim g c r l) (t b n : Int) (s : Sty) : Dim (g.down t b n s) c r l := by
  unfold Gr.down
  split
  · exact h
  · rename_i h0
    refine ⟨h.1, ?_, h.2.2⟩
    have hr : regionN g t b n s ≠ 0 := h0
    unfold regionN at hr
    by_cases hc : t < 0 ∨ b < t ∨ (g.rows.length : Int) ≤ b ∨ okS s = false
    · rw [if_pos hc] at hr; exact absurd rfl hr
    · rw [if_neg hc] at hr
      have hn : regionN g t b n s = (max 0 (min n (b - t + 1))).toNat := by unfold regionN; rw [if_neg hc]
      show (downRows g.rows t.toNat b.toNat (regionN g t b n s) g.cols s).length = r
      rw [down_len (by omega) (by omega) (by rw [hn]; omega)]
      exact h.2.1
theorem Dim.put {g : Gr} {c r l : Nat} (h : Dim g c r l) (x y : Int) (q : Cel) : Dim (g.put x y q) c r l := by
  unfold Gr.put
  split
  · refine ⟨h.1, ?_, h.2.2⟩
    unfold Gr.turn
    show (g.rows.set _ _).length = r
    rw [List.length_set]; exact h.2.1
  · exact h
theorem Dim.setWrap {g : Gr} {c r l : Nat} (h : Dim g c r l) (y : Int) (is : Bool) : Dim (g.setWrap y is) c r l := by
  unfold Gr.setWrap
  split
  · refine ⟨h.1, ?_, h.2.2⟩
    show (g.rows.set _ _).length = r
    rw [List.length_set]; exact h.2.1
  · exact h
theorem Dim.new (c r l : Nat) : Dim (newG c r l) c r l := ⟨rfl, by show (freshL r c plainS).length = r; unfold freshL; rw [List.length_replicate], rfl⟩
end Go.Proofs.YtlfdgkiliegaiaaGreatDoor

/- GridWhole, plain: every padding stands behind a wide cell of its style, every wide cell ahead of one. -/
namespace Go.Proofs.YtlfdgkiliegaiaaGreatDoor
open Go.RowKit

/-- Erase, Insert, Delete: on a row's cells (n cells from x on, x + n no more than there are). -/
def eraseL (l : List Cel) (x n : Nat) (s : Sty) : List Cel := fillL (cutL (cutL l x) ((x + n : Nat) : Int)) x n s
def insL (l : List Cel) (x n : Nat) (s : Sty) : List Cel :=
  (cutL (cutL l x) ((l.length - n : Nat) : Int)).take x ++ List.replicate n (blankC s) ++ ((cutL (cutL l x) ((l.length - n : Nat) : Int)).drop x).take (l.length - n - x)
def delL (l : List Cel) (x n : Nat) (s : Sty) : List Cel :=
  (cutL (cutL l x) ((x + n : Nat) : Int)).take x ++ (cutL (cutL l x) ((x + n : Nat) : Int)).drop (x + n) ++ List.replicate n (blankC s)
theorem eraseL_len {l : List Cel} {x n : Nat} (s : Sty) (h : x + n ≤ l.length) : (eraseL l x n s).length = l.length := by
  unfold eraseL
  rw [fillL_len _ _ _ _ (by rw [cutL_len, cutL_len]; exact h), cutL_len, cutL_len]
theorem insL_len {l : List Cel} {x n : Nat} (s : Sty) (h : x + n ≤ l.length) : (insL l x n s).length = l.length := by
  unfold insL
  simp only [List.length_append, List.length_take, List.length_drop, List.length_replicate, cutL_len]
  omega
theorem delL_len {l : List Cel} {x n : Nat} (s : Sty) (h : x + n ≤ l.length) : (delL l x n s).length = l.length := by
  unfold delL
  simp only [List.length_append, List.length_take, List.length_drop, List.length_replicate, cutL_len]
  omega
end Go.Proofs.YtlfdgkiliegaiaaGreatDoor

/- Erase, Insert, Delete on a grid, plain. -/
namespace Go.Proofs.YtlfdgkiliegaiaaGreatDoor
open Go.RowKit

/-- How many columns from x on are meant. -/
def manyN (g : Gr) (x n : Int) : Nat := (min n ((g.cols : Int) - x)).toNat
def Gr.rowOp (g : Gr) (f : List Cel → Nat → Nat → Sty → List Cel) (x y n : Int) (s : Sty) : Gr :=
  if g.onIt x y s = true ∧ 0 < n then g.turn y.toNat (fun l => f l x.toNat (manyN g x n) s) else g
def Gr.erase (g : Gr) (x y n : Int) (s : Sty) : Gr := g.rowOp eraseL x y n s
def Gr.ins (g : Gr) (x y n : Int) (s : Sty) : Gr := g.rowOp insL x y n s
def Gr.del (g : Gr) (x y n : Int) (s : Sty) : Gr := g.rowOp delL x y n s
theorem eraseL_ok {l : List Cel} {x n : Nat} {s : Sty} (h : ∀ c ∈ l, c.Ok) : ∀ c ∈ eraseL l x n s, c.Ok := fillL_ok (cutL_ok (cutL_ok h))
theorem insL_ok {l : List Cel} {x n : Nat} {s : Sty} (h : ∀ c ∈ l, c.Ok) : ∀ c ∈ insL l x n s, c.Ok := fun c hc => by
  have hm := cutL_ok (x := ((l.length - n : Nat) : Int)) (cutL_ok (x := (x : Int)) h)
  unfold insL at hc
  rcases List.mem_append.1 hc with hc | hc
  · rcases List.mem_append.1 hc with hc | hc
    · exact hm c (List.mem_of_mem_take hc)
    · rw [List.eq_of_mem_replicate hc]; exact blank_ok s
  · exact hm c (List.mem_of_mem_drop (List.mem_of_mem_take hc))
theorem delL_ok {l : List Cel} {x n : Nat} {s : Sty} (h : ∀ c ∈ l, c.Ok) : ∀ c ∈ delL l x n s, c.Ok := fun c hc => by
  have hm := cutL_ok (x := ((x + n : Nat) : Int)) (cutL_ok (x := (x : Int)) h)
  unfold delL at hc
  rcases List.mem_append.1 hc with hc | hc
  · rcases List.mem_append.1 hc with hc | hc
    · exact hm c (List.mem_of_mem_take hc)
    · exact hm c (List.mem_of_mem_drop hc)
  · rw [List.eq_of_mem_replicate hc]; exact blank_ok s
theorem ins_eq (l : List Cel) (x n : Nat) (s : Sty) (h : x + n ≤ l.length) :
    fillL (putAt (cutL (cutL l x) ((l.length - n : Nat) : Int)) (x + n) (((cutL (cutL l x) ((l.length - n : Nat) : Int)).drop x).take (l.length - x - n))) x n s = insL l x n s := by
  unfold insL
  have hl : (cutL (cutL l x) ((l.length - n : Nat) : Int)).length = l.length := by rw [cutL_len, cutL_len]
  generalize cutL (cutL l x) ((l.length - n : Nat) : Int) = m at *
  rw [← hl] at h ⊢
  have e0 : ((m.drop x).take (m.length - x - n)).length = m.length - x - n := by rw [List.length_take, List.length_drop]; omega
  unfold fillL putAt
  rw [List.length_replicate, e0, show x + n + (m.length - x - n) = m.length by omega, List.drop_length, List.append_nil]
  have e1 : (m.take (x + n)).length = x + n := by rw [List.length_take]; omega
  rw [List.take_append_of_le_length (by omega), List.take_take, Nat.min_eq_left (by omega), List.drop_left' e1, show m.length - n - x = m.length - x - n by omega]
theorem del_eq (l : List Cel) (x n : Nat) (s : Sty) (h : x + n ≤ l.length) :
    fillL (putAt (cutL (cutL l x) ((x + n : Nat) : Int)) x ((cutL (cutL l x) ((x + n : Nat) : Int)).drop (x + n))) (l.length - n) n s = delL l x n s := by
  unfold delL
  have hl : (cutL (cutL l x) ((x + n : Nat) : Int)).length = l.length := by rw [cutL_len, cutL_len]
  generalize cutL (cutL l x) ((x + n : Nat) : Int) = m at *
  rw [← hl] at h ⊢
  have e0 : (m.drop (x + n)).length = m.length - (x + n) := List.length_drop
  have e1 : (m.take x).length = x := by rw [List.length_take]; omega
  have e2 : (m.take x ++ m.drop (x + n)).length = m.length - n := by rw [List.length_append, e0, e1]; omega
  unfold fillL putAt
  rw [List.length_replicate, e0, List.take_left' e2, show m.length - n + n = m.length by omega]
  have e3 : (m.take x ++ m.drop (x + n) ++ m.drop (x + (m.length - (x + n)))).length = m.length := by
    rw [List.length_append, e2, List.length_drop]; omega
  have e4 : (m.take x ++ m.drop (x + n) ++ m.drop (x + (m.length - (x + n)))).drop m.length = [] := List.drop_of_length_le (by rw [e3]; exact Nat.le_refl _)
  rw [e4, List.append_nil]
theorem rowOp_dim {g : Gr} {c r l : Nat} (f : List Cel → Nat → Nat → Sty → List Cel) (x y n : Int) (s : Sty) (h : Dim g c r l) : Dim (g.rowOp f x y n s) c r l := by
  unfold Gr.rowOp
  split
  · refine ⟨h.1, ?_, h.2.2⟩
    show (g.rows.set _ _).length = r
    rw [List.length_set]; exact h.2.1
  · exact h
theorem onIt_iff {g : Gr} {x y : Int} {s : Sty} (h : g.onIt x y s = true) : 0 ≤ y ∧ y < (g.rows.length : Int) ∧ 0 ≤ x ∧ x < (g.cols : Int) ∧ okS s = true := by
  unfold Gr.onIt at h
  simp only [Bool.and_eq_true, decide_eq_true_eq] at h
  exact ⟨h.1, h.2.1, h.2.2.1, h.2.2.2.1, h.2.2.2.2⟩
end Go.Proofs.YtlfdgkiliegaiaaGreatDoor

/- strconv.FormatInt in base 16, at the numbers that a colour may be. -/
namespace Go.Proofs.YtlfdgkiliegaiaaGreatDoor
open Go.RowKit
/-- What FormatInt reads of the table of math/bits. -/
def DbAt (B : Nat) (w : World) : Prop := ∀ w', Below B w w' → w'.cell? ⟨4, 15, none⟩ = some (.int .u8 4)
set_option maxRecDepth 100000 in
theorem tz64_any (w : World) (h : w.cell? ⟨4, 15, none⟩ = some (.int .u8 4)) :
    Calls Tryz.prog 298 #[.int .u64 16] w fun e w' => e = .returned (.int .i64 4) ∧ w' = w := by
  have hb : IntKind.u64.wrap (bits BinOp.and IntKind.u64 16 (IntKind.u64.wrap (-16)) * 285870213051353865) / 288230376151711744 = 15 := by kernel_rfl
  go_enter Tryz.func298, Tryz.ntmps298
  go_wp2_with fail
  exact ret1v rfl rfl rfl ⟨rfl, rfl⟩
set_option maxRecDepth 100000 in
theorem tz_any (w : World) (h : w.cell? ⟨4, 15, none⟩ = some (.int .u8 4)) :
    Calls Tryz.prog 277 #[.int .u64 16] w fun e w' => e = .returned (.int .i64 4) ∧ w' = w := by
  go_enter Tryz.func277, Tryz.ntmps277
  go_wp2_with fail
  refine (tz64_any w h).mono ?_
  rintro e w2 ⟨rfl, rfl⟩
  go_wp2_with fail
  exact ret1v rfl rfl rfl ⟨rfl, rfl⟩
set_option maxRecDepth 100000 in
theorem pow2_any (w : World) : Calls Tryz.prog 276 #[.int .i64 16] w fun e w' => e = .returned (.bool true) ∧ w' = w := by
  go_enter Tryz.func276, Tryz.ntmps276
  go_wp2_with fail
  exact ret1v rfl rfl rfl ⟨rfl, rfl⟩
def lo16 : Nat → Nat
  | 0 => 16777216
  | 1 => 1048576
  | 2 => 65536
  | 3 => 4096
  | 4 => 256
  | 5 => 16
  | _ => 1
theorem lo16_step {k x : Nat} (hk : k < 6) (h : lo16 k ≤ x ∧ x < 2 * lo16 k) : 16 ≤ x ∧ lo16 (k + 1) ≤ x / 16 ∧ x / 16 < 2 * lo16 (k + 1) := by
  match k, hk with
  | 0, _ => simp only [lo16] at h ⊢; omega
  | 1, _ => simp only [lo16] at h ⊢; omega
  | 2, _ => simp only [lo16] at h ⊢; omega
  | 3, _ => simp only [lo16] at h ⊢; omega
  | 4, _ => simp only [lo16] at h ⊢; omega
  | 5, _ => simp only [lo16] at h ⊢; omega
theorem byteVals_set (bs : List UInt8) (i : Nat) (b : UInt8) : (byteVals bs).toArray.setIfInBounds i (.int .u8 (b.toNat : Int)) = (byteVals (bs.set i b)).toArray := by
  unfold byteVals
  rw [List.map_set, List.setIfInBounds_toArray]
theorem and15 (x : Nat) (h : x < 18446744073709551616) : bits BinOp.and IntKind.u64 (x : Int) 15 = ((x % 16 : Nat) : Int) := by
  have := bits_and_u64_nat x 15 h (by decide)
  rw [show ((15 : Nat) : Int) = 15 from rfl] at this
  rw [this, show (15 : Nat) = 2 ^ 4 - 1 from rfl, Nat.and_two_pow_sub_one_eq_mod]
theorem ret2u {P : Program} {fn : Func} {R : Ending → World → Prop} {a : Act} {w : World} {t u : Tmp} {v1 v2 : Value} (h : fn.results = #[.tmp t, .tmp u]) (hd : a.defers = []) (h1 : a.tmps.getD t undef = v1) (h2 : a.tmps.getD u undef = v2) (hR : R (.returned (.tuple #[v1, v2])) w) :
    bodyPost P fn R .ret a w := by
  subst h1 h2; exact bodyPost_ret (results_tmp2 h _ _ _) hd hR
set_option maxRecDepth 100000 in
set_option maxHeartbeats 4000000 in
theorem bits16_any (u : Nat) (h0 : 16777216 ≤ u) (h1 : u < 33554432) (w : World) (hd : DbAt w.heap.size w) :
    Calls Tryz.prog 200 #[.slice none 0 0, .int .u64 u, .int .i64 16, .bool false, .bool false] w fun e w' => ∃ l : List UInt8, l.length = 7 ∧ e = .returned (.tuple #[.slice none 0 0, .string ⟨l.toArray⟩]) ∧ Below w.heap.size w w' := by
  go_enter Tryz.func200, Tryz.ntmps200
  go_wp2_with fail
  refine (pow2_any _).mono ?_
  rintro e w2 ⟨rfl, hw2⟩
  subst w2
  have HB1 := Lib.hid ((Below.refl w.heap.size w).alloc (Nat.le_refl _) (.cells (Array.replicate 65 (.int .u8 0)) 252))
  go_wp2_with fail
  refine (tz_any _ (hd _ HB1.out)).mono ?_
  rintro e w2 ⟨rfl, hw2⟩
  subst w2
  go_upto_region 11 with fail
  go_loopw [1, 13] (fun uv iv wr => ∃ k x : Nat, (k ≤ 6 ∧ lo16 k ≤ x ∧ x < 2 * lo16 k ∧ x < 33554432) ∧ uv = .int .u64 x ∧ iv = .int .i64 (65 - k : Nat) ∧ Hid (Below w.heap.size w wr) ∧ Hid (∃ bs : List UInt8, bs.length = 65 ∧ wr.heap[w.heap.size]? = some (.cells (byteVals bs).toArray 252 (0, 0)))) (fun _ iv _ => (intOf iv).toNat)
  case atStart => exact ⟨0, u, ⟨by decide, h0, h1, h1⟩, rfl, rfl, HB1.out, List.replicate 65 0, by simp, blk_new _ _⟩
  case round =>
    obtain ⟨k, x, ⟨hk, hlo, hhi, hxx⟩, rfl, rfl, HB, HC⟩ := hrel
    by_cases hk6 : k < 6
    · obtain ⟨s1, s2, s3⟩ := lo16_step hk6 ⟨hlo, hhi⟩
      have d1 : decide ((16 : Int) ≤ (x : Int)) = true := decide_eq_true (by omega)
      have d1' : decide (16 ≤ x) = true := decide_eq_true s1
      have ha := and15 x (by omega)
      obtain ⟨m, hm⟩ : ∃ m : Nat, m = 64 - k := ⟨_, rfl⟩
      have hw1 : IntKind.i64.wrap (((65 - k : Nat) : Int) - 1) = (m : Int) := by rw [wrap64_id _ (by omega) (by omega)]; omega
      obtain ⟨bs, hbl, hblk⟩ := HC.out
      have hm65 : (m : Int) < 65 ∧ m < 65 := by omega
      have c0 : wr.cell? ⟨w.heap.size, m, none⟩ = some (.int .u8 ((bs.getD m 0).toNat : Int)) := by
        rw [blk_cell hblk m]
        unfold byteVals
        rw [List.getElem?_toArray, List.getElem?_map, List.getD_eq_getElem?_getD, List.getElem?_eq_getElem (by omega)]
        rfl
      have z0 : wr.frozen? ⟨w.heap.size, m, none⟩ = false := blk_free hblk m
      have HBK := Lib.hid hblk
      have HBL := Lib.hid hbl
      have HM := Lib.hid hm
      clear hblk hbl hm
      go_wp2_with fail
      have hmk : m = 65 - (k + 1) := by have := HM.out; omega
      refine ⟨⟨k + 1, x / 16, ⟨by omega, s2, s3, by omega⟩, by simp, by rw [hmk], HB.out.trans (below_of_gb (gb_set (gb_refl wr (some w.heap.size)) m _) HB.out.size (fun q hq => by injection hq with hq; omega)), _, ?_, (blk_set HBK.out m _).trans (by rw [byteVals_set])⟩, ?_⟩
      · rw [List.length_set]; exact HBL.out
      · simp [intOf]; have := HM.out; omega
    · have hk : k = 6 := by omega
      subst hk
      have hx1 : x = 1 := by simp only [lo16] at hlo hhi; omega
      subst hx1
      obtain ⟨bs, hbl, hblk⟩ := HC.out
      have c0 : wr.cell? ⟨w.heap.size, 58, none⟩ = some (.int .u8 ((bs.getD 58 0).toNat : Int)) := by
        rw [blk_cell hblk 58]
        unfold byteVals
        rw [List.getElem?_toArray, List.getElem?_map, List.getD_eq_getElem?_getD, List.getElem?_eq_getElem (by omega)]
        rfl
      have z0 : wr.frozen? ⟨w.heap.size, 58, none⟩ = false := blk_free hblk 58
      have HBK := Lib.hid hblk
      have HBL := Lib.hid hbl
      clear hblk hbl
      go_upto_region 30 with fail
      have HK2 : ∃ b : UInt8, Hid ((wr.setCell ⟨w.heap.size, 58, none⟩ (.int .u8 (b.toNat : Int))).heap[w.heap.size]? = some (.cells (byteVals (bs.set 58 b)).toArray 252 (0, 0)) ∧ b = 49) := ⟨49, (blk_set HBK.out 58 _).trans (by rw [byteVals_set]), rfl⟩
      obtain ⟨b, HK2⟩ := HK2
      have HB2 := Lib.hid (HB.out.trans (below_of_gb (gb_set (gb_refl wr (some w.heap.size)) 58 (.int .u8 (b.toNat : Int))) HB.out.size (fun q hq => by injection hq with hq; omega)))
      generalize hw2 : wr.setCell ⟨w.heap.size, 58, none⟩ (.int .u8 (b.toNat : Int)) = w2 at *
      have hw3 : ∀ v, v = Value.int .u8 (b.toNat : Int) → wr.setCell ⟨w.heap.size, 58, none⟩ v = w2 := fun v hv => by rw [hv, hw2]
      rw [hw3 _ (by rw [HK2.out.2]; rfl)]
      have hbl : (bs.set 58 b).length = 65 := by rw [List.length_set]; exact HBL.out
      generalize bs.set 58 b = cs at *
      have hrd : Reads w2 1 (.slice (some ⟨w.heap.size, 58, none⟩) 7 7) (cs.drop 58).length (byteVals (cs.drop 58)) := by
        have e : (cs.drop 58).length = 7 := by rw [List.length_drop, hbl]
        rw [e]
        refine .inr ⟨_, _, rfl, by unfold byteVals; rw [List.length_map, e], fun j v hv => ?_⟩
        rw [add_eq, blk_cell HK2.out.1 (58 + j), List.getElem?_toArray]
        unfold byteVals at hv ⊢
        rw [List.map_drop, List.getElem?_drop] at hv
        exact hv
      have hcv := run_bytes_reads (P := Tryz.prog) Tryz.underlying38 Tryz.underlying5 Tryz.underlying9 hrd
      have HCL := Lib.hid (show (cs.drop 58).length = 7 by rw [List.length_drop, hbl])
      clear hrd hbl hw2 hw3 c0 z0
      generalize cs.drop 58 = ds at *
      go_wp2_with fail
      exact ret2u rfl rfl rfl rfl ⟨ds, HCL.out, rfl, HB2.out⟩
set_option maxRecDepth 100000 in
theorem format16_any (u : Nat) (h0 : 16777216 ≤ u) (h1 : u < 33554432) (w : World) (hd : DbAt w.heap.size w) :
    Calls Tryz.prog 143 #[.int .i64 u, .int .i64 16] w fun e w' => ∃ l : List UInt8, l.length = 7 ∧ e = .returned (.string ⟨l.toArray⟩) ∧ Below w.heap.size w w' := by
  have d0 : decide ((u : Int) < 0) = false := decide_eq_false (by omega)
  have HD := Lib.hid hd
  clear hd
  go_enter Tryz.func143, Tryz.ntmps143
  go_wp2_with fail
  refine (bits16_any u h0 h1 w HD.out).mono ?_
  rintro e w2 ⟨l, hl, rfl, b2⟩
  have HL := Lib.hid hl
  have HB := Lib.hid b2
  clear hl b2
  go_wp2_with fail
  exact ret1v rfl rfl rfl ⟨l, HL.out, rfl, HB.out⟩
set_option maxRecDepth 100000 in
theorem formatP_any (u : Nat) (h0 : 16777216 ≤ u) (h1 : u < 33554432) (w : World) (hd : DbAt w.heap.size w) :
    Calls Tryz.prog 104 #[.int .i64 u, .int .i64 16] w fun e w' => ∃ l : List UInt8, l.length = 7 ∧ e = .returned (.string ⟨l.toArray⟩) ∧ Below w.heap.size w w' := by
  have HD := Lib.hid hd
  clear hd
  go_enter Tryz.func104, Tryz.ntmps104
  go_wp2_with fail
  refine (format16_any u h0 h1 w HD.out).mono ?_
  rintro e w2 ⟨l, hl, rfl, b2⟩
  have HL := Lib.hid hl
  have HB := Lib.hid b2
  clear hl b2
  go_wp2_with fail
  exact ret1v rfl rfl rfl ⟨l, HL.out, rfl, HB.out⟩
end Go.Proofs.YtlfdgkiliegaiaaGreatDoor
