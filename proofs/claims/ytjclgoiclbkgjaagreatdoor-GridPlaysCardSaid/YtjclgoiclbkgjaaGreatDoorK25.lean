/- Package grid, texts laid together: N21 G28 J3 J5 N22. -/
import Derived.Test.YtjclgoiclbkgjaaGreatDoorK20
import Derived.Test.YtjclgoiclbkgjaaGreatDoorK24
import Derived.Test.YtjclgoiclbkgjaaGreatDoorK12
import Derived.Laws.EntriesVeiled
import Derived.Test.YtjclgoiclbkgjaaGreatDoorK7
import Derived.Test.YtjclgoiclbkgjaaGreatDoorK18
/- Walks of the document's grid: Resize, where the rows are laid anew; sizes that may not be. -/
namespace Go.Proofs.YtjclgoiclbkgjaaGreatDoor
open Go.RowKit
attribute [local go_sem ↓] Go.wp_at_zero Go.wp_at_succ

set_option maxRecDepth 100000 in
set_option maxHeartbeats 8000000 in
theorem resizeFD_any {T : Nat → Nat} {p : Nat} {w : World} {g : Gr} (h : RM T p w g) (hwh : g.All WhR) (cols rows : Nat) (ax ay : Int) (c1 : 1 ≤ cols) (c2 : cols ≤ 250) (r1 : 1 ≤ rows) (r2 : rows ≤ 120) :
    Calls Tryz.prog 37 #[.pointer (some ⟨p, 0, none⟩), .int .i64 cols, .int .i64 rows, .agg #[.int .i64 ax, .int .i64 ay], .bool true] w fun e w' =>
      e = .returned (.tuple #[.agg #[.int .i64 (g.resize cols rows ax ay true).2.1, .int .i64 (g.resize cols rows ax ay true).2.2], .bool true]) ∧ Within (own T w) w w' ∧ ∃ T', RM T' p w' (g.resize cols rows ax ay true).1 ∧ ∀ k, T' k ≠ 0 → own T w k := by
  have hmay : mayG (cols : Int) (rows : Int) = true := by unfold mayG; simp; omega
  obtain ⟨vr, vo, Lr, Lo, h0⟩ := h
  have hlr := (rrows_len h0).1
  have wf := h0.wf
  have hr2 : Lr.length ≤ 120 := by have := wf.r2; omega
  have hr1 : 1 ≤ Lr.length := by have := wf.r1; omega
  have hg1 := wf.c1
  have hg2 := wf.c2
  have hpl := heap_lt h0.blk
  have HB1 := Lib.hid (show Below w.heap.size w ((w.alloc (.cells #[.int .i64 ax, .int .i64 ay] 51)).alloc (.cells #[.int .i64 0, .int .i64 0] 51)) from Below.alloc (Below.alloc (Below.refl w.heap.size w) (Nat.le_refl _) _) (by simp) _)
  have HAT := Lib.hid (blk_alloc (blk_new w (.cells #[.int .i64 ax, .int .i64 ay] 51)) (.cells #[.int .i64 0, .int .i64 0] 51))
  have HRS := Lib.hid (blk_new2 w (.cells #[.int .i64 ax, .int .i64 ay] 51) (.cells #[.int .i64 0, .int .i64 0] 51))
  have HG0 := Lib.hid h0
  have HLR := Lib.hid hlr
  have HWH := Lib.hid hwh
  have hsz : ((w.alloc (.cells #[.int .i64 ax, .int .i64 ay] 51)).alloc (.cells #[.int .i64 0, .int .i64 0] 51)).heap.size = w.heap.size + 2 := by simp
  clear h0 wf hlr hwh
  go_enter Tryz.func37, Tryz.ntmps37
  go_upto_region 1 with fail
  generalize (w.alloc (.cells #[.int .i64 ax, .int .i64 ay] 51)).alloc (.cells #[.int .i64 0, .int .i64 0] 51) = wa at *
  go_wp2_with fail
  refine (mayD_any cols rows wa).mono ?_
  rintro e w2 ⟨rfl, hw2⟩
  subst hw2
  obtain ⟨wa, rfl⟩ : ∃ wa, wa = w2 := ⟨w2, rfl⟩
  have HG1 := Lib.hid (HG0.out.mod (.of_below HB1.out) id id id (fun _ => id))
  obtain ⟨k0, k1, k2, k3⟩ := rm_cells HG1.out
  have hl1 := ownC_ln Tryz.underlying62 HG1.out.rr.own
  have a0 : wa.cell? ⟨w.heap.size, 0, none⟩ = some (.int .i64 ax) := blk_cell HAT.out 0
  have a1 : wa.cell? ⟨w.heap.size, 1, none⟩ = some (.int .i64 ay) := blk_cell HAT.out 1
  have hwr1 : IntKind.i64.wrap ((g.cols : Int) - 1) = (g.cols : Int) - 1 := wrap64_id _ (by omega) (by omega)
  have hwr2 : IntKind.i64.wrap ((Lr.length : Int) - 1) = (Lr.length : Int) - 1 := wrap64_id _ (by omega) (by omega)
  have hbx : 0 ≤ into ax ((g.cols : Int) - 1) ∧ into ax ((g.cols : Int) - 1) ≤ 250 := by unfold into; omega
  have hby : 0 ≤ into ay ((Lr.length : Int) - 1) ∧ into ay ((Lr.length : Int) - 1) ≤ 120 := by unfold into; omega
  have HIY := Lib.hid (show into ay ((g.rows.length : Int) - 1) = into ay ((Lr.length : Int) - 1) by rw [HLR.out])
  go_upto_region 4 with fail
  go_still_tail 18, (by kernel_rfl)
  still_call (intoD_any ax ((g.cols : Int) - 1) wa.drew)
  repeat still_step
  still_call (intoD_any ay ((Lr.length : Int) - 1) wa.drew)
  repeat still_step
  refine wpStill_nil ?_
  change wpList _ _ _ _ _ wa.drew
  have HAT1 := blk_drew HAT.out
  have hst := run_storeVar_row (P := Tryz.prog) wa.drew w.heap.size 51 51 _ #[.int .i64 (into ax ((g.cols : Int) - 1)), .int .i64 (into ay ((Lr.length : Int) - 1))] HAT1 (by kernel_rfl) rfl (by simp [Value.oneCell'])
  have HAT3 := Lib.hid (setRow_blk (cells := #[.int .i64 (into ax ((g.cols : Int) - 1)), .int .i64 (into ay ((Lr.length : Int) - 1))]) HAT1)
  have HGE0 := Lib.hid (gb_setRow wa.drew w.heap.size #[.int .i64 (into ax ((g.cols : Int) - 1)), .int .i64 (into ay ((Lr.length : Int) - 1))])
  have HB3 := Lib.hid (HB1.out.drew.grown HGE0.out (by show w.heap.size ≤ wa.heap.size; omega) (fun q hq => by injection hq with hq; omega))
  have HRS3 := Lib.hid (blk_grown (blk_drew HRS.out) HGE0.out (fun e => by injection e with e; omega))
  go_upto_region 6 with (refine wpList_storeR rfl _ _ _ rfl hst rfl rfl ?_)
  clear hst HAT HRS HB1 HG1 HAT1 HGE0 k0 k1 k2 k3 a0 a1 hwr1 hwr2 hl1
  generalize hbxx : into ax ((g.cols : Int) - 1) = bx at *
  have HIX2 : Hid (into ax ((g.cols : Int) - 1) = bx) := hbxx
  clear hbxx
  generalize hyy : into ay ((Lr.length : Int) - 1) = yb at *
  have HIY2 := Lib.hid (show into ay ((g.rows.length : Int) - 1) = yb from HIY.out)
  clear hyy
  generalize wa.drew.setRow w.heap.size #[.int .i64 bx, .int .i64 yb] = wd at *
  have hsc : w.heap.size + 2 ≤ wd.heap.size := heap_lt HRS3.out
  have HG1 := Lib.hid (show RM T p wd g from ⟨vr, vo, Lr, Lo, HG0.out.mod (.of_below HB3.out) id id id (fun _ => id)⟩)
  have a0 : wd.cell? ⟨w.heap.size, 0, none⟩ = some (.int .i64 bx) := blk_cell HAT3.out 0
  have a1 : wd.cell? ⟨w.heap.size, 1, none⟩ = some (.int .i64 yb) := blk_cell HAT3.out 1
  go_wp2_with fail
  refine (flowD_any HG1.out HWH.out cols rows bx yb c1 c2 r1 r2 hbx hby).mono ?_
  rintro e w9 ⟨rfl, hW9, T', hG9, hT9⟩
  have htr : T (w.heap.size + 1) = 0 := by
    by_cases h0 : T (w.heap.size + 1) = 0
    · exact h0
    · have := HG0.out.lt _ h0
      omega
  have hno : ¬ own T wd (w.heap.size + 1) := fun e => by
    rcases e with e | e
    · exact e htr
    · omega
  have hrs9 : w9.heap[w.heap.size + 1]? = some (.cells #[.int .i64 0, .int .i64 0] 51 (0, 0)) := (hW9.block _ (by omega) hno).trans HRS3.out
  have hres : (g.flow cols rows bx yb) = g.resize cols rows ax ay true := by
    unfold Gr.resize
    rw [if_pos rfl, HIX2.out, HIY2.out]
  have HRES := Lib.hid hres
  have HG9 := Lib.hid hG9
  have HT9 := Lib.hid hT9
  have HWW := Lib.hid hW9
  clear hres hG9 hT9 hW9
  generalize hqx : (g.flow cols rows bx yb).2.1 = qx at *
  generalize hqy : (g.flow cols rows bx yb).2.2 = qy at *
  have HQX := Lib.hid hqx
  have HQY := Lib.hid hqy
  clear hqx hqy
  have hst := run_storeVar_row (P := Tryz.prog) w9 (w.heap.size + 1) 51 51 _ #[.int .i64 qx, .int .i64 qy] hrs9 (by kernel_rfl) rfl (by simp [Value.oneCell'])
  have hr2' := setRow_blk (cells := #[.int .i64 qx, .int .i64 qy]) hrs9
  have HGE := Lib.hid (gb_setRow w9 (w.heap.size + 1) #[.int .i64 qx, .int .i64 qy])
  have HFIN := Lib.hid (show RM T' p (w9.setRow (w.heap.size + 1) #[.int .i64 qx, .int .i64 qy]) (g.resize cols rows ax ay true).1 by
    rw [← HRES.out]
    refine HG9.out.other (Tp := fun k => if k = w.heap.size + 1 then 1 else 0) (Within.of_gb HGE.out (fun k hk => ?_)) (fun k hk => ?_)
    · injection hk with hk
      subst hk
      exact .inl (by show (if _ then 1 else 0) ≠ 0; rw [if_pos rfl]; decide)
    · show (if _ then 1 else 0) = 0
      rw [if_neg (fun e => hno (by rw [← e]; exact HT9.out k hk))])
  have HWI := Lib.hid (show Within (own T w) w (w9.setRow (w.heap.size + 1) #[.int .i64 qx, .int .i64 qy]) from
    ((Within.of_below HB3.out).trans (HWW.out.mono (fun k hk => by
      rcases hk with e | e
      · exact .inl e
      · exact .inr (by omega)))).trans (Within.of_gb HGE.out (fun k hk => by injection hk with hk; subst hk; exact .inr (by omega))))
  clear hrs9
  go_wp2_with (refine wpList_storeR rfl _ _ _ rfl hst rfl rfl ?_)
  (try simp only [Exit.inBlock, Exit.then])
  refine retRow2 (x := .bool true) rfl rfl rfl rfl hr2' Tryz.underlying51 rfl (by kernel_rfl) ⟨by rw [← HRES.out, HQX.out, HQY.out], HWI.out, T', HFIN.out, fun k hk => ?_⟩
  rcases HT9.out k hk with e | e
  · exact .inl e
  · exact .inr (by omega)
set_option maxRecDepth 100000 in
set_option maxHeartbeats 8000000 in
theorem resizeD_no (p : Nat) (w : World) (cols rows ax ay : Int) (is : Bool) (hm : mayG cols rows = false) :
    Calls Tryz.prog 37 #[.pointer (some ⟨p, 0, none⟩), .int .i64 cols, .int .i64 rows, .agg #[.int .i64 ax, .int .i64 ay], .bool is] w fun e w' =>
      e = .returned (.tuple #[.agg #[.int .i64 0, .int .i64 0], .bool false]) ∧ Below w.heap.size w w' := by
  have HB1 := Lib.hid (show Below w.heap.size w ((w.alloc (.cells #[.int .i64 ax, .int .i64 ay] 51)).alloc (.cells #[.int .i64 0, .int .i64 0] 51)) from Below.alloc (Below.alloc (Below.refl w.heap.size w) (Nat.le_refl _) _) (by simp) _)
  have HRS := Lib.hid (blk_new2 w (.cells #[.int .i64 ax, .int .i64 ay] 51) (.cells #[.int .i64 0, .int .i64 0] 51))
  go_enter Tryz.func37, Tryz.ntmps37
  go_upto_region 1 with fail
  generalize (w.alloc (.cells #[.int .i64 ax, .int .i64 ay] 51)).alloc (.cells #[.int .i64 0, .int .i64 0] 51) = wa at *
  go_wp2_with fail
  refine (mayD_any cols rows wa).mono ?_
  rintro e w2 ⟨rfl, hw2⟩
  subst hw2
  obtain ⟨wa, rfl⟩ : ∃ wa, wa = w2 := ⟨w2, rfl⟩
  have hst := run_storeVar_row (P := Tryz.prog) wa (w.heap.size + 1) 51 51 _ #[.int .i64 0, .int .i64 0] HRS.out (by kernel_rfl) rfl (by simp [Value.oneCell'])
  have hr2' := setRow_blk (cells := #[.int .i64 0, .int .i64 0]) HRS.out
  have HBF := Lib.hid (show Below w.heap.size w (wa.setRow (w.heap.size + 1) #[.int .i64 0, .int .i64 0]) from HB1.out.grown (gb_setRow wa (w.heap.size + 1) _) HB1.out.size (fun q hq => by injection hq with hq; omega))
  rw [hm]
  go_wp2_with (refine wpList_storeR rfl _ _ _ rfl hst rfl rfl ?_)
  (try simp only [Exit.inBlock, Exit.then])
  exact retRow2 (x := .bool false) rfl rfl rfl rfl hr2' Tryz.underlying51 rfl (by kernel_rfl) ⟨rfl, HBF.out⟩
set_option maxRecDepth 100000 in
set_option maxHeartbeats 8000000 in
theorem resize_no (p : Nat) (w : World) (cols rows ax ay : Int) (is : Bool) (hm : mayG cols rows = false) :
    Calls Tryz.prog 15 #[.pointer (some ⟨p, 0, none⟩), .int .i64 cols, .int .i64 rows, .agg #[.int .i64 ax, .int .i64 ay], .bool is] w fun e w' =>
      e = .returned (.tuple #[.agg #[.int .i64 0, .int .i64 0], .int .i64 1]) ∧ Below w.heap.size w w' := by
  have HB1 := Lib.hid (show Below w.heap.size w ((w.alloc (.cells #[.int .i64 ax, .int .i64 ay] 51)).alloc (.cells #[.int .i64 0, .int .i64 0] 51)) from Below.alloc (Below.alloc (Below.refl w.heap.size w) (Nat.le_refl _) _) (by simp) _)
  have HRS := Lib.hid (blk_new2 w (.cells #[.int .i64 ax, .int .i64 ay] 51) (.cells #[.int .i64 0, .int .i64 0] 51))
  go_enter Tryz.func15, Tryz.ntmps15
  go_upto_region 1 with fail
  generalize (w.alloc (.cells #[.int .i64 ax, .int .i64 ay] 51)).alloc (.cells #[.int .i64 0, .int .i64 0] 51) = wa at *
  go_wp2_with fail
  refine (may_any cols rows wa).mono ?_
  rintro e w2 ⟨rfl, hw2⟩
  subst hw2
  obtain ⟨wa, rfl⟩ : ∃ wa, wa = w2 := ⟨w2, rfl⟩
  have hst := run_storeVar_row (P := Tryz.prog) wa (w.heap.size + 1) 51 51 _ #[.int .i64 0, .int .i64 0] HRS.out (by kernel_rfl) rfl (by simp [Value.oneCell'])
  have hr2' := setRow_blk (cells := #[.int .i64 0, .int .i64 0]) HRS.out
  have HBF := Lib.hid (show Below w.heap.size w (wa.setRow (w.heap.size + 1) #[.int .i64 0, .int .i64 0]) from HB1.out.grown (gb_setRow wa (w.heap.size + 1) _) HB1.out.size (fun q hq => by injection hq with hq; omega))
  rw [hm]
  go_wp2_with (refine wpList_storeR rfl _ _ _ rfl hst rfl rfl ?_)
  (try simp only [Exit.inBlock, Exit.then])
  exact retRow2 (x := .int .i64 1) rfl rfl rfl rfl hr2' Tryz.underlying51 rfl (by kernel_rfl) ⟨rfl, HBF.out⟩
end Go.Proofs.YtjclgoiclbkgjaaGreatDoor

/- What the laws of package grid call: sameCells. -/
namespace Go.Proofs.YtjclgoiclbkgjaaGreatDoor
open Go.RowKit
attribute [local go_sem ↓] Go.wp_at_zero Go.wp_at_succ

theorem take_same {la lb : List Cel} (k : Nat) (ha : k < la.length) (hb : k < lb.length) (h : la.take k = lb.take k) (e : la.getD k noC = lb.getD k noC) : la.take (k + 1) = lb.take (k + 1) := by
  rw [take_succ_getD la noC k ha, take_succ_getD lb noC k hb, h, e]
set_option maxRecDepth 100000 in
set_option maxHeartbeats 2000000 in
theorem sameCells_any (la lb : List Cel) (va vb : Value) (w : World) (ha : OwnC w 0 5 va la.length (cvals la)) (hb : OwnC w 0 5 vb lb.length (cvals lb)) (hl : la.length ≤ 1000000) (hl2 : lb.length ≤ 1000000) :
    Calls Tryz.prog 48 #[va, vb] w fun e w' => ∃ bv : Bool, e = .returned (.bool bv) ∧ (bv = true ↔ la = lb) ∧ Below w.heap.size w w' := by
  have HA := Lib.hid ha
  have HB := Lib.hid hb
  have ha0 := ownC_ln Tryz.underlying42 ha
  have hb0 := ownC_ln Tryz.underlying42 hb
  clear ha hb
  by_cases hne : la.length = lb.length
  rotate_left
  · have t1 : ((la.length : Int) != (lb.length : Int)) = true := by simp [bne, beq_eq_false_iff_ne.2 (show ¬ (la.length : Int) = (lb.length : Int) by omega)]
    have t2 : (la.length != lb.length) = true := by simp [bne, beq_eq_false_iff_ne.2 hne]
    have HN := Lib.hid (show ¬ la = lb from fun e => hne (by rw [e]))
    have HNE := Lib.hid hne
    clear hne
    go_enter Tryz.func48, Tryz.ntmps48
    have t3 : decide ((la.length : Int) = (lb.length : Int)) = false := decide_eq_false (by have := HNE.out; omega)
    have t4 : decide (la.length = lb.length) = false := decide_eq_false HNE.out
    go_wp2_with fail
    exact ret1v rfl rfl rfl ⟨false, rfl, ⟨fun e => (by cases e), fun e => absurd e HN.out⟩, Below.refl _ _⟩
  · have HNE := Lib.hid hne
    rw [← hne] at hb0
    clear hne
    go_enter Tryz.func48, Tryz.ntmps48
    go_upto_region 4 with fail
    go_loopw [5] (fun iv wr => ∃ k : Nat, k ≤ la.length ∧ iv = .int .i64 k ∧ Hid (Below w.heap.size w wr) ∧ Hid (la.take k = lb.take k)) (fun iv _ => la.length - (intOf iv).toNat)
    case atStart => exact ⟨0, Nat.zero_le _, rfl, Below.refl _ _, by simp [Hid]⟩
    case round =>
      obtain ⟨k, hk, rfl, HW, HT⟩ := hrel
      by_cases hlt : k < la.length
      · have d1 : decide ((k : Int) < (la.length : Int)) = true := decide_eq_true (by omega)
        have d1' : decide (k < la.length) = true := decide_eq_true hlt
        have hlb : k < lb.length := by have := HNE.out; omega
        have oa := ownC_below HA.out HW.out
        have ob := ownC_below HB.out HW.out
        obtain ⟨ba, fa, ca, e1, _, _⟩ := ownC_pos oa (by omega)
        obtain ⟨bb, fb, cb, e2, _, _⟩ := ownC_pos ob (by omega)
        subst e1 e2
        obtain ⟨p0, p1, p2, p3, p4⟩ := ownC_cel oa k (by omega) rfl
        obtain ⟨q0, q1, q2, q3, q4⟩ := ownC_cel ob k (by omega) rfl
        have hix1 := idx_at (P := Tryz.prog) (size := 5) Tryz.underlying42 cell_info ba fa la.length ca k hlt
        have hix2 := idx_at (P := Tryz.prog) (size := 5) Tryz.underlying42 cell_info bb fb lb.length cb k hlb
        have HTS := Lib.hid (fun e => take_same k hlt hlb HT.out e)
        have HGA := Lib.hid (show la.getD k noC = lb.getD k noC ∨ ¬ la = lb from by
          by_cases e : la = lb
          · exact .inl (by rw [e])
          · exact .inr e)
        have hneq := fun (wx : World) => neq_cel (la.getD k noC) (lb.getD k noC) wx
        have hgd := fun (x y : Operand) (wx : World) => guard_cel .neq x y (la.getD k noC) (lb.getD k noC) wx
        have hw6 : IntKind.i64.wrap ((k : Int) + 1) = (k : Int) + 1 := wrap64_id _ (by omega) (by omega)
        clear oa ob
        generalize la.getD k noC = xa at *
        generalize lb.getD k noC = xb at *
        obtain ⟨ar, aw, ⟨af, ag, at'⟩⟩ := xa
        obtain ⟨br, bw, ⟨bf, bg, bt⟩⟩ := xb
        unfold Cel.val at hneq hgd
        dsimp only at p0 p1 p2 p3 p4 q0 q1 q2 q3 q4 hneq hgd
        have HEQ := Lib.hid (Cel.eqb_iff ⟨ar, aw, ⟨af, ag, at'⟩⟩ ⟨br, bw, ⟨bf, bg, bt⟩⟩)
        generalize hbv : Cel.eqb ⟨ar, aw, ⟨af, ag, at'⟩⟩ ⟨br, bw, ⟨bf, bg, bt⟩⟩ = bv at *
        clear hbv
        go_upto_region 6 with fail
        go_region_held3 (fun w' => w'.cell? ⟨ba, fa + k * 5, none⟩ = some (.int .i32 ar) ∧ w'.cell? ⟨ba, fa + k * 5 + 1, none⟩ = some (.int .i64 aw) ∧ w'.cell? ⟨ba, fa + k * 5 + 2, none⟩ = some (.int .i64 af) ∧ w'.cell? ⟨ba, fa + k * 5 + 3, none⟩ = some (.int .i64 ag) ∧ w'.cell? ⟨ba, fa + k * 5 + 4, none⟩ = some (.int .i64 at') ∧
          w'.cell? ⟨bb, fb + k * 5, none⟩ = some (.int .i32 br) ∧ w'.cell? ⟨bb, fb + k * 5 + 1, none⟩ = some (.int .i64 bw) ∧ w'.cell? ⟨bb, fb + k * 5 + 2, none⟩ = some (.int .i64 bf) ∧ w'.cell? ⟨bb, fb + k * 5 + 3, none⟩ = some (.int .i64 bg) ∧ w'.cell? ⟨bb, fb + k * 5 + 4, none⟩ = some (.int .i64 bt)) (go_keep) (fail)
        clear p0 p1 p2 p3 p4 q0 q1 q2 q3 q4
        cases bv
        · go_wp2_with fail
          refine ret1v rfl rfl rfl ⟨false, rfl, ⟨fun e => (by cases e), fun e => ?_⟩, HW.out.drew⟩
          rcases HGA.out with h1 | h1
          · have h2 := HEQ.out.2 h1
            cases h2
          · exact absurd e h1
        · go_wp2_with fail
          go_roundw
          case rel => exact ⟨k + 1, by omega, by go_num, HW.out.drew, HTS.out (HEQ.out.1 rfl)⟩
          case measure => simp [intOf]; omega
      · have d1 : decide ((k : Int) < (la.length : Int)) = false := decide_eq_false (by omega)
        have d1' : decide (k < la.length) = false := decide_eq_false hlt
        have HEQ := Lib.hid (show la = lb from by
          have h1 := HT.out
          rw [List.take_of_length_le (by omega), List.take_of_length_le (by have := HNE.out; omega)] at h1
          exact h1)
        go_wp2_with fail
        exact ret1v rfl rfl rfl ⟨true, rfl, ⟨fun _ => HEQ.out, fun _ => rfl⟩, HW.out⟩
end Go.Proofs.YtjclgoiclbkgjaaGreatDoor

/- Two grids of the same content compared: Same tells true. -/
namespace Go.Proofs.YtjclgoiclbkgjaaGreatDoor
open Go.RowKit
attribute [local go_sem ↓] Go.wp_at_zero Go.wp_at_succ

set_option maxRecDepth 100000 in
set_option maxHeartbeats 2000000 in
theorem equalC_any (l : List Cel) (va vb : Value) (w : World) (ha : OwnC w 0 5 va l.length (cvals l)) (hb : OwnC w 0 5 vb l.length (cvals l)) (hl : l.length ≤ 1000000) :
    Calls Tryz.prog 75 #[va, vb] w fun e w' => e = .returned (.bool true) ∧ Below w.heap.size w w' := by
  have HA := Lib.hid ha
  have HB := Lib.hid hb
  have ha0 := ownC_ln Tryz.underlying42 ha
  have hb0 := ownC_ln Tryz.underlying42 hb
  clear ha hb
  go_enter Tryz.func75, Tryz.ntmps75
  go_upto_region 4 with fail
  go_loopw [13] (fun iv wr => ∃ k : Nat, k ≤ l.length ∧ iv = .int .i64 k ∧ Hid (Below w.heap.size w wr)) (fun iv _ => l.length - (intOf iv).toNat)
  case atStart => exact ⟨0, Nat.zero_le _, rfl, Below.refl _ _⟩
  case round =>
    obtain ⟨k, hk, rfl, HW⟩ := hrel
    by_cases hlt : k < l.length
    · have d1 : decide ((k : Int) < (l.length : Int)) = true := decide_eq_true (by omega)
      have d1' : decide (k < l.length) = true := decide_eq_true hlt
      have oa := ownC_below HA.out HW.out
      have ob := ownC_below HB.out HW.out
      obtain ⟨ba, fa, ca, e1, _, _⟩ := ownC_pos oa (by omega)
      obtain ⟨bb, fb, cb, e2, _, _⟩ := ownC_pos ob (by omega)
      subst e1 e2
      obtain ⟨p0, p1, p2, p3, p4⟩ := ownC_cel oa k (by omega) rfl
      obtain ⟨q0, q1, q2, q3, q4⟩ := ownC_cel ob k (by omega) rfl
      have hix1 := idx_at (P := Tryz.prog) (size := 5) Tryz.underlying42 cell_info ba fa l.length ca k hlt
      have hix2 := idx_at (P := Tryz.prog) (size := 5) Tryz.underlying42 cell_info bb fb l.length cb k hlt
      have hneq := fun (wx : World) => neq_cel (l.getD k noC) (l.getD k noC) wx
      have hgd := fun (x y : Operand) (wx : World) => guard_cel .neq x y (l.getD k noC) (l.getD k noC) wx
      rw [(Cel.eqb_iff (l.getD k noC) (l.getD k noC)).2 rfl] at hneq
      have hw6 : IntKind.i64.wrap ((k : Int) + 1) = (k : Int) + 1 := wrap64_id _ (by omega) (by omega)
      clear oa ob
      generalize l.getD k noC = xa at *
      obtain ⟨ar, aw, ⟨af, ag, at'⟩⟩ := xa
      unfold Cel.val at hneq hgd
      dsimp only at p0 p1 p2 p3 p4 q0 q1 q2 q3 q4 hneq hgd
      go_upto_region 6 with fail
      go_region_held3 (fun w' => w'.cell? ⟨ba, fa + k * 5, none⟩ = some (.int .i32 ar) ∧ w'.cell? ⟨ba, fa + k * 5 + 1, none⟩ = some (.int .i64 aw) ∧ w'.cell? ⟨ba, fa + k * 5 + 2, none⟩ = some (.int .i64 af) ∧ w'.cell? ⟨ba, fa + k * 5 + 3, none⟩ = some (.int .i64 ag) ∧ w'.cell? ⟨ba, fa + k * 5 + 4, none⟩ = some (.int .i64 at') ∧
        w'.cell? ⟨bb, fb + k * 5, none⟩ = some (.int .i32 ar) ∧ w'.cell? ⟨bb, fb + k * 5 + 1, none⟩ = some (.int .i64 aw) ∧ w'.cell? ⟨bb, fb + k * 5 + 2, none⟩ = some (.int .i64 af) ∧ w'.cell? ⟨bb, fb + k * 5 + 3, none⟩ = some (.int .i64 ag) ∧ w'.cell? ⟨bb, fb + k * 5 + 4, none⟩ = some (.int .i64 at')) (go_keep) (fail)
      clear p0 p1 p2 p3 p4 q0 q1 q2 q3 q4
      go_wp2_with fail
      go_roundw
      case rel => exact ⟨k + 1, by omega, by go_num, HW.out.drew⟩
      case measure => simp [intOf]; omega
    · have d1 : decide ((k : Int) < (l.length : Int)) = false := decide_eq_false (by omega)
      have d1' : decide (k < l.length) = false := decide_eq_false hlt
      go_wp2_with fail
      exact ret1v rfl rfl rfl ⟨rfl, HW.out⟩
set_option maxRecDepth 100000 in
set_option maxHeartbeats 2000000 in
theorem sameRow_any (r : Rw) (va vb : Value) (w : World) (ha : OwnC w 0 5 va r.cells.length (cvals r.cells)) (hb : OwnC w 0 5 vb r.cells.length (cvals r.cells)) (hl : r.cells.length ≤ 1000000) :
    Calls Tryz.prog 74 #[.agg #[va, .bool r.wrap], .agg #[vb, .bool r.wrap]] w fun e w' => e = .returned (.bool true) ∧ Below w.heap.size w w' := by
  obtain ⟨aa, ac, rfl⟩ := ownC_sl ha
  obtain ⟨ba, bc, rfl⟩ := ownC_sl hb
  have h1 := Below.alloc (Below.refl w.heap.size w) (Nat.le_refl _) (.cells #[.slice aa r.cells.length ac, .bool r.wrap] 77)
  have h2 := Below.alloc h1 h1.size (.cells #[.slice ba r.cells.length bc, .bool r.wrap] 77)
  have HA := Lib.hid (ownC_below ha h2)
  have HB := Lib.hid (ownC_below hb h2)
  have H2 := Lib.hid h2
  clear ha hb h1 h2
  go_enter Tryz.func74, Tryz.ntmps74
  go_wp2_with fail
  refine (equalC_any r.cells _ _ _ HA.out HB.out hl).mono ?_
  rintro e w3 ⟨rfl, b3⟩
  have H3 := Lib.hid (H2.out.trans (b3.mono H2.out.size))
  clear b3
  go_wp2_with fail
  exact ret1v rfl rfl rfl ⟨rfl, H3.out⟩
set_option maxRecDepth 100000 in
set_option maxHeartbeats 2000000 in
theorem equalF_any (L M : List (Value × Rw)) (va vb : Value) (w : World) (ha : OwnC w 0 2 va L.length (rowVals L)) (hb : OwnC w 0 2 vb M.length (rowVals M)) (he : L.map (·.2) = M.map (·.2))
    (hL : ∀ x ∈ L, OwnC w 0 5 x.1 x.2.cells.length (cvals x.2.cells)) (hM : ∀ x ∈ M, OwnC w 0 5 x.1 x.2.cells.length (cvals x.2.cells)) (hn : L.length ≤ 100000) (hc : ∀ x ∈ L, x.2.cells.length ≤ 1000) :
    Calls Tryz.prog 76 #[va, vb, .func (.func 74) #[] #[]] w fun e w' => e = .returned (.bool true) ∧ Below w.heap.size w w' := by
  have hlen : L.length = M.length := by
    have := congrArg List.length he
    simpa using this
  have HA := Lib.hid ha
  have HB := Lib.hid hb
  have ha0 := ownC_ln Tryz.underlying57 ha
  have hb0 := ownC_ln Tryz.underlying57 hb
  rw [← hlen] at hb0
  have HE := Lib.hid (show ∀ (k : Nat) (h1 : k < L.length) (h2 : k < M.length), L[k].2 = M[k].2 from fun k h1 h2 => by
    have := congrArg (fun l => l[k]?) he
    simp only [List.getElem?_map, List.getElem?_eq_getElem h1, List.getElem?_eq_getElem h2, Option.map_some] at this
    injection this)
  have HL := Lib.hid hL
  have HM := Lib.hid hM
  have HC := Lib.hid hc
  have HLN := Lib.hid hlen
  clear ha hb he hL hM hc hlen
  go_enter Tryz.func76, Tryz.ntmps76
  go_upto_region 4 with fail
  go_loopw [17] (fun iv wr => ∃ k : Nat, k ≤ L.length ∧ iv = .int .i64 k ∧ Hid (Below w.heap.size w wr)) (fun iv _ => L.length - (intOf iv).toNat)
  case atStart => exact ⟨0, Nat.zero_le _, rfl, Below.refl _ _⟩
  case round =>
    obtain ⟨k, hk, rfl, HW⟩ := hrel
    by_cases hlt : k < L.length
    · have d1 : decide ((k : Int) < (L.length : Int)) = true := decide_eq_true (by omega)
      have d1' : decide (k < L.length) = true := decide_eq_true hlt
      have hlm : k < M.length := by have := HLN.out; omega
      have oa := ownC_below HA.out HW.out
      have ob := ownC_below HB.out HW.out
      obtain ⟨ba, fa, ca, e1, _, _⟩ := ownC_pos oa (by omega)
      obtain ⟨bb, fb, cb, e2, _, _⟩ := ownC_pos ob (by omega)
      subst e1 e2
      obtain ⟨p0, p1⟩ := ownC_row2 oa k hlt
      obtain ⟨q0, q1⟩ := ownC_row2 ob k hlm
      have hix1 := idx_at (P := Tryz.prog) (size := 2) Tryz.underlying57 row_info ba fa L.length ca k hlt
      have hix2 := idx_at (P := Tryz.prog) (size := 2) Tryz.underlying57 row_info bb fb M.length cb k hlm
      have hxc := ownC_below (HL.out L[k] (List.getElem_mem hlt)) HW.out
      have hyc := ownC_below (HM.out M[k] (List.getElem_mem hlm)) HW.out
      have hxl := HC.out L[k] (List.getElem_mem hlt)
      have hee := HE.out k hlt hlm
      have hw6 : IntKind.i64.wrap ((k : Int) + 1) = (k : Int) + 1 := wrap64_id _ (by omega) (by omega)
      clear oa ob
      generalize L[k] = x at *
      generalize M[k] = y at *
      obtain ⟨xv, xr⟩ := x
      obtain ⟨yv, yr⟩ := y
      dsimp only at p0 p1 q0 q1 hxc hyc hxl hee
      subst hee
      obtain ⟨xa, xc, rfl⟩ := ownC_sl hxc
      obtain ⟨ya, yc, rfl⟩ := ownC_sl hyc
      have h1 := Below.alloc (Below.refl wr.heap.size wr) (Nat.le_refl _) (.cells #[.slice xa xr.cells.length xc, .bool xr.wrap] 77)
      have h2 := Below.alloc h1 h1.size (.cells #[.slice ya xr.cells.length yc, .bool xr.wrap] 77)
      have HX := Lib.hid (ownC_below hxc h2)
      have HY := Lib.hid (ownC_below hyc h2)
      have H2 := Lib.hid (HW.out.trans (h2.mono HW.out.size))
      have HXL := Lib.hid (show xr.cells.length ≤ 1000000 by omega)
      have q0' := cell_below h1 q0
      have q1' := cell_below h1 q1
      clear hxc hyc h1 h2 q0 q1
      go_wp2_with fail
      refine (sameRow_any xr _ _ _ HX.out HY.out HXL.out).mono ?_
      rintro e w3 ⟨rfl, b3⟩
      have H3 := Lib.hid (H2.out.trans (b3.mono H2.out.size))
      clear b3 p0 p1 q0' q1' hix1 hix2
      go_wp2_with fail
      go_roundw
      case rel => exact ⟨k + 1, by omega, by go_num, H3⟩
      case measure => simp [intOf]; omega
    · have d1 : decide ((k : Int) < (L.length : Int)) = false := decide_eq_false (by omega)
      have d1' : decide (k < L.length) = false := decide_eq_false hlt
      go_wp2_with fail
      exact ret1v rfl rfl rfl ⟨rfl, HW.out⟩
end Go.Proofs.YtjclgoiclbkgjaaGreatDoor

/- Two grids of the same content: Same tells true. -/
namespace Go.Proofs.YtjclgoiclbkgjaaGreatDoor
open Go.RowKit
attribute [local go_sem ↓] Go.wp_at_zero Go.wp_at_succ

theorem wanted_on2 {ops : Array Oper} {o : Oper} {a : Act} {X E : Prop} (hg : Region.wanted o (yielded ops a.tmps) = true) (h : X) : if Region.wanted o (yielded ops a.tmps) = true then X else E := by
  rw [if_pos hg]
  exact h
set_option maxRecDepth 100000 in
set_option maxHeartbeats 4000000 in
theorem same_any {T T2 : Nat → Nat} {p p2 : Nat} {w : World} {g : Gr} (h : GM T p w g) (h2 : GM T2 p2 w g) :
    Calls Tryz.prog 44 #[.pointer (some ⟨p, 0, none⟩), .pointer (some ⟨p2, 0, none⟩)] w fun e w' => e = .returned (.bool true) ∧ Below w.heap.size w w' := by
  obtain ⟨vr, vo, Lr, Lo, h⟩ := h
  obtain ⟨vr2, vo2, Lr2, Lo2, h2⟩ := h2
  have wf := h.wf
  have w1 := wf.r2
  have w2 := wf.c2
  have w3 := wf.ol
  have w4 := wf.li
  obtain ⟨e1, e2⟩ := rows_len h
  have hcl : ∀ x ∈ Lr ++ Lo, x.2.cells.length ≤ 1000 := fun x hx => by
    have hm : x.2 ∈ g.rows ++ g.old := by
      rcases List.mem_append.1 hx with hx | hx
      · exact List.mem_append_left _ (by rw [← h.er]; exact List.mem_map_of_mem hx)
      · exact List.mem_append_right _ (by rw [← h.eo]; exact List.mem_map_of_mem hx)
    have := (wf.ce x.2 hm).1
    omega
  obtain ⟨c0, c1, c2, c3⟩ := gm_cells h
  obtain ⟨k0, k1, k2, k3⟩ := gm_cells h2
  have HF1 := Lib.hid (fun (wx : World) (hb : Below w.heap.size w wx) => equalF_any Lr Lr2 vr vr2 wx (ownC_below h.rr.own hb) (ownC_below h2.rr.own hb) (by rw [h.er, h2.er]) (fun x hx => ownC_below (h.ca x (List.mem_append_left _ hx)).own hb) (fun x hx => ownC_below (h2.ca x (List.mem_append_left _ hx)).own hb) (by omega) (fun x hx => hcl x (List.mem_append_left _ hx)))
  have HF2 := Lib.hid (fun (wx : World) (hb : Below w.heap.size w wx) => equalF_any Lo Lo2 vo vo2 wx (ownC_below h.ro.own hb) (ownC_below h2.ro.own hb) (by rw [h.eo, h2.eo]) (fun x hx => ownC_below (h.ca x (List.mem_append_right _ hx)).own hb) (fun x hx => ownC_below (h2.ca x (List.mem_append_right _ hx)).own hb) (by omega) (fun x hx => hcl x (List.mem_append_right _ hx)))
  obtain ⟨ra, rc, rfl⟩ := ownC_sl h.rr.own
  obtain ⟨oa, oc, rfl⟩ := ownC_sl h.ro.own
  obtain ⟨ra2, rc2, rfl⟩ := ownC_sl h2.rr.own
  obtain ⟨oa2, oc2, rfl⟩ := ownC_sl h2.ro.own
  clear h h2 hcl wf e1 e2
  have hmf : ∀ (fn : Fn) (first cap : Array Value) (w : World), (Instr.makeFunc fn first cap).run Tryz.prog w = .ok (.func fn first cap) w := fun _ _ _ _ => rfl
  go_enter Tryz.func44, Tryz.ntmps44
  go_upto_region 2 with fail
  refine wpL_begin (c := 30) (S := (fun bb w' => (w'.cell? ⟨p, 0, none⟩ = some (.int .i64 g.cols) ∧ w'.cell? ⟨p, 1, none⟩ = some (.int .i64 g.limit) ∧ w'.cell? ⟨p, 2, none⟩ = some (.slice ra Lr.length rc) ∧ w'.cell? ⟨p, 3, none⟩ = some (.slice oa Lo.length oc) ∧ w'.cell? ⟨p2, 0, none⟩ = some (.int .i64 g.cols) ∧ w'.cell? ⟨p2, 1, none⟩ = some (.int .i64 g.limit) ∧ w'.cell? ⟨p2, 2, none⟩ = some (.slice ra2 Lr2.length rc2) ∧ w'.cell? ⟨p2, 3, none⟩ = some (.slice oa2 Lo2.length oc2)) ∧ (bb = false → True))) (by kernel_rfl) (⟨⟨c0, c1, c2, c3, k0, k1, k2, k3⟩, fun _ => trivial⟩) (fun _ => ?_)
  refine wpL_tk false 0 (⟨⟨c0, c1, c2, c3, k0, k1, k2, k3⟩, fun _ => trivial⟩) ?_
  refine wpL_tk false 1 (⟨⟨c0, c1, c2, c3, k0, k1, k2, k3⟩, fun _ => trivial⟩) ?_
  refine wpL_tk false 2 (⟨⟨c0, c1, c2, c3, k0, k1, k2, k3⟩, fun _ => trivial⟩) ?_
  refine wpL_tk false 3 (⟨⟨c0, c1, c2, c3, k0, k1, k2, k3⟩, fun _ => trivial⟩) ?_
  refine wpL_tk false 4 (⟨⟨c0, c1, c2, c3, k0, k1, k2, k3⟩, fun _ => trivial⟩) ?_
  refine wpL_tk false 5 (⟨⟨c0, c1, c2, c3, k0, k1, k2, k3⟩, fun _ => trivial⟩) ?_
  refine wpL_tk false 6 (⟨⟨c0, c1, c2, c3, k0, k1, k2, k3⟩, fun _ => trivial⟩) ?_
  refine wpL_tk false 7 (⟨⟨c0, c1, c2, c3, k0, k1, k2, k3⟩, fun _ => trivial⟩) ?_
  refine wpL_tk false 8 (⟨⟨c0, c1, c2, c3, k0, k1, k2, k3⟩, fun _ => trivial⟩) ?_
  refine wpL_tk false 9 (⟨⟨c0, c1, c2, c3, k0, k1, k2, k3⟩, fun _ => trivial⟩) ?_
  refine wpL_tk false 10 (⟨⟨c0, c1, c2, c3, k0, k1, k2, k3⟩, fun _ => trivial⟩) ?_
  refine wpL_tk false 11 (⟨⟨c0, c1, c2, c3, k0, k1, k2, k3⟩, fun _ => trivial⟩) ?_
  refine wpL_tk false 12 (⟨⟨c0, c1, c2, c3, k0, k1, k2, k3⟩, fun _ => trivial⟩) ?_
  refine wpL_tk false 13 (⟨⟨c0, c1, c2, c3, k0, k1, k2, k3⟩, fun _ => trivial⟩) ?_
  refine wpL_tk false 14 (⟨⟨c0, c1, c2, c3, k0, k1, k2, k3⟩, fun _ => trivial⟩) ?_
  refine wpL_tk false 15 (⟨⟨c0, c1, c2, c3, k0, k1, k2, k3⟩, fun _ => trivial⟩) ?_
  refine wpL_tk false 16 (⟨⟨c0, c1, c2, c3, k0, k1, k2, k3⟩, fun _ => trivial⟩) ?_
  refine wpL_tk false 17 (⟨⟨c0, c1, c2, c3, k0, k1, k2, k3⟩, fun _ => trivial⟩) ?_
  refine wpL_tk false 18 (⟨⟨c0, c1, c2, c3, k0, k1, k2, k3⟩, fun _ => trivial⟩) ?_
  refine wpL_tk false 19 (⟨⟨c0, c1, c2, c3, k0, k1, k2, k3⟩, fun _ => trivial⟩) ?_
  refine wpL_tk false 20 (⟨⟨c0, c1, c2, c3, k0, k1, k2, k3⟩, fun _ => trivial⟩) ?_
  refine wpL_tk false 21 (⟨⟨c0, c1, c2, c3, k0, k1, k2, k3⟩, fun _ => trivial⟩) ?_
  refine wpL_tk false 22 (⟨⟨c0, c1, c2, c3, k0, k1, k2, k3⟩, fun _ => trivial⟩) ?_
  refine wpL_tk false 23 (⟨⟨c0, c1, c2, c3, k0, k1, k2, k3⟩, fun _ => trivial⟩) ?_
  refine wpL_tk false 24 (⟨⟨c0, c1, c2, c3, k0, k1, k2, k3⟩, fun _ => trivial⟩) ?_
  refine wpL_tk false 25 (⟨⟨c0, c1, c2, c3, k0, k1, k2, k3⟩, fun _ => trivial⟩) ?_
  refine wpL_tk false 26 (⟨⟨c0, c1, c2, c3, k0, k1, k2, k3⟩, fun _ => trivial⟩) ?_
  refine wpL_tk false 27 (⟨⟨c0, c1, c2, c3, k0, k1, k2, k3⟩, fun _ => trivial⟩) ?_
  refine wpL_tk false 28 (⟨⟨c0, c1, c2, c3, k0, k1, k2, k3⟩, fun _ => trivial⟩) ?_
  refine wpL_tk false 29 (⟨⟨c0, c1, c2, c3, k0, k1, k2, k3⟩, fun _ => trivial⟩) ?_
  refine wpL_on true 30 fun K hK => ?_
  refine wanted_on2 (by rfl) ?_
  go_wp2_with fail
  refine (HF1.out _ (Below.refl w.heap.size w).drew).mono ?_
  rintro e w4 ⟨rfl, b4⟩
  have HB4 := Lib.hid (show Below w.heap.size w w4 from (Below.refl w.heap.size w).drew.trans b4)
  have c04 := cell_below HB4.out c0
  have c14 := cell_below HB4.out c1
  have c24 := cell_below HB4.out c2
  have c34 := cell_below HB4.out c3
  have k04 := cell_below HB4.out k0
  have k14 := cell_below HB4.out k1
  have k24 := cell_below HB4.out k2
  have k34 := cell_below HB4.out k3
  refine hK.out _ _ (⟨⟨c04, c14, c24, c34, k04, k14, k24, k34⟩, fun _ => trivial⟩) (fun _ => ?_)
  clear hK K b4 c0 c1 c2 c3 k0 k1 k2 k3
  try simp only [Act.put, List.setIfInBounds_toArray, List.set_cons_zero, List.set_cons_succ]
  refine wpL_tk true 31 (⟨⟨c04, c14, c24, c34, k04, k14, k24, k34⟩, fun _ => trivial⟩) ?_
  refine wpL_tk true 32 (⟨⟨c04, c14, c24, c34, k04, k14, k24, k34⟩, fun _ => trivial⟩) ?_
  refine wpL_tk true 33 (⟨⟨c04, c14, c24, c34, k04, k14, k24, k34⟩, fun _ => trivial⟩) ?_
  refine wpL_tk true 34 (⟨⟨c04, c14, c24, c34, k04, k14, k24, k34⟩, fun _ => trivial⟩) ?_
  refine wpL_tk true 35 (⟨⟨c04, c14, c24, c34, k04, k14, k24, k34⟩, fun _ => trivial⟩) ?_
  refine wpL_tk true 36 (⟨⟨c04, c14, c24, c34, k04, k14, k24, k34⟩, fun _ => trivial⟩) ?_
  refine wpL_tk true 37 (⟨⟨c04, c14, c24, c34, k04, k14, k24, k34⟩, fun _ => trivial⟩) ?_
  refine wpL_tk true 38 (⟨⟨c04, c14, c24, c34, k04, k14, k24, k34⟩, fun _ => trivial⟩) ?_
  refine wpL_tk true 39 (⟨⟨c04, c14, c24, c34, k04, k14, k24, k34⟩, fun _ => trivial⟩) ?_
  refine wpL_tk true 40 (⟨⟨c04, c14, c24, c34, k04, k14, k24, k34⟩, fun _ => trivial⟩) ?_
  refine wpL_tk true 41 (⟨⟨c04, c14, c24, c34, k04, k14, k24, k34⟩, fun _ => trivial⟩) ?_
  refine wpL_on true 42 fun K hK => ?_
  refine wanted_on2 (by rfl) ?_
  go_wp2_with fail
  refine (HF2.out _ HB4.out).mono ?_
  rintro e w5 ⟨rfl, b5⟩
  have HB45 := Lib.hid b5
  have HB5 := Lib.hid (HB4.out.trans (b5.mono HB4.out.size))
  have c05 := cell_below HB45.out c04
  have c15 := cell_below HB45.out c14
  have c25 := cell_below HB45.out c24
  have c35 := cell_below HB45.out c34
  have k05 := cell_below HB45.out k04
  have k15 := cell_below HB45.out k14
  have k25 := cell_below HB45.out k24
  have k35 := cell_below HB45.out k34
  refine hK.out _ _ (⟨⟨c05, c15, c25, c35, k05, k15, k25, k35⟩, fun _ => trivial⟩) (fun _ => ?_)
  clear hK K b5 c04 c14 c24 c34 k04 k14 k24 k34
  try simp only [Act.put, List.setIfInBounds_toArray, List.set_cons_zero, List.set_cons_succ]
  refine wpL_tk true 43 (⟨⟨c05, c15, c25, c35, k05, k15, k25, k35⟩, fun _ => trivial⟩) ?_
  refine wpL_tk true 44 (⟨⟨c05, c15, c25, c35, k05, k15, k25, k35⟩, fun _ => trivial⟩) ?_
  refine wpL_done (by kernel_rfl) ?_ _
  go_wp2_with fail
  exact ret1v rfl rfl rfl ⟨rfl, HB5.out⟩
end Go.Proofs.YtjclgoiclbkgjaaGreatDoor

/- The law GridPlays: Clear; the two grids in memory; alike. -/
namespace Go.Proofs.YtjclgoiclbkgjaaGreatDoor
open Go.RowKit
attribute [local go_sem ↓] Go.wp_at_zero Go.wp_at_succ

def Gr.clear (g : Gr) : Gr := { g with old := [] }
theorem clear_wf {g : Gr} (h : g.WF) : g.clear.WF := ⟨h.c1, h.c2, h.r1, h.r2, h.li, Nat.zero_le _, fun r hr => h.ce r (by
  rcases List.mem_append.1 hr with hr | hr
  · exact List.mem_append_left _ hr
  · exact absurd hr (by simp [Gr.clear]))⟩
theorem clear_wh {g : Gr} {P : Rw → Prop} (h : g.All P) : g.clear.All P := fun r hr => h r (by
  rcases List.mem_append.1 hr with hr | hr
  · exact absurd hr (by simp [Gr.clear])
  · exact List.mem_append_right _ hr)
theorem own_len {a : Option Addr} {n m c c2 : Nat} {o : Option Nat} (h : (Value.slice a n c).ownBlock = o) : (Value.slice a m c2).ownBlock = o := by cases a <;> exact h
theorem clear_none {P : Program} {t e : TypeId} (ht : P.underlying t = some (.slice e)) (a : Option Addr) (c : Nat) (ty : TypeId) (w : World) : (Builtin.clear_ #[t] ty #[.slice a 0 c]).run P w = .ok (.tuple #[]) w := by
  cases a <;> simp [Builtin.clear_, run_underlying ht]
theorem clear_own' {P : Program} {t e : TypeId} {size : Nat} {z : Value} (ht : P.underlying t = some (.slice e)) (hz : ∀ w, (zeroValue e).run P w = .ok z w) (hzs : z.cells.size = size) (hz1 : ∀ u ∈ z.cells.toList, u.oneCell' = true) {w : World} {base b off n c : Nat} {xs : List Value} (h : OwnC w base size (.slice (some ⟨b, off, none⟩) n c) n xs)
    (x m c1 : Nat) (hm : 0 < m) (hx : x + m ≤ n) (ty : TypeId) :
    (Builtin.clear_ #[t] ty #[.slice (some ⟨b, off + x * size, none⟩) m c1]).run P w = .ok (.tuple #[]) (w.setCells b (off + x * size) (Builtin.zeroCells z.cells m).toList) := by
  obtain ⟨e1, h2⟩ := h
  rcases h2 with ⟨e, _⟩ | ⟨b', off', c', e, hb, hbs, hnc, hcm, hcells, hxs⟩
  · simp at e
  simp only [Value.slice.injEq, Option.some.injEq, Addr.mk.injEq] at e
  obtain ⟨⟨rfl, rfl, _⟩, _, rfl⟩ := e
  have hzl : (Builtin.zeroCells z.cells m).toList.length = m * size := by simp [Builtin.zeroCells, hzs]
  have hin : ∀ j, j < (Builtin.zeroCells z.cells m).toList.length → x * size + j < c * size := fun j hj => by
    have a1 : x * size + m * size ≤ c * size := by rw [← Nat.add_mul]; exact Nat.mul_le_mul_right _ (by omega)
    omega
  have hone : ∀ u ∈ (Builtin.zeroCells z.cells m).toList, u.oneCell' = true := fun u hu => by
    unfold Builtin.zeroCells at hu
    simp only [Array.toList_map, List.mem_map, Array.mem_toList_iff, Array.mem_range] at hu
    obtain ⟨i, hi, rfl⟩ := hu
    have hpos : 0 < z.cells.size := by
      rcases Nat.eq_zero_or_pos z.cells.size with h0 | h0
      · rw [h0] at hi; simp at hi
      · exact h0
    have hlt := Nat.mod_lt i hpos
    rw [getElem!_pos z.cells _ hlt]
    exact hz1 _ (by simp)
  have hst := run_storeCells_cells (P := P) b (off + x * size) (Builtin.zeroCells z.cells m).toList 0 w (fun j hj => by
      have := (hcells _ (hin j hj)).1
      rwa [← Nat.add_assoc] at this) (fun j hj => by
      have := (hcells _ (hin j hj)).2
      rwa [← Nat.add_assoc] at this) hone
  rw [Nat.add_zero] at hst
  obtain ⟨m', rfl⟩ : ∃ m', m = m' + 1 := ⟨m - 1, by omega⟩
  simp [Builtin.clear_, run_underlying ht, hz, hst]
set_option maxRecDepth 100000 in
set_option maxHeartbeats 2000000 in
theorem clearG_any {T : Nat → Nat} {p : Nat} {w : World} {g : Gr} (h : GM T p w g) :
    Calls Tryz.prog 38 #[.pointer (some ⟨p, 0, none⟩)] w fun e w' => e = .returned (.tuple #[]) ∧ Within (own T w) w w' ∧ GM T p w' g.clear := by
  obtain ⟨vr, vo, Lr, Lo, h0⟩ := h
  obtain ⟨c0, c1, c2, c3⟩ := gm_cells h0
  have hpl := heap_lt h0.blk
  have HG := Lib.hid h0
  -- what clear makes of the world
  obtain ⟨w2, hcl, hg2, ho2⟩ : ∃ w2, (∀ ty, (Builtin.clear_ #[57] ty #[vo]).run Tryz.prog w = .ok (.tuple #[]) w2) ∧ w.grownBy w2 vo.ownBlock ∧ ∃ xs, OwnC w2 0 2 vo Lo.length xs := by
    rcases Nat.eq_zero_or_pos Lo.length with hz | hz
    · obtain ⟨a, c, rfl⟩ := ownC_sl h0.ro.own
      have e0 := List.eq_nil_of_length_eq_zero hz
      subst e0
      exact ⟨w, fun ty => clear_none Tryz.underlying57 a c ty w, gb_refl _ _, _, h0.ro.own⟩
    · obtain ⟨b, off, c, rfl, _, _⟩ := ownC_pos h0.ro.own hz
      obtain ⟨zs, hzl, _⟩ := clear_own (P := Tryz.prog) (size := 2) Tryz.underlying57 zero_row rfl zero_one h0.ro.own 0 Lo.length c hz (by omega) 0
      refine ⟨w.setCells b (off + 0 * 2) (Builtin.zeroCells (Value.agg #[.slice none 0 0, .bool false]).cells Lo.length).toList, fun ty => ?_, gb_setCells _ _ _ _, putAt (rowVals Lo) (0 * 2) (Builtin.zeroCells (Value.agg #[.slice none 0 0, .bool false]).cells Lo.length).toList, ?_⟩
      · have := clear_own' (P := Tryz.prog) (size := 2) Tryz.underlying57 zero_row rfl zero_one h0.ro.own 0 Lo.length c hz (by omega) ty
        simpa using this
      · exact ownC_put h0.ro.own (0 * 2) _ (by simp [Builtin.zeroCells, Value.cells])
  obtain ⟨xs, ho2⟩ := ho2
  obtain ⟨va, vc, rfl⟩ := ownC_sl h0.ro.own
  have hop : (Value.slice va Lo.length vc).ownBlock ≠ some p := fun e => by have h1 := h0.ro.tag p e; rw [h0.tp] at h1; omega
  have hk2 := blk_grown h0.blk hg2 (fun e => hop e.symm)
  have e3 : w2.cell? ⟨p, 3, none⟩ = some (.slice va Lo.length vc) := blk_cell hk2 3
  have f3 : w2.frozen? ⟨p, 3, none⟩ = false := blk_free hk2 3
  have hsl : ∀ wx, (Instr.slice 57 (.slice va Lo.length vc) none (some (.int .i64 0)) none).run Tryz.prog wx = .ok (.slice va 0 vc) wx := fun wx => slice_h (P := Tryz.prog) (size := 2) Tryz.underlying57 row_info va Lo.length vc 0 (Nat.zero_le _) wx
  have HK2 := Lib.hid hk2
  have HO2 := Lib.hid ho2
  have HG2 := Lib.hid hg2
  have HOP := Lib.hid hop
  clear h0 hk2 ho2 hg2 hop c0 c1 c2
  go_enter Tryz.func38, Tryz.ntmps38
  go_wp2_with fail
  go_end0
  have g3 : w2.grownBy (w2.setCell ⟨p, 3, none⟩ (.slice va 0 vc)) (some p) := gb_set (gb_refl _ _) _ _
  have m : Mod T (fun t => t = 3 ∨ t = 1) w (w2.setCell ⟨p, 3, none⟩ (.slice va 0 vc)) := (Mod.of_gb HG2.out (fun k hk => .inl (HG.out.ro.tag k hk))).trans (Mod.of_gb g3 (fun k hk => by injection hk with hk; subst hk; exact .inr HG.out.tp))
  refine ⟨rfl, ⟨m.os, m.tape, m.output, m.size, fun k hk hn => m.block k hk (fun e => hn (.inl (by rcases e with e | e <;> rw [e] <;> decide)))⟩, vr, .slice va 0 vc, Lr, [], ⟨fun k hk => Nat.lt_of_lt_of_le (HG.out.lt k hk) m.size, ?_, HG.out.tp, HG.out.rr.mod m (by decide), ⟨?_, fun k hk => HG.out.ro.tag k (own_len hk)⟩, HG.out.er, rfl, fun x hx => ?_, ?_, clear_wf HG.out.wf⟩⟩
  · exact blk_set HK2.out 3 _
  · have h4 : OwnC w2 0 2 (.slice va 0 vc) 0 [] := by
      rcases HO2.out.2 with ⟨e, _⟩ | ⟨b, off, cap, e, h1, h2, h3, h4, h5, h6⟩
      · simp only [Value.slice.injEq] at e
        obtain ⟨rfl, _, rfl⟩ := e
        exact ownC_nil _ _ _
      · simp only [Value.slice.injEq] at e
        obtain ⟨rfl, _, rfl⟩ := e
        exact ⟨rfl, .inr ⟨b, off, _, rfl, h1, h2, Nat.zero_le _, h4, h5, fun j u hu => by simp at hu⟩⟩
    exact ownC_grown h4 g3 (fun k hk e => HOP.out (by rw [e]; exact own_len hk))
  · rw [List.append_nil] at hx
    exact (HG.out.ca x (List.mem_append_left _ hx)).mod m (fun k _ => by omega)
  · have := HG.out.nd
    rw [List.map_append, List.nodup_append] at this
    rw [List.append_nil]
    exact this.1
theorem rm_clear {T : Nat → Nat} {p : Nat} {vr vo : Value} {Lr Lo : List (Value × Rw)} {w : World} {g : Gr} (h : RAt T p vr vo Lr Lo w g) : RM T p (w.setCell ⟨p, 3, none⟩ (.slice none 0 0)) g.clear ∧ Within (own T w) w (w.setCell ⟨p, 3, none⟩ (.slice none 0 0)) := by
  have g3 : w.grownBy (w.setCell ⟨p, 3, none⟩ (.slice none 0 0)) (some p) := gb_set (gb_refl _ _) _ _
  have m : Mod T (fun t => t = 1) w (w.setCell ⟨p, 3, none⟩ (.slice none 0 0)) := Mod.of_gb g3 (fun k hk => by injection hk with hk; subst hk; exact h.tp)
  refine ⟨⟨vr, .slice none 0 0, Lr, [], ⟨fun k hk => Nat.lt_of_lt_of_le (h.lt k hk) m.size, blk_set h.blk 3 _, h.tp, h.rr.mod m (by decide), row_nil _ _ _ _, h.er, rfl, fun x hx => ?_, ?_, clear_wf h.wf⟩⟩, ⟨m.os, m.tape, m.output, m.size, fun k hk hn => m.block k hk (fun e => hn (.inl (by rw [e]; decide)))⟩⟩
  · rw [List.append_nil] at hx
    exact (h.ca x (List.mem_append_left _ hx)).mod m (fun k _ => by omega)
  · have := h.nd
    rw [List.map_append, List.nodup_append] at this
    rw [List.append_nil]
    exact this.1
/-- The grid and the document's, in memory. -/
structure Bp (w : World) (Tg Tr : Nat → Nat) (q r bp : Nat) (wr : World) (g g2 : Gr) : Prop where
  b : Below w.heap.size w wr
  gm : GM Tg q wr g
  rm : RM Tr r wr g2
  ng : ∀ k, Tg k ≠ 0 → w.heap.size ≤ k
  nr : ∀ k, Tr k ≠ 0 → w.heap.size ≤ k
  ds : ∀ k, Tg k ≠ 0 → Tr k = 0
  tg : Tg bp = 0
  tr : Tr bp = 0
  bb : wr.heap[bp]? = some (.cells #[.pointer (some ⟨q, 0, none⟩), .pointer (some ⟨r, 0, none⟩)] 33 (0, 0))
theorem Bp.below {w : World} {Tg Tr : Nat → Nat} {q r bp : Nat} {wr w2 : World} {g g2 : Gr} (h : Bp w Tg Tr q r bp wr g g2) (b : Below wr.heap.size wr w2) : Bp w Tg Tr q r bp w2 g g2 :=
  ⟨h.b.trans (b.mono h.b.size), h.gm.below b, h.rm.below b, h.ng, h.nr, h.ds, h.tg, h.tr, blk_below h.bb b (heap_lt h.bb)⟩
theorem Bp.turnG {w : World} {Tg Tr T' : Nat → Nat} {q r bp : Nat} {wr w2 : World} {g g2 g' : Gr} (h : Bp w Tg Tr q r bp wr g g2) (hw : Within (own Tg wr) wr w2) (hg : GM T' q w2 g') (hn : ∀ k, T' k ≠ 0 → own Tg wr k) : Bp w T' Tr q r bp w2 g' g2 := by
  have hlt := heap_lt h.bb
  have hno : ¬ own Tg wr bp := fun e => by
    rcases e with e | e
    · exact e h.tg
    · omega
  refine ⟨h.b.trans (own_below hw h.b.size h.ng), hg, h.rm.other hw (fun k hk => Classical.byContradiction fun e => hk (h.ds k e)), fun k hk => ?_, h.nr, fun k hk => ?_, Classical.byContradiction fun e => hno (hn bp e), h.tr, (hw.block bp hlt hno).trans h.bb⟩
  · rcases hn k hk with e | e
    · exact h.ng k e
    · have := h.b.size; omega
  · rcases hn k hk with e | e
    · exact h.ds k e
    · exact h.rm.own0 e
theorem Bp.turnR {w : World} {Tg Tr T' : Nat → Nat} {q r bp : Nat} {wr w2 : World} {g g2 g' : Gr} (h : Bp w Tg Tr q r bp wr g g2) (hw : Within (own Tr wr) wr w2) (hg : RM T' r w2 g') (hn : ∀ k, T' k ≠ 0 → own Tr wr k) : Bp w Tg T' q r bp w2 g g' := by
  have hlt := heap_lt h.bb
  have hno : ¬ own Tr wr bp := fun e => by
    rcases e with e | e
    · exact e h.tr
    · omega
  refine ⟨h.b.trans (own_below hw h.b.size h.nr), h.gm.other hw h.ds, hg, h.ng, fun k hk => ?_, fun k hk => Classical.byContradiction fun e => ?_, h.tg, Classical.byContradiction fun e => hno (hn bp e), (hw.block bp hlt hno).trans h.bb⟩
  · rcases hn k hk with e | e
    · exact h.nr k e
    · have := h.b.size; omega
  · rcases hn k e with e2 | e2
    · exact e2 (h.ds k hk)
    · exact hk (h.gm.own0 e2)
theorem Bp.putG {w : World} {Tg Tr : Nat → Nat} {q r bp : Nat} {wr w2 : World} {g g2 g' : Gr} (h : Bp w Tg Tr q r bp wr g g2) (hw : Within (own Tg wr) wr w2) (hg : GM Tg q w2 g') : Bp w Tg Tr q r bp w2 g' g2 := h.turnG hw hg (fun _ hk => .inl hk)
theorem Bp.putR {w : World} {Tg Tr : Nat → Nat} {q r bp : Nat} {wr w2 : World} {g g2 g' : Gr} (h : Bp w Tg Tr q r bp wr g g2) (hw : Within (own Tr wr) wr w2) (hg : RM Tr r w2 g') : Bp w Tg Tr q r bp w2 g g' := h.turnR hw hg (fun _ hk => .inl hk)
set_option maxRecDepth 100000 in
set_option maxHeartbeats 4000000 in
theorem alike_any {Tg Tr : Nat → Nat} {q r : Nat} {w : World} {g : Gr} (hg : GM Tg q w g) (hr : RM Tr r w g) :
    Calls Tryz.prog 8 #[.pointer (some ⟨q, 0, none⟩), .pointer (some ⟨r, 0, none⟩)] w fun e w' => e = .returned (.bool true) ∧ Below w.heap.size w w' := by
  have HG := Lib.hid hg
  have HR := Lib.hid hr
  have wf := hg.wf
  have hrl := wf.r2
  have hol : g.old.length ≤ 2000 := by have := wf.ol; have := wf.li; omega
  have HWF := Lib.hid wf
  obtain ⟨vr, vo, Lr, Lo, h0⟩ := hr
  obtain ⟨c0, c1, c2, c3⟩ := rm_cells h0
  obtain ⟨e1, e2⟩ := rrows_len h0
  have hl1 := ownC_ln Tryz.underlying62 h0.rr.own
  have hl2 := ownC_ln Tryz.underlying62 h0.ro.own
  rw [e1] at hl1
  rw [e2] at hl2
  have HCC := Lib.hid (fun wx (bx : Below w.heap.size w wx) => (show wx.cell? ⟨r, 2, none⟩ = some vr ∧ wx.cell? ⟨r, 3, none⟩ = some vo from ⟨cell_below bx c2, cell_below bx c3⟩))
  clear h0 e1 e2 hg wf
  go_enter Tryz.func8, Tryz.ntmps8
  have HD := Lib.hid ((Below.refl w.heap.size w).drew)
  have d0 : w.drew.cell? ⟨r, 0, none⟩ = some (.int .i64 g.cols) := c0
  have d1 : w.drew.cell? ⟨r, 1, none⟩ = some (.int .i64 g.limit) := c1
  have d2 : w.drew.cell? ⟨r, 2, none⟩ = some vr := c2
  have d3 : w.drew.cell? ⟨r, 3, none⟩ = some vo := c3
  have HGd := Lib.hid (HG.out.below HD.out)
  go_upto_region 1 with fail
  refine wpL_begin (c := 99) (S := (fun bb w' => (w'.cell? ⟨r, 0, none⟩ = some (.int .i64 g.cols) ∧ w'.cell? ⟨r, 1, none⟩ = some (.int .i64 g.limit) ∧ w'.cell? ⟨r, 2, none⟩ = some vr ∧ w'.cell? ⟨r, 3, none⟩ = some vo) ∧ (bb = false → True))) (by kernel_rfl) (⟨⟨d0, d1, d2, d3⟩, fun _ => trivial⟩) (fun _ => ?_)
  refine wpL_tk false 0 (⟨⟨d0, d1, d2, d3⟩, fun _ => trivial⟩) ?_
  refine wpL_tk false 2 (⟨⟨d0, d1, d2, d3⟩, fun _ => trivial⟩) ?_
  refine wpL_tk false 3 (⟨⟨d0, d1, d2, d3⟩, fun _ => trivial⟩) ?_
  refine wpL_tk false 4 (⟨⟨d0, d1, d2, d3⟩, fun _ => trivial⟩) ?_
  refine wpL_tk false 5 (⟨⟨d0, d1, d2, d3⟩, fun _ => trivial⟩) ?_
  refine wpL_on false 1 fun K hK => ?_
  refine wanted_on rfl ?_
  go_wp2_with fail
  refine (cols_any HGd.out).mono ?_
  rintro e wx1 ⟨rfl, hx1⟩
  subst wx1
  refine hK.out _ _ (⟨⟨d0, d1, d2, d3⟩, fun _ => trivial⟩) (fun _ => ?_)
  clear hK K 
  try simp only [Act.put, List.setIfInBounds_toArray, List.set_cons_zero, List.set_cons_succ]
  refine wpL_tk false 6 (⟨⟨d0, d1, d2, d3⟩, fun _ => trivial⟩) ?_
  refine wpL_tk false 7 (⟨⟨d0, d1, d2, d3⟩, fun _ => trivial⟩) ?_
  refine wpL_tk false 8 (⟨⟨d0, d1, d2, d3⟩, fun _ => trivial⟩) ?_
  refine wpL_tk false 10 (⟨⟨d0, d1, d2, d3⟩, fun _ => trivial⟩) ?_
  refine wpL_tk false 11 (⟨⟨d0, d1, d2, d3⟩, fun _ => trivial⟩) ?_
  refine wpL_tk false 12 (⟨⟨d0, d1, d2, d3⟩, fun _ => trivial⟩) ?_
  refine wpL_tk false 13 (⟨⟨d0, d1, d2, d3⟩, fun _ => trivial⟩) ?_
  refine wpL_tk false 14 (⟨⟨d0, d1, d2, d3⟩, fun _ => trivial⟩) ?_
  refine wpL_on false 9 fun K hK => ?_
  refine wanted_yes rfl ?_
  go_wp2_with fail
  refine (rowsN_any HGd.out).mono ?_
  rintro e wx1 ⟨rfl, hx1⟩
  subst wx1
  refine hK.out _ _ (⟨⟨d0, d1, d2, d3⟩, fun _ => trivial⟩) (fun _ => ?_)
  clear hK K 
  try simp only [Act.put, List.setIfInBounds_toArray, List.set_cons_zero, List.set_cons_succ]
  refine wpL_tk false 15 (⟨⟨d0, d1, d2, d3⟩, fun _ => trivial⟩) ?_
  refine wpL_tk false 16 (⟨⟨d0, d1, d2, d3⟩, fun _ => trivial⟩) ?_
  refine wpL_tk false 17 (⟨⟨d0, d1, d2, d3⟩, fun _ => trivial⟩) ?_
  refine wpL_tk false 18 (⟨⟨d0, d1, d2, d3⟩, fun _ => trivial⟩) ?_
  refine wpL_tk false 20 (⟨⟨d0, d1, d2, d3⟩, fun _ => trivial⟩) ?_
  refine wpL_tk false 21 (⟨⟨d0, d1, d2, d3⟩, fun _ => trivial⟩) ?_
  refine wpL_tk false 22 (⟨⟨d0, d1, d2, d3⟩, fun _ => trivial⟩) ?_
  refine wpL_tk false 23 (⟨⟨d0, d1, d2, d3⟩, fun _ => trivial⟩) ?_
  refine wpL_tk false 24 (⟨⟨d0, d1, d2, d3⟩, fun _ => trivial⟩) ?_
  refine wpL_on false 19 fun K hK => ?_
  refine wanted_yes rfl ?_
  go_wp2_with fail
  refine (history_any HGd.out).mono ?_
  rintro e wx1 ⟨rfl, hx1⟩
  subst wx1
  refine hK.out _ _ (⟨⟨d0, d1, d2, d3⟩, fun _ => trivial⟩) (fun _ => ?_)
  clear hK K 
  try simp only [Act.put, List.setIfInBounds_toArray, List.set_cons_zero, List.set_cons_succ]
  refine wpL_tk false 25 (⟨⟨d0, d1, d2, d3⟩, fun _ => trivial⟩) ?_
  refine wpL_tk false 26 (⟨⟨d0, d1, d2, d3⟩, fun _ => trivial⟩) ?_
  refine wpL_tk false 27 (⟨⟨d0, d1, d2, d3⟩, fun _ => trivial⟩) ?_
  refine wpL_tk false 28 (⟨⟨d0, d1, d2, d3⟩, fun _ => trivial⟩) ?_
  refine wpL_tk false 30 (⟨⟨d0, d1, d2, d3⟩, fun _ => trivial⟩) ?_
  refine wpL_tk false 31 (⟨⟨d0, d1, d2, d3⟩, fun _ => trivial⟩) ?_
  refine wpL_tk false 32 (⟨⟨d0, d1, d2, d3⟩, fun _ => trivial⟩) ?_
  refine wpL_tk false 33 (⟨⟨d0, d1, d2, d3⟩, fun _ => trivial⟩) ?_
  refine wpL_on false 29 fun K hK => ?_
  refine wanted_yes rfl ?_
  go_wp2_with fail
  refine (limit_any HGd.out).mono ?_
  rintro e wx1 ⟨rfl, hx1⟩
  subst wx1
  refine hK.out _ _ (⟨⟨d0, d1, d2, d3⟩, fun _ => trivial⟩) (fun _ => ?_)
  clear hK K 
  try simp only [Act.put, List.setIfInBounds_toArray, List.set_cons_zero, List.set_cons_succ]
  refine wpL_tk false 34 (⟨⟨d0, d1, d2, d3⟩, fun _ => trivial⟩) ?_
  refine wpL_tk false 35 (⟨⟨d0, d1, d2, d3⟩, fun _ => trivial⟩) ?_
  refine wpL_done (by kernel_rfl) ?_ _
  clear c0 c1 c2 c3 d0 d1
  have hn3 : IntKind.i64.wrap (-(g.old.length : Int)) = -(g.old.length : Int) := wrap64_id _ (by omega) (by omega)
  generalize w.drew = wd at *
  go_upto_region 4 with fail
  clear d2 d3
  go_loopw [5] (fun yv wr => ∃ y : Int, -(g.old.length : Int) ≤ y ∧ y ≤ (g.rows.length : Int) ∧ yv = .int .i64 y ∧ Hid (Below w.heap.size w wr)) (fun yv _ => ((g.rows.length : Int) - intOf yv).toNat)
  case atStart => exact ⟨_, Int.le_refl _, by omega, rfl, HD⟩
  case round =>
    obtain ⟨y, hy1, hy2, rfl, HB⟩ := hrel
    obtain ⟨z2, z3⟩ := HCC.out _ HB.out
    by_cases hlt : y < (g.rows.length : Int)
    · have t1 : decide (y < (g.rows.length : Int)) = true := decide_eq_true hlt
      have hwy : IntKind.i64.wrap (y + 1) = y + 1 := wrap64_id _ (by omega) (by omega)
      have HRW := Lib.hid (wf_row HWF.out y)
      go_wp2_with fail
      refine (line_any (HG.out.below HB.out) y (by have := HRW.out.1; omega)).mono ?_
      rintro e w5 ⟨v5, rfl, b5, o5⟩
      have HB5 := Lib.hid (HB.out.trans (b5.mono HB.out.size))
      have HO5 := Lib.hid o5
      clear b5 o5
      go_wp2_with fail
      refine (lineD_any (HR.out.below HB5.out) y).mono ?_
      rintro e w6 ⟨v6, rfl, b6, o6⟩
      have HB6 := Lib.hid (HB5.out.trans (b6.mono HB5.out.size))
      have HO6 := Lib.hid (ownC_below o6 b6)
      have HO5' := Lib.hid (ownC_below HO5.out b6)
      clear b6 o6
      go_wp2_with fail
      refine (sameCells_any (g.row y).cells (g.row y).cells v5 v6 w6 (ownC_mono HO5'.out (Nat.zero_le _)) HO6.out (by have := HRW.out.1; omega) (by have := HRW.out.1; omega)).mono ?_
      rintro e w7 ⟨bv, rfl, hbv, b7⟩
      have hbt : bv = true := hbv.2 rfl
      subst hbt
      have HB7 := Lib.hid (HB6.out.trans (b7.mono HB6.out.size))
      clear b7 hbv
      go_wp2_with fail
      refine (wrapped_any (HG.out.below HB7.out) y).mono ?_
      rintro e w8 ⟨rfl, b8⟩
      have HB8 := Lib.hid (HB7.out.trans (b8.mono HB7.out.size))
      clear b8
      go_wp2_with fail
      refine (wrappedD_any (HR.out.below HB8.out) y).mono ?_
      rintro e w9 ⟨rfl, b9⟩
      have HB9 := Lib.hid (HB8.out.trans (b9.mono HB8.out.size))
      clear b9
      have hbb : ((g.row y).wrap != (g.row y).wrap) = false := by cases (g.row y).wrap <;> rfl
      have hbb2 : decide ((g.row y).wrap = (g.row y).wrap) = true := decide_eq_true rfl
      generalize (g.row y).wrap = wv at *
      go_wp2_with fail
      go_roundw
      case rel => exact ⟨y + 1, by omega, by omega, by go_num, HB9⟩
      case measure => simp [intOf]; omega
    · have t1 : decide (y < (g.rows.length : Int)) = false := decide_eq_false hlt
      go_wp2_with fail
      exact ret1v rfl rfl rfl ⟨rfl, HB.out⟩
end Go.Proofs.YtjclgoiclbkgjaaGreatDoor
