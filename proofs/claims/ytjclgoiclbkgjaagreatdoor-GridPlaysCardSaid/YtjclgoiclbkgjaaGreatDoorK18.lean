/- Package grid, texts laid together: N8 N9. -/
import Derived.Test.YtjclgoiclbkgjaaGreatDoorK17
import Derived.Test.YtjclgoiclbkgjaaGreatDoorK14
import Derived.Test.YtjclgoiclbkgjaaGreatDoorK4
import Derived.Test.YtjclgoiclbkgjaaGreatDoorK7
import Derived.Deep.QuietTactic
import Derived.BigQuiet
import Derived.Test.YtjclgoiclbkgjaaGreatDoorK12
/- Walks of the document's grid: Put. -/
namespace Go.Proofs.YtjclgoiclbkgjaaGreatDoor
open Go.RowKit

theorem wanted_yes {ops : Array Oper} {o : Oper} {a : Act} {X E : Prop} (h0 : Region.wanted o (yielded ops a.tmps) = true) (h : X) : if Region.wanted o (yielded ops a.tmps) = true then X else E := by
  rw [if_pos h0]
  exact h
set_option maxRecDepth 100000 in
set_option maxHeartbeats 8000000 in
theorem putD_any {T : Nat → Nat} {p : Nat} {w : World} {g : Gr} (h : RM T p w g) (hwh : g.All WhR) (x y : Int) (c : Cel) (hck : c.Ok) :
    Calls Tryz.prog 25 #[.pointer (some ⟨p, 0, none⟩), .int .i64 x, .int .i64 y, c.val] w fun e w' => e = .returned (.tuple #[]) ∧ Within (own T w) w w' ∧ RM T p w' (g.put x y c) := by
  obtain ⟨cr, cw, cs⟩ := c
  have hBz := Below.alloc (Below.refl w.heap.size w) (Nat.le_refl _) (.cells #[.int .i32 cr, .int .i64 cw, .int .i64 cs.fg, .int .i64 cs.bg, .int .i64 cs.attr] 38)
  have HB := Lib.hid hBz
  have H := Lib.hid (h.below hBz)
  have HKS := Lib.hid (blk_new w (.cells #[.int .i32 cr, .int .i64 cw, .int .i64 cs.fg, .int .i64 cs.bg, .int .i64 cs.attr] 38))
  have HLT := Lib.hid h.lt
  have HWH := Lib.hid hwh
  clear h hBz hwh
  go_enter Tryz.func25, Tryz.ntmps25
  unfold Cel.val
  go_upto_region 1 with fail
  generalize w.alloc (.cells #[.int .i32 cr, .int .i64 cw, .int .i64 cs.fg, .int .i64 cs.bg, .int .i64 cs.attr] 38) = wa at *
  have s0 : wa.cell? ⟨w.heap.size, 2, none⟩ = some (.int .i64 cs.fg) := blk_cell HKS.out 2
  have s1 : wa.cell? ⟨w.heap.size, 3, none⟩ = some (.int .i64 cs.bg) := blk_cell HKS.out 3
  have s2 : wa.cell? ⟨w.heap.size, 4, none⟩ = some (.int .i64 cs.attr) := blk_cell HKS.out 4
  go_wp2_with fail
  refine (rightStyle_any cs wa).mono ?_
  rintro e w3 ⟨rfl, b3⟩
  have HB3 := Lib.hid (HB.out.trans (b3.mono HB.out.size))
  have H3 := Lib.hid (H.out.below b3)
  have HK3 := Lib.hid (blk_below HKS.out b3 (heap_lt HKS.out))
  clear b3 s0 s1 s2
  have e0 : w3.cell? ⟨w.heap.size, 0, none⟩ = some (.int .i32 cr) := blk_cell HK3.out 0
  have e1 : w3.cell? ⟨w.heap.size, 1, none⟩ = some (.int .i64 cw) := blk_cell HK3.out 1
  cases hok : okS cs
  · have HE := Lib.hid (show g.put x y ⟨cr, cw, cs⟩ = g by unfold Gr.put Gr.putOk Gr.onIt; rw [hok]; simp)
    go_upto_region 2 with fail
    go_quiet (fail)
    go_wp2_with fail
    refine ret0w rfl rfl ⟨rfl, Within.of_below (below_drewN HB3.out _), ?_⟩
    rw [HE.out]
    exact H3.out.below (below_drewN (Below.refl _ _) _)
  by_cases hw1 : cw < 1
  · have d1 : decide (cw < 1) = true := decide_eq_true hw1
    have HE := Lib.hid (show g.put x y ⟨cr, cw, cs⟩ = g by unfold Gr.put; rw [if_neg (fun e => by have := putOk_iff e; dsimp only at this; omega)])
    go_upto_region 2 with fail
    go_quiet (fail)
    go_wp2_with fail
    refine ret0w rfl rfl ⟨rfl, Within.of_below (below_drewN HB3.out _), ?_⟩
    rw [HE.out]
    exact H3.out.below (below_drewN (Below.refl _ _) _)
  have d1 : decide (cw < 1) = false := decide_eq_false hw1
  by_cases hw2 : 2 < cw
  · have d2 : decide (2 < cw) = true := decide_eq_true hw2
    have HE := Lib.hid (show g.put x y ⟨cr, cw, cs⟩ = g by unfold Gr.put; rw [if_neg (fun e => by have := putOk_iff e; have h8 := wid_le cr; dsimp only at this; omega)])
    go_upto_region 2 with fail
    go_quiet (fail)
    go_wp2_with fail
    refine ret0w rfl rfl ⟨rfl, Within.of_below (below_drewN HB3.out _), ?_⟩
    rw [HE.out]
    exact H3.out.below (below_drewN (Below.refl _ _) _)
  have d2 : decide (2 < cw) = false := decide_eq_false hw2
  have HW3 := Lib.hid (refWidth_any cr w3.drew)
  obtain ⟨vr, vo, Lr, Lo, hA0⟩ := H3.out
  have HA := Lib.hid hA0
  have hlen := (rrows_len hA0).1
  have hrl := hA0.wf.r2
  have hcl := hA0.wf.c2
  obtain ⟨c0, _, c2, _⟩ := rm_cells hA0
  have hl := ownC_ln Tryz.underlying62 hA0.rr.own
  have hwc : IntKind.i64.wrap ((g.cols : Int) - cw) = (g.cols : Int) - cw := wrap64_id _ (by omega) (by omega)
  have HLEN := Lib.hid hlen
  clear hA0 hlen
  have HOUT := Lib.hid (show ∀ w4, Below w3.heap.size w3 w4 → Within (own T w) w w4 ∧ RM T p w4 g from fun w4 b4 => ⟨Within.of_below (HB3.out.trans (b4.mono HB3.out.size)), H3.out.below b4⟩)
  obtain ⟨wd, hwd⟩ : ∃ wd, wd = wid cr := ⟨_, rfl⟩
  rw [← hwd] at HW3
  have HWD := Lib.hid hwd
  clear hwd
  by_cases hw3 : wd = cw
  rotate_left
  · have d3 : (wd != cw) = true := by simp [hw3]
    have HE := Lib.hid (show g.put x y ⟨cr, cw, cs⟩ = g by unfold Gr.put; rw [if_neg (fun e => by have h9 := putOk_iff e; have h8 := HWD.out; have h7 := HLEN.out; dsimp only at h9; omega)])
    go_upto_region 2 with fail
    refine wpL_begin (c := 47) (S := (fun bb w' => (w'.cell? ⟨w.heap.size, 0, none⟩ = some (.int .i32 cr) ∧ w'.cell? ⟨w.heap.size, 1, none⟩ = some (.int .i64 cw) ∧ w'.cell? ⟨p, 0, none⟩ = some (.int .i64 g.cols) ∧ w'.cell? ⟨p, 2, none⟩ = some vr) ∧ (bb = false → True))) (by kernel_rfl) (⟨⟨e0, e1, c0, c2⟩, fun _ => trivial⟩) (fun _ => ?_)
    refine wpL_tk false 0 (⟨⟨e0, e1, c0, c2⟩, fun _ => trivial⟩) ?_
    refine wpL_tk false 1 (⟨⟨e0, e1, c0, c2⟩, fun _ => trivial⟩) ?_
    refine wpL_tk false 2 (⟨⟨e0, e1, c0, c2⟩, fun _ => trivial⟩) ?_
    refine wpL_tk false 3 (⟨⟨e0, e1, c0, c2⟩, fun _ => trivial⟩) ?_
    refine wpL_tk false 4 (⟨⟨e0, e1, c0, c2⟩, fun _ => trivial⟩) ?_
    refine wpL_tk false 5 (⟨⟨e0, e1, c0, c2⟩, fun _ => trivial⟩) ?_
    refine wpL_tk false 6 (⟨⟨e0, e1, c0, c2⟩, fun _ => trivial⟩) ?_
    refine wpL_tk false 7 (⟨⟨e0, e1, c0, c2⟩, fun _ => trivial⟩) ?_
    refine wpL_tk false 8 (⟨⟨e0, e1, c0, c2⟩, fun _ => trivial⟩) ?_
    refine wpL_tk false 9 (⟨⟨e0, e1, c0, c2⟩, fun _ => trivial⟩) ?_
    refine wpL_tk false 10 (⟨⟨e0, e1, c0, c2⟩, fun _ => trivial⟩) ?_
    refine wpL_tk false 11 (⟨⟨e0, e1, c0, c2⟩, fun _ => trivial⟩) ?_
    refine wpL_tk false 12 (⟨⟨e0, e1, c0, c2⟩, fun _ => trivial⟩) ?_
    refine wpL_tk false 13 (⟨⟨e0, e1, c0, c2⟩, fun _ => trivial⟩) ?_
    refine wpL_tk false 14 (⟨⟨e0, e1, c0, c2⟩, fun _ => trivial⟩) ?_
    refine wpL_tk false 16 (⟨⟨e0, e1, c0, c2⟩, fun _ => trivial⟩) ?_
    refine wpL_tk false 17 (⟨⟨e0, e1, c0, c2⟩, fun _ => trivial⟩) ?_
    refine wpL_on false 15 fun K hK => ?_
    refine wanted_yes rfl ?_
    go_wp2_with fail
    refine HW3.out.mono ?_
    rintro e w4 ⟨rfl, b4⟩
    have HB4 := Lib.hid (show Below w3.heap.size w3 w4 from (Below.refl w3.heap.size w3).drew.trans b4)
    have hs4 : w4.cell? ⟨w.heap.size, 0, none⟩ = some (.int .i32 cr) ∧ w4.cell? ⟨w.heap.size, 1, none⟩ = some (.int .i64 cw) ∧ w4.cell? ⟨p, 0, none⟩ = some (.int .i64 g.cols) ∧ w4.cell? ⟨p, 2, none⟩ = some vr := ⟨cell_below HB4.out e0, cell_below HB4.out e1, cell_below HB4.out c0, cell_below HB4.out c2⟩
    refine hK.out _ _ (⟨hs4, fun _ => trivial⟩) (fun _ => ?_)
    clear hK K b4
    try simp only [Act.put, List.setIfInBounds_toArray, List.set_cons_zero, List.set_cons_succ]
    refine wpL_tk false 18 (⟨hs4, fun _ => trivial⟩) ?_
    refine wpL_tk false 19 (⟨hs4, fun _ => trivial⟩) ?_
    refine wpL_tk false 20 (⟨hs4, fun _ => trivial⟩) ?_
    refine wpL_un false 21 (⟨hs4, fun _ => trivial⟩) ?_
    refine wpL_un false 22 (⟨hs4, fun _ => trivial⟩) ?_
    refine wpL_tk false 23 (⟨hs4, fun _ => trivial⟩) ?_
    refine wpL_tk false 24 (⟨hs4, fun _ => trivial⟩) ?_
    refine wpL_un false 25 (⟨hs4, fun _ => trivial⟩) ?_
    refine wpL_un false 26 (⟨hs4, fun _ => trivial⟩) ?_
    refine wpL_un false 27 (⟨hs4, fun _ => trivial⟩) ?_
    refine wpL_un false 28 (⟨hs4, fun _ => trivial⟩) ?_
    refine wpL_un false 29 (⟨hs4, fun _ => trivial⟩) ?_
    refine wpL_un false 30 (⟨hs4, fun _ => trivial⟩) ?_
    refine wpL_un false 31 (⟨hs4, fun _ => trivial⟩) ?_
    refine wpL_tk false 32 (⟨hs4, fun _ => trivial⟩) ?_
    refine wpL_tk false 33 (⟨hs4, fun _ => trivial⟩) ?_
    refine wpL_un false 34 (⟨hs4, fun _ => trivial⟩) ?_
    refine wpL_un false 35 (⟨hs4, fun _ => trivial⟩) ?_
    refine wpL_tk false 36 (⟨hs4, fun _ => trivial⟩) ?_
    refine wpL_tk false 37 (⟨hs4, fun _ => trivial⟩) ?_
    refine wpL_un false 38 (⟨hs4, fun _ => trivial⟩) ?_
    refine wpL_un false 39 (⟨hs4, fun _ => trivial⟩) ?_
    refine wpL_un false 40 (⟨hs4, fun _ => trivial⟩) ?_
    refine wpL_un false 41 (⟨hs4, fun _ => trivial⟩) ?_
    refine wpL_un false 42 (⟨hs4, fun _ => trivial⟩) ?_
    refine wpL_un false 43 (⟨hs4, fun _ => trivial⟩) ?_
    refine wpL_un false 44 (⟨hs4, fun _ => trivial⟩) ?_
    refine wpL_un false 45 (⟨hs4, fun _ => trivial⟩) ?_
    refine wpL_un false 46 (⟨hs4, fun _ => trivial⟩) ?_
    refine wpL_on true 47 fun K hK => ?_
    refine wanted_on rfl ?_
    go_wp2_with fail
    refine hK.out _ _ (⟨hs4, fun _ => trivial⟩) (fun _ => ?_)
    clear hK K 
    try simp only [Act.put, List.setIfInBounds_toArray, List.set_cons_zero, List.set_cons_succ]
    refine wpL_done (by kernel_rfl) ?_ _
    go_wp2_with fail
    have ho := HOUT.out w4 HB4.out
    refine ret0w rfl rfl ⟨rfl, ho.1, ?_⟩
    rw [HE.out]
    exact ho.2
  have d3 : (wd != cw) = false := by simp [hw3]
  have HWC := Lib.hid hw3
  clear hw3
  by_cases hy0 : y < 0
  · have d4 : decide (y < 0) = true := decide_eq_true hy0
    have HE := Lib.hid (show g.put x y ⟨cr, cw, cs⟩ = g by unfold Gr.put; rw [if_neg (fun e => by have h9 := putOk_iff e; have h8 := HWD.out; have h7 := HLEN.out; dsimp only at h9; omega)])
    go_upto_region 2 with fail
    refine wpL_begin (c := 47) (S := (fun bb w' => (w'.cell? ⟨w.heap.size, 0, none⟩ = some (.int .i32 cr) ∧ w'.cell? ⟨w.heap.size, 1, none⟩ = some (.int .i64 cw) ∧ w'.cell? ⟨p, 0, none⟩ = some (.int .i64 g.cols) ∧ w'.cell? ⟨p, 2, none⟩ = some vr) ∧ (bb = false → True))) (by kernel_rfl) (⟨⟨e0, e1, c0, c2⟩, fun _ => trivial⟩) (fun _ => ?_)
    refine wpL_tk false 0 (⟨⟨e0, e1, c0, c2⟩, fun _ => trivial⟩) ?_
    refine wpL_tk false 1 (⟨⟨e0, e1, c0, c2⟩, fun _ => trivial⟩) ?_
    refine wpL_tk false 2 (⟨⟨e0, e1, c0, c2⟩, fun _ => trivial⟩) ?_
    refine wpL_tk false 3 (⟨⟨e0, e1, c0, c2⟩, fun _ => trivial⟩) ?_
    refine wpL_tk false 4 (⟨⟨e0, e1, c0, c2⟩, fun _ => trivial⟩) ?_
    refine wpL_tk false 5 (⟨⟨e0, e1, c0, c2⟩, fun _ => trivial⟩) ?_
    refine wpL_tk false 6 (⟨⟨e0, e1, c0, c2⟩, fun _ => trivial⟩) ?_
    refine wpL_tk false 7 (⟨⟨e0, e1, c0, c2⟩, fun _ => trivial⟩) ?_
    refine wpL_tk false 8 (⟨⟨e0, e1, c0, c2⟩, fun _ => trivial⟩) ?_
    refine wpL_tk false 9 (⟨⟨e0, e1, c0, c2⟩, fun _ => trivial⟩) ?_
    refine wpL_tk false 10 (⟨⟨e0, e1, c0, c2⟩, fun _ => trivial⟩) ?_
    refine wpL_tk false 11 (⟨⟨e0, e1, c0, c2⟩, fun _ => trivial⟩) ?_
    refine wpL_tk false 12 (⟨⟨e0, e1, c0, c2⟩, fun _ => trivial⟩) ?_
    refine wpL_tk false 13 (⟨⟨e0, e1, c0, c2⟩, fun _ => trivial⟩) ?_
    refine wpL_tk false 14 (⟨⟨e0, e1, c0, c2⟩, fun _ => trivial⟩) ?_
    refine wpL_tk false 16 (⟨⟨e0, e1, c0, c2⟩, fun _ => trivial⟩) ?_
    refine wpL_tk false 17 (⟨⟨e0, e1, c0, c2⟩, fun _ => trivial⟩) ?_
    refine wpL_on false 15 fun K hK => ?_
    refine wanted_yes rfl ?_
    go_wp2_with fail
    refine HW3.out.mono ?_
    rintro e w4 ⟨rfl, b4⟩
    have HB4 := Lib.hid (show Below w3.heap.size w3 w4 from (Below.refl w3.heap.size w3).drew.trans b4)
    have hs4 : w4.cell? ⟨w.heap.size, 0, none⟩ = some (.int .i32 cr) ∧ w4.cell? ⟨w.heap.size, 1, none⟩ = some (.int .i64 cw) ∧ w4.cell? ⟨p, 0, none⟩ = some (.int .i64 g.cols) ∧ w4.cell? ⟨p, 2, none⟩ = some vr := ⟨cell_below HB4.out e0, cell_below HB4.out e1, cell_below HB4.out c0, cell_below HB4.out c2⟩
    refine hK.out _ _ (⟨hs4, fun _ => trivial⟩) (fun _ => ?_)
    clear hK K b4
    try simp only [Act.put, List.setIfInBounds_toArray, List.set_cons_zero, List.set_cons_succ]
    refine wpL_tk false 18 (⟨hs4, fun _ => trivial⟩) ?_
    refine wpL_tk false 19 (⟨hs4, fun _ => trivial⟩) ?_
    refine wpL_tk false 20 (⟨hs4, fun _ => trivial⟩) ?_
    refine wpL_tk false 21 (⟨hs4, fun _ => trivial⟩) ?_
    refine wpL_tk false 22 (⟨hs4, fun _ => trivial⟩) ?_
    refine wpL_tk false 23 (⟨hs4, fun _ => trivial⟩) ?_
    refine wpL_tk false 24 (⟨hs4, fun _ => trivial⟩) ?_
    refine wpL_un false 25 (⟨hs4, fun _ => trivial⟩) ?_
    refine wpL_un false 26 (⟨hs4, fun _ => trivial⟩) ?_
    refine wpL_un false 27 (⟨hs4, fun _ => trivial⟩) ?_
    refine wpL_un false 28 (⟨hs4, fun _ => trivial⟩) ?_
    refine wpL_un false 29 (⟨hs4, fun _ => trivial⟩) ?_
    refine wpL_un false 30 (⟨hs4, fun _ => trivial⟩) ?_
    refine wpL_un false 31 (⟨hs4, fun _ => trivial⟩) ?_
    refine wpL_tk false 32 (⟨hs4, fun _ => trivial⟩) ?_
    refine wpL_tk false 33 (⟨hs4, fun _ => trivial⟩) ?_
    refine wpL_un false 34 (⟨hs4, fun _ => trivial⟩) ?_
    refine wpL_un false 35 (⟨hs4, fun _ => trivial⟩) ?_
    refine wpL_tk false 36 (⟨hs4, fun _ => trivial⟩) ?_
    refine wpL_tk false 37 (⟨hs4, fun _ => trivial⟩) ?_
    refine wpL_un false 38 (⟨hs4, fun _ => trivial⟩) ?_
    refine wpL_un false 39 (⟨hs4, fun _ => trivial⟩) ?_
    refine wpL_un false 40 (⟨hs4, fun _ => trivial⟩) ?_
    refine wpL_un false 41 (⟨hs4, fun _ => trivial⟩) ?_
    refine wpL_un false 42 (⟨hs4, fun _ => trivial⟩) ?_
    refine wpL_un false 43 (⟨hs4, fun _ => trivial⟩) ?_
    refine wpL_un false 44 (⟨hs4, fun _ => trivial⟩) ?_
    refine wpL_un false 45 (⟨hs4, fun _ => trivial⟩) ?_
    refine wpL_un false 46 (⟨hs4, fun _ => trivial⟩) ?_
    refine wpL_on true 47 fun K hK => ?_
    refine wanted_on rfl ?_
    go_wp2_with fail
    refine hK.out _ _ (⟨hs4, fun _ => trivial⟩) (fun _ => ?_)
    clear hK K 
    try simp only [Act.put, List.setIfInBounds_toArray, List.set_cons_zero, List.set_cons_succ]
    refine wpL_done (by kernel_rfl) ?_ _
    go_wp2_with fail
    have ho := HOUT.out w4 HB4.out
    refine ret0w rfl rfl ⟨rfl, ho.1, ?_⟩
    rw [HE.out]
    exact ho.2
  have d4 : decide (y < 0) = false := decide_eq_false hy0
  by_cases hy1 : (Lr.length : Int) ≤ y
  · have d5 : decide ((Lr.length : Int) ≤ y) = true := decide_eq_true hy1
    have HE := Lib.hid (show g.put x y ⟨cr, cw, cs⟩ = g by unfold Gr.put; rw [if_neg (fun e => by have h9 := putOk_iff e; have h8 := HWD.out; have h7 := HLEN.out; dsimp only at h9; omega)])
    go_upto_region 2 with fail
    refine wpL_begin (c := 47) (S := (fun bb w' => (w'.cell? ⟨w.heap.size, 0, none⟩ = some (.int .i32 cr) ∧ w'.cell? ⟨w.heap.size, 1, none⟩ = some (.int .i64 cw) ∧ w'.cell? ⟨p, 0, none⟩ = some (.int .i64 g.cols) ∧ w'.cell? ⟨p, 2, none⟩ = some vr) ∧ (bb = false → True))) (by kernel_rfl) (⟨⟨e0, e1, c0, c2⟩, fun _ => trivial⟩) (fun _ => ?_)
    refine wpL_tk false 0 (⟨⟨e0, e1, c0, c2⟩, fun _ => trivial⟩) ?_
    refine wpL_tk false 1 (⟨⟨e0, e1, c0, c2⟩, fun _ => trivial⟩) ?_
    refine wpL_tk false 2 (⟨⟨e0, e1, c0, c2⟩, fun _ => trivial⟩) ?_
    refine wpL_tk false 3 (⟨⟨e0, e1, c0, c2⟩, fun _ => trivial⟩) ?_
    refine wpL_tk false 4 (⟨⟨e0, e1, c0, c2⟩, fun _ => trivial⟩) ?_
    refine wpL_tk false 5 (⟨⟨e0, e1, c0, c2⟩, fun _ => trivial⟩) ?_
    refine wpL_tk false 6 (⟨⟨e0, e1, c0, c2⟩, fun _ => trivial⟩) ?_
    refine wpL_tk false 7 (⟨⟨e0, e1, c0, c2⟩, fun _ => trivial⟩) ?_
    refine wpL_tk false 8 (⟨⟨e0, e1, c0, c2⟩, fun _ => trivial⟩) ?_
    refine wpL_tk false 9 (⟨⟨e0, e1, c0, c2⟩, fun _ => trivial⟩) ?_
    refine wpL_tk false 10 (⟨⟨e0, e1, c0, c2⟩, fun _ => trivial⟩) ?_
    refine wpL_tk false 11 (⟨⟨e0, e1, c0, c2⟩, fun _ => trivial⟩) ?_
    refine wpL_tk false 12 (⟨⟨e0, e1, c0, c2⟩, fun _ => trivial⟩) ?_
    refine wpL_tk false 13 (⟨⟨e0, e1, c0, c2⟩, fun _ => trivial⟩) ?_
    refine wpL_tk false 14 (⟨⟨e0, e1, c0, c2⟩, fun _ => trivial⟩) ?_
    refine wpL_tk false 16 (⟨⟨e0, e1, c0, c2⟩, fun _ => trivial⟩) ?_
    refine wpL_tk false 17 (⟨⟨e0, e1, c0, c2⟩, fun _ => trivial⟩) ?_
    refine wpL_on false 15 fun K hK => ?_
    refine wanted_yes rfl ?_
    go_wp2_with fail
    refine HW3.out.mono ?_
    rintro e w4 ⟨rfl, b4⟩
    have HB4 := Lib.hid (show Below w3.heap.size w3 w4 from (Below.refl w3.heap.size w3).drew.trans b4)
    have hs4 : w4.cell? ⟨w.heap.size, 0, none⟩ = some (.int .i32 cr) ∧ w4.cell? ⟨w.heap.size, 1, none⟩ = some (.int .i64 cw) ∧ w4.cell? ⟨p, 0, none⟩ = some (.int .i64 g.cols) ∧ w4.cell? ⟨p, 2, none⟩ = some vr := ⟨cell_below HB4.out e0, cell_below HB4.out e1, cell_below HB4.out c0, cell_below HB4.out c2⟩
    refine hK.out _ _ (⟨hs4, fun _ => trivial⟩) (fun _ => ?_)
    clear hK K b4
    try simp only [Act.put, List.setIfInBounds_toArray, List.set_cons_zero, List.set_cons_succ]
    refine wpL_tk false 18 (⟨hs4, fun _ => trivial⟩) ?_
    refine wpL_tk false 19 (⟨hs4, fun _ => trivial⟩) ?_
    refine wpL_tk false 20 (⟨hs4, fun _ => trivial⟩) ?_
    refine wpL_tk false 21 (⟨hs4, fun _ => trivial⟩) ?_
    refine wpL_tk false 22 (⟨hs4, fun _ => trivial⟩) ?_
    refine wpL_tk false 23 (⟨hs4, fun _ => trivial⟩) ?_
    refine wpL_tk false 24 (⟨hs4, fun _ => trivial⟩) ?_
    refine wpL_tk false 25 (⟨hs4, fun _ => trivial⟩) ?_
    refine wpL_tk false 26 (⟨hs4, fun _ => trivial⟩) ?_
    refine wpL_tk false 27 (⟨hs4, fun _ => trivial⟩) ?_
    refine wpL_tk false 28 (⟨hs4, fun _ => trivial⟩) ?_
    refine wpL_tk false 29 (⟨hs4, fun _ => trivial⟩) ?_
    refine wpL_tk false 30 (⟨hs4, fun _ => trivial⟩) ?_
    refine wpL_tk false 31 (⟨hs4, fun _ => trivial⟩) ?_
    refine wpL_tk false 32 (⟨hs4, fun _ => trivial⟩) ?_
    refine wpL_tk false 33 (⟨hs4, fun _ => trivial⟩) ?_
    refine wpL_un false 34 (⟨hs4, fun _ => trivial⟩) ?_
    refine wpL_un false 35 (⟨hs4, fun _ => trivial⟩) ?_
    refine wpL_tk false 36 (⟨hs4, fun _ => trivial⟩) ?_
    refine wpL_tk false 37 (⟨hs4, fun _ => trivial⟩) ?_
    refine wpL_un false 38 (⟨hs4, fun _ => trivial⟩) ?_
    refine wpL_un false 39 (⟨hs4, fun _ => trivial⟩) ?_
    refine wpL_un false 40 (⟨hs4, fun _ => trivial⟩) ?_
    refine wpL_un false 41 (⟨hs4, fun _ => trivial⟩) ?_
    refine wpL_un false 42 (⟨hs4, fun _ => trivial⟩) ?_
    refine wpL_un false 43 (⟨hs4, fun _ => trivial⟩) ?_
    refine wpL_un false 44 (⟨hs4, fun _ => trivial⟩) ?_
    refine wpL_un false 45 (⟨hs4, fun _ => trivial⟩) ?_
    refine wpL_un false 46 (⟨hs4, fun _ => trivial⟩) ?_
    refine wpL_on true 47 fun K hK => ?_
    refine wanted_on rfl ?_
    go_wp2_with fail
    refine hK.out _ _ (⟨hs4, fun _ => trivial⟩) (fun _ => ?_)
    clear hK K 
    try simp only [Act.put, List.setIfInBounds_toArray, List.set_cons_zero, List.set_cons_succ]
    refine wpL_done (by kernel_rfl) ?_ _
    go_wp2_with fail
    have ho := HOUT.out w4 HB4.out
    refine ret0w rfl rfl ⟨rfl, ho.1, ?_⟩
    rw [HE.out]
    exact ho.2
  have d5 : decide ((Lr.length : Int) ≤ y) = false := decide_eq_false hy1
  by_cases hx0 : x < 0
  · have d6 : decide (x < 0) = true := decide_eq_true hx0
    have HE := Lib.hid (show g.put x y ⟨cr, cw, cs⟩ = g by unfold Gr.put; rw [if_neg (fun e => by have h9 := putOk_iff e; have h8 := HWD.out; have h7 := HLEN.out; dsimp only at h9; omega)])
    go_upto_region 2 with fail
    refine wpL_begin (c := 47) (S := (fun bb w' => (w'.cell? ⟨w.heap.size, 0, none⟩ = some (.int .i32 cr) ∧ w'.cell? ⟨w.heap.size, 1, none⟩ = some (.int .i64 cw) ∧ w'.cell? ⟨p, 0, none⟩ = some (.int .i64 g.cols) ∧ w'.cell? ⟨p, 2, none⟩ = some vr) ∧ (bb = false → True))) (by kernel_rfl) (⟨⟨e0, e1, c0, c2⟩, fun _ => trivial⟩) (fun _ => ?_)
    refine wpL_tk false 0 (⟨⟨e0, e1, c0, c2⟩, fun _ => trivial⟩) ?_
    refine wpL_tk false 1 (⟨⟨e0, e1, c0, c2⟩, fun _ => trivial⟩) ?_
    refine wpL_tk false 2 (⟨⟨e0, e1, c0, c2⟩, fun _ => trivial⟩) ?_
    refine wpL_tk false 3 (⟨⟨e0, e1, c0, c2⟩, fun _ => trivial⟩) ?_
    refine wpL_tk false 4 (⟨⟨e0, e1, c0, c2⟩, fun _ => trivial⟩) ?_
    refine wpL_tk false 5 (⟨⟨e0, e1, c0, c2⟩, fun _ => trivial⟩) ?_
    refine wpL_tk false 6 (⟨⟨e0, e1, c0, c2⟩, fun _ => trivial⟩) ?_
    refine wpL_tk false 7 (⟨⟨e0, e1, c0, c2⟩, fun _ => trivial⟩) ?_
    refine wpL_tk false 8 (⟨⟨e0, e1, c0, c2⟩, fun _ => trivial⟩) ?_
    refine wpL_tk false 9 (⟨⟨e0, e1, c0, c2⟩, fun _ => trivial⟩) ?_
    refine wpL_tk false 10 (⟨⟨e0, e1, c0, c2⟩, fun _ => trivial⟩) ?_
    refine wpL_tk false 11 (⟨⟨e0, e1, c0, c2⟩, fun _ => trivial⟩) ?_
    refine wpL_tk false 12 (⟨⟨e0, e1, c0, c2⟩, fun _ => trivial⟩) ?_
    refine wpL_tk false 13 (⟨⟨e0, e1, c0, c2⟩, fun _ => trivial⟩) ?_
    refine wpL_tk false 14 (⟨⟨e0, e1, c0, c2⟩, fun _ => trivial⟩) ?_
    refine wpL_tk false 16 (⟨⟨e0, e1, c0, c2⟩, fun _ => trivial⟩) ?_
    refine wpL_tk false 17 (⟨⟨e0, e1, c0, c2⟩, fun _ => trivial⟩) ?_
    refine wpL_on false 15 fun K hK => ?_
    refine wanted_yes rfl ?_
    go_wp2_with fail
    refine HW3.out.mono ?_
    rintro e w4 ⟨rfl, b4⟩
    have HB4 := Lib.hid (show Below w3.heap.size w3 w4 from (Below.refl w3.heap.size w3).drew.trans b4)
    have hs4 : w4.cell? ⟨w.heap.size, 0, none⟩ = some (.int .i32 cr) ∧ w4.cell? ⟨w.heap.size, 1, none⟩ = some (.int .i64 cw) ∧ w4.cell? ⟨p, 0, none⟩ = some (.int .i64 g.cols) ∧ w4.cell? ⟨p, 2, none⟩ = some vr := ⟨cell_below HB4.out e0, cell_below HB4.out e1, cell_below HB4.out c0, cell_below HB4.out c2⟩
    refine hK.out _ _ (⟨hs4, fun _ => trivial⟩) (fun _ => ?_)
    clear hK K b4
    try simp only [Act.put, List.setIfInBounds_toArray, List.set_cons_zero, List.set_cons_succ]
    refine wpL_tk false 18 (⟨hs4, fun _ => trivial⟩) ?_
    refine wpL_tk false 19 (⟨hs4, fun _ => trivial⟩) ?_
    refine wpL_tk false 20 (⟨hs4, fun _ => trivial⟩) ?_
    refine wpL_tk false 21 (⟨hs4, fun _ => trivial⟩) ?_
    refine wpL_tk false 22 (⟨hs4, fun _ => trivial⟩) ?_
    refine wpL_tk false 23 (⟨hs4, fun _ => trivial⟩) ?_
    refine wpL_tk false 24 (⟨hs4, fun _ => trivial⟩) ?_
    refine wpL_tk false 25 (⟨hs4, fun _ => trivial⟩) ?_
    refine wpL_tk false 26 (⟨hs4, fun _ => trivial⟩) ?_
    refine wpL_tk false 27 (⟨hs4, fun _ => trivial⟩) ?_
    refine wpL_tk false 28 (⟨hs4, fun _ => trivial⟩) ?_
    refine wpL_tk false 29 (⟨hs4, fun _ => trivial⟩) ?_
    refine wpL_tk false 30 (⟨hs4, fun _ => trivial⟩) ?_
    refine wpL_tk false 31 (⟨hs4, fun _ => trivial⟩) ?_
    refine wpL_tk false 32 (⟨hs4, fun _ => trivial⟩) ?_
    refine wpL_tk false 33 (⟨hs4, fun _ => trivial⟩) ?_
    refine wpL_tk false 34 (⟨hs4, fun _ => trivial⟩) ?_
    refine wpL_tk false 35 (⟨hs4, fun _ => trivial⟩) ?_
    refine wpL_tk false 36 (⟨hs4, fun _ => trivial⟩) ?_
    refine wpL_tk false 37 (⟨hs4, fun _ => trivial⟩) ?_
    refine wpL_un false 38 (⟨hs4, fun _ => trivial⟩) ?_
    refine wpL_un false 39 (⟨hs4, fun _ => trivial⟩) ?_
    refine wpL_un false 40 (⟨hs4, fun _ => trivial⟩) ?_
    refine wpL_un false 41 (⟨hs4, fun _ => trivial⟩) ?_
    refine wpL_un false 42 (⟨hs4, fun _ => trivial⟩) ?_
    refine wpL_un false 43 (⟨hs4, fun _ => trivial⟩) ?_
    refine wpL_un false 44 (⟨hs4, fun _ => trivial⟩) ?_
    refine wpL_un false 45 (⟨hs4, fun _ => trivial⟩) ?_
    refine wpL_un false 46 (⟨hs4, fun _ => trivial⟩) ?_
    refine wpL_on true 47 fun K hK => ?_
    refine wanted_on rfl ?_
    go_wp2_with fail
    refine hK.out _ _ (⟨hs4, fun _ => trivial⟩) (fun _ => ?_)
    clear hK K 
    try simp only [Act.put, List.setIfInBounds_toArray, List.set_cons_zero, List.set_cons_succ]
    refine wpL_done (by kernel_rfl) ?_ _
    go_wp2_with fail
    have ho := HOUT.out w4 HB4.out
    refine ret0w rfl rfl ⟨rfl, ho.1, ?_⟩
    rw [HE.out]
    exact ho.2
  have d6 : decide (x < 0) = false := decide_eq_false hx0
  by_cases hx1 : (g.cols : Int) - cw < x
  · have d7 : decide ((g.cols : Int) - cw < x) = true := decide_eq_true hx1
    have HE := Lib.hid (show g.put x y ⟨cr, cw, cs⟩ = g by unfold Gr.put; rw [if_neg (fun e => by have h9 := putOk_iff e; have h8 := HWD.out; have h7 := HLEN.out; dsimp only at h9; omega)])
    go_upto_region 2 with fail
    refine wpL_begin (c := 47) (S := (fun bb w' => (w'.cell? ⟨w.heap.size, 0, none⟩ = some (.int .i32 cr) ∧ w'.cell? ⟨w.heap.size, 1, none⟩ = some (.int .i64 cw) ∧ w'.cell? ⟨p, 0, none⟩ = some (.int .i64 g.cols) ∧ w'.cell? ⟨p, 2, none⟩ = some vr) ∧ (bb = false → True))) (by kernel_rfl) (⟨⟨e0, e1, c0, c2⟩, fun _ => trivial⟩) (fun _ => ?_)
    refine wpL_tk false 0 (⟨⟨e0, e1, c0, c2⟩, fun _ => trivial⟩) ?_
    refine wpL_tk false 1 (⟨⟨e0, e1, c0, c2⟩, fun _ => trivial⟩) ?_
    refine wpL_tk false 2 (⟨⟨e0, e1, c0, c2⟩, fun _ => trivial⟩) ?_
    refine wpL_tk false 3 (⟨⟨e0, e1, c0, c2⟩, fun _ => trivial⟩) ?_
    refine wpL_tk false 4 (⟨⟨e0, e1, c0, c2⟩, fun _ => trivial⟩) ?_
    refine wpL_tk false 5 (⟨⟨e0, e1, c0, c2⟩, fun _ => trivial⟩) ?_
    refine wpL_tk false 6 (⟨⟨e0, e1, c0, c2⟩, fun _ => trivial⟩) ?_
    refine wpL_tk false 7 (⟨⟨e0, e1, c0, c2⟩, fun _ => trivial⟩) ?_
    refine wpL_tk false 8 (⟨⟨e0, e1, c0, c2⟩, fun _ => trivial⟩) ?_
    refine wpL_tk false 9 (⟨⟨e0, e1, c0, c2⟩, fun _ => trivial⟩) ?_
    refine wpL_tk false 10 (⟨⟨e0, e1, c0, c2⟩, fun _ => trivial⟩) ?_
    refine wpL_tk false 11 (⟨⟨e0, e1, c0, c2⟩, fun _ => trivial⟩) ?_
    refine wpL_tk false 12 (⟨⟨e0, e1, c0, c2⟩, fun _ => trivial⟩) ?_
    refine wpL_tk false 13 (⟨⟨e0, e1, c0, c2⟩, fun _ => trivial⟩) ?_
    refine wpL_tk false 14 (⟨⟨e0, e1, c0, c2⟩, fun _ => trivial⟩) ?_
    refine wpL_tk false 16 (⟨⟨e0, e1, c0, c2⟩, fun _ => trivial⟩) ?_
    refine wpL_tk false 17 (⟨⟨e0, e1, c0, c2⟩, fun _ => trivial⟩) ?_
    refine wpL_on false 15 fun K hK => ?_
    refine wanted_yes rfl ?_
    go_wp2_with fail
    refine HW3.out.mono ?_
    rintro e w4 ⟨rfl, b4⟩
    have HB4 := Lib.hid (show Below w3.heap.size w3 w4 from (Below.refl w3.heap.size w3).drew.trans b4)
    have hs4 : w4.cell? ⟨w.heap.size, 0, none⟩ = some (.int .i32 cr) ∧ w4.cell? ⟨w.heap.size, 1, none⟩ = some (.int .i64 cw) ∧ w4.cell? ⟨p, 0, none⟩ = some (.int .i64 g.cols) ∧ w4.cell? ⟨p, 2, none⟩ = some vr := ⟨cell_below HB4.out e0, cell_below HB4.out e1, cell_below HB4.out c0, cell_below HB4.out c2⟩
    refine hK.out _ _ (⟨hs4, fun _ => trivial⟩) (fun _ => ?_)
    clear hK K b4
    try simp only [Act.put, List.setIfInBounds_toArray, List.set_cons_zero, List.set_cons_succ]
    refine wpL_tk false 18 (⟨hs4, fun _ => trivial⟩) ?_
    refine wpL_tk false 19 (⟨hs4, fun _ => trivial⟩) ?_
    refine wpL_tk false 20 (⟨hs4, fun _ => trivial⟩) ?_
    refine wpL_tk false 21 (⟨hs4, fun _ => trivial⟩) ?_
    refine wpL_tk false 22 (⟨hs4, fun _ => trivial⟩) ?_
    refine wpL_tk false 23 (⟨hs4, fun _ => trivial⟩) ?_
    refine wpL_tk false 24 (⟨hs4, fun _ => trivial⟩) ?_
    refine wpL_tk false 25 (⟨hs4, fun _ => trivial⟩) ?_
    refine wpL_tk false 26 (⟨hs4, fun _ => trivial⟩) ?_
    refine wpL_tk false 27 (⟨hs4, fun _ => trivial⟩) ?_
    refine wpL_tk false 28 (⟨hs4, fun _ => trivial⟩) ?_
    refine wpL_tk false 29 (⟨hs4, fun _ => trivial⟩) ?_
    refine wpL_tk false 30 (⟨hs4, fun _ => trivial⟩) ?_
    refine wpL_tk false 31 (⟨hs4, fun _ => trivial⟩) ?_
    refine wpL_tk false 32 (⟨hs4, fun _ => trivial⟩) ?_
    refine wpL_tk false 33 (⟨hs4, fun _ => trivial⟩) ?_
    refine wpL_tk false 34 (⟨hs4, fun _ => trivial⟩) ?_
    refine wpL_tk false 35 (⟨hs4, fun _ => trivial⟩) ?_
    refine wpL_tk false 36 (⟨hs4, fun _ => trivial⟩) ?_
    refine wpL_tk false 37 (⟨hs4, fun _ => trivial⟩) ?_
    refine wpL_tk false 38 (⟨hs4, fun _ => trivial⟩) ?_
    refine wpL_tk false 39 (⟨hs4, fun _ => trivial⟩) ?_
    refine wpL_tk false 40 (⟨hs4, fun _ => trivial⟩) ?_
    refine wpL_tk false 41 (⟨hs4, fun _ => trivial⟩) ?_
    refine wpL_tk false 42 (⟨hs4, fun _ => trivial⟩) ?_
    refine wpL_tk false 43 (⟨hs4, fun _ => trivial⟩) ?_
    refine wpL_tk false 44 (⟨hs4, fun _ => trivial⟩) ?_
    refine wpL_tk false 45 (⟨hs4, fun _ => trivial⟩) ?_
    refine wpL_tk false 46 (⟨hs4, fun _ => trivial⟩) ?_
    refine wpL_on true 47 fun K hK => ?_
    refine wanted_on rfl ?_
    go_wp2_with fail
    refine hK.out _ _ (⟨hs4, fun _ => trivial⟩) (fun _ => ?_)
    clear hK K 
    try simp only [Act.put, List.setIfInBounds_toArray, List.set_cons_zero, List.set_cons_succ]
    refine wpL_done (by kernel_rfl) ?_ _
    go_wp2_with fail
    have ho := HOUT.out w4 HB4.out
    refine ret0w rfl rfl ⟨rfl, ho.1, ?_⟩
    rw [HE.out]
    exact ho.2
  have d7 : decide ((g.cols : Int) - cw < x) = false := decide_eq_false hx1
  obtain ⟨xn, rfl⟩ : ∃ k : Nat, x = (k : Int) := ⟨x.toNat, by omega⟩
  obtain ⟨yn, rfl⟩ : ∃ k : Nat, y = (k : Int) := ⟨y.toNat, by omega⟩
  have hyl : yn < Lr.length := by omega
  have d5' : decide (Lr.length ≤ yn) = false := decide_eq_false (by omega)
  have hwx2 : (xn : Int) + cw ≤ (g.cols : Int) := by omega
  have hcw1 : 1 ≤ cw ∧ cw ≤ 2 := by omega
  have HE := Lib.hid (show g.put xn yn ⟨cr, cw, cs⟩ = g.turn yn (fun l => layL l xn ⟨cr, cw, cs⟩) by
    have h7 := HLEN.out
    have hon : g.onIt xn yn cs = true := by
      unfold Gr.onIt
      rw [decide_eq_true (show 0 ≤ (yn : Int) by omega), decide_eq_true (show (yn : Int) < (g.rows.length : Int) by omega), decide_eq_true (show 0 ≤ (xn : Int) by omega), decide_eq_true (show (xn : Int) < (g.cols : Int) by omega), hok]
      rfl
    unfold Gr.put Gr.putOk
    rw [hon, decide_eq_true (show (1 : Int) ≤ cw from hcw1.1), decide_eq_true hwx2, beq_iff_eq.2 (show cw = wid cr by rw [← HWD.out]; exact HWC.out.symm), Int.toNat_natCast, Int.toNat_natCast]
    rfl)
  go_upto_region 2 with fail
  refine wpL_begin (c := 47) (S := (fun bb w' => (w'.cell? ⟨w.heap.size, 0, none⟩ = some (.int .i32 cr) ∧ w'.cell? ⟨w.heap.size, 1, none⟩ = some (.int .i64 cw) ∧ w'.cell? ⟨p, 0, none⟩ = some (.int .i64 g.cols) ∧ w'.cell? ⟨p, 2, none⟩ = some vr) ∧ (bb = false → True))) (by kernel_rfl) (⟨⟨e0, e1, c0, c2⟩, fun _ => trivial⟩) (fun _ => ?_)
  refine wpL_tk false 0 (⟨⟨e0, e1, c0, c2⟩, fun _ => trivial⟩) ?_
  refine wpL_tk false 1 (⟨⟨e0, e1, c0, c2⟩, fun _ => trivial⟩) ?_
  refine wpL_tk false 2 (⟨⟨e0, e1, c0, c2⟩, fun _ => trivial⟩) ?_
  refine wpL_tk false 3 (⟨⟨e0, e1, c0, c2⟩, fun _ => trivial⟩) ?_
  refine wpL_tk false 4 (⟨⟨e0, e1, c0, c2⟩, fun _ => trivial⟩) ?_
  refine wpL_tk false 5 (⟨⟨e0, e1, c0, c2⟩, fun _ => trivial⟩) ?_
  refine wpL_tk false 6 (⟨⟨e0, e1, c0, c2⟩, fun _ => trivial⟩) ?_
  refine wpL_tk false 7 (⟨⟨e0, e1, c0, c2⟩, fun _ => trivial⟩) ?_
  refine wpL_tk false 8 (⟨⟨e0, e1, c0, c2⟩, fun _ => trivial⟩) ?_
  refine wpL_tk false 9 (⟨⟨e0, e1, c0, c2⟩, fun _ => trivial⟩) ?_
  refine wpL_tk false 10 (⟨⟨e0, e1, c0, c2⟩, fun _ => trivial⟩) ?_
  refine wpL_tk false 11 (⟨⟨e0, e1, c0, c2⟩, fun _ => trivial⟩) ?_
  refine wpL_tk false 12 (⟨⟨e0, e1, c0, c2⟩, fun _ => trivial⟩) ?_
  refine wpL_tk false 13 (⟨⟨e0, e1, c0, c2⟩, fun _ => trivial⟩) ?_
  refine wpL_tk false 14 (⟨⟨e0, e1, c0, c2⟩, fun _ => trivial⟩) ?_
  refine wpL_tk false 16 (⟨⟨e0, e1, c0, c2⟩, fun _ => trivial⟩) ?_
  refine wpL_tk false 17 (⟨⟨e0, e1, c0, c2⟩, fun _ => trivial⟩) ?_
  refine wpL_on false 15 fun K hK => ?_
  refine wanted_yes rfl ?_
  go_wp2_with fail
  refine HW3.out.mono ?_
  rintro e w4 ⟨rfl, b4⟩
  have HB4 := Lib.hid (show Below w3.heap.size w3 w4 from (Below.refl w3.heap.size w3).drew.trans b4)
  have hs4 : w4.cell? ⟨w.heap.size, 0, none⟩ = some (.int .i32 cr) ∧ w4.cell? ⟨w.heap.size, 1, none⟩ = some (.int .i64 cw) ∧ w4.cell? ⟨p, 0, none⟩ = some (.int .i64 g.cols) ∧ w4.cell? ⟨p, 2, none⟩ = some vr := ⟨cell_below HB4.out e0, cell_below HB4.out e1, cell_below HB4.out c0, cell_below HB4.out c2⟩
  refine hK.out _ _ (⟨hs4, fun _ => trivial⟩) (fun _ => ?_)
  clear hK K b4
  try simp only [Act.put, List.setIfInBounds_toArray, List.set_cons_zero, List.set_cons_succ]
  refine wpL_tk false 18 (⟨hs4, fun _ => trivial⟩) ?_
  refine wpL_tk false 19 (⟨hs4, fun _ => trivial⟩) ?_
  refine wpL_tk false 20 (⟨hs4, fun _ => trivial⟩) ?_
  refine wpL_tk false 21 (⟨hs4, fun _ => trivial⟩) ?_
  refine wpL_tk false 22 (⟨hs4, fun _ => trivial⟩) ?_
  refine wpL_tk false 23 (⟨hs4, fun _ => trivial⟩) ?_
  refine wpL_tk false 24 (⟨hs4, fun _ => trivial⟩) ?_
  refine wpL_tk false 25 (⟨hs4, fun _ => trivial⟩) ?_
  refine wpL_tk false 26 (⟨hs4, fun _ => trivial⟩) ?_
  refine wpL_tk false 27 (⟨hs4, fun _ => trivial⟩) ?_
  refine wpL_tk false 28 (⟨hs4, fun _ => trivial⟩) ?_
  refine wpL_tk false 29 (⟨hs4, fun _ => trivial⟩) ?_
  refine wpL_tk false 30 (⟨hs4, fun _ => trivial⟩) ?_
  refine wpL_tk false 31 (⟨hs4, fun _ => trivial⟩) ?_
  refine wpL_tk false 32 (⟨hs4, fun _ => trivial⟩) ?_
  refine wpL_tk false 33 (⟨hs4, fun _ => trivial⟩) ?_
  refine wpL_tk false 34 (⟨hs4, fun _ => trivial⟩) ?_
  refine wpL_tk false 35 (⟨hs4, fun _ => trivial⟩) ?_
  refine wpL_tk false 36 (⟨hs4, fun _ => trivial⟩) ?_
  refine wpL_tk false 37 (⟨hs4, fun _ => trivial⟩) ?_
  refine wpL_tk false 38 (⟨hs4, fun _ => trivial⟩) ?_
  refine wpL_tk false 39 (⟨hs4, fun _ => trivial⟩) ?_
  refine wpL_tk false 40 (⟨hs4, fun _ => trivial⟩) ?_
  refine wpL_tk false 41 (⟨hs4, fun _ => trivial⟩) ?_
  refine wpL_tk false 42 (⟨hs4, fun _ => trivial⟩) ?_
  refine wpL_tk false 43 (⟨hs4, fun _ => trivial⟩) ?_
  refine wpL_tk false 44 (⟨hs4, fun _ => trivial⟩) ?_
  refine wpL_tk false 45 (⟨hs4, fun _ => trivial⟩) ?_
  refine wpL_tk false 46 (⟨hs4, fun _ => trivial⟩) ?_
  refine wpL_on true 47 fun K hK => ?_
  refine wanted_on rfl ?_
  go_wp2_with fail
  refine hK.out _ _ (⟨hs4, fun _ => trivial⟩) (fun _ => ?_)
  clear hK K 
  try simp only [Act.put, List.setIfInBounds_toArray, List.set_cons_zero, List.set_cons_succ]
  refine wpL_done (by kernel_rfl) ?_ _
  have HB4b := Lib.hid (HB3.out.trans (HB4.out.mono HB3.out.size))
  have HA4 := Lib.hid (HA.out.mod (.of_below HB4.out) id id id (fun _ => id))
  have HK4 := Lib.hid (blk_below HK3.out HB4.out (heap_lt HK3.out))
  have hrc : Lr[yn].2.cells.length = g.cols := (HA.out.wf.ce _ (List.mem_append_left _ (by rw [← HA.out.er]; exact List.mem_map_of_mem (List.getElem_mem hyl)))).1
  have hrok : ∀ c ∈ Lr[yn].2.cells, c.Ok := (HA.out.wf.ce _ (List.mem_append_left _ (by rw [← HA.out.er]; exact List.mem_map_of_mem (List.getElem_mem hyl)))).2
  have hwr : Wh Lr[yn].2.cells := HWH.out _ (List.mem_append_right _ (by rw [← HA.out.er]; exact List.mem_map_of_mem (List.getElem_mem hyl)))
  have hcx := HA4.out.ca Lr[yn] (List.mem_append_left _ (List.getElem_mem hyl))
  obtain ⟨b, off, vc, hxv, hnc, hcm⟩ := ownC_pos hcx.own (by omega)
  rw [hrc] at hxv hnc
  have O4 := hcx.own
  rw [hxv, hrc] at O4
  have hbt : T b = 10 + b := by
    obtain ⟨q, e1, e2⟩ := hcx.tag
    rw [hxv] at e1
    simp only [Value.ownBlock] at e1
    injection e1 with e1
    subst e1; exact e2
  have hbl : b < w.heap.size := HLT.out b (by omega)
  obtain ⟨rb, ro, rc, hvr, _, _⟩ := ownC_pos HA4.out.rr.own (by omega)
  subst hvr
  obtain ⟨r0, r1⟩ := ownC_row2 HA4.out.rr.own yn hyl
  rw [hxv] at r0
  obtain ⟨c0', _, c2', _⟩ := rm_cells HA4.out
  have hixr := idx_at (P := Tryz.prog) (size := 2) Tryz.underlying62 rowD_info rb ro Lr.length rc yn hyl
  clear e0 e1 c0 c2 hcx hs4 hl hwc
  generalize hlx : Lr[yn].2.cells = lx at *
  have hgc : g.cols ≤ 1000000 := by omega
  have hwrap : IntKind.i64.wrap ((xn : Int) + cw) = (xn : Int) + cw := wrap64_id _ (by omega) (by omega)
  have HW4 := Lib.hid hwr
  go_wp2_with fail
  refine (cutD_any lx xn b off g.cols vc w4 O4 hrc hgc (by omega) hwr).mono ?_
  rintro e w5 ⟨rfl, g5, o5⟩
  have hbk5 := blk_grown HK4.out g5 (by intro e; injection e with e; omega)
  have z1 : w5.cell? ⟨w.heap.size, 1, none⟩ = some (.int .i64 cw) := blk_cell hbk5 1
  have HO5 := Lib.hid o5
  have HK5 := Lib.hid hbk5
  have HG5 := Lib.hid g5
  have HW5 := Lib.hid (cutL_wh HW4.out xn)
  clear o5 hbk5 g5 O4 r0 r1 c0' c2' hixr hwr
  go_wp2_with fail
  refine (cutD_any (cutL lx xn) ((xn : Int) + cw) b off g.cols vc w5 HO5.out (by rw [cutL_len]; exact hrc) hgc (by omega) HW5.out).mono ?_
  rintro e w6 ⟨rfl, g6, o6⟩
  have hbk6 := blk_grown HK5.out g6 (by intro e; injection e with e; omega)
  have HG6 := Lib.hid (gb_trans HG5.out g6)
  have HK6 := Lib.hid hbk6
  have f0 : w6.cell? ⟨w.heap.size, 0, none⟩ = some (.int .i32 cr) := blk_cell hbk6 0
  have f1 : w6.cell? ⟨w.heap.size, 1, none⟩ = some (.int .i64 cw) := blk_cell hbk6 1
  have f2 : w6.cell? ⟨w.heap.size, 2, none⟩ = some (.int .i64 cs.fg) := blk_cell hbk6 2
  have f3 : w6.cell? ⟨w.heap.size, 3, none⟩ = some (.int .i64 cs.bg) := blk_cell hbk6 3
  have f4 : w6.cell? ⟨w.heap.size, 4, none⟩ = some (.int .i64 cs.attr) := blk_cell hbk6 4
  have hlen2 : (cutL (cutL lx xn) ((xn : Int) + cw)).length = g.cols := by rw [cutL_len, cutL_len]; exact hrc
  have hix := idx_at (P := Tryz.prog) (size := 5) Tryz.underlying42 cell_info b off g.cols vc xn (by omega)
  have hst := store_own (P := Tryz.prog) cell_info o6 xn (by omega) #[.int .i32 cr, .int .i64 cw, .int .i64 cs.fg, .int .i64 cs.bg, .int .i64 cs.attr] rfl (cvals_one' ⟨cr, cw, cs⟩)
  have HP := ownC_put o6 (xn * 5) (cvals [(⟨cr, cw, cs⟩ : Cel)]) (by rw [cvals_len]; simp; omega)
  rw [← cvals_put] at HP
  have g7 := gb_setCells w6 b (off + xn * 5) (cvals [(⟨cr, cw, cs⟩ : Cel)])
  replace hst : (storeVar 38 ⟨b, off + xn * 5, none⟩ (.agg #[.int .i32 cr, .int .i64 cw, .int .i64 cs.fg, .int .i64 cs.bg, .int .i64 cs.attr])).run Tryz.prog w6 = .ok () (w6.setCells b (off + xn * 5) (cvals [(⟨cr, cw, cs⟩ : Cel)])) := hst
  have HG7 := Lib.hid (gb_trans HG6.out g7)
  have hbk7 := blk_grown HK6.out g7 (by intro e; injection e with e; omega)
  have HO7 := Lib.hid HP
  clear HP g7 o6 g6 z1
  generalize w6.setCells b (off + xn * 5) (cvals [(⟨cr, cw, cs⟩ : Cel)]) = w7 at *
  have i1 : w7.cell? ⟨w.heap.size, 1, none⟩ = some (.int .i64 cw) := blk_cell hbk7 1
  have i2 : w7.cell? ⟨w.heap.size, 2, none⟩ = some (.int .i64 cs.fg) := blk_cell hbk7 2
  have i3 : w7.cell? ⟨w.heap.size, 3, none⟩ = some (.int .i64 cs.bg) := blk_cell hbk7 3
  have i4 : w7.cell? ⟨w.heap.size, 4, none⟩ = some (.int .i64 cs.attr) := blk_cell hbk7 4
  have HWI := Lib.hid (show ∀ w', w4.grownBy w' (some b) → Within (own T w) w w' from fun w' g' => (Within.of_below HB4b.out).trans (Within.of_gb g' (fun k hk => .inl (by injection hk with hk; subst hk; omega))))
  have HFIN := Lib.hid (show ∀ w', w4.grownBy w' (some b) → OwnC w' 0 5 (.slice (some ⟨b, off, none⟩) g.cols vc) g.cols (cvals (layL lx xn ⟨cr, cw, cs⟩)) → RM T p w' (g.turn yn (fun l => layL l xn ⟨cr, cw, cs⟩)) from fun w' g' o' => by
    have hll : (layL lx xn ⟨cr, cw, cs⟩).length = g.cols := by
      rw [layL_len (by
        show xn + (if cw = 2 then 2 else 1) ≤ lx.length
        split <;> omega)]
      exact hrc
    refine HA4.out.turned yn hyl (b := b) (by rw [hxv]; rfl) (Mod.of_gb g' (fun k hk => by injection hk with hk; subst hk; exact hbt)) _ ?_ ?_ ?_
    · rw [hlx, hll, hxv]; exact o'
    · rw [hlx]; exact hll
    · rw [hlx]; exact layL_ok hrok hck)
  have HFL := Lib.hid hlx
  clear hlx
  by_cases h2 : cw = 2
  · have d5 : (cw == 2) = true := beq_iff_eq.2 h2
    have H2 := Lib.hid h2
    have hxn2 : xn + 2 ≤ g.cols := by omega
    clear h2
    have hwrap2 : IntKind.i64.wrap ((xn : Int) + 1) = (xn : Int) + 1 := wrap64_id _ (by omega) (by omega)
    have hix2 := idx_at (P := Tryz.prog) (size := 5) Tryz.underlying42 cell_info b off g.cols vc (xn + 1) (by omega)
    rw [show ((xn + 1 : Nat) : Int) = (xn : Int) + 1 by omega] at hix2
    have hst2 := store_own (P := Tryz.prog) cell_info HO7.out (xn + 1) (by omega) #[.int .i32 0, .int .i64 0, .int .i64 cs.fg, .int .i64 cs.bg, .int .i64 cs.attr] rfl (cvals_one' ⟨0, 0, cs⟩)
    have HP := ownC_put HO7.out ((xn + 1) * 5) (cvals [(⟨0, 0, cs⟩ : Cel)]) (by rw [cvals_len]; simp; omega)
    rw [← cvals_put, putAt_two _ _ _ _ (by omega)] at HP
    have g8 := gb_setCells w7 b (off + (xn + 1) * 5) (cvals [(⟨0, 0, cs⟩ : Cel)])
    replace hst2 : (storeVar 38 ⟨b, off + (xn + 1) * 5, none⟩ (.agg #[.int .i32 0, .int .i64 0, .int .i64 cs.fg, .int .i64 cs.bg, .int .i64 cs.attr])).run Tryz.prog w7 = .ok () (w7.setCells b (off + (xn + 1) * 5) (cvals [(⟨0, 0, cs⟩ : Cel)])) := hst2
    have HG8 := Lib.hid (gb_trans HG7.out g8)
    have HO8 := Lib.hid HP
    clear HP g8
    generalize w7.setCells b (off + (xn + 1) * 5) (cvals [(⟨0, 0, cs⟩ : Cel)]) = w8 at *
    go_wp2_with (first | refine wpList_storeR rfl _ _ _ rfl hst rfl rfl ?_ | refine wpList_storeR rfl _ _ _ rfl hst2 rfl rfl ?_)
    go_end0
    refine ⟨rfl, HWI.out _ HG8.out, ?_⟩
    rw [HE.out]
    refine HFIN.out _ HG8.out ?_
    unfold layL
    rw [if_pos H2.out]
    exact HO8.out
  · have d5 : (cw == 2) = false := beq_eq_false_iff_ne.2 h2
    go_wp2_with (refine wpList_storeR rfl _ _ _ rfl hst rfl rfl ?_)
    go_end0
    refine ⟨rfl, HWI.out _ HG7.out, ?_⟩
    rw [HE.out]
    refine HFIN.out _ HG7.out ?_
    unfold layL
    rw [if_neg h2]
    exact HO7.out
end Go.Proofs.YtjclgoiclbkgjaaGreatDoor

/- Walks of the document's grid: into, fitted. -/
namespace Go.Proofs.YtjclgoiclbkgjaaGreatDoor
open Go.RowKit

theorem intoD_any (n m : Int) (w : World) : Calls Tryz.prog 70 #[.int .i64 n, .int .i64 m] w fun e w' => e = .returned (.int .i64 (into n m)) ∧ w' = w := by
  go_enter Tryz.func70, Tryz.ntmps70
  go_wp2_with fail
  exact ret1v rfl rfl rfl ⟨rfl, rfl⟩
set_option maxRecDepth 100000 in
set_option maxHeartbeats 8000000 in
theorem fittedD_any (r : Rw) (b off c cols : Nat) (w : World) (h : OwnC w 0 5 (.slice (some ⟨b, off, none⟩) r.cells.length c) r.cells.length (cvals r.cells)) (hwh : Wh r.cells) (hl : 1 ≤ r.cells.length ∧ r.cells.length ≤ 1000) (hc : 1 ≤ cols ∧ cols ≤ 250) :
    Calls Tryz.prog 72 #[.agg #[.slice (some ⟨b, off, none⟩) r.cells.length c, .bool r.wrap], .int .i64 cols] w fun e w' => ∃ v, e = .returned (.agg #[v, .bool (fitL r cols).wrap]) ∧ Below w.heap.size w w' ∧ OwnC w' w.heap.size 5 v cols (cvals (fitL r cols).cells) := by
  obtain ⟨lx, wr⟩ := r
  dsimp only at h hl hwh ⊢
  have HB0 := Lib.hid (Below.alloc (Below.refl w.heap.size w) (Nat.le_refl _) (.cells #[.slice (some ⟨b, off, none⟩) lx.length c, .bool wr] 96))
  have HB1 := Lib.hid (Below.alloc HB0.out (by simp) (.cells #[.slice none 0 0, .bool false] 96))
  have HK1 := Lib.hid (blk_alloc (blk_new w (.cells #[.slice (some ⟨b, off, none⟩) lx.length c, .bool wr] 96)) (.cells #[.slice none 0 0, .bool false] 96))
  have HR1 := Lib.hid (blk_new2 w (.cells #[.slice (some ⟨b, off, none⟩) lx.length c, .bool wr] 96) (.cells #[.slice none 0 0, .bool false] 96))
  have HO1 := Lib.hid (ownC_alloc (ownC_alloc h (.cells #[.slice (some ⟨b, off, none⟩) lx.length c, .bool wr] 96)) (.cells #[.slice none 0 0, .bool false] 96))
  have hsz1 : ((w.alloc (.cells #[.slice (some ⟨b, off, none⟩) lx.length c, .bool wr] 96)).alloc (.cells #[.slice none 0 0, .bool false] 96)).heap.size = w.heap.size + 2 := by simp
  have HWH := Lib.hid hwh
  clear h HB0 hwh
  go_enter Tryz.func72, Tryz.ntmps72
  go_upto_region 1 with fail
  generalize (w.alloc (.cells #[.slice (some ⟨b, off, none⟩) lx.length c, .bool wr] 96)).alloc (.cells #[.slice none 0 0, .bool false] 96) = w1 at *
  have HSZ := Lib.hid hsz1
  clear hsz1
  have HBa := Lib.hid ((Below.refl w1.heap.size w1).alloc (Nat.le_refl _) (.cells #[] 38))
  have HEa := Lib.hid (own_empty w1 38 5)
  have HOa := Lib.hid (ownC_below HO1.out HBa.out)
  have k0 : (w1.alloc (.cells #[] 38)).cell? ⟨w.heap.size, 0, none⟩ = some (.slice (some ⟨b, off, none⟩) lx.length c) := blk_cell (blk_below HK1.out HBa.out (heap_lt HK1.out)) 0
  go_wp2_with (at_builtin; refine held ?_)
  unfold Held
  refine wpList_appD cells_elem rfl rfl w1.heap.size HEa.out rfl (ownC_reads HOa.out) rfl (cvals_one _) (by unfold maxLen; omega) (by omega) (by simp) ?_
  rw [List.nil_append, Nat.zero_add]
  intro v5 w5 o5 g5 n5
  have hsz1 := HSZ.out
  obtain ⟨b5, f5, c5, rfl, hnc5, _⟩ := ownC_pos o5 (by omega)
  have HB5 := Lib.hid (show Below w1.heap.size w1 w5 from HBa.out.grown g5 HBa.out.size (fun q hq => by simp only [Value.ownBlock] at hq; injection hq with hq; omega))
  have HO5 := Lib.hid o5
  have hb5 := ownC_lt o5 b5 rfl
  have HW5 := Lib.hid (show Below w.heap.size w w5 from HB1.out.trans (HB5.out.mono (by omega)))
  have HK5 := Lib.hid (blk_below HK1.out HB5.out (heap_lt HK1.out))
  have HR5 := Lib.hid (blk_below HR1.out HB5.out (heap_lt HR1.out))
  clear k0 o5 g5 n5 HBa HEa HOa HO1 HK1 HR1 HB5
  by_cases hlt : cols < lx.length
  · have d1 : decide ((cols : Int) < (lx.length : Int)) = true := decide_eq_true (by omega)
    have d1' : decide (cols < lx.length) = true := decide_eq_true hlt
    have HF := Lib.hid (show fitL ⟨lx, wr⟩ cols = ⟨(cutL lx cols).take cols, false⟩ by
      unfold fitL
      rw [if_neg (by show ¬ cols = lx.length; omega)]
      show Rw.mk ((cutL lx cols).take cols ++ List.replicate (cols - lx.length) _) false = _
      rw [show cols - lx.length = 0 by omega, List.replicate_zero, List.append_nil])
    have hsl := fun wx => slice_h (P := Tryz.prog) Tryz.underlying42 cell_info (some ⟨b5, f5, none⟩) lx.length c5 cols (by omega) wx
    go_wp2_with fail
    refine (cutD_any lx cols b5 f5 lx.length c5 w5 (ownC_mono HO5.out (Nat.zero_le _)) rfl (by omega) (by omega) HWH.out).mono ?_
    rintro e w6 ⟨rfl, g6, o6⟩
    have HW6 := Lib.hid (show Below w.heap.size w w6 from HW5.out.grown g6 HW5.out.size (fun q hq => by injection hq with hq; omega))
    have HK6 := Lib.hid (blk_grown HR5.out g6 (fun e => by injection e with e; omega))
    have HO6 := Lib.hid (show OwnC w6 w.heap.size 5 (.slice (some ⟨b5, f5, none⟩) cols c5) cols (cvals (fitL ⟨lx, wr⟩ cols).cells) by
      rw [HF.out]
      have h1 := ownC_pre o6 cols (by omega)
      rw [cvals_take] at h1
      refine ⟨h1.1, ?_⟩
      rcases h1.2 with h2 | ⟨b', off', c', e, h3, h4⟩
      · exact .inl h2
      · refine .inr ⟨b', off', c', e, ?_, h4⟩
        simp only [Value.slice.injEq, Option.some.injEq, Addr.mk.injEq] at e
        omega)
    have hst := run_storeVar_row (P := Tryz.prog) w6 (w.heap.size + 1) 96 96 _ #[.slice (some ⟨b5, f5, none⟩) cols c5, .bool false] HK6.out (by kernel_rfl) rfl (by simp [Value.oneCell'])
    have hr7 := setRow_blk (cells := #[.slice (some ⟨b5, f5, none⟩) cols c5, .bool false]) HK6.out
    have HG7 := Lib.hid (gb_setRow w6 (w.heap.size + 1) #[.slice (some ⟨b5, f5, none⟩) cols c5, .bool false])
    have HW7 := Lib.hid (HW6.out.grown HG7.out HW6.out.size (fun q hq => by injection hq with hq; omega))
    have HO7 := Lib.hid (ownC_grown HO6.out HG7.out (fun k hk e => by simp only [Value.ownBlock] at hk; injection hk with hk; injection e with e; omega))
    clear g6 o6
    go_wp2_with (refine wpList_storeR rfl _ _ _ rfl hst rfl rfl ?_)
    (try simp only [Exit.inBlock, Exit.then])
    exact retRow rfl rfl rfl hr7 Tryz.underlying96 rfl (by exact rowD_info) ⟨_, by rw [HF.out], HW7.out, HO7.out⟩
  · have d1 : decide ((cols : Int) < (lx.length : Int)) = false := decide_eq_false (by omega)
    have d1' : decide (cols < lx.length) = false := decide_eq_false hlt
    by_cases he : cols = lx.length
    · subst he
      have d2 : ((lx.length : Int) == (lx.length : Int)) = true := beq_self_eq_true _
      have k1 : w5.cell? ⟨w.heap.size, 1, none⟩ = some (.bool wr) := blk_cell HK5.out 1
      have hst := run_storeVar_row (P := Tryz.prog) w5 (w.heap.size + 1) 96 96 _ #[.slice (some ⟨b5, f5, none⟩) lx.length c5, .bool wr] HR5.out (by kernel_rfl) rfl (by simp [Value.oneCell'])
      have hr7 := setRow_blk (cells := #[.slice (some ⟨b5, f5, none⟩) lx.length c5, .bool wr]) HR5.out
      have HG7 := Lib.hid (gb_setRow w5 (w.heap.size + 1) #[.slice (some ⟨b5, f5, none⟩) lx.length c5, .bool wr])
      have HW7 := Lib.hid (HW5.out.grown HG7.out HW5.out.size (fun q hq => by injection hq with hq; omega))
      have HO7 := Lib.hid (ownC_grown (ownC_mono HO5.out (show w.heap.size ≤ w1.heap.size by omega)) HG7.out (fun k hk e => by simp only [Value.ownBlock] at hk; injection hk with hk; injection e with e; omega))
      go_wp2_with (refine wpList_storeR rfl _ _ _ rfl hst rfl rfl ?_)
      (try simp only [Exit.inBlock, Exit.then])
      exact retRow rfl rfl rfl hr7 Tryz.underlying96 rfl (by exact rowD_info) ⟨_, by unfold fitL; rw [if_pos rfl], HW7.out, by unfold fitL; rw [if_pos rfl]; exact HO7.out⟩
    · have d2 : ((cols : Int) == (lx.length : Int)) = false := by simp; omega
      obtain ⟨m, hm⟩ : ∃ m, m = cols - lx.length := ⟨_, rfl⟩
      have hwm : IntKind.i64.wrap ((cols : Int) - (lx.length : Int)) = (m : Int) := by rw [wrap64_id _ (by omega) (by omega)]; omega
      have HM := Lib.hid hm
      have hmb : m ≤ 250 ∧ lx.length + m = cols := by omega
      clear hm
      have HF := Lib.hid (show fitL ⟨lx, wr⟩ cols = ⟨lx ++ List.replicate m (blankC plainS), false⟩ by
        unfold fitL
        rw [if_neg (by show ¬ cols = lx.length; omega)]
        show Rw.mk ((cutL lx cols).take cols ++ List.replicate (cols - lx.length) _) false = _
        rw [← HM.out, List.take_of_length_le (by rw [cutL_len]; omega), show cutL lx cols = lx by unfold cutL; rw [if_neg (by omega)]])
      go_wp2_with fail
      refine (refPlain_any w5).mono ?_
      rintro e w6 ⟨rfl, b6⟩
      have HB6 := Lib.hid b6
      clear b6
      go_wp2_with fail
      refine (blanksD_any m plainS w6 (by omega)).mono ?_
      rintro e w7 ⟨v7, rfl, b7, o7⟩
      have HB7 := Lib.hid (HB6.out.trans (b7.mono HB6.out.size))
      have HO7 := Lib.hid o7
      clear b7 o7 HB6
      go_wp2_with (at_builtin; refine held ?_)
      unfold Held
      refine wpList_appD cells_elem rfl rfl w1.heap.size (ownC_below HO5.out HB7.out) rfl (ownC_reads HO7.out) rfl (cvals_one _) (by unfold maxLen; omega) (by omega) (by have := HB7.out.size; omega) ?_
      intro v8 w8 o8 g8 n8
      have hlt5 := ownC_lt HO5.out
      have HW8 := Lib.hid (show Below w.heap.size w w8 from (HW5.out.trans (HB7.out.mono HW5.out.size)).grown g8 (by have := HW5.out.size; have := HB7.out.size; omega) (fun q hq => by have := (hlt5 q hq).1; omega))
      have HR8 := Lib.hid (blk_grown (blk_below HR5.out HB7.out (heap_lt HR5.out)) g8 (fun e => by have := (hlt5 _ e.symm).1; omega))
      have HO8 := Lib.hid (show OwnC w8 (w.heap.size + 2) 5 v8 cols (cvals (fitL ⟨lx, wr⟩ cols).cells) by
        rw [HF.out]
        show OwnC w8 (w.heap.size + 2) 5 v8 cols (cvals (lx ++ List.replicate m (blankC plainS)))
        rw [cvals_append, ← hmb.2, ← hsz1]
        exact o8)
      obtain ⟨a8, c8, rfl⟩ := ownC_sl HO8.out
      have hst := run_storeVar_row (P := Tryz.prog) w8 (w.heap.size + 1) 96 96 _ #[.slice a8 cols c8, .bool false] HR8.out (by kernel_rfl) rfl (by simp [Value.oneCell'])
      have hr7 := setRow_blk (cells := #[.slice a8 cols c8, .bool false]) HR8.out
      have HG9 := Lib.hid (gb_setRow w8 (w.heap.size + 1) #[.slice a8 cols c8, .bool false])
      have HW9 := Lib.hid (HW8.out.grown HG9.out HW8.out.size (fun q hq => by injection hq with hq; omega))
      have HO9 := Lib.hid (ownC_mono (ownC_grown HO8.out HG9.out (fun k hk e => by have := (ownC_lt HO8.out k hk).1; injection e with e; omega)) (show w.heap.size ≤ w.heap.size + 2 by omega))
      clear o8 g8 n8
      go_wp2_with (refine wpList_storeR rfl _ _ _ rfl hst rfl rfl ?_)
      (try simp only [Exit.inBlock, Exit.then])
      exact retRow rfl rfl rfl hr7 Tryz.underlying96 rfl (by exact rowD_info) ⟨_, by rw [HF.out], HW9.out, HO9.out⟩
end Go.Proofs.YtjclgoiclbkgjaaGreatDoor
