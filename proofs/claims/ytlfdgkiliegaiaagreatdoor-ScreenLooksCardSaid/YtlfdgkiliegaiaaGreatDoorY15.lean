/- Package grid, texts laid together: K6 Clr K14. -/
import Derived.Test.YtlfdgkiliegaiaaGreatDoorY12
import Derived.Test.YtlfdgkiliegaiaaGreatDoorY5
import Derived.StillTailTactics
import Derived.Test.YtlfdgkiliegaiaaGreatDoorY14
/- Walks of package screen: what moves the cursor. -/
namespace Go.Proofs.YtlfdgkiliegaiaaGreatDoor
open Go.RowKit
set_option maxRecDepth 100000

theorem rightS_any {B : World} {C : Nat → Nat} {p c r : Nat} {w : World} {s : Scr} {ps : PSt} (h : SR B C p w s ps) (hok : s.Ok c r) (n : Int) (h0 : 0 ≤ n) (h9 : n ≤ 9999) :
    Calls Tryz.prog 215 #[.pointer (some ⟨p, 0, none⟩), .int .i64 n] w fun e w' => e = .returned (.tuple #[]) ∧ Does B C p w w' (s.place (s.now.x + n) (s.now.y)) ps := by
  have HR := Lib.hid h
  obtain ⟨x0, x1, y0, y1, t0, tb, b1, k1, k2, r1, r2, tl, pn⟩ := h.nums hok
  have c0 : w.cell? ⟨p, 0, none⟩ = some (.int .i64 s.now.x) := h.at_ 0 _
  have c1 : w.cell? ⟨p, 1, none⟩ = some (.int .i64 s.now.y) := h.at_ 1 _
  have hw : IntKind.i64.wrap (s.now.x + n) = s.now.x + n := wrap64_id _ (by omega) (by omega)
  clear h hok x0 x1 y0 y1 t0 tb b1 k1 k2 r1 r2 tl pn
  go_enter Tryz.func215, Tryz.ntmps215
  go_upto_region 0 with fail
  go_still_tail 13, (by kernel_rfl)
  change wpList _ _ _ _ _ w.drew
  go_wp2_with fail
  refine (placeS_any (HR.out.below (Below.refl _ _).drew) (s.now.x + n) (s.now.y)).mono ?_
  rintro e w6 ⟨rfl, d6⟩
  have HD6 := Lib.hid (Does.after ((Pre.refl _ _).below (Below.refl _ _).drew) d6)
  clear d6
  go_wp2_with fail
  go_end0
  refine ⟨rfl, ?_⟩
  exact HD6.out
theorem leftS_any {B : World} {C : Nat → Nat} {p c r : Nat} {w : World} {s : Scr} {ps : PSt} (h : SR B C p w s ps) (hok : s.Ok c r) (n : Int) (h0 : 0 ≤ n) (h9 : n ≤ 9999) :
    Calls Tryz.prog 216 #[.pointer (some ⟨p, 0, none⟩), .int .i64 n] w fun e w' => e = .returned (.tuple #[]) ∧ Does B C p w w' (s.place (s.now.x - n) (s.now.y)) ps := by
  have HR := Lib.hid h
  obtain ⟨x0, x1, y0, y1, t0, tb, b1, k1, k2, r1, r2, tl, pn⟩ := h.nums hok
  have c0 : w.cell? ⟨p, 0, none⟩ = some (.int .i64 s.now.x) := h.at_ 0 _
  have c1 : w.cell? ⟨p, 1, none⟩ = some (.int .i64 s.now.y) := h.at_ 1 _
  have hw : IntKind.i64.wrap (s.now.x - n) = s.now.x - n := wrap64_id _ (by omega) (by omega)
  clear h hok x0 x1 y0 y1 t0 tb b1 k1 k2 r1 r2 tl pn
  go_enter Tryz.func216, Tryz.ntmps216
  go_upto_region 0 with fail
  go_still_tail 13, (by kernel_rfl)
  change wpList _ _ _ _ _ w.drew
  go_wp2_with fail
  refine (placeS_any (HR.out.below (Below.refl _ _).drew) (s.now.x - n) (s.now.y)).mono ?_
  rintro e w6 ⟨rfl, d6⟩
  have HD6 := Lib.hid (Does.after ((Pre.refl _ _).below (Below.refl _ _).drew) d6)
  clear d6
  go_wp2_with fail
  go_end0
  refine ⟨rfl, ?_⟩
  exact HD6.out
theorem columnS_any {B : World} {C : Nat → Nat} {p c r : Nat} {w : World} {s : Scr} {ps : PSt} (h : SR B C p w s ps) (hok : s.Ok c r) (n : Int) (h0 : 0 ≤ n) (h9 : n ≤ 9999) :
    Calls Tryz.prog 219 #[.pointer (some ⟨p, 0, none⟩), .int .i64 n] w fun e w' => e = .returned (.tuple #[]) ∧ Does B C p w w' (s.place (n - 1) (s.now.y)) ps := by
  have HR := Lib.hid h
  obtain ⟨x0, x1, y0, y1, t0, tb, b1, k1, k2, r1, r2, tl, pn⟩ := h.nums hok
  have c1 : w.cell? ⟨p, 1, none⟩ = some (.int .i64 s.now.y) := h.at_ 1 _
  have hw : IntKind.i64.wrap (n - 1) = n - 1 := wrap64_id _ (by omega) (by omega)
  clear h hok x0 x1 y0 y1 t0 tb b1 k1 k2 r1 r2 tl pn
  go_enter Tryz.func219, Tryz.ntmps219
  go_wp2_with fail
  refine (placeS_any HR.out (n - 1) (s.now.y)).mono ?_
  rintro e w6 ⟨rfl, d6⟩
  have HD6 := Lib.hid d6
  clear d6
  go_wp2_with fail
  go_end0
  exact ⟨rfl, HD6.out⟩
theorem upS_any {B : World} {C : Nat → Nat} {p c r : Nat} {w : World} {s : Scr} {ps : PSt} (h : SR B C p w s ps) (hok : s.Ok c r) (n : Int) (h0 : 0 ≤ n) (h9 : n ≤ 9999) :
    Calls Tryz.prog 213 #[.pointer (some ⟨p, 0, none⟩), .int .i64 n] w fun e w' => e = .returned (.tuple #[]) ∧ Does B C p w w' (s.place s.now.x (s.upY n)) ps := by
  have HR := Lib.hid h
  obtain ⟨x0, x1, y0, y1, t0, tb, b1, k1, k2, r1, r2, tl, pn⟩ := h.nums hok
  have c0 : w.cell? ⟨p, 0, none⟩ = some (.int .i64 s.now.x) := h.at_ 0 _
  have c1 : w.cell? ⟨p, 1, none⟩ = some (.int .i64 s.now.y) := h.at_ 1 _
  have c33 : w.cell? ⟨p, 33, none⟩ = some (.int .i64 s.top) := h.at_ 33 _
  have hw3 : IntKind.i64.wrap (s.now.y - s.top) = s.now.y - s.top := wrap64_id _ (by omega) (by omega)
  by_cases hy : s.top ≤ s.now.y
  · have e1 : decide (s.top ≤ s.now.y) = true := decide_eq_true hy
    have HE := Lib.hid (show s.upY n = s.now.y - min n (s.now.y - s.top) by unfold Scr.upY; rw [if_pos hy])
    have hw : IntKind.i64.wrap (s.now.y - min n (s.now.y - s.top)) = s.now.y - min n (s.now.y - s.top) := wrap64_id _ (by omega) (by omega)
    clear h hok hy x0 x1 y0 y1 t0 tb b1 k1 k2 r1 r2 tl pn
    go_enter Tryz.func213, Tryz.ntmps213
    go_upto_region 0 with fail
    go_quiet (fail)
    have HB := Lib.hid (below_drewN (Below.refl w.heap.size w) nq)
    have h := HR.out.below HB.out
    generalize w.drewN nq = wn at *
    clear c0 c1 c33
    have c0 : wn.cell? ⟨p, 0, none⟩ = some (.int .i64 s.now.x) := h.at_ 0 _
    have c1 : wn.cell? ⟨p, 1, none⟩ = some (.int .i64 s.now.y) := h.at_ 1 _
    have c33 : wn.cell? ⟨p, 33, none⟩ = some (.int .i64 s.top) := h.at_ 33 _
    have HR2 := Lib.hid h
    clear h
    go_upto_region 1 with fail
    go_quiet (fail)
    have HB2 := Lib.hid (HB.out.trans ((below_drewN (Below.refl wn.heap.size wn) nq).mono HB.out.size))
    have h := HR2.out.below (below_drewN (Below.refl wn.heap.size wn) nq)
    generalize wn.drewN nq = wo at *
    clear c0 c1 c33
    have c0 : wo.cell? ⟨p, 0, none⟩ = some (.int .i64 s.now.x) := h.at_ 0 _
    have c1 : wo.cell? ⟨p, 1, none⟩ = some (.int .i64 s.now.y) := h.at_ 1 _
    have c33 : wo.cell? ⟨p, 33, none⟩ = some (.int .i64 s.top) := h.at_ 33 _
    clear h
    go_upto_region 2 with fail
    go_still_tail 13, (by kernel_rfl)
    change wpList _ _ _ _ _ wo.drew
    go_wp2_with fail
    refine (placeS_any (HR.out.below (HB2.out.trans ((Below.refl wo.heap.size wo).drew.mono HB2.out.size))) s.now.x (s.now.y - min n (s.now.y - s.top))).mono ?_
    rintro e w6 ⟨rfl, d6⟩
    have HD6 := Lib.hid (Does.after ((Pre.refl _ _).below (HB2.out.trans ((Below.refl wo.heap.size wo).drew.mono HB2.out.size))) d6)
    clear d6
    go_wp2_with fail
    go_end0
    refine ⟨rfl, ?_⟩
    rw [HE.out]
    exact HD6.out
  · have e1 : decide (s.top ≤ s.now.y) = false := decide_eq_false hy
    have HE := Lib.hid (show s.upY n = s.now.y - n by unfold Scr.upY; rw [if_neg hy])
    have hw : IntKind.i64.wrap (s.now.y - n) = s.now.y - n := wrap64_id _ (by omega) (by omega)
    clear h hok hy x0 x1 y0 y1 t0 tb b1 k1 k2 r1 r2 tl pn
    go_enter Tryz.func213, Tryz.ntmps213
    go_upto_region 0 with fail
    go_quiet (fail)
    have HB := Lib.hid (below_drewN (Below.refl w.heap.size w) nq)
    have h := HR.out.below HB.out
    generalize w.drewN nq = wn at *
    clear c0 c1 c33
    have c0 : wn.cell? ⟨p, 0, none⟩ = some (.int .i64 s.now.x) := h.at_ 0 _
    have c1 : wn.cell? ⟨p, 1, none⟩ = some (.int .i64 s.now.y) := h.at_ 1 _
    have c33 : wn.cell? ⟨p, 33, none⟩ = some (.int .i64 s.top) := h.at_ 33 _
    clear h
    go_upto_region 2 with fail
    go_still_tail 13, (by kernel_rfl)
    change wpList _ _ _ _ _ wn.drew
    go_wp2_with fail
    refine (placeS_any (HR.out.below (HB.out.trans ((Below.refl wn.heap.size wn).drew.mono HB.out.size))) s.now.x (s.now.y - n)).mono ?_
    rintro e w6 ⟨rfl, d6⟩
    have HD6 := Lib.hid (Does.after ((Pre.refl _ _).below (HB.out.trans ((Below.refl wn.heap.size wn).drew.mono HB.out.size))) d6)
    clear d6
    go_wp2_with fail
    go_end0
    refine ⟨rfl, ?_⟩
    rw [HE.out]
    exact HD6.out
theorem downS_any {B : World} {C : Nat → Nat} {p c r : Nat} {w : World} {s : Scr} {ps : PSt} (h : SR B C p w s ps) (hok : s.Ok c r) (n : Int) (h0 : 0 ≤ n) (h9 : n ≤ 9999) :
    Calls Tryz.prog 214 #[.pointer (some ⟨p, 0, none⟩), .int .i64 n] w fun e w' => e = .returned (.tuple #[]) ∧ Does B C p w w' (s.place s.now.x (s.downY n)) ps := by
  have HR := Lib.hid h
  obtain ⟨x0, x1, y0, y1, t0, tb, b1, k1, k2, r1, r2, tl, pn⟩ := h.nums hok
  have c0 : w.cell? ⟨p, 0, none⟩ = some (.int .i64 s.now.x) := h.at_ 0 _
  have c1 : w.cell? ⟨p, 1, none⟩ = some (.int .i64 s.now.y) := h.at_ 1 _
  have c34 : w.cell? ⟨p, 34, none⟩ = some (.int .i64 s.bottom) := h.at_ 34 _
  have hw3 : IntKind.i64.wrap (s.bottom - s.now.y) = s.bottom - s.now.y := wrap64_id _ (by omega) (by omega)
  by_cases hy : s.now.y ≤ s.bottom
  · have e1 : decide (s.now.y ≤ s.bottom) = true := decide_eq_true hy
    have HE := Lib.hid (show s.downY n = s.now.y + min n (s.bottom - s.now.y) by unfold Scr.downY; rw [if_pos hy])
    have hw : IntKind.i64.wrap (s.now.y + min n (s.bottom - s.now.y)) = s.now.y + min n (s.bottom - s.now.y) := wrap64_id _ (by omega) (by omega)
    clear h hok hy x0 x1 y0 y1 t0 tb b1 k1 k2 r1 r2 tl pn
    go_enter Tryz.func214, Tryz.ntmps214
    go_upto_region 0 with fail
    go_quiet (fail)
    have HB := Lib.hid (below_drewN (Below.refl w.heap.size w) nq)
    have h := HR.out.below HB.out
    generalize w.drewN nq = wn at *
    clear c0 c1 c34
    have c0 : wn.cell? ⟨p, 0, none⟩ = some (.int .i64 s.now.x) := h.at_ 0 _
    have c1 : wn.cell? ⟨p, 1, none⟩ = some (.int .i64 s.now.y) := h.at_ 1 _
    have c34 : wn.cell? ⟨p, 34, none⟩ = some (.int .i64 s.bottom) := h.at_ 34 _
    have HR2 := Lib.hid h
    clear h
    go_upto_region 1 with fail
    go_quiet (fail)
    have HB2 := Lib.hid (HB.out.trans ((below_drewN (Below.refl wn.heap.size wn) nq).mono HB.out.size))
    have h := HR2.out.below (below_drewN (Below.refl wn.heap.size wn) nq)
    generalize wn.drewN nq = wo at *
    clear c0 c1 c34
    have c0 : wo.cell? ⟨p, 0, none⟩ = some (.int .i64 s.now.x) := h.at_ 0 _
    have c1 : wo.cell? ⟨p, 1, none⟩ = some (.int .i64 s.now.y) := h.at_ 1 _
    have c34 : wo.cell? ⟨p, 34, none⟩ = some (.int .i64 s.bottom) := h.at_ 34 _
    clear h
    go_upto_region 2 with fail
    go_still_tail 13, (by kernel_rfl)
    change wpList _ _ _ _ _ wo.drew
    go_wp2_with fail
    refine (placeS_any (HR.out.below (HB2.out.trans ((Below.refl wo.heap.size wo).drew.mono HB2.out.size))) s.now.x (s.now.y + min n (s.bottom - s.now.y))).mono ?_
    rintro e w6 ⟨rfl, d6⟩
    have HD6 := Lib.hid (Does.after ((Pre.refl _ _).below (HB2.out.trans ((Below.refl wo.heap.size wo).drew.mono HB2.out.size))) d6)
    clear d6
    go_wp2_with fail
    go_end0
    refine ⟨rfl, ?_⟩
    rw [HE.out]
    exact HD6.out
  · have e1 : decide (s.now.y ≤ s.bottom) = false := decide_eq_false hy
    have HE := Lib.hid (show s.downY n = s.now.y + n by unfold Scr.downY; rw [if_neg hy])
    have hw : IntKind.i64.wrap (s.now.y + n) = s.now.y + n := wrap64_id _ (by omega) (by omega)
    clear h hok hy x0 x1 y0 y1 t0 tb b1 k1 k2 r1 r2 tl pn
    go_enter Tryz.func214, Tryz.ntmps214
    go_upto_region 0 with fail
    go_quiet (fail)
    have HB := Lib.hid (below_drewN (Below.refl w.heap.size w) nq)
    have h := HR.out.below HB.out
    generalize w.drewN nq = wn at *
    clear c0 c1 c34
    have c0 : wn.cell? ⟨p, 0, none⟩ = some (.int .i64 s.now.x) := h.at_ 0 _
    have c1 : wn.cell? ⟨p, 1, none⟩ = some (.int .i64 s.now.y) := h.at_ 1 _
    have c34 : wn.cell? ⟨p, 34, none⟩ = some (.int .i64 s.bottom) := h.at_ 34 _
    clear h
    go_upto_region 2 with fail
    go_still_tail 13, (by kernel_rfl)
    change wpList _ _ _ _ _ wn.drew
    go_wp2_with fail
    refine (placeS_any (HR.out.below (HB.out.trans ((Below.refl wn.heap.size wn).drew.mono HB.out.size))) s.now.x (s.now.y + n)).mono ?_
    rintro e w6 ⟨rfl, d6⟩
    have HD6 := Lib.hid (Does.after ((Pre.refl _ _).below (HB.out.trans ((Below.refl wn.heap.size wn).drew.mono HB.out.size))) d6)
    clear d6
    go_wp2_with fail
    go_end0
    refine ⟨rfl, ?_⟩
    rw [HE.out]
    exact HD6.out
theorem nextS_any {B : World} {C : Nat → Nat} {p c r : Nat} {w : World} {s : Scr} {ps : PSt} (h : SR B C p w s ps) (hok : s.Ok c r) (n : Int) (h0 : 0 ≤ n) (h9 : n ≤ 9999) :
    Calls Tryz.prog 217 #[.pointer (some ⟨p, 0, none⟩), .int .i64 n] w fun e w' => e = .returned (.tuple #[]) ∧ Does B C p w w' ((s.place s.now.x (s.downY n)).toX 0) ps := by
  have HU := Lib.hid (downS_any h hok n h0 h9)
  clear h hok
  go_enter Tryz.func217, Tryz.ntmps217
  go_wp2_with fail
  refine HU.out.mono ?_
  rintro e w6 ⟨rfl, d6⟩
  obtain ⟨C1, h1, p1⟩ := d6
  have c0 : w6.cell? ⟨p, 0, none⟩ = some (.int .i64 (s.place s.now.x (s.downY n)).now.x) := h1.at_ 0 _
  have f0 := h1.fz 0
  obtain ⟨h2, p2⟩ := h1.set 0 (.int .i64 0) ((s.place s.now.x (s.downY n)).toX 0)
  have HD := Lib.hid (show Does B C p w _ _ ps from ⟨C1, h2, p1.trans p2⟩)
  clear h1 p1 h2 p2
  go_wp2_with fail
  go_end0
  exact ⟨rfl, HD.out⟩
theorem beforeS_any {B : World} {C : Nat → Nat} {p c r : Nat} {w : World} {s : Scr} {ps : PSt} (h : SR B C p w s ps) (hok : s.Ok c r) (n : Int) (h0 : 0 ≤ n) (h9 : n ≤ 9999) :
    Calls Tryz.prog 218 #[.pointer (some ⟨p, 0, none⟩), .int .i64 n] w fun e w' => e = .returned (.tuple #[]) ∧ Does B C p w w' ((s.place s.now.x (s.upY n)).toX 0) ps := by
  have HU := Lib.hid (upS_any h hok n h0 h9)
  clear h hok
  go_enter Tryz.func218, Tryz.ntmps218
  go_wp2_with fail
  refine HU.out.mono ?_
  rintro e w6 ⟨rfl, d6⟩
  obtain ⟨C1, h1, p1⟩ := d6
  have c0 : w6.cell? ⟨p, 0, none⟩ = some (.int .i64 (s.place s.now.x (s.upY n)).now.x) := h1.at_ 0 _
  have f0 := h1.fz 0
  obtain ⟨h2, p2⟩ := h1.set 0 (.int .i64 0) ((s.place s.now.x (s.upY n)).toX 0)
  have HD := Lib.hid (show Does B C p w _ _ ps from ⟨C1, h2, p1.trans p2⟩)
  clear h1 p1 h2 p2
  go_wp2_with fail
  go_end0
  exact ⟨rfl, HD.out⟩
theorem rowS2_any {B : World} {C : Nat → Nat} {p c r : Nat} {w : World} {s : Scr} {ps : PSt} (h : SR B C p w s ps) (hok : s.Ok c r) (n : Int) (h0 : 0 ≤ n) (h9 : n ≤ 9999) :
    Calls Tryz.prog 220 #[.pointer (some ⟨p, 0, none⟩), .int .i64 n] w fun e w' => e = .returned (.tuple #[]) ∧ Does B C p w w' (s.place s.now.x (s.line (n - 1))) ps := by
  have HR := Lib.hid h
  obtain ⟨x0, x1, y0, y1, t0, tb, b1, k1, k2, r1, r2, tl, pn⟩ := h.nums hok
  have c0 : w.cell? ⟨p, 0, none⟩ = some (.int .i64 s.now.x) := h.at_ 0 _
  have hw : IntKind.i64.wrap (n - 1) = n - 1 := wrap64_id _ (by omega) (by omega)
  have HL := Lib.hid (fun w' hb => lineS_any (h.below (w' := w') hb) (n - 1) ⟨by omega, by omega⟩ ⟨by omega, by omega⟩)
  clear h hok x0 x1 y0 y1 t0 tb b1 k1 k2 r1 r2 tl pn
  go_enter Tryz.func220, Tryz.ntmps220
  go_upto_region 0 with fail
  refine wpL_begin (c := 10) (S := (fun bb w' => True ∧ (bb = false → w'.cell? ⟨p, 0, none⟩ = some (.int .i64 s.now.x)))) (by kernel_rfl) (⟨trivial, fun _ => c0⟩) (fun _ => ?_)
  refine wpL_tk false 0 (⟨trivial, fun _ => c0⟩) ?_
  refine wpL_tk false 1 (⟨trivial, fun _ => c0⟩) ?_
  refine wpL_tk false 2 (⟨trivial, fun _ => c0⟩) ?_
  refine wpL_tk false 3 (⟨trivial, fun _ => c0⟩) ?_
  refine wpL_tk false 4 (⟨trivial, fun _ => c0⟩) ?_
  refine wpL_td 5 (⟨trivial, fun _ => c0⟩) ?_
  refine wpL_tk false 6 (⟨trivial, fun _ => c0⟩) ?_
  refine wpL_tk false 7 (⟨trivial, fun _ => c0⟩) ?_
  refine wpL_tk false 8 (⟨trivial, fun _ => c0⟩) ?_
  refine wpL_on false 9 fun K hK => ?_
  refine wanted_on rfl ?_
  go_wp2_with fail
  refine (HL.out _ (Below.refl _ _).drew).mono ?_
  rintro e w4 ⟨rfl, m, hw4⟩
  have b4 : Below w.heap.size w w4 := hw4 ▸ below_drewN (Below.refl w.heap.size w).drew m
  clear hw4
  have c0' : w4.cell? ⟨p, 0, none⟩ = some (.int .i64 s.now.x) := cell_below b4 c0
  have HB4 := Lib.hid b4
  refine hK.out _ _ (⟨trivial, fun _ => c0'⟩) (fun _ => ?_)
  clear hK K b4
  try simp only [Act.put, List.setIfInBounds_toArray, List.set_cons_zero, List.set_cons_succ]
  refine wpL_on true 10 fun K hK => ?_
  refine wanted_on rfl ?_
  go_wp2_with fail
  refine (placeS_any (HR.out.below HB4.out) s.now.x (s.line (n - 1))).mono ?_
  rintro e w6 ⟨rfl, d6⟩
  have HD6 := Lib.hid (Does.after ((Pre.refl _ _).below HB4.out) d6)
  clear d6
  refine hK.out _ _ (⟨trivial, fun e => by cases e⟩) (fun _ => ?_)
  clear hK K 
  try simp only [Act.put, List.setIfInBounds_toArray, List.set_cons_zero, List.set_cons_succ]
  refine wpL_done (by kernel_rfl) ?_ _
  go_wp2_with fail
  go_end0
  exact ⟨rfl, HD6.out⟩
theorem forthS_any {B : World} {C : Nat → Nat} {p c r : Nat} {w : World} {s : Scr} {ps : PSt} (h : SR B C p w s ps) (hok : s.Ok c r) (n : Nat) (h9 : n ≤ 9999) :
    Calls Tryz.prog 221 #[.pointer (some ⟨p, 0, none⟩), .int .i64 (n : Int)] w fun e w' => e = .returned (.tuple #[]) ∧ Does B C p w w' (itF Scr.tab n s) ps := by
  have hn := h.nums hok
  obtain ⟨e1, e2⟩ := hn.ok hok
  have hc := hn.c1
  have hr := hn.r1
  have HR := Lib.hid h
  have HOK := Lib.hid hok
  have HCC := Lib.hid (show 1 ≤ c by omega)
  have HRR := Lib.hid (show 1 ≤ r by omega)
  clear hn h hok e1 e2 hc hr
  go_enter Tryz.func221, Tryz.ntmps221
  go_wp2_with fail
  go_loopw [5] (fun iv wr => ∃ (k : Nat) (C1 : Nat → Nat) (t : Scr), k ≤ n ∧ iv = .int .i64 k ∧ Hid (SR B C1 p wr t ps) ∧ Hid (t.Ok c r) ∧ Hid (Pre C w C1 wr) ∧ Hid (itF Scr.tab (n - k) t = itF Scr.tab n s)) (fun iv _ => n - (intOf iv).toNat)
  case atStart => exact ⟨0, C, s, Nat.zero_le _, rfl, HR, HOK, Lib.hid (Pre.refl _ _), Lib.hid rfl⟩
  case round =>
    obtain ⟨k, C1, t, hk, rfl, H1, HO1, HP1, HF⟩ := hrel
    by_cases hlt : k < n
    · go_wp2_with fail
      refine (tabS_any H1.out HO1.out).mono ?_
      rintro e w2 ⟨rfl, C2, h2, p2⟩
      have H2 := Lib.hid h2
      have P2 := Lib.hid (HP1.out.trans p2)
      clear h2 p2
      go_wp2_with fail
      go_roundw
      case rel =>
        refine ⟨k + 1, C2, t.tab, by omega, by go_num, H2, Lib.hid (HO1.out.tab HCC.out HRR.out), P2, Lib.hid ?_⟩
        rw [← HF.out, show n - k = (n - (k + 1)) + 1 by omega]; rfl
      case measure => simp [intOf]; omega
    · obtain rfl : k = n := by omega
      have HD := Lib.hid (show Does B C p w wr (itF Scr.tab k s) ps by
        rw [← HF.out, Nat.sub_self]
        exact ⟨C1, H1.out, HP1.out⟩)
      go_wp2_with fail
      go_end0
      exact ⟨rfl, HD.out⟩
theorem backsS_any {B : World} {C : Nat → Nat} {p c r : Nat} {w : World} {s : Scr} {ps : PSt} (h : SR B C p w s ps) (hok : s.Ok c r) (n : Nat) (h9 : n ≤ 9999) :
    Calls Tryz.prog 222 #[.pointer (some ⟨p, 0, none⟩), .int .i64 (n : Int)] w fun e w' => e = .returned (.tuple #[]) ∧ Does B C p w w' (itF Scr.back n s) ps := by
  have hn := h.nums hok
  obtain ⟨e1, e2⟩ := hn.ok hok
  have hc := hn.c1
  have hr := hn.r1
  have HR := Lib.hid h
  have HOK := Lib.hid hok
  have HCC := Lib.hid (show 1 ≤ c by omega)
  have HRR := Lib.hid (show 1 ≤ r by omega)
  clear hn h hok e1 e2 hc hr
  go_enter Tryz.func222, Tryz.ntmps222
  go_wp2_with fail
  go_loopw [5] (fun iv wr => ∃ (k : Nat) (C1 : Nat → Nat) (t : Scr), k ≤ n ∧ iv = .int .i64 k ∧ Hid (SR B C1 p wr t ps) ∧ Hid (t.Ok c r) ∧ Hid (Pre C w C1 wr) ∧ Hid (itF Scr.back (n - k) t = itF Scr.back n s)) (fun iv _ => n - (intOf iv).toNat)
  case atStart => exact ⟨0, C, s, Nat.zero_le _, rfl, HR, HOK, Lib.hid (Pre.refl _ _), Lib.hid rfl⟩
  case round =>
    obtain ⟨k, C1, t, hk, rfl, H1, HO1, HP1, HF⟩ := hrel
    by_cases hlt : k < n
    · go_wp2_with fail
      refine (backS_any H1.out HO1.out).mono ?_
      rintro e w2 ⟨rfl, C2, h2, p2⟩
      have H2 := Lib.hid h2
      have P2 := Lib.hid (HP1.out.trans p2)
      clear h2 p2
      go_wp2_with fail
      go_roundw
      case rel =>
        refine ⟨k + 1, C2, t.back, by omega, by go_num, H2, Lib.hid (HO1.out.back HCC.out HRR.out), P2, Lib.hid ?_⟩
        rw [← HF.out, show n - k = (n - (k + 1)) + 1 by omega]; rfl
      case measure => simp [intOf]; omega
    · obtain rfl : k = n := by omega
      have HD := Lib.hid (show Does B C p w wr (itF Scr.back k s) ps by
        rw [← HF.out, Nat.sub_self]
        exact ⟨C1, H1.out, HP1.out⟩)
      go_wp2_with fail
      go_end0
      exact ⟨rfl, HD.out⟩
end Go.Proofs.YtlfdgkiliegaiaaGreatDoor

/- A grid forgets what has scrolled off. -/
namespace Go.Proofs.YtlfdgkiliegaiaaGreatDoor
open Go.RowKit
attribute [local go_sem ↓] Go.wp_at_zero Go.wp_at_succ

def Gr.clear (g : Gr) : Gr := { g with old := [] }
theorem clear_wf {g : Gr} (h : g.WF) : g.clear.WF := ⟨h.c1, h.c2, h.r1, h.r2, h.li, Nat.zero_le _, fun r hr => h.ce r (by
  rcases List.mem_append.1 hr with hr | hr
  · exact List.mem_append_left _ hr
  · exact absurd hr (by simp [Gr.clear]))⟩
theorem own_len {a : Option Addr} {n m c c2 : Nat} {o : Option Nat} (h : (Value.slice a n c).ownBlock = o) : (Value.slice a m c2).ownBlock = o := by cases a <;> exact h
theorem clear_none {P : Program} {t e : TypeId} (ht : P.underlying t = some (.slice e)) (a : Option Addr) (c : Nat) (ty : TypeId) (w : World) : (Builtin.clear_ #[t] ty #[.slice a 0 c]).run P w = .ok (.tuple #[]) w := by
  cases a <;> simp [Builtin.clear_, run_underlying ht]
theorem clear_own' {P : Program} {t e : TypeId} {size : Nat} {z : Value} (ht : P.underlying t = some (.slice e)) (hz : ∀ w, (zeroValue e).run P w = .ok z w) (hzs : z.cells.size = size) (hz1 : ∀ u ∈ z.cells.toList, u.oneCell' = true) {w : World} {base b off n c : Nat} {xs : List Value} (h : OwnC w base size (.slice (some ⟨b, off, none⟩) n c) n xs)
    (x m c1 : Nat) (hm : 0 < m) (hx : x + m ≤ n) (ty : TypeId) :
    (Builtin.clear_ #[t] ty #[.slice (some ⟨b, off + x * size, none⟩) m c1]).run P w = .ok (.tuple #[]) (w.setCells b (off + x * size) (Builtin.zeroCells z.cells m).toList) := by
  obtain ⟨e1, h2⟩ := h
  rcases h2 with ⟨e, _⟩ | ⟨b', off', c', e, hb, hbs, hnc, hcm, hcells, hxs⟩
  · simp at e
  simp only [Value.slice.injEq, Option.some.injEq, Addr.mk.injEq] at e
  obtain ⟨⟨rfl, rfl, _⟩, _, rfl⟩ := e
  have hzl : (Builtin.zeroCells z.cells m).toList.length = m * size := by simp [Builtin.zeroCells, hzs]
  have hin : ∀ j, j < (Builtin.zeroCells z.cells m).toList.length → x * size + j < c * size := fun j hj => by
    have a1 : x * size + m * size ≤ c * size := by rw [← Nat.add_mul]; exact Nat.mul_le_mul_right _ (by omega)
    omega
  have hone : ∀ u ∈ (Builtin.zeroCells z.cells m).toList, u.oneCell' = true := fun u hu => by
    unfold Builtin.zeroCells at hu
    simp only [Array.toList_map, List.mem_map, Array.mem_toList_iff, Array.mem_range] at hu
    obtain ⟨i, hi, rfl⟩ := hu
    have hpos : 0 < z.cells.size := by
      rcases Nat.eq_zero_or_pos z.cells.size with h0 | h0
      · rw [h0] at hi; simp at hi
      · exact h0
    have hlt := Nat.mod_lt i hpos
    rw [getElem!_pos z.cells _ hlt]
    exact hz1 _ (by simp)
  have hst := run_storeCells_cells (P := P) b (off + x * size) (Builtin.zeroCells z.cells m).toList 0 w (fun j hj => by
      have := (hcells _ (hin j hj)).1
      rwa [← Nat.add_assoc] at this) (fun j hj => by
      have := (hcells _ (hin j hj)).2
      rwa [← Nat.add_assoc] at this) hone
  rw [Nat.add_zero] at hst
  obtain ⟨m', rfl⟩ : ∃ m', m = m' + 1 := ⟨m - 1, by omega⟩
  simp [Builtin.clear_, run_underlying ht, hz, hst]
set_option maxRecDepth 100000 in
set_option maxHeartbeats 2000000 in
theorem clearG_any {T : Nat → Nat} {p : Nat} {w : World} {g : Gr} (h : GM T p w g) :
    Calls Tryz.prog 124 #[.pointer (some ⟨p, 0, none⟩)] w fun e w' => e = .returned (.tuple #[]) ∧ Within (own T w) w w' ∧ GM T p w' g.clear := by
  obtain ⟨vr, vo, Lr, Lo, h0⟩ := h
  obtain ⟨c0, c1, c2, c3⟩ := gm_cells h0
  have hpl := heap_lt h0.blk
  have HG := Lib.hid h0
  -- what clear makes of the world
  obtain ⟨w2, hcl, hg2, ho2⟩ : ∃ w2, (∀ ty, (Builtin.clear_ #[126] ty #[vo]).run Tryz.prog w = .ok (.tuple #[]) w2) ∧ w.grownBy w2 vo.ownBlock ∧ ∃ xs, OwnC w2 0 2 vo Lo.length xs := by
    rcases Nat.eq_zero_or_pos Lo.length with hz | hz
    · obtain ⟨a, c, rfl⟩ := ownC_sl h0.ro.own
      have e0 := List.eq_nil_of_length_eq_zero hz
      subst e0
      exact ⟨w, fun ty => clear_none Tryz.underlying126 a c ty w, gb_refl _ _, _, h0.ro.own⟩
    · obtain ⟨b, off, c, rfl, _, _⟩ := ownC_pos h0.ro.own hz
      obtain ⟨zs, hzl, _⟩ := clear_own (P := Tryz.prog) (size := 2) Tryz.underlying126 zero_row rfl zero_one h0.ro.own 0 Lo.length c hz (by omega) 0
      refine ⟨w.setCells b (off + 0 * 2) (Builtin.zeroCells (Value.agg #[.slice none 0 0, .bool false]).cells Lo.length).toList, fun ty => ?_, gb_setCells _ _ _ _, putAt (rowVals Lo) (0 * 2) (Builtin.zeroCells (Value.agg #[.slice none 0 0, .bool false]).cells Lo.length).toList, ?_⟩
      · have := clear_own' (P := Tryz.prog) (size := 2) Tryz.underlying126 zero_row rfl zero_one h0.ro.own 0 Lo.length c hz (by omega) ty
        simpa using this
      · exact ownC_put h0.ro.own (0 * 2) _ (by simp [Builtin.zeroCells, Value.cells])
  obtain ⟨xs, ho2⟩ := ho2
  obtain ⟨va, vc, rfl⟩ := ownC_sl h0.ro.own
  have hop : (Value.slice va Lo.length vc).ownBlock ≠ some p := fun e => by have h1 := h0.ro.tag p e; rw [h0.tp] at h1; omega
  have hk2 := blk_grown h0.blk hg2 (fun e => hop e.symm)
  have e3 : w2.cell? ⟨p, 3, none⟩ = some (.slice va Lo.length vc) := blk_cell hk2 3
  have f3 : w2.frozen? ⟨p, 3, none⟩ = false := blk_free hk2 3
  have hsl : ∀ wx, (Instr.slice 126 (.slice va Lo.length vc) none (some (.int .i64 0)) none).run Tryz.prog wx = .ok (.slice va 0 vc) wx := fun wx => slice_h (P := Tryz.prog) (size := 2) Tryz.underlying126 row_info va Lo.length vc 0 (Nat.zero_le _) wx
  have HK2 := Lib.hid hk2
  have HO2 := Lib.hid ho2
  have HG2 := Lib.hid hg2
  have HOP := Lib.hid hop
  clear h0 hk2 ho2 hg2 hop c0 c1 c2
  go_enter Tryz.func124, Tryz.ntmps124
  go_wp2_with fail
  go_end0
  have g3 : w2.grownBy (w2.setCell ⟨p, 3, none⟩ (.slice va 0 vc)) (some p) := gb_set (gb_refl _ _) _ _
  have m : Mod T (fun t => t = 3 ∨ t = 1) w (w2.setCell ⟨p, 3, none⟩ (.slice va 0 vc)) := (Mod.of_gb HG2.out (fun k hk => .inl (HG.out.ro.tag k hk))).trans (Mod.of_gb g3 (fun k hk => by injection hk with hk; subst hk; exact .inr HG.out.tp))
  refine ⟨rfl, ⟨m.os, m.tape, m.output, m.size, fun k hk hn => m.block k hk (fun e => hn (.inl (by rcases e with e | e <;> rw [e] <;> decide)))⟩, vr, .slice va 0 vc, Lr, [], ⟨fun k hk => Nat.lt_of_lt_of_le (HG.out.lt k hk) m.size, ?_, HG.out.tp, HG.out.rr.mod m (by decide), ⟨?_, fun k hk => HG.out.ro.tag k (own_len hk)⟩, HG.out.er, rfl, fun x hx => ?_, ?_, clear_wf HG.out.wf⟩⟩
  · exact blk_set HK2.out 3 _
  · have h4 : OwnC w2 0 2 (.slice va 0 vc) 0 [] := by
      rcases HO2.out.2 with ⟨e, _⟩ | ⟨b, off, cap, e, h1, h2, h3, h4, h5, h6⟩
      · simp only [Value.slice.injEq] at e
        obtain ⟨rfl, _, rfl⟩ := e
        exact ownC_nil _ _ _
      · simp only [Value.slice.injEq] at e
        obtain ⟨rfl, _, rfl⟩ := e
        exact ⟨rfl, .inr ⟨b, off, _, rfl, h1, h2, Nat.zero_le _, h4, h5, fun j u hu => by simp at hu⟩⟩
    exact ownC_grown h4 g3 (fun k hk e => HOP.out (by rw [e]; exact own_len hk))
  · rw [List.append_nil] at hx
    exact (HG.out.ca x (List.mem_append_left _ hx)).mod m (fun k _ => by omega)
  · have := HG.out.nd
    rw [List.map_append, List.nodup_append] at this
    rw [List.append_nil]
    exact this.1
end Go.Proofs.YtlfdgkiliegaiaaGreatDoor

/- Walks of package screen: say, rows and all made blank, repeat, private modes, reports. -/
namespace Go.Proofs.YtlfdgkiliegaiaaGreatDoor
open Go.RowKit
set_option maxRecDepth 100000

theorem sayS_any {B : World} {C : Nat → Nat} {p : Nat} {w : World} {s : Scr} {ps : PSt} (h : SR B C p w s ps) (t : ByteArray) (hl : s.out.length ≤ 1000000) (hb : t.data.toList.length ≤ 1000000) :
    Calls Tryz.prog 167 #[.pointer (some ⟨p, 0, none⟩), .string t] w fun e w' => e = .returned (.tuple #[]) ∧ Does B C p w w' (s.say t.data.toList) ps := by
  obtain ⟨vo, co, oo, tv, hk⟩ := h.outs
  obtain ⟨xo, mo, cp, rfl⟩ := ownC_form oo
  have f40 := h.fz 40
  have HO := Lib.hid oo
  have HT := Lib.hid tv
  have HK := Lib.hid hk
  have HPL := Lib.hid h.pl
  clear oo tv hk h
  go_enter Tryz.func167, Tryz.ntmps167
  go_wp2_with (at_builtin; refine held ?_)
  unfold Held
  refine wpList_appS bytes_elem rfl rfl 0 HO.out rfl (src_str _ Tryz.underlying9 t) rfl (by unfold maxLen; omega) (by omega) (by omega) ?_
  intro v6 w6 o6 g6 n6
  obtain ⟨x6, m6, c6, rfl⟩ := ownC_form o6
  have o7 : OwnC w6 0 1 (.slice x6 m6 c6) (s.out ++ t.data.toList).length (byteVals (s.out ++ t.data.toList)) := by rw [List.length_append, byteVals_append]; exact o6
  have HD := Lib.hid (HK.out w w6 _ _ (gb_refl _ _) g6 o7 n6)
  have b6 : w6.heap[p]? = w.heap[p]? := g6.block p HPL.out (fun e => (HT.out p e.symm).2 rfl)
  have c6' := (cell_heap b6 40).trans co
  have f6 := (frozen_heap b6 40).trans f40
  clear o6 g6 n6 o7 b6 f40 co
  go_wp2_with fail
  go_end0
  exact ⟨rfl, HD.out⟩
theorem clearS_any {B : World} {C : Nat → Nat} {p : Nat} {w : World} {s : Scr} {ps : PSt} (h : SR B C p w s ps) :
    Calls Tryz.prog 80 #[.pointer (some ⟨p, 0, none⟩)] w fun e w' => e = .returned (.tuple #[]) ∧ Does B C p w w' s.forget ps := by
  obtain ⟨T, q, hg, c10, hk⟩ := h.main
  have HG := Lib.hid hg
  have HK := Lib.hid hk
  clear hg hk h
  go_enter Tryz.func80, Tryz.ntmps80
  go_wp2_with fail
  refine (clearG_any HG.out).mono ?_
  rintro e w2 ⟨rfl, hw, g2⟩
  have HD := Lib.hid (HK.out w w2 T _ (Below.refl _ _) hw g2 (fun k hk => .inl hk)).1
  clear hw g2
  go_wp2_with fail
  go_end0
  exact ⟨rfl, HD.out⟩
theorem inRowS_any {B : World} {C : Nat → Nat} {p c r : Nat} {w : World} {s : Scr} {ps : PSt} (h : SR B C p w s ps) (hok : s.Ok c r) (k : Int) :
    Calls Tryz.prog 233 #[.pointer (some ⟨p, 0, none⟩), .int .i64 k] w fun e w' => e = .returned (.tuple #[]) ∧ Does B C p w w' (s.inRow k) ps := by
  by_cases h0 : k = 0
  · subst h0
    have HE := Lib.hid (show s.inRow 0 = s.calm.turn (fun g => (g.erase s.now.x s.now.y s.cols s.blank).setWrap s.now.y false) from rfl)
    have HOK := Lib.hid hok.calm
    have HNU := Lib.hid (h.nums hok)
    have c2 : w.cell? ⟨p, 2, none⟩ = some (.bool s.now.wait) := h.at_ 2 _
    have f2 := h.fz 2
    obtain ⟨h1, g1⟩ := h.set 2 (.bool false) s.calm
    have HR := Lib.hid h1
    have P1 := Lib.hid g1
    clear h h1 g1 hok
    go_enter Tryz.func233, Tryz.ntmps233
    go_upto_region 3 with fail
    generalize w.setCell ⟨p, 2, none⟩ (.bool false) = w1 at *
    clear c2 f2
    have c0 : w1.cell? ⟨p, 0, none⟩ = some (.int .i64 s.now.x) := HR.out.at_ 0 _
    have c1 : w1.cell? ⟨p, 1, none⟩ = some (.int .i64 s.now.y) := HR.out.at_ 1 _
    have hok := HOK.out
    obtain ⟨T, q, hg, hq, hk⟩ := HR.out.grid
    have HG := Lib.hid hg
    have HQ := Lib.hid hq
    have HK := Lib.hid hk
    have HRI := Lib.hid (HR.out.blankR hok)
    clear hg hq hk
    go_upto_region 3 with fail
    go_region_held3 (fun w' => w'.cell? ⟨p, 0, none⟩ = some (.int .i64 s.now.x) ∧ w'.cell? ⟨p, 1, none⟩ = some (.int .i64 s.now.y)) (first | exact ⟨c0, c1⟩ | exact ⟨z0, z1⟩)
      (first
        | (go_at_call 69; refine (shownS_any (w := w1.drew) HQ.out).mono ?_; rintro e w4 ⟨rfl, rfl⟩)
        | (go_at_call 93; refine (colsS_any (HR.out.below (Below.refl _ _).drew)).mono ?_; rintro e wq ⟨rfl, rfl⟩)
        | (go_at_call 155; refine (blankS_any (HR.out.below (Below.refl _ _).drew)).mono ?_; rintro e w5 ⟨rfl, b5⟩; have HB5 := Lib.hid ((Below.refl w1.heap.size w1).drew.trans b5); have z0 := cell_below b5 c0; have z1 := cell_below b5 c1; clear b5)
        | (go_at_call 282; refine (erase_any (HG.out.below HB5.out) _ _ _ _ (HRI.out.below HB5.out)).mono ?_; rintro e w6 ⟨rfl, hw6, g6⟩; obtain ⟨d6, hb6⟩ := HK.out _ _ _ (fun g => g.erase s.now.x s.now.y s.main.cols s.blank) HB5.out hw6 g6 (fun k hk => .inl hk); have HD := Lib.hid d6; have z0 := (cell_heap hb6 0).trans c0; have z1 := (cell_heap hb6 1).trans c1; clear hw6 g6 hb6 d6))
    obtain ⟨C2, h2, p2⟩ := HD.out
    have H2 := Lib.hid h2
    have P2 := Lib.hid (P1.out.trans p2)
    have c1b : w6.cell? ⟨p, 1, none⟩ = some (.int .i64 s.now.y) := by
      have := h2.at_ 1 _
      rw [turn_now] at this
      exact this
    clear h2 p2 z0 z1 c0 c1 HG HQ HK HRI HD HR P1 hok
    obtain ⟨T, q, hg, hq, hk⟩ := H2.out.grid
    have HG := Lib.hid hg
    have HQ := Lib.hid hq
    have HK := Lib.hid hk
    clear hg hq hk
    obtain ⟨w1, hw1⟩ : ∃ z, z = w6 := ⟨_, rfl⟩
    subst hw1
    have c1 : w1.cell? ⟨p, 1, none⟩ = some (.int .i64 s.now.y) := c1b
    clear c1b
    go_upto_region 4 with fail
    go_region_held3 (fun w' => w'.cell? ⟨p, 1, none⟩ = some (.int .i64 s.now.y)) (first | exact c1 | exact z0)
      (first
        | (go_at_call 69; refine (shownS_any (w := w1.drew) HQ.out).mono ?_; rintro e w4 ⟨rfl, rfl⟩)
        | (go_at_call 205; refine (wrap_any (HG.out.below (Below.refl _ _).drew) _ _).mono ?_; rintro e w6 ⟨rfl, hw6, g6⟩; obtain ⟨d6, hb6⟩ := HK.out _ _ _ (fun g => g.setWrap s.now.y false) (Below.refl _ _).drew hw6 g6 (fun k hk => .inl hk); have HD := Lib.hid d6; have z0 := (cell_heap hb6 1).trans c1; clear hw6 g6 hb6 d6))
    go_wp2_with fail
    go_end0
    refine ⟨rfl, ?_⟩
    have HD2 := HD.out
    rw [turn_turn] at HD2
    rw [HE.out]
    exact .after P2.out HD2
  by_cases h1 : k = 1
  · subst h1
    clear h0
    have HE := Lib.hid (show s.inRow 1 = s.calm.turn (fun g => g.erase 0 s.now.y (s.now.x + 1) s.blank) from rfl)
    have HOK := Lib.hid hok.calm
    have HNU := Lib.hid (h.nums hok)
    have c2 : w.cell? ⟨p, 2, none⟩ = some (.bool s.now.wait) := h.at_ 2 _
    have f2 := h.fz 2
    obtain ⟨h1, g1⟩ := h.set 2 (.bool false) s.calm
    have HR := Lib.hid h1
    have P1 := Lib.hid g1
    clear h h1 g1 hok
    go_enter Tryz.func233, Tryz.ntmps233
    go_upto_region 6 with fail
    generalize w.setCell ⟨p, 2, none⟩ (.bool false) = w1 at *
    clear c2 f2
    have c0 : w1.cell? ⟨p, 0, none⟩ = some (.int .i64 s.now.x) := HR.out.at_ 0 _
    have c1 : w1.cell? ⟨p, 1, none⟩ = some (.int .i64 s.now.y) := HR.out.at_ 1 _
    have hok := HOK.out
    obtain ⟨T, q, hg, hq, hk⟩ := HR.out.grid
    have HG := Lib.hid hg
    have HQ := Lib.hid hq
    have HK := Lib.hid hk
    have HRI := Lib.hid (HR.out.blankR hok)
    clear hg hq hk
    have hw : IntKind.i64.wrap (s.now.x + 1) = s.now.x + 1 := by have h1 := HNU.out.x0; have h2 := HNU.out.x1; have h3 := HNU.out.c2; exact wrap64_id _ (by omega) (by omega)
    go_upto_region 6 with fail
    go_region_held3 (fun w' => w'.cell? ⟨p, 0, none⟩ = some (.int .i64 s.now.x) ∧ w'.cell? ⟨p, 1, none⟩ = some (.int .i64 s.now.y)) (first | exact ⟨c0, c1⟩ | exact ⟨z0, z1⟩)
      (first
        | (go_at_call 69; refine (shownS_any (w := w1.drew) HQ.out).mono ?_; rintro e w4 ⟨rfl, rfl⟩)
        | (go_at_call 155; refine (blankS_any (HR.out.below (Below.refl _ _).drew)).mono ?_; rintro e w5 ⟨rfl, b5⟩; have HB5 := Lib.hid ((Below.refl w1.heap.size w1).drew.trans b5); have z0 := cell_below b5 c0; have z1 := cell_below b5 c1; clear b5)
        | (go_at_call 282; refine (erase_any (HG.out.below HB5.out) _ _ _ _ (HRI.out.below HB5.out)).mono ?_; rintro e w6 ⟨rfl, hw6, g6⟩; obtain ⟨d6, hb6⟩ := HK.out _ _ _ (fun g => g.erase 0 s.now.y (s.now.x + 1) s.blank) HB5.out hw6 g6 (fun k hk => .inl hk); have HD := Lib.hid d6; have z0 := (cell_heap hb6 0).trans c0; have z1 := (cell_heap hb6 1).trans c1; clear hw6 g6 hb6 d6))
    go_wp2_with fail
    go_end0
    refine ⟨rfl, ?_⟩
    rw [HE.out]
    exact .after P1.out HD.out
  by_cases h2 : k = 2
  · subst h2
    clear h0 h1
    have HE := Lib.hid (show s.inRow 2 = s.calm.clean s.now.y (s.now.y + 1) from rfl)
    have HOK := Lib.hid hok.calm
    have HNU := Lib.hid (h.nums hok)
    have c2 : w.cell? ⟨p, 2, none⟩ = some (.bool s.now.wait) := h.at_ 2 _
    have f2 := h.fz 2
    obtain ⟨h1, g1⟩ := h.set 2 (.bool false) s.calm
    have HR := Lib.hid h1
    have P1 := Lib.hid g1
    clear h h1 g1 hok
    go_enter Tryz.func233, Tryz.ntmps233
    go_upto_region 8 with fail
    generalize w.setCell ⟨p, 2, none⟩ (.bool false) = w1 at *
    clear c2 f2
    have c1 : w1.cell? ⟨p, 1, none⟩ = some (.int .i64 s.now.y) := HR.out.at_ 1 _
    have hnu := HNU.out
    have hy0 := hnu.y0
    have hy1 := hnu.y1
    have hy2 := hnu.r2
    have hw : IntKind.i64.wrap (s.now.y + 1) = s.now.y + 1 := wrap64_id _ (by omega) (by omega)
    clear hnu
    go_still_tail 12, (by kernel_rfl)
    change wpList _ _ _ _ _ w1.drew
    go_wp2_with fail
    refine (cleanS_any (HR.out.below (Below.refl _ _).drew) HOK.out s.now.y (s.now.y + 1) ⟨by omega, by omega⟩ (by omega)).mono ?_
    rintro e w6 ⟨rfl, d6⟩
    have HD6 := Lib.hid (Does.after (P1.out.below (Below.refl _ _).drew) d6)
    clear d6
    go_wp2_with fail
    go_end0
    refine ⟨rfl, ?_⟩
    rw [HE.out]
    exact HD6.out
  have HE := Lib.hid (show s.inRow k = s.calm by unfold Scr.inRow; rw [if_neg h0, if_neg h1, if_neg h2])
  have e0 : (k == 0) = false := beq_eq_false_iff_ne.2 h0
  have e1 : (k == 1) = false := beq_eq_false_iff_ne.2 h1
  have e2 : (k == 2) = false := beq_eq_false_iff_ne.2 h2
  have c2 : w.cell? ⟨p, 2, none⟩ = some (.bool s.now.wait) := h.at_ 2 _
  have f2 := h.fz 2
  obtain ⟨h1, g1⟩ := h.set 2 (.bool false) s.calm
  have HD := Lib.hid (show Does B C p w _ _ ps from ⟨_, h1, g1⟩)
  clear h h1 g1 hok h0 h2
  go_enter Tryz.func233, Tryz.ntmps233
  go_wp2_with fail
  go_end0
  refine ⟨rfl, ?_⟩
  rw [HE.out]
  exact HD.out
theorem inAllS_any {B : World} {C : Nat → Nat} {p c r : Nat} {w : World} {s : Scr} {ps : PSt} (h : SR B C p w s ps) (hok : s.Ok c r) (k : Int) :
    Calls Tryz.prog 232 #[.pointer (some ⟨p, 0, none⟩), .int .i64 k] w fun e w' => e = .returned (.tuple #[]) ∧ Does B C p w w' (s.inAll k) ps := by
  by_cases h0 : k = 0
  · subst h0
    have HE := Lib.hid (show s.inAll 0 = (s.calm.inRow 0).clean (s.now.y + 1) s.rows from rfl)
    have HOK := Lib.hid hok.calm
    have HNU := Lib.hid (h.nums hok)
    have HOKS := Lib.hid hok
    have c2 : w.cell? ⟨p, 2, none⟩ = some (.bool s.now.wait) := h.at_ 2 _
    have f2 := h.fz 2
    obtain ⟨h1, g1⟩ := h.set 2 (.bool false) s.calm
    have HR := Lib.hid h1
    have P1 := Lib.hid g1
    have hnu := HNU.out
    have hy0 := hnu.y0
    have hy1 := hnu.y1
    have hy2 := hnu.r2
    have hw : IntKind.i64.wrap (s.now.y + 1) = s.now.y + 1 := wrap64_id _ (by omega) (by omega)
    clear h h1 g1 hok hnu
    go_enter Tryz.func232, Tryz.ntmps232
    go_wp2_with fail
    refine (inRowS_any HR.out HOK.out 0).mono ?_
    rintro e w2 ⟨rfl, C2, h2, p2⟩
    have H2 := Lib.hid h2
    have P2 := Lib.hid (P1.out.trans p2)
    have HO2 := Lib.hid (HOK.out.inRow 0)
    have HRO := Lib.hid (show (s.calm.inRow 0).main.rows.length = s.main.rows.length from HO2.out.main.2.trans HOK.out.main.2.symm)
    have HCN := Lib.hid (show s.inAll 0 = (s.calm.inRow 0).clean (s.now.y + 1) s.rows from HE.out)
    clear h2 p2
    have c1 : w2.cell? ⟨p, 1, none⟩ = some (.int .i64 s.now.y) := by
      have := H2.out.at_ 1 _
      rw [show (s.calm.inRow 0).now.y = s.now.y by unfold Scr.inRow; rw [if_pos rfl, turn_now]; rfl] at this
      exact this
    go_upto_region 4 with fail
    go_still_tail 9, (by kernel_rfl)
    still_call (rowsS_any (H2.out.below (Below.refl _ _).drew))
    repeat still_step
    refine wpStill_nil ?_
    change wpList _ _ _ _ _ w2.drew
    rw [HRO.out]
    go_wp2_with fail
    refine (cleanS_any (H2.out.below (Below.refl _ _).drew) HO2.out (s.now.y + 1) s.main.rows.length ⟨by omega, by omega⟩ (by omega)).mono ?_
    rintro e w6 ⟨rfl, d6⟩
    have HD6 := Lib.hid (Does.after (P2.out.below (Below.refl _ _).drew) d6)
    clear d6
    go_wp2_with fail
    go_end0
    refine ⟨rfl, ?_⟩
    rw [HE.out]
    exact HD6.out
  by_cases h1 : k = 1
  · subst h1
    clear h0
    have HE := Lib.hid (show s.inAll 1 = (s.calm.inRow 1).clean 0 s.now.y from rfl)
    have HOK := Lib.hid hok.calm
    have HNU := Lib.hid (h.nums hok)
    have HOKS := Lib.hid hok
    have c2 : w.cell? ⟨p, 2, none⟩ = some (.bool s.now.wait) := h.at_ 2 _
    have f2 := h.fz 2
    obtain ⟨h1, g1⟩ := h.set 2 (.bool false) s.calm
    have HR := Lib.hid h1
    have P1 := Lib.hid g1
    have hnu := HNU.out
    have hy0 := hnu.y0
    have hy1 := hnu.y1
    have hy2 := hnu.r2
    have hw : IntKind.i64.wrap (s.now.y + 1) = s.now.y + 1 := wrap64_id _ (by omega) (by omega)
    clear h h1 g1 hok hnu
    go_enter Tryz.func232, Tryz.ntmps232
    go_wp2_with fail
    refine (inRowS_any HR.out HOK.out 1).mono ?_
    rintro e w2 ⟨rfl, C2, h2, p2⟩
    have H2 := Lib.hid h2
    have P2 := Lib.hid (P1.out.trans p2)
    have HO2 := Lib.hid (HOK.out.inRow 1)
    have HRO := Lib.hid (show (s.calm.inRow 1).main.rows.length = s.main.rows.length from HO2.out.main.2.trans HOK.out.main.2.symm)
    have HCN := Lib.hid (show s.inAll 1 = (s.calm.inRow 1).clean 0 s.now.y from HE.out)
    clear h2 p2
    have c1 : w2.cell? ⟨p, 1, none⟩ = some (.int .i64 s.now.y) := by
      have := H2.out.at_ 1 _
      rw [show (s.calm.inRow 1).now.y = s.now.y by unfold Scr.inRow; rw [if_neg (by decide), if_pos rfl, turn_now]; rfl] at this
      exact this
    go_wp2_with fail
    refine (cleanS_any H2.out HO2.out 0 s.now.y ⟨by omega, by omega⟩ (by omega)).mono ?_
    rintro e w6 ⟨rfl, d6⟩
    have HD6 := Lib.hid (Does.after P2.out d6)
    clear d6
    go_wp2_with fail
    go_end0
    refine ⟨rfl, ?_⟩
    rw [HE.out]
    exact HD6.out
  by_cases h2 : k = 2
  · subst h2
    clear h0 h1
    have HE := Lib.hid (show s.inAll 2 = s.calm.clean 0 s.rows from rfl)
    have HOK := Lib.hid hok.calm
    have HNU := Lib.hid (h.nums hok)
    have HOKS := Lib.hid hok
    have c2 : w.cell? ⟨p, 2, none⟩ = some (.bool s.now.wait) := h.at_ 2 _
    have f2 := h.fz 2
    obtain ⟨h1, g1⟩ := h.set 2 (.bool false) s.calm
    have HR := Lib.hid h1
    have P1 := Lib.hid g1
    have hnu := HNU.out
    have hy0 := hnu.y0
    have hy1 := hnu.y1
    have hy2 := hnu.r2
    have hw : IntKind.i64.wrap (s.now.y + 1) = s.now.y + 1 := wrap64_id _ (by omega) (by omega)
    clear h h1 g1 hok hnu
    go_enter Tryz.func232, Tryz.ntmps232
    go_wp2_with fail
    refine (rowsS_any HR.out).mono ?_
    rintro e w2 ⟨rfl, rfl⟩
    go_wp2_with fail
    refine (cleanS_any HR.out HOK.out 0 s.main.rows.length ⟨by omega, by omega⟩ (by omega)).mono ?_
    rintro e w6 ⟨rfl, d6⟩
    have HD6 := Lib.hid (Does.after P1.out d6)
    clear d6
    go_wp2_with fail
    go_end0
    refine ⟨rfl, ?_⟩
    rw [HE.out]
    exact HD6.out
  by_cases h3 : k = 3
  · subst h3
    clear h0 h1 h2
    have HE := Lib.hid (show s.inAll 3 = s.calm.forget from rfl)
    have HOK := Lib.hid hok.calm
    have HNU := Lib.hid (h.nums hok)
    have HOKS := Lib.hid hok
    have c2 : w.cell? ⟨p, 2, none⟩ = some (.bool s.now.wait) := h.at_ 2 _
    have f2 := h.fz 2
    obtain ⟨h1, g1⟩ := h.set 2 (.bool false) s.calm
    have HR := Lib.hid h1
    have P1 := Lib.hid g1
    have hnu := HNU.out
    have hy0 := hnu.y0
    have hy1 := hnu.y1
    have hy2 := hnu.r2
    have hw : IntKind.i64.wrap (s.now.y + 1) = s.now.y + 1 := wrap64_id _ (by omega) (by omega)
    clear h h1 g1 hok hnu
    go_enter Tryz.func232, Tryz.ntmps232
    go_wp2_with fail
    refine (clearS_any HR.out).mono ?_
    rintro e w6 ⟨rfl, d6⟩
    have HD6 := Lib.hid (Does.after P1.out d6)
    clear d6
    go_wp2_with fail
    go_end0
    refine ⟨rfl, ?_⟩
    rw [HE.out]
    exact HD6.out
  have HE := Lib.hid (show s.inAll k = s.calm by unfold Scr.inAll; rw [if_neg h0, if_neg h1, if_neg h2, if_neg h3])
  have e0 : (k == 0) = false := beq_eq_false_iff_ne.2 h0
  have e1 : (k == 1) = false := beq_eq_false_iff_ne.2 h1
  have e2 : (k == 2) = false := beq_eq_false_iff_ne.2 h2
  have e3 : (k == 3) = false := beq_eq_false_iff_ne.2 h3
  have c2 : w.cell? ⟨p, 2, none⟩ = some (.bool s.now.wait) := h.at_ 2 _
  have f2 := h.fz 2
  obtain ⟨h1, g1⟩ := h.set 2 (.bool false) s.calm
  have HD := Lib.hid (show Does B C p w _ _ ps from ⟨_, h1, g1⟩)
  clear h h1 g1 hok h0 h2 h3
  go_enter Tryz.func232, Tryz.ntmps232
  go_wp2_with fail
  go_end0
  refine ⟨rfl, ?_⟩
  rw [HE.out]
  exact HD.out
theorem repeatS_any {B : World} {C : Nat → Nat} {p c r : Nat} {w : World} {s : Scr} {ps : PSt} (h : SR B C p w s ps) (hok : s.Ok c r) (n : Nat) (h9 : n ≤ 9999) (hlast : -2147483648 ≤ s.last ∧ s.last ≤ 2147483647) :
    Calls Tryz.prog 230 #[.pointer (some ⟨p, 0, none⟩), .int .i64 (n : Int)] w fun e w' => e = .returned (.tuple #[]) ∧ Does B C p w w' (itF (fun t => if t.last ≠ 0 then t.print t.last else t) n s) ps := by
  have hn := h.nums hok
  have HR := Lib.hid h
  have HOK := Lib.hid hok
  have HCC := Lib.hid (show 1 ≤ c by rw [(hn.ok hok).1]; exact hn.c1)
  have HLA := Lib.hid hlast
  clear hn h hok hlast
  obtain ⟨F, hF⟩ : ∃ F : Scr → Scr, F = fun t => if t.last ≠ 0 then t.print t.last else t := ⟨_, rfl⟩
  rw [← hF]
  have HF0 := Lib.hid hF
  clear hF
  go_enter Tryz.func230, Tryz.ntmps230
  go_wp2_with fail
  go_loopw [5] (fun iv wr => ∃ (k : Nat) (C1 : Nat → Nat) (t : Scr), k ≤ n ∧ iv = .int .i64 k ∧ Hid (SR B C1 p wr t ps) ∧ Hid (t.Ok c r) ∧ Hid (t.last = s.last) ∧ Hid (Pre C w C1 wr) ∧ Hid (itF F (n - k) t = itF F n s)) (fun iv _ => n - (intOf iv).toNat)
  case atStart => exact ⟨0, C, s, Nat.zero_le _, rfl, HR, HOK, Lib.hid rfl, Lib.hid (Pre.refl _ _), Lib.hid rfl⟩
  case round =>
    obtain ⟨k, C1, t, hk, rfl, H1, HO1, HL1, HP1, HF⟩ := hrel
    by_cases hlt : k < n
    rotate_left
    · obtain rfl : k = n := by omega
      have HD := Lib.hid (show Does B C p w wr (itF F k s) ps by
        rw [← HF.out, Nat.sub_self]
        exact ⟨C1, H1.out, HP1.out⟩)
      go_wp2_with fail
      go_end0
      exact ⟨rfl, HD.out⟩
    have c37 : wr.cell? ⟨p, 37, none⟩ = some (.int .i32 t.last) := H1.out.at_ 37 _
    have HST := Lib.hid (show ∀ u, u = F t → itF F (n - (k + 1)) u = itF F n s from fun u hu => by
      rw [hu, ← HF.out, show n - k = (n - (k + 1)) + 1 by omega]; rfl)
    by_cases hz : t.last = 0
    · have e1 : (t.last != 0) = false := by rw [hz]; rfl
      have HFT := Lib.hid (show F t = t by rw [HF0.out]; exact if_neg (fun e => e hz))
      clear hz
      go_wp2_with fail
      go_roundw
      case rel => exact ⟨k + 1, C1, t, by omega, by go_num, H1, HO1, HL1, HP1, Lib.hid (HST.out t HFT.out.symm)⟩
      case measure => simp [intOf]; omega
    · have e1 : (t.last != 0) = true := bne_iff_ne.2 hz
      have HFT := Lib.hid (show F t = t.print t.last by rw [HF0.out]; exact if_pos hz)
      have HLP := Lib.hid (show (t.print t.last).last = t.last by unfold Scr.print; dsimp only; split <;> rfl)
      clear hz
      go_wp2_with fail
      refine (printS_any H1.out HO1.out t.last (by rw [HL1.out]; exact HLA.out)).mono ?_
      rintro e w2 ⟨rfl, C2, h2, p2⟩
      have H2 := Lib.hid h2
      have P2 := Lib.hid (HP1.out.trans p2)
      clear h2 p2
      go_wp2_with fail
      go_roundw
      case rel => exact ⟨k + 1, C2, _, by omega, by go_num, H2, Lib.hid (HO1.out.print HCC.out _), Lib.hid (HLP.out.trans HL1.out), P2, Lib.hid (HST.out _ HFT.out.symm)⟩
      case measure => simp [intOf]; omega
end Go.Proofs.YtlfdgkiliegaiaaGreatDoor
