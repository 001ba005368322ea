/- Package grid, texts laid together: K3 K9 K7 W13. -/
import Derived.Test.YtlfdgkiliegaiaaGreatDoorY10
import Derived.Test.YtlfdgkiliegaiaaGreatDoorY5
import Derived.Deep.RegionHeld3
import Derived.ChangeKeysEq
import Derived.Test.YtlfdgkiliegaiaaGreatDoorY6
import Derived.Test.YtlfdgkiliegaiaaGreatDoorY3
import Derived.Test.YtlfdgkiliegaiaaGreatDoorY1
/- Walks of package screen: index, reverse, on. -/
namespace Go.Proofs.YtlfdgkiliegaiaaGreatDoor
open Go.RowKit
set_option maxRecDepth 100000

theorem indexS_any {B : World} {C : Nat → Nat} {p c r : Nat} {w : World} {s : Scr} {ps : PSt} (h : SR B C p w s ps) (hok : s.Ok c r) :
    Calls Tryz.prog 158 #[.pointer (some ⟨p, 0, none⟩)] w fun e w' => e = .returned (.tuple #[]) ∧ Does B C p w w' s.index ps := by
  have hn := h.nums hok
  have HR := Lib.hid h
  by_cases hy : s.now.y = s.bottom
  · have d1 : (s.now.y == s.bottom) = true := beq_iff_eq.2 hy
    have HE := Lib.hid (show s.index = s.turn (fun g => g.up s.top s.bottom 1 s.blank s.other.isNone) by unfold Scr.index; rw [if_pos hy])
    have c1 : w.cell? ⟨p, 1, none⟩ = some (.int .i64 s.now.y) := h.at_ 1 _
    have c34 : w.cell? ⟨p, 34, none⟩ = some (.int .i64 s.bottom) := h.at_ 34 _
    clear hn h hy
    go_enter Tryz.func158, Tryz.ntmps158
    go_upto_region 0 with fail
    go_quiet (fail)
    have HB := Lib.hid (below_drewN (Below.refl w.heap.size w) nq)
    have h := HR.out.below HB.out
    generalize w.drewN nq = wn at *
    clear c1 c34
    have c33 : wn.cell? ⟨p, 33, none⟩ = some (.int .i64 s.top) := h.at_ 33 _
    have c34 : wn.cell? ⟨p, 34, none⟩ = some (.int .i64 s.bottom) := h.at_ 34 _
    obtain ⟨T, q, hg, hq, hk⟩ := h.grid
    have HG := Lib.hid hg
    have HQ := Lib.hid hq
    have HK := Lib.hid hk
    have HRI := Lib.hid (h.blankR hok)
    have HOT := Lib.hid h.oth
    clear hg hq hk
    have HR := Lib.hid h
    clear h
    rcases HOT.out with ⟨c11, hno⟩ | ⟨qo, c11, hno⟩
    all_goals
      rw [hno] at HE
      clear hno
      go_upto_region 1 with fail
      go_region_held3 (fun w' => w'.cell? ⟨p, 33, none⟩ = some (.int .i64 s.top) ∧ w'.cell? ⟨p, 34, none⟩ = some (.int .i64 s.bottom) ∧ w'.cell? ⟨p, 11, none⟩ = wn.cell? ⟨p, 11, none⟩) (first | exact ⟨c33, c34, rfl⟩ | exact ⟨z0, z1, z2⟩)
        (first
          | (go_at_call 69; refine (shownS_any (w := wn.drew) HQ.out).mono ?_; rintro e w4 ⟨rfl, rfl⟩)
          | (go_at_call 155; refine (blankS_any (HR.out.below (Below.refl _ _).drew)).mono ?_; rintro e w5 ⟨rfl, b5⟩; have HB5 := Lib.hid ((Below.refl wn.heap.size wn).drew.trans b5); have z0 := cell_below b5 c33; have z1 := cell_below b5 c34; have z2 := (cell_below b5 c11).trans c11.symm; clear b5)
          | (go_at_call 208; refine (up_any (HG.out.below HB5.out) _ _ _ _ (HRI.out.below HB5.out) _).mono ?_; rintro e w6 ⟨rfl, hw6, T6, g6, n6⟩; obtain ⟨d6, hb6⟩ := HK.out _ _ _ (fun g => g.up s.top s.bottom 1 s.blank _) HB5.out hw6 g6 n6; have HD := Lib.hid d6; have z0 := (cell_heap hb6 33).trans c33; have z1 := (cell_heap hb6 34).trans c34; have z2 := cell_heap hb6 11; clear hw6 T6 g6 n6 hb6 d6))
      go_wp2_with fail
      go_end0
      refine ⟨rfl, ?_⟩
      rw [HE.out]
      exact .after ((Pre.refl _ _).below HB.out) HD.out
  · have d1 : (s.now.y == s.bottom) = false := beq_eq_false_iff_ne.2 hy
    obtain ⟨x0, x1, y0, y1, t0, tb, b1, k1, k2, r1, r2, tl, pn⟩ := hn
    have hw1 : IntKind.i64.wrap ((s.main.rows.length : Int) - 1) = (s.main.rows.length : Int) - 1 := wrap64_id _ (by omega) (by omega)
    by_cases hy2 : s.now.y < (s.main.rows.length : Int) - 1
    · have d2 : decide (s.now.y < (s.main.rows.length : Int) - 1) = true := decide_eq_true hy2
      have hw2 : IntKind.i64.wrap (s.now.y + 1) = s.now.y + 1 := wrap64_id _ (by omega) (by omega)
      have HE := Lib.hid (show s.index = { s with now := { s.now with y := s.now.y + 1 } } by unfold Scr.index; rw [if_neg hy, if_pos (show s.now.y < s.rows - 1 from hy2)])
      have c1 : w.cell? ⟨p, 1, none⟩ = some (.int .i64 s.now.y) := h.at_ 1 _
      have c34 : w.cell? ⟨p, 34, none⟩ = some (.int .i64 s.bottom) := h.at_ 34 _
      clear h hy hy2 x0 x1 y0 y1 t0 tb b1 k1 k2 r1 r2 tl pn hok
      go_enter Tryz.func158, Tryz.ntmps158
      go_upto_region 0 with fail
      go_quiet (fail)
      have HB := Lib.hid (below_drewN (Below.refl w.heap.size w) nq)
      have h := HR.out.below HB.out
      generalize w.drewN nq = wn at *
      clear c1 c34
      have c1 : wn.cell? ⟨p, 1, none⟩ = some (.int .i64 s.now.y) := h.at_ 1 _
      have HRW := Lib.hid (fun w' hb => rowsS_any (h.below (w' := w') hb))
      go_upto_region 2 with fail
      go_quiet (first | (go_at_call 68; exact Calls.quiet_of_same (HRW.out _ (below_drewN (Below.refl _ _) _))))
      have HB2 := Lib.hid (HB.out.trans ((below_drewN (Below.refl wn.heap.size wn) nq).mono HB.out.size))
      replace h := h.below (below_drewN (Below.refl wn.heap.size wn) nq)
      generalize wn.drewN nq = wo at *
      clear c1
      have c1 : wo.cell? ⟨p, 1, none⟩ = some (.int .i64 s.now.y) := h.at_ 1 _
      have f1 := h.fz 1
      obtain ⟨h1, g1⟩ := h.set 1 (.int .i64 (s.now.y + 1)) { s with now := { s.now with y := s.now.y + 1 } }
      have HD := Lib.hid (show Does B C p wo _ s.index ps by rw [HE.out]; exact ⟨C, h1, g1⟩)
      clear h1 g1
      clear h
      go_wp2_with fail
      go_end0
      exact ⟨rfl, .after ((Pre.refl _ _).below HB2.out) HD.out⟩
    · have d2 : decide (s.now.y < (s.main.rows.length : Int) - 1) = false := decide_eq_false hy2
      have HE := Lib.hid (show s.index = s by unfold Scr.index; rw [if_neg hy, if_neg (show ¬ s.now.y < s.rows - 1 from hy2)])
      have c1 : w.cell? ⟨p, 1, none⟩ = some (.int .i64 s.now.y) := h.at_ 1 _
      have c34 : w.cell? ⟨p, 34, none⟩ = some (.int .i64 s.bottom) := h.at_ 34 _
      clear h hy hy2 x0 x1 y0 y1 t0 tb b1 k1 k2 r1 r2 tl pn hok
      go_enter Tryz.func158, Tryz.ntmps158
      go_upto_region 0 with fail
      go_quiet (fail)
      have HB := Lib.hid (below_drewN (Below.refl w.heap.size w) nq)
      have h := HR.out.below HB.out
      generalize w.drewN nq = wn at *
      clear c1 c34
      have c1 : wn.cell? ⟨p, 1, none⟩ = some (.int .i64 s.now.y) := h.at_ 1 _
      have HRW := Lib.hid (fun w' hb => rowsS_any (h.below (w' := w') hb))
      go_upto_region 2 with fail
      go_quiet (first | (go_at_call 68; exact Calls.quiet_of_same (HRW.out _ (below_drewN (Below.refl _ _) _))))
      have HB2 := Lib.hid (HB.out.trans ((below_drewN (Below.refl wn.heap.size wn) nq).mono HB.out.size))
      replace h := h.below (below_drewN (Below.refl wn.heap.size wn) nq)
      generalize wn.drewN nq = wo at *
      clear c1
      have c1 : wo.cell? ⟨p, 1, none⟩ = some (.int .i64 s.now.y) := h.at_ 1 _
      have HD := Lib.hid (show Does B C p wo wo s.index ps by rw [HE.out]; exact .refl h)
      clear h
      go_wp2_with fail
      go_end0
      exact ⟨rfl, .after ((Pre.refl _ _).below HB2.out) HD.out⟩
theorem reverseS_any {B : World} {C : Nat → Nat} {p c r : Nat} {w : World} {s : Scr} {ps : PSt} (h : SR B C p w s ps) (hok : s.Ok c r) :
    Calls Tryz.prog 211 #[.pointer (some ⟨p, 0, none⟩)] w fun e w' => e = .returned (.tuple #[]) ∧ Does B C p w w' s.reverse ps := by
  have hn := h.nums hok
  have HR := Lib.hid h
  by_cases hy : s.now.y = s.top
  · have d1 : (s.now.y == s.top) = true := beq_iff_eq.2 hy
    have HE := Lib.hid (show s.reverse = s.turn (fun g => g.down s.top s.bottom 1 s.blank) by unfold Scr.reverse; rw [if_pos hy])
    have c1 : w.cell? ⟨p, 1, none⟩ = some (.int .i64 s.now.y) := h.at_ 1 _
    have c33 : w.cell? ⟨p, 33, none⟩ = some (.int .i64 s.top) := h.at_ 33 _
    clear hn h hy
    go_enter Tryz.func211, Tryz.ntmps211
    go_upto_region 0 with fail
    go_quiet (fail)
    have HB := Lib.hid (below_drewN (Below.refl w.heap.size w) nq)
    have h := HR.out.below HB.out
    generalize w.drewN nq = wn at *
    clear c1 c33
    have c33 : wn.cell? ⟨p, 33, none⟩ = some (.int .i64 s.top) := h.at_ 33 _
    have c34 : wn.cell? ⟨p, 34, none⟩ = some (.int .i64 s.bottom) := h.at_ 34 _
    obtain ⟨T, q, hg, hq, hk⟩ := h.grid
    have HG := Lib.hid hg
    have HQ := Lib.hid hq
    have HK := Lib.hid hk
    have HRI := Lib.hid (h.blankR hok)
    clear hg hq hk
    have HR := Lib.hid h
    clear h
    go_upto_region 1 with fail
    go_region_held3 (fun w' => w'.cell? ⟨p, 33, none⟩ = some (.int .i64 s.top) ∧ w'.cell? ⟨p, 34, none⟩ = some (.int .i64 s.bottom)) (first | exact ⟨c33, c34⟩ | exact ⟨z0, z1⟩)
      (first
        | (go_at_call 69; refine (shownS_any (w := wn.drew) HQ.out).mono ?_; rintro e w4 ⟨rfl, rfl⟩)
        | (go_at_call 155; refine (blankS_any (HR.out.below (Below.refl _ _).drew)).mono ?_; rintro e w5 ⟨rfl, b5⟩; have HB5 := Lib.hid ((Below.refl wn.heap.size wn).drew.trans b5); have z0 := cell_below b5 c33; have z1 := cell_below b5 c34; clear b5)
        | (go_at_call 279; refine (down_any (HG.out.below HB5.out) _ _ _ _ (HRI.out.below HB5.out)).mono ?_; rintro e w6 ⟨rfl, hw6, T6, g6, n6⟩; obtain ⟨d6, hb6⟩ := HK.out _ _ _ (fun g => g.down s.top s.bottom 1 s.blank) HB5.out hw6 g6 n6; have HD := Lib.hid d6; have z0 := (cell_heap hb6 33).trans c33; have z1 := (cell_heap hb6 34).trans c34; clear hw6 T6 g6 n6 hb6 d6))
    go_wp2_with fail
    go_end0
    refine ⟨rfl, ?_⟩
    rw [HE.out]
    exact .after ((Pre.refl _ _).below HB.out) HD.out
  · have d1 : (s.now.y == s.top) = false := beq_eq_false_iff_ne.2 hy
    obtain ⟨x0, x1, y0, y1, t0, tb, b1, k1, k2, r1, r2, tl, pn⟩ := hn
    have hw1 : IntKind.i64.wrap ((s.main.rows.length : Int) - 1) = (s.main.rows.length : Int) - 1 := wrap64_id _ (by omega) (by omega)
    by_cases hy2 : 0 < s.now.y
    · have d2 : decide (0 < s.now.y) = true := decide_eq_true hy2
      have hw2 : IntKind.i64.wrap (s.now.y - 1) = s.now.y - 1 := wrap64_id _ (by omega) (by omega)
      have HE := Lib.hid (show s.reverse = { s with now := { s.now with y := s.now.y - 1 } } by unfold Scr.reverse; rw [if_neg hy, if_pos (show 0 < s.now.y from hy2)])
      have c1 : w.cell? ⟨p, 1, none⟩ = some (.int .i64 s.now.y) := h.at_ 1 _
      have c33 : w.cell? ⟨p, 33, none⟩ = some (.int .i64 s.top) := h.at_ 33 _
      clear h hy hy2 x0 x1 y0 y1 t0 tb b1 k1 k2 r1 r2 tl pn hok
      go_enter Tryz.func211, Tryz.ntmps211
      go_upto_region 0 with fail
      go_quiet (fail)
      have HB := Lib.hid (below_drewN (Below.refl w.heap.size w) nq)
      have h := HR.out.below HB.out
      generalize w.drewN nq = wn at *
      clear c1 c33
      have c1 : wn.cell? ⟨p, 1, none⟩ = some (.int .i64 s.now.y) := h.at_ 1 _
      have f1 := h.fz 1
      obtain ⟨h1, g1⟩ := h.set 1 (.int .i64 (s.now.y - 1)) { s with now := { s.now with y := s.now.y - 1 } }
      have HD := Lib.hid (show Does B C p wn _ s.reverse ps by rw [HE.out]; exact ⟨C, h1, g1⟩)
      clear h1 g1
      clear h
      go_wp2_with fail
      go_end0
      exact ⟨rfl, .after ((Pre.refl _ _).below HB.out) HD.out⟩
    · have d2 : decide (0 < s.now.y) = false := decide_eq_false hy2
      have HE := Lib.hid (show s.reverse = s by unfold Scr.reverse; rw [if_neg hy, if_neg (show ¬ 0 < s.now.y from hy2)])
      have c1 : w.cell? ⟨p, 1, none⟩ = some (.int .i64 s.now.y) := h.at_ 1 _
      have c33 : w.cell? ⟨p, 33, none⟩ = some (.int .i64 s.top) := h.at_ 33 _
      clear h hy hy2 x0 x1 y0 y1 t0 tb b1 k1 k2 r1 r2 tl pn hok
      go_enter Tryz.func211, Tryz.ntmps211
      go_upto_region 0 with fail
      go_quiet (fail)
      have HB := Lib.hid (below_drewN (Below.refl w.heap.size w) nq)
      have h := HR.out.below HB.out
      generalize w.drewN nq = wn at *
      clear c1 c33
      have c1 : wn.cell? ⟨p, 1, none⟩ = some (.int .i64 s.now.y) := h.at_ 1 _
      have HD := Lib.hid (show Does B C p wn wn s.reverse ps by rw [HE.out]; exact .refl h)
      clear h
      go_wp2_with fail
      go_end0
      exact ⟨rfl, .after ((Pre.refl _ _).below HB.out) HD.out⟩
theorem onS_any {B : World} {C : Nat → Nat} {p c r : Nat} {w : World} {s : Scr} {ps : PSt} (h : SR B C p w s ps) (hok : s.Ok c r) :
    Calls Tryz.prog 153 #[.pointer (some ⟨p, 0, none⟩)] w fun e w' => e = .returned (.tuple #[]) ∧ Does B C p w w' s.on ps := by
  have hn := h.nums hok
  have c1 : w.cell? ⟨p, 1, none⟩ = some (.int .i64 s.now.y) := h.at_ 1 _
  obtain ⟨T, q, hg, hq, hk⟩ := h.grid
  have HG := Lib.hid hg
  have HQ := Lib.hid hq
  have HK := Lib.hid hk
  clear hg hq hk
  have HOK := Lib.hid ((hok.turn (fun g => g.setWrap s.now.y true) (fun g hg => same_wrap hg _ _)).toX (x := 0) (by omega) (by rw [(hn.ok hok).1]; have := hn.c1; omega))
  clear hn h hok
  go_enter Tryz.func153, Tryz.ntmps153
  go_upto_region 0 with fail
  go_region_held3 (fun w' => w'.cell? ⟨p, 1, none⟩ = some (.int .i64 s.now.y)) (first | exact c1 | exact z0)
    (first
      | (go_at_call 69; refine (shownS_any (w := w.drew) HQ.out).mono ?_; rintro e w4 ⟨rfl, rfl⟩)
      | (go_at_call 205; refine (wrap_any (HG.out.below (Below.refl _ _).drew) _ _).mono ?_; rintro e w6 ⟨rfl, hw6, g6⟩; obtain ⟨d6, hb6⟩ := HK.out _ _ _ (fun g => g.setWrap s.now.y true) (Below.refl _ _).drew hw6 g6 (fun k hk => .inl hk); have HD := Lib.hid d6; have z0 := (cell_heap hb6 1).trans c1; clear hw6 g6 hb6 d6))
  obtain ⟨C1, h1, p1⟩ := HD.out
  have c0 : w6.cell? ⟨p, 0, none⟩ = some (.int .i64 (s.turn (fun g => g.setWrap s.now.y true)).now.x) := h1.at_ 0 _
  have f0 := h1.fz 0
  obtain ⟨h2, p2⟩ := h1.set 0 (.int .i64 0) ((s.turn (fun g => g.setWrap s.now.y true)).toX 0)
  have H2 := Lib.hid h2
  have P2 := Lib.hid (p1.trans p2)
  clear h1 p1 h2 p2 z0
  go_wp2_with fail
  refine (indexS_any H2.out HOK.out).mono ?_
  rintro e w8 ⟨rfl, d8⟩
  have HD8 := Lib.hid (Does.after P2.out d8)
  clear d8
  go_wp2_with fail
  go_end0
  exact ⟨rfl, HD8.out⟩
end Go.Proofs.YtlfdgkiliegaiaaGreatDoor

/- Walks of package screen: what is saved and restored. -/
namespace Go.Proofs.YtlfdgkiliegaiaaGreatDoor
open Go.RowKit
set_option maxRecDepth 100000

theorem sav_info : (Tryz.prog.info? 85).map (·.size) = some 10 := by kernel_rfl
def Sav.arr (v : Sav) : Array Value := #[.int .i64 v.x, .int .i64 v.y, .bool v.wait, .int .i64 v.pen.fg, .int .i64 v.pen.bg, .int .i64 v.pen.attr, .bool v.origin, .bool v.l0, .bool v.l1, .int .i64 v.second]
theorem fresh_scr (w : World) : Calls Tryz.prog 84 #[] w fun e w' => e = .returned (.agg sav0.arr) ∧ Below w.heap.size w w' := by
  have hb0 := blk_new w (.cells #[.int .i64 0, .int .i64 0, .bool false, .int .i64 0, .int .i64 0, .int .i64 0, .bool false, .bool false, .bool false, .int .i64 0] 85)
  have hB0 := (Below.refl w.heap.size w).alloc (Nat.le_refl _) (.cells #[.int .i64 0, .int .i64 0, .bool false, .int .i64 0, .int .i64 0, .int .i64 0, .bool false, .bool false, .bool false, .int .i64 0] 85)
  go_enter Tryz.func84, Tryz.ntmps84
  go_wp2_with fail
  refine (plain_any _).mono ?_
  rintro e w2 ⟨rfl, b2⟩
  have hb2 := blk_below hb0 b2 (by simp)
  have hst := run_storeVar_row (P := Tryz.prog) w2 w.heap.size 85 85 _ sav0.arr hb2 sav_info rfl (by simp [Value.oneCell', Sav.arr])
  have hr2 := setRow_blk (cells := sav0.arr) hb2
  have hB2 := Lib.hid (hB0.trans (b2.mono (by simp)))
  have hB3 := Lib.hid (below_row hB2.out (g := w.heap.size) (Nat.le_refl _) sav0.arr)
  unfold Sty.val plainS
  clear hB0 b2
  generalize w2.setRow w.heap.size sav0.arr = w3 at *
  go_wp2_with (refine wpList_storeR rfl _ _ _ rfl hst rfl rfl ?_)
  exact retRow rfl rfl rfl hr2 Tryz.underlying85 rfl (by exact sav_info) ⟨rfl, hB3.out⟩
/-- Where this screen's things are saved. -/
def Scr.slotO (s : Scr) : Nat := if s.other.isSome then 22 else 12
theorem slotS_any {B : World} {C : Nat → Nat} {p : Nat} {w : World} {s : Scr} {ps : PSt} (h : SR B C p w s ps) :
    Calls Tryz.prog 238 #[.pointer (some ⟨p, 0, none⟩)] w fun e w' => e = .returned (.pointer (some ⟨p, s.slotO, none⟩)) ∧ w' = w := by
  rcases h.oth with ⟨c11, hno⟩ | ⟨qo, c11, hno⟩
  · have HO := Lib.hid (show s.slotO = 12 by unfold Scr.slotO; cases ho : s.other <;> rw [ho] at hno <;> first | rfl | cases hno)
    clear h hno
    go_enter Tryz.func238, Tryz.ntmps238
    go_wp2_with fail
    go_ret
    rw [HO.out]
    exact ⟨rfl, rfl⟩
  · have HO := Lib.hid (show s.slotO = 22 by unfold Scr.slotO; cases ho : s.other <;> rw [ho] at hno <;> first | rfl | cases hno)
    clear h hno
    go_enter Tryz.func238, Tryz.ntmps238
    go_wp2_with fail
    go_ret
    rw [HO.out]
    exact ⟨rfl, rfl⟩
theorem SR.slotR {B : World} {C : Nat → Nat} {p : Nat} {w : World} {s : Scr} {ps : PSt} (h : SR B C p w s ps) : w.rangeAt p s.slotO s.slot.vals := by
  unfold Scr.slotO Scr.slot
  cases s.other.isSome
  · exact h.k0R
  · exact h.k1R
theorem SR.setSlot {B : World} {C : Nat → Nat} {p : Nat} {w : World} {s : Scr} {ps : PSt} (h : SR B C p w s ps) (v : Sav) : SR B C p (w.setCells p s.slotO v.vals) (s.setSlot v) ps ∧ Pre C w C (w.setCells p s.slotO v.vals) := by
  unfold Scr.slotO Scr.setSlot
  cases s.other.isSome
  · exact h.setK0 v
  · exact h.setK1 v
theorem setSlot_same (s : Scr) : s.setSlot s.slot = s := by
  unfold Scr.setSlot Scr.slot
  cases s.other.isSome <;> rfl
def Sav.eqb (a b : Sav) : Bool := a.x == b.x && (a.y == b.y && (a.wait == b.wait && (a.pen.eqb b.pen && (a.origin == b.origin && ((a.l0 == b.l0 && a.l1 == b.l1) && a.second == b.second)))))
theorem Sav.eqb_iff (a b : Sav) : a.eqb b = true ↔ a = b := by
  obtain ⟨x, y, wt, pen, og, l0, l1, sc⟩ := a
  obtain ⟨x', y', wt', pen', og', l0', l1', sc'⟩ := b
  simp [Sav.eqb, Sty.eqb_iff, and_assoc]
theorem eq_sav_in (a b : Sav) (d : Nat) (w : World) : (Op.equalIn (d + 4) 85 (.agg a.arr) (.agg b.arr)).run Tryz.prog w = .ok (a.eqb b) w := by
  have hS : Tryz.prog.underlying 85 = some (.struct (Tryz.prog.fieldsOf 85)) := by kernel_rfl
  have hp : Tryz.prog.stoodInHeld 85 = false := by kernel_rfl
  have hq := eq_sty_in a.pen b.pen (d + 1) w
  unfold Sty.val at hq
  unfold Sav.arr
  rw [run_equalIn_agg w (d + 3) 85 _ _ hS hp]
  simp only [Program.fieldsOf, Tryz.underlying85]
  go_simp
  have h83 : (Op.equalIn (d + 3) 83 (.agg #[.bool a.l0, .bool a.l1]) (.agg #[.bool b.l0, .bool b.l1])).run Tryz.prog w = .ok (a.l0 == b.l0 && a.l1 == b.l1) w := by
    obtain ⟨i, hi, _⟩ := Option.map_eq_some_iff.1 (show (Tryz.prog.info? 4).map (·.size) = some 1 by kernel_rfl)
    have hs : ∀ wx, (sizeOf 4).run Tryz.prog wx = .ok 1 wx := fun wx => run_size (by kernel_rfl) wx
    rw [run_equalIn_array w (d + 2) _ _ Tryz.underlying83 hi]
    rw [show Tryz.prog.cellsOf 4 = 1 by kernel_rfl]
    have hq0 := run_equalIn_bool' (P := Tryz.prog) w (d + 1) 4 a.l0 b.l0 Tryz.underlying4
    have hq1 := run_equalIn_bool' (P := Tryz.prog) w (d + 1) 4 a.l1 b.l1 Tryz.underlying4
    simp [show List.range 2 = [0, 1] from rfl, Op.eqItems, part, hs, hq0, hq1]
    by_cases h0 : a.l0 = b.l0 <;> by_cases h1 : a.l1 = b.l1 <;> simp [h0, h1]
  rw [h83]
  unfold Sav.eqb Sty.eqb
  by_cases h1 : a.x = b.x
  rotate_left
  · simp [h1]
  by_cases h2 : a.y = b.y
  rotate_left
  · simp [h1, h2]
  by_cases h3 : a.wait = b.wait
  rotate_left
  · simp [h1, h2, h3]
  by_cases h4 : a.pen.fg = b.pen.fg
  rotate_left
  · simp [h1, h2, h3, h4]
  by_cases h5 : a.pen.bg = b.pen.bg
  rotate_left
  · simp [h1, h2, h3, h4, h5]
  by_cases h6 : a.pen.attr = b.pen.attr
  rotate_left
  · simp [h1, h2, h3, h4, h5, h6]
  by_cases h7 : a.origin = b.origin
  rotate_left
  · simp [h1, h2, h3, h4, h5, h6, h7]
  by_cases h8 : a.l0 = b.l0 <;> by_cases h9 : a.l1 = b.l1 <;> by_cases h10 : a.second = b.second <;> simp [h1, h2, h3, h4, h5, h6, h7, h8, h9, h10]
theorem neq_sav (a b : Sav) (w : World) : (binOp .neq 85 (.agg a.arr) (.agg b.arr)).run Tryz.prog w = .ok (.bool (!a.eqb b)) w := by
  have := eq_sav_in a b 9996 w
  unfold Sav.arr at *
  rw [run_neq_struct, show (10000 : Nat) = 9996 + 4 from rfl, this]; rfl
theorem guard_sav (op : BinOp) (x y : Operand) (a b : Sav) (w : World) : (eqGuard op 85 x y (.agg a.arr) (.agg b.arr)).run Tryz.prog w = .ok () w := run_eqGuard_agg w op 85 x y _ _ (by kernel_rfl)
theorem store_sav {w : World} {p o : Nat} (v : Sav) (h : w.there p o 10) : (storeVar 85 ⟨p, o, none⟩ (.agg v.arr)).run Tryz.prog w = .ok () (w.setCells p o v.vals) :=
  run_storeVar_mid w p o 85 v.arr h sav_info (by simp [Sav.arr, Value.oneCell'])
theorem SR.thereSlot {B : World} {C : Nat → Nat} {p : Nat} {w : World} {s : Scr} {ps : PSt} (h : SR B C p w s ps) : w.there p s.slotO 10 := by
  unfold Scr.slotO
  cases s.other.isSome
  · exact h.there 12 10 (by decide)
  · exact h.there 22 10 (by decide)
def Scr.save1 (s : Scr) : Scr := { s with now := { s.now with origin := s.has 4 } }
theorem saveS_any {B : World} {C : Nat → Nat} {p : Nat} {w : World} {s : Scr} {ps : PSt} (h : SR B C p w s ps) :
    Calls Tryz.prog 209 #[.pointer (some ⟨p, 0, none⟩)] w fun e w' => e = .returned (.tuple #[]) ∧ Does B C p w w' s.save ps := by
  have c6 : w.cell? ⟨p, 6, none⟩ = some (.bool s.now.origin) := h.at_ 6 _
  have f6 := h.fz 6
  have HH := Lib.hid (hasS_any h 4)
  obtain ⟨h1, g1⟩ := h.set 6 (.bool (s.has 4)) s.save1
  have H1 := Lib.hid h1
  have G1 := Lib.hid g1
  have HSV := Lib.hid (show s.save = s.save1.setSlot s.save1.now from rfl)
  clear h h1 g1
  go_enter Tryz.func209, Tryz.ntmps209
  go_wp2_with fail
  refine HH.out.mono ?_
  rintro e w2 ⟨rfl, rfl⟩
  go_upto_region 1 with fail
  generalize hw1 : w2.setCell ⟨p, 6, none⟩ (.bool (s.has 4)) = w1 at *
  clear c6 f6 HH
  generalize s.save1 = s1 at *
  go_wp2_with fail
  refine (slotS_any H1.out).mono ?_
  rintro e w3 ⟨rfl, rfl⟩
  have a0 : w3.cell? ⟨p, s1.slotO, none⟩ = some (.int .i64 s1.slot.x) := H1.out.slotR 0 _ rfl
  have a1 : w3.cell? ⟨p, s1.slotO + 1, none⟩ = some (.int .i64 s1.slot.y) := H1.out.slotR 1 _ rfl
  have a2 : w3.cell? ⟨p, s1.slotO + 2, none⟩ = some (.bool s1.slot.wait) := H1.out.slotR 2 _ rfl
  have a3 : w3.cell? ⟨p, s1.slotO + 3, none⟩ = some (.int .i64 s1.slot.pen.fg) := H1.out.slotR 3 _ rfl
  have a4 : w3.cell? ⟨p, s1.slotO + 4, none⟩ = some (.int .i64 s1.slot.pen.bg) := H1.out.slotR 4 _ rfl
  have a5 : w3.cell? ⟨p, s1.slotO + 5, none⟩ = some (.int .i64 s1.slot.pen.attr) := H1.out.slotR 5 _ rfl
  have a6 : w3.cell? ⟨p, s1.slotO + 6, none⟩ = some (.bool s1.slot.origin) := H1.out.slotR 6 _ rfl
  have a7 : w3.cell? ⟨p, s1.slotO + 7, none⟩ = some (.bool s1.slot.l0) := H1.out.slotR 7 _ rfl
  have a8 : w3.cell? ⟨p, s1.slotO + 8, none⟩ = some (.bool s1.slot.l1) := H1.out.slotR 8 _ rfl
  have a9 : w3.cell? ⟨p, s1.slotO + 9, none⟩ = some (.int .i64 s1.slot.second) := H1.out.slotR 9 _ rfl
  have b0 : w3.cell? ⟨p, 0, none⟩ = some (.int .i64 s1.now.x) := H1.out.at_ 0 _
  have b1 : w3.cell? ⟨p, 1, none⟩ = some (.int .i64 s1.now.y) := H1.out.at_ 1 _
  have b2 : w3.cell? ⟨p, 2, none⟩ = some (.bool s1.now.wait) := H1.out.at_ 2 _
  have b3 : w3.cell? ⟨p, 3, none⟩ = some (.int .i64 s1.now.pen.fg) := H1.out.at_ 3 _
  have b4 : w3.cell? ⟨p, 4, none⟩ = some (.int .i64 s1.now.pen.bg) := H1.out.at_ 4 _
  have b5 : w3.cell? ⟨p, 5, none⟩ = some (.int .i64 s1.now.pen.attr) := H1.out.at_ 5 _
  have b6 : w3.cell? ⟨p, 6, none⟩ = some (.bool s1.now.origin) := H1.out.at_ 6 _
  have b7 : w3.cell? ⟨p, 7, none⟩ = some (.bool s1.now.l0) := H1.out.at_ 7 _
  have b8 : w3.cell? ⟨p, 8, none⟩ = some (.bool s1.now.l1) := H1.out.at_ 8 _
  have b9 : w3.cell? ⟨p, 9, none⟩ = some (.int .i64 s1.now.second) := H1.out.at_ 9 _
  have hne : ∀ wx : World, (binOp .neq 85 (.agg #[.int .i64 s1.slot.x, .int .i64 s1.slot.y, .bool s1.slot.wait, .int .i64 s1.slot.pen.fg, .int .i64 s1.slot.pen.bg, .int .i64 s1.slot.pen.attr, .bool s1.slot.origin, .bool s1.slot.l0, .bool s1.slot.l1, .int .i64 s1.slot.second]) (.agg #[.int .i64 s1.now.x, .int .i64 s1.now.y, .bool s1.now.wait, .int .i64 s1.now.pen.fg, .int .i64 s1.now.pen.bg, .int .i64 s1.now.pen.attr, .bool s1.now.origin, .bool s1.now.l0, .bool s1.now.l1, .int .i64 s1.now.second])).run Tryz.prog wx = .ok (.bool (!s1.slot.eqb s1.now)) wx := fun wx => neq_sav s1.slot s1.now wx
  have hgd : ∀ (x y : Operand) (wx : World), (eqGuard .neq 85 x y (.agg #[.int .i64 s1.slot.x, .int .i64 s1.slot.y, .bool s1.slot.wait, .int .i64 s1.slot.pen.fg, .int .i64 s1.slot.pen.bg, .int .i64 s1.slot.pen.attr, .bool s1.slot.origin, .bool s1.slot.l0, .bool s1.slot.l1, .int .i64 s1.slot.second]) (.agg #[.int .i64 s1.now.x, .int .i64 s1.now.y, .bool s1.now.wait, .int .i64 s1.now.pen.fg, .int .i64 s1.now.pen.bg, .int .i64 s1.now.pen.attr, .bool s1.now.origin, .bool s1.now.l0, .bool s1.now.l1, .int .i64 s1.now.second])).run Tryz.prog wx = .ok () wx := fun x y wx => guard_sav .neq x y s1.slot s1.now wx
  go_upto_region 2 with fail
  go_region_held3 (fun w' => w'.cell? ⟨p, s1.slotO, none⟩ = some (.int .i64 s1.slot.x) ∧ w'.cell? ⟨p, s1.slotO + 1, none⟩ = some (.int .i64 s1.slot.y) ∧ w'.cell? ⟨p, s1.slotO + 2, none⟩ = some (.bool s1.slot.wait) ∧ w'.cell? ⟨p, s1.slotO + 3, none⟩ = some (.int .i64 s1.slot.pen.fg) ∧ w'.cell? ⟨p, s1.slotO + 4, none⟩ = some (.int .i64 s1.slot.pen.bg) ∧ w'.cell? ⟨p, s1.slotO + 5, none⟩ = some (.int .i64 s1.slot.pen.attr) ∧ w'.cell? ⟨p, s1.slotO + 6, none⟩ = some (.bool s1.slot.origin) ∧ w'.cell? ⟨p, s1.slotO + 7, none⟩ = some (.bool s1.slot.l0) ∧ w'.cell? ⟨p, s1.slotO + 8, none⟩ = some (.bool s1.slot.l1) ∧ w'.cell? ⟨p, s1.slotO + 9, none⟩ = some (.int .i64 s1.slot.second) ∧ w'.cell? ⟨p, 0, none⟩ = some (.int .i64 s1.now.x) ∧ w'.cell? ⟨p, 1, none⟩ = some (.int .i64 s1.now.y) ∧ w'.cell? ⟨p, 2, none⟩ = some (.bool s1.now.wait) ∧ w'.cell? ⟨p, 3, none⟩ = some (.int .i64 s1.now.pen.fg) ∧ w'.cell? ⟨p, 4, none⟩ = some (.int .i64 s1.now.pen.bg) ∧ w'.cell? ⟨p, 5, none⟩ = some (.int .i64 s1.now.pen.attr) ∧ w'.cell? ⟨p, 6, none⟩ = some (.bool s1.now.origin) ∧ w'.cell? ⟨p, 7, none⟩ = some (.bool s1.now.l0) ∧ w'.cell? ⟨p, 8, none⟩ = some (.bool s1.now.l1) ∧ w'.cell? ⟨p, 9, none⟩ = some (.int .i64 s1.now.second)) (first | exact ⟨a0, a1, a2, a3, a4, a5, a6, a7, a8, a9, b0, b1, b2, b3, b4, b5, b6, b7, b8, b9⟩) (first | fail)
  clear a0 a1 a2 a3 a4 a5 a6 a7 a8 a9 b0 b1 b2 b3 b4 b5 b6 b7 b8 b9 hne hgd
  have HD1 := Lib.hid (H1.out.below (Below.refl w3.heap.size w3).drew)
  have GD1 := Lib.hid (G1.out.below (Below.refl w3.heap.size w3).drew)
  rename_i hS
  clear hS
  generalize w3.drew = wd at *
  obtain ⟨b, hb⟩ : ∃ b, b = s1.slot.eqb s1.now := ⟨_, rfl⟩
  rw [← hb]
  have HB := Lib.hid hb
  clear hb
  cases b
  · obtain ⟨h4, g4⟩ := HD1.out.setSlot s1.now
    have HD := Lib.hid (show Does B C p w2 _ s.save ps by rw [HSV.out]; exact ⟨_, h4, GD1.out.trans g4⟩)
    have hst := store_sav s1.now HD1.out.thereSlot
    unfold Sav.arr at hst
    have b0 : wd.cell? ⟨p, 0, none⟩ = some (.int .i64 s1.now.x) := HD1.out.at_ 0 _
    have b1 : wd.cell? ⟨p, 1, none⟩ = some (.int .i64 s1.now.y) := HD1.out.at_ 1 _
    have b2 : wd.cell? ⟨p, 2, none⟩ = some (.bool s1.now.wait) := HD1.out.at_ 2 _
    have b3 : wd.cell? ⟨p, 3, none⟩ = some (.int .i64 s1.now.pen.fg) := HD1.out.at_ 3 _
    have b4 : wd.cell? ⟨p, 4, none⟩ = some (.int .i64 s1.now.pen.bg) := HD1.out.at_ 4 _
    have b5 : wd.cell? ⟨p, 5, none⟩ = some (.int .i64 s1.now.pen.attr) := HD1.out.at_ 5 _
    have b6 : wd.cell? ⟨p, 6, none⟩ = some (.bool s1.now.origin) := HD1.out.at_ 6 _
    have b7 : wd.cell? ⟨p, 7, none⟩ = some (.bool s1.now.l0) := HD1.out.at_ 7 _
    have b8 : wd.cell? ⟨p, 8, none⟩ = some (.bool s1.now.l1) := HD1.out.at_ 8 _
    have b9 : wd.cell? ⟨p, 9, none⟩ = some (.int .i64 s1.now.second) := HD1.out.at_ 9 _
    clear h4 g4
    go_wp2_with (refine wpList_storeR rfl _ _ _ rfl hst rfl rfl ?_)
    go_end0
    exact ⟨rfl, HD.out⟩
  · have HD := Lib.hid (show Does B C p w2 wd s.save ps by
      rw [HSV.out, ← (Sav.eqb_iff _ _).1 HB.out.symm, setSlot_same]
      exact ⟨_, HD1.out, GD1.out⟩)
    go_wp2_with fail
    go_end0
    exact ⟨rfl, HD.out⟩
theorem restoreS_any {B : World} {C : Nat → Nat} {p : Nat} {w : World} {s : Scr} {ps : PSt} (h : SR B C p w s ps) :
    Calls Tryz.prog 210 #[.pointer (some ⟨p, 0, none⟩)] w fun e w' => e = .returned (.tuple #[]) ∧ Does B C p w w' s.restore ps := by
  have HR := Lib.hid h
  have a0 : w.cell? ⟨p, s.slotO, none⟩ = some (.int .i64 s.slot.x) := HR.out.slotR 0 _ rfl
  have a1 : w.cell? ⟨p, s.slotO + 1, none⟩ = some (.int .i64 s.slot.y) := HR.out.slotR 1 _ rfl
  have a2 : w.cell? ⟨p, s.slotO + 2, none⟩ = some (.bool s.slot.wait) := HR.out.slotR 2 _ rfl
  have a3 : w.cell? ⟨p, s.slotO + 3, none⟩ = some (.int .i64 s.slot.pen.fg) := HR.out.slotR 3 _ rfl
  have a4 : w.cell? ⟨p, s.slotO + 4, none⟩ = some (.int .i64 s.slot.pen.bg) := HR.out.slotR 4 _ rfl
  have a5 : w.cell? ⟨p, s.slotO + 5, none⟩ = some (.int .i64 s.slot.pen.attr) := HR.out.slotR 5 _ rfl
  have a6 : w.cell? ⟨p, s.slotO + 6, none⟩ = some (.bool s.slot.origin) := HR.out.slotR 6 _ rfl
  have a7 : w.cell? ⟨p, s.slotO + 7, none⟩ = some (.bool s.slot.l0) := HR.out.slotR 7 _ rfl
  have a8 : w.cell? ⟨p, s.slotO + 8, none⟩ = some (.bool s.slot.l1) := HR.out.slotR 8 _ rfl
  have a9 : w.cell? ⟨p, s.slotO + 9, none⟩ = some (.int .i64 s.slot.second) := HR.out.slotR 9 _ rfl
  have HS := Lib.hid (slotS_any h)
  have hst := store_sav s.slot (h.there 0 10 (by decide))
  unfold Sav.arr at hst
  obtain ⟨h1, g1⟩ := h.setNow s.slot
  have H1 := Lib.hid h1
  have G1 := Lib.hid g1
  clear h h1 g1
  go_enter Tryz.func210, Tryz.ntmps210
  go_wp2_with fail
  refine HS.out.mono ?_
  rintro e w2 ⟨rfl, rfl⟩
  go_upto_region 1 with (refine wpList_storeR rfl _ _ _ rfl hst rfl rfl ?_)
  clear hst HS a0 a1 a2 a3 a4 a5 a6 a7 a8 a9
  generalize w2.setCells p 0 s.slot.vals = w3 at *
  have c6 : w3.cell? ⟨p, 6, none⟩ = some (.bool s.slot.origin) := H1.out.at_ 6 _
  go_wp2_with fail
  refine (modeS_any H1.out 4 s.slot.origin).mono ?_
  rintro e w4 ⟨rfl, d4⟩
  have HD := Lib.hid (Does.after G1.out d4)
  clear d4
  go_wp2_with fail
  go_end0
  exact ⟨rfl, HD.out⟩
theorem keepS_any {B : World} {C : Nat → Nat} {p : Nat} {w : World} {s : Scr} {ps : PSt} (h : SR B C p w s ps) (on : Bool) :
    Calls Tryz.prog 236 #[.pointer (some ⟨p, 0, none⟩), .bool on] w fun e w' => e = .returned (.tuple #[]) ∧ Does B C p w w' (s.keep on) ps := by
  cases on
  · have HD := Lib.hid (restoreS_any h)
    clear h
    go_enter Tryz.func236, Tryz.ntmps236
    go_wp2_with fail
    refine HD.out.mono ?_
    rintro e w2 ⟨rfl, d2⟩
    have HD2 := Lib.hid d2
    clear d2
    go_wp2_with fail
    go_end0
    exact ⟨rfl, HD2.out⟩
  · have HD := Lib.hid (saveS_any h)
    clear h
    go_enter Tryz.func236, Tryz.ntmps236
    go_wp2_with fail
    refine HD.out.mono ?_
    rintro e w2 ⟨rfl, d2⟩
    have HD2 := Lib.hid d2
    clear d2
    go_wp2_with fail
    go_end0
    exact ⟨rfl, HD2.out⟩
end Go.Proofs.YtlfdgkiliegaiaaGreatDoor

/- Walks of package screen: what changes cells. -/
namespace Go.Proofs.YtlfdgkiliegaiaaGreatDoor
open Go.RowKit
set_option maxRecDepth 100000

theorem turn_turn (s : Scr) (f g : Gr → Gr) : (s.turn f).turn g = s.turn (fun x => g (f x)) := by
  unfold Scr.turn; cases s.other <;> rfl
theorem turn_id (s : Scr) : s.turn (fun g => g) = s := by
  cases s with
  | mk now main other k0 k1 modes top bottom tabs title last bells out => cases other <;> rfl
theorem turn_blank (s : Scr) (f : Gr → Gr) : (s.turn f).blank = s.blank := by unfold Scr.blank; rw [turn_now]
def Scr.enter (s : Scr) : Scr := if s.inside = true then (s.toX 0).calm else s
def Scr.opened (s : Scr) (n : Int) : Scr := if s.inside = true then ((s.toX 0).calm).turn (fun g => g.down s.now.y s.bottom n s.blank) else s
def Scr.shutted (s : Scr) (n : Int) : Scr := if s.inside = true then ((s.toX 0).calm).turn (fun g => g.up s.now.y s.bottom n s.blank false) else s
theorem insertS_any {B : World} {C : Nat → Nat} {p c r : Nat} {w : World} {s : Scr} {ps : PSt} (h : SR B C p w s ps) (hok : s.Ok c r) (n : Int) :
    Calls Tryz.prog 223 #[.pointer (some ⟨p, 0, none⟩), .int .i64 n] w fun e w' => e = .returned (.tuple #[]) ∧ Does B C p w w' (s.turn (fun g => g.ins s.now.x s.now.y n s.blank)).calm ps := by
  have HR := Lib.hid h
  have c0 : w.cell? ⟨p, 0, none⟩ = some (.int .i64 s.now.x) := h.at_ 0 _
  have c1 : w.cell? ⟨p, 1, none⟩ = some (.int .i64 s.now.y) := h.at_ 1 _
  obtain ⟨T, q, hg, hq, hk⟩ := h.grid
  have HG := Lib.hid hg
  have HQ := Lib.hid hq
  have HK := Lib.hid hk
  have HRI := Lib.hid (h.blankR hok)
  clear hg hq hk
  clear h
  go_enter Tryz.func223, Tryz.ntmps223
  go_upto_region 0 with fail
  go_region_held3 (fun w' => w'.cell? ⟨p, 0, none⟩ = some (.int .i64 s.now.x) ∧ w'.cell? ⟨p, 1, none⟩ = some (.int .i64 s.now.y)) (first | exact ⟨c0, c1⟩ | exact ⟨z0, z1⟩)
    (first
      | (go_at_call 69; refine (shownS_any (w := w.drew) HQ.out).mono ?_; rintro e w4 ⟨rfl, rfl⟩)
      | (go_at_call 155; refine (blankS_any (HR.out.below (Below.refl _ _).drew)).mono ?_; rintro e w5 ⟨rfl, b5⟩; have HB5 := Lib.hid ((Below.refl w.heap.size w).drew.trans b5); have z0 := cell_below b5 c0; have z1 := cell_below b5 c1; clear b5)
      | (go_at_call 154; refine (ins_any (HG.out.below HB5.out) _ _ _ _ (HRI.out.below HB5.out)).mono ?_; rintro e w6 ⟨rfl, hw6, g6⟩; obtain ⟨d6, hb6⟩ := HK.out _ _ _ (fun g => g.ins s.now.x s.now.y n s.blank) HB5.out hw6 g6 (fun k hk => .inl hk); have HD := Lib.hid d6; have z0 := (cell_heap hb6 0).trans c0; have z1 := (cell_heap hb6 1).trans c1; clear hw6 g6 hb6 d6))
  obtain ⟨C1, h1, p1⟩ := HD.out
  have c2 : w6.cell? ⟨p, 2, none⟩ = some (.bool (s.turn (fun g => g.ins s.now.x s.now.y n s.blank)).now.wait) := h1.at_ 2 _
  have f2 := h1.fz 2
  obtain ⟨h2, p2⟩ := h1.set 2 (.bool false) (s.turn (fun g => g.ins s.now.x s.now.y n s.blank)).calm
  have HD2 := Lib.hid (show Does B C p w _ _ ps from ⟨C1, h2, p1.trans p2⟩)
  clear h1 p1 h2 p2
  go_wp2_with fail
  go_end0
  exact ⟨rfl, HD2.out⟩
theorem removeS_any {B : World} {C : Nat → Nat} {p c r : Nat} {w : World} {s : Scr} {ps : PSt} (h : SR B C p w s ps) (hok : s.Ok c r) (n : Int) :
    Calls Tryz.prog 224 #[.pointer (some ⟨p, 0, none⟩), .int .i64 n] w fun e w' => e = .returned (.tuple #[]) ∧ Does B C p w w' (s.turn (fun g => g.del s.now.x s.now.y n s.blank)).calm ps := by
  have HR := Lib.hid h
  have c0 : w.cell? ⟨p, 0, none⟩ = some (.int .i64 s.now.x) := h.at_ 0 _
  have c1 : w.cell? ⟨p, 1, none⟩ = some (.int .i64 s.now.y) := h.at_ 1 _
  obtain ⟨T, q, hg, hq, hk⟩ := h.grid
  have HG := Lib.hid hg
  have HQ := Lib.hid hq
  have HK := Lib.hid hk
  have HRI := Lib.hid (h.blankR hok)
  clear hg hq hk
  clear h
  go_enter Tryz.func224, Tryz.ntmps224
  go_upto_region 0 with fail
  go_region_held3 (fun w' => w'.cell? ⟨p, 0, none⟩ = some (.int .i64 s.now.x) ∧ w'.cell? ⟨p, 1, none⟩ = some (.int .i64 s.now.y)) (first | exact ⟨c0, c1⟩ | exact ⟨z0, z1⟩)
    (first
      | (go_at_call 69; refine (shownS_any (w := w.drew) HQ.out).mono ?_; rintro e w4 ⟨rfl, rfl⟩)
      | (go_at_call 155; refine (blankS_any (HR.out.below (Below.refl _ _).drew)).mono ?_; rintro e w5 ⟨rfl, b5⟩; have HB5 := Lib.hid ((Below.refl w.heap.size w).drew.trans b5); have z0 := cell_below b5 c0; have z1 := cell_below b5 c1; clear b5)
      | (go_at_call 281; refine (del_any (HG.out.below HB5.out) _ _ _ _ (HRI.out.below HB5.out)).mono ?_; rintro e w6 ⟨rfl, hw6, g6⟩; obtain ⟨d6, hb6⟩ := HK.out _ _ _ (fun g => g.del s.now.x s.now.y n s.blank) HB5.out hw6 g6 (fun k hk => .inl hk); have HD := Lib.hid d6; have z0 := (cell_heap hb6 0).trans c0; have z1 := (cell_heap hb6 1).trans c1; clear hw6 g6 hb6 d6))
  obtain ⟨C1, h1, p1⟩ := HD.out
  have c2 : w6.cell? ⟨p, 2, none⟩ = some (.bool (s.turn (fun g => g.del s.now.x s.now.y n s.blank)).now.wait) := h1.at_ 2 _
  have f2 := h1.fz 2
  obtain ⟨h2, p2⟩ := h1.set 2 (.bool false) (s.turn (fun g => g.del s.now.x s.now.y n s.blank)).calm
  have HD2 := Lib.hid (show Does B C p w _ _ ps from ⟨C1, h2, p1.trans p2⟩)
  clear h1 p1 h2 p2
  go_wp2_with fail
  go_end0
  exact ⟨rfl, HD2.out⟩
theorem eraseS_any {B : World} {C : Nat → Nat} {p c r : Nat} {w : World} {s : Scr} {ps : PSt} (h : SR B C p w s ps) (hok : s.Ok c r) (n : Int) :
    Calls Tryz.prog 225 #[.pointer (some ⟨p, 0, none⟩), .int .i64 n] w fun e w' => e = .returned (.tuple #[]) ∧ Does B C p w w' (s.turn (fun g => g.erase s.now.x s.now.y n s.blank)).calm ps := by
  have HR := Lib.hid h
  have c0 : w.cell? ⟨p, 0, none⟩ = some (.int .i64 s.now.x) := h.at_ 0 _
  have c1 : w.cell? ⟨p, 1, none⟩ = some (.int .i64 s.now.y) := h.at_ 1 _
  obtain ⟨T, q, hg, hq, hk⟩ := h.grid
  have HG := Lib.hid hg
  have HQ := Lib.hid hq
  have HK := Lib.hid hk
  have HRI := Lib.hid (h.blankR hok)
  clear hg hq hk
  clear h
  go_enter Tryz.func225, Tryz.ntmps225
  go_upto_region 0 with fail
  go_region_held3 (fun w' => w'.cell? ⟨p, 0, none⟩ = some (.int .i64 s.now.x) ∧ w'.cell? ⟨p, 1, none⟩ = some (.int .i64 s.now.y)) (first | exact ⟨c0, c1⟩ | exact ⟨z0, z1⟩)
    (first
      | (go_at_call 69; refine (shownS_any (w := w.drew) HQ.out).mono ?_; rintro e w4 ⟨rfl, rfl⟩)
      | (go_at_call 155; refine (blankS_any (HR.out.below (Below.refl _ _).drew)).mono ?_; rintro e w5 ⟨rfl, b5⟩; have HB5 := Lib.hid ((Below.refl w.heap.size w).drew.trans b5); have z0 := cell_below b5 c0; have z1 := cell_below b5 c1; clear b5)
      | (go_at_call 282; refine (erase_any (HG.out.below HB5.out) _ _ _ _ (HRI.out.below HB5.out)).mono ?_; rintro e w6 ⟨rfl, hw6, g6⟩; obtain ⟨d6, hb6⟩ := HK.out _ _ _ (fun g => g.erase s.now.x s.now.y n s.blank) HB5.out hw6 g6 (fun k hk => .inl hk); have HD := Lib.hid d6; have z0 := (cell_heap hb6 0).trans c0; have z1 := (cell_heap hb6 1).trans c1; clear hw6 g6 hb6 d6))
  obtain ⟨C1, h1, p1⟩ := HD.out
  have c2 : w6.cell? ⟨p, 2, none⟩ = some (.bool (s.turn (fun g => g.erase s.now.x s.now.y n s.blank)).now.wait) := h1.at_ 2 _
  have f2 := h1.fz 2
  obtain ⟨h2, p2⟩ := h1.set 2 (.bool false) (s.turn (fun g => g.erase s.now.x s.now.y n s.blank)).calm
  have HD2 := Lib.hid (show Does B C p w _ _ ps from ⟨C1, h2, p1.trans p2⟩)
  clear h1 p1 h2 p2
  go_wp2_with fail
  go_end0
  exact ⟨rfl, HD2.out⟩
theorem insideS_any {B : World} {C : Nat → Nat} {p c r : Nat} {w : World} {s : Scr} {ps : PSt} (h : SR B C p w s ps) (hok : s.Ok c r) :
    Calls Tryz.prog 283 #[.pointer (some ⟨p, 0, none⟩)] w fun e w' => e = .returned (.bool s.inside) ∧ Does B C p w w' s.enter ps := by
  have HR := Lib.hid h
  by_cases hl : s.now.y < s.top
  · have e1 : decide (s.now.y < s.top) = true := decide_eq_true hl
    have HI := Lib.hid (show s.inside = false by unfold Scr.inside; rw [e1]; rfl)
    have c1 : w.cell? ⟨p, 1, none⟩ = some (.int .i64 s.now.y) := h.at_ 1 _
    have c33 : w.cell? ⟨p, 33, none⟩ = some (.int .i64 s.top) := h.at_ 33 _
    have c34 : w.cell? ⟨p, 34, none⟩ = some (.int .i64 s.bottom) := h.at_ 34 _
    clear h hok
    go_enter Tryz.func283, Tryz.ntmps283
    go_upto_region 1 with fail
    go_quiet (fail)
    have HB := Lib.hid (below_drewN (Below.refl w.heap.size w) nq)
    have h := HR.out.below HB.out
    generalize w.drewN nq = wn at *
    clear c1 c33 c34
    have HD := Lib.hid (show Does B C p w _ s.enter ps by unfold Scr.enter; rw [if_neg (by rw [HI.out]; decide)]; exact .after ((Pre.refl _ _).below HB.out) (.refl h))
    clear h
    go_wp2_with fail
    go_ret
    exact ⟨ret_bool HI.out.symm, HD.out⟩
  · have e1 : decide (s.now.y < s.top) = false := decide_eq_false hl
    by_cases hh : s.bottom < s.now.y
    · have e2 : decide (s.bottom < s.now.y) = true := decide_eq_true hh
      have HI := Lib.hid (show s.inside = false by unfold Scr.inside; rw [e1, e2]; rfl)
      have c1 : w.cell? ⟨p, 1, none⟩ = some (.int .i64 s.now.y) := h.at_ 1 _
      have c33 : w.cell? ⟨p, 33, none⟩ = some (.int .i64 s.top) := h.at_ 33 _
      have c34 : w.cell? ⟨p, 34, none⟩ = some (.int .i64 s.bottom) := h.at_ 34 _
      clear h hok
      go_enter Tryz.func283, Tryz.ntmps283
      go_upto_region 1 with fail
      go_quiet (fail)
      have HB := Lib.hid (below_drewN (Below.refl w.heap.size w) nq)
      have h := HR.out.below HB.out
      generalize w.drewN nq = wn at *
      clear c1 c33 c34
      have HD := Lib.hid (show Does B C p w _ s.enter ps by unfold Scr.enter; rw [if_neg (by rw [HI.out]; decide)]; exact .after ((Pre.refl _ _).below HB.out) (.refl h))
      clear h
      go_wp2_with fail
      go_ret
      exact ⟨ret_bool HI.out.symm, HD.out⟩
    · have e2 : decide (s.bottom < s.now.y) = false := decide_eq_false hh
      have HI := Lib.hid (show s.inside = true by unfold Scr.inside; rw [e1, e2]; rfl)
      have c1 : w.cell? ⟨p, 1, none⟩ = some (.int .i64 s.now.y) := h.at_ 1 _
      have c33 : w.cell? ⟨p, 33, none⟩ = some (.int .i64 s.top) := h.at_ 33 _
      have c34 : w.cell? ⟨p, 34, none⟩ = some (.int .i64 s.bottom) := h.at_ 34 _
      clear h hok
      go_enter Tryz.func283, Tryz.ntmps283
      go_upto_region 1 with fail
      go_quiet (fail)
      have HB := Lib.hid (below_drewN (Below.refl w.heap.size w) nq)
      have h := HR.out.below HB.out
      generalize w.drewN nq = wn at *
      clear c1 c33 c34
      have c0 : wn.cell? ⟨p, 0, none⟩ = some (.int .i64 s.now.x) := h.at_ 0 _
      have c2 : wn.cell? ⟨p, 2, none⟩ = some (.bool s.now.wait) := h.at_ 2 _
      have f0 := h.fz 0
      have f2 := h.fz 2
      obtain ⟨h1, g1⟩ := h.set 0 (.int .i64 0) (s.toX 0)
      obtain ⟨h2, g2⟩ := h1.set 2 (.bool false) (s.toX 0).calm
      have HD := Lib.hid (show Does B C p w _ s.enter ps by unfold Scr.enter; rw [if_pos HI.out]; exact .after ((Pre.refl _ _).below HB.out) ⟨C, h2, g1.trans g2⟩)
      clear h h1 h2 g1 g2
      go_wp2_with fail
      go_ret
      exact ⟨ret_bool HI.out.symm, HD.out⟩
theorem openS_any {B : World} {C : Nat → Nat} {p c r : Nat} {w : World} {s : Scr} {ps : PSt} (h : SR B C p w s ps) (hok : s.Ok c r) (n : Int) :
    Calls Tryz.prog 226 #[.pointer (some ⟨p, 0, none⟩), .int .i64 n] w fun e w' => e = .returned (.tuple #[]) ∧ Does B C p w w' (s.opened n) ps := by
  have HI := Lib.hid (insideS_any h hok)
  have hn := h.nums hok
  have HOK := Lib.hid ((hok.toX (x := 0) (by omega) (by rw [(hn.ok hok).1]; have := hn.c1; omega)).calm)
  clear hn
  cases hb : s.inside
  · rw [hb] at HI
    have HE := Lib.hid (show s.enter = s by unfold Scr.enter; rw [hb]; rfl)
    have HE2 := Lib.hid (show s.opened n = s by unfold Scr.opened; rw [hb]; rfl)
    clear h hok hb
    go_enter Tryz.func226, Tryz.ntmps226
    go_wp2_with fail
    refine HI.out.mono ?_
    rintro e w2 ⟨rfl, d2⟩
    rw [HE.out] at d2
    have HD := Lib.hid d2
    clear d2
    go_wp2_with fail
    go_end0
    rw [HE2.out]
    exact ⟨rfl, HD.out⟩
  · rw [hb] at HI
    have HE := Lib.hid (show s.enter = (s.toX 0).calm by unfold Scr.enter; rw [hb]; rfl)
    have HE2 := Lib.hid (show s.opened n = ((s.toX 0).calm).turn (fun g => g.down s.now.y s.bottom n s.blank) by unfold Scr.opened; rw [hb]; rfl)
    clear h hok hb
    go_enter Tryz.func226, Tryz.ntmps226
    go_wp2_with fail
    refine HI.out.mono ?_
    rintro e w ⟨rfl, d2⟩
    rw [HE.out] at d2
    obtain ⟨C2, h, p2⟩ := d2
    have P2 := Lib.hid p2
    have HR := Lib.hid h
    have hok := HOK.out
    clear p2
    have c1 : w.cell? ⟨p, 1, none⟩ = some (.int .i64 s.now.y) := h.at_ 1 _
    have c34 : w.cell? ⟨p, 34, none⟩ = some (.int .i64 s.bottom) := h.at_ 34 _
    obtain ⟨T, q, hg, hq, hk⟩ := h.grid
    have HG := Lib.hid hg
    have HQ := Lib.hid hq
    have HK := Lib.hid hk
    have HRI := Lib.hid (h.blankR hok)
    clear hg hq hk
    clear h hok
    go_upto_region 1 with fail
    go_region_held3 (fun w' => w'.cell? ⟨p, 1, none⟩ = some (.int .i64 s.now.y) ∧ w'.cell? ⟨p, 34, none⟩ = some (.int .i64 s.bottom)) (first | exact ⟨c1, c34⟩ | exact ⟨z0, z1⟩)
      (first
        | (go_at_call 69; refine (shownS_any (w := w.drew) HQ.out).mono ?_; rintro e w4 ⟨rfl, rfl⟩)
        | (go_at_call 155; refine (blankS_any (HR.out.below (Below.refl _ _).drew)).mono ?_; rintro e w5 ⟨rfl, b5⟩; have HB5 := Lib.hid ((Below.refl w.heap.size w).drew.trans b5); have z0 := cell_below b5 c1; have z1 := cell_below b5 c34; clear b5)
        | (go_at_call 279; refine (down_any (HG.out.below HB5.out) _ _ _ _ (HRI.out.below HB5.out)).mono ?_; rintro e w6 ⟨rfl, hw6, T6, g6, n6⟩; obtain ⟨d6, hb6⟩ := HK.out _ _ _ (fun g => g.down s.now.y s.bottom n s.blank) HB5.out hw6 g6 n6; have HD := Lib.hid d6; have z0 := (cell_heap hb6 1).trans c1; have z1 := (cell_heap hb6 34).trans c34; clear hw6 T6 g6 n6 hb6 d6))
    go_wp2_with fail
    go_end0
    rw [HE2.out]
    exact ⟨rfl, .after P2.out HD.out⟩
theorem shutS_any {B : World} {C : Nat → Nat} {p c r : Nat} {w : World} {s : Scr} {ps : PSt} (h : SR B C p w s ps) (hok : s.Ok c r) (n : Int) :
    Calls Tryz.prog 227 #[.pointer (some ⟨p, 0, none⟩), .int .i64 n] w fun e w' => e = .returned (.tuple #[]) ∧ Does B C p w w' (s.shutted n) ps := by
  have HI := Lib.hid (insideS_any h hok)
  have hn := h.nums hok
  have HOK := Lib.hid ((hok.toX (x := 0) (by omega) (by rw [(hn.ok hok).1]; have := hn.c1; omega)).calm)
  clear hn
  cases hb : s.inside
  · rw [hb] at HI
    have HE := Lib.hid (show s.enter = s by unfold Scr.enter; rw [hb]; rfl)
    have HE2 := Lib.hid (show s.shutted n = s by unfold Scr.shutted; rw [hb]; rfl)
    clear h hok hb
    go_enter Tryz.func227, Tryz.ntmps227
    go_wp2_with fail
    refine HI.out.mono ?_
    rintro e w2 ⟨rfl, d2⟩
    rw [HE.out] at d2
    have HD := Lib.hid d2
    clear d2
    go_wp2_with fail
    go_end0
    rw [HE2.out]
    exact ⟨rfl, HD.out⟩
  · rw [hb] at HI
    have HE := Lib.hid (show s.enter = (s.toX 0).calm by unfold Scr.enter; rw [hb]; rfl)
    have HE2 := Lib.hid (show s.shutted n = ((s.toX 0).calm).turn (fun g => g.up s.now.y s.bottom n s.blank false) by unfold Scr.shutted; rw [hb]; rfl)
    clear h hok hb
    go_enter Tryz.func227, Tryz.ntmps227
    go_wp2_with fail
    refine HI.out.mono ?_
    rintro e w ⟨rfl, d2⟩
    rw [HE.out] at d2
    obtain ⟨C2, h, p2⟩ := d2
    have P2 := Lib.hid p2
    have HR := Lib.hid h
    have hok := HOK.out
    clear p2
    have c1 : w.cell? ⟨p, 1, none⟩ = some (.int .i64 s.now.y) := h.at_ 1 _
    have c34 : w.cell? ⟨p, 34, none⟩ = some (.int .i64 s.bottom) := h.at_ 34 _
    obtain ⟨T, q, hg, hq, hk⟩ := h.grid
    have HG := Lib.hid hg
    have HQ := Lib.hid hq
    have HK := Lib.hid hk
    have HRI := Lib.hid (h.blankR hok)
    clear hg hq hk
    clear h hok
    go_upto_region 1 with fail
    go_region_held3 (fun w' => w'.cell? ⟨p, 1, none⟩ = some (.int .i64 s.now.y) ∧ w'.cell? ⟨p, 34, none⟩ = some (.int .i64 s.bottom)) (first | exact ⟨c1, c34⟩ | exact ⟨z0, z1⟩)
      (first
        | (go_at_call 69; refine (shownS_any (w := w.drew) HQ.out).mono ?_; rintro e w4 ⟨rfl, rfl⟩)
        | (go_at_call 155; refine (blankS_any (HR.out.below (Below.refl _ _).drew)).mono ?_; rintro e w5 ⟨rfl, b5⟩; have HB5 := Lib.hid ((Below.refl w.heap.size w).drew.trans b5); have z0 := cell_below b5 c1; have z1 := cell_below b5 c34; clear b5)
        | (go_at_call 208; refine (up_any (HG.out.below HB5.out) _ _ _ _ (HRI.out.below HB5.out) _).mono ?_; rintro e w6 ⟨rfl, hw6, T6, g6, n6⟩; obtain ⟨d6, hb6⟩ := HK.out _ _ _ (fun g => g.up s.now.y s.bottom n s.blank false) HB5.out hw6 g6 n6; have HD := Lib.hid d6; have z0 := (cell_heap hb6 1).trans c1; have z1 := (cell_heap hb6 34).trans c34; clear hw6 T6 g6 n6 hb6 d6))
    go_wp2_with fail
    go_end0
    rw [HE2.out]
    exact ⟨rfl, .after P2.out HD.out⟩
theorem scrollS_any {B : World} {C : Nat → Nat} {p c r : Nat} {w : World} {s : Scr} {ps : PSt} (h : SR B C p w s ps) (hok : s.Ok c r) (n : Int) :
    Calls Tryz.prog 228 #[.pointer (some ⟨p, 0, none⟩), .int .i64 n] w fun e w' => e = .returned (.tuple #[]) ∧ Does B C p w w' (s.turn (fun g => g.up s.top s.bottom n s.blank s.other.isNone)) ps := by
  have HR := Lib.hid h
  have c33 : w.cell? ⟨p, 33, none⟩ = some (.int .i64 s.top) := h.at_ 33 _
  have c34 : w.cell? ⟨p, 34, none⟩ = some (.int .i64 s.bottom) := h.at_ 34 _
  obtain ⟨T, q, hg, hq, hk⟩ := h.grid
  have HG := Lib.hid hg
  have HQ := Lib.hid hq
  have HK := Lib.hid hk
  have HRI := Lib.hid (h.blankR hok)
  have HOT := Lib.hid h.oth
  clear hg hq hk
  clear h
  rcases HOT.out with ⟨c11, hno⟩ | ⟨qo, c11, hno⟩
  all_goals
    rw [hno]
    clear hno
    go_enter Tryz.func228, Tryz.ntmps228
    go_upto_region 0 with fail
    go_region_held3 (fun w' => w'.cell? ⟨p, 33, none⟩ = some (.int .i64 s.top) ∧ w'.cell? ⟨p, 34, none⟩ = some (.int .i64 s.bottom) ∧ w'.cell? ⟨p, 11, none⟩ = w.cell? ⟨p, 11, none⟩) (first | exact ⟨c33, c34, rfl⟩ | exact ⟨z0, z1, z2⟩)
      (first
        | (go_at_call 69; refine (shownS_any (w := w.drew) HQ.out).mono ?_; rintro e w4 ⟨rfl, rfl⟩)
        | (go_at_call 155; refine (blankS_any (HR.out.below (Below.refl _ _).drew)).mono ?_; rintro e w5 ⟨rfl, b5⟩; have HB5 := Lib.hid ((Below.refl w.heap.size w).drew.trans b5); have z0 := cell_below b5 c33; have z1 := cell_below b5 c34; have z2 := (cell_below b5 c11).trans c11.symm; clear b5)
        | (go_at_call 208; refine (up_any (HG.out.below HB5.out) _ _ _ _ (HRI.out.below HB5.out) _).mono ?_; rintro e w6 ⟨rfl, hw6, T6, g6, n6⟩; obtain ⟨d6, hb6⟩ := HK.out _ _ _ (fun g => g.up s.top s.bottom n s.blank _) HB5.out hw6 g6 n6; have HD := Lib.hid d6; have z0 := (cell_heap hb6 33).trans c33; have z1 := (cell_heap hb6 34).trans c34; have z2 := cell_heap hb6 11; clear hw6 T6 g6 n6 hb6 d6))
    go_wp2_with fail
    go_end0
    exact ⟨rfl, HD.out⟩
theorem unscrollS_any {B : World} {C : Nat → Nat} {p c r : Nat} {w : World} {s : Scr} {ps : PSt} (h : SR B C p w s ps) (hok : s.Ok c r) (n : Int) :
    Calls Tryz.prog 229 #[.pointer (some ⟨p, 0, none⟩), .int .i64 n] w fun e w' => e = .returned (.tuple #[]) ∧ Does B C p w w' (s.turn (fun g => g.down s.top s.bottom n s.blank)) ps := by
  have HR := Lib.hid h
  have c33 : w.cell? ⟨p, 33, none⟩ = some (.int .i64 s.top) := h.at_ 33 _
  have c34 : w.cell? ⟨p, 34, none⟩ = some (.int .i64 s.bottom) := h.at_ 34 _
  obtain ⟨T, q, hg, hq, hk⟩ := h.grid
  have HG := Lib.hid hg
  have HQ := Lib.hid hq
  have HK := Lib.hid hk
  have HRI := Lib.hid (h.blankR hok)
  clear hg hq hk
  clear h
  go_enter Tryz.func229, Tryz.ntmps229
  go_upto_region 0 with fail
  go_region_held3 (fun w' => w'.cell? ⟨p, 33, none⟩ = some (.int .i64 s.top) ∧ w'.cell? ⟨p, 34, none⟩ = some (.int .i64 s.bottom)) (first | exact ⟨c33, c34⟩ | exact ⟨z0, z1⟩)
    (first
      | (go_at_call 69; refine (shownS_any (w := w.drew) HQ.out).mono ?_; rintro e w4 ⟨rfl, rfl⟩)
      | (go_at_call 155; refine (blankS_any (HR.out.below (Below.refl _ _).drew)).mono ?_; rintro e w5 ⟨rfl, b5⟩; have HB5 := Lib.hid ((Below.refl w.heap.size w).drew.trans b5); have z0 := cell_below b5 c33; have z1 := cell_below b5 c34; clear b5)
      | (go_at_call 279; refine (down_any (HG.out.below HB5.out) _ _ _ _ (HRI.out.below HB5.out)).mono ?_; rintro e w6 ⟨rfl, hw6, T6, g6, n6⟩; obtain ⟨d6, hb6⟩ := HK.out _ _ _ (fun g => g.down s.top s.bottom n s.blank) HB5.out hw6 g6 n6; have HD := Lib.hid d6; have z0 := (cell_heap hb6 33).trans c33; have z1 := (cell_heap hb6 34).trans c34; clear hw6 T6 g6 n6 hb6 d6))
  go_wp2_with fail
  go_end0
  exact ⟨rfl, HD.out⟩
theorem cleanS_any {B : World} {C : Nat → Nat} {p c r : Nat} {w : World} {s : Scr} {ps : PSt} (h : SR B C p w s ps) (hok : s.Ok c r) (y z : Int) (hy : -1000 ≤ y ∧ y ≤ 1000) (hz : z ≤ 1000) :
    Calls Tryz.prog 284 #[.pointer (some ⟨p, 0, none⟩), .int .i64 y, .int .i64 z] w fun e w' => e = .returned (.tuple #[]) ∧ Does B C p w w' (s.clean y z) ps := by
  have hn := h.nums hok
  have HCC := Lib.hid ((hn.ok hok).1)
  have HCL := Lib.hid (show s.clean y z = s.turn (fun g => cleanF c s.blank y (z - y).toNat g) by unfold Scr.clean Scr.cols; rw [HCC.out])
  have HR := Lib.hid h
  have HOK := Lib.hid hok
  obtain ⟨n, hn2⟩ : ∃ n, n = (z - y).toNat := ⟨_, rfl⟩
  rw [← hn2] at HCL
  clear hn h hok
  go_enter Tryz.func284, Tryz.ntmps284
  go_wp2_with fail
  go_loopw [6] (fun iv wr => ∃ (k : Nat) (C1 : Nat → Nat), k ≤ n ∧ iv = .int .i64 (y + k) ∧ Hid (SR B C1 p wr (s.turn (fun g => cleanF c s.blank y k g)) ps) ∧ Hid (Pre C w C1 wr)) (fun iv _ => (z - intOf iv).toNat)
  case atStart => exact ⟨0, C, Nat.zero_le _, by simp, Lib.hid (by rw [show (fun g => cleanF c s.blank y 0 g) = fun g => g from rfl, turn_id]; exact HR.out), Lib.hid (Pre.refl _ _)⟩
  case round =>
    obtain ⟨k, C1, hk, rfl, H1, HP1⟩ := hrel
    by_cases hlt : y + k < z
    · have e1 : decide (y + (k : Int) < z) = true := decide_eq_true hlt
      have hw : IntKind.i64.wrap (y + k + 1) = y + k + 1 := wrap64_id _ (by omega) (by omega)
      have hk2 : k + 1 ≤ n := by omega
      have HO1 := Lib.hid (show (s.turn (fun g => cleanF c s.blank y k g)).Ok c r from HOK.out.turn _ fun g hg => cleanF_same hg _ _ _ _)
      obtain ⟨T, q, hg, hq, hk⟩ := H1.out.grid
      have HG := Lib.hid hg
      have HK := Lib.hid hk
      have HQ := Lib.hid hq
      have HRI := Lib.hid (H1.out.blankR HO1.out)
      have HM := Lib.hid (HO1.out.main.1)
      have HTB := Lib.hid (turn_blank s (fun g => cleanF c s.blank y k g))
      clear hg hk hq
      go_wp2_with fail
      refine (shownS_any HQ.out).mono ?_
      rintro e w3 ⟨rfl, rfl⟩
      go_wp2_with fail
      refine (colsS_any H1.out).mono ?_
      rintro e w4 ⟨rfl, rfl⟩
      rw [HM.out]
      go_wp2_with fail
      refine (blankS_any H1.out).mono ?_
      rintro e w5 ⟨rfl, b5⟩
      have HB5 := Lib.hid b5
      clear b5
      go_wp2_with fail
      refine (erase_any (HG.out.below HB5.out) 0 (y + k) c _ (HRI.out.below HB5.out)).mono ?_
      rintro e w6 ⟨rfl, hw6, g6⟩
      obtain ⟨d6, _⟩ := HK.out _ _ _ (fun g => g.erase 0 (y + k) c (s.turn (fun g => cleanF c s.blank y k g)).blank) HB5.out hw6 g6 (fun k hk => .inl hk)
      rw [turn_turn, HTB.out] at d6
      obtain ⟨C2, h2, p2⟩ := d6
      have H2 := Lib.hid h2
      have P2 := Lib.hid (HP1.out.trans p2)
      obtain ⟨T2, q2, hg2, hq2, hk2⟩ := h2.grid
      have HG2 := Lib.hid hg2
      have HK2 := Lib.hid hk2
      have HQ2 := Lib.hid hq2
      clear hw6 g6 h2 p2 hg2 hq2 hk2
      go_wp2_with fail
      refine (shownS_any HQ2.out).mono ?_
      rintro e w7 ⟨rfl, rfl⟩
      go_wp2_with fail
      refine (wrap_any HG2.out (y + k) false).mono ?_
      rintro e w8 ⟨rfl, hw8, g8⟩
      obtain ⟨d8, _⟩ := HK2.out _ _ _ (fun g => g.setWrap (y + k) false) (Below.refl _ _) hw8 g8 (fun k hk => .inl hk)
      rw [turn_turn] at d8
      obtain ⟨C3, h3, p3⟩ := d8
      have H3 := Lib.hid h3
      have P3 := Lib.hid (P2.out.trans p3)
      clear hw8 g8 h3 p3
      go_wp2_with fail
      go_roundw
      case rel => exact ⟨k + 1, C3, hk2, by go_num, H3, P3⟩
      case measure => simp [intOf]; omega
    · have e1 : decide (y + (k : Int) < z) = false := decide_eq_false hlt
      have hkn : k = n := by omega
      have HD := Lib.hid (show Does B C p w wr (s.clean y z) ps by rw [HCL.out, ← hkn]; exact ⟨C1, H1.out, HP1.out⟩)
      clear hkn
      go_wp2_with fail
      go_end0
      exact ⟨rfl, HD.out⟩
end Go.Proofs.YtlfdgkiliegaiaaGreatDoor

/- Walks of mullionlaw5: shown. -/
namespace Go.Proofs.YtlfdgkiliegaiaaGreatDoor
open Go.RowKit

theorem below_alloc (w : World) (o : Obj) : Below w.heap.size w (w.alloc o) := (Below.refl _ _).alloc (Nat.le_refl _) o
theorem below_gb0 {w w' : World} (g : w.grownBy w' none) : Below w.heap.size w w' := ⟨g.os, g.tape, g.output, g.size, fun k hk => g.block k hk (by simp)⟩
/-- Feed, and what was told before it. -/
theorem feed_acts {T : Nat → Nat} {p : Nat} {w : World} {s : PSt} (vb : Value) (l : List UInt8) (h : Rest T p w s) (hv : Row T 0 1 vb l.length (byteVals l) w) (hl : l.length ≤ 100000000) :
    Calls Tryz.prog 60 #[.pointer (some ⟨p, 0, none⟩), vb] w fun e w' => ∃ vo T' L, e = .returned vo ∧ L.map (·.1) = (s.run l).2 ∧ Within (own T w) w w' ∧ (∀ k, T' k ≠ 0 → own T w k) ∧ Rest T' p w' (s.run l).1 ∧ Acts T' w' vo L ∧
      (∀ k, vo.ownBlock = some k → own T w k) ∧ ∀ x ∈ L, ∀ k, x.2.ownBlock = some k → own T w k := by
  refine (feed_any_p vb l h hv hl).mono ?_
  rintro e w' ⟨vo, T', L, rfl, h1, h2, h3, h4, h5, h6, h7⟩
  exact ⟨vo, T', L, rfl, h1, h2, h4, h3, ⟨h5, fun x hx => (h7 x hx).1⟩, h6, fun x hx => (h7 x hx).2⟩
end Go.Proofs.YtlfdgkiliegaiaaGreatDoor
