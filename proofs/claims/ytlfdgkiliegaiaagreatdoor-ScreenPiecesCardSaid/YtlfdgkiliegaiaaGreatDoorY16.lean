/- Texts laid together: K3 K7 K0 K8. -/
import Derived.Test.YtlfdgkiliegaiaaGreatDoorY1
import Derived.Test.YtlfdgkiliegaiaaGreatDoorY10
import Derived.Test.YtlfdgkiliegaiaaGreatDoorY11
import Derived.Test.YtlfdgkiliegaiaaGreatDoorY12
import Derived.Test.YtlfdgkiliegaiaaGreatDoorY14
import Derived.Test.YtlfdgkiliegaiaaGreatDoorY2
import Derived.Test.YtlfdgkiliegaiaaGreatDoorY3
import Derived.Test.YtlfdgkiliegaiaaGreatDoorY4
import Derived.Test.YtlfdgkiliegaiaaGreatDoorY5
import Derived.Test.YtlfdgkiliegaiaaGreatDoorY6
import Derived.Test.YtlfdgkiliegaiaaGreatDoorY8
import Derived.Test.YtlfdgkiliegaiaaGreatDoorY9
import Derived.Deep.RegionHeld3
import Derived.Deep.MidRow
import Derived.Lib.ItoaLen
import Derived.Test.YtlfdgkiliegaiaaGreatDoorShelf
import Derived.Lib.Builder
import Derived.Lib.FrozenHead
import Derived.Lib.RuneBytes
import Derived.Lib.UnsafeStr
import Derived.Lib.SliceRun
import Derived.WalkSpells
import Derived.StillTailTactics
import Derived.Deep.RegionLaw
import Derived.Deep.DeepCutAuto
import Derived.Test.YtlfdgkiliegaiaaGreatDoorRows
import Derived.Deep.AppendSrc
import Derived.Lib.AppendStr
import Derived.ArgAppend
import Derived.Laws.IdiomCopy
import Derived.Laws.IdiomStrings
import Derived.Deep.Upon
import Derived.WalkKit
import Derived.WalkLawsBesides
import Derived.BigQuiet
import Derived.Lib.Hide
import Derived.Deep.QuietTactic
import Derived.Lib.AppendIntMem
import Derived.Lib.ItoaNum
import Derived.Laws.ResultCell
import Derived.Deep.CutBlock
import Derived.Laws.EntriesVeiled
import Derived.Laws.StructEq
import Derived.Deep.DrawnRows
import Derived.Laws.Cover4
import Derived.WalkMore
import Derived.ScopeJumps
import Derived.Lib.SlBytesConst
import Derived.Laws.Bits64b
import Derived.Lib.TrimU
set_option linter.unusedVariables false
set_option linter.unusedSimpArgs false
namespace Go.Proofs.YtlfdgkiliegaiaaGreatDoor
section
open Go.RowKit
set_option maxRecDepth 100000
theorem zbb {B : World} {C : Nat → Nat} {p c r : Nat} {w : World} {s : Scr} {ps : PSt} (h : SR B C p w s ps) (hok : s.Ok c r) :
  Calls Tryz.prog 158 #[.pointer (some ⟨p, 0, none⟩)] w fun e w' => e = .returned (.tuple #[]) ∧ zq B C p w w' s.index ps := by
 have hn := h.nums hok;have HR := Lib.hid h;by_cases hy : s.now.y = s.bottom
 ·have d1 : (s.now.y == s.bottom) = true := beq_iff_eq.2 hy;have HE := Lib.hid (show s.index = s.turn (fun g => g.up s.top s.bottom 1 s.blank s.other.isNone) by unfold Scr.index; rw [if_pos hy]);have c1 : w.cell? ⟨p, 1, none⟩ = some (.int .i64 s.now.y) := h.at_ 1 _;have c34 : w.cell? ⟨p, 34, none⟩ = some (.int .i64 s.bottom) := h.at_ 34 _;clear hn h hy;go_enter Tryz.func158, Tryz.ntmps158;go_upto_region 0 with fail;go_quiet (fail);have HB := Lib.hid (zg (Below.refl w.heap.size w) nq);have h := HR.out.below HB.out;generalize w.drewN nq = wn at *;clear c1 c34;have c33 : wn.cell? ⟨p, 33, none⟩ = some (.int .i64 s.top) := h.at_ 33 _;have c34 : wn.cell? ⟨p, 34, none⟩ = some (.int .i64 s.bottom) := h.at_ 34 _;obtain ⟨T, q, hg, hq, hk⟩ := h.grid;have HG := Lib.hid hg;have HQ := Lib.hid hq;have HK := Lib.hid hk;have HRI := Lib.hid (h.blankR hok);have HOT := Lib.hid h.oth;clear hg hq hk;have HR := Lib.hid h;clear h;rcases HOT.out with ⟨c11, hno⟩ | ⟨qo, c11, hno⟩
  all_goals
   rw [hno] at HE;clear hno;go_upto_region 1 with fail
   go_region_held3 (fun w' => w'.cell? ⟨p, 33, none⟩ = some (.int .i64 s.top) ∧ w'.cell? ⟨p, 34, none⟩ = some (.int .i64 s.bottom) ∧ w'.cell? ⟨p, 11, none⟩ = wn.cell? ⟨p, 11, none⟩) (first | exact ⟨c33, c34, rfl⟩ | exact ⟨z0, z1, z2⟩)
    (first
     | (go_at_call 69; refine (zL (w := wn.drew) HQ.out).mono ?_; rintro e w4 ⟨rfl, rfl⟩)
     | (go_at_call 155; refine (Zv (HR.out.below (Below.refl _ _).drew)).mono ?_; rintro e w5 ⟨rfl, b5⟩; have HB5 := Lib.hid ((Below.refl wn.heap.size wn).drew.trans b5); have z0 := zc b5 c33; have z1 := zc b5 c34; have z2 := (zc b5 c11).trans c11.symm; clear b5)
     | (go_at_call 208; refine (zjH (HG.out.below HB5.out) _ _ _ _ (HRI.out.below HB5.out) _).mono ?_; rintro e w6 ⟨rfl, hw6, T6, g6, n6⟩; obtain ⟨d6, hb6⟩ := HK.out _ _ _ (fun g => g.up s.top s.bottom 1 s.blank _) HB5.out hw6 g6 n6; have HD := Lib.hid d6; have z0 := (zv hb6 33).trans c33; have z1 := (zv hb6 34).trans c34; have z2 := zv hb6 11; clear hw6 T6 g6 n6 hb6 d6))
   go_wp2_with fail;go_end0;refine ⟨rfl, ?_⟩;rw [HE.out];exact .after ((Pre.refl _ _).below HB.out) HD.out
 ·have d1 : (s.now.y == s.bottom) = false := beq_eq_false_iff_ne.2 hy;obtain ⟨x0, x1, y0, y1, t0, tb, b1, k1, k2, r1, r2, tl, pn⟩ := hn;have hw1 : IntKind.i64.wrap ((s.main.rows.length : Int) - 1) = (s.main.rows.length : Int) - 1 := zb _ (by omega) (by omega);by_cases hy2 : s.now.y < (s.main.rows.length : Int) - 1
  ·have d2 : decide (s.now.y < (s.main.rows.length : Int) - 1) = true := decide_eq_true hy2;have hw2 : IntKind.i64.wrap (s.now.y + 1) = s.now.y + 1 := zb _ (by omega) (by omega);have HE := Lib.hid (show s.index = { s with now := { s.now with y := s.now.y + 1 } } by unfold Scr.index; rw [if_neg hy, if_pos (show s.now.y < s.rows - 1 from hy2)]);have c1 : w.cell? ⟨p, 1, none⟩ = some (.int .i64 s.now.y) := h.at_ 1 _;have c34 : w.cell? ⟨p, 34, none⟩ = some (.int .i64 s.bottom) := h.at_ 34 _;clear h hy hy2 x0 x1 y0 y1 t0 tb b1 k1 k2 r1 r2 tl pn hok;go_enter Tryz.func158, Tryz.ntmps158;go_upto_region 0 with fail;go_quiet (fail);have HB := Lib.hid (zg (Below.refl w.heap.size w) nq);have h := HR.out.below HB.out;generalize w.drewN nq = wn at *;clear c1 c34;have c1 : wn.cell? ⟨p, 1, none⟩ = some (.int .i64 s.now.y) := h.at_ 1 _;have HRW := Lib.hid (fun w' hb => ZI (h.below (w' := w') hb));go_upto_region 2 with fail;go_quiet (first | (go_at_call 68; exact Calls.quiet_of_same (HRW.out _ (zg (Below.refl _ _) _))));have HB2 := Lib.hid (HB.out.trans ((zg (Below.refl wn.heap.size wn) nq).mono HB.out.size));replace h := h.below (zg (Below.refl wn.heap.size wn) nq);generalize wn.drewN nq = wo at *;clear c1;have c1 : wo.cell? ⟨p, 1, none⟩ = some (.int .i64 s.now.y) := h.at_ 1 _;have f1 := h.fz 1;obtain ⟨h1, g1⟩ := h.set 1 (.int .i64 (s.now.y + 1)) { s with now := { s.now with y := s.now.y + 1 } };have HD := Lib.hid (show zq B C p wo _ s.index ps by rw [HE.out]; exact ⟨C, h1, g1⟩);clear h1 g1;clear h;go_wp2_with fail;go_end0;exact ⟨rfl, .after ((Pre.refl _ _).below HB2.out) HD.out⟩
  ·have d2 : decide (s.now.y < (s.main.rows.length : Int) - 1) = false := decide_eq_false hy2;have HE := Lib.hid (show s.index = s by unfold Scr.index; rw [if_neg hy, if_neg (show ¬ s.now.y < s.rows - 1 from hy2)]);have c1 : w.cell? ⟨p, 1, none⟩ = some (.int .i64 s.now.y) := h.at_ 1 _;have c34 : w.cell? ⟨p, 34, none⟩ = some (.int .i64 s.bottom) := h.at_ 34 _;clear h hy hy2 x0 x1 y0 y1 t0 tb b1 k1 k2 r1 r2 tl pn hok;go_enter Tryz.func158, Tryz.ntmps158;go_upto_region 0 with fail;go_quiet (fail);have HB := Lib.hid (zg (Below.refl w.heap.size w) nq);have h := HR.out.below HB.out;generalize w.drewN nq = wn at *;clear c1 c34;have c1 : wn.cell? ⟨p, 1, none⟩ = some (.int .i64 s.now.y) := h.at_ 1 _;have HRW := Lib.hid (fun w' hb => ZI (h.below (w' := w') hb));go_upto_region 2 with fail;go_quiet (first | (go_at_call 68; exact Calls.quiet_of_same (HRW.out _ (zg (Below.refl _ _) _))));have HB2 := Lib.hid (HB.out.trans ((zg (Below.refl wn.heap.size wn) nq).mono HB.out.size));replace h := h.below (zg (Below.refl wn.heap.size wn) nq);generalize wn.drewN nq = wo at *;clear c1;have c1 : wo.cell? ⟨p, 1, none⟩ = some (.int .i64 s.now.y) := h.at_ 1 _;have HD := Lib.hid (show zq B C p wo wo s.index ps by rw [HE.out]; exact .refl h);clear h;go_wp2_with fail;go_end0;exact ⟨rfl, .after ((Pre.refl _ _).below HB2.out) HD.out⟩
theorem zhh {B : World} {C : Nat → Nat} {p c r : Nat} {w : World} {s : Scr} {ps : PSt} (h : SR B C p w s ps) (hok : s.Ok c r) :
  Calls Tryz.prog 211 #[.pointer (some ⟨p, 0, none⟩)] w fun e w' => e = .returned (.tuple #[]) ∧ zq B C p w w' s.reverse ps := by
 have hn := h.nums hok;have HR := Lib.hid h;by_cases hy : s.now.y = s.top
 ·have d1 : (s.now.y == s.top) = true := beq_iff_eq.2 hy;have HE := Lib.hid (show s.reverse = s.turn (fun g => g.down s.top s.bottom 1 s.blank) by unfold Scr.reverse; rw [if_pos hy]);have c1 : w.cell? ⟨p, 1, none⟩ = some (.int .i64 s.now.y) := h.at_ 1 _;have c33 : w.cell? ⟨p, 33, none⟩ = some (.int .i64 s.top) := h.at_ 33 _;clear hn h hy;go_enter Tryz.func211, Tryz.ntmps211;go_upto_region 0 with fail;go_quiet (fail);have HB := Lib.hid (zg (Below.refl w.heap.size w) nq);have h := HR.out.below HB.out;generalize w.drewN nq = wn at *;clear c1 c33;have c33 : wn.cell? ⟨p, 33, none⟩ = some (.int .i64 s.top) := h.at_ 33 _;have c34 : wn.cell? ⟨p, 34, none⟩ = some (.int .i64 s.bottom) := h.at_ 34 _;obtain ⟨T, q, hg, hq, hk⟩ := h.grid;have HG := Lib.hid hg;have HQ := Lib.hid hq;have HK := Lib.hid hk;have HRI := Lib.hid (h.blankR hok);clear hg hq hk;have HR := Lib.hid h;clear h;go_upto_region 1 with fail
  go_region_held3 (fun w' => w'.cell? ⟨p, 33, none⟩ = some (.int .i64 s.top) ∧ w'.cell? ⟨p, 34, none⟩ = some (.int .i64 s.bottom)) (first | exact ⟨c33, c34⟩ | exact ⟨z0, z1⟩)
   (first
    | (go_at_call 69; refine (zL (w := wn.drew) HQ.out).mono ?_; rintro e w4 ⟨rfl, rfl⟩)
    | (go_at_call 155; refine (Zv (HR.out.below (Below.refl _ _).drew)).mono ?_; rintro e w5 ⟨rfl, b5⟩; have HB5 := Lib.hid ((Below.refl wn.heap.size wn).drew.trans b5); have z0 := zc b5 c33; have z1 := zc b5 c34; clear b5)
    | (go_at_call 279; refine (zgf (HG.out.below HB5.out) _ _ _ _ (HRI.out.below HB5.out)).mono ?_; rintro e w6 ⟨rfl, hw6, T6, g6, n6⟩; obtain ⟨d6, hb6⟩ := HK.out _ _ _ (fun g => g.down s.top s.bottom 1 s.blank) HB5.out hw6 g6 n6; have HD := Lib.hid d6; have z0 := (zv hb6 33).trans c33; have z1 := (zv hb6 34).trans c34; clear hw6 T6 g6 n6 hb6 d6))
  go_wp2_with fail;go_end0;refine ⟨rfl, ?_⟩;rw [HE.out];exact .after ((Pre.refl _ _).below HB.out) HD.out
 ·have d1 : (s.now.y == s.top) = false := beq_eq_false_iff_ne.2 hy;obtain ⟨x0, x1, y0, y1, t0, tb, b1, k1, k2, r1, r2, tl, pn⟩ := hn;have hw1 : IntKind.i64.wrap ((s.main.rows.length : Int) - 1) = (s.main.rows.length : Int) - 1 := zb _ (by omega) (by omega);by_cases hy2 : 0 < s.now.y
  ·have d2 : decide (0 < s.now.y) = true := decide_eq_true hy2;have hw2 : IntKind.i64.wrap (s.now.y - 1) = s.now.y - 1 := zb _ (by omega) (by omega);have HE := Lib.hid (show s.reverse = { s with now := { s.now with y := s.now.y - 1 } } by unfold Scr.reverse; rw [if_neg hy, if_pos (show 0 < s.now.y from hy2)]);have c1 : w.cell? ⟨p, 1, none⟩ = some (.int .i64 s.now.y) := h.at_ 1 _;have c33 : w.cell? ⟨p, 33, none⟩ = some (.int .i64 s.top) := h.at_ 33 _;clear h hy hy2 x0 x1 y0 y1 t0 tb b1 k1 k2 r1 r2 tl pn hok;go_enter Tryz.func211, Tryz.ntmps211;go_upto_region 0 with fail;go_quiet (fail);have HB := Lib.hid (zg (Below.refl w.heap.size w) nq);have h := HR.out.below HB.out;generalize w.drewN nq = wn at *;clear c1 c33;have c1 : wn.cell? ⟨p, 1, none⟩ = some (.int .i64 s.now.y) := h.at_ 1 _;have f1 := h.fz 1;obtain ⟨h1, g1⟩ := h.set 1 (.int .i64 (s.now.y - 1)) { s with now := { s.now with y := s.now.y - 1 } };have HD := Lib.hid (show zq B C p wn _ s.reverse ps by rw [HE.out]; exact ⟨C, h1, g1⟩);clear h1 g1;clear h;go_wp2_with fail;go_end0;exact ⟨rfl, .after ((Pre.refl _ _).below HB.out) HD.out⟩
  ·have d2 : decide (0 < s.now.y) = false := decide_eq_false hy2;have HE := Lib.hid (show s.reverse = s by unfold Scr.reverse; rw [if_neg hy, if_neg (show ¬ 0 < s.now.y from hy2)]);have c1 : w.cell? ⟨p, 1, none⟩ = some (.int .i64 s.now.y) := h.at_ 1 _;have c33 : w.cell? ⟨p, 33, none⟩ = some (.int .i64 s.top) := h.at_ 33 _;clear h hy hy2 x0 x1 y0 y1 t0 tb b1 k1 k2 r1 r2 tl pn hok;go_enter Tryz.func211, Tryz.ntmps211;go_upto_region 0 with fail;go_quiet (fail);have HB := Lib.hid (zg (Below.refl w.heap.size w) nq);have h := HR.out.below HB.out;generalize w.drewN nq = wn at *;clear c1 c33;have c1 : wn.cell? ⟨p, 1, none⟩ = some (.int .i64 s.now.y) := h.at_ 1 _;have HD := Lib.hid (show zq B C p wn wn s.reverse ps by rw [HE.out]; exact .refl h);clear h;go_wp2_with fail;go_end0;exact ⟨rfl, .after ((Pre.refl _ _).below HB.out) HD.out⟩
theorem zj0 {B : World} {C : Nat → Nat} {p c r : Nat} {w : World} {s : Scr} {ps : PSt} (h : SR B C p w s ps) (hok : s.Ok c r) :
  Calls Tryz.prog 153 #[.pointer (some ⟨p, 0, none⟩)] w fun e w' => e = .returned (.tuple #[]) ∧ zq B C p w w' s.on ps := by
 have hn := h.nums hok;have c1 : w.cell? ⟨p, 1, none⟩ = some (.int .i64 s.now.y) := h.at_ 1 _;obtain ⟨T, q, hg, hq, hk⟩ := h.grid;have HG := Lib.hid hg;have HQ := Lib.hid hq;have HK := Lib.hid hk;clear hg hq hk;have HOK := Lib.hid ((hok.turn (fun g => g.setWrap s.now.y true) (fun g hg => zcg hg _ _)).toX (x := 0) (by omega) (by rw [(hn.ok hok).1]; have := hn.c1; omega));clear hn h hok;go_enter Tryz.func153, Tryz.ntmps153;go_upto_region 0 with fail
 go_region_held3 (fun w' => w'.cell? ⟨p, 1, none⟩ = some (.int .i64 s.now.y)) (first | exact c1 | exact z0)
  (first
   | (go_at_call 69; refine (zL (w := w.drew) HQ.out).mono ?_; rintro e w4 ⟨rfl, rfl⟩)
   | (go_at_call 205; refine (zed (HG.out.below (Below.refl _ _).drew) _ _).mono ?_; rintro e w6 ⟨rfl, hw6, g6⟩; obtain ⟨d6, hb6⟩ := HK.out _ _ _ (fun g => g.setWrap s.now.y true) (Below.refl _ _).drew hw6 g6 (fun k hk => .inl hk); have HD := Lib.hid d6; have z0 := (zv hb6 1).trans c1; clear hw6 g6 hb6 d6))
 obtain ⟨C1, h1, p1⟩ := HD.out;have c0 : w6.cell? ⟨p, 0, none⟩ = some (.int .i64 (s.turn (fun g => g.setWrap s.now.y true)).now.x) := h1.at_ 0 _;have f0 := h1.fz 0;obtain ⟨h2, p2⟩ := h1.set 0 (.int .i64 0) ((s.turn (fun g => g.setWrap s.now.y true)).toX 0);have H2 := Lib.hid h2;have P2 := Lib.hid (p1.trans p2);clear h1 p1 h2 p2 z0;go_wp2_with fail;refine (zbb H2.out HOK.out).mono ?_;rintro e w8 ⟨rfl, d8⟩;have HD8 := Lib.hid (zq.after P2.out d8);clear d8;go_wp2_with fail;go_end0;exact ⟨rfl, HD8.out⟩
end
section
open Go.RowKit
set_option maxRecDepth 100000
theorem zcm (s : Scr) (f g : Gr → Gr) : (s.turn f).turn g = s.turn (fun x => g (f x)) := by
 unfold Scr.turn; cases s.other <;> rfl
theorem zj1 (s : Scr) : s.turn (fun g => g) = s := by
 cases s with
 | mk now main other k0 k1 modes top bottom tabs title last bells out => cases other <;> rfl
theorem zi9 (s : Scr) (f : Gr → Gr) : (s.turn f).blank = s.blank := by unfold Scr.blank; rw [zcf]
def Scr.enter (s : Scr) : Scr := if s.inside = true then (s.toX 0).calm else s
def Scr.opened (s : Scr) (n : Int) : Scr := if s.inside = true then ((s.toX 0).calm).turn (fun g => g.down s.now.y s.bottom n s.blank) else s
def Scr.shutted (s : Scr) (n : Int) : Scr := if s.inside = true then ((s.toX 0).calm).turn (fun g => g.up s.now.y s.bottom n s.blank false) else s
theorem zh0 {B : World} {C : Nat → Nat} {p c r : Nat} {w : World} {s : Scr} {ps : PSt} (h : SR B C p w s ps) (hok : s.Ok c r) (n : Int) :
  Calls Tryz.prog 223 #[.pointer (some ⟨p, 0, none⟩), .int .i64 n] w fun e w' => e = .returned (.tuple #[]) ∧ zq B C p w w' (s.turn (fun g => g.ins s.now.x s.now.y n s.blank)).calm ps := by
 have HR := Lib.hid h;have c0 : w.cell? ⟨p, 0, none⟩ = some (.int .i64 s.now.x) := h.at_ 0 _;have c1 : w.cell? ⟨p, 1, none⟩ = some (.int .i64 s.now.y) := h.at_ 1 _;obtain ⟨T, q, hg, hq, hk⟩ := h.grid;have HG := Lib.hid hg;have HQ := Lib.hid hq;have HK := Lib.hid hk;have HRI := Lib.hid (h.blankR hok);clear hg hq hk;clear h;go_enter Tryz.func223, Tryz.ntmps223;go_upto_region 0 with fail
 go_region_held3 (fun w' => w'.cell? ⟨p, 0, none⟩ = some (.int .i64 s.now.x) ∧ w'.cell? ⟨p, 1, none⟩ = some (.int .i64 s.now.y)) (first | exact ⟨c0, c1⟩ | exact ⟨z0, z1⟩)
  (first
   | (go_at_call 69; refine (zL (w := w.drew) HQ.out).mono ?_; rintro e w4 ⟨rfl, rfl⟩)
   | (go_at_call 155; refine (Zv (HR.out.below (Below.refl _ _).drew)).mono ?_; rintro e w5 ⟨rfl, b5⟩; have HB5 := Lib.hid ((Below.refl w.heap.size w).drew.trans b5); have z0 := zc b5 c0; have z1 := zc b5 c1; clear b5)
   | (go_at_call 154; refine (zjT (HG.out.below HB5.out) _ _ _ _ (HRI.out.below HB5.out)).mono ?_; rintro e w6 ⟨rfl, hw6, g6⟩; obtain ⟨d6, hb6⟩ := HK.out _ _ _ (fun g => g.ins s.now.x s.now.y n s.blank) HB5.out hw6 g6 (fun k hk => .inl hk); have HD := Lib.hid d6; have z0 := (zv hb6 0).trans c0; have z1 := (zv hb6 1).trans c1; clear hw6 g6 hb6 d6))
 obtain ⟨C1, h1, p1⟩ := HD.out;have c2 : w6.cell? ⟨p, 2, none⟩ = some (.bool (s.turn (fun g => g.ins s.now.x s.now.y n s.blank)).now.wait) := h1.at_ 2 _;have f2 := h1.fz 2;obtain ⟨h2, p2⟩ := h1.set 2 (.bool false) (s.turn (fun g => g.ins s.now.x s.now.y n s.blank)).calm;have HD2 := Lib.hid (show zq B C p w _ _ ps from ⟨C1, h2, p1.trans p2⟩);clear h1 p1 h2 p2;go_wp2_with fail;go_end0;exact ⟨rfl, HD2.out⟩
theorem zh1 {B : World} {C : Nat → Nat} {p c r : Nat} {w : World} {s : Scr} {ps : PSt} (h : SR B C p w s ps) (hok : s.Ok c r) (n : Int) :
  Calls Tryz.prog 224 #[.pointer (some ⟨p, 0, none⟩), .int .i64 n] w fun e w' => e = .returned (.tuple #[]) ∧ zq B C p w w' (s.turn (fun g => g.del s.now.x s.now.y n s.blank)).calm ps := by
 have HR := Lib.hid h;have c0 : w.cell? ⟨p, 0, none⟩ = some (.int .i64 s.now.x) := h.at_ 0 _;have c1 : w.cell? ⟨p, 1, none⟩ = some (.int .i64 s.now.y) := h.at_ 1 _;obtain ⟨T, q, hg, hq, hk⟩ := h.grid;have HG := Lib.hid hg;have HQ := Lib.hid hq;have HK := Lib.hid hk;have HRI := Lib.hid (h.blankR hok);clear hg hq hk;clear h;go_enter Tryz.func224, Tryz.ntmps224;go_upto_region 0 with fail
 go_region_held3 (fun w' => w'.cell? ⟨p, 0, none⟩ = some (.int .i64 s.now.x) ∧ w'.cell? ⟨p, 1, none⟩ = some (.int .i64 s.now.y)) (first | exact ⟨c0, c1⟩ | exact ⟨z0, z1⟩)
  (first
   | (go_at_call 69; refine (zL (w := w.drew) HQ.out).mono ?_; rintro e w4 ⟨rfl, rfl⟩)
   | (go_at_call 155; refine (Zv (HR.out.below (Below.refl _ _).drew)).mono ?_; rintro e w5 ⟨rfl, b5⟩; have HB5 := Lib.hid ((Below.refl w.heap.size w).drew.trans b5); have z0 := zc b5 c0; have z1 := zc b5 c1; clear b5)
   | (go_at_call 281; refine (zny (HG.out.below HB5.out) _ _ _ _ (HRI.out.below HB5.out)).mono ?_; rintro e w6 ⟨rfl, hw6, g6⟩; obtain ⟨d6, hb6⟩ := HK.out _ _ _ (fun g => g.del s.now.x s.now.y n s.blank) HB5.out hw6 g6 (fun k hk => .inl hk); have HD := Lib.hid d6; have z0 := (zv hb6 0).trans c0; have z1 := (zv hb6 1).trans c1; clear hw6 g6 hb6 d6))
 obtain ⟨C1, h1, p1⟩ := HD.out;have c2 : w6.cell? ⟨p, 2, none⟩ = some (.bool (s.turn (fun g => g.del s.now.x s.now.y n s.blank)).now.wait) := h1.at_ 2 _;have f2 := h1.fz 2;obtain ⟨h2, p2⟩ := h1.set 2 (.bool false) (s.turn (fun g => g.del s.now.x s.now.y n s.blank)).calm;have HD2 := Lib.hid (show zq B C p w _ _ ps from ⟨C1, h2, p1.trans p2⟩);clear h1 p1 h2 p2;go_wp2_with fail;go_end0;exact ⟨rfl, HD2.out⟩
theorem zja {B : World} {C : Nat → Nat} {p c r : Nat} {w : World} {s : Scr} {ps : PSt} (h : SR B C p w s ps) (hok : s.Ok c r) (n : Int) :
  Calls Tryz.prog 225 #[.pointer (some ⟨p, 0, none⟩), .int .i64 n] w fun e w' => e = .returned (.tuple #[]) ∧ zq B C p w w' (s.turn (fun g => g.erase s.now.x s.now.y n s.blank)).calm ps := by
 have HR := Lib.hid h;have c0 : w.cell? ⟨p, 0, none⟩ = some (.int .i64 s.now.x) := h.at_ 0 _;have c1 : w.cell? ⟨p, 1, none⟩ = some (.int .i64 s.now.y) := h.at_ 1 _;obtain ⟨T, q, hg, hq, hk⟩ := h.grid;have HG := Lib.hid hg;have HQ := Lib.hid hq;have HK := Lib.hid hk;have HRI := Lib.hid (h.blankR hok);clear hg hq hk;clear h;go_enter Tryz.func225, Tryz.ntmps225;go_upto_region 0 with fail
 go_region_held3 (fun w' => w'.cell? ⟨p, 0, none⟩ = some (.int .i64 s.now.x) ∧ w'.cell? ⟨p, 1, none⟩ = some (.int .i64 s.now.y)) (first | exact ⟨c0, c1⟩ | exact ⟨z0, z1⟩)
  (first
   | (go_at_call 69; refine (zL (w := w.drew) HQ.out).mono ?_; rintro e w4 ⟨rfl, rfl⟩)
   | (go_at_call 155; refine (Zv (HR.out.below (Below.refl _ _).drew)).mono ?_; rintro e w5 ⟨rfl, b5⟩; have HB5 := Lib.hid ((Below.refl w.heap.size w).drew.trans b5); have z0 := zc b5 c0; have z1 := zc b5 c1; clear b5)
   | (go_at_call 282; refine (zdm (HG.out.below HB5.out) _ _ _ _ (HRI.out.below HB5.out)).mono ?_; rintro e w6 ⟨rfl, hw6, g6⟩; obtain ⟨d6, hb6⟩ := HK.out _ _ _ (fun g => g.erase s.now.x s.now.y n s.blank) HB5.out hw6 g6 (fun k hk => .inl hk); have HD := Lib.hid d6; have z0 := (zv hb6 0).trans c0; have z1 := (zv hb6 1).trans c1; clear hw6 g6 hb6 d6))
 obtain ⟨C1, h1, p1⟩ := HD.out;have c2 : w6.cell? ⟨p, 2, none⟩ = some (.bool (s.turn (fun g => g.erase s.now.x s.now.y n s.blank)).now.wait) := h1.at_ 2 _;have f2 := h1.fz 2;obtain ⟨h2, p2⟩ := h1.set 2 (.bool false) (s.turn (fun g => g.erase s.now.x s.now.y n s.blank)).calm;have HD2 := Lib.hid (show zq B C p w _ _ ps from ⟨C1, h2, p1.trans p2⟩);clear h1 p1 h2 p2;go_wp2_with fail;go_end0;exact ⟨rfl, HD2.out⟩
theorem ze3 {B : World} {C : Nat → Nat} {p c r : Nat} {w : World} {s : Scr} {ps : PSt} (h : SR B C p w s ps) (hok : s.Ok c r) :
  Calls Tryz.prog 283 #[.pointer (some ⟨p, 0, none⟩)] w fun e w' => e = .returned (.bool s.inside) ∧ zq B C p w w' s.enter ps := by
 have HR := Lib.hid h;by_cases hl : s.now.y < s.top
 ·have e1 : decide (s.now.y < s.top) = true := decide_eq_true hl;have HI := Lib.hid (show s.inside = false by unfold Scr.inside; rw [e1]; rfl);have c1 : w.cell? ⟨p, 1, none⟩ = some (.int .i64 s.now.y) := h.at_ 1 _;have c33 : w.cell? ⟨p, 33, none⟩ = some (.int .i64 s.top) := h.at_ 33 _;have c34 : w.cell? ⟨p, 34, none⟩ = some (.int .i64 s.bottom) := h.at_ 34 _;clear h hok;go_enter Tryz.func283, Tryz.ntmps283;go_upto_region 1 with fail;go_quiet (fail);have HB := Lib.hid (zg (Below.refl w.heap.size w) nq);have h := HR.out.below HB.out;generalize w.drewN nq = wn at *;clear c1 c33 c34;have HD := Lib.hid (show zq B C p w _ s.enter ps by unfold Scr.enter; rw [if_neg (by rw [HI.out]; decide)]; exact .after ((Pre.refl _ _).below HB.out) (.refl h));clear h;go_wp2_with fail;go_ret;exact ⟨ZU HI.out.symm, HD.out⟩
 ·have e1 : decide (s.now.y < s.top) = false := decide_eq_false hl;by_cases hh : s.bottom < s.now.y
  ·have e2 : decide (s.bottom < s.now.y) = true := decide_eq_true hh;have HI := Lib.hid (show s.inside = false by unfold Scr.inside; rw [e1, e2]; rfl);have c1 : w.cell? ⟨p, 1, none⟩ = some (.int .i64 s.now.y) := h.at_ 1 _;have c33 : w.cell? ⟨p, 33, none⟩ = some (.int .i64 s.top) := h.at_ 33 _;have c34 : w.cell? ⟨p, 34, none⟩ = some (.int .i64 s.bottom) := h.at_ 34 _;clear h hok;go_enter Tryz.func283, Tryz.ntmps283;go_upto_region 1 with fail;go_quiet (fail);have HB := Lib.hid (zg (Below.refl w.heap.size w) nq);have h := HR.out.below HB.out;generalize w.drewN nq = wn at *;clear c1 c33 c34;have HD := Lib.hid (show zq B C p w _ s.enter ps by unfold Scr.enter; rw [if_neg (by rw [HI.out]; decide)]; exact .after ((Pre.refl _ _).below HB.out) (.refl h));clear h;go_wp2_with fail;go_ret;exact ⟨ZU HI.out.symm, HD.out⟩
  ·have e2 : decide (s.bottom < s.now.y) = false := decide_eq_false hh;have HI := Lib.hid (show s.inside = true by unfold Scr.inside; rw [e1, e2]; rfl);have c1 : w.cell? ⟨p, 1, none⟩ = some (.int .i64 s.now.y) := h.at_ 1 _;have c33 : w.cell? ⟨p, 33, none⟩ = some (.int .i64 s.top) := h.at_ 33 _;have c34 : w.cell? ⟨p, 34, none⟩ = some (.int .i64 s.bottom) := h.at_ 34 _;clear h hok;go_enter Tryz.func283, Tryz.ntmps283;go_upto_region 1 with fail;go_quiet (fail);have HB := Lib.hid (zg (Below.refl w.heap.size w) nq);have h := HR.out.below HB.out;generalize w.drewN nq = wn at *;clear c1 c33 c34;have c0 : wn.cell? ⟨p, 0, none⟩ = some (.int .i64 s.now.x) := h.at_ 0 _;have c2 : wn.cell? ⟨p, 2, none⟩ = some (.bool s.now.wait) := h.at_ 2 _;have f0 := h.fz 0;have f2 := h.fz 2;obtain ⟨h1, g1⟩ := h.set 0 (.int .i64 0) (s.toX 0);obtain ⟨h2, g2⟩ := h1.set 2 (.bool false) (s.toX 0).calm;have HD := Lib.hid (show zq B C p w _ s.enter ps by unfold Scr.enter; rw [if_pos HI.out]; exact .after ((Pre.refl _ _).below HB.out) ⟨C, h2, g1.trans g2⟩);clear h h1 h2 g1 g2;go_wp2_with fail;go_ret;exact ⟨ZU HI.out.symm, HD.out⟩
theorem zkV {B : World} {C : Nat → Nat} {p c r : Nat} {w : World} {s : Scr} {ps : PSt} (h : SR B C p w s ps) (hok : s.Ok c r) (n : Int) :
  Calls Tryz.prog 226 #[.pointer (some ⟨p, 0, none⟩), .int .i64 n] w fun e w' => e = .returned (.tuple #[]) ∧ zq B C p w w' (s.opened n) ps := by
 have HI := Lib.hid (ze3 h hok);have hn := h.nums hok;have HOK := Lib.hid ((hok.toX (x := 0) (by omega) (by rw [(hn.ok hok).1]; have := hn.c1; omega)).calm);clear hn;cases hb : s.inside
 ·rw [hb] at HI;have HE := Lib.hid (show s.enter = s by unfold Scr.enter; rw [hb]; rfl);have HE2 := Lib.hid (show s.opened n = s by unfold Scr.opened; rw [hb]; rfl);clear h hok hb;go_enter Tryz.func226, Tryz.ntmps226;go_wp2_with fail;refine HI.out.mono ?_;rintro e w2 ⟨rfl, d2⟩;rw [HE.out] at d2;have HD := Lib.hid d2;clear d2;go_wp2_with fail;go_end0;rw [HE2.out];exact ⟨rfl, HD.out⟩
 ·rw [hb] at HI;have HE := Lib.hid (show s.enter = (s.toX 0).calm by unfold Scr.enter; rw [hb]; rfl);have HE2 := Lib.hid (show s.opened n = ((s.toX 0).calm).turn (fun g => g.down s.now.y s.bottom n s.blank) by unfold Scr.opened; rw [hb]; rfl);clear h hok hb;go_enter Tryz.func226, Tryz.ntmps226;go_wp2_with fail;refine HI.out.mono ?_;rintro e w ⟨rfl, d2⟩;rw [HE.out] at d2;obtain ⟨C2, h, p2⟩ := d2;have P2 := Lib.hid p2;have HR := Lib.hid h;have hok := HOK.out;clear p2;have c1 : w.cell? ⟨p, 1, none⟩ = some (.int .i64 s.now.y) := h.at_ 1 _;have c34 : w.cell? ⟨p, 34, none⟩ = some (.int .i64 s.bottom) := h.at_ 34 _;obtain ⟨T, q, hg, hq, hk⟩ := h.grid;have HG := Lib.hid hg;have HQ := Lib.hid hq;have HK := Lib.hid hk;have HRI := Lib.hid (h.blankR hok);clear hg hq hk;clear h hok;go_upto_region 1 with fail
  go_region_held3 (fun w' => w'.cell? ⟨p, 1, none⟩ = some (.int .i64 s.now.y) ∧ w'.cell? ⟨p, 34, none⟩ = some (.int .i64 s.bottom)) (first | exact ⟨c1, c34⟩ | exact ⟨z0, z1⟩)
   (first
    | (go_at_call 69; refine (zL (w := w.drew) HQ.out).mono ?_; rintro e w4 ⟨rfl, rfl⟩)
    | (go_at_call 155; refine (Zv (HR.out.below (Below.refl _ _).drew)).mono ?_; rintro e w5 ⟨rfl, b5⟩; have HB5 := Lib.hid ((Below.refl w.heap.size w).drew.trans b5); have z0 := zc b5 c1; have z1 := zc b5 c34; clear b5)
    | (go_at_call 279; refine (zgf (HG.out.below HB5.out) _ _ _ _ (HRI.out.below HB5.out)).mono ?_; rintro e w6 ⟨rfl, hw6, T6, g6, n6⟩; obtain ⟨d6, hb6⟩ := HK.out _ _ _ (fun g => g.down s.now.y s.bottom n s.blank) HB5.out hw6 g6 n6; have HD := Lib.hid d6; have z0 := (zv hb6 1).trans c1; have z1 := (zv hb6 34).trans c34; clear hw6 T6 g6 n6 hb6 d6))
  go_wp2_with fail;go_end0;rw [HE2.out];exact ⟨rfl, .after P2.out HD.out⟩
theorem zkW {B : World} {C : Nat → Nat} {p c r : Nat} {w : World} {s : Scr} {ps : PSt} (h : SR B C p w s ps) (hok : s.Ok c r) (n : Int) :
  Calls Tryz.prog 227 #[.pointer (some ⟨p, 0, none⟩), .int .i64 n] w fun e w' => e = .returned (.tuple #[]) ∧ zq B C p w w' (s.shutted n) ps := by
 have HI := Lib.hid (ze3 h hok);have hn := h.nums hok;have HOK := Lib.hid ((hok.toX (x := 0) (by omega) (by rw [(hn.ok hok).1]; have := hn.c1; omega)).calm);clear hn;cases hb : s.inside
 ·rw [hb] at HI;have HE := Lib.hid (show s.enter = s by unfold Scr.enter; rw [hb]; rfl);have HE2 := Lib.hid (show s.shutted n = s by unfold Scr.shutted; rw [hb]; rfl);clear h hok hb;go_enter Tryz.func227, Tryz.ntmps227;go_wp2_with fail;refine HI.out.mono ?_;rintro e w2 ⟨rfl, d2⟩;rw [HE.out] at d2;have HD := Lib.hid d2;clear d2;go_wp2_with fail;go_end0;rw [HE2.out];exact ⟨rfl, HD.out⟩
 ·rw [hb] at HI;have HE := Lib.hid (show s.enter = (s.toX 0).calm by unfold Scr.enter; rw [hb]; rfl);have HE2 := Lib.hid (show s.shutted n = ((s.toX 0).calm).turn (fun g => g.up s.now.y s.bottom n s.blank false) by unfold Scr.shutted; rw [hb]; rfl);clear h hok hb;go_enter Tryz.func227, Tryz.ntmps227;go_wp2_with fail;refine HI.out.mono ?_;rintro e w ⟨rfl, d2⟩;rw [HE.out] at d2;obtain ⟨C2, h, p2⟩ := d2;have P2 := Lib.hid p2;have HR := Lib.hid h;have hok := HOK.out;clear p2;have c1 : w.cell? ⟨p, 1, none⟩ = some (.int .i64 s.now.y) := h.at_ 1 _;have c34 : w.cell? ⟨p, 34, none⟩ = some (.int .i64 s.bottom) := h.at_ 34 _;obtain ⟨T, q, hg, hq, hk⟩ := h.grid;have HG := Lib.hid hg;have HQ := Lib.hid hq;have HK := Lib.hid hk;have HRI := Lib.hid (h.blankR hok);clear hg hq hk;clear h hok;go_upto_region 1 with fail
  go_region_held3 (fun w' => w'.cell? ⟨p, 1, none⟩ = some (.int .i64 s.now.y) ∧ w'.cell? ⟨p, 34, none⟩ = some (.int .i64 s.bottom)) (first | exact ⟨c1, c34⟩ | exact ⟨z0, z1⟩)
   (first
    | (go_at_call 69; refine (zL (w := w.drew) HQ.out).mono ?_; rintro e w4 ⟨rfl, rfl⟩)
    | (go_at_call 155; refine (Zv (HR.out.below (Below.refl _ _).drew)).mono ?_; rintro e w5 ⟨rfl, b5⟩; have HB5 := Lib.hid ((Below.refl w.heap.size w).drew.trans b5); have z0 := zc b5 c1; have z1 := zc b5 c34; clear b5)
    | (go_at_call 208; refine (zjH (HG.out.below HB5.out) _ _ _ _ (HRI.out.below HB5.out) _).mono ?_; rintro e w6 ⟨rfl, hw6, T6, g6, n6⟩; obtain ⟨d6, hb6⟩ := HK.out _ _ _ (fun g => g.up s.now.y s.bottom n s.blank false) HB5.out hw6 g6 n6; have HD := Lib.hid d6; have z0 := (zv hb6 1).trans c1; have z1 := (zv hb6 34).trans c34; clear hw6 T6 g6 n6 hb6 d6))
  go_wp2_with fail;go_end0;rw [HE2.out];exact ⟨rfl, .after P2.out HD.out⟩
theorem zh2 {B : World} {C : Nat → Nat} {p c r : Nat} {w : World} {s : Scr} {ps : PSt} (h : SR B C p w s ps) (hok : s.Ok c r) (n : Int) :
  Calls Tryz.prog 228 #[.pointer (some ⟨p, 0, none⟩), .int .i64 n] w fun e w' => e = .returned (.tuple #[]) ∧ zq B C p w w' (s.turn (fun g => g.up s.top s.bottom n s.blank s.other.isNone)) ps := by
 have HR := Lib.hid h;have c33 : w.cell? ⟨p, 33, none⟩ = some (.int .i64 s.top) := h.at_ 33 _;have c34 : w.cell? ⟨p, 34, none⟩ = some (.int .i64 s.bottom) := h.at_ 34 _;obtain ⟨T, q, hg, hq, hk⟩ := h.grid;have HG := Lib.hid hg;have HQ := Lib.hid hq;have HK := Lib.hid hk;have HRI := Lib.hid (h.blankR hok);have HOT := Lib.hid h.oth;clear hg hq hk;clear h;rcases HOT.out with ⟨c11, hno⟩ | ⟨qo, c11, hno⟩
 all_goals
  rw [hno];clear hno;go_enter Tryz.func228, Tryz.ntmps228;go_upto_region 0 with fail
  go_region_held3 (fun w' => w'.cell? ⟨p, 33, none⟩ = some (.int .i64 s.top) ∧ w'.cell? ⟨p, 34, none⟩ = some (.int .i64 s.bottom) ∧ w'.cell? ⟨p, 11, none⟩ = w.cell? ⟨p, 11, none⟩) (first | exact ⟨c33, c34, rfl⟩ | exact ⟨z0, z1, z2⟩)
   (first
    | (go_at_call 69; refine (zL (w := w.drew) HQ.out).mono ?_; rintro e w4 ⟨rfl, rfl⟩)
    | (go_at_call 155; refine (Zv (HR.out.below (Below.refl _ _).drew)).mono ?_; rintro e w5 ⟨rfl, b5⟩; have HB5 := Lib.hid ((Below.refl w.heap.size w).drew.trans b5); have z0 := zc b5 c33; have z1 := zc b5 c34; have z2 := (zc b5 c11).trans c11.symm; clear b5)
    | (go_at_call 208; refine (zjH (HG.out.below HB5.out) _ _ _ _ (HRI.out.below HB5.out) _).mono ?_; rintro e w6 ⟨rfl, hw6, T6, g6, n6⟩; obtain ⟨d6, hb6⟩ := HK.out _ _ _ (fun g => g.up s.top s.bottom n s.blank _) HB5.out hw6 g6 n6; have HD := Lib.hid d6; have z0 := (zv hb6 33).trans c33; have z1 := (zv hb6 34).trans c34; have z2 := zv hb6 11; clear hw6 T6 g6 n6 hb6 d6))
  go_wp2_with fail;go_end0;exact ⟨rfl, HD.out⟩
theorem zgk {B : World} {C : Nat → Nat} {p c r : Nat} {w : World} {s : Scr} {ps : PSt} (h : SR B C p w s ps) (hok : s.Ok c r) (n : Int) :
  Calls Tryz.prog 229 #[.pointer (some ⟨p, 0, none⟩), .int .i64 n] w fun e w' => e = .returned (.tuple #[]) ∧ zq B C p w w' (s.turn (fun g => g.down s.top s.bottom n s.blank)) ps := by
 have HR := Lib.hid h;have c33 : w.cell? ⟨p, 33, none⟩ = some (.int .i64 s.top) := h.at_ 33 _;have c34 : w.cell? ⟨p, 34, none⟩ = some (.int .i64 s.bottom) := h.at_ 34 _;obtain ⟨T, q, hg, hq, hk⟩ := h.grid;have HG := Lib.hid hg;have HQ := Lib.hid hq;have HK := Lib.hid hk;have HRI := Lib.hid (h.blankR hok);clear hg hq hk;clear h;go_enter Tryz.func229, Tryz.ntmps229;go_upto_region 0 with fail
 go_region_held3 (fun w' => w'.cell? ⟨p, 33, none⟩ = some (.int .i64 s.top) ∧ w'.cell? ⟨p, 34, none⟩ = some (.int .i64 s.bottom)) (first | exact ⟨c33, c34⟩ | exact ⟨z0, z1⟩)
  (first
   | (go_at_call 69; refine (zL (w := w.drew) HQ.out).mono ?_; rintro e w4 ⟨rfl, rfl⟩)
   | (go_at_call 155; refine (Zv (HR.out.below (Below.refl _ _).drew)).mono ?_; rintro e w5 ⟨rfl, b5⟩; have HB5 := Lib.hid ((Below.refl w.heap.size w).drew.trans b5); have z0 := zc b5 c33; have z1 := zc b5 c34; clear b5)
   | (go_at_call 279; refine (zgf (HG.out.below HB5.out) _ _ _ _ (HRI.out.below HB5.out)).mono ?_; rintro e w6 ⟨rfl, hw6, T6, g6, n6⟩; obtain ⟨d6, hb6⟩ := HK.out _ _ _ (fun g => g.down s.top s.bottom n s.blank) HB5.out hw6 g6 n6; have HD := Lib.hid d6; have z0 := (zv hb6 33).trans c33; have z1 := (zv hb6 34).trans c34; clear hw6 T6 g6 n6 hb6 d6))
 go_wp2_with fail;go_end0;exact ⟨rfl, HD.out⟩
theorem zcI {B : World} {C : Nat → Nat} {p c r : Nat} {w : World} {s : Scr} {ps : PSt} (h : SR B C p w s ps) (hok : s.Ok c r) (y z : Int) (hy : -1000 ≤ y ∧ y ≤ 1000) (hz : z ≤ 1000) :
  Calls Tryz.prog 284 #[.pointer (some ⟨p, 0, none⟩), .int .i64 y, .int .i64 z] w fun e w' => e = .returned (.tuple #[]) ∧ zq B C p w w' (s.clean y z) ps := by
 have hn := h.nums hok;have HCC := Lib.hid ((hn.ok hok).1);have HCL := Lib.hid (show s.clean y z = s.turn (fun g => zcD c s.blank y (z - y).toNat g) by unfold Scr.clean Scr.cols; rw [HCC.out]);have HR := Lib.hid h;have HOK := Lib.hid hok;obtain ⟨n, hn2⟩ : ∃ n, n = (z - y).toNat := ⟨_, rfl⟩;rw [← hn2] at HCL;clear hn h hok;go_enter Tryz.func284, Tryz.ntmps284;go_wp2_with fail
 go_loopw [6] (fun iv wr => ∃ (k : Nat) (C1 : Nat → Nat), k ≤ n ∧ iv = .int .i64 (y + k) ∧ Hid (SR B C1 p wr (s.turn (fun g => zcD c s.blank y k g)) ps) ∧ Hid (Pre C w C1 wr)) (fun iv _ => (z - intOf iv).toNat)
 case atStart => exact ⟨0, C, Nat.zero_le _, by simp, Lib.hid (by rw [show (fun g => zcD c s.blank y 0 g) = fun g => g from rfl, zj1]; exact HR.out), Lib.hid (Pre.refl _ _)⟩
 case round =>
  obtain ⟨k, C1, hk, rfl, H1, HP1⟩ := hrel;by_cases hlt : y + k < z
  ·have e1 : decide (y + (k : Int) < z) = true := decide_eq_true hlt;have hw : IntKind.i64.wrap (y + k + 1) = y + k + 1 := zb _ (by omega) (by omega);have hk2 : k + 1 ≤ n := (by omega);have HO1 := Lib.hid (show (s.turn (fun g => zcD c s.blank y k g)).Ok c r from HOK.out.turn _ fun g hg => ze2 hg _ _ _ _);obtain ⟨T, q, hg, hq, hk⟩ := H1.out.grid;have HG := Lib.hid hg;have HK := Lib.hid hk;have HQ := Lib.hid hq;have HRI := Lib.hid (H1.out.blankR HO1.out);have HM := Lib.hid (HO1.out.main.1);have HTB := Lib.hid (zi9 s (fun g => zcD c s.blank y k g));clear hg hk hq;go_wp2_with fail;refine (zL HQ.out).mono ?_;rintro e w3 ⟨rfl, rfl⟩;go_wp2_with fail;refine (ZS H1.out).mono ?_;rintro e w4 ⟨rfl, rfl⟩;rw [HM.out];go_wp2_with fail;refine (Zv H1.out).mono ?_;rintro e w5 ⟨rfl, b5⟩;have HB5 := Lib.hid b5;clear b5;go_wp2_with fail;refine (zdm (HG.out.below HB5.out) 0 (y + k) c _ (HRI.out.below HB5.out)).mono ?_;rintro e w6 ⟨rfl, hw6, g6⟩;obtain ⟨d6, _⟩ := HK.out _ _ _ (fun g => g.erase 0 (y + k) c (s.turn (fun g => zcD c s.blank y k g)).blank) HB5.out hw6 g6 (fun k hk => .inl hk);rw [zcm, HTB.out] at d6;obtain ⟨C2, h2, p2⟩ := d6;have H2 := Lib.hid h2;have P2 := Lib.hid (HP1.out.trans p2);obtain ⟨T2, q2, hg2, hq2, hk2⟩ := h2.grid;have HG2 := Lib.hid hg2;have HK2 := Lib.hid hk2;have HQ2 := Lib.hid hq2;clear hw6 g6 h2 p2 hg2 hq2 hk2;go_wp2_with fail;refine (zL HQ2.out).mono ?_;rintro e w7 ⟨rfl, rfl⟩;go_wp2_with fail;refine (zed HG2.out (y + k) false).mono ?_;rintro e w8 ⟨rfl, hw8, g8⟩;obtain ⟨d8, _⟩ := HK2.out _ _ _ (fun g => g.setWrap (y + k) false) (Below.refl _ _) hw8 g8 (fun k hk => .inl hk);rw [zcm] at d8;obtain ⟨C3, h3, p3⟩ := d8;have H3 := Lib.hid h3;have P3 := Lib.hid (P2.out.trans p3);clear hw8 g8 h3 p3;go_wp2_with fail;go_roundw
   case rel => exact ⟨k + 1, C3, hk2, by go_num, H3, P3⟩
   case measure => simp [intOf]; omega
  ·have e1 : decide (y + (k : Int) < z) = false := decide_eq_false hlt;have hkn : k = n := (by omega);have HD := Lib.hid (show zq B C p w wr (s.clean y z) ps by rw [HCL.out, ← hkn]; exact ⟨C1, H1.out, HP1.out⟩);clear hkn;go_wp2_with fail;go_end0;exact ⟨rfl, HD.out⟩
end
section
open Go.RowKit
def zbT (v : Value) : Nat → Nat := fun k => if v.ownBlock = some k then 1 else 0
theorem zb0 {v : Value} {k : Nat} (h : zbT v k ≠ 0) : v.ownBlock = some k := by
 unfold zbT at h;by_cases e : v.ownBlock = some k
 ·exact e
 ·rw [if_neg e] at h; exact absurd rfl h
theorem zdo {v : Value} {k : Nat} (h : v.ownBlock = some k) : zbT v k ≠ 0 := by unfold zbT; rw [if_pos h]; decide
theorem SAt.outs {C Tm To Tp : Nat → Nat} {p pm : Nat} {po : Option Nat} {pp : Nat} {vt vo vo' : Value} {w w1 w2 : World} {s : Scr} {ps : PSt} {x : List UInt8} (h : SAt C Tm To Tp p pm po pp vt vo w s ps) (g1 : w.grownBy w1 none) (g : w1.grownBy w2 vo.ownBlock)
  (ho : zn w2 0 1 vo' x.length (zk x)) (hn : ∀ k, vo'.ownBlock = some k → vo.ownBlock = some k ∨ w1.heap.size ≤ k) :
  SAt (reC C 3 (zbT vo')) Tm To Tp p pm po pp vt vo' (w2.setCell ⟨p, 40, none⟩ vo') { s with out := x } ps ∧ Pre C w (reC C 3 (zbT vo')) (w2.setCell ⟨p, 40, none⟩ vo') := by
 have hs : w.heap.size ≤ w2.heap.size := Nat.le_trans g1.size g.size;have K : zar C 3 w w2 := ⟨⟨g.os.trans g1.os, g.tape.trans g1.tape, g.output.trans g1.output, hs, fun k hk hg => (g.block k (Nat.lt_of_lt_of_le hk g1.size) (fun e => hg (.inl (h.t3 k e.symm)))).trans (g1.block k hk (by simp))⟩⟩;have hn' : ∀ k, zbT vo' k ≠ 0 → own (zbT vo) w k := fun k hk => by
  rcases hn k (zb0 hk) with e | e
  ·exact .inl (zdo e)
  ·exact .inr (Nat.le_trans g1.size e)
 have hk : ∀ {d k : Nat}, C k = d → d ≠ 0 → d ≠ 3 → reC C 3 (zbT vo') k = d := fun e h0 hd => zci h.lt (fun k hk => h.t3 k (zb0 hk)) hn' e h0 hd;have hp : reC C 3 (zbT vo') p = 1 := hk h.cp (by decide) (by decide);have hb2 := K.blk h.blk h.cp (by decide);have K2 : zar (reC C 3 (zbT vo')) 1 w2 (w2.setCell ⟨p, 40, none⟩ vo') := .of_gb (zO (zr _ (some p)) 40 vo') (fun k hk => by injection hk with hk; subst hk; exact .inl hp);have lt' : ∀ k, reC C 3 (zbT vo') k ≠ 0 → k < w2.heap.size := fun k hk2 => by
  rcases zaj hk2 with e | e
  ·exact (zl ho k (zb0 e)).2
  ·exact Nat.lt_of_lt_of_le (h.lt k e) hs
 have n' : ∀ k, reC C 3 (zbT vo') k ≠ 0 → own C w k := fun k hk2 => by
  rcases zaj hk2 with e | e
  ·rcases hn' k e with e2 | e2
   ·exact .inl (by rw [h.t3 k (zb0 e2)]; decide)
   ·exact .inr e2
  ·exact .inl e
 refine ⟨⟨fun k hk2 => Nat.lt_of_lt_of_le (lt' k hk2) K2.wi.size, hp, zw hb2 40 vo', K2.gm (K.gm h.gm h.t4 (by decide)) (fun k e => hk (h.t4 k e) (by decide) (by decide)) (by decide), K2.oth (K.oth h.go h.t5 (by decide)) (fun k e => hk (h.t5 k e) (by decide) (by decide)) (by decide), K2.rest (K.rest h.rp h.t6 (by decide)) (fun k e => hk (h.t6 k e) (by decide) (by decide)) (by decide), K2.row (K.row h.ta h.t2 (by decide)) (fun k e => hk (h.t2 k e) (by decide) (by decide)) (by decide), K2.row ho (fun k e => zbw (zdo e)) (by decide), fun k e => hk (h.t2 k e) (by decide) (by decide), fun k e => zbw (zdo e), fun k e => hk (h.t4 k e) (by decide) (by decide), fun k e => hk (h.t5 k e) (by decide) (by decide), fun k e => hk (h.t6 k e) (by decide) (by decide)⟩, ?_, n'⟩;exact zdl (K.own (by decide)) n' (K2.own (by decide))
theorem SAt.stops' {C Tm To Tp : Nat → Nat} {p pm : Nat} {po : Option Nat} {pp : Nat} {vt vo vt' : Value} {w w1 w2 : World} {s : Scr} {ps : PSt} {x : List Bool} (h : SAt C Tm To Tp p pm po pp vt vo w s ps) (g1 : w.grownBy w1 none) (g : w1.grownBy w2 vt.ownBlock)
  (ho : zn w2 0 1 vt' x.length (x.map Value.bool)) (hn : ∀ k, vt'.ownBlock = some k → vt.ownBlock = some k ∨ w1.heap.size ≤ k) :
  SAt (reC C 2 (zbT vt')) Tm To Tp p pm po pp vt' vo (w2.setCell ⟨p, 35, none⟩ vt') { s with tabs := x } ps ∧ Pre C w (reC C 2 (zbT vt')) (w2.setCell ⟨p, 35, none⟩ vt') := by
 have hs : w.heap.size ≤ w2.heap.size := Nat.le_trans g1.size g.size;have K : zar C 2 w w2 := ⟨⟨g.os.trans g1.os, g.tape.trans g1.tape, g.output.trans g1.output, hs, fun k hk hg => (g.block k (Nat.lt_of_lt_of_le hk g1.size) (fun e => hg (.inl (h.t2 k e.symm)))).trans (g1.block k hk (by simp))⟩⟩;have hn' : ∀ k, zbT vt' k ≠ 0 → own (zbT vt) w k := fun k hk => by
  rcases hn k (zb0 hk) with e | e
  ·exact .inl (zdo e)
  ·exact .inr (Nat.le_trans g1.size e)
 have hk : ∀ {d k : Nat}, C k = d → d ≠ 0 → d ≠ 2 → reC C 2 (zbT vt') k = d := fun e h0 hd => zci h.lt (fun k hk => h.t2 k (zb0 hk)) hn' e h0 hd;have hp : reC C 2 (zbT vt') p = 1 := hk h.cp (by decide) (by decide);have hb2 := K.blk h.blk h.cp (by decide);have K2 : zar (reC C 2 (zbT vt')) 1 w2 (w2.setCell ⟨p, 35, none⟩ vt') := .of_gb (zO (zr _ (some p)) 35 vt') (fun k hk => by injection hk with hk; subst hk; exact .inl hp);have lt' : ∀ k, reC C 2 (zbT vt') k ≠ 0 → k < w2.heap.size := fun k hk2 => by
  rcases zaj hk2 with e | e
  ·exact (zl ho k (zb0 e)).2
  ·exact Nat.lt_of_lt_of_le (h.lt k e) hs
 have n' : ∀ k, reC C 2 (zbT vt') k ≠ 0 → own C w k := fun k hk2 => by
  rcases zaj hk2 with e | e
  ·rcases hn' k e with e2 | e2
   ·exact .inl (by rw [h.t2 k (zb0 e2)]; decide)
   ·exact .inr e2
  ·exact .inl e
 refine ⟨⟨fun k hk2 => Nat.lt_of_lt_of_le (lt' k hk2) K2.wi.size, hp, zw hb2 35 vt', K2.gm (K.gm h.gm h.t4 (by decide)) (fun k e => hk (h.t4 k e) (by decide) (by decide)) (by decide), K2.oth (K.oth h.go h.t5 (by decide)) (fun k e => hk (h.t5 k e) (by decide) (by decide)) (by decide), K2.rest (K.rest h.rp h.t6 (by decide)) (fun k e => hk (h.t6 k e) (by decide) (by decide)) (by decide), K2.row ho (fun k e => zbw (zdo e)) (by decide), K2.row (K.row h.ou h.t3 (by decide)) (fun k e => hk (h.t3 k e) (by decide) (by decide)) (by decide), fun k e => zbw (zdo e), fun k e => hk (h.t3 k e) (by decide) (by decide), fun k e => hk (h.t4 k e) (by decide) (by decide), fun k e => hk (h.t5 k e) (by decide) (by decide), fun k e => hk (h.t6 k e) (by decide) (by decide)⟩, ?_, n'⟩;exact zdl (K.own (by decide)) n' (K2.own (by decide))
section
variable {B : World} {C : Nat → Nat} {p : Nat} {w w' : World} {s : Scr} {ps : PSt}
theorem SR.outs (h : SR B C p w s ps) : ∃ vo, w.cell? ⟨p, 40, none⟩ = some vo ∧ zn w 0 1 vo s.out.length (zk s.out) ∧ (∀ k, vo.ownBlock = some k → C k = 3 ∧ k ≠ p) ∧
  ∀ w1 w2 vo' (x : List UInt8), w.grownBy w1 none → w1.grownBy w2 vo.ownBlock → zn w2 0 1 vo' x.length (zk x) → (∀ k, vo'.ownBlock = some k → vo.ownBlock = some k ∨ w1.heap.size ≤ k) → zq B C p w (w2.setCell ⟨p, 40, none⟩ vo') { s with out := x } ps := by
 obtain ⟨Tm, To, Tp, pm, po, pp, vt, vo, hs⟩ := h.sm;refine ⟨vo, za hs.blk 40, hs.ou, fun k e => ⟨hs.t3 k e, fun e2 => ?_⟩, fun w1 w2 vo' x g1 g ho hn => ?_⟩
 ·have h1 := hs.t3 k e;rw [e2, hs.cp] at h1;exact absurd h1 (by decide)
 ·obtain ⟨h2, g2⟩ := hs.outs g1 g ho hn;exact ⟨_, h.step g2 ⟨_, _, _, _, _, _, _, _, h2⟩, g2⟩
theorem SR.tabs (h : SR B C p w s ps) : ∃ vt, w.cell? ⟨p, 35, none⟩ = some vt ∧ zn w 0 1 vt s.tabs.length (s.tabs.map Value.bool) ∧ (∀ k, vt.ownBlock = some k → C k = 2 ∧ k ≠ p) ∧
  ∀ w1 w2 vt' (x : List Bool), w.grownBy w1 none → w1.grownBy w2 vt.ownBlock → zn w2 0 1 vt' x.length (x.map Value.bool) → (∀ k, vt'.ownBlock = some k → vt.ownBlock = some k ∨ w1.heap.size ≤ k) → zq B C p w (w2.setCell ⟨p, 35, none⟩ vt') { s with tabs := x } ps := by
 obtain ⟨Tm, To, Tp, pm, po, pp, vt, vo, hs⟩ := h.sm;refine ⟨vt, za hs.blk 35, hs.ta, fun k e => ⟨hs.t2 k e, fun e2 => ?_⟩, fun w1 w2 vt' x g1 g ho hn => ?_⟩
 ·have h1 := hs.t2 k e;rw [e2, hs.cp] at h1;exact absurd h1 (by decide)
 ·obtain ⟨h2, g2⟩ := hs.stops' g1 g ho hn;exact ⟨_, h.step g2 ⟨_, _, _, _, _, _, _, _, h2⟩, g2⟩
theorem SR.tabsIn (h : SR B C p w s ps) {vt : Value} (hc : w.cell? ⟨p, 35, none⟩ = some vt) {x : List Bool} (hl : x.length = s.tabs.length) (g : w.grownBy w' vt.ownBlock) (ho : zn w' 0 1 vt s.tabs.length (x.map Value.bool)) : zq B C p w w' { s with tabs := x } ps := by
 obtain ⟨Tm, To, Tp, pm, po, pp, vt0, vo, hs⟩ := h.sm;have e : w.cell? ⟨p, 35, none⟩ = some vt0 := za hs.blk 35;obtain rfl : vt = vt0 := (by rw [e] at hc; injection hc with hc; exact hc.symm);have K : zar C 2 w w' := .of_gb g (fun k e => .inl (hs.t2 k e));have g' : Pre C w C w' := ⟨K.own (by decide), fun _ hk => .inl hk⟩;exact ⟨C, h.step g' ⟨Tm, To, Tp, pm, po, pp, vt, vo, ⟨fun k hk => Nat.lt_of_lt_of_le (hs.lt k hk) g.size, hs.cp, K.blk hs.blk hs.cp (by decide), K.gm hs.gm hs.t4 (by decide), K.oth hs.go hs.t5 (by decide), K.rest hs.rp hs.t6 (by decide), by show zn w' 0 1 vt x.length _; rw [hl]; exact ho, K.row hs.ou hs.t3 (by decide), hs.t2, hs.t3, hs.t4, hs.t5, hs.t6⟩⟩, g'⟩
theorem SR.parser (h : SR B C p w s ps) : ∃ T q, zch T q w ps ∧ w.cell? ⟨p, 39, none⟩ = some (.pointer (some ⟨q, 0, none⟩)) ∧ (∀ k, T k ≠ 0 → C k = 6) ∧
  ∀ w' T' ps', ze (own T w) w w' → zch T' q w' ps' → (∀ k, T' k ≠ 0 → own T w k) → ∃ C', SR B C' p w' s ps' ∧ Pre C w C' w' ∧ ∀ k, own T w k → T' k = 0 → C' k = 0 := by
 obtain ⟨Tm, To, Tp, pm, po, pp, vt, vo, hs⟩ := h.sm;refine ⟨Tp, pp, hs.rp, za hs.blk 39, hs.t6, fun w' T' ps' hw hg hn => ?_⟩;obtain ⟨h2, n2⟩ := hs.parser' hw hg hn;have K := zar.of_own hw hs.t6;have g2 : Pre C w (reC C 6 T') w' := ⟨K.own (by decide), n2⟩;refine ⟨_, h.step g2 ⟨_, _, _, _, _, _, _, _, h2⟩, g2, fun k hk h0 => ?_⟩;unfold reC;rw [if_neg (by rw [h0]; decide)];by_cases e : C k = 6
 ·rw [if_pos e]
 ·rw [if_neg e];rcases hk with hk | hk
  ·exact absurd (hs.t6 k hk) e
  ·by_cases h1 : C k = 0
   ·exact h1
   ·have := hs.lt k h1; omega
end
end
section
open Go.RowKit
set_option maxRecDepth 100000
def zcJ : List UInt8 := [226, 151, 134, 226, 150, 146, 226, 144, 137, 226, 144, 140, 226, 144, 141, 226, 144, 138, 194, 176, 194, 177, 226, 144, 164, 226, 144, 139, 226, 148, 152, 226, 148, 144, 226, 148, 140, 226, 148, 148, 226, 148, 188, 226, 142, 186, 226, 142, 187, 226, 148, 128, 226, 142, 188, 226, 142, 189, 226, 148, 156, 226, 148, 164, 226, 148, 180, 226, 148, 172, 226, 148, 130, 226, 137, 164, 226, 137, 165, 207, 128, 226, 137, 160, 194, 163, 194, 183]
theorem ze4 : Conv.runesFrom ⟨zcJ.toArray⟩ zcJ.length 0 #[] = (zaC.map (Value.int .i32)).toArray := by kernel_rfl
theorem zjb (w : World) : ∃ (w2 : World) (c : Nat), (convert 9 191 (.string ⟨zcJ.toArray⟩)).run Tryz.prog w = .ok (.slice (some ⟨w.heap.size, 0, none⟩) 31 c) w2 ∧ Below w.heap.size w w2 ∧ ∀ k, k < 31 → w2.cell? ⟨w.heap.size, k, none⟩ = some (.int .i32 (zaC.getD k 0)) := by
 have hrun := run_runes_of_string (P := Tryz.prog) w 9 191 21 ⟨zcJ.toArray⟩ Tryz.underlying9 Tryz.underlying191 Tryz.underlying21 (by rw [show (⟨zcJ.toArray⟩ : ByteArray).size = zcJ.length from rfl, ze4]; decide);rw [show (⟨zcJ.toArray⟩ : ByteArray).size = zcJ.length from rfl, ze4] at hrun;refine ⟨_, _, hrun, Below.alloc (Below.refl w.heap.size w).drew (Nat.le_refl _) _, fun k hk => ?_⟩;have hb : ((w.drew.alloc (.cells ((zaC.map (Value.int .i32)).toArray ++ Array.replicate (grownCap w (zaC.map (Value.int .i32)).toArray.size 0 21 - (zaC.map (Value.int .i32)).toArray.size) (.int .i32 0)) 21)).heap[w.heap.size]?) = _ := heap_alloc_new w.drew _;rw [za hb k, Array.getElem?_append_left (by show k < 31; exact hk)];have : ∀ k : Fin 31, (zaC.map (Value.int .i32)).toArray[k.1]? = some (.int .i32 (zaC.getD k.1 0)) := by
  intro k;have h31 : ∀ n, n < 31 → (zaC.map (Value.int .i32)).toArray[n]? = some (.int .i32 (zaC.getD n 0)) := by
   intro n hn;rw [List.getElem?_toArray, List.getElem?_map, List.getElem?_eq_getElem (show n < zaC.length from hn), List.getD_eq_getElem?_getD, List.getElem?_eq_getElem (show n < zaC.length from hn)]; rfl
  exact h31 k.1 k.2
 exact this ⟨k, hk⟩
theorem zoQ {P : Program} {t e : TypeId} {size : Nat} (ht : P.underlying t = some (.slice e)) (hs : (P.info? e).map (·.size) = some size) (b off n c j : Nat) (hj : j < n) (wx : World) :
  (Instr.indexAt t (.slice (some ⟨b, off, none⟩) n c) (.int .i32 j)).run P wx = .ok (.pointer (some ⟨b, off + j * size, none⟩)) wx := by
 obtain ⟨i, hi, hi2⟩ := Option.map_eq_some_iff.1 hs;have hj' : (0 : Int) ≤ (j : Int) ∧ (j : Int) < (n : Int) := (by omega);simp [Instr.indexAt, asIntOf, run_underlying ht, hj', sizeOf, typeInfo, hi, hi2, zaO];omega
theorem znM (k : Nat) (h : k < 1000) : IntKind.i32.wrap (k : Int) = k := by
 unfold IntKind.wrap;simp [IntKind.bits, IntKind.signed];omega
def Scr.onIf (s : Scr) (b : Bool) : Scr := if b = true then s.on else s
def Scr.fit1 (s : Scr) (b wr : Bool) (w : Int) : Scr := if b = true then (if wr = true then s.on else s.toX (s.cols - w)) else s
def Scr.insIf (s : Scr) (b : Bool) (w : Int) : Scr := if b = true then s.turn (fun g => g.ins s.now.x s.now.y w s.blank) else s
def Scr.past (s : Scr) (b wr : Bool) (w : Int) : Scr := if b = true then { s with now := { s.now with x := s.cols - 1, wait := wr } } else s.toX (s.now.x + w)
theorem zmE (s : Scr) (w : Int) : s.fit w = ((s.onIf (s.now.wait && s.has 1)).calm).fit1 (decide ((s.onIf (s.now.wait && s.has 1)).calm.cols - w < (s.onIf (s.now.wait && s.has 1)).calm.now.x)) (s.has 1) w := by
 unfold Scr.fit Scr.onIf Scr.fit1;dsimp only;generalize (if (s.now.wait && s.has 1) = true then s.on else s).calm = t;by_cases h : t.cols - w < t.now.x
 ·rw [if_pos h, decide_eq_true h, if_pos rfl]
 ·rw [if_neg h, decide_eq_false h]; rfl
theorem zcK (s : Scr) (f : Gr → Gr) : (s.turn f).modes = s.modes := by unfold Scr.turn; cases s.other <;> rfl
theorem zh3 (s : Scr) : s.index.modes = s.modes := by
 unfold Scr.index;split
 ·exact zcK _ _
 ·split <;> rfl
theorem zh4 (s : Scr) : s.on.modes = s.modes := by
 unfold Scr.on;rw [zh3];exact zcK _ _
theorem zjc (s : Scr) (b : Bool) : (s.onIf b).modes = s.modes := by
 unfold Scr.onIf;cases b
 ·rfl
 ·exact zh4 s
theorem zjd (s : Scr) (b wr : Bool) (w : Int) : (s.fit1 b wr w).modes = s.modes := by
 unfold Scr.fit1;cases b
 ·rfl
 ·cases wr
  ·rfl
  ·exact zh4 s
theorem zh5 (s : Scr) (b : Bool) (w : Int) : (s.insIf b w).modes = s.modes := by
 unfold Scr.insIf;cases b
 ·rfl
 ·exact zcK _ _
theorem zov (s : Scr) (q w : Int) : s.lay q w = ((s.insIf (s.has 2) w).turn (fun g => g.put (s.insIf (s.has 2) w).now.x (s.insIf (s.has 2) w).now.y ⟨q, w, (s.insIf (s.has 2) w).now.pen⟩)).past
  (decide (((s.insIf (s.has 2) w).turn (fun g => g.put (s.insIf (s.has 2) w).now.x (s.insIf (s.has 2) w).now.y ⟨q, w, (s.insIf (s.has 2) w).now.pen⟩)).cols ≤ ((s.insIf (s.has 2) w).turn (fun g => g.put (s.insIf (s.has 2) w).now.x (s.insIf (s.has 2) w).now.y ⟨q, w, (s.insIf (s.has 2) w).now.pen⟩)).now.x + w)) (s.has 1) w := by
 have hm : (s.insIf (s.has 2) w).modes = s.modes := zh5 _ _ _;unfold Scr.lay;rw [show (if s.has 2 = true then s.turn (fun g => g.ins s.now.x s.now.y w s.blank) else s) = s.insIf (s.has 2) w from rfl];dsimp only;generalize s.insIf (s.has 2) w = t at *;have hm2 := (zcK t (fun g => g.put t.now.x t.now.y ⟨q, w, t.now.pen⟩)).trans hm;generalize (t.turn fun g => g.put t.now.x t.now.y ⟨q, w, t.now.pen⟩) = u at *;have hw : u.has 1 = s.has 1 := (by unfold Scr.has; rw [hm2]);unfold Scr.past;by_cases h : u.cols ≤ u.now.x + w
 ·rw [if_pos h, decide_eq_true h, if_pos rfl, hw]
 ·rw [if_neg h, decide_eq_false h]; rfl
set_option maxHeartbeats 4000000 in
theorem zfI {B : World} {C : Nat → Nat} {p c r : Nat} {w : World} {s : Scr} {ps : PSt} (h : SR B C p w s ps) (hok : s.Ok c r) (r0 : Int) (hr : -2147483648 ≤ r0 ∧ r0 ≤ 2147483647) :
  Calls Tryz.prog 108 #[.pointer (some ⟨p, 0, none⟩), .int .i32 r0] w fun e w' => e = .returned (.tuple #[]) ∧ zq B C p w w' (s.print r0) ps := by
 have HR := Lib.hid h;have HOK := Lib.hid hok;have HN := Lib.hid (h.nums hok);have c7 : w.cell? ⟨p, 7, none⟩ = some (.bool s.now.l0) := h.at_ 7 _;have c8 : w.cell? ⟨p, 8, none⟩ = some (.bool s.now.l1) := h.at_ 8 _;have c9 : w.cell? ⟨p, 9, none⟩ = some (.int .i64 s.now.second) := h.at_ 9 _;have hsec := hok.now.sec;have HDR := Lib.hid (show s.drawn r0 = if (if s.now.second = 0 then s.now.l0 else s.now.l1) = true ∧ 96 ≤ r0 ∧ r0 ≤ 126 then zaC.getD (r0 - 96).toNat 0 else r0 from rfl);clear h hok;go_enter Tryz.func108, Tryz.ntmps108;go_upto_region 1 with fail;have hr1 := hr.1
 go_cut [27] (fun v wz => (∃ b, v = .bool b ∧ Hid (b = true ↔ (if s.now.second = 0 then s.now.l0 else s.now.l1) = true ∧ 96 ≤ r0 ∧ r0 ≤ 126)) ∧ Hid (Below w.heap.size w wz))
 case first =>
  rcases hsec with h0 | h0
  ·rw [h0] at c9;have HL := Lib.hid (show (if s.now.second = 0 then s.now.l0 else s.now.l1) = s.now.l0 by rw [h0]; rfl);clear h0;cases hL : s.now.l0
   ·have HE := HL.out.trans hL;rw [hL] at c7;go_quiet (fail);go_wp2_with fail;go_meet;exact ⟨⟨_, rfl, Lib.hid (by rw [HE]; exact ⟨fun e => (by cases e), fun e => (by cases e.1)⟩)⟩, Lib.hid (zg (Below.refl _ _) _)⟩
   ·have HE := HL.out.trans hL;rw [hL] at c7;by_cases h1 : 96 ≤ r0
    ·have d1 : decide (96 ≤ r0) = true := decide_eq_true h1;by_cases h2 : r0 ≤ 126
     ·have d2 : decide (r0 ≤ 126) = true := decide_eq_true h2;go_quiet (fail);go_wp2_with fail;go_meet;exact ⟨⟨_, rfl, Lib.hid (by rw [HE]; exact ⟨fun _ => ⟨rfl, h1, h2⟩, fun _ => rfl⟩)⟩, Lib.hid (zg (Below.refl _ _) _)⟩
     ·have d2 : decide (r0 ≤ 126) = false := decide_eq_false h2;go_quiet (fail);go_wp2_with fail;go_meet;exact ⟨⟨_, rfl, Lib.hid (by rw [HE]; exact ⟨fun e => (by cases e), fun e => absurd e.2.2 (by omega)⟩)⟩, Lib.hid (zg (Below.refl _ _) _)⟩
    ·have d1 : decide (96 ≤ r0) = false := decide_eq_false h1;go_quiet (fail);go_wp2_with fail;go_meet;exact ⟨⟨_, rfl, Lib.hid (by rw [HE]; exact ⟨fun e => (by cases e), fun e => absurd e.2.1 (by omega)⟩)⟩, Lib.hid (zg (Below.refl _ _) _)⟩
  ·rw [h0] at c9;have HL := Lib.hid (show (if s.now.second = 0 then s.now.l0 else s.now.l1) = s.now.l1 by rw [h0]; rfl);clear h0;cases hL : s.now.l1
   ·have HE := HL.out.trans hL;rw [hL] at c8;go_quiet (fail);go_wp2_with fail;go_meet;exact ⟨⟨_, rfl, Lib.hid (by rw [HE]; exact ⟨fun e => (by cases e), fun e => (by cases e.1)⟩)⟩, Lib.hid (zg (Below.refl _ _) _)⟩
   ·have HE := HL.out.trans hL;rw [hL] at c8;by_cases h1 : 96 ≤ r0
    ·have d1 : decide (96 ≤ r0) = true := decide_eq_true h1;by_cases h2 : r0 ≤ 126
     ·have d2 : decide (r0 ≤ 126) = true := decide_eq_true h2;go_quiet (fail);go_wp2_with fail;go_meet;exact ⟨⟨_, rfl, Lib.hid (by rw [HE]; exact ⟨fun _ => ⟨rfl, h1, h2⟩, fun _ => rfl⟩)⟩, Lib.hid (zg (Below.refl _ _) _)⟩
     ·have d2 : decide (r0 ≤ 126) = false := decide_eq_false h2;go_quiet (fail);go_wp2_with fail;go_meet;exact ⟨⟨_, rfl, Lib.hid (by rw [HE]; exact ⟨fun e => (by cases e), fun e => absurd e.2.2 (by omega)⟩)⟩, Lib.hid (zg (Below.refl _ _) _)⟩
    ·have d1 : decide (96 ≤ r0) = false := decide_eq_false h1;go_quiet (fail);go_wp2_with fail;go_meet;exact ⟨⟨_, rfl, Lib.hid (by rw [HE]; exact ⟨fun e => (by cases e), fun e => absurd e.2.1 (by omega)⟩)⟩, Lib.hid (zg (Below.refl _ _) _)⟩
 case rest =>
 obtain ⟨⟨b, rfl, HBB⟩, HB1⟩ := hcut;clear c7 c8 c9 hsec;have HR1 := Lib.hid (HR.out.below HB1.out);obtain ⟨w1, hw1⟩ : ∃ z, z = wc := ⟨wc, rfl⟩;subst hw1;go_upto_if 27 with fail
 go_cut [4] (fun v wz => v = .int .i32 (s.drawn r0) ∧ Hid (Below w.heap.size w wz))
 case first =>
  cases b
  ·have HD := Lib.hid (show s.drawn r0 = r0 by rw [HDR.out, if_neg (fun e => by have := HBB.out.2 e; cases this)]);go_wp2_with fail;go_meet;exact ⟨by rw [HD.out], HB1⟩
  ·obtain ⟨_, hb1, hb2⟩ := HBB.out.1 rfl;have HD := Lib.hid (show s.drawn r0 = zaC.getD (r0 - 96).toNat 0 by rw [HDR.out, if_pos (HBB.out.1 rfl)]);go_upto_region 3 with fail;rw [show (List.append [226, 151, 134, 226, 150, 146, 226, 144, 137, 226, 144, 140, 226, 144, 141, 226, 144, 138, 194, 176, 194, 177, 226, 144, 164, 226, 144, 139, 226, 148, 152, 226, 148, 144, 226, 148, 140, 226, 148, 148, 226, 148, 188, 226] [142, 186, 226, 142, 187, 226, 148, 128, 226, 142, 188, 226, 142, 189, 226, 148, 156, 226, 148, 164, 226, 148, 180, 226, 148, 172, 226, 148, 130, 226, 137, 164, 226, 137, 165, 207, 128, 226, 137, 160, 194, 163, 194, 183]) = zcJ from rfl];obtain ⟨w2, cc, hcv, bcv, hrd⟩ := zjb w1;obtain ⟨k, hk⟩ : ∃ k : Nat, r0 - 96 = k := ⟨(r0 - 96).toNat, by omega⟩;have hwi : IntKind.i32.wrap (r0 - 96) = (k : Int) := (by rw [hk]; exact znM k (by omega));have hix := zoQ (P := Tryz.prog) (size := 1) Tryz.underlying191 (by kernel_rfl) w1.heap.size 0 31 cc k (by omega);have hrk := hrd k (by omega);have HK := Lib.hid hk;have HB2 := Lib.hid (HB1.out.trans (bcv.mono HB1.out.size));clear hk hrd bcv hb1 hb2;go_wp2_with fail;go_meet;exact ⟨by rw [HD.out, HK.out, Int.toNat_natCast, List.getD_eq_getElem?_getD], HB2⟩
 case rest =>
 obtain ⟨rfl, HB2⟩ := hcut;have h := HR.out.below HB2.out;have hok := HOK.out;have hcr : -2147483648 ≤ s.drawn r0 ∧ s.drawn r0 ≤ 2147483647 := by
  by_cases hx : (if s.now.second = 0 then s.now.l0 else s.now.l1) = true ∧ 96 ≤ r0 ∧ r0 ≤ 126
  ·rw [HDR.out, if_pos hx];obtain ⟨_, hx1, hx2⟩ := hx;have hk : (r0 - 96).toNat < 31 := (by omega);have : ∀ k : Fin 31, 0 ≤ zaC.getD k.1 0 ∧ zaC.getD k.1 0 ≤ 100000 := (by decide +kernel);have := this ⟨_, hk⟩;dsimp only at this;omega
  ·rw [HDR.out, if_neg hx]; exact hr
 have HCR := Lib.hid hcr;have HPR := Lib.hid (show s.print r0 = if wid (s.drawn r0) < 1 ∨ s.cols < wid (s.drawn r0) then s else { (s.fit (wid (s.drawn r0))).lay (s.drawn r0) (wid (s.drawn r0)) with last := r0 } from rfl);clear HBB HB1 HR1 HDR hcr;generalize s.drawn r0 = ch at *;go_wp2_with fail;refine (zcv ch wc).mono ?_;rintro e w3 ⟨rfl, b3⟩;have HB3 := Lib.hid (HB2.out.trans (b3.mono HB2.out.size));have HWR := Lib.hid (zm5 ch);replace h := h.below b3;have HR := Lib.hid h;have HC := Lib.hid (ZS h);clear b3 h;by_cases hw1 : wid ch < 1
 ·have d1 : decide (wid ch < 1) = true := decide_eq_true hw1;have HD := Lib.hid (show zq B C p w w3 (s.print r0) ps by rw [HPR.out, if_pos (.inl hw1)]; exact ⟨C, HR.out, (Pre.refl _ _).below HB3.out⟩);clear hw1;go_wp2_with fail;refine ZE rfl rfl ?_;exact ⟨rfl, HD.out⟩
 have d1 : decide (wid ch < 1) = false := decide_eq_false hw1;by_cases hw2 : (s.main.cols : Int) < wid ch
 ·have d2 : decide ((s.main.cols : Int) < wid ch) = true := decide_eq_true hw2;have HD := Lib.hid (show zq B C p w w3 (s.print r0) ps by rw [HPR.out, if_pos (.inr hw2)]; exact ⟨C, HR.out, (Pre.refl _ _).below HB3.out⟩);clear hw1 hw2;go_wp2_with fail;refine HC.out.mono ?_;rintro e w4 ⟨rfl, rfl⟩;go_wp2_with fail;refine ZE rfl rfl ?_;exact ⟨rfl, HD.out⟩
 have d2 : decide ((s.main.cols : Int) < wid ch) = false := decide_eq_false hw2;have HPR := Lib.hid (show s.print r0 = { (s.fit (wid ch)).lay ch (wid ch) with last := r0 } by rw [HPR.out, if_neg (fun e => by rcases e with e | e; exact hw1 e; exact hw2 e)]);have HW := Lib.hid (show 1 ≤ wid ch ∧ wid ch ≤ 2 ∧ wid ch ≤ (s.main.cols : Int) from ⟨by omega, HWR.out, by omega⟩);have HP3 := Lib.hid ((Pre.refl C w).below HB3.out);clear hw1 hw2 HWR;obtain ⟨W, hW⟩ : ∃ W, W = wid ch := ⟨_, rfl⟩;rw [← hW] at HPR HW d1 d2 ⊢;have HWE := Lib.hid hW;clear hW;go_wp2_with fail;refine HC.out.mono ?_;rintro e w4 ⟨rfl, rfl⟩;go_wp2_with fail;refine (zaI HR.out 1).mono ?_;rintro e w4 ⟨rfl, rfl⟩;obtain ⟨wr, hwr⟩ : ∃ wr, wr = s.has 1 := ⟨_, rfl⟩;rw [← hwr];have HWRP := Lib.hid hwr;clear hwr HC;have c2 : w4.cell? ⟨p, 2, none⟩ = some (.bool s.now.wait) := HR.out.at_ 2 _;go_upto_region 7 with fail
 go_cut [53] (fun v wz => v = .bool (s.now.wait && wr) ∧ wz = w4)
 case first =>
  cases hwt : s.now.wait
  ·rw [hwt] at c2;go_wp2_with fail;go_meet;exact ⟨by rw [hwt]; rfl, rfl⟩
  ·rw [hwt] at c2;go_wp2_with fail;go_meet;exact ⟨by rw [hwt]; rfl, rfl⟩
 case rest =>
 obtain ⟨rfl, hwz⟩ := hcut;subst hwz;obtain ⟨w4, rfl⟩ : ∃ z, z = wc := ⟨wc, rfl⟩;obtain ⟨b1, hb1⟩ : ∃ b1, b1 = (s.now.wait && wr) := ⟨_, rfl⟩;rw [← hb1];have HB1 := Lib.hid hb1;clear hb1 c2;go_upto_if 53 with fail
 go_cut [] (fun wz => ∃ C1, Hid (SR B C1 p wz (s.onIf b1) ps) ∧ Hid (Pre C w C1 wz))
 case first =>
  cases b1
  ·go_wp2_with fail;go_meet;exact ⟨C, HR, HP3⟩
  ·go_wp2_with fail;refine (zj0 HR.out HOK.out).mono ?_;rintro e w5 ⟨rfl, C5, h5, p5⟩;have H5 := Lib.hid h5;have P5 := Lib.hid (HP3.out.trans p5);clear h5 p5;go_wp2_with fail;go_meet;exact ⟨C5, H5, P5⟩
 case rest =>
 obtain ⟨C1, H1, P1⟩ := hcut;obtain ⟨w5, rfl⟩ : ∃ z, z = wc := ⟨wc, rfl⟩;have HCC := Lib.hid (HN.out.ok HOK.out).1;have HC1 := Lib.hid HN.out.c1;have HC2 := Lib.hid HN.out.c2;have HO1 := Lib.hid (show (s.onIf b1).Ok c r by
  unfold Scr.onIf;cases b1
  ·exact HOK.out
  ·exact HOK.out.on (by rw [HCC.out]; exact HC1.out))
 have HF1 := Lib.hid (show ∀ t, t = s.onIf b1 → s.fit W = (t.calm).fit1 (decide (t.calm.cols - W < t.calm.now.x)) wr W from fun t ht => by rw [ht, zmE, HB1.out, HWRP.out]);generalize s.onIf b1 = s1 at *;replace HF1 := Lib.hid (HF1.out s1 rfl);have c2 : w5.cell? ⟨p, 2, none⟩ = some (.bool s1.now.wait) := H1.out.at_ 2 _;have f2 := H1.out.fz 2;go_upto_region 10 with fail;obtain ⟨h2, g2⟩ := H1.out.set 2 (.bool false) s1.calm;have H2 := Lib.hid h2;have P2 := Lib.hid (P1.out.trans g2);have HO2 := Lib.hid HO1.out.calm;clear h2 g2 c2 f2 H1 P1 HR HP3;generalize w5.setCell ⟨p, 2, none⟩ (.bool false) = w6 at *;generalize s1.calm = s2 at *;have c0 : w6.cell? ⟨p, 0, none⟩ = some (.int .i64 s2.now.x) := H2.out.at_ 0 _;have HM2 := Lib.hid (show s2.main.cols = s.main.cols from HO2.out.main.1.trans HCC.out);have HC6 := Lib.hid (fun w' hb => show Calls Tryz.prog 93 #[.pointer (some ⟨p, 0, none⟩)] w' (fun e w'' => e = .returned (.int .i64 s.main.cols) ∧ w'' = w') by
  have := ZS (H2.out.below (w' := w') hb);rw [HM2.out] at this;exact this)
 have hww : IntKind.i64.wrap ((s.main.cols : Int) - W) = (s.main.cols : Int) - W := (by have := HW.out; have := HC2.out; exact zb _ (by omega) (by omega));go_quiet (first | (go_at_call 93; exact Calls.quiet_of_same (HC6.out _ (zg (Below.refl _ _) _))));have HB7 := Lib.hid (zg (Below.refl w6.heap.size w6) nq);have H3 := Lib.hid (H2.out.below HB7.out);have P3 := Lib.hid (P2.out.below HB7.out);generalize w6.drewN nq = w7 at *;obtain ⟨b2, hb2⟩ : ∃ b2, b2 = decide ((s.main.cols : Int) - W < s2.now.x) := ⟨_, rfl⟩;rw [← hb2];have HF2 := Lib.hid (show s.fit W = s2.fit1 b2 wr W by rw [HF1.out, hb2]; unfold Scr.cols; rw [HM2.out]);clear hb2 H2 P2 HF1 c0;have HC7 := Lib.hid (HC6.out _ HB7.out);have c0 : w7.cell? ⟨p, 0, none⟩ = some (.int .i64 s2.now.x) := H3.out.at_ 0 _;have f0 := H3.out.fz 0;go_upto_if 69 with fail
 go_cut [] (fun wz => ∃ C2, Hid (SR B C2 p wz (s2.fit1 b2 wr W) ps) ∧ Hid (Pre C w C2 wz))
 case first =>
  cases b2
  ·go_wp2_with fail;go_meet;exact ⟨C1, H3, P3⟩
  ·cases wr
   ·obtain ⟨h4, g4⟩ := H3.out.set 0 (.int .i64 ((s.main.cols : Int) - W)) (s2.toX ((s.main.cols : Int) - W));have H4 := Lib.hid (show SR B C1 p _ (s2.fit1 true false W) ps by
     have e : s2.fit1 true false W = s2.toX ((s.main.cols : Int) - W) := (by show s2.toX (s2.cols - W) = _; unfold Scr.cols; rw [HM2.out]);rw [e]; exact h4)
    have P4 := Lib.hid (P3.out.trans g4);clear h4 g4;go_wp2_with fail;refine HC7.out.mono ?_;rintro e w8 ⟨rfl, rfl⟩;go_wp2_with fail;go_meet;exact ⟨C1, H4, P4⟩
   ·go_wp2_with fail;refine (zj0 H3.out HO2.out).mono ?_;rintro e w8 ⟨rfl, C5, h5, p5⟩;have H5 := Lib.hid h5;have P5 := Lib.hid (P3.out.trans p5);clear h5 p5;go_wp2_with fail;go_meet;exact ⟨C5, H5, P5⟩
 case rest =>
 obtain ⟨C2, H4, P4⟩ := hcut;obtain ⟨w8, rfl⟩ : ∃ z, z = wc := ⟨wc, rfl⟩;have HW2 := Lib.hid (show W ≤ (c : Int) by have := HW.out; have := HCC.out; omega);have HO4 := Lib.hid (show (s2.fit1 b2 wr W).Ok c r by rw [← HF2.out]; exact (HOK.out.fit (by rw [HCC.out]; exact HC1.out) W HW.out.1 HW2.out).1);have HMO := Lib.hid (show (s2.fit1 b2 wr W).has 1 = wr by
  rw [← HF2.out, HWRP.out, zmE]; unfold Scr.has; rw [zjd];exact congrArg (fun m => zee m 1 != 0) (zjc _ _))
 clear HC6 HC7 H3 P3 HM2 HO2 HO1 c0 f0 HB7 hww;have HPR2 := Lib.hid (show s.print r0 = { (s2.fit1 b2 wr W).lay ch W with last := r0 } by rw [HPR.out, HF2.out]);clear HPR HF2;generalize s2.fit1 b2 wr W = s3 at *;go_wp2_with fail;refine (zaI H4.out 2).mono ?_;rintro e w9 ⟨rfl, rfl⟩;obtain ⟨b3, hb3⟩ : ∃ b3, b3 = s3.has 2 := ⟨_, rfl⟩;rw [← hb3];have HLA := Lib.hid (zov s3 ch W);rw [← hb3] at HLA;clear hb3;go_upto_if 82 with fail
 go_cut [] (fun wz => ∃ C3, Hid (SR B C3 p wz (s3.insIf b3 W) ps) ∧ Hid (Pre C w C3 wz))
 case first =>
  cases b3
  ·go_wp2_with fail;go_meet;exact ⟨C2, H4, P4⟩
  ·have c0 : w9.cell? ⟨p, 0, none⟩ = some (.int .i64 s3.now.x) := H4.out.at_ 0 _;have c1 : w9.cell? ⟨p, 1, none⟩ = some (.int .i64 s3.now.y) := H4.out.at_ 1 _;have HR := H4;obtain ⟨T, q, hg, hq, hk⟩ := H4.out.grid;have HG := Lib.hid hg;have HQ := Lib.hid hq;have HK := Lib.hid hk;have HRI := Lib.hid (H4.out.blankR HO4.out);clear hg hq hk;go_upto_region 15 with fail
   go_region_held3 (fun w' => w'.cell? ⟨p, 0, none⟩ = some (.int .i64 s3.now.x) ∧ w'.cell? ⟨p, 1, none⟩ = some (.int .i64 s3.now.y)) (first | exact ⟨c0, c1⟩ | exact ⟨z0, z1⟩)
    (first
     | (go_at_call 69; refine (zL (w := w9.drew) HQ.out).mono ?_; rintro e w4 ⟨rfl, rfl⟩)
     | (go_at_call 155; refine (Zv (HR.out.below (Below.refl _ _).drew)).mono ?_; rintro e w5 ⟨rfl, b5⟩; have HB5 := Lib.hid ((Below.refl w9.heap.size w9).drew.trans b5); have z0 := zc b5 c0; have z1 := zc b5 c1; clear b5)
     | (go_at_call 154; refine (zjT (HG.out.below HB5.out) _ _ _ _ (HRI.out.below HB5.out)).mono ?_; rintro e w6 ⟨rfl, hw6, g6⟩; obtain ⟨d6, hb6⟩ := HK.out _ _ _ (fun g => g.ins s3.now.x s3.now.y W s3.blank) HB5.out hw6 g6 (fun k hk => .inl hk); have HD := Lib.hid d6; have z0 := (zv hb6 0).trans c0; have z1 := (zv hb6 1).trans c1; clear hw6 g6 hb6 d6))
   obtain ⟨C5, h5, p5⟩ := HD.out;have H5 := Lib.hid h5;have P5 := Lib.hid (P4.out.trans p5);clear h5 p5 z0 z1;go_wp2_with fail;go_meet;exact ⟨C5, H5, P5⟩
 case rest =>
 obtain ⟨C3, H5, P5⟩ := hcut;obtain ⟨w9, rfl⟩ : ∃ z, z = wc := ⟨wc, rfl⟩;have HO5 := Lib.hid (show (s3.insIf b3 W).Ok c r by
  unfold Scr.insIf;cases b3
  ·exact HO4.out
  ·exact HO4.out.turn _ fun g hg => zfB hg _ _ _ _)
 clear H4 P4 HO4;have HLB := Lib.hid (show ∀ t, t = s3.insIf b3 W → s3.lay ch W = (t.turn (fun g => g.put t.now.x t.now.y ⟨ch, W, t.now.pen⟩)).past (decide ((t.turn (fun g => g.put t.now.x t.now.y ⟨ch, W, t.now.pen⟩)).cols ≤ (t.turn (fun g => g.put t.now.x t.now.y ⟨ch, W, t.now.pen⟩)).now.x + W)) wr W from fun t ht => by rw [ht, HLA.out, HMO.out]);generalize s3.insIf b3 W = s5 at *;replace HLB := Lib.hid (HLB.out s5 rfl);have c0 : w9.cell? ⟨p, 0, none⟩ = some (.int .i64 s5.now.x) := H5.out.at_ 0 _;have c1 : w9.cell? ⟨p, 1, none⟩ = some (.int .i64 s5.now.y) := H5.out.at_ 1 _;have c3 : w9.cell? ⟨p, 3, none⟩ = some (.int .i64 s5.now.pen.fg) := H5.out.at_ 3 _;have c4 : w9.cell? ⟨p, 4, none⟩ = some (.int .i64 s5.now.pen.bg) := H5.out.at_ 4 _;have c5 : w9.cell? ⟨p, 5, none⟩ = some (.int .i64 s5.now.pen.attr) := H5.out.at_ 5 _;have HR := H5;obtain ⟨T, q, hg, hq, hk⟩ := H5.out.grid;have HG := Lib.hid hg;have HQ := Lib.hid hq;have HK := Lib.hid hk;have HPEN := Lib.hid (H5.out.right s5.now.pen (zeC HO5.out.now.pen).1 (zeC HO5.out.now.pen).2);clear hg hq hk;go_upto_region 16 with fail
 go_region_held3 (fun w' => w'.cell? ⟨p, 0, none⟩ = some (.int .i64 s5.now.x) ∧ w'.cell? ⟨p, 1, none⟩ = some (.int .i64 s5.now.y) ∧ w'.cell? ⟨p, 3, none⟩ = some (.int .i64 s5.now.pen.fg) ∧ w'.cell? ⟨p, 4, none⟩ = some (.int .i64 s5.now.pen.bg) ∧ w'.cell? ⟨p, 5, none⟩ = some (.int .i64 s5.now.pen.attr)) (first | exact ⟨c0, c1, c3, c4, c5⟩ | exact ⟨z0, z1, z2, z3, z4⟩)
  (first
   | (go_at_call 69; refine (zL (w := w9.drew) HQ.out).mono ?_; rintro e w4 ⟨rfl, rfl⟩)
   | (go_at_call 156; refine (zkd (HG.out.below (Below.refl _ _).drew) s5.now.x s5.now.y ⟨ch, W, s5.now.pen⟩ (HPEN.out.below (Below.refl _ _).drew) HCR.out).mono ?_; rintro e w6 ⟨rfl, hw6, g6⟩; obtain ⟨d6, hb6⟩ := HK.out _ _ _ (fun g => g.put s5.now.x s5.now.y ⟨ch, W, s5.now.pen⟩) (Below.refl _ _).drew hw6 g6 (fun k hk => .inl hk); have HD := Lib.hid d6; have z0 := (zv hb6 0).trans c0; have z1 := (zv hb6 1).trans c1; have z2 := (zv hb6 3).trans c3; have z3 := (zv hb6 4).trans c4; have z4 := (zv hb6 5).trans c5; clear hw6 g6 hb6 d6))
 obtain ⟨C4, h6, p6⟩ := HD.out;have H6 := Lib.hid h6;have P6 := Lib.hid (P5.out.trans p6);have HO6 := Lib.hid (show (s5.turn (fun g => g.put s5.now.x s5.now.y ⟨ch, W, s5.now.pen⟩)).Ok c r from HO5.out.turn _ fun g hg => zfA hg _ _ _);clear h6 p6 H5 P5 HR HG HQ HK HPEN z0 z1 z2 z3 z4 HD HO5 c0 c1 c3 c4 c5;have HN6 := Lib.hid (show (s5.turn (fun g => g.put s5.now.x s5.now.y ⟨ch, W, s5.now.pen⟩)).now.x = s5.now.x by rw [zcf]);generalize s5.turn (fun g => g.put s5.now.x s5.now.y ⟨ch, W, s5.now.pen⟩) = s6 at *;have c0 : w6.cell? ⟨p, 0, none⟩ = some (.int .i64 s6.now.x) := H6.out.at_ 0 _;have f0 := H6.out.fz 0;have HM6 := Lib.hid (show s6.main.cols = s.main.cols from HO6.out.main.1.trans HCC.out);have HX6 := Lib.hid (show 0 ≤ s6.now.x ∧ s6.now.x ≤ 250 from ⟨HO6.out.now.x0, by have := HO6.out.now.x1; have := HCC.out; have := HC2.out; omega⟩);have hwx : IntKind.i64.wrap (s6.now.x + W) = s6.now.x + W := (by have := HX6.out; have := HW.out; exact zb _ (by omega) (by omega));have hwx5 : IntKind.i64.wrap (s5.now.x + W) = s6.now.x + W := (by rw [← HN6.out]; exact hwx);obtain ⟨h7, g7⟩ := H6.out.set 0 (.int .i64 (s6.now.x + W)) (s6.toX (s6.now.x + W));have H7 := Lib.hid h7;have P7 := Lib.hid (P6.out.trans g7);clear h7 g7;go_upto_region 18 with fail;generalize w6.setCell ⟨p, 0, none⟩ (.int .i64 (s6.now.x + W)) = w10 at *;clear c0 f0 H6 P6;have c0 : w10.cell? ⟨p, 0, none⟩ = some (.int .i64 (s6.now.x + W)) := H7.out.at_ 0 _;have HC8 := Lib.hid (fun w' hb => show Calls Tryz.prog 93 #[.pointer (some ⟨p, 0, none⟩)] w' (fun e w'' => e = .returned (.int .i64 s.main.cols) ∧ w'' = w') by
  have := ZS (H7.out.below (w' := w') hb);rw [show (s6.toX (s6.now.x + W)).main.cols = s.main.cols from HM6.out] at this;exact this)
 go_quiet (first | (go_at_call 93; exact Calls.quiet_of_same (HC8.out _ (zg (Below.refl _ _) _))));have HB11 := Lib.hid (zg (Below.refl w10.heap.size w10) nq);have H8 := Lib.hid (H7.out.below HB11.out);have P8 := Lib.hid (P7.out.below HB11.out);have HC9 := Lib.hid (HC8.out _ HB11.out);generalize w10.drewN nq = w11 at *;clear c0 HC8 H7 P7;have c0 : w11.cell? ⟨p, 0, none⟩ = some (.int .i64 (s6.now.x + W)) := H8.out.at_ 0 _;have c2 : w11.cell? ⟨p, 2, none⟩ = some (.bool s6.now.wait) := H8.out.at_ 2 _;have c37 : w11.cell? ⟨p, 37, none⟩ = some (.int .i32 s6.last) := H8.out.at_ 37 _;have f0 := H8.out.fz 0;have f2 := H8.out.fz 2;have f37 := H8.out.fz 37;have hwc : IntKind.i64.wrap ((s.main.cols : Int) - 1) = (s.main.cols : Int) - 1 := (by have := HC1.out; have := HC2.out; exact zb _ (by omega) (by omega));obtain ⟨b5, hb5⟩ : ∃ b5, b5 = decide ((s.main.cols : Int) ≤ s6.now.x + W) := ⟨_, rfl⟩;rw [← hb5];have HB5 := Lib.hid hb5.symm;clear hb5;cases b5;rotate_left
 ·have d5 := HB5;obtain ⟨h9, g9⟩ := H8.out.set 0 (.int .i64 ((s.main.cols : Int) - 1)) (s6.toX ((s.main.cols : Int) - 1));obtain ⟨h10, g10⟩ := h9.set 2 (.bool wr) { s6 with now := { s6.now with x := (s.main.cols : Int) - 1, wait := wr } };obtain ⟨h11, g11⟩ := h10.set 37 (.int .i32 r0) { s6 with now := { s6.now with x := (s.main.cols : Int) - 1, wait := wr }, last := r0 };have HD := Lib.hid (show zq B C p w _ (s.print r0) ps by
   rw [HPR2.out, HLB.out, show s6.cols = (s.main.cols : Int) by unfold Scr.cols; rw [HM6.out], d5.out];refine ⟨_, ?_, P8.out.trans ((g9.trans g10).trans g11)⟩;have e : s6.past true wr W = { s6 with now := { s6.now with x := (s.main.cols : Int) - 1, wait := wr } } := by
    show ({ s6 with now := { s6.now with x := s6.cols - 1, wait := wr } } : Scr) = _;unfold Scr.cols; rw [HM6.out]
   rw [e];exact h11)
  clear h9 g9 h10 g10 h11 g11;go_wp2_with fail;refine HC9.out.mono ?_;rintro e w12 ⟨rfl, rfl⟩;go_wp2_with fail;go_end0;exact ⟨rfl, HD.out⟩
 ·have d5 := HB5;obtain ⟨h11, g11⟩ := H8.out.set 37 (.int .i32 r0) { s6.toX (s6.now.x + W) with last := r0 };have HD := Lib.hid (show zq B C p w _ (s.print r0) ps by
   rw [HPR2.out, HLB.out, show s6.cols = (s.main.cols : Int) by unfold Scr.cols; rw [HM6.out], d5.out];exact ⟨_, h11, P8.out.trans g11⟩)
  clear h11 g11;go_wp2_with fail;go_end0;exact ⟨rfl, HD.out⟩
end
end Go.Proofs.YtlfdgkiliegaiaaGreatDoor
