/- Texts laid together: K6 K15 U8. -/
import Derived.Test.YtlfdgkiliegaiaaGreatDoorY1
import Derived.Test.YtlfdgkiliegaiaaGreatDoorY11
import Derived.Test.YtlfdgkiliegaiaaGreatDoorY12
import Derived.Test.YtlfdgkiliegaiaaGreatDoorY14
import Derived.Test.YtlfdgkiliegaiaaGreatDoorY16
import Derived.Test.YtlfdgkiliegaiaaGreatDoorY17
import Derived.Test.YtlfdgkiliegaiaaGreatDoorY18
import Derived.Test.YtlfdgkiliegaiaaGreatDoorY19
import Derived.Test.YtlfdgkiliegaiaaGreatDoorY2
import Derived.Test.YtlfdgkiliegaiaaGreatDoorY20
import Derived.Test.YtlfdgkiliegaiaaGreatDoorY3
import Derived.Test.YtlfdgkiliegaiaaGreatDoorY4
import Derived.Test.YtlfdgkiliegaiaaGreatDoorY5
import Derived.Test.YtlfdgkiliegaiaaGreatDoorY6
import Derived.Test.YtlfdgkiliegaiaaGreatDoorY8
import Derived.Test.YtlfdgkiliegaiaaGreatDoorY9
import Derived.StillTailTactics
import Derived.Deep.RegionHeld3
import Derived.Deep.MidRow
import Derived.Lib.ItoaLen
import Derived.Test.YtlfdgkiliegaiaaGreatDoorShelf
import Derived.Lib.Builder
import Derived.Lib.FrozenHead
import Derived.Lib.RuneBytes
import Derived.Lib.UnsafeStr
import Derived.Lib.SliceRun
import Derived.WalkSpells
import Derived.Deep.RegionLaw
import Derived.Deep.DeepCutAuto
import Derived.Test.YtlfdgkiliegaiaaGreatDoorRows
import Derived.Deep.AppendSrc
import Derived.Lib.AppendStr
import Derived.ArgAppend
import Derived.Laws.IdiomCopy
import Derived.Laws.IdiomStrings
import Derived.Deep.Upon
import Derived.WalkKit
import Derived.WalkLawsBesides
import Derived.BigQuiet
import Derived.Lib.Hide
import Derived.Deep.QuietTactic
import Derived.Lib.AppendIntMem
import Derived.Lib.ItoaNum
import Derived.Laws.ResultCell
import Derived.Deep.CutBlock
import Derived.Laws.EntriesVeiled
import Derived.Laws.StructEq
import Derived.Deep.DrawnRows
import Derived.Laws.Cover4
import Derived.WalkMore
import Derived.ScopeJumps
import Derived.Lib.SlBytesConst
import Derived.Laws.Bits64b
import Derived.ChangeKeysEq
import Derived.Lib.TrimU
import Derived.ProofKit
import Derived.OpenShut
import Derived.JoinedCond
set_option linter.unusedVariables false
set_option linter.unusedSimpArgs false
namespace Go.Proofs.YtlfdgkiliegaiaaGreatDoor
section
open Go.RowKit
set_option maxRecDepth 100000
theorem zfY {B : World} {C : Nat → Nat} {p c r : Nat} {w : World} {s : Scr} {ps : PSt} (h : SR B C p w s ps) (hok : s.Ok c r) (n : Int) (h0 : 0 ≤ n) (h9 : n ≤ 9999) :
  Calls Tryz.prog 215 #[.pointer (some ⟨p, 0, none⟩), .int .i64 n] w fun e w' => e = .returned (.tuple #[]) ∧ zq B C p w w' (s.place (s.now.x + n) (s.now.y)) ps := by
 have HR := Lib.hid h;obtain ⟨x0, x1, y0, y1, t0, tb, b1, k1, k2, r1, r2, tl, pn⟩ := h.nums hok;have c0 : w.cell? ⟨p, 0, none⟩ = some (.int .i64 s.now.x) := h.at_ 0 _;have c1 : w.cell? ⟨p, 1, none⟩ = some (.int .i64 s.now.y) := h.at_ 1 _;have hw : IntKind.i64.wrap (s.now.x + n) = s.now.x + n := zb _ (by omega) (by omega);clear h hok x0 x1 y0 y1 t0 tb b1 k1 k2 r1 r2 tl pn;go_enter Tryz.func215, Tryz.ntmps215;go_upto_region 0 with fail
 go_still_tail 13, (by kernel_rfl)
 change wpList _ _ _ _ _ w.drew;go_wp2_with fail;refine (Zb (HR.out.below (Below.refl _ _).drew) (s.now.x + n) (s.now.y)).mono ?_;rintro e w6 ⟨rfl, d6⟩;have HD6 := Lib.hid (zq.after ((Pre.refl _ _).below (Below.refl _ _).drew) d6);clear d6;go_wp2_with fail;go_end0;refine ⟨rfl, ?_⟩;exact HD6.out
theorem zle {B : World} {C : Nat → Nat} {p c r : Nat} {w : World} {s : Scr} {ps : PSt} (h : SR B C p w s ps) (hok : s.Ok c r) (n : Int) (h0 : 0 ≤ n) (h9 : n ≤ 9999) :
  Calls Tryz.prog 216 #[.pointer (some ⟨p, 0, none⟩), .int .i64 n] w fun e w' => e = .returned (.tuple #[]) ∧ zq B C p w w' (s.place (s.now.x - n) (s.now.y)) ps := by
 have HR := Lib.hid h;obtain ⟨x0, x1, y0, y1, t0, tb, b1, k1, k2, r1, r2, tl, pn⟩ := h.nums hok;have c0 : w.cell? ⟨p, 0, none⟩ = some (.int .i64 s.now.x) := h.at_ 0 _;have c1 : w.cell? ⟨p, 1, none⟩ = some (.int .i64 s.now.y) := h.at_ 1 _;have hw : IntKind.i64.wrap (s.now.x - n) = s.now.x - n := zb _ (by omega) (by omega);clear h hok x0 x1 y0 y1 t0 tb b1 k1 k2 r1 r2 tl pn;go_enter Tryz.func216, Tryz.ntmps216;go_upto_region 0 with fail
 go_still_tail 13, (by kernel_rfl)
 change wpList _ _ _ _ _ w.drew;go_wp2_with fail;refine (Zb (HR.out.below (Below.refl _ _).drew) (s.now.x - n) (s.now.y)).mono ?_;rintro e w6 ⟨rfl, d6⟩;have HD6 := Lib.hid (zq.after ((Pre.refl _ _).below (Below.refl _ _).drew) d6);clear d6;go_wp2_with fail;go_end0;refine ⟨rfl, ?_⟩;exact HD6.out
theorem ze8 {B : World} {C : Nat → Nat} {p c r : Nat} {w : World} {s : Scr} {ps : PSt} (h : SR B C p w s ps) (hok : s.Ok c r) (n : Int) (h0 : 0 ≤ n) (h9 : n ≤ 9999) :
  Calls Tryz.prog 219 #[.pointer (some ⟨p, 0, none⟩), .int .i64 n] w fun e w' => e = .returned (.tuple #[]) ∧ zq B C p w w' (s.place (n - 1) (s.now.y)) ps := by
 have HR := Lib.hid h;obtain ⟨x0, x1, y0, y1, t0, tb, b1, k1, k2, r1, r2, tl, pn⟩ := h.nums hok;have c1 : w.cell? ⟨p, 1, none⟩ = some (.int .i64 s.now.y) := h.at_ 1 _;have hw : IntKind.i64.wrap (n - 1) = n - 1 := zb _ (by omega) (by omega);clear h hok x0 x1 y0 y1 t0 tb b1 k1 k2 r1 r2 tl pn;go_enter Tryz.func219, Tryz.ntmps219;go_wp2_with fail;refine (Zb HR.out (n - 1) (s.now.y)).mono ?_;rintro e w6 ⟨rfl, d6⟩;have HD6 := Lib.hid d6;clear d6;go_wp2_with fail;go_end0;exact ⟨rfl, HD6.out⟩
theorem zj7 {B : World} {C : Nat → Nat} {p c r : Nat} {w : World} {s : Scr} {ps : PSt} (h : SR B C p w s ps) (hok : s.Ok c r) (n : Int) (h0 : 0 ≤ n) (h9 : n ≤ 9999) :
  Calls Tryz.prog 213 #[.pointer (some ⟨p, 0, none⟩), .int .i64 n] w fun e w' => e = .returned (.tuple #[]) ∧ zq B C p w w' (s.place s.now.x (s.upY n)) ps := by
 have HR := Lib.hid h;obtain ⟨x0, x1, y0, y1, t0, tb, b1, k1, k2, r1, r2, tl, pn⟩ := h.nums hok;have c0 : w.cell? ⟨p, 0, none⟩ = some (.int .i64 s.now.x) := h.at_ 0 _;have c1 : w.cell? ⟨p, 1, none⟩ = some (.int .i64 s.now.y) := h.at_ 1 _;have c33 : w.cell? ⟨p, 33, none⟩ = some (.int .i64 s.top) := h.at_ 33 _;have hw3 : IntKind.i64.wrap (s.now.y - s.top) = s.now.y - s.top := zb _ (by omega) (by omega);by_cases hy : s.top ≤ s.now.y
 ·have e1 : decide (s.top ≤ s.now.y) = true := decide_eq_true hy;have HE := Lib.hid (show s.upY n = s.now.y - min n (s.now.y - s.top) by unfold Scr.upY; rw [if_pos hy]);have hw : IntKind.i64.wrap (s.now.y - min n (s.now.y - s.top)) = s.now.y - min n (s.now.y - s.top) := zb _ (by omega) (by omega);clear h hok hy x0 x1 y0 y1 t0 tb b1 k1 k2 r1 r2 tl pn;go_enter Tryz.func213, Tryz.ntmps213;go_upto_region 0 with fail;go_quiet (fail);have HB := Lib.hid (zg (Below.refl w.heap.size w) nq);have h := HR.out.below HB.out;generalize w.drewN nq = wn at *;clear c0 c1 c33;have c0 : wn.cell? ⟨p, 0, none⟩ = some (.int .i64 s.now.x) := h.at_ 0 _;have c1 : wn.cell? ⟨p, 1, none⟩ = some (.int .i64 s.now.y) := h.at_ 1 _;have c33 : wn.cell? ⟨p, 33, none⟩ = some (.int .i64 s.top) := h.at_ 33 _;have HR2 := Lib.hid h;clear h;go_upto_region 1 with fail;go_quiet (fail);have HB2 := Lib.hid (HB.out.trans ((zg (Below.refl wn.heap.size wn) nq).mono HB.out.size));have h := HR2.out.below (zg (Below.refl wn.heap.size wn) nq);generalize wn.drewN nq = wo at *;clear c0 c1 c33;have c0 : wo.cell? ⟨p, 0, none⟩ = some (.int .i64 s.now.x) := h.at_ 0 _;have c1 : wo.cell? ⟨p, 1, none⟩ = some (.int .i64 s.now.y) := h.at_ 1 _;have c33 : wo.cell? ⟨p, 33, none⟩ = some (.int .i64 s.top) := h.at_ 33 _;clear h;go_upto_region 2 with fail
  go_still_tail 13, (by kernel_rfl)
  change wpList _ _ _ _ _ wo.drew;go_wp2_with fail;refine (Zb (HR.out.below (HB2.out.trans ((Below.refl wo.heap.size wo).drew.mono HB2.out.size))) s.now.x (s.now.y - min n (s.now.y - s.top))).mono ?_;rintro e w6 ⟨rfl, d6⟩;have HD6 := Lib.hid (zq.after ((Pre.refl _ _).below (HB2.out.trans ((Below.refl wo.heap.size wo).drew.mono HB2.out.size))) d6);clear d6;go_wp2_with fail;go_end0;refine ⟨rfl, ?_⟩;rw [HE.out];exact HD6.out
 ·have e1 : decide (s.top ≤ s.now.y) = false := decide_eq_false hy;have HE := Lib.hid (show s.upY n = s.now.y - n by unfold Scr.upY; rw [if_neg hy]);have hw : IntKind.i64.wrap (s.now.y - n) = s.now.y - n := zb _ (by omega) (by omega);clear h hok hy x0 x1 y0 y1 t0 tb b1 k1 k2 r1 r2 tl pn;go_enter Tryz.func213, Tryz.ntmps213;go_upto_region 0 with fail;go_quiet (fail);have HB := Lib.hid (zg (Below.refl w.heap.size w) nq);have h := HR.out.below HB.out;generalize w.drewN nq = wn at *;clear c0 c1 c33;have c0 : wn.cell? ⟨p, 0, none⟩ = some (.int .i64 s.now.x) := h.at_ 0 _;have c1 : wn.cell? ⟨p, 1, none⟩ = some (.int .i64 s.now.y) := h.at_ 1 _;have c33 : wn.cell? ⟨p, 33, none⟩ = some (.int .i64 s.top) := h.at_ 33 _;clear h;go_upto_region 2 with fail
  go_still_tail 13, (by kernel_rfl)
  change wpList _ _ _ _ _ wn.drew;go_wp2_with fail;refine (Zb (HR.out.below (HB.out.trans ((Below.refl wn.heap.size wn).drew.mono HB.out.size))) s.now.x (s.now.y - n)).mono ?_;rintro e w6 ⟨rfl, d6⟩;have HD6 := Lib.hid (zq.after ((Pre.refl _ _).below (HB.out.trans ((Below.refl wn.heap.size wn).drew.mono HB.out.size))) d6);clear d6;go_wp2_with fail;go_end0;refine ⟨rfl, ?_⟩;rw [HE.out];exact HD6.out
theorem zeI {B : World} {C : Nat → Nat} {p c r : Nat} {w : World} {s : Scr} {ps : PSt} (h : SR B C p w s ps) (hok : s.Ok c r) (n : Int) (h0 : 0 ≤ n) (h9 : n ≤ 9999) :
  Calls Tryz.prog 214 #[.pointer (some ⟨p, 0, none⟩), .int .i64 n] w fun e w' => e = .returned (.tuple #[]) ∧ zq B C p w w' (s.place s.now.x (s.downY n)) ps := by
 have HR := Lib.hid h;obtain ⟨x0, x1, y0, y1, t0, tb, b1, k1, k2, r1, r2, tl, pn⟩ := h.nums hok;have c0 : w.cell? ⟨p, 0, none⟩ = some (.int .i64 s.now.x) := h.at_ 0 _;have c1 : w.cell? ⟨p, 1, none⟩ = some (.int .i64 s.now.y) := h.at_ 1 _;have c34 : w.cell? ⟨p, 34, none⟩ = some (.int .i64 s.bottom) := h.at_ 34 _;have hw3 : IntKind.i64.wrap (s.bottom - s.now.y) = s.bottom - s.now.y := zb _ (by omega) (by omega);by_cases hy : s.now.y ≤ s.bottom
 ·have e1 : decide (s.now.y ≤ s.bottom) = true := decide_eq_true hy;have HE := Lib.hid (show s.downY n = s.now.y + min n (s.bottom - s.now.y) by unfold Scr.downY; rw [if_pos hy]);have hw : IntKind.i64.wrap (s.now.y + min n (s.bottom - s.now.y)) = s.now.y + min n (s.bottom - s.now.y) := zb _ (by omega) (by omega);clear h hok hy x0 x1 y0 y1 t0 tb b1 k1 k2 r1 r2 tl pn;go_enter Tryz.func214, Tryz.ntmps214;go_upto_region 0 with fail;go_quiet (fail);have HB := Lib.hid (zg (Below.refl w.heap.size w) nq);have h := HR.out.below HB.out;generalize w.drewN nq = wn at *;clear c0 c1 c34;have c0 : wn.cell? ⟨p, 0, none⟩ = some (.int .i64 s.now.x) := h.at_ 0 _;have c1 : wn.cell? ⟨p, 1, none⟩ = some (.int .i64 s.now.y) := h.at_ 1 _;have c34 : wn.cell? ⟨p, 34, none⟩ = some (.int .i64 s.bottom) := h.at_ 34 _;have HR2 := Lib.hid h;clear h;go_upto_region 1 with fail;go_quiet (fail);have HB2 := Lib.hid (HB.out.trans ((zg (Below.refl wn.heap.size wn) nq).mono HB.out.size));have h := HR2.out.below (zg (Below.refl wn.heap.size wn) nq);generalize wn.drewN nq = wo at *;clear c0 c1 c34;have c0 : wo.cell? ⟨p, 0, none⟩ = some (.int .i64 s.now.x) := h.at_ 0 _;have c1 : wo.cell? ⟨p, 1, none⟩ = some (.int .i64 s.now.y) := h.at_ 1 _;have c34 : wo.cell? ⟨p, 34, none⟩ = some (.int .i64 s.bottom) := h.at_ 34 _;clear h;go_upto_region 2 with fail
  go_still_tail 13, (by kernel_rfl)
  change wpList _ _ _ _ _ wo.drew;go_wp2_with fail;refine (Zb (HR.out.below (HB2.out.trans ((Below.refl wo.heap.size wo).drew.mono HB2.out.size))) s.now.x (s.now.y + min n (s.bottom - s.now.y))).mono ?_;rintro e w6 ⟨rfl, d6⟩;have HD6 := Lib.hid (zq.after ((Pre.refl _ _).below (HB2.out.trans ((Below.refl wo.heap.size wo).drew.mono HB2.out.size))) d6);clear d6;go_wp2_with fail;go_end0;refine ⟨rfl, ?_⟩;rw [HE.out];exact HD6.out
 ·have e1 : decide (s.now.y ≤ s.bottom) = false := decide_eq_false hy;have HE := Lib.hid (show s.downY n = s.now.y + n by unfold Scr.downY; rw [if_neg hy]);have hw : IntKind.i64.wrap (s.now.y + n) = s.now.y + n := zb _ (by omega) (by omega);clear h hok hy x0 x1 y0 y1 t0 tb b1 k1 k2 r1 r2 tl pn;go_enter Tryz.func214, Tryz.ntmps214;go_upto_region 0 with fail;go_quiet (fail);have HB := Lib.hid (zg (Below.refl w.heap.size w) nq);have h := HR.out.below HB.out;generalize w.drewN nq = wn at *;clear c0 c1 c34;have c0 : wn.cell? ⟨p, 0, none⟩ = some (.int .i64 s.now.x) := h.at_ 0 _;have c1 : wn.cell? ⟨p, 1, none⟩ = some (.int .i64 s.now.y) := h.at_ 1 _;have c34 : wn.cell? ⟨p, 34, none⟩ = some (.int .i64 s.bottom) := h.at_ 34 _;clear h;go_upto_region 2 with fail
  go_still_tail 13, (by kernel_rfl)
  change wpList _ _ _ _ _ wn.drew;go_wp2_with fail;refine (Zb (HR.out.below (HB.out.trans ((Below.refl wn.heap.size wn).drew.mono HB.out.size))) s.now.x (s.now.y + n)).mono ?_;rintro e w6 ⟨rfl, d6⟩;have HD6 := Lib.hid (zq.after ((Pre.refl _ _).below (HB.out.trans ((Below.refl wn.heap.size wn).drew.mono HB.out.size))) d6);clear d6;go_wp2_with fail;go_end0;refine ⟨rfl, ?_⟩;rw [HE.out];exact HD6.out
theorem zlf {B : World} {C : Nat → Nat} {p c r : Nat} {w : World} {s : Scr} {ps : PSt} (h : SR B C p w s ps) (hok : s.Ok c r) (n : Int) (h0 : 0 ≤ n) (h9 : n ≤ 9999) :
  Calls Tryz.prog 217 #[.pointer (some ⟨p, 0, none⟩), .int .i64 n] w fun e w' => e = .returned (.tuple #[]) ∧ zq B C p w w' ((s.place s.now.x (s.downY n)).toX 0) ps := by
 have HU := Lib.hid (zeI h hok n h0 h9);clear h hok;go_enter Tryz.func217, Tryz.ntmps217;go_wp2_with fail;refine HU.out.mono ?_;rintro e w6 ⟨rfl, d6⟩;obtain ⟨C1, h1, p1⟩ := d6;have c0 : w6.cell? ⟨p, 0, none⟩ = some (.int .i64 (s.place s.now.x (s.downY n)).now.x) := h1.at_ 0 _;have f0 := h1.fz 0;obtain ⟨h2, p2⟩ := h1.set 0 (.int .i64 0) ((s.place s.now.x (s.downY n)).toX 0);have HD := Lib.hid (show zq B C p w _ _ ps from ⟨C1, h2, p1.trans p2⟩);clear h1 p1 h2 p2;go_wp2_with fail;go_end0;exact ⟨rfl, HD.out⟩
theorem zij {B : World} {C : Nat → Nat} {p c r : Nat} {w : World} {s : Scr} {ps : PSt} (h : SR B C p w s ps) (hok : s.Ok c r) (n : Int) (h0 : 0 ≤ n) (h9 : n ≤ 9999) :
  Calls Tryz.prog 218 #[.pointer (some ⟨p, 0, none⟩), .int .i64 n] w fun e w' => e = .returned (.tuple #[]) ∧ zq B C p w w' ((s.place s.now.x (s.upY n)).toX 0) ps := by
 have HU := Lib.hid (zj7 h hok n h0 h9);clear h hok;go_enter Tryz.func218, Tryz.ntmps218;go_wp2_with fail;refine HU.out.mono ?_;rintro e w6 ⟨rfl, d6⟩;obtain ⟨C1, h1, p1⟩ := d6;have c0 : w6.cell? ⟨p, 0, none⟩ = some (.int .i64 (s.place s.now.x (s.upY n)).now.x) := h1.at_ 0 _;have f0 := h1.fz 0;obtain ⟨h2, p2⟩ := h1.set 0 (.int .i64 0) ((s.place s.now.x (s.upY n)).toX 0);have HD := Lib.hid (show zq B C p w _ _ ps from ⟨C1, h2, p1.trans p2⟩);clear h1 p1 h2 p2;go_wp2_with fail;go_end0;exact ⟨rfl, HD.out⟩
theorem zlg {B : World} {C : Nat → Nat} {p c r : Nat} {w : World} {s : Scr} {ps : PSt} (h : SR B C p w s ps) (hok : s.Ok c r) (n : Int) (h0 : 0 ≤ n) (h9 : n ≤ 9999) :
  Calls Tryz.prog 220 #[.pointer (some ⟨p, 0, none⟩), .int .i64 n] w fun e w' => e = .returned (.tuple #[]) ∧ zq B C p w w' (s.place s.now.x (s.line (n - 1))) ps := by
 have HR := Lib.hid h;obtain ⟨x0, x1, y0, y1, t0, tb, b1, k1, k2, r1, r2, tl, pn⟩ := h.nums hok;have c0 : w.cell? ⟨p, 0, none⟩ = some (.int .i64 s.now.x) := h.at_ 0 _;have hw : IntKind.i64.wrap (n - 1) = n - 1 := zb _ (by omega) (by omega);have HL := Lib.hid (fun w' hb => zck (h.below (w' := w') hb) (n - 1) ⟨by omega, by omega⟩ ⟨by omega, by omega⟩);clear h hok x0 x1 y0 y1 t0 tb b1 k1 k2 r1 r2 tl pn;go_enter Tryz.func220, Tryz.ntmps220;go_upto_region 0 with fail;refine Zl (c := 10) (S := (fun bb w' => True ∧ (bb = false → w'.cell? ⟨p, 0, none⟩ = some (.int .i64 s.now.x)))) (by kernel_rfl) (⟨trivial, fun _ => c0⟩) (fun _ => ?_);refine zd false 0 (⟨trivial, fun _ => c0⟩) ?_;refine zd false 1 (⟨trivial, fun _ => c0⟩) ?_;refine zd false 2 (⟨trivial, fun _ => c0⟩) ?_;refine zd false 3 (⟨trivial, fun _ => c0⟩) ?_;refine zd false 4 (⟨trivial, fun _ => c0⟩) ?_;refine zht 5 (⟨trivial, fun _ => c0⟩) ?_;refine zd false 6 (⟨trivial, fun _ => c0⟩) ?_;refine zd false 7 (⟨trivial, fun _ => c0⟩) ?_;refine zd false 8 (⟨trivial, fun _ => c0⟩) ?_;refine zt false 9 fun K hK => ?_;refine zi rfl ?_;go_wp2_with fail;refine (HL.out _ (Below.refl _ _).drew).mono ?_;rintro e w4 ⟨rfl, m, hw4⟩;have b4 : Below w.heap.size w w4 := hw4 ▸ zg (Below.refl w.heap.size w).drew m;clear hw4;have c0' : w4.cell? ⟨p, 0, none⟩ = some (.int .i64 s.now.x) := zc b4 c0;have HB4 := Lib.hid b4;refine hK.out _ _ (⟨trivial, fun _ => c0'⟩) (fun _ => ?_);clear hK K b4
 try simp only [Act.put, List.setIfInBounds_toArray, List.set_cons_zero, List.set_cons_succ]
 refine zt true 10 fun K hK => ?_;refine zi rfl ?_;go_wp2_with fail;refine (Zb (HR.out.below HB4.out) s.now.x (s.line (n - 1))).mono ?_;rintro e w6 ⟨rfl, d6⟩;have HD6 := Lib.hid (zq.after ((Pre.refl _ _).below HB4.out) d6);clear d6;refine hK.out _ _ (⟨trivial, fun e => by cases e⟩) (fun _ => ?_);clear hK K
 try simp only [Act.put, List.setIfInBounds_toArray, List.set_cons_zero, List.set_cons_succ]
 refine Zh (by kernel_rfl) ?_ _;go_wp2_with fail;go_end0;exact ⟨rfl, HD6.out⟩
theorem zjs {B : World} {C : Nat → Nat} {p c r : Nat} {w : World} {s : Scr} {ps : PSt} (h : SR B C p w s ps) (hok : s.Ok c r) (n : Nat) (h9 : n ≤ 9999) :
  Calls Tryz.prog 221 #[.pointer (some ⟨p, 0, none⟩), .int .i64 (n : Int)] w fun e w' => e = .returned (.tuple #[]) ∧ zq B C p w w' (itF Scr.tab n s) ps := by
 have hn := h.nums hok;obtain ⟨e1, e2⟩ := hn.ok hok;have hc := hn.c1;have hr := hn.r1;have HR := Lib.hid h;have HOK := Lib.hid hok;have HCC := Lib.hid (show 1 ≤ c by omega);have HRR := Lib.hid (show 1 ≤ r by omega);clear hn h hok e1 e2 hc hr;go_enter Tryz.func221, Tryz.ntmps221;go_wp2_with fail
 go_loopw [5] (fun iv wr => ∃ (k : Nat) (C1 : Nat → Nat) (t : Scr), k ≤ n ∧ iv = .int .i64 k ∧ Hid (SR B C1 p wr t ps) ∧ Hid (t.Ok c r) ∧ Hid (Pre C w C1 wr) ∧ Hid (itF Scr.tab (n - k) t = itF Scr.tab n s)) (fun iv _ => n - (intOf iv).toNat)
 case atStart => exact ⟨0, C, s, Nat.zero_le _, rfl, HR, HOK, Lib.hid (Pre.refl _ _), Lib.hid rfl⟩
 case round =>
  obtain ⟨k, C1, t, hk, rfl, H1, HO1, HP1, HF⟩ := hrel;by_cases hlt : k < n
  ·go_wp2_with fail;refine (zia H1.out HO1.out).mono ?_;rintro e w2 ⟨rfl, C2, h2, p2⟩;have H2 := Lib.hid h2;have P2 := Lib.hid (HP1.out.trans p2);clear h2 p2;go_wp2_with fail;go_roundw
   case rel =>
    refine ⟨k + 1, C2, t.tab, by omega, by go_num, H2, Lib.hid (HO1.out.tab HCC.out HRR.out), P2, Lib.hid ?_⟩;rw [← HF.out, show n - k = (n - (k + 1)) + 1 by omega]; rfl
   case measure => simp [intOf]; omega
  ·obtain rfl : k = n := (by omega);have HD := Lib.hid (show zq B C p w wr (itF Scr.tab k s) ps by
    rw [← HF.out, Nat.sub_self];exact ⟨C1, H1.out, HP1.out⟩)
   go_wp2_with fail;go_end0;exact ⟨rfl, HD.out⟩
theorem zjt {B : World} {C : Nat → Nat} {p c r : Nat} {w : World} {s : Scr} {ps : PSt} (h : SR B C p w s ps) (hok : s.Ok c r) (n : Nat) (h9 : n ≤ 9999) :
  Calls Tryz.prog 222 #[.pointer (some ⟨p, 0, none⟩), .int .i64 (n : Int)] w fun e w' => e = .returned (.tuple #[]) ∧ zq B C p w w' (itF Scr.back n s) ps := by
 have hn := h.nums hok;obtain ⟨e1, e2⟩ := hn.ok hok;have hc := hn.c1;have hr := hn.r1;have HR := Lib.hid h;have HOK := Lib.hid hok;have HCC := Lib.hid (show 1 ≤ c by omega);have HRR := Lib.hid (show 1 ≤ r by omega);clear hn h hok e1 e2 hc hr;go_enter Tryz.func222, Tryz.ntmps222;go_wp2_with fail
 go_loopw [5] (fun iv wr => ∃ (k : Nat) (C1 : Nat → Nat) (t : Scr), k ≤ n ∧ iv = .int .i64 k ∧ Hid (SR B C1 p wr t ps) ∧ Hid (t.Ok c r) ∧ Hid (Pre C w C1 wr) ∧ Hid (itF Scr.back (n - k) t = itF Scr.back n s)) (fun iv _ => n - (intOf iv).toNat)
 case atStart => exact ⟨0, C, s, Nat.zero_le _, rfl, HR, HOK, Lib.hid (Pre.refl _ _), Lib.hid rfl⟩
 case round =>
  obtain ⟨k, C1, t, hk, rfl, H1, HO1, HP1, HF⟩ := hrel;by_cases hlt : k < n
  ·go_wp2_with fail;refine (zk3 H1.out HO1.out).mono ?_;rintro e w2 ⟨rfl, C2, h2, p2⟩;have H2 := Lib.hid h2;have P2 := Lib.hid (HP1.out.trans p2);clear h2 p2;go_wp2_with fail;go_roundw
   case rel =>
    refine ⟨k + 1, C2, t.back, by omega, by go_num, H2, Lib.hid (HO1.out.back HCC.out HRR.out), P2, Lib.hid ?_⟩;rw [← HF.out, show n - k = (n - (k + 1)) + 1 by omega]; rfl
   case measure => simp [intOf]; omega
  ·obtain rfl : k = n := (by omega);have HD := Lib.hid (show zq B C p w wr (itF Scr.back k s) ps by
    rw [← HF.out, Nat.sub_self];exact ⟨C1, H1.out, HP1.out⟩)
   go_wp2_with fail;go_end0;exact ⟨rfl, HD.out⟩
end
section
open Go.RowKit
set_option maxRecDepth 100000
theorem zek {B : World} {C : Nat → Nat} {p c r : Nat} {w : World} {s : Scr} {ps : PSt} (h : SR B C p w s ps) (hok : s.Ok c r) (k : Int) (on : Bool) :
  Calls Tryz.prog 165 #[.pointer (some ⟨p, 0, none⟩), .int .i64 k, .bool on] w fun e w' => e = .returned (.tuple #[]) ∧ zq B C p w w' (s.private k on) ps := by
 by_cases h1 : k = 1
 ·subst h1;have HE := Lib.hid (show s.private 1 on = s.mode 16 on from rfl);have HR := Lib.hid h;have HOK := Lib.hid hok;clear h hok;go_enter Tryz.func165, Tryz.ntmps165;go_wp2_with fail;refine (Zu HR.out 16 on).mono ?_;rintro e wc1 ⟨rfl, Cc1, hc1, pc1⟩;have Hc1 := Lib.hid hc1;have Pc1 := Lib.hid (pc1);clear hc1 pc1;go_wp2_with fail;go_end0;refine ⟨rfl, ?_⟩;rw [HE.out];exact ⟨_, Hc1.out, Pc1.out⟩
 by_cases h6 : k = 6
 ·subst h6;have HE := Lib.hid (show s.private 6 on = (s.mode 4 on).place 0 ((s.mode 4 on).line 0) from rfl);have HO1 := Lib.hid (hok.mode 4 ⟨by decide, by decide⟩ on);have HR := Lib.hid h;have HOK := Lib.hid hok;clear h hok;go_enter Tryz.func165, Tryz.ntmps165;go_wp2_with fail;refine (Zu HR.out 4 on).mono ?_;rintro e wc1 ⟨rfl, Cc1, hc1, pc1⟩;have Hc1 := Lib.hid hc1;have Pc1 := Lib.hid (pc1);clear hc1 pc1;go_wp2_with fail;have HN := Lib.hid (Hc1.out.nums HO1.out);refine (zck Hc1.out 0 ⟨by decide, by decide⟩ ⟨HN.out.t0, by have h1 := HN.out.tb; have h2 := HN.out.b1; have h3 := HN.out.r2; omega⟩).mono ?_;rintro e wl ⟨rfl, m, hwl⟩;have HBL := Lib.hid (show Below wc1.heap.size wc1 wl from hwl ▸ zg (Below.refl _ _) m);have HL := Lib.hid (Hc1.out.below HBL.out);have PL := Lib.hid (Pc1.out.below HBL.out);clear hwl;go_wp2_with fail;refine (Zb HL.out 0 ((s.mode 4 on).line 0)).mono ?_;rintro e wc2 ⟨rfl, Cc2, hc2, pc2⟩;have Hc2 := Lib.hid hc2;have Pc2 := Lib.hid (PL.out.trans pc2);clear hc2 pc2;go_wp2_with fail;go_end0;refine ⟨rfl, ?_⟩;rw [HE.out];exact ⟨_, Hc2.out, Pc2.out⟩
 by_cases h7 : k = 7
 ·subst h7;have HE := Lib.hid (show s.private 7 on = { s.mode 1 on with now := { s.now with wait := s.now.wait && on } } from rfl);have HR := Lib.hid h;have HOK := Lib.hid hok;clear h hok;go_enter Tryz.func165, Tryz.ntmps165;go_wp2_with fail;refine (Zu HR.out 1 on).mono ?_;rintro e wc1 ⟨rfl, Cc1, hc1, pc1⟩;have Hc1 := Lib.hid hc1;have Pc1 := Lib.hid (pc1);clear hc1 pc1;have c2 : wc1.cell? ⟨p, 2, none⟩ = some (.bool s.now.wait) := Hc1.out.at_ 2 _;have f2 := Hc1.out.fz 2;cases hwt : s.now.wait
  ·rw [hwt] at c2 HE;obtain ⟨hs2_0, gs2_0⟩ := (Hc1.out).set 2 (.bool (false && on)) ({ s.mode 1 on with now := { s.now with wait := false && on } });have Hc2 := Lib.hid hs2_0;have Pc2 := Lib.hid (Pc1.out.trans gs2_0);clear hs2_0 gs2_0;go_wp2_with fail;go_end0;refine ⟨rfl, ?_⟩;rw [HE.out];exact ⟨_, Hc2.out, Pc2.out⟩
  ·rw [hwt] at c2 HE;obtain ⟨hs2_0, gs2_0⟩ := (Hc1.out).set 2 (.bool (true && on)) ({ s.mode 1 on with now := { s.now with wait := true && on } });have Hc2 := Lib.hid hs2_0;have Pc2 := Lib.hid (Pc1.out.trans gs2_0);clear hs2_0 gs2_0;go_wp2_with fail;go_end0;refine ⟨rfl, ?_⟩;rw [HE.out];exact ⟨_, Hc2.out, Pc2.out⟩
 by_cases h25 : k = 25
 ·subst h25;have HE := Lib.hid (show s.private 25 on = s.mode 8 on from rfl);have HR := Lib.hid h;have HOK := Lib.hid hok;clear h hok;go_enter Tryz.func165, Tryz.ntmps165;go_wp2_with fail;refine (Zu HR.out 8 on).mono ?_;rintro e wc1 ⟨rfl, Cc1, hc1, pc1⟩;have Hc1 := Lib.hid hc1;have Pc1 := Lib.hid (pc1);clear hc1 pc1;go_wp2_with fail;go_end0;refine ⟨rfl, ?_⟩;rw [HE.out];exact ⟨_, Hc1.out, Pc1.out⟩
 by_cases h47 : k = 47
 ·subst h47;have HE := Lib.hid (show s.private 47 on = s.swap on from rfl);have HR := Lib.hid h;have HOK := Lib.hid hok;clear h hok;go_enter Tryz.func165, Tryz.ntmps165;go_wp2_with fail;refine (zdq HR.out on).mono ?_;rintro e wc1 ⟨rfl, Cc1, hc1, pc1⟩;have Hc1 := Lib.hid hc1;have Pc1 := Lib.hid (pc1);clear hc1 pc1;go_wp2_with fail;go_end0;refine ⟨rfl, ?_⟩;rw [HE.out];exact ⟨_, Hc1.out, Pc1.out⟩
 by_cases h1047 : k = 1047
 ·subst h1047;have HE := Lib.hid (show s.private 1047 on = s.swap on from rfl);have HR := Lib.hid h;have HOK := Lib.hid hok;clear h hok;go_enter Tryz.func165, Tryz.ntmps165;go_wp2_with fail;refine (zdq HR.out on).mono ?_;rintro e wc1 ⟨rfl, Cc1, hc1, pc1⟩;have Hc1 := Lib.hid hc1;have Pc1 := Lib.hid (pc1);clear hc1 pc1;go_wp2_with fail;go_end0;refine ⟨rfl, ?_⟩;rw [HE.out];exact ⟨_, Hc1.out, Pc1.out⟩
 by_cases h1048 : k = 1048
 ·subst h1048;have HE := Lib.hid (show s.private 1048 on = s.keep on from rfl);have HR := Lib.hid h;have HOK := Lib.hid hok;clear h hok;go_enter Tryz.func165, Tryz.ntmps165;go_wp2_with fail;refine (zeF HR.out on).mono ?_;rintro e wc1 ⟨rfl, Cc1, hc1, pc1⟩;have Hc1 := Lib.hid hc1;have Pc1 := Lib.hid (pc1);clear hc1 pc1;go_wp2_with fail;go_end0;refine ⟨rfl, ?_⟩;rw [HE.out];exact ⟨_, Hc1.out, Pc1.out⟩
 by_cases h1049 : k = 1049
 ·subst h1049;have HE := Lib.hid (show s.private 1049 on = if on = true then s.save.swap true else (s.swap false).restore from rfl);have HR := Lib.hid h;clear h hok;cases on
  ·have HE := Lib.hid (show s.private 1049 false = (s.swap false).restore from rfl);go_enter Tryz.func165, Tryz.ntmps165;go_wp2_with fail;refine (zdq HR.out false).mono ?_;rintro e wc1 ⟨rfl, Cc1, hc1, pc1⟩;have Hc1 := Lib.hid hc1;have Pc1 := Lib.hid (pc1);clear hc1 pc1;go_wp2_with fail;refine (zcL Hc1.out).mono ?_;rintro e wc2 ⟨rfl, Cc2, hc2, pc2⟩;have Hc2 := Lib.hid hc2;have Pc2 := Lib.hid (Pc1.out.trans pc2);clear hc2 pc2;go_wp2_with fail;go_end0;refine ⟨rfl, ?_⟩;rw [HE.out];exact ⟨_, Hc2.out, Pc2.out⟩
  ·have HE := Lib.hid (show s.private 1049 true = s.save.swap true from rfl);go_enter Tryz.func165, Tryz.ntmps165;go_wp2_with fail;refine (zeE HR.out).mono ?_;rintro e wc1 ⟨rfl, Cc1, hc1, pc1⟩;have Hc1 := Lib.hid hc1;have Pc1 := Lib.hid (pc1);clear hc1 pc1;go_wp2_with fail;refine (zdq Hc1.out true).mono ?_;rintro e wc2 ⟨rfl, Cc2, hc2, pc2⟩;have Hc2 := Lib.hid hc2;have Pc2 := Lib.hid (Pc1.out.trans pc2);clear hc2 pc2;go_wp2_with fail;go_end0;refine ⟨rfl, ?_⟩;rw [HE.out];exact ⟨_, Hc2.out, Pc2.out⟩
 by_cases h1000 : k = 1000
 ·subst h1000;have HE := Lib.hid (show s.private 1000 on = s.mode 128 on from rfl);have HR := Lib.hid h;have HOK := Lib.hid hok;clear h hok;go_enter Tryz.func165, Tryz.ntmps165;go_wp2_with fail;refine (Zu HR.out 128 on).mono ?_;rintro e wc1 ⟨rfl, Cc1, hc1, pc1⟩;have Hc1 := Lib.hid hc1;have Pc1 := Lib.hid (pc1);clear hc1 pc1;go_wp2_with fail;go_end0;refine ⟨rfl, ?_⟩;rw [HE.out];exact ⟨_, Hc1.out, Pc1.out⟩
 by_cases h2004 : k = 2004
 ·subst h2004;have HE := Lib.hid (show s.private 2004 on = s.mode 64 on from rfl);have HR := Lib.hid h;have HOK := Lib.hid hok;clear h hok;go_enter Tryz.func165, Tryz.ntmps165;go_wp2_with fail;refine (Zu HR.out 64 on).mono ?_;rintro e wc1 ⟨rfl, Cc1, hc1, pc1⟩;have Hc1 := Lib.hid hc1;have Pc1 := Lib.hid (pc1);clear hc1 pc1;go_wp2_with fail;go_end0;refine ⟨rfl, ?_⟩;rw [HE.out];exact ⟨_, Hc1.out, Pc1.out⟩
 have HE := Lib.hid (show s.private k on = s by unfold Scr.private; rw [if_neg h1, if_neg h6, if_neg h7, if_neg h25, if_neg (by omega), if_neg h1048, if_neg h1049, if_neg h1000, if_neg h2004]);have e1 : (k == 1) = false := beq_eq_false_iff_ne.2 h1;have e6 : (k == 6) = false := beq_eq_false_iff_ne.2 h6;have e7 : (k == 7) = false := beq_eq_false_iff_ne.2 h7;have e25 : (k == 25) = false := beq_eq_false_iff_ne.2 h25;have e47 : (k == 47) = false := beq_eq_false_iff_ne.2 h47;have e1047 : (k == 1047) = false := beq_eq_false_iff_ne.2 h1047;have e1048 : (k == 1048) = false := beq_eq_false_iff_ne.2 h1048;have e1049 : (k == 1049) = false := beq_eq_false_iff_ne.2 h1049;have e1000 : (k == 1000) = false := beq_eq_false_iff_ne.2 h1000;have e2004 : (k == 2004) = false := beq_eq_false_iff_ne.2 h2004;have HR := Lib.hid h;clear h hok h1 h6 h7 h25 h47 h1047 h1048 h1049 h1000 h2004;go_enter Tryz.func165, Tryz.ntmps165;go_wp2_with fail;go_end0;refine ⟨rfl, ?_⟩;rw [HE.out];exact .refl HR.out
theorem zhm {B : World} {C : Nat → Nat} {p c r : Nat} {w : World} {s : Scr} {ps : PSt} (h : SR B C p w s ps) (hok : s.Ok c r) (b : UInt8) :
  Calls Tryz.prog 109 #[.pointer (some ⟨p, 0, none⟩), .int .u8 (b.toNat : Int)] w fun e w' => e = .returned (.tuple #[]) ∧ zq B C p w w' (s.control b) ps := by
 have hb0 : (0 : Int) ≤ (b.toNat : Int) ∧ (b.toNat : Int) ≤ 255 := (by have := b.toNat_lt; omega);obtain ⟨k, hk⟩ : ∃ k : Int, k = (b.toNat : Int) := ⟨_, rfl⟩;rw [← hk] at hb0 ⊢;by_cases h7 : k = 7
 ·subst h7;have HE := Lib.hid (show s.control b = { s with bells := IntKind.i64.wrap (s.bells + 1) } by unfold Scr.control; dsimp only; rw [← hk]; rfl);have HOKC := Lib.hid hok.calm;have HNU := Lib.hid (h.nums hok);have c38 : w.cell? ⟨p, 38, none⟩ = some (.int .i64 s.bells) := h.at_ 38 _;have f38 := h.fz 38;obtain ⟨bw, hbw⟩ : ∃ bw, IntKind.i64.wrap (s.bells + 1) = bw := ⟨_, rfl⟩;rw [hbw] at HE;obtain ⟨h1, g1⟩ := h.set 38 (.int .i64 bw) { s with bells := bw };have HD := Lib.hid (show zq B C p w _ _ ps from ⟨_, h1, g1⟩);clear h h1 g1 hok hk hb0;go_enter Tryz.func109, Tryz.ntmps109;go_wp2_with fail;go_end0;refine ⟨rfl, ?_⟩;rw [HE.out];exact HD.out
 by_cases h8 : k = 8
 ·subst h8;have HE := Lib.hid (show s.control b = s.calm.toX (max 0 (s.now.x - 1)) by unfold Scr.control; dsimp only; rw [← hk]; rfl);have HOKC := Lib.hid hok.calm;have HNU := Lib.hid (h.nums hok);have c2 : w.cell? ⟨p, 2, none⟩ = some (.bool s.now.wait) := h.at_ 2 _;have f2 := h.fz 2;obtain ⟨h1, g1⟩ := h.set 2 (.bool false) s.calm;have HR := Lib.hid h1;have P1 := Lib.hid g1;clear h h1 g1 hok hk hb0;go_enter Tryz.func109, Tryz.ntmps109;go_upto_region 6 with fail;generalize w.setCell ⟨p, 2, none⟩ (.bool false) = w1 at *;clear c2 f2;have c0 : w1.cell? ⟨p, 0, none⟩ = some (.int .i64 s.now.x) := HR.out.at_ 0 _;have f0 := HR.out.fz 0;have hw : IntKind.i64.wrap (s.now.x - 1) = s.now.x - 1 := (by have h1 := HNU.out.x0; have h2 := HNU.out.x1; have h3 := HNU.out.c2; exact zb _ (by omega) (by omega));obtain ⟨h2, g2⟩ := HR.out.set 0 (.int .i64 (max 0 (s.now.x - 1))) (s.calm.toX (max 0 (s.now.x - 1)));have HD := Lib.hid (show zq B C p w _ _ ps from ⟨_, h2, P1.out.trans g2⟩);clear h2 g2;go_wp2_with fail;go_end0;refine ⟨rfl, ?_⟩;rw [HE.out];exact HD.out
 by_cases h9 : k = 9
 ·subst h9;have HE := Lib.hid (show s.control b = s.calm.tab by unfold Scr.control; dsimp only; rw [← hk]; rfl);have HOKC := Lib.hid hok.calm;have HNU := Lib.hid (h.nums hok);have c2 : w.cell? ⟨p, 2, none⟩ = some (.bool s.now.wait) := h.at_ 2 _;have f2 := h.fz 2;obtain ⟨h1, g1⟩ := h.set 2 (.bool false) s.calm;have HR := Lib.hid h1;have P1 := Lib.hid g1;clear h h1 g1 hok hk hb0;go_enter Tryz.func109, Tryz.ntmps109;go_upto_region 8 with fail;generalize w.setCell ⟨p, 2, none⟩ (.bool false) = w1 at *;clear c2 f2;go_wp2_with fail;refine (zia HR.out HOKC.out).mono ?_;rintro e wc1 ⟨rfl, Cc1, hc1, pc1⟩;have Hc1 := Lib.hid hc1;have Pc1 := Lib.hid (P1.out.trans pc1);clear hc1 pc1;go_wp2_with fail;go_end0;refine ⟨rfl, ?_⟩;rw [HE.out];exact ⟨_, Hc1.out, Pc1.out⟩
 by_cases h10 : k = 10
 ·subst h10;have HE := Lib.hid (show s.control b = if s.calm.index.has 512 = true then s.calm.index.toX 0 else s.calm.index by unfold Scr.control; dsimp only; rw [← hk]; rfl);have HOKC := Lib.hid hok.calm;have HNU := Lib.hid (h.nums hok);have c2 : w.cell? ⟨p, 2, none⟩ = some (.bool s.now.wait) := h.at_ 2 _;have f2 := h.fz 2;obtain ⟨h1, g1⟩ := h.set 2 (.bool false) s.calm;have HR := Lib.hid h1;have P1 := Lib.hid g1;clear h h1 g1 hok hk hb0;go_enter Tryz.func109, Tryz.ntmps109;go_upto_region 12 with fail;generalize w.setCell ⟨p, 2, none⟩ (.bool false) = w1 at *;clear c2 f2;go_wp2_with fail;refine (zbb HR.out HOKC.out).mono ?_;rintro e wc1 ⟨rfl, Cc1, hc1, pc1⟩;have Hc1 := Lib.hid hc1;have Pc1 := Lib.hid (P1.out.trans pc1);clear hc1 pc1;go_wp2_with fail;refine (zaI Hc1.out 512).mono ?_;rintro e wq ⟨rfl, rfl⟩;cases hh : s.calm.index.has 512
  ·have HE := Lib.hid (show s.control b = s.calm.index by rw [HE.out, hh]; rfl);go_wp2_with fail;go_end0;refine ⟨rfl, ?_⟩;rw [HE.out];exact ⟨_, Hc1.out, Pc1.out⟩
  ·have HE := Lib.hid (show s.control b = s.calm.index.toX 0 by rw [HE.out, hh]; rfl);have c0 : wq.cell? ⟨p, 0, none⟩ = some (.int .i64 s.calm.index.now.x) := Hc1.out.at_ 0 _;have f0 := Hc1.out.fz 0;obtain ⟨hs2_0, gs2_0⟩ := (Hc1.out).set 0 (.int .i64 0) (s.calm.index.toX 0);have Hc2 := Lib.hid hs2_0;have Pc2 := Lib.hid (Pc1.out.trans gs2_0);clear hs2_0 gs2_0;go_wp2_with fail;go_end0;refine ⟨rfl, ?_⟩;rw [HE.out];exact ⟨_, Hc2.out, Pc2.out⟩
 by_cases h11 : k = 11
 ·subst h11;have HE := Lib.hid (show s.control b = if s.calm.index.has 512 = true then s.calm.index.toX 0 else s.calm.index by unfold Scr.control; dsimp only; rw [← hk]; rfl);have HOKC := Lib.hid hok.calm;have HNU := Lib.hid (h.nums hok);have c2 : w.cell? ⟨p, 2, none⟩ = some (.bool s.now.wait) := h.at_ 2 _;have f2 := h.fz 2;obtain ⟨h1, g1⟩ := h.set 2 (.bool false) s.calm;have HR := Lib.hid h1;have P1 := Lib.hid g1;clear h h1 g1 hok hk hb0;go_enter Tryz.func109, Tryz.ntmps109;go_upto_region 12 with fail;generalize w.setCell ⟨p, 2, none⟩ (.bool false) = w1 at *;clear c2 f2;go_wp2_with fail;refine (zbb HR.out HOKC.out).mono ?_;rintro e wc1 ⟨rfl, Cc1, hc1, pc1⟩;have Hc1 := Lib.hid hc1;have Pc1 := Lib.hid (P1.out.trans pc1);clear hc1 pc1;go_wp2_with fail;refine (zaI Hc1.out 512).mono ?_;rintro e wq ⟨rfl, rfl⟩;cases hh : s.calm.index.has 512
  ·have HE := Lib.hid (show s.control b = s.calm.index by rw [HE.out, hh]; rfl);go_wp2_with fail;go_end0;refine ⟨rfl, ?_⟩;rw [HE.out];exact ⟨_, Hc1.out, Pc1.out⟩
  ·have HE := Lib.hid (show s.control b = s.calm.index.toX 0 by rw [HE.out, hh]; rfl);have c0 : wq.cell? ⟨p, 0, none⟩ = some (.int .i64 s.calm.index.now.x) := Hc1.out.at_ 0 _;have f0 := Hc1.out.fz 0;obtain ⟨hs2_0, gs2_0⟩ := (Hc1.out).set 0 (.int .i64 0) (s.calm.index.toX 0);have Hc2 := Lib.hid hs2_0;have Pc2 := Lib.hid (Pc1.out.trans gs2_0);clear hs2_0 gs2_0;go_wp2_with fail;go_end0;refine ⟨rfl, ?_⟩;rw [HE.out];exact ⟨_, Hc2.out, Pc2.out⟩
 by_cases h12 : k = 12
 ·subst h12;have HE := Lib.hid (show s.control b = if s.calm.index.has 512 = true then s.calm.index.toX 0 else s.calm.index by unfold Scr.control; dsimp only; rw [← hk]; rfl);have HOKC := Lib.hid hok.calm;have HNU := Lib.hid (h.nums hok);have c2 : w.cell? ⟨p, 2, none⟩ = some (.bool s.now.wait) := h.at_ 2 _;have f2 := h.fz 2;obtain ⟨h1, g1⟩ := h.set 2 (.bool false) s.calm;have HR := Lib.hid h1;have P1 := Lib.hid g1;clear h h1 g1 hok hk hb0;go_enter Tryz.func109, Tryz.ntmps109;go_upto_region 12 with fail;generalize w.setCell ⟨p, 2, none⟩ (.bool false) = w1 at *;clear c2 f2;go_wp2_with fail;refine (zbb HR.out HOKC.out).mono ?_;rintro e wc1 ⟨rfl, Cc1, hc1, pc1⟩;have Hc1 := Lib.hid hc1;have Pc1 := Lib.hid (P1.out.trans pc1);clear hc1 pc1;go_wp2_with fail;refine (zaI Hc1.out 512).mono ?_;rintro e wq ⟨rfl, rfl⟩;cases hh : s.calm.index.has 512
  ·have HE := Lib.hid (show s.control b = s.calm.index by rw [HE.out, hh]; rfl);go_wp2_with fail;go_end0;refine ⟨rfl, ?_⟩;rw [HE.out];exact ⟨_, Hc1.out, Pc1.out⟩
  ·have HE := Lib.hid (show s.control b = s.calm.index.toX 0 by rw [HE.out, hh]; rfl);have c0 : wq.cell? ⟨p, 0, none⟩ = some (.int .i64 s.calm.index.now.x) := Hc1.out.at_ 0 _;have f0 := Hc1.out.fz 0;obtain ⟨hs2_0, gs2_0⟩ := (Hc1.out).set 0 (.int .i64 0) (s.calm.index.toX 0);have Hc2 := Lib.hid hs2_0;have Pc2 := Lib.hid (Pc1.out.trans gs2_0);clear hs2_0 gs2_0;go_wp2_with fail;go_end0;refine ⟨rfl, ?_⟩;rw [HE.out];exact ⟨_, Hc2.out, Pc2.out⟩
 by_cases h13 : k = 13
 ·subst h13;have HE := Lib.hid (show s.control b = s.calm.toX 0 by unfold Scr.control; dsimp only; rw [← hk]; rfl);have HOKC := Lib.hid hok.calm;have HNU := Lib.hid (h.nums hok);have c2 : w.cell? ⟨p, 2, none⟩ = some (.bool s.now.wait) := h.at_ 2 _;have f2 := h.fz 2;obtain ⟨h1, g1⟩ := h.set 2 (.bool false) s.calm;have HR := Lib.hid h1;have P1 := Lib.hid g1;clear h h1 g1 hok hk hb0;go_enter Tryz.func109, Tryz.ntmps109;go_upto_region 16 with fail;generalize w.setCell ⟨p, 2, none⟩ (.bool false) = w1 at *;clear c2 f2;have c0 : w1.cell? ⟨p, 0, none⟩ = some (.int .i64 s.now.x) := HR.out.at_ 0 _;have f0 := HR.out.fz 0;obtain ⟨h2, g2⟩ := HR.out.set 0 (.int .i64 0) (s.calm.toX 0);have HD := Lib.hid (show zq B C p w _ _ ps from ⟨_, h2, P1.out.trans g2⟩);clear h2 g2;go_wp2_with fail;go_end0;refine ⟨rfl, ?_⟩;rw [HE.out];exact HD.out
 by_cases h14 : k = 14
 ·subst h14;have HE := Lib.hid (show s.control b = { s with now := { s.now with second := 1 } } by unfold Scr.control; dsimp only; rw [← hk]; rfl);have HOKC := Lib.hid hok.calm;have HNU := Lib.hid (h.nums hok);have c9 : w.cell? ⟨p, 9, none⟩ = some (.int .i64 s.now.second) := h.at_ 9 _;have f9 := h.fz 9;obtain ⟨h1, g1⟩ := h.set 9 (.int .i64 1) { s with now := { s.now with second := 1 } };have HD := Lib.hid (show zq B C p w _ _ ps from ⟨_, h1, g1⟩);clear h h1 g1 hok hk hb0;go_enter Tryz.func109, Tryz.ntmps109;go_wp2_with fail;go_end0;refine ⟨rfl, ?_⟩;rw [HE.out];exact HD.out
 by_cases h15 : k = 15
 ·subst h15;have HE := Lib.hid (show s.control b = { s with now := { s.now with second := 0 } } by unfold Scr.control; dsimp only; rw [← hk]; rfl);have HOKC := Lib.hid hok.calm;have HNU := Lib.hid (h.nums hok);have c9 : w.cell? ⟨p, 9, none⟩ = some (.int .i64 s.now.second) := h.at_ 9 _;have f9 := h.fz 9;obtain ⟨h1, g1⟩ := h.set 9 (.int .i64 0) { s with now := { s.now with second := 0 } };have HD := Lib.hid (show zq B C p w _ _ ps from ⟨_, h1, g1⟩);clear h h1 g1 hok hk hb0;go_enter Tryz.func109, Tryz.ntmps109;go_wp2_with fail;go_end0;refine ⟨rfl, ?_⟩;rw [HE.out];exact HD.out
 have HE := Lib.hid (show s.control b = s by
  unfold Scr.control;dsimp only;rw [← hk, if_neg h7, if_neg h8, if_neg h9, if_neg (show ¬ (k = 10 ∨ k = 11 ∨ k = 12) by omega), if_neg h13, if_neg (show ¬ (k = 14 ∨ k = 15) by omega), if_neg (show ¬ (8 ≤ k ∧ k ≤ 13) by omega)])
 have e7 : (k == 7) = false := beq_eq_false_iff_ne.2 h7;have e8 : (k == 8) = false := beq_eq_false_iff_ne.2 h8;have e9 : (k == 9) = false := beq_eq_false_iff_ne.2 h9;have e10 : (k == 10) = false := beq_eq_false_iff_ne.2 h10;have e11 : (k == 11) = false := beq_eq_false_iff_ne.2 h11;have e12 : (k == 12) = false := beq_eq_false_iff_ne.2 h12;have e13 : (k == 13) = false := beq_eq_false_iff_ne.2 h13;have e14 : (k == 14) = false := beq_eq_false_iff_ne.2 h14;have e15 : (k == 15) = false := beq_eq_false_iff_ne.2 h15;have HR := Lib.hid h;clear h hok hk;by_cases hl : 8 ≤ k
 ·have d1 : decide (8 ≤ k) = true := decide_eq_true hl;have d2 : decide (k ≤ 13) = false := decide_eq_false (by omega);clear hb0 hl h7 h8 h9 h10 h11 h12 h13 h14 h15;go_enter Tryz.func109, Tryz.ntmps109;go_wp2_with fail;go_end0;refine ⟨rfl, ?_⟩;rw [HE.out];exact .refl HR.out
 ·have d1 : decide (8 ≤ k) = false := decide_eq_false hl;clear hb0 hl h7 h8 h9 h10 h11 h12 h13 h14 h15;go_enter Tryz.func109, Tryz.ntmps109;go_wp2_with fail;go_end0;refine ⟨rfl, ?_⟩;rw [HE.out];exact .refl HR.out
end
section
open Go.RowKit
set_option maxRecDepth 100000
attribute [local go_sem ↓] Go.wp_at_zero Go.wp_at_succ
theorem zgK {B : World} {C : Nat → Nat} {p : Nat} {w : World} {s : Scr} {ps : PSt} (h : SR B C p w s ps) {L : List (Value × List Cel)} (hL : L.map (·.2) = s.viewL) {c r : Nat} (hok : s.Ok c r) : L.length ≤ 1000 ∧ ∀ x ∈ L, x.2.length ≤ 1000 := by
 have e := congrArg List.length hL;rw [List.length_map, zgJ] at e;have h2 := (h.nums hok).r2;refine ⟨by omega, fun x hx => ?_⟩;have hm : x.2 ∈ s.viewL := (by rw [← hL]; exact List.mem_map_of_mem hx);unfold Scr.viewL at hm;obtain ⟨y, _, hy⟩ := List.mem_map.1 hm;obtain ⟨T, q, hg, _⟩ := h.grid;have := (zjA hg.wf (y : Int)).1;rw [← hy];omega
end
end Go.Proofs.YtlfdgkiliegaiaaGreatDoor
