/- Texts laid together: E1 Clr P5 P6. -/
import Derived.Test.YtlfdgkiliegaiaaGreatDoorY1
import Derived.Test.YtlfdgkiliegaiaaGreatDoorY2
import Derived.Test.YtlfdgkiliegaiaaGreatDoorY3
import Derived.Test.YtlfdgkiliegaiaaGreatDoorY4
import Derived.Test.YtlfdgkiliegaiaaGreatDoorY5
import Derived.Test.YtlfdgkiliegaiaaGreatDoorY6
import Derived.Test.YtlfdgkiliegaiaaGreatDoorY7
import Derived.Test.YtlfdgkiliegaiaaGreatDoorY8
import Derived.Test.YtlfdgkiliegaiaaGreatDoorY9
import Derived.Deep.RegionHeld3
import Derived.Test.YtlfdgkiliegaiaaGreatDoorShelf
import Derived.Lib.Builder
import Derived.Lib.FrozenHead
import Derived.Lib.RuneBytes
import Derived.Lib.UnsafeStr
import Derived.Lib.SliceRun
import Derived.WalkSpells
import Derived.StillTailTactics
import Derived.Deep.RegionLaw
import Derived.Deep.DeepCutAuto
import Derived.Test.YtlfdgkiliegaiaaGreatDoorRows
import Derived.Deep.AppendSrc
import Derived.Lib.AppendStr
import Derived.ArgAppend
import Derived.Laws.IdiomCopy
import Derived.Laws.IdiomStrings
import Derived.Deep.Upon
import Derived.WalkKit
import Derived.WalkLawsBesides
import Derived.BigQuiet
import Derived.Lib.Hide
import Derived.Deep.QuietTactic
import Derived.Lib.AppendIntMem
import Derived.Lib.ItoaNum
import Derived.Laws.ResultCell
import Derived.Deep.CutBlock
import Derived.Laws.EntriesVeiled
import Derived.Laws.StructEq
import Derived.Deep.DrawnRows
import Derived.Lib.ItoaLen
import Derived.Laws.Bits64b
import Derived.WalkMore
import Derived.ScopeJumps
import Derived.Lib.SlBytesConst
import Derived.Laws.Cover4
set_option linter.unusedVariables false
namespace Go.Proofs.YtlfdgkiliegaiaaGreatDoor
section
open Go.RowKit
theorem zb7 {T : Nat → Nat} {w w2 w' : World} {b : Nat} (hb : Below w.heap.size w w2) (ht : T b ≠ 0) (g : w2.grownBy w' (some b)) : ze (own T w) w w' :=
 (ze.of_below hb).trans (ze.of_gb g (fun k hk => .inl (by injection hk with hk; subst hk; exact ht)))
set_option maxRecDepth 100000 in
set_option maxHeartbeats 8000000 in
theorem zdm {T : Nat → Nat} {p : Nat} {w : World} {g : Gr} (h : GM T p w g) (x y n : Int) (s : Sty) (hs : zaa w s) :
  Calls Tryz.prog 282 #[.pointer (some ⟨p, 0, none⟩), .int .i64 x, .int .i64 y, .int .i64 n, s.val] w fun e w' => e = .returned (.tuple #[]) ∧ ze (own T w) w w' ∧ GM T p w' (g.erase x y n s) := by
 have hBz := Below.alloc (Below.refl w.heap.size w) (Nat.le_refl _) (.cells #[.int .i64 s.fg, .int .i64 s.bg, .int .i64 s.attr] 35);have hbk0 := zE w (.cells #[.int .i64 s.fg, .int .i64 s.bg, .int .i64 s.attr] 35);have HG0 := Lib.hid (h.below hBz);have HLT := Lib.hid h.lt;clear h;cases hon : g.onIt x y s
 ·have HE := Lib.hid (show g.erase x y n s = g by unfold Gr.erase Gr.rowOp; rw [hon, if_neg (by simp)]);have HON := Lib.hid (zkc HG0.out x y s (hs.below hBz) hon);have hq := fun (wx : World) => Lib.run_eql_slice_nil (P := Tryz.prog) wx 68 133 none 0 0 0 0 Tryz.underlying68;unfold Sty.val at HON ⊢;go_enter Tryz.func282, Tryz.ntmps282;go_wp2_with fail;refine HON.out.mono ?_;rintro e w2 ⟨rfl, b2⟩;have HG2 := Lib.hid (HG0.out.below b2);have HB2 := Lib.hid (hBz.trans (b2.mono (by simp)));clear b2 HON;go_wp2_with fail;refine zcZ rfl rfl ⟨rfl, ze.of_below HB2.out, ?_⟩;rw [HE.out];exact HG2.out
 ·obtain ⟨n1, n2, n3, n4, n5⟩ := zf9 hon;obtain ⟨xn, rfl⟩ : ∃ k : Nat, x = (k : Int) := ⟨x.toNat, by omega⟩;obtain ⟨yn, rfl⟩ : ∃ k : Nat, y = (k : Int) := ⟨y.toNat, by omega⟩;obtain ⟨vr, vo, Lr, Lo, hA⟩ := HG0.out;have hlen := (Zf hA).1;have hyl : yn < Lr.length := (by omega);have hcols := hA.wf.c2;have hrc : Lr[yn].2.cells.length = g.cols := (hA.wf.ce _ (List.mem_append_left _ (by rw [← hA.er]; exact List.mem_map_of_mem (List.getElem_mem hyl)))).1;have hrok : ∀ c ∈ Lr[yn].2.cells, c.Ok := (hA.wf.ce _ (List.mem_append_left _ (by rw [← hA.er]; exact List.mem_map_of_mem (List.getElem_mem hyl)))).2;have HON := Lib.hid (zhx hA xn yn s (hs.below hBz) (by omega) hyl n5);have hcx := hA.ca Lr[yn] (List.mem_append_left _ (List.getElem_mem hyl));have HC := Lib.hid hcx;obtain ⟨b, off, vc, hxv, hnc, hcm⟩ := zF hcx.own (by omega);rw [hrc] at hxv hnc;have HA := Lib.hid hA;clear hA hcx;rw [hxv] at HON;have hq := fun (wx : World) => Lib.run_eql_slice_nil (P := Tryz.prog) wx 68 133 (some ⟨b, off, none⟩) g.cols vc 0 0 Tryz.underlying68;unfold Sty.val at HON ⊢;by_cases hn0 : 0 < n;rotate_left
  ·have d0 : decide (n ≤ 0) = true := decide_eq_true (by omega);have HE := Lib.hid (show g.erase xn yn n s = g by unfold Gr.erase Gr.rowOp; rw [if_neg (fun e => hn0 e.2)]);go_enter Tryz.func282, Tryz.ntmps282;go_wp2_with fail;refine HON.out.mono ?_;rintro e w2 ⟨rfl, b2⟩;have HG2 := Lib.hid (HG0.out.below b2);have HB2 := Lib.hid (hBz.trans (b2.mono (by simp)));clear b2 HON;go_wp2_with fail;refine zcZ rfl rfl ⟨rfl, ze.of_below HB2.out, ?_⟩;rw [HE.out];exact HG2.out
  have d0 : decide (n ≤ 0) = false := decide_eq_false (by omega);obtain ⟨N, hN⟩ : ∃ N : Nat, N = zdI g xn n := ⟨_, rfl⟩;have hmin : min n ((g.cols : Int) - (xn : Int)) = (N : Int) := (by unfold zdI at hN; omega);have hN2 : 1 ≤ N ∧ xn + N ≤ g.cols := (by unfold zdI at hN; omega);have HE := Lib.hid (show g.erase xn yn n s = g.turn yn (fun l => zcM l xn N s) by
   unfold Gr.erase Gr.rowOp;rw [if_pos ⟨hon, hn0⟩, hN, Int.toNat_natCast, Int.toNat_natCast])
  have hbt : T b = 10 + b := by
   obtain ⟨q, e1, e2⟩ := HC.out.tag;rw [hxv] at e1;simp only [Value.ownBlock] at e1;injection e1 with e1;subst e1; exact e2
  have hbl : b < w.heap.size := HLT.out b (by omega);have hwm : IntKind.i64.wrap ((g.cols : Int) - (xn : Int)) = (g.cols : Int) - (xn : Int) := zb _ (by omega) (by omega);have hwx : IntKind.i64.wrap ((xn : Int) + (N : Int)) = (xn : Int) + (N : Int) := zb _ (by omega) (by omega);have hwc : IntKind.i64.wrap ((g.cols : Int) - (N : Int)) = (g.cols : Int) - (N : Int) := zb _ (by omega) (by omega);clear hN hon n1 n2 n3 n4;go_enter Tryz.func282, Tryz.ntmps282;go_wp2_with fail;refine HON.out.mono ?_;rintro e w2 ⟨rfl, b2⟩;have HA2 := Lib.hid (HA.out.mod (.of_below b2) id id id (fun _ => id));have HB2 := Lib.hid (hBz.trans (b2.mono (by simp)));have hbk2 := zm hbk0 b2 (by simp);have hkp2 := HA2.out.blk;have c0 : w2.cell? ⟨p, 0, none⟩ = some (.int .i64 g.cols) := (zX HA2.out).1;have O2 := (HA2.out.ca Lr[yn] (List.mem_append_left _ (List.getElem_mem hyl))).own;have hpt : T p = 1 := HA2.out.tp;have hbp : b ≠ p := fun e => (by rw [e] at hbt; omega);rw [hxv, hrc] at O2;have HTN := Lib.hid (show ∀ w', w2.grownBy w' (some b) → zn w' 0 5 (.slice (some ⟨b, off, none⟩) g.cols vc) g.cols (zp (zcM Lr[yn].2.cells xn N s)) → GM T p w' (g.turn yn (fun l => zcM l xn N s)) from fun w' g' o' => by
   have hll : (zcM Lr[yn].2.cells xn N s).length = g.cols := by
    rw [zjl s (by omega)];exact hrc
   refine HA2.out.turned yn hyl (b := b) (by rw [hxv]; rfl) (Mod.of_gb g' (fun k hk => by injection hk with hk; subst hk; exact hbt)) _ ?_ ?_ ?_
   ·rw [hll, hxv]; exact o'
   ·exact hll
   ·exact zlD hrok)
  have HWI := Lib.hid (show ∀ w', w2.grownBy w' (some b) → ze (own T w) w w' from fun w' g' => zb7 HB2.out (by omega) g');clear b2 HON hbk0 HA2;generalize Lr[yn].2.cells = lx at *;have hgc : g.cols ≤ 1000000 := (by omega);go_wp2_with fail;refine (zb3 lx xn b off g.cols vc w2 O2 hrc hgc (by omega)).mono ?_;rintro e w5 ⟨rfl, g5, o5⟩;have hbk5 := zo hbk2 g5 (by intro e; injection e with e; omega);have hkp5 := zo hkp2 g5 (by intro e; injection e with e; exact hbp e.symm);have k0 : w5.cell? ⟨p, 0, none⟩ = some (.int .i64 g.cols) := za hkp5 0;have HO5 := Lib.hid o5;have HK5 := Lib.hid hbk5;have HP5 := Lib.hid hkp5;have HG5 := Lib.hid g5;clear o5 hbk5 g5 O2 c0 hbk2 hkp2 hkp5;go_wp2_with fail;refine (zb3 (zC lx xn) ((xn : Int) + (N : Int)) b off g.cols vc w5 HO5.out (by rw [zW]; exact hrc) hgc (by omega)).mono ?_;rintro e w6 ⟨rfl, g6, o6⟩;rw [show (xn : Int) + (N : Int) = ((xn + N : Nat) : Int) by omega] at o6;have hbk6 := zo HK5.out g6 (by intro e; injection e with e; omega);have hkp6 := zo HP5.out g6 (by intro e; injection e with e; exact hbp e.symm);have HG6 := Lib.hid (Zs HG5.out g6);have HK6 := Lib.hid hbk6;have HP6 := Lib.hid hkp6;have HO6 := Lib.hid o6;clear k0 g6 o6 hbk6 hkp6 HG5 HK5 HP5 HO5 hq;have hlen2 : (zC (zC lx xn) ((xn + N : Nat) : Int)).length = g.cols := (by rw [zW, zW]; exact hrc);have HKF := HK6;have HPF := HP6;have HOF := HO6;have HGF := HG6;clear HK6 HP6 HO6 HG6;have hsl := zbP (P := Tryz.prog) (size := 5) Tryz.underlying68 zI b off g.cols vc xn (xn + N) (by omega) (by omega) (by omega);rw [show xn + N - xn = N by omega, show ((xn + N : Nat) : Int) = (xn : Int) + (N : Int) by omega] at hsl;have f0 : w6.cell? ⟨w.heap.size, 0, none⟩ = some (.int .i64 s.fg) := za HKF.out 0;have f1 : w6.cell? ⟨w.heap.size, 1, none⟩ = some (.int .i64 s.bg) := za HKF.out 1;have f2 : w6.cell? ⟨w.heap.size, 2, none⟩ = some (.int .i64 s.attr) := za HKF.out 2;have j0 : w6.cell? ⟨p, 0, none⟩ = some (.int .i64 g.cols) := za HPF.out 0;have HFI := Lib.hid (fun wx (ho : zn wx 0 5 (.slice (some ⟨b, off, none⟩) g.cols vc) g.cols (zp (zC (zC lx xn) ((xn + N : Nat) : Int)))) => zdd (zC (zC lx xn) ((xn + N : Nat) : Int)) s b off g.cols vc xn N (vc - xn) wx ho hlen2 (by omega) (by unfold maxLen; omega));unfold Sty.val at HFI;go_upto_region 6 with fail
  go_still_tail 7, (by kernel_rfl)
  change wpList _ _ _ _ _ w6.drew;have HOD := Lib.hid (show zn w6.drew 0 5 (.slice (some ⟨b, off, none⟩) g.cols vc) g.cols (zp (zC (zC lx xn) ((xn + N : Nat) : Int))) from HOF.out);have HGD := Lib.hid (zbV HGF.out);clear f0 f1 f2 j0 HOF HGF HKF HPF;generalize w6.drew = wd at *;go_wp2_with fail;refine (HFI.out _ HOD.out).mono ?_;rintro e w9 ⟨rfl, g9, o9⟩;have HG9 := Lib.hid (Zs HGD.out g9);have HO9 := Lib.hid o9;clear g9 o9;go_wp2_with fail;go_end0;refine ⟨rfl, HWI.out _ HG9.out, ?_⟩;rw [HE.out];refine HTN.out _ HG9.out ?_;have := HO9.out;unfold zcM;exact this
set_option maxRecDepth 100000 in
set_option maxHeartbeats 8000000 in
theorem zjT {T : Nat → Nat} {p : Nat} {w : World} {g : Gr} (h : GM T p w g) (x y n : Int) (s : Sty) (hs : zaa w s) :
  Calls Tryz.prog 154 #[.pointer (some ⟨p, 0, none⟩), .int .i64 x, .int .i64 y, .int .i64 n, s.val] w fun e w' => e = .returned (.tuple #[]) ∧ ze (own T w) w w' ∧ GM T p w' (g.ins x y n s) := by
 have hBz := Below.alloc (Below.refl w.heap.size w) (Nat.le_refl _) (.cells #[.int .i64 s.fg, .int .i64 s.bg, .int .i64 s.attr] 35);have hbk0 := zE w (.cells #[.int .i64 s.fg, .int .i64 s.bg, .int .i64 s.attr] 35);have HG0 := Lib.hid (h.below hBz);have HLT := Lib.hid h.lt;clear h;cases hon : g.onIt x y s
 ·have HE := Lib.hid (show g.ins x y n s = g by unfold Gr.ins Gr.rowOp; rw [hon, if_neg (by simp)]);have HON := Lib.hid (zkc HG0.out x y s (hs.below hBz) hon);have hq := fun (wx : World) => Lib.run_eql_slice_nil (P := Tryz.prog) wx 68 133 none 0 0 0 0 Tryz.underlying68;unfold Sty.val at HON ⊢;go_enter Tryz.func154, Tryz.ntmps154;go_wp2_with fail;refine HON.out.mono ?_;rintro e w2 ⟨rfl, b2⟩;have HG2 := Lib.hid (HG0.out.below b2);have HB2 := Lib.hid (hBz.trans (b2.mono (by simp)));clear b2 HON;go_wp2_with fail;refine zcZ rfl rfl ⟨rfl, ze.of_below HB2.out, ?_⟩;rw [HE.out];exact HG2.out
 ·obtain ⟨n1, n2, n3, n4, n5⟩ := zf9 hon;obtain ⟨xn, rfl⟩ : ∃ k : Nat, x = (k : Int) := ⟨x.toNat, by omega⟩;obtain ⟨yn, rfl⟩ : ∃ k : Nat, y = (k : Int) := ⟨y.toNat, by omega⟩;obtain ⟨vr, vo, Lr, Lo, hA⟩ := HG0.out;have hlen := (Zf hA).1;have hyl : yn < Lr.length := (by omega);have hcols := hA.wf.c2;have hrc : Lr[yn].2.cells.length = g.cols := (hA.wf.ce _ (List.mem_append_left _ (by rw [← hA.er]; exact List.mem_map_of_mem (List.getElem_mem hyl)))).1;have hrok : ∀ c ∈ Lr[yn].2.cells, c.Ok := (hA.wf.ce _ (List.mem_append_left _ (by rw [← hA.er]; exact List.mem_map_of_mem (List.getElem_mem hyl)))).2;have HON := Lib.hid (zhx hA xn yn s (hs.below hBz) (by omega) hyl n5);have hcx := hA.ca Lr[yn] (List.mem_append_left _ (List.getElem_mem hyl));have HC := Lib.hid hcx;obtain ⟨b, off, vc, hxv, hnc, hcm⟩ := zF hcx.own (by omega);rw [hrc] at hxv hnc;have HA := Lib.hid hA;clear hA hcx;rw [hxv] at HON;have hq := fun (wx : World) => Lib.run_eql_slice_nil (P := Tryz.prog) wx 68 133 (some ⟨b, off, none⟩) g.cols vc 0 0 Tryz.underlying68;unfold Sty.val at HON ⊢;by_cases hn0 : 0 < n;rotate_left
  ·have d0 : decide (n ≤ 0) = true := decide_eq_true (by omega);have HE := Lib.hid (show g.ins xn yn n s = g by unfold Gr.ins Gr.rowOp; rw [if_neg (fun e => hn0 e.2)]);go_enter Tryz.func154, Tryz.ntmps154;go_wp2_with fail;refine HON.out.mono ?_;rintro e w2 ⟨rfl, b2⟩;have HG2 := Lib.hid (HG0.out.below b2);have HB2 := Lib.hid (hBz.trans (b2.mono (by simp)));clear b2 HON;go_wp2_with fail;refine zcZ rfl rfl ⟨rfl, ze.of_below HB2.out, ?_⟩;rw [HE.out];exact HG2.out
  have d0 : decide (n ≤ 0) = false := decide_eq_false (by omega);obtain ⟨N, hN⟩ : ∃ N : Nat, N = zdI g xn n := ⟨_, rfl⟩;have hmin : min n ((g.cols : Int) - (xn : Int)) = (N : Int) := (by unfold zdI at hN; omega);have hN2 : 1 ≤ N ∧ xn + N ≤ g.cols := (by unfold zdI at hN; omega);have HE := Lib.hid (show g.ins xn yn n s = g.turn yn (fun l => zfR l xn N s) by
   unfold Gr.ins Gr.rowOp;rw [if_pos ⟨hon, hn0⟩, hN, Int.toNat_natCast, Int.toNat_natCast])
  have hbt : T b = 10 + b := by
   obtain ⟨q, e1, e2⟩ := HC.out.tag;rw [hxv] at e1;simp only [Value.ownBlock] at e1;injection e1 with e1;subst e1; exact e2
  have hbl : b < w.heap.size := HLT.out b (by omega);have hwm : IntKind.i64.wrap ((g.cols : Int) - (xn : Int)) = (g.cols : Int) - (xn : Int) := zb _ (by omega) (by omega);have hwx : IntKind.i64.wrap ((xn : Int) + (N : Int)) = (xn : Int) + (N : Int) := zb _ (by omega) (by omega);have hwc : IntKind.i64.wrap ((g.cols : Int) - (N : Int)) = (g.cols : Int) - (N : Int) := zb _ (by omega) (by omega);clear hN hon n1 n2 n3 n4;go_enter Tryz.func154, Tryz.ntmps154;go_wp2_with fail;refine HON.out.mono ?_;rintro e w2 ⟨rfl, b2⟩;have HA2 := Lib.hid (HA.out.mod (.of_below b2) id id id (fun _ => id));have HB2 := Lib.hid (hBz.trans (b2.mono (by simp)));have hbk2 := zm hbk0 b2 (by simp);have hkp2 := HA2.out.blk;have c0 : w2.cell? ⟨p, 0, none⟩ = some (.int .i64 g.cols) := (zX HA2.out).1;have O2 := (HA2.out.ca Lr[yn] (List.mem_append_left _ (List.getElem_mem hyl))).own;have hpt : T p = 1 := HA2.out.tp;have hbp : b ≠ p := fun e => (by rw [e] at hbt; omega);rw [hxv, hrc] at O2;have HTN := Lib.hid (show ∀ w', w2.grownBy w' (some b) → zn w' 0 5 (.slice (some ⟨b, off, none⟩) g.cols vc) g.cols (zp (zfR Lr[yn].2.cells xn N s)) → GM T p w' (g.turn yn (fun l => zfR l xn N s)) from fun w' g' o' => by
   have hll : (zfR Lr[yn].2.cells xn N s).length = g.cols := by
    rw [zmK s (by omega)];exact hrc
   refine HA2.out.turned yn hyl (b := b) (by rw [hxv]; rfl) (Mod.of_gb g' (fun k hk => by injection hk with hk; subst hk; exact hbt)) _ ?_ ?_ ?_
   ·rw [hll, hxv]; exact o'
   ·exact hll
   ·exact zn6 hrok)
  have HWI := Lib.hid (show ∀ w', w2.grownBy w' (some b) → ze (own T w) w w' from fun w' g' => zb7 HB2.out (by omega) g');clear b2 HON hbk0 HA2;generalize Lr[yn].2.cells = lx at *;have hgc : g.cols ≤ 1000000 := (by omega);go_wp2_with fail;refine (zb3 lx xn b off g.cols vc w2 O2 hrc hgc (by omega)).mono ?_;rintro e w5 ⟨rfl, g5, o5⟩;have hbk5 := zo hbk2 g5 (by intro e; injection e with e; omega);have hkp5 := zo hkp2 g5 (by intro e; injection e with e; exact hbp e.symm);have k0 : w5.cell? ⟨p, 0, none⟩ = some (.int .i64 g.cols) := za hkp5 0;have HO5 := Lib.hid o5;have HK5 := Lib.hid hbk5;have HP5 := Lib.hid hkp5;have HG5 := Lib.hid g5;clear o5 hbk5 g5 O2 c0 hbk2 hkp2 hkp5;go_wp2_with fail;refine (zb3 (zC lx xn) ((g.cols : Int) - (N : Int)) b off g.cols vc w5 HO5.out (by rw [zW]; exact hrc) hgc (by omega)).mono ?_;rintro e w6 ⟨rfl, g6, o6⟩;rw [show (g.cols : Int) - (N : Int) = ((lx.length - N : Nat) : Int) by omega] at o6;have hbk6 := zo HK5.out g6 (by intro e; injection e with e; omega);have hkp6 := zo HP5.out g6 (by intro e; injection e with e; exact hbp e.symm);have HG6 := Lib.hid (Zs HG5.out g6);have HK6 := Lib.hid hbk6;have HP6 := Lib.hid hkp6;have HO6 := Lib.hid o6;clear k0 g6 o6 hbk6 hkp6 HG5 HK5 HP5 HO5 hq;have hlen2 : (zC (zC lx xn) ((lx.length - N : Nat) : Int)).length = g.cols := (by rw [zW, zW]; exact hrc);obtain ⟨da, hsl1, hda⟩ := zf7 (P := Tryz.prog) (size := 5) Tryz.underlying68 zI b off g.cols vc (xn + N) (by omega) hnc;rw [show ((xn + N : Nat) : Int) = (xn : Int) + (N : Int) by omega] at hsl1;have hsl2 := zcS (P := Tryz.prog) (size := 5) Tryz.underlying68 zI b off g.cols vc xn (by omega) (by omega);have hrd := zdA HO6.out xn g.cols (vc - xn) ⟨b, off + xn * 5, none⟩ (fun _ => rfl) (by omega) (Nat.le_refl _);rw [zdQ, zbM, List.take_of_length_le (by rw [List.length_drop, hlen2]; exact Nat.le_refl _)] at hrd;have hcp := fun (wx : World) (ho : zn wx 0 5 (.slice (some ⟨b, off, none⟩) g.cols vc) g.cols (zp (zC (zC lx xn) ((lx.length - N : Nat) : Int)))) (hr : zaw wx 5 (.slice (some ⟨b, off + xn * 5, none⟩) (g.cols - xn) (vc - xn)) (g.cols - xn) (zp ((zC (zC lx xn) ((lx.length - N : Nat) : Int)).drop xn))) => zbS (P := Tryz.prog) Tryz.underlying68 zI ho (xn + N) (g.cols - (xn + N)) (vc - (xn + N)) da (fun h0 => hda (by omega)) (by omega) hr (zcr _) 3;have HRD := Lib.hid (show zaw w6.drew 5 (.slice (some ⟨b, off + xn * 5, none⟩) (g.cols - xn) (vc - xn)) (g.cols - xn) (zp ((zC (zC lx xn) ((lx.length - N : Nat) : Int)).drop xn)) from hrd);have HO6d := Lib.hid (show zn w6.drew 0 5 (.slice (some ⟨b, off, none⟩) g.cols vc) g.cols (zp (zC (zC lx xn) ((lx.length - N : Nat) : Int))) from HO6.out);have hcp6 := hcp w6.drew HO6d.out HRD.out;rw [show Nat.min (g.cols - xn) (g.cols - (xn + N)) = g.cols - (xn + N) by show min _ _ = _; omega, zbM] at hcp6;clear hcp hrd;have hml : (((zC (zC lx xn) ((lx.length - N : Nat) : Int)).drop xn).take (g.cols - (xn + N))).length = g.cols - (xn + N) := (by rw [List.length_take, List.length_drop, hlen2]; omega);go_upto_region 6 with fail
  go_still_tail 8, (by kernel_rfl)
  change wpList _ _ _ _ _ w6.drew;have hO7 := zav HO6d.out (xn + N) (zp (((zC (zC lx xn) ((lx.length - N : Nat) : Int)).drop xn).take (g.cols - (xn + N)))) (by rw [zbc, hml]; omega);rw [← zcq] at hO7;have g7 := zP w6.drew b (off + (xn + N) * 5) (zp (((zC (zC lx xn) ((lx.length - N : Nat) : Int)).drop xn).take (g.cols - (xn + N))));have HKF := Lib.hid (zo (Zo HK6.out) g7 (by intro e; injection e with e; omega));have HPF := Lib.hid (zo (Zo HP6.out) g7 (by intro e; injection e with e; exact hbp e.symm));have HGF := Lib.hid (Zs (zbV HG6.out) g7);have HOF := Lib.hid hO7;clear hO7 g7 HK6 HP6 HG6 HO6 HO6d HRD;generalize hw7 : w6.drew.setCells b (off + (xn + N) * 5) (zp (((zC (zC lx xn) ((lx.length - N : Nat) : Int)).drop xn).take (g.cols - (xn + N)))) = w7 at *;clear hw7;have f0 : w7.cell? ⟨w.heap.size, 0, none⟩ = some (.int .i64 s.fg) := za HKF.out 0;have f1 : w7.cell? ⟨w.heap.size, 1, none⟩ = some (.int .i64 s.bg) := za HKF.out 1;have f2 : w7.cell? ⟨w.heap.size, 2, none⟩ = some (.int .i64 s.attr) := za HKF.out 2;have j0 : w7.cell? ⟨p, 0, none⟩ = some (.int .i64 g.cols) := za HPF.out 0;have hsl := zbP (P := Tryz.prog) (size := 5) Tryz.underlying68 zI b off g.cols vc xn (xn + N) (by omega) (by omega) (by omega);rw [show xn + N - xn = N by omega, show ((xn + N : Nat) : Int) = (xn : Int) + (N : Int) by omega] at hsl;have HFI := Lib.hid (fun wx (ho : zn wx 0 5 (.slice (some ⟨b, off, none⟩) g.cols vc) g.cols (zp (z8 (zC (zC lx xn) ((lx.length - N : Nat) : Int)) (xn + N) (((zC (zC lx xn) ((lx.length - N : Nat) : Int)).drop xn).take (g.cols - (xn + N)))))) => zdd (z8 (zC (zC lx xn) ((lx.length - N : Nat) : Int)) (xn + N) (((zC (zC lx xn) ((lx.length - N : Nat) : Int)).drop xn).take (g.cols - (xn + N)))) s b off g.cols vc xn N (vc - xn) wx ho (by rw [ZT _ _ _ (by rw [hml, hlen2]; omega)]; exact hlen2) (by omega) (by unfold maxLen; omega));unfold Sty.val at HFI;go_upto_region 7 with fail
  go_still_tail 7, (by kernel_rfl)
  change wpList _ _ _ _ _ w7.drew;have HOD := Lib.hid (show zn w7.drew 0 5 (.slice (some ⟨b, off, none⟩) g.cols vc) g.cols (zp (z8 (zC (zC lx xn) ((lx.length - N : Nat) : Int)) (xn + N) (((zC (zC lx xn) ((lx.length - N : Nat) : Int)).drop xn).take (g.cols - (xn + N))))) from HOF.out);have HGD := Lib.hid (zbV HGF.out);clear f0 f1 f2 j0 HOF HGF HKF HPF;generalize w7.drew = wd at *;go_wp2_with fail;refine (HFI.out _ HOD.out).mono ?_;rintro e w9 ⟨rfl, g9, o9⟩;have HG9 := Lib.hid (Zs HGD.out g9);have HO9 := Lib.hid o9;clear g9 o9;go_wp2_with fail;go_end0;refine ⟨rfl, HWI.out _ HG9.out, ?_⟩;rw [HE.out];refine HTN.out _ HG9.out ?_;have := HO9.out;rw [show g.cols - (xn + N) = lx.length - xn - N by omega, zoJ lx xn N s (by omega)] at this;exact this
set_option maxRecDepth 100000 in
set_option maxHeartbeats 8000000 in
theorem zny {T : Nat → Nat} {p : Nat} {w : World} {g : Gr} (h : GM T p w g) (x y n : Int) (s : Sty) (hs : zaa w s) :
  Calls Tryz.prog 281 #[.pointer (some ⟨p, 0, none⟩), .int .i64 x, .int .i64 y, .int .i64 n, s.val] w fun e w' => e = .returned (.tuple #[]) ∧ ze (own T w) w w' ∧ GM T p w' (g.del x y n s) := by
 have hBz := Below.alloc (Below.refl w.heap.size w) (Nat.le_refl _) (.cells #[.int .i64 s.fg, .int .i64 s.bg, .int .i64 s.attr] 35);have hbk0 := zE w (.cells #[.int .i64 s.fg, .int .i64 s.bg, .int .i64 s.attr] 35);have HG0 := Lib.hid (h.below hBz);have HLT := Lib.hid h.lt;clear h;cases hon : g.onIt x y s
 ·have HE := Lib.hid (show g.del x y n s = g by unfold Gr.del Gr.rowOp; rw [hon, if_neg (by simp)]);have HON := Lib.hid (zkc HG0.out x y s (hs.below hBz) hon);have hq := fun (wx : World) => Lib.run_eql_slice_nil (P := Tryz.prog) wx 68 133 none 0 0 0 0 Tryz.underlying68;unfold Sty.val at HON ⊢;go_enter Tryz.func281, Tryz.ntmps281;go_wp2_with fail;refine HON.out.mono ?_;rintro e w2 ⟨rfl, b2⟩;have HG2 := Lib.hid (HG0.out.below b2);have HB2 := Lib.hid (hBz.trans (b2.mono (by simp)));clear b2 HON;go_wp2_with fail;refine zcZ rfl rfl ⟨rfl, ze.of_below HB2.out, ?_⟩;rw [HE.out];exact HG2.out
 ·obtain ⟨n1, n2, n3, n4, n5⟩ := zf9 hon;obtain ⟨xn, rfl⟩ : ∃ k : Nat, x = (k : Int) := ⟨x.toNat, by omega⟩;obtain ⟨yn, rfl⟩ : ∃ k : Nat, y = (k : Int) := ⟨y.toNat, by omega⟩;obtain ⟨vr, vo, Lr, Lo, hA⟩ := HG0.out;have hlen := (Zf hA).1;have hyl : yn < Lr.length := (by omega);have hcols := hA.wf.c2;have hrc : Lr[yn].2.cells.length = g.cols := (hA.wf.ce _ (List.mem_append_left _ (by rw [← hA.er]; exact List.mem_map_of_mem (List.getElem_mem hyl)))).1;have hrok : ∀ c ∈ Lr[yn].2.cells, c.Ok := (hA.wf.ce _ (List.mem_append_left _ (by rw [← hA.er]; exact List.mem_map_of_mem (List.getElem_mem hyl)))).2;have HON := Lib.hid (zhx hA xn yn s (hs.below hBz) (by omega) hyl n5);have hcx := hA.ca Lr[yn] (List.mem_append_left _ (List.getElem_mem hyl));have HC := Lib.hid hcx;obtain ⟨b, off, vc, hxv, hnc, hcm⟩ := zF hcx.own (by omega);rw [hrc] at hxv hnc;have HA := Lib.hid hA;clear hA hcx;rw [hxv] at HON;have hq := fun (wx : World) => Lib.run_eql_slice_nil (P := Tryz.prog) wx 68 133 (some ⟨b, off, none⟩) g.cols vc 0 0 Tryz.underlying68;unfold Sty.val at HON ⊢;by_cases hn0 : 0 < n;rotate_left
  ·have d0 : decide (n ≤ 0) = true := decide_eq_true (by omega);have HE := Lib.hid (show g.del xn yn n s = g by unfold Gr.del Gr.rowOp; rw [if_neg (fun e => hn0 e.2)]);go_enter Tryz.func281, Tryz.ntmps281;go_wp2_with fail;refine HON.out.mono ?_;rintro e w2 ⟨rfl, b2⟩;have HG2 := Lib.hid (HG0.out.below b2);have HB2 := Lib.hid (hBz.trans (b2.mono (by simp)));clear b2 HON;go_wp2_with fail;refine zcZ rfl rfl ⟨rfl, ze.of_below HB2.out, ?_⟩;rw [HE.out];exact HG2.out
  have d0 : decide (n ≤ 0) = false := decide_eq_false (by omega);obtain ⟨N, hN⟩ : ∃ N : Nat, N = zdI g xn n := ⟨_, rfl⟩;have hmin : min n ((g.cols : Int) - (xn : Int)) = (N : Int) := (by unfold zdI at hN; omega);have hN2 : 1 ≤ N ∧ xn + N ≤ g.cols := (by unfold zdI at hN; omega);have HE := Lib.hid (show g.del xn yn n s = g.turn yn (fun l => zfS l xn N s) by
   unfold Gr.del Gr.rowOp;rw [if_pos ⟨hon, hn0⟩, hN, Int.toNat_natCast, Int.toNat_natCast])
  have hbt : T b = 10 + b := by
   obtain ⟨q, e1, e2⟩ := HC.out.tag;rw [hxv] at e1;simp only [Value.ownBlock] at e1;injection e1 with e1;subst e1; exact e2
  have hbl : b < w.heap.size := HLT.out b (by omega);have hwm : IntKind.i64.wrap ((g.cols : Int) - (xn : Int)) = (g.cols : Int) - (xn : Int) := zb _ (by omega) (by omega);have hwx : IntKind.i64.wrap ((xn : Int) + (N : Int)) = (xn : Int) + (N : Int) := zb _ (by omega) (by omega);have hwc : IntKind.i64.wrap ((g.cols : Int) - (N : Int)) = (g.cols : Int) - (N : Int) := zb _ (by omega) (by omega);clear hN hon n1 n2 n3 n4;go_enter Tryz.func281, Tryz.ntmps281;go_wp2_with fail;refine HON.out.mono ?_;rintro e w2 ⟨rfl, b2⟩;have HA2 := Lib.hid (HA.out.mod (.of_below b2) id id id (fun _ => id));have HB2 := Lib.hid (hBz.trans (b2.mono (by simp)));have hbk2 := zm hbk0 b2 (by simp);have hkp2 := HA2.out.blk;have c0 : w2.cell? ⟨p, 0, none⟩ = some (.int .i64 g.cols) := (zX HA2.out).1;have O2 := (HA2.out.ca Lr[yn] (List.mem_append_left _ (List.getElem_mem hyl))).own;have hpt : T p = 1 := HA2.out.tp;have hbp : b ≠ p := fun e => (by rw [e] at hbt; omega);rw [hxv, hrc] at O2;have HTN := Lib.hid (show ∀ w', w2.grownBy w' (some b) → zn w' 0 5 (.slice (some ⟨b, off, none⟩) g.cols vc) g.cols (zp (zfS Lr[yn].2.cells xn N s)) → GM T p w' (g.turn yn (fun l => zfS l xn N s)) from fun w' g' o' => by
   have hll : (zfS Lr[yn].2.cells xn N s).length = g.cols := by
    rw [zmL s (by omega)];exact hrc
   refine HA2.out.turned yn hyl (b := b) (by rw [hxv]; rfl) (Mod.of_gb g' (fun k hk => by injection hk with hk; subst hk; exact hbt)) _ ?_ ?_ ?_
   ·rw [hll, hxv]; exact o'
   ·exact hll
   ·exact zn7 hrok)
  have HWI := Lib.hid (show ∀ w', w2.grownBy w' (some b) → ze (own T w) w w' from fun w' g' => zb7 HB2.out (by omega) g');clear b2 HON hbk0 HA2;generalize Lr[yn].2.cells = lx at *;have hgc : g.cols ≤ 1000000 := (by omega);go_wp2_with fail;refine (zb3 lx xn b off g.cols vc w2 O2 hrc hgc (by omega)).mono ?_;rintro e w5 ⟨rfl, g5, o5⟩;have hbk5 := zo hbk2 g5 (by intro e; injection e with e; omega);have hkp5 := zo hkp2 g5 (by intro e; injection e with e; exact hbp e.symm);have k0 : w5.cell? ⟨p, 0, none⟩ = some (.int .i64 g.cols) := za hkp5 0;have HO5 := Lib.hid o5;have HK5 := Lib.hid hbk5;have HP5 := Lib.hid hkp5;have HG5 := Lib.hid g5;clear o5 hbk5 g5 O2 c0 hbk2 hkp2 hkp5;go_wp2_with fail;refine (zb3 (zC lx xn) ((xn : Int) + (N : Int)) b off g.cols vc w5 HO5.out (by rw [zW]; exact hrc) hgc (by omega)).mono ?_;rintro e w6 ⟨rfl, g6, o6⟩;rw [show (xn : Int) + (N : Int) = ((xn + N : Nat) : Int) by omega] at o6;have hbk6 := zo HK5.out g6 (by intro e; injection e with e; omega);have hkp6 := zo HP5.out g6 (by intro e; injection e with e; exact hbp e.symm);have HG6 := Lib.hid (Zs HG5.out g6);have HK6 := Lib.hid hbk6;have HP6 := Lib.hid hkp6;have HO6 := Lib.hid o6;clear k0 g6 o6 hbk6 hkp6 HG5 HK5 HP5 HO5 hq;have hlen2 : (zC (zC lx xn) ((xn + N : Nat) : Int)).length = g.cols := (by rw [zW, zW]; exact hrc);have hsl1 := zcS (P := Tryz.prog) (size := 5) Tryz.underlying68 zI b off g.cols vc xn (by omega) (by omega);obtain ⟨sa, hsl2, hsa⟩ := zf7 (P := Tryz.prog) (size := 5) Tryz.underlying68 zI b off g.cols vc (xn + N) (by omega) hnc;rw [show ((xn + N : Nat) : Int) = (xn : Int) + (N : Int) by omega] at hsl2;have hrd := zdA HO6.out (xn + N) g.cols (vc - (xn + N)) sa hsa (by omega) (Nat.le_refl _);rw [zdQ, zbM, List.take_of_length_le (by rw [List.length_drop, hlen2]; exact Nat.le_refl _)] at hrd;have hcp := fun (wx : World) (ho : zn wx 0 5 (.slice (some ⟨b, off, none⟩) g.cols vc) g.cols (zp (zC (zC lx xn) ((xn + N : Nat) : Int)))) (hr : zaw wx 5 (.slice (some sa) (g.cols - (xn + N)) (vc - (xn + N))) (g.cols - (xn + N)) (zp ((zC (zC lx xn) ((xn + N : Nat) : Int)).drop (xn + N)))) => zbS (P := Tryz.prog) Tryz.underlying68 zI ho xn (g.cols - xn) (vc - xn) ⟨b, off + xn * 5, none⟩ (fun _ => rfl) (by omega) hr (zcr _) 3;have HRD := Lib.hid (show zaw w6.drew 5 (.slice (some sa) (g.cols - (xn + N)) (vc - (xn + N))) (g.cols - (xn + N)) (zp ((zC (zC lx xn) ((xn + N : Nat) : Int)).drop (xn + N))) from hrd);have HO6d := Lib.hid (show zn w6.drew 0 5 (.slice (some ⟨b, off, none⟩) g.cols vc) g.cols (zp (zC (zC lx xn) ((xn + N : Nat) : Int))) from HO6.out);have hcp6 := hcp w6.drew HO6d.out HRD.out;rw [show Nat.min (g.cols - (xn + N)) (g.cols - xn) = g.cols - (xn + N) by show min _ _ = _; omega, zbM] at hcp6;clear hcp hrd;have hml : (((zC (zC lx xn) ((xn + N : Nat) : Int)).drop (xn + N)).take (g.cols - (xn + N))).length = g.cols - (xn + N) := (by rw [List.length_take, List.length_drop, hlen2]; omega);go_upto_region 6 with fail
  go_still_tail 8, (by kernel_rfl)
  change wpList _ _ _ _ _ w6.drew;have hO7 := zav HO6d.out xn (zp (((zC (zC lx xn) ((xn + N : Nat) : Int)).drop (xn + N)).take (g.cols - (xn + N)))) (by rw [zbc, hml]; omega);rw [← zcq] at hO7;have g7 := zP w6.drew b (off + xn * 5) (zp (((zC (zC lx xn) ((xn + N : Nat) : Int)).drop (xn + N)).take (g.cols - (xn + N))));have HKF := Lib.hid (zo (Zo HK6.out) g7 (by intro e; injection e with e; omega));have HPF := Lib.hid (zo (Zo HP6.out) g7 (by intro e; injection e with e; exact hbp e.symm));have HGF := Lib.hid (Zs (zbV HG6.out) g7);have HOF := Lib.hid hO7;clear hO7 g7 HK6 HP6 HG6 HO6 HO6d HRD;generalize hw7 : w6.drew.setCells b (off + xn * 5) (zp (((zC (zC lx xn) ((xn + N : Nat) : Int)).drop (xn + N)).take (g.cols - (xn + N)))) = w7 at *;clear hw7;have f0 : w7.cell? ⟨w.heap.size, 0, none⟩ = some (.int .i64 s.fg) := za HKF.out 0;have f1 : w7.cell? ⟨w.heap.size, 1, none⟩ = some (.int .i64 s.bg) := za HKF.out 1;have f2 : w7.cell? ⟨w.heap.size, 2, none⟩ = some (.int .i64 s.attr) := za HKF.out 2;have j0 : w7.cell? ⟨p, 0, none⟩ = some (.int .i64 g.cols) := za HPF.out 0;have hsl := zcS (P := Tryz.prog) (size := 5) Tryz.underlying68 zI b off g.cols vc (g.cols - N) (by omega) (by omega);rw [show g.cols - (g.cols - N) = N by omega, show ((g.cols - N : Nat) : Int) = (g.cols : Int) - (N : Int) by omega] at hsl;have HFI := Lib.hid (fun wx (ho : zn wx 0 5 (.slice (some ⟨b, off, none⟩) g.cols vc) g.cols (zp (z8 (zC (zC lx xn) ((xn + N : Nat) : Int)) xn (((zC (zC lx xn) ((xn + N : Nat) : Int)).drop (xn + N)).take (g.cols - (xn + N)))))) => zdd (z8 (zC (zC lx xn) ((xn + N : Nat) : Int)) xn (((zC (zC lx xn) ((xn + N : Nat) : Int)).drop (xn + N)).take (g.cols - (xn + N)))) s b off g.cols vc (g.cols - N) N (vc - (g.cols - N)) wx ho (by rw [ZT _ _ _ (by rw [hml, hlen2]; omega)]; exact hlen2) (by omega) (by unfold maxLen; omega));unfold Sty.val at HFI;go_upto_region 7 with fail
  go_still_tail 9, (by kernel_rfl)
  change wpList _ _ _ _ _ w7.drew;have HOD := Lib.hid (show zn w7.drew 0 5 (.slice (some ⟨b, off, none⟩) g.cols vc) g.cols (zp (z8 (zC (zC lx xn) ((xn + N : Nat) : Int)) xn (((zC (zC lx xn) ((xn + N : Nat) : Int)).drop (xn + N)).take (g.cols - (xn + N))))) from HOF.out);have HGD := Lib.hid (zbV HGF.out);clear f0 f1 f2 j0 HOF HGF HKF HPF;generalize w7.drew = wd at *;go_wp2_with fail;refine (HFI.out _ HOD.out).mono ?_;rintro e w9 ⟨rfl, g9, o9⟩;have HG9 := Lib.hid (Zs HGD.out g9);have HO9 := Lib.hid o9;clear g9 o9;go_wp2_with fail;go_end0;refine ⟨rfl, HWI.out _ HG9.out, ?_⟩;rw [HE.out];refine HTN.out _ HG9.out ?_;have := HO9.out;rw [List.take_of_length_le (by rw [List.length_drop, hlen2]; exact Nat.le_refl _), show g.cols - N = lx.length - N by omega, zoK lx xn N s (by omega)] at this;exact this
end
section
open Go.RowKit
attribute [local go_sem ↓] Go.wp_at_zero Go.wp_at_succ
def Gr.clear (g : Gr) : Gr := { g with old := [] }
theorem zmm {g : Gr} (h : g.WF) : g.clear.WF := ⟨h.c1, h.c2, h.r1, h.r2, h.li, Nat.zero_le _, fun r hr => h.ce r (by
 rcases List.mem_append.1 hr with hr | hr
 ·exact List.mem_append_left _ hr
 ·exact absurd hr (by simp [Gr.clear]))⟩
theorem zjU {a : Option Addr} {n m c c2 : Nat} {o : Option Nat} (h : (Value.slice a n c).ownBlock = o) : (Value.slice a m c2).ownBlock = o := by cases a <;> exact h
theorem zi3 {P : Program} {t e : TypeId} (ht : P.underlying t = some (.slice e)) (a : Option Addr) (c : Nat) (ty : TypeId) (w : World) : (Builtin.clear_ #[t] ty #[.slice a 0 c]).run P w = .ok (.tuple #[]) w := by
 cases a <;> simp [Builtin.clear_, run_underlying ht]
theorem zfC {P : Program} {t e : TypeId} {size : Nat} {z : Value} (ht : P.underlying t = some (.slice e)) (hz : ∀ w, (zeroValue e).run P w = .ok z w) (hzs : z.cells.size = size) (hz1 : ∀ u ∈ z.cells.toList, u.oneCell' = true) {w : World} {base b off n c : Nat} {xs : List Value} (h : zn w base size (.slice (some ⟨b, off, none⟩) n c) n xs)
  (x m c1 : Nat) (hm : 0 < m) (hx : x + m ≤ n) (ty : TypeId) :
  (Builtin.clear_ #[t] ty #[.slice (some ⟨b, off + x * size, none⟩) m c1]).run P w = .ok (.tuple #[]) (w.setCells b (off + x * size) (Builtin.zeroCells z.cells m).toList) := by
 obtain ⟨e1, h2⟩ := h;rcases h2 with ⟨e, _⟩ | ⟨b', off', c', e, hb, hbs, hnc, hcm, hcells, hxs⟩
 ·simp at e
 simp only [Value.slice.injEq, Option.some.injEq, Addr.mk.injEq] at e;obtain ⟨⟨rfl, rfl, _⟩, _, rfl⟩ := e;have hzl : (Builtin.zeroCells z.cells m).toList.length = m * size := (by simp [Builtin.zeroCells, hzs]);have hin : ∀ j, j < (Builtin.zeroCells z.cells m).toList.length → x * size + j < c * size := fun j hj => by
  have a1 : x * size + m * size ≤ c * size := (by rw [← Nat.add_mul]; exact Nat.mul_le_mul_right _ (by omega));omega
 have hone : ∀ u ∈ (Builtin.zeroCells z.cells m).toList, u.oneCell' = true := fun u hu => by
  unfold Builtin.zeroCells at hu;simp only [Array.toList_map, List.mem_map, Array.mem_toList_iff, Array.mem_range] at hu;obtain ⟨i, hi, rfl⟩ := hu;have hpos : 0 < z.cells.size := by
   rcases Nat.eq_zero_or_pos z.cells.size with h0 | h0
   ·rw [h0] at hi; simp at hi
   ·exact h0
  have hlt := Nat.mod_lt i hpos;rw [getElem!_pos z.cells _ hlt];exact hz1 _ (by simp)
 have hst := run_storeCells_cells (P := P) b (off + x * size) (Builtin.zeroCells z.cells m).toList 0 w (fun j hj => by
   have := (hcells _ (hin j hj)).1
   rwa [← Nat.add_assoc] at this) (fun j hj => by
   have := (hcells _ (hin j hj)).2
   rwa [← Nat.add_assoc] at this) hone
 rw [Nat.add_zero] at hst;obtain ⟨m', rfl⟩ : ∃ m', m = m' + 1 := ⟨m - 1, by omega⟩;simp [Builtin.clear_, run_underlying ht, hz, hst]
set_option maxRecDepth 100000 in
set_option maxHeartbeats 2000000 in
theorem zi4 {T : Nat → Nat} {p : Nat} {w : World} {g : Gr} (h : GM T p w g) :
  Calls Tryz.prog 124 #[.pointer (some ⟨p, 0, none⟩)] w fun e w' => e = .returned (.tuple #[]) ∧ ze (own T w) w w' ∧ GM T p w' g.clear := by
 obtain ⟨vr, vo, Lr, Lo, h0⟩ := h;obtain ⟨c0, c1, c2, c3⟩ := zX h0;have hpl := zj h0.blk;have HG := Lib.hid h0;obtain ⟨w2, hcl, hg2, ho2⟩ : ∃ w2, (∀ ty, (Builtin.clear_ #[126] ty #[vo]).run Tryz.prog w = .ok (.tuple #[]) w2) ∧ w.grownBy w2 vo.ownBlock ∧ ∃ xs, zn w2 0 2 vo Lo.length xs := by
  rcases Nat.eq_zero_or_pos Lo.length with hz | hz
  ·obtain ⟨a, c, rfl⟩ := zQ h0.ro.own;have e0 := List.eq_nil_of_length_eq_zero hz;subst e0;exact ⟨w, fun ty => zi3 Tryz.underlying126 a c ty w, zr _ _, _, h0.ro.own⟩
  ·obtain ⟨b, off, c, rfl, _, _⟩ := zF h0.ro.own hz;obtain ⟨zs, hzl, _⟩ := zg2 (P := Tryz.prog) (size := 2) Tryz.underlying126 zgd rfl zge h0.ro.own 0 Lo.length c hz (by omega) 0;refine ⟨w.setCells b (off + 0 * 2) (Builtin.zeroCells (Value.agg #[.slice none 0 0, .bool false]).cells Lo.length).toList, fun ty => ?_, zP _ _ _ _, z8 (zf Lo) (0 * 2) (Builtin.zeroCells (Value.agg #[.slice none 0 0, .bool false]).cells Lo.length).toList, ?_⟩
   ·have := zfC (P := Tryz.prog) (size := 2) Tryz.underlying126 zgd rfl zge h0.ro.own 0 Lo.length c hz (by omega) ty;simpa using this
   ·exact zbo h0.ro.own (0 * 2) _ (by simp [Builtin.zeroCells, Value.cells])
 obtain ⟨xs, ho2⟩ := ho2;obtain ⟨va, vc, rfl⟩ := zQ h0.ro.own;have hop : (Value.slice va Lo.length vc).ownBlock ≠ some p := fun e => (by have h1 := h0.ro.tag p e; rw [h0.tp] at h1; omega);have hk2 := zo h0.blk hg2 (fun e => hop e.symm);have e3 : w2.cell? ⟨p, 3, none⟩ = some (.slice va Lo.length vc) := za hk2 3;have f3 : w2.frozen? ⟨p, 3, none⟩ = false := zy hk2 3;have hsl : ∀ wx, (Instr.slice 126 (.slice va Lo.length vc) none (some (.int .i64 0)) none).run Tryz.prog wx = .ok (.slice va 0 vc) wx := fun wx => zhq (P := Tryz.prog) (size := 2) Tryz.underlying126 zH va Lo.length vc 0 (Nat.zero_le _) wx;have HK2 := Lib.hid hk2;have HO2 := Lib.hid ho2;have HG2 := Lib.hid hg2;have HOP := Lib.hid hop;clear h0 hk2 ho2 hg2 hop c0 c1 c2;go_enter Tryz.func124, Tryz.ntmps124;go_wp2_with fail;go_end0;have g3 : w2.grownBy (w2.setCell ⟨p, 3, none⟩ (.slice va 0 vc)) (some p) := zO (zr _ _) _ _;have m : Mod T (fun t => t = 3 ∨ t = 1) w (w2.setCell ⟨p, 3, none⟩ (.slice va 0 vc)) := (Mod.of_gb HG2.out (fun k hk => .inl (HG.out.ro.tag k hk))).trans (Mod.of_gb g3 (fun k hk => by injection hk with hk; subst hk; exact .inr HG.out.tp));refine ⟨rfl, ⟨m.os, m.tape, m.output, m.size, fun k hk hn => m.block k hk (fun e => hn (.inl (by rcases e with e | e <;> rw [e] <;> decide)))⟩, vr, .slice va 0 vc, Lr, [], ⟨fun k hk => Nat.lt_of_lt_of_le (HG.out.lt k hk) m.size, ?_, HG.out.tp, HG.out.rr.mod m (by decide), ⟨?_, fun k hk => HG.out.ro.tag k (zjU hk)⟩, HG.out.er, rfl, fun x hx => ?_, ?_, zmm HG.out.wf⟩⟩
 ·exact zw HK2.out 3 _
 ·have h4 : zn w2 0 2 (.slice va 0 vc) 0 [] := by
   rcases HO2.out.2 with ⟨e, _⟩ | ⟨b, off, cap, e, h1, h2, h3, h4, h5, h6⟩
   ·simp only [Value.slice.injEq] at e;obtain ⟨rfl, _, rfl⟩ := e;exact ZX _ _ _
   ·simp only [Value.slice.injEq] at e;obtain ⟨rfl, _, rfl⟩ := e;exact ⟨rfl, .inr ⟨b, off, _, rfl, h1, h2, Nat.zero_le _, h4, h5, fun j u hu => by simp at hu⟩⟩
  exact zx h4 g3 (fun k hk e => HOP.out (by rw [e]; exact zjU hk))
 ·rw [List.append_nil] at hx;exact (HG.out.ca x (List.mem_append_left _ hx)).mod m (fun k _ => by omega)
 ·have := HG.out.nd;rw [List.map_append, List.nodup_append] at this;rw [List.append_nil];exact this.1
end
section
open Go.RowKit
def ze1 (d : Dec) : Prop := d.hav ≠ 0 → 128 ≤ d.lo ∧ d.hi ≤ 191 ∧
 ((d.more = 1 ∧ 2 ≤ d.r ∧ d.r ≤ 17407 ∧ (d.r < 864 ∨ 895 < d.r)) ∨ (d.more = 2 ∧ 0 ≤ d.r ∧ d.r ≤ 271 ∧ (d.r = 0 → 160 ≤ d.lo) ∧ (d.r = 13 → d.hi ≤ 159)) ∨
  (d.more = 3 ∧ 0 ≤ d.r ∧ d.r ≤ 4 ∧ (d.r = 0 → 144 ≤ d.lo) ∧ (d.r = 4 → d.hi ≤ 143)))
theorem zhd {r : Int} (h1 : 32 ≤ r) (h2 : r ≠ 127) (h3 : (0 ≤ r ∧ r < 55296) ∨ (57343 < r ∧ r ≤ 1114111)) : zf2 r = true := by
 unfold zf2 Lib.validRune;rw [decide_eq_true h1, beq_eq_false_iff_ne.2 h2, decide_eq_true (show (0 ≤ r ∧ r < 0xD800) ∨ (0xDFFF < r ∧ r ≤ 0x10FFFF) from h3)];rfl
theorem zfD : zf2 65533 = true := zhd (by decide) (by decide) (by omega)
theorem zfE (d : Dec) (b : Int) (hd : d.hav = 0) (h0 : 0 ≤ b) (h1 : b ≤ 255) :
  ze1 (zY d b).1 ∧ (32 ≤ b → b ≠ 127 → ∀ r ∈ (zY d b).2, zf2 r = true) ∧ (zY d b).2.length + (if (zY d b).1.hav = 0 then 0 else 1) = 1 := by
 unfold zY;split
 ·rename_i hb;refine ⟨fun h => absurd hd h, fun h2 h3 r hr => ?_, by simp⟩;simp at hr; subst hr;exact zhd h2 h3 (by omega)
 split
 ·exact ⟨fun _ => ⟨by simp, by simp, .inl ⟨rfl, by simp only []; omega, by simp only []; omega, by simp only []; omega⟩⟩, fun _ _ r hr => by simp at hr, by simp⟩
 split
 ·refine ⟨fun _ => ⟨?_, ?_, .inr (.inl ⟨rfl, ?_, ?_, ?_, ?_⟩)⟩, fun _ _ r hr => by simp at hr, by simp⟩
  ·simp only []; split <;> omega
  ·simp only []; split <;> omega
  ·simp only []; omega
  ·simp only []; omega
  ·simp only []; intro h; rw [if_pos (by omega)]; omega
  ·simp only []; intro h; rw [if_pos (by omega)]; omega
 split
 ·refine ⟨fun _ => ⟨?_, ?_, .inr (.inr ⟨rfl, ?_, ?_, ?_, ?_⟩)⟩, fun _ _ r hr => by simp at hr, by simp⟩
  ·simp only []; split <;> omega
  ·simp only []; split <;> omega
  ·simp only []; omega
  ·simp only []; omega
  ·simp only []; intro h; rw [if_pos (by omega)]; omega
  ·simp only []; intro h; rw [if_pos (by omega)]; omega
 ·refine ⟨fun h => absurd hd h, fun _ _ r hr => ?_, by simp⟩;simp at hr; subst hr;exact zfD
theorem zkB (d : Dec) (b : Int) (hd : ze1 d) (h0 : 0 ≤ b) (h1 : b ≤ 255) :
  ze1 (Zg d b).1 ∧ (32 ≤ b → b ≠ 127 → ∀ r ∈ (Zg d b).2, zf2 r = true) ∧ (Zg d b).2.length + (if (Zg d b).1.hav = 0 then 0 else 1) ≤ 1 + (if d.hav = 0 then 0 else 1) := by
 unfold Zg;by_cases hh : d.hav = 0
 ·rw [if_pos hh, if_pos hh];obtain ⟨g1, g2, g3⟩ := zfE d b hh h0 h1;exact ⟨g1, g2, by omega⟩
 rw [if_neg hh, if_neg hh];by_cases hb : b < d.lo ∨ d.hi < b
 ·rw [if_pos hb];obtain ⟨g1, g2, g3⟩ := zfE { d with hav := 0 } b rfl h0 h1;refine ⟨g1, fun k1 k2 r hr => ?_, ?_⟩
  ·rcases List.mem_cons.1 hr with rfl | hr
   ·exact zfD
   ·exact g2 k1 k2 r hr
  ·simp only [List.length_cons]; omega
 rw [if_neg hb];obtain ⟨k1, k2, k3⟩ := hd hh;by_cases hm : 1 < d.more
 ·rw [if_pos hm];refine ⟨fun _ => ⟨by simp, by simp, ?_⟩, fun _ _ r hr => by simp at hr, by simp only [List.length_nil]; split <;> omega⟩;simp only [];rcases k3 with ⟨m1, _⟩ | ⟨m2, r0, r1, r2, r3⟩ | ⟨m3, r0, r1, r2, r3⟩
  ·omega
  ·left;refine ⟨by omega, ?_, ?_, ?_⟩
   ·by_cases h : d.r = 0
    ·have := r2 h; omega
    ·omega
   ·omega
   ·by_cases h : d.r = 13
    ·have := r3 h; omega
    ·omega
  ·right; left;refine ⟨by omega, ?_, ?_, ?_, ?_⟩
   ·omega
   ·by_cases h : d.r = 4
    ·have := r3 h; omega
    ·omega
   ·intro h;by_cases h' : d.r = 0
    ·have := r2 h'; omega
    ·omega
   ·intro h;by_cases h' : d.r = 0
    ·have := r2 h'; omega
    ·omega
 ·rw [if_neg hm];refine ⟨fun h => absurd rfl h, fun _ _ r hr => ?_, by simp⟩;simp at hr; subst hr;rcases k3 with ⟨m1, r0, r1, r2⟩ | ⟨m2, _⟩ | ⟨m3, _⟩
  ·exact zhd (by omega) (by omega) (by omega)
  ·omega
  ·omega
theorem zmn (d : Dec) (hd : ze1 d) : ze1 (zaA d).1 ∧ (∀ r ∈ (zaA d).2, zf2 r = true) ∧ (zaA d).1.hav = 0 ∧ (zaA d).2.length = (if d.hav = 0 then 0 else 1) := by
 unfold zaA;by_cases h : d.hav = 0
 ·rw [if_pos h, if_pos h];exact ⟨hd, fun r hr => by simp at hr, h, rfl⟩
 ·rw [if_neg h, if_neg h];exact ⟨fun h => absurd rfl h, fun r hr => by simp at hr; subst hr; exact zfD, rfl, rfl⟩
structure zi5 (a : VAct) : Prop where
 k : 1 ≤ a.kind ∧ a.kind ≤ 6
 pl : a.params.length ≤ 32
 tl : a.text.size ≤ 1024
 il : a.inter.size ≤ 3
 pr : ∀ x ∈ a.params, -1 ≤ x ∧ x ≤ 9999
 wr : 0 < (wrL a).length
 rn : 0 ≤ a.rune ∧ a.rune ≤ 1114111
structure PSt.Good (s : PSt) : Prop where
 fine : s.Fine
 np : s.params ≠ [-1]
 tx : ∀ b ∈ s.text, 32 ≤ (b.toNat : Int)
 i1 : s.state = 1 → zcX s.inter 32 47 = true
 i2 : s.state = 2 ∨ s.state = 5 ∨ s.state = 6 → Zr (ZK s.inter).2 = true
 f6 : s.state = 6 → 64 ≤ (s.final.toNat : Int) ∧ (s.final.toNat : Int) ≤ 126 ∧ s.params.length ≤ 32
 dg : ze1 s.dec
 dh : s.dec.hav ≠ 0 → s.state = 0
theorem zjV : s0.Good := ⟨zkf, by decide, fun b hb => by simp [s0] at hb, fun h => absurd h (by decide), fun h => absurd h (by decide), fun h => absurd h (by decide), fun h => absurd rfl h, fun h => absurd rfl h⟩
theorem Z5 {s : PSt} {n : Int} (hn : 0 ≤ n ∧ n ≤ 7) (h6 : n ≠ 6) (hd : ze1 s.dec) (hh : s.dec.hav ≠ 0 → n = 0) : (s.begun n).Good :=
 ⟨Z7 hn, by simp [PSt.begun], fun b hb => by simp [PSt.begun] at hb, fun _ => rfl, fun _ => rfl, fun h => absurd h h6, hd, hh⟩
theorem zol {r : Int} (h : zf2 r = true) : zi5 (za7 r) :=
 ⟨by show 1 ≤ (1 : Int) ∧ (1 : Int) ≤ 6; decide, by show 0 ≤ 32; decide, by show 0 ≤ 1024; decide, by show 0 ≤ 3; decide, fun x hx => by simp [za7] at hx, by
  have e : wrL (za7 r) = zhv r := (by unfold wrL; simp [za7, h]);rw [e]; exact (zm0 r).1, by
  unfold zf2 Lib.validRune at h;simp only [Bool.and_eq_true, decide_eq_true_eq] at h;show 0 ≤ r ∧ r ≤ 1114111;omega⟩
theorem znz {b : UInt8} (h : ziv b = true) : zi5 (zcb b) :=
 ⟨by show 1 ≤ (2 : Int) ∧ (2 : Int) ≤ 6; decide, by show 0 ≤ 32; decide, by show 0 ≤ 1024; decide, by show 0 ≤ 3; decide, fun x hx => by simp [zcb] at hx, by
  have e : wrL (zcb b) = [b] := (by unfold wrL; simp [zcb, h]);rw [e]; simp, by show 0 ≤ (0 : Int) ∧ (0 : Int) ≤ 1114111; decide⟩
theorem znA {b : UInt8} {inter : List UInt8} (hi : inter.length ≤ 2) (h : ziw inter b = true) : zi5 (zaE b inter) :=
 ⟨by show 1 ≤ (3 : Int) ∧ (3 : Int) ≤ 6; decide, by show 0 ≤ 32; decide, by show 0 ≤ 1024; decide, by show inter.length ≤ 3; omega, fun x hx => by simp [zaE] at hx, by
  have e : wrL (zaE b inter) = 27 :: inter ++ [b] := (by unfold wrL; simp [zaE, h]);rw [e]; simp, by show 0 ≤ (0 : Int) ∧ (0 : Int) ≤ 1114111; decide⟩
theorem znB {b : UInt8} {params : List Int} {inter : List UInt8} (hp : params.length ≤ 32) (hi : inter.length ≤ 3) (hr : ∀ x ∈ params, -1 ≤ x ∧ x ≤ 9999) (h : zaB (ZO b params inter) = true) : zi5 (ZO b params inter) :=
 ⟨by show 1 ≤ (4 : Int) ∧ (4 : Int) ≤ 6; decide, hp, by show 0 ≤ 1024; decide, hi, hr, by
  have e : wrL (ZO b params inter) = [27, 91] ++ zfx (ZO b params inter) := (by unfold wrL; rw [h]; simp [ZO]);rw [e]; simp, by show 0 ≤ (0 : Int) ∧ (0 : Int) ≤ 1114111; decide⟩
theorem zmo {t : List UInt8} (hl : t.length ≤ 1024) (h : ∀ b ∈ t, 32 ≤ (b.toNat : Int)) : zkb t = true := by
 unfold zkb zcX;rw [decide_eq_true hl, Bool.and_true, List.all_eq_true];intro b hb;rw [decide_eq_true (h b hb), decide_eq_true (zdy b)];rfl
theorem znC {t : List UInt8} (hl : t.length ≤ 1024) (h : ∀ b ∈ t, 32 ≤ (b.toNat : Int)) : zi5 (zcT t) :=
 ⟨by show 1 ≤ (5 : Int) ∧ (5 : Int) ≤ 6; decide, by show 0 ≤ 32; decide, hl, by show 0 ≤ 3; decide, fun x hx => by simp [zcT] at hx, by
  have e : wrL (zcT t) = [27, 93] ++ t ++ [7] := (by unfold wrL; simp [zcT, zmo hl h]);rw [e]; simp, by show 0 ≤ (0 : Int) ∧ (0 : Int) ≤ 1114111; decide⟩
theorem znD {b : UInt8} {params : List Int} {inter t : List UInt8} (hp : params.length ≤ 32) (hi : inter.length ≤ 3) (hr : ∀ x ∈ params, -1 ≤ x ∧ x ≤ 9999) (hl : t.length ≤ 1024) (ht : ∀ b ∈ t, 32 ≤ (b.toNat : Int)) (h : zaB (zbu b params inter t) = true) : zi5 (zbu b params inter t) :=
 ⟨by show 1 ≤ (6 : Int) ∧ (6 : Int) ≤ 6; decide, hp, hl, hi, hr, by
  have e : wrL (zbu b params inter t) = [27, 80] ++ zfx (zbu b params inter t) ++ t ++ [27, 92] := (by unfold wrL; rw [h]; simp [zbu, zmo hl ht]);rw [e]; simp, by show 0 ≤ (0 : Int) ∧ (0 : Int) ≤ 1114111; decide⟩
theorem zgx {b : UInt8} {params : List Int} {inter : List UInt8} (hb : 64 ≤ (b.toNat : Int) ∧ (b.toNat : Int) ≤ 126) (hp : params.length ≤ 32) (hn : params ≠ [-1]) (hr : ∀ x ∈ params, -1 ≤ x ∧ x ≤ 9999) (hi : Zr (ZK inter).2 = true) (k r : Int) (t : ByteArray) :
  zaB ⟨k, r, b, params, ⟨inter.toArray⟩, t⟩ = true := by
 unfold zaB zhS;show ((Zr (ZK inter).2 && (decide (64 ≤ (b.toNat : Int)) && (decide ((b.toNat : Int) ≤ 126) && (decide (params.length ≤ 32) && !(decide (params = [-1])))))) && params.all zc4) = true;rw [hi, decide_eq_true hb.1, decide_eq_true hb.2, decide_eq_true hp, decide_eq_false hn];simp only [Bool.not_false, Bool.and_self, Bool.true_and, List.all_eq_true];intro x hx;have := hr x hx;unfold zc4;rw [decide_eq_true this.1, decide_eq_true this.2];rfl
inductive AOk : VAct → Prop
 | pr {r : Int} : zf2 r = true → AOk (za7 r)
 | ctl {b : UInt8} : ziv b = true → AOk (zcb b)
 | esc {b : UInt8} {inter : List UInt8} : inter.length ≤ 2 → ziw inter b = true → AOk (zaE b inter)
 | csi {b : UInt8} {params : List Int} {inter : List UInt8} : params.length ≤ 32 → inter.length ≤ 3 → (∀ x ∈ params, -1 ≤ x ∧ x ≤ 9999) → zaB (ZO b params inter) = true → AOk (ZO b params inter)
 | osc {t : List UInt8} : t.length ≤ 1024 → (∀ b ∈ t, 32 ≤ (b.toNat : Int)) → AOk (zcT t)
 | dcs {b : UInt8} {params : List Int} {inter t : List UInt8} : params.length ≤ 32 → inter.length ≤ 3 → (∀ x ∈ params, -1 ≤ x ∧ x ≤ 9999) → t.length ≤ 1024 → (∀ b ∈ t, 32 ≤ (b.toNat : Int)) → zaB (zbu b params inter t) = true → AOk (zbu b params inter t)
theorem AOk.bnd {a : VAct} (h : AOk a) : zi5 a := by
 cases h with
 | pr h => exact zol h
 | ctl h => exact znz h
 | esc h1 h2 => exact znA h1 h2
 | csi h1 h2 h3 h4 => exact znB h1 h2 h3 h4
 | osc h1 h2 => exact znC h1 h2
 | dcs h1 h2 h3 h4 h5 h6 => exact znD h1 h2 h3 h4 h5 h6
theorem zmp {r : Int} (h : zf2 r = true) : AOk (za7 r) := .pr h
theorem zom {b : UInt8} (h : ziv b = true) : AOk (zcb b) := .ctl h
theorem zon {b : UInt8} {inter : List UInt8} (hi : inter.length ≤ 2) (h : ziw inter b = true) : AOk (zaE b inter) := .esc hi h
theorem zoo {b : UInt8} {params : List Int} {inter : List UInt8} (hp : params.length ≤ 32) (hi : inter.length ≤ 3) (hr : ∀ x ∈ params, -1 ≤ x ∧ x ≤ 9999) (h : zaB (ZO b params inter) = true) : AOk (ZO b params inter) := .csi hp hi hr h
theorem zop {t : List UInt8} (hl : t.length ≤ 1024) (h : ∀ b ∈ t, 32 ≤ (b.toNat : Int)) : AOk (zcT t) := .osc hl h
theorem zoq {b : UInt8} {params : List Int} {inter t : List UInt8} (hp : params.length ≤ 32) (hi : inter.length ≤ 3) (hr : ∀ x ∈ params, -1 ≤ x ∧ x ≤ 9999) (hl : t.length ≤ 1024) (ht : ∀ b ∈ t, 32 ≤ (b.toNat : Int)) (h : zaB (zbu b params inter t) = true) : AOk (zbu b params inter t) := .dcs hp hi hr hl ht h
theorem zkC {s : PSt} (h : s.Good) : ∀ a ∈ s.endActs, AOk a := by
 intro a ha;unfold PSt.endActs at ha;split at ha
 ·simp at ha; subst ha;exact zop h.fine.tl h.tx
 split at ha
 ·rename_i h6;simp at ha; subst ha;have hf := h.f6 h6;exact zoq hf.2.2 h.fine.il h.fine.pr h.fine.tl h.tx (zgx ⟨hf.1, hf.2.1⟩ hf.2.2 h.np h.fine.pr (h.i2 (.inr (.inr h6))) 6 0 _)
 ·simp at ha
theorem zmq (s : PSt) : s.endActs.length = if s.state = 4 ∨ s.state = 6 then 1 else 0 := by
 unfold PSt.endActs;by_cases h4 : s.state = 4
 ·rw [if_pos h4, if_pos (.inl h4)]; rfl
 ·by_cases h6 : s.state = 6
  ·rw [if_neg h4, if_pos h6, if_pos (.inr h6)]; rfl
  ·rw [if_neg h4, if_neg h6, if_neg (fun h => h.elim h4 h6)]; rfl
end
section
open Go.RowKit
def PSt.owes (s : PSt) : Nat := (if s.dec.hav = 0 then 0 else 1) + (if s.state = 4 ∨ s.state = 6 then 1 else 0)
theorem zgy (s : PSt) : s.texts = true ↔ s.state = 4 ∨ s.state = 6 ∨ s.state = 7 := by
 unfold PSt.texts;simp [or_assoc]
theorem zmr {s : PSt} (h : s.texts = false) : ¬ s.state = 4 ∧ ¬ s.state = 6 ∧ ¬ s.state = 7 := by
 have : ¬ (s.state = 4 ∨ s.state = 6 ∨ s.state = 7) := fun e => (by rw [(zgy s).2 e] at h; simp at h);exact ⟨fun e => this (.inl e), fun e => this (.inr (.inl e)), fun e => this (.inr (.inr e))⟩
theorem zhU {s : PSt} (h : s.Good) (D : Dec) (hd : ze1 D) (hh : D.hav ≠ 0 → s.state = 0) : ({ s with dec := D } : PSt).Good :=
 ⟨⟨h.fine.il, h.fine.pne, h.fine.pl, h.fine.pr, h.fine.tl, h.fine.st, h.fine.e1⟩, h.np, h.tx, h.i1, h.i2, h.f6, hd, hh⟩
theorem zkD {s : PSt} (b : UInt8) (h : s.Good) :
  (s.any1 b).2.1.Good ∧ (∀ a ∈ (s.any1 b).2.2, AOk a) ∧ ((s.any1 b).1 = true → (s.any1 b).2.2.length + (s.any1 b).2.1.owes ≤ 1 + s.owes) ∧
   ((s.any1 b).1 = false → (s.any1 b).2.2 = [] ∧ (s.any1 b).2.1.owes ≤ s.owes ∧ 32 ≤ (b.toNat : Int) ∧ ((s.any1 b).2.1.texts = false → (b.toNat : Int) ≠ 127 ∧ (127 < (b.toNat : Int) → (s.any1 b).2.1.state = 0))) := by
 obtain ⟨e1, e2, e3, e4⟩ := zmn s.dec h.dg;have hends := zkC h;have hel := zmq s;unfold PSt.any1;split
 ·refine ⟨Z5 (s := { s with dec := dec0 }) (by decide) (by decide) (fun h => absurd rfl h) (fun _ => rfl), fun a ha => by simp at ha, fun _ => ?_, fun h => by simp at h⟩;show 0 + (0 + 0) ≤ _; omega
 split
 ·have g := Z5 (s := { s with dec := (zaA s.dec).1 }) (n := 1) (by decide) (by decide) e1 (fun h => absurd e3 h);refine ⟨⟨⟨g.fine.il, g.fine.pne, g.fine.pl, g.fine.pr, g.fine.tl, g.fine.st, g.fine.e1⟩, g.np, g.tx, g.i1, g.i2, g.f6, g.dg, g.dh⟩, fun a ha => ?_, fun _ => ?_, fun h => by simp at h⟩
  ·rcases List.mem_append.1 ha with ha | ha
   ·obtain ⟨r, hr, rfl⟩ := List.mem_map.1 ha;exact zmp (e2 r hr)
   ·exact hends a ha
  ·simp only [List.length_append, List.length_map, e4, hel, PSt.owes];show _ + ((if (zaA s.dec).1.hav = 0 then 0 else 1) + 0) ≤ _;rw [if_pos e3];omega
 split
 ·rename_i h7;refine ⟨Z5 (by decide) (by decide) h.dg (fun _ => rfl), hends, fun _ => ?_, fun h => by simp at h⟩;have hh : s.dec.hav = 0 := by
   by_cases h0 : s.dec.hav = 0
   ·exact h0
   ·have := h.dh h0; omega
  simp only [hel, PSt.owes];show _ + ((if s.dec.hav = 0 then 0 else 1) + 0) ≤ _;rw [if_pos hh, if_pos (show s.state = 4 ∨ s.state = 6 from .inl h7.2)];omega
 split
 ·exact ⟨h, fun a ha => by simp at ha, fun _ => by simp, fun h => by simp at h⟩
 rename_i n24 n27 n7 nq;split
 ·rename_i h32;have htx : s.texts = false := by
   cases ht : s.texts
   ·rfl
   ·exact absurd (.inr ⟨h32, ht⟩) nq
  obtain ⟨t4, t6, t7⟩ := zmr htx;refine ⟨zhU h _ e1 (fun h => absurd e3 h), fun a ha => ?_, fun _ => ?_, fun h => by simp at h⟩
  ·rcases List.mem_append.1 ha with ha | ha
   ·obtain ⟨r, hr, rfl⟩ := List.mem_map.1 ha;exact zmp (e2 r hr)
   ·simp at ha; subst ha;refine zom ?_;unfold ziv;rw [decide_eq_true h32, beq_eq_false_iff_ne.2 (fun e => n24 (.inl e)), beq_eq_false_iff_ne.2 (fun e => n24 (.inr e)), beq_eq_false_iff_ne.2 n27];rfl
  ·simp only [List.length_append, List.length_map, List.length_singleton, e4, PSt.owes];rw [if_pos e3];omega
 rename_i n32;split
 ·rename_i h127;by_cases h0 : s.state = 0
  ·rw [if_pos h0];exact ⟨h, fun a ha => by simp at ha, fun h => by simp at h, fun _ => ⟨rfl, Nat.le_refl _, by omega, fun _ => ⟨by omega, fun _ => h0⟩⟩⟩
  ·rw [if_neg h0];have hh : s.dec.hav = 0 := by
    by_cases hv : s.dec.hav = 0
    ·exact hv
    ·exact absurd (h.dh hv) h0
   refine ⟨Z5 (by decide) (by decide) h.dg (fun _ => rfl), fun a ha => by simp at ha, fun h => by simp at h, fun _ => ⟨rfl, ?_, by omega, fun _ => ⟨by omega, fun _ => rfl⟩⟩⟩;simp only [PSt.owes];show (if s.dec.hav = 0 then 0 else 1) + 0 ≤ _;omega
 ·rename_i n127;refine ⟨h, fun a ha => by simp at ha, fun h => by simp at h, fun _ => ⟨rfl, Nat.le_refl _, by omega, fun ht => ?_⟩⟩;have ht' : s.texts = false := ht;refine ⟨fun e => nq (.inl ⟨e, ht'⟩), fun hg => absurd ⟨hg, ht'⟩ n127⟩
theorem zgz (l : List UInt8) (b : UInt8) (lo hi : Int) : zcX (l ++ [b]) lo hi = (zcX l lo hi && (decide (lo ≤ (b.toNat : Int)) && decide ((b.toNat : Int) ≤ hi))) := by
 unfold zcX; simp
theorem zi6 {s : PSt} (b : UInt8) (h : s.Good) (h1 : s.state = 1) (hb : 32 ≤ (b.toNat : Int) ∧ (b.toNat : Int) ≤ 126) :
  (s.esced b).1.Good ∧ (∀ a ∈ (s.esced b).2, AOk a) ∧ (s.esced b).2.length + (s.esced b).1.owes ≤ 1 + s.owes := by
 have hi := h.fine.e1 h1;have hon := h.i1 h1;have hh : s.dec.hav = 0 := by
  by_cases h0 : s.dec.hav = 0
  ·exact h0
  ·have := h.dh h0; omega
 have ho : ∀ n, (s.begun n).owes = if n = 4 ∨ n = 6 then 1 else 0 := fun n => by
  unfold PSt.owes;show (if s.dec.hav = 0 then 0 else 1) + _ = _;rw [if_pos hh, Nat.zero_add];rfl
 have hbg : ∀ n, 0 ≤ n ∧ n ≤ 7 → n ≠ 6 → (s.begun n).Good := fun n hn h6 => Z5 hn h6 h.dg (fun e => absurd hh e);unfold PSt.esced;split
 ·rename_i hbt;split
  ·refine ⟨?_, fun a ha => by simp at ha, ?_⟩
   ·exact Z5 (s := { s with frm := s.state }) (by decide) (by decide) h.dg (fun e => absurd hh e)
   ·show 0 + ((if s.dec.hav = 0 then 0 else 1) + 0) ≤ _;rw [if_pos hh]; omega
  ·rename_i h2;have hk : (s.inter ++ [b]).length ≤ 2 := (by rw [List.length_append, List.length_singleton]; omega);refine ⟨⟨⟨by show (s.inter ++ [b]).length ≤ 3; omega, h.fine.pne, h.fine.pl, h.fine.pr, h.fine.tl, h.fine.st, fun _ => hk⟩, h.np, h.tx, fun _ => ?_, fun e => ?_, h.f6, h.dg, h.dh⟩, fun a ha => by simp at ha, ?_⟩
   ·show zcX (s.inter ++ [b]) 32 47 = true;rw [zgz, hon];unfold Zd at hbt;rw [hbt]; rfl
   ·have e' : s.state = 2 ∨ s.state = 5 ∨ s.state = 6 := e;omega
   ·simp only [List.length_nil, PSt.owes]; omega
 rename_i hbt;have hb48 : 48 ≤ (b.toNat : Int) := by
  unfold Zd at hbt;rw [Bool.and_eq_true, decide_eq_true_eq, decide_eq_true_eq] at hbt;omega
 have hesc : ∀ (hc : s.inter.length ≠ 0 ∨ zfg b.toNat = false), AOk (zaE b s.inter) := fun hc => by
  refine zon hi ?_;unfold ziw Zr;rw [decide_eq_true hi, hon, decide_eq_true hb48, decide_eq_true hb.2];rcases hc with hc | hc
  ·have : s.inter.isEmpty = false := by cases hs : s.inter with
    | nil => rw [hs] at hc; simp at hc
    | cons c r => rfl
   rw [this]; rfl
  ·rw [hc]; simp
 have tellok : ∀ (hc : s.inter.length ≠ 0 ∨ zfg b.toNat = false), (s.begun 0).Good ∧ (∀ a ∈ [zaE b s.inter], AOk a) ∧ [zaE b s.inter].length + (s.begun 0).owes ≤ 1 + s.owes := fun hc => by
  refine ⟨hbg 0 (by decide) (by decide), fun a ha => ?_, ?_⟩
  ·rw [List.mem_singleton] at ha; subst ha; exact hesc hc
  ·rw [ho 0]; simp
 have beg : ∀ n, 0 ≤ n ∧ n ≤ 7 → n ≠ 6 → (s.begun n).Good ∧ (∀ a ∈ ([] : List VAct), AOk a) ∧ ([] : List VAct).length + (s.begun n).owes ≤ 1 + s.owes := fun n hn h6 => by
  refine ⟨hbg n hn h6, fun a ha => by simp at ha, ?_⟩;rw [ho n]; simp only [List.length_nil]; split <;> omega
 split
 ·rename_i h0;split
  ·exact beg 2 (by decide) (by decide)
  split
  ·exact beg 4 (by decide) (by decide)
  split
  ·exact beg 5 (by decide) (by decide)
  split
  ·exact beg 7 (by decide) (by decide)
  rename_i n1 n2 n3 n4;split
  ·exact beg 0 (by decide) (by decide)
  ·refine tellok (.inr ?_);unfold zfg;simp only [Bool.or_eq_false_iff, beq_eq_false_iff_ne];omega
 ·rename_i h0;exact tellok (.inl h0)
end
end Go.Proofs.YtlfdgkiliegaiaaGreatDoor
