/- Texts laid together: K4 K11 K5 K12 K14. -/
import Derived.Test.YtlfdgkiliegaiaaGreatDoorY1
import Derived.Test.YtlfdgkiliegaiaaGreatDoorY10
import Derived.Test.YtlfdgkiliegaiaaGreatDoorY11
import Derived.Test.YtlfdgkiliegaiaaGreatDoorY12
import Derived.Test.YtlfdgkiliegaiaaGreatDoorY14
import Derived.Test.YtlfdgkiliegaiaaGreatDoorY15
import Derived.Test.YtlfdgkiliegaiaaGreatDoorY16
import Derived.Test.YtlfdgkiliegaiaaGreatDoorY17
import Derived.Test.YtlfdgkiliegaiaaGreatDoorY2
import Derived.Test.YtlfdgkiliegaiaaGreatDoorY3
import Derived.Test.YtlfdgkiliegaiaaGreatDoorY4
import Derived.Test.YtlfdgkiliegaiaaGreatDoorY5
import Derived.Test.YtlfdgkiliegaiaaGreatDoorY6
import Derived.Test.YtlfdgkiliegaiaaGreatDoorY8
import Derived.Test.YtlfdgkiliegaiaaGreatDoorY9
import Derived.Deep.RegionHeld3
import Derived.Deep.MidRow
import Derived.Lib.ItoaLen
import Derived.Test.YtlfdgkiliegaiaaGreatDoorShelf
import Derived.Lib.Builder
import Derived.Lib.FrozenHead
import Derived.Lib.RuneBytes
import Derived.Lib.UnsafeStr
import Derived.Lib.SliceRun
import Derived.WalkSpells
import Derived.StillTailTactics
import Derived.Deep.RegionLaw
import Derived.Deep.DeepCutAuto
import Derived.Test.YtlfdgkiliegaiaaGreatDoorRows
import Derived.Deep.AppendSrc
import Derived.Lib.AppendStr
import Derived.ArgAppend
import Derived.Laws.IdiomCopy
import Derived.Laws.IdiomStrings
import Derived.Deep.Upon
import Derived.WalkKit
import Derived.WalkLawsBesides
import Derived.BigQuiet
import Derived.Lib.Hide
import Derived.Deep.QuietTactic
import Derived.Lib.AppendIntMem
import Derived.Lib.ItoaNum
import Derived.Laws.ResultCell
import Derived.Deep.CutBlock
import Derived.Laws.EntriesVeiled
import Derived.Laws.StructEq
import Derived.Deep.DrawnRows
import Derived.Laws.Cover4
import Derived.WalkMore
import Derived.ScopeJumps
import Derived.Lib.SlBytesConst
import Derived.Laws.Bits64b
import Derived.ChangeKeysEq
import Derived.Lib.TrimU
set_option linter.unusedVariables false
set_option linter.unusedSimpArgs false
namespace Go.Proofs.YtlfdgkiliegaiaaGreatDoor
section
open Go.RowKit
set_option maxRecDepth 100000
theorem zh9 (l : List Bool) (j : Nat) (hj : j < l.length) : (l.map Value.bool)[j]? = some (.bool (l.getD j false)) := by
 rw [List.getElem?_map, List.getElem?_eq_getElem hj, List.getD_eq_getElem?_getD, List.getElem?_eq_getElem hj]; rfl
theorem zdr : (Tryz.prog.info? 4).map (·.size) = some 1 := by kernel_rfl
theorem zmI {P : Program} {t e : TypeId} {w : World} {b off c : Nat} {l : List Bool} (h : zn w 0 1 (.slice (some ⟨b, off, none⟩) l.length c) l.length (l.map Value.bool)) (ht : P.underlying t = some (.slice e)) (hs : (P.info? e).map (·.size) = some 1) (j : Nat) (hj : j < l.length) :
  (∀ wx, (Instr.indexAt t (.slice (some ⟨b, off, none⟩) l.length c) (.int .i64 j)).run P wx = .ok (.pointer (some ⟨b, off + j, none⟩)) wx) ∧ w.cell? ⟨b, off + j, none⟩ = some (.bool (l.getD j false)) ∧ w.frozen? ⟨b, off + j, none⟩ = false := by
 obtain ⟨b', off', c', e1, hi, ⟨x, hx, hc⟩, hf, _⟩ := zcV ht hs h j hj;injection e1 with e1 e2 e3;injection e1 with e1;injection e1 with e1 e4;subst e1 e4;rw [zh9 l j hj] at hx;injection hx with hx;subst hx;exact ⟨hi, hc, hf⟩
theorem zfL {n : Nat} {t : List Bool} {m x : Int} (h : ¬ (x < m ∧ t.getD x.toNat false = false)) : zdF n t m x = x := by
 cases n with
 | zero => rfl
 | succ n => unfold zdF; rw [if_neg h]
theorem zfM {n : Nat} {t : List Bool} {x : Int} (h : ¬ (0 < x ∧ t.getD x.toNat false = false)) : zdG n t x = x := by
 cases n with
 | zero => rfl
 | succ n => unfold zdG; rw [if_neg h]
theorem zia {B : World} {C : Nat → Nat} {p c r : Nat} {w : World} {s : Scr} {ps : PSt} (h : SR B C p w s ps) (hok : s.Ok c r) :
  Calls Tryz.prog 157 #[.pointer (some ⟨p, 0, none⟩)] w fun e w' => e = .returned (.tuple #[]) ∧ zq B C p w w' s.tab ps := by
 have hn := h.nums hok;obtain ⟨x0, x1, y0, y1, t0, tb, b1, k1, k2, r1, r2, tl, pn⟩ := hn;have c0 : w.cell? ⟨p, 0, none⟩ = some (.int .i64 s.now.x) := h.at_ 0 _;have hw1 : IntKind.i64.wrap ((s.main.cols : Int) - 1) = (s.main.cols : Int) - 1 := zb _ (by omega) (by omega);have hw2 : IntKind.i64.wrap (s.now.x + 1) = s.now.x + 1 := zb _ (by omega) (by omega);have HR := Lib.hid h;have HC := Lib.hid (fun w' hb => ZS (h.below (w' := w') hb));obtain ⟨vt, ct, ot, _, _⟩ := h.tabs;obtain ⟨b, off, cc, hvt, hnc, hcm⟩ := zF ot (by omega);subst hvt;have HT := Lib.hid ot;have TL := Lib.hid tl;clear tl;generalize hN : s.main.cols = N at *;have HTG := Lib.hid (show s.tab = s.place (zdF N s.tabs ((N : Int) - 1) (min (s.now.x + 1) ((N : Int) - 1))) s.now.y by unfold Scr.tab Scr.cols; rw [hN]);clear ot h hok hN;go_enter Tryz.func157, Tryz.ntmps157;go_upto_region 0 with fail;go_quiet (first | (go_at_call 93; exact Calls.quiet_of_same (HC.out _ (zg (Below.refl _ _) _))));have HB := Lib.hid (zg (Below.refl w.heap.size w) nq);have HR2 := Lib.hid (HR.out.below HB.out);generalize hwn : w.drewN nq = wn at *;have ct2 : wn.cell? ⟨p, 35, none⟩ = some (.slice (some ⟨b, off, none⟩) s.tabs.length cc) := zc HB.out ct;have HT2 := Lib.hid (zh HT.out HB.out);have d1 : wn.cell? ⟨p, 1, none⟩ = some (.int .i64 s.now.y) := HR2.out.at_ 1 _;clear ct c0;have HC2 := Lib.hid (HC.out _ HB.out);obtain ⟨x0', hx0'⟩ : ∃ z, z = min (s.now.x + 1) ((N : Int) - 1) := ⟨_, rfl⟩;rw [← hx0'] at HTG ⊢;have HX0 := Lib.hid (show 0 ≤ x0' ∧ x0' ≤ (N : Int) - 1 by omega);clear hx0';go_wp2_with fail
 go_loopw [2] (fun iv wr => ∃ (x : Int) (k : Nat), iv = .int .i64 x ∧ wr = wn ∧ 0 ≤ x ∧ x ≤ (N : Int) - 1 ∧ Hid ((N : Int) - 1 - x ≤ k) ∧ Hid (zdF k s.tabs ((N : Int) - 1) x = zdF N s.tabs ((N : Int) - 1) x0')) (fun iv _ => N - (intOf iv).toNat)
 case atStart => exact ⟨_, N, rfl, rfl, HX0.out.1, HX0.out.2, Lib.hid (by have := HX0.out; omega), Lib.hid rfl⟩
 case round =>
  obtain ⟨x, k, rfl, rfl, hx0, hx1, HK, HF⟩ := hrel;by_cases hlt : x < (N : Int) - 1;rotate_left
  ·have e1 : decide (x < (N : Int) - 1) = false := decide_eq_false hlt;have HT3 := Lib.hid (show s.tab = s.place x s.now.y by rw [HTG.out, ← HF.out, zfL (fun e => hlt e.1)]);go_wp2_with fail;refine HC2.out.mono ?_;rintro e w2 ⟨rfl, rfl⟩;go_wp2_with fail;refine (Zb HR2.out x s.now.y).mono ?_;rintro e w8 ⟨rfl, d8⟩;have HD8 := Lib.hid (zq.after ((Pre.refl _ _).below HB.out) d8);clear d8;go_wp2_with fail;go_end0;refine ⟨rfl, ?_⟩;rw [HT3.out];exact HD8.out
  obtain ⟨j, rfl⟩ : ∃ j : Nat, x = j := ⟨x.toNat, by omega⟩;have e1 : decide ((j : Int) < (N : Int) - 1) = true := decide_eq_true hlt;obtain ⟨ix, ic, _⟩ := zmI HT2.out Tryz.underlying87 zdr j (by have := TL.out; omega);cases hb : s.tabs.getD j false;rotate_left
  ·rw [hb] at ic;have HT3 := Lib.hid (show s.tab = s.place j s.now.y by rw [HTG.out, ← HF.out, zfL (fun e => by rw [Int.toNat_natCast, hb] at e; cases e.2)]);go_wp2_with fail;refine HC2.out.mono ?_;rintro e w2 ⟨rfl, rfl⟩;go_wp2_with fail;refine (Zb HR2.out j s.now.y).mono ?_;rintro e w8 ⟨rfl, d8⟩;have HD8 := Lib.hid (zq.after ((Pre.refl _ _).below HB.out) d8);clear d8;go_wp2_with fail;go_end0;refine ⟨rfl, ?_⟩;rw [HT3.out];exact HD8.out
  ·rw [hb] at ic;have hw5 : IntKind.i64.wrap ((j : Int) + 1) = (j : Int) + 1 := zb _ (by omega) (by omega);obtain ⟨k', rfl⟩ : ∃ k', k = k' + 1 := ⟨k - 1, by have := HK.out; omega⟩;have HF2 := Lib.hid (show zdF k' s.tabs ((N : Int) - 1) ((j : Int) + 1) = zdF N s.tabs ((N : Int) - 1) x0' by
    rw [← HF.out]
    conv => rhs; unfold zdF
    rw [if_pos ⟨hlt, by rw [Int.toNat_natCast]; exact hb⟩])
   go_wp2_with fail;refine HC2.out.mono ?_;rintro e w2 ⟨rfl, rfl⟩;go_wp2_with fail;go_roundw
   case rel => exact ⟨_, k', by go_num, by trivial, by omega, by omega, Lib.hid (by have := HK.out; omega), HF2⟩
   case measure => simp [intOf] <;> omega
theorem zk3 {B : World} {C : Nat → Nat} {p c r : Nat} {w : World} {s : Scr} {ps : PSt} (h : SR B C p w s ps) (hok : s.Ok c r) :
  Calls Tryz.prog 280 #[.pointer (some ⟨p, 0, none⟩)] w fun e w' => e = .returned (.tuple #[]) ∧ zq B C p w w' s.back ps := by
 have hn := h.nums hok;obtain ⟨x0, x1, y0, y1, t0, tb, b1, k1, k2, r1, r2, tl, pn⟩ := hn;have c0 : w.cell? ⟨p, 0, none⟩ = some (.int .i64 s.now.x) := h.at_ 0 _;have hw1 : IntKind.i64.wrap ((s.main.cols : Int) - 1) = (s.main.cols : Int) - 1 := zb _ (by omega) (by omega);have hw2 : IntKind.i64.wrap (s.now.x - 1) = s.now.x - 1 := zb _ (by omega) (by omega);have HR := Lib.hid h;have HC := Lib.hid (fun w' hb => ZS (h.below (w' := w') hb));obtain ⟨vt, ct, ot, _, _⟩ := h.tabs;obtain ⟨b, off, cc, hvt, hnc, hcm⟩ := zF ot (by omega);subst hvt;have HT := Lib.hid ot;have TL := Lib.hid tl;clear tl;generalize hN : s.main.cols = N at *;have HTG := Lib.hid (show s.back = s.place (zdG N s.tabs (s.now.x - 1)) s.now.y by unfold Scr.back; rw [hN]);clear ot h hok hN;go_enter Tryz.func280, Tryz.ntmps280;have HB := Lib.hid (Below.refl w.heap.size w);have HR2 := HR;obtain ⟨wn, hwn⟩ : ∃ z, z = w := ⟨_, rfl⟩;have ct2 : w.cell? ⟨p, 35, none⟩ = some (.slice (some ⟨b, off, none⟩) s.tabs.length cc) := ct;have HT2 := HT;have d1 : w.cell? ⟨p, 1, none⟩ = some (.int .i64 s.now.y) := HR2.out.at_ 1 _;clear ct;subst hwn;have HX0 := Lib.hid (show -1 ≤ s.now.x - 1 ∧ s.now.x - 1 ≤ (N : Int) - 1 by omega);go_wp2_with fail
 go_loopw [2] (fun iv wr => ∃ (x : Int) (k : Nat), iv = .int .i64 x ∧ wr = wn ∧ -1 ≤ x ∧ x ≤ (N : Int) - 1 ∧ Hid (x ≤ k) ∧ Hid (zdG k s.tabs x = zdG N s.tabs (s.now.x - 1))) (fun iv _ => (intOf iv + 1).toNat)
 case atStart => exact ⟨_, N, rfl, rfl, HX0.out.1, HX0.out.2, Lib.hid (by have := HX0.out; omega), Lib.hid rfl⟩
 case round =>
  obtain ⟨x, k, rfl, rfl, hx0, hx1, HK, HF⟩ := hrel;by_cases hlt : 0 < x;rotate_left
  ·have e1 : decide (0 < x) = false := decide_eq_false hlt;have HT3 := Lib.hid (show s.back = s.place x s.now.y by rw [HTG.out, ← HF.out, zfM (fun e => hlt e.1)]);go_wp2_with fail;refine (Zb HR2.out x s.now.y).mono ?_;rintro e w8 ⟨rfl, d8⟩;have HD8 := Lib.hid (zq.after ((Pre.refl _ _).below HB.out) d8);clear d8;go_wp2_with fail;go_end0;refine ⟨rfl, ?_⟩;rw [HT3.out];exact HD8.out
  obtain ⟨j, rfl⟩ : ∃ j : Nat, x = j := ⟨x.toNat, by omega⟩;have e1 : decide (0 < (j : Int)) = true := decide_eq_true hlt;obtain ⟨ix, ic, _⟩ := zmI HT2.out Tryz.underlying87 zdr j (by have := TL.out; omega);cases hb : s.tabs.getD j false;rotate_left
  ·rw [hb] at ic;have HT3 := Lib.hid (show s.back = s.place j s.now.y by rw [HTG.out, ← HF.out, zfM (fun e => by rw [Int.toNat_natCast, hb] at e; cases e.2)]);go_wp2_with fail;refine (Zb HR2.out j s.now.y).mono ?_;rintro e w8 ⟨rfl, d8⟩;have HD8 := Lib.hid (zq.after ((Pre.refl _ _).below HB.out) d8);clear d8;go_wp2_with fail;go_end0;refine ⟨rfl, ?_⟩;rw [HT3.out];exact HD8.out
  ·rw [hb] at ic;have hw5 : IntKind.i64.wrap ((j : Int) - 1) = (j : Int) - 1 := zb _ (by omega) (by omega);obtain ⟨k', rfl⟩ : ∃ k', k = k' + 1 := ⟨k - 1, by have := HK.out; omega⟩;have HF2 := Lib.hid (show zdG k' s.tabs ((j : Int) - 1) = zdG N s.tabs (s.now.x - 1) by
    rw [← HF.out]
    conv => rhs; unfold zdG
    rw [if_pos ⟨hlt, by rw [Int.toNat_natCast]; exact hb⟩])
   go_wp2_with fail;go_roundw
   case rel => exact ⟨_, k', by go_num, by trivial, by omega, by omega, Lib.hid (by have := HK.out; omega), HF2⟩
   case measure => simp [intOf] <;> omega
end
section
open Go.RowKit
set_option maxRecDepth 100000
theorem zk4 {B : World} {C : Nat → Nat} {p c r : Nat} {w : World} {s : Scr} {ps : PSt} (h : SR B C p w s ps) (hok : s.Ok c r) :
  Calls Tryz.prog 159 #[.pointer (some ⟨p, 0, none⟩)] w fun e w' => e = .returned (.tuple #[]) ∧ zq B C p w w' s.fill ps := by
 have hn := h.nums hok;have HCC := Lib.hid (hn.ok hok).1;have HRR := Lib.hid (hn.ok hok).2;have HN := Lib.hid hn;have HOK := Lib.hid ((hok.whole (by rw [(hn.ok hok).2]; exact hn.r1)).place (by rw [(hn.ok hok).1]; exact hn.c1) (by rw [(hn.ok hok).2]; exact hn.r1) 0 0);have HFL := Lib.hid (show s.fill = ((s.whole).place 0 0).turn (fun g => zbY g c r) by unfold Scr.fill; rw [HCC.out, HRR.out]);have HW := Lib.hid (zbJ h);clear hn h hok;go_enter Tryz.func159, Tryz.ntmps159;go_wp2_with fail;refine HW.out.mono ?_;rintro e w2 ⟨rfl, C2, h2, p2⟩;have H2 := Lib.hid h2;have P2 := Lib.hid p2;clear h2 p2 HW;go_wp2_with fail;refine (Zb H2.out 0 0).mono ?_;rintro e w3 ⟨rfl, C3, h3, p3⟩;have H3 := Lib.hid h3;have P3 := Lib.hid (P2.out.trans p3);clear h3 p3 H2 P2;generalize (s.whole).place 0 0 = u at *;have HCU := Lib.hid (show u.main.cols = c from HOK.out.main.1);have HRU := Lib.hid (show u.main.rows.length = r from HOK.out.main.2);go_wp2_with fail;refine (ZI H3.out).mono ?_;rintro e w4 ⟨rfl, rfl⟩;rw [HRU.out];have HR120 := Lib.hid (show r ≤ 120 by rw [HRR.out]; exact HN.out.r2);have HC250 := Lib.hid (show c ≤ 250 by rw [HCC.out]; exact HN.out.c2);go_wp2_with fail
 go_loopw [10] (fun iv wr => ∃ (y : Nat) (C1 : Nat → Nat), y ≤ r ∧ iv = .int .i64 y ∧ Hid (SR B C1 p wr (u.turn (fun g => zbY g c y)) ps) ∧ Hid (Pre C w C1 wr)) (fun iv _ => r - (intOf iv).toNat)
 case atStart => exact ⟨0, C3, Nat.zero_le _, rfl, Lib.hid (by rw [show (fun g => zbY g c 0) = fun g => g from rfl, zj1]; exact H3.out), P3⟩
 case round =>
  obtain ⟨y, C1, hy, rfl, H4, P4⟩ := hrel;by_cases hlt : y < r;rotate_left
  ·obtain rfl : y = r := (by omega);have HD := Lib.hid (show zq B C p w wr s.fill ps by rw [HFL.out]; exact ⟨C1, H4.out, P4.out⟩);go_wp2_with fail;go_end0;exact ⟨rfl, HD.out⟩
  have HO4 := Lib.hid (show (u.turn (fun g => zbY g c y)).Ok c r from HOK.out.turn _ fun g hg => zeg hg _ _);have HM4 := Lib.hid HO4.out.main.1;have hy120 : y < 120 := (by have := HR120.out; omega);go_wp2_with fail;refine (ZS H4.out).mono ?_;rintro e w5 ⟨rfl, rfl⟩;rw [HM4.out];go_wp2_with fail
  go_loopw [15] (fun iv wr => ∃ (x : Nat) (C5 : Nat → Nat), x ≤ c ∧ iv = .int .i64 x ∧ Hid (SR B C5 p wr (u.turn (fun g => zjR (zbY g c y) y x)) ps) ∧ Hid (Pre C w C5 wr)) (fun iv _ => c - (intOf iv).toNat)
  case atStart => exact ⟨0, C1, Nat.zero_le _, rfl, H4, P4⟩
  case round =>
   obtain ⟨x, C5, hx, rfl, H5, P5⟩ := hrel;obtain ⟨T, q, hg, hq, hk⟩ := H5.out.grid;have HG := Lib.hid hg;have HQ := Lib.hid hq;have HK := Lib.hid hk;clear hg hq hk;by_cases hlx : x < c
   ·have hx250 : x < 250 := (by have := HC250.out; omega);go_wp2_with fail;refine (zL HQ.out).mono ?_;rintro e w6 ⟨rfl, rfl⟩;go_wp2_with fail;refine (zaZ _).mono ?_;rintro e w7 ⟨rfl, b7⟩;have HB7 := Lib.hid b7;clear b7;unfold Sty.val plainS;go_wp2_with fail;refine (zkd (HG.out.below HB7.out) x y ⟨69, 1, plainS⟩ ziA ⟨by decide, by decide⟩).mono ?_;rintro e w8 ⟨rfl, hw8, g8⟩;obtain ⟨d8, _⟩ := HK.out _ _ _ (fun g => g.put x y ⟨69, 1, plainS⟩) HB7.out hw8 g8 (fun k hk => .inl hk);rw [zcm] at d8;obtain ⟨C6, h6, p6⟩ := d8;have H6 := Lib.hid h6;have P6 := Lib.hid (P5.out.trans p6);clear hw8 g8 h6 p6;go_wp2_with fail;go_roundw
    case rel => exact ⟨x + 1, C6, by omega, by go_num, H6, P6⟩
    case measure => simp [intOf]; omega
   ·obtain rfl : x = c := (by omega);go_wp2_with fail;refine (zL HQ.out).mono ?_;rintro e w6 ⟨rfl, rfl⟩;go_wp2_with fail;refine (zed HG.out y false).mono ?_;rintro e w8 ⟨rfl, hw8, g8⟩;obtain ⟨d8, _⟩ := HK.out _ _ _ (fun g => g.setWrap y false) (Below.refl _ _) hw8 g8 (fun k hk => .inl hk);rw [zcm] at d8;obtain ⟨C6, h6, p6⟩ := d8;have H6 := Lib.hid h6;have P6 := Lib.hid (P5.out.trans p6);clear hw8 g8 h6 p6;go_wp2_with fail;go_roundw
    case rel => exact ⟨y + 1, C6, by omega, by go_num, H6, P6⟩
    case measure => simp [intOf]; omega
theorem zc7 {w : World} {p : Nat} (h : p < w.heap.size) (o : Obj) : (w.alloc o).heap[p]? = w.heap[p]? := by
 obtain ⟨x, hx⟩ : ∃ x, w.heap[p]? = some x := ⟨_, Array.getElem?_eq_getElem h⟩;rw [hx]; exact zD hx o
theorem zc8 {w w' : World} {p : Nat} (h : w'.heap[p]? = w.heap[p]?) (i : Nat) : w'.frozen? ⟨p, i, none⟩ = w.frozen? ⟨p, i, none⟩ := by
 unfold World.frozen?;rw [h]
theorem zfN : zdC Tryz.prog 87 4 1 1 (.bool false) := ⟨Tryz.underlying87, by kernel_rfl, rfl, by decide⟩
def zfO (n : Nat) : Bool := decide (0 < n ∧ n % 8 = 0)
def ZA (t : List Bool) (n : Nat) : List Bool := t ++ (List.range' t.length (n - t.length)).map zfO
theorem ze6 (t : List Bool) (n : Nat) (h : t.length ≤ n) : (ZA t n).length = n := by
 unfold ZA; rw [List.length_append, List.length_map, List.length_range']; omega
theorem zhj (t : List Bool) (n : Nat) (h : t.length ≤ n) : ZA t (n + 1) = ZA t n ++ [zfO n] := by
 unfold ZA;rw [show n + 1 - t.length = (n - t.length) + 1 by omega, List.range'_concat, List.map_append, List.append_assoc];rw [show t.length + 1 * (n - t.length) = n by omega]; rfl
theorem zib (t : List Bool) (n c : Nat) (h2 : c ≤ n) (h3 : n ≤ c ∨ n = t.length) : (ZA t n).take c = zb6 t c := by
 unfold ZA zb6;rcases h3 with h3 | h3
 ·rw [show n = c by omega]; rfl
 ·rw [h3, Nat.sub_self, show c - t.length = 0 by omega]; rfl
theorem zjh {B : World} {C : Nat → Nat} {p : Nat} {w : World} {s : Scr} {ps : PSt} (h : SR B C p w s ps) (hl : s.tabs.length ≤ 1000) :
  Calls Tryz.prog 48 #[.pointer (some ⟨p, 0, none⟩)] w fun e w' => e = .returned (.tuple #[]) ∧ zq B C p w w' s.stops ps := by
 have HW := Lib.hid h.wf;obtain ⟨vt, ct, ot, _, _⟩ := h.tabs;have hlen := zcu Tryz.underlying87 ot;have HR := Lib.hid h;have HM := Lib.hid (show ∀ t : List Bool, ({ s with tabs := t } : Scr).main.cols = s.main.cols from fun _ => rfl);clear ot h;obtain ⟨c, hc⟩ : ∃ c, c = s.main.cols := ⟨_, rfl⟩;have HC := Lib.hid hc;have HC250 := Lib.hid (show c ≤ 250 by rw [hc]; exact HW.out.c2);have HST := Lib.hid (show s.stops = { s with tabs := zb6 s.tabs c } by rw [hc]; rfl);clear hc;go_enter Tryz.func48, Tryz.ntmps48;go_wp2_with fail
 go_loopw [2] (fun iv wr => ∃ (n : Nat) (C1 : Nat → Nat), iv = .int .i64 n ∧ s.tabs.length ≤ n ∧ n ≤ 1000 ∧ (n ≤ c ∨ n = s.tabs.length) ∧ Hid (SR B C1 p wr { s with tabs := ZA s.tabs n } ps) ∧ Hid (Pre C w C1 wr)) (fun iv _ => c - (intOf iv).toNat)
 case atStart => exact ⟨s.tabs.length, C, rfl, Nat.le_refl _, hl, .inr rfl, Lib.hid (by
  rw [show ZA s.tabs s.tabs.length = s.tabs by unfold ZA; rw [Nat.sub_self]; simp]; exact HR.out), Lib.hid (Pre.refl _ _)⟩
 case round =>
  obtain ⟨n, C1, rfl, hn1, hn2, hn3, H1, P1⟩ := hrel;have HC1 := Lib.hid (ZS H1.out);obtain ⟨v1, c1, o1, t1, hk1⟩ := H1.out.tabs;have HK1 := Lib.hid hk1;have HT1 := Lib.hid t1;have HO1 := Lib.hid (show zn wr 0 1 v1 n ((ZA s.tabs n).map Value.bool) by
   have := o1;rw [show ({ s with tabs := ZA s.tabs n } : Scr).tabs.length = n from ze6 s.tabs n hn1] at this;exact this)
  obtain ⟨x1, m1, cp1, rfl⟩ := zu HO1.out;clear o1 hk1 t1 ct hlen;by_cases hlt : n < c
  ·have hltI : (n : Int) < c := (by omega);have d1 : decide ((n : Int) < (c : Int)) = true := decide_eq_true hltI;have HB := Lib.hid (show ∀ (b : Bool), b = zfO n → ∀ w6 x6 m6 c6, zn w6 0 1 (.slice x6 m6 c6) (n + 1) ((ZA s.tabs n).map Value.bool ++ [.bool b]) → zn w6 0 1 (.slice x6 m6 c6) (ZA s.tabs (n + 1)).length ((ZA s.tabs (n + 1)).map Value.bool) from fun b hb w6 x6 m6 c6 o6 => by
    rw [ze6 _ _ (by omega), zhj _ _ hn1, List.map_append, ← hb]; exact o6)
   go_wp2_with fail;refine HC1.out.mono ?_;rintro e w5 ⟨rfl, rfl⟩;rw [show ({ s with tabs := ZA s.tabs n } : Scr).main.cols = c from HC.out.symm];have f35 := H1.out.fz 35;go_upto_region 3 with fail;have hn0 : (0 < n) ∨ n = 0 := (by omega);obtain ⟨bn, hbn⟩ : ∃ b, b = zfO n := ⟨_, rfl⟩;have HBN := Lib.hid hbn;clear hbn;rcases hn0 with hn0 | hn0
   ·have d2 : decide (0 < (n : Int)) = true := decide_eq_true (by omega);have d2' : decide (0 < n) = true := decide_eq_true hn0;have HBN := Lib.hid (show ((n : Int) % 8 == 0) = zfO n by
     unfold zfO;by_cases h8 : n % 8 = 0
     ·rw [decide_eq_true ⟨hn0, h8⟩, show ((n : Int) % 8 == 0) = true from beq_iff_eq.2 (by omega)]
     ·rw [decide_eq_false (fun e => h8 e.2), show ((n : Int) % 8 == 0) = false from beq_eq_false_iff_ne.2 (by omega)])
    go_wp2_with (at_builtin; refine zaz ?_);unfold zay;refine zG zfN rfl rfl 0 (zB HO1.out _) rfl (zV _ _ _) rfl (by intro u hu; simp at hu; subst hu; rfl) (by unfold maxLen; omega) (by omega) (by omega) ?_;intro v6 w6 o6 g6 n6;obtain ⟨x6, m6, c6, rfl⟩ := zu o6;have o7 := HB.out _ HBN.out w6 x6 m6 c6 o6;obtain ⟨C7, h7, p7⟩ := HK1.out _ w6 _ (ZA s.tabs (n + 1)) (World.grownBy_alloc w5 _ none) g6 o7 n6;have H7 := Lib.hid h7;have P7 := Lib.hid (P1.out.trans p7);have b6 : w6.heap[p]? = w5.heap[p]? := by
     rw [g6.block p (by have := H1.out.pl; simp; omega) (fun e => (HT1.out p e.symm).2 rfl)];exact zc7 H1.out.pl _
    have c6' := (zv b6 35).trans c1;have f6 := (zc8 b6 35).trans f35;clear o6 g6 n6 o7 h7 p7 b6 f35 c1;go_wp2_with fail;go_roundw
    case rel => exact ⟨n + 1, C7, by go_num, by omega, by have := HC250.out; omega, .inl (by omega), H7, P7⟩
    case measure => simp [intOf]; omega
   ·subst hn0;have HBN := Lib.hid (show false = zfO 0 from rfl);go_wp2_with (at_builtin; refine zaz ?_);unfold zay;refine zG zfN rfl rfl 0 (zB HO1.out _) rfl (zV _ _ _) rfl (by intro u hu; simp at hu; subst hu; rfl) (by unfold maxLen; omega) (by omega) (by omega) ?_;intro v6 w6 o6 g6 n6;obtain ⟨x6, m6, c6, rfl⟩ := zu o6;have o7 := HB.out _ HBN.out w6 x6 m6 c6 o6;obtain ⟨C7, h7, p7⟩ := HK1.out _ w6 _ (ZA s.tabs (0 + 1)) (World.grownBy_alloc w5 _ none) g6 o7 n6;have H7 := Lib.hid h7;have P7 := Lib.hid (P1.out.trans p7);have b6 : w6.heap[p]? = w5.heap[p]? := by
     rw [g6.block p (by have := H1.out.pl; simp; omega) (fun e => (HT1.out p e.symm).2 rfl)];exact zc7 H1.out.pl _
    have c6' := (zv b6 35).trans c1;have f6 := (zc8 b6 35).trans f35;clear o6 g6 n6 o7 h7 p7 b6 f35 c1;go_wp2_with fail;go_roundw
    case rel => exact ⟨0 + 1, C7, by go_num, by omega, by have := HC250.out; omega, .inl (by omega), H7, P7⟩
    case measure => simp [intOf]; omega
  ·have d1 : decide ((n : Int) < (c : Int)) = false := decide_eq_false (by omega);have d1' : decide (n < c) = false := decide_eq_false hlt;obtain ⟨v9, hsl, otk, hob⟩ := zgX (P := Tryz.prog) Tryz.underlying87 zdr HO1.out c (by omega);obtain ⟨x9, m9, c9, rfl⟩ := zu otk;have HSE := Lib.hid (zib s.tabs n c (by omega) hn3);have hbd : wr.grownBy wr.drew none := zbV (zr _ _);obtain ⟨C7, h7, p7⟩ := HK1.out wr.drew wr.drew _ (zb6 s.tabs c) hbd (zr _ _) (by
    rw [← List.map_take, HSE.out] at otk;have hl9 : (zb6 s.tabs c).length = c := zdN _ _;rw [hl9];exact zh otk (Below.refl _ _).drew) (fun k e => .inl (by rw [← hob]; exact e))
   have HD := Lib.hid (show zq B C p w _ s.stops ps by rw [HST.out]; exact ⟨C7, h7, P1.out.trans p7⟩);have c35 : wr.drew.cell? ⟨p, 35, none⟩ = some (.slice x1 m1 cp1) := c1;have f35 : wr.drew.frozen? ⟨p, 35, none⟩ = false := H1.out.fz 35;have HCD := Lib.hid (ZS (H1.out.below (Below.refl _ _).drew));clear otk hob h7 p7 hbd;go_wp2_with fail;refine HC1.out.mono ?_;rintro e w5 ⟨rfl, rfl⟩;rw [show ({ s with tabs := ZA s.tabs n } : Scr).main.cols = c from HC.out.symm];go_upto_region 4 with fail
   go_still_tail 10, (by kernel_rfl)
   still_call HCD.out
   rw [show ({ s with tabs := ZA s.tabs n } : Scr).main.cols = c from HC.out.symm]
   repeat still_step
   refine wpStill_nil ?_;change wpList _ _ _ _ _ w5.drew;go_wp2_with fail;go_end0;exact ⟨rfl, HD.out⟩
end
section
open Go.RowKit
def zco (p : Nat) (vo : Value) (T1 Tp : Nat → Nat) : Nat → Nat := fun k => if k = p then 1 else if vo.ownBlock = some k then 3 else if T1 k ≠ 0 then 4 else if Tp k ≠ 0 then 6 else 0
theorem zmJ {B : World} {C T1 Tp : Nat → Nat} {p q1 pp : Nat} {w w1 w2 : World} {s : Scr} {ps : PSt} {vo : Value} (hlt : ∀ k, C k ≠ 0 → k < w.heap.size) (cp : C p = 1) (hi : ∀ k, C k ≠ 0 → B.heap.size ≤ k) (tb : zcx B) (bl : Below B.heap.size B w)
  (ou : zn w 0 1 vo s.out.length (zk s.out)) (t3 : ∀ k, vo.ownBlock = some k → C k = 3) (hb : Below w.heap.size w w1) (hg : GM T1 q1 w1 s.main) (n1 : ∀ k, T1 k ≠ 0 → w.heap.size ≤ k) (hp : zch Tp pp w1 ps) (np : ∀ k, Tp k ≠ 0 → w.heap.size ≤ k) (nd : ∀ k, Tp k ≠ 0 → T1 k = 0)
  (g2 : w1.grownBy w2 (some p)) (hblk : w2.heap[p]? = some (.cells (s.cells q1 none pp ZP vo) 90 (0, 0))) (ho : s.other = none) (ht : s.tabs = []) : zq B C p w w2 s ps := by
 have hpl : p < w.heap.size := hlt p (by rw [cp]; decide);have hvl : ∀ k, vo.ownBlock = some k → k < w.heap.size := fun k e => (zl ou k e).2;have hvp : vo.ownBlock ≠ some p := fun e => (by have := t3 p e; rw [cp] at this; exact absurd this (by decide));have c1 : zco p vo T1 Tp p = 1 := (by unfold zco; rw [if_pos rfl]);have c3 : ∀ k, vo.ownBlock = some k → zco p vo T1 Tp k = 3 := fun k e => by
  unfold zco; rw [if_neg (fun e2 => hvp (by rw [e, e2])), if_pos e]
 have c4 : ∀ k, T1 k ≠ 0 → zco p vo T1 Tp k = 4 := fun k e => by
  have := n1 k e;unfold zco; rw [if_neg (by omega), if_neg (fun e2 => by have := hvl k e2; omega), if_pos e]
 have c6 : ∀ k, Tp k ≠ 0 → zco p vo T1 Tp k = 6 := fun k e => by
  have := np k e;unfold zco; rw [if_neg (by omega), if_neg (fun e2 => by have := hvl k e2; omega), if_neg (fun e2 => e2 (nd k e)), if_pos e]
 have from' : ∀ k, zco p vo T1 Tp k ≠ 0 → k = p ∨ vo.ownBlock = some k ∨ T1 k ≠ 0 ∨ Tp k ≠ 0 := fun k hk => by
  unfold zco at hk;by_cases h1 : k = p
  ·exact .inl h1
  ·rw [if_neg h1] at hk;by_cases h2 : vo.ownBlock = some k
   ·exact .inr (.inl h2)
   ·rw [if_neg h2] at hk;by_cases h3 : T1 k ≠ 0
    ·exact .inr (.inr (.inl h3))
    ·rw [if_neg h3] at hk;by_cases h4 : Tp k ≠ 0
     ·exact .inr (.inr (.inr h4))
     ·rw [if_neg h4] at hk; exact absurd rfl hk
 have hs2 : w.heap.size ≤ w2.heap.size := Nat.le_trans hb.size g2.size;have K : zar (zco p vo T1 Tp) 1 w1 w2 := .of_gb g2 (fun k e => by injection e with e; subst e; exact .inl c1);have sm : SAt (zco p vo T1 Tp) T1 (fun _ => 0) Tp p q1 none pp ZP vo w2 s ps := by
  refine ⟨fun k hk => ?_, c1, hblk, K.gm hg c4 (by decide), .inl ⟨rfl, ho, fun _ => rfl⟩, K.rest hp c6 (by decide), ?_, K.row (zh ou hb) c3 (by decide), fun k e => ?_, c3, c4, fun k e => absurd rfl e, c6⟩
  ·rcases from' k hk with e | e | e | e
   ·omega
   ·have := hvl k e; omega
   ·exact Nat.lt_of_lt_of_le (hg.lt k e) g2.size
   ·exact Nat.lt_of_lt_of_le (hp.1 k e) g2.size
  ·rw [ht]; exact ZX _ _ _
  ·simp [ZP, Value.ownBlock] at e
 have g : Pre C w (zco p vo T1 Tp) w2 := ⟨(ze.of_below hb).trans (ze.of_gb g2 (fun k e => by injection e with e; subst e; exact .inl (by rw [cp]; decide))), fun k hk => by
  rcases from' k hk with e | e | e | e
  ·exact .inl (by rw [e, cp]; decide)
  ·exact .inl (by rw [t3 k e]; decide)
  ·exact .inr (n1 k e)
  ·exact .inr (np k e)⟩
 exact ⟨_, ⟨⟨_, _, _, _, _, _, _, _, sm⟩, tb, bl.trans (zeK g.wi bl.size hi), zip g.n bl.size hi⟩, g⟩
end
section
open Go.RowKit
set_option maxRecDepth 100000
structure zow (B : World) (C : Nat → Nat) (p : Nat) (w : World) (g : Gr) (bells : Int) (out : List UInt8) : Prop where
 lt : ∀ k, C k ≠ 0 → k < w.heap.size
 cp : C p = 1
 hi : ∀ k, C k ≠ 0 → B.heap.size ≤ k
 tb : zcx B
 bl : Below B.heap.size B w
 ex : ∃ cs Tm pm vo, w.heap[p]? = some (.cells cs 90 (0, 0)) ∧ cs.size = 41 ∧ cs[10]? = some (.pointer (some ⟨pm, 0, none⟩)) ∧ cs[38]? = some (.int .i64 bells) ∧ cs[40]? = some vo ∧ GM Tm pm w g ∧ zn w 0 1 vo out.length (zk out) ∧ (∀ k, vo.ownBlock = some k → C k = 3)
theorem SR.half {B : World} {C : Nat → Nat} {p : Nat} {w : World} {s : Scr} {ps : PSt} (h : SR B C p w s ps) : zow B C p w s.main s.bells s.out := by
 obtain ⟨Tm, To, Tp, pm, po, pp, vt, vo, hs⟩ := h.sm;exact ⟨hs.lt, hs.cp, h.hi, h.tb, h.bl, _, Tm, pm, vo, hs.blk, rfl, rfl, rfl, rfl, hs.gm, hs.ou, hs.t3⟩
def zb8 (g : Gr) (bells : Int) (out : List UInt8) : Scr := ⟨sav0, ZY g.cols g.rows.length g.limit, none, sav0, sav0, 9, 0, 0, [], [], 0, bells, out⟩
theorem zcp (w : World) : Calls Tryz.prog 84 #[] w fun e w' => e = .returned (.agg #[.int .i64 0, .int .i64 0, .bool false, .int .i64 (-1), .int .i64 (-1), .int .i64 0, .bool false, .bool false, .bool false, .int .i64 0]) ∧ Below w.heap.size w w' := zkX w
set_option maxHeartbeats 2000000 in
theorem zfP {B : World} {C : Nat → Nat} {p : Nat} {w : World} {g : Gr} {bells : Int} {out : List UInt8} (h : zow B C p w g bells out) :
  Calls Tryz.prog 44 #[.pointer (some ⟨p, 0, none⟩)] w fun e w' => e = .returned (.tuple #[]) ∧ zq B C p w w' (((zb8 g bells out).stops).whole) s0 := by
 obtain ⟨cs, Tm, pm, vo, hb, hsz, e10, e38, e40, hg, ho, ht3⟩ := h.ex;obtain ⟨xo, mo, co, rfl⟩ := zu ho;have c10 : w.cell? ⟨p, 10, none⟩ = some (.pointer (some ⟨pm, 0, none⟩)) := (za hb 10).trans e10;have c38 : w.cell? ⟨p, 38, none⟩ = some (.int .i64 bells) := (za hb 38).trans e38;have c40 : w.cell? ⟨p, 40, none⟩ = some (.slice xo mo co) := (za hb 40).trans e40;have HB := Lib.hid hb;have HSZ := Lib.hid hsz;have HG := Lib.hid hg;have HO := Lib.hid ho;have HT3 := Lib.hid ht3;have HH := Lib.hid h;have HPL := Lib.hid (zj hb);clear hb hsz e10 e38 e40 hg ho ht3 h;go_enter Tryz.func44, Tryz.ntmps44;go_upto_region 0 with fail
 go_region_held3 (fun w' => w'.cell? ⟨p, 10, none⟩ = some (.pointer (some ⟨pm, 0, none⟩))) (first | exact c10 | exact z0)
  (first
   | (go_at_call 29; refine (zf5 (HG.out.below (Below.refl _ _).drew)).mono ?_; rintro e wq ⟨rfl, rfl⟩)
   | (go_at_call 30; refine (zeQ (HG.out.below (Below.refl _ _).drew)).mono ?_; rintro e wq ⟨rfl, rfl⟩)
   | (go_at_call 32; refine (zgY (HG.out.below (Below.refl _ _).drew)).mono ?_; rintro e wq ⟨rfl, rfl⟩)
   | (go_at_call 43; refine (zde g.cols g.rows.length g.limit w.drew HG.out.wf.c1 HG.out.wf.c2 HG.out.wf.r1 HG.out.wf.r2 HG.out.wf.li).mono ?_; rintro e w4 ⟨q1, T1, rfl, b4, g4, n4⟩; have HB4 := Lib.hid ((Below.refl w.heap.size w).drew.trans b4); have HG4 := Lib.hid g4; have HN4 := Lib.hid n4; have z0 := zc b4 c10; clear b4 g4 n4))
 have d38 : w4.cell? ⟨p, 38, none⟩ = some (.int .i64 bells) := zc HB4.out c38;have d40 : w4.cell? ⟨p, 40, none⟩ = some (.slice xo mo co) := zc HB4.out c40;clear c10 c38 c40 z0;go_upto_region 1 with fail;have e38 : w4.drew.cell? ⟨p, 38, none⟩ = some (.int .i64 bells) := d38;have e40 : w4.drew.cell? ⟨p, 40, none⟩ = some (.slice xo mo co) := d40;have HBd := Lib.hid (HB4.out.trans ((Below.refl w4.heap.size w4).drew.mono HB4.out.size));refine Zl (c := 17) (S := (fun bb w' => (w'.cell? ⟨p, 38, none⟩ = some (.int .i64 bells) ∧ w'.cell? ⟨p, 40, none⟩ = some (.slice xo mo co)) ∧ (bb = false → True))) (by kernel_rfl) (⟨⟨e38, e40⟩, fun _ => trivial⟩) (fun _ => ?_);refine zd false 0 (⟨⟨e38, e40⟩, fun _ => trivial⟩) ?_;refine zd false 2 (⟨⟨e38, e40⟩, fun _ => trivial⟩) ?_;refine zd false 6 (⟨⟨e38, e40⟩, fun _ => trivial⟩) ?_;refine zd false 7 (⟨⟨e38, e40⟩, fun _ => trivial⟩) ?_;refine zd false 8 (⟨⟨e38, e40⟩, fun _ => trivial⟩) ?_;refine zd false 9 (⟨⟨e38, e40⟩, fun _ => trivial⟩) ?_;refine zd false 10 (⟨⟨e38, e40⟩, fun _ => trivial⟩) ?_;refine zd false 11 (⟨⟨e38, e40⟩, fun _ => trivial⟩) ?_;refine zd false 12 (⟨⟨e38, e40⟩, fun _ => trivial⟩) ?_;refine zd false 13 (⟨⟨e38, e40⟩, fun _ => trivial⟩) ?_;refine zt false 1 fun K hK => ?_;refine zi rfl ?_;go_wp2_with fail;refine (zcp w4.drew).mono ?_;rintro e wa ⟨rfl, ba⟩;have a38 := zc ba e38;have a40 := zc ba e40;have HBa := Lib.hid (HBd.out.trans (ba.mono HBd.out.size));have HWa := Lib.hid (show Below w4.heap.size w4 wa from (Below.refl w4.heap.size w4).drew.trans ba);refine hK.out _ _ (⟨⟨a38, a40⟩, fun _ => trivial⟩) (fun _ => ?_);clear hK K ba
 try simp only [Act.put, List.setIfInBounds_toArray, List.set_cons_zero, List.set_cons_succ]
 refine zt false 3 fun K hK => ?_;refine zi rfl ?_;go_wp2_with fail;refine (zcp wa).mono ?_;rintro e wb ⟨rfl, bb⟩;have b38 := zc bb a38;have b40 := zc bb a40;have HBb := Lib.hid (HBa.out.trans (bb.mono HBa.out.size));have HWb := Lib.hid (show Below w4.heap.size w4 wb from HWa.out.trans (bb.mono HWa.out.size));refine hK.out _ _ (⟨⟨b38, b40⟩, fun _ => trivial⟩) (fun _ => ?_);clear hK K bb
 try simp only [Act.put, List.setIfInBounds_toArray, List.set_cons_zero, List.set_cons_succ]
 refine zt false 4 fun K hK => ?_;refine zi rfl ?_;go_wp2_with fail;refine (zcp wb).mono ?_;rintro e wc ⟨rfl, bc⟩;have c38 := zc bc b38;have c40 := zc bc b40;have HBc := Lib.hid (HBb.out.trans (bc.mono HBb.out.size));have HWc := Lib.hid (show Below w4.heap.size w4 wc from HWb.out.trans (bc.mono HWb.out.size));refine hK.out _ _ (⟨⟨c38, c40⟩, fun _ => trivial⟩) (fun _ => ?_);clear hK K bc
 try simp only [Act.put, List.setIfInBounds_toArray, List.set_cons_zero, List.set_cons_succ]
 refine zd false 5 (⟨⟨c38, c40⟩, fun _ => trivial⟩) ?_;refine zt false 14 fun K hK => ?_;refine zi rfl ?_;go_wp2_with fail;refine (znK wc).mono ?_;rintro e wn ⟨pp, Tp, rfl, bn, rn, nn⟩;have n38 := zc bn c38;have n40 := zc bn c40;have HBn := Lib.hid (HBc.out.trans (bn.mono HBc.out.size));have HW4c := Lib.hid (show Below w4.heap.size w4 wc from HWc.out);have HW4n := Lib.hid (show Below w4.heap.size w4 wn from HWc.out.trans (bn.mono HWc.out.size));have HRN := Lib.hid rn;have HNN := Lib.hid nn;refine hK.out _ _ (⟨⟨n38, n40⟩, fun _ => trivial⟩) (fun _ => ?_);clear hK K bn rn nn
 try simp only [Act.put, List.setIfInBounds_toArray, List.set_cons_zero, List.set_cons_succ]
 refine zd false 15 (⟨⟨n38, n40⟩, fun _ => trivial⟩) ?_;refine zd false 16 (⟨⟨n38, n40⟩, fun _ => trivial⟩) ?_;refine zt true 17 fun K hK => ?_;refine zi rfl ?_;have hst := run_storeVar_row (P := Tryz.prog) wn p 90 90 cs ((zb8 g bells out).cells q1 none pp ZP (.slice xo mo co)) (zm HB.out HBn.out HPL.out) (by kernel_rfl) (by rw [HSZ.out]; rfl) (by simp [Scr.cells, Value.oneCell', zoO, ZP, zb8]);refine zgN _ _ _ rfl hst rfl rfl ?_;have hb9 := zaS (cells := (zb8 g bells out).cells q1 none pp ZP (.slice xo mo co)) (zm HB.out HBn.out HPL.out);have g9 := zgI wn p ((zb8 g bells out).cells q1 none pp ZP (.slice xo mo co));have hle : ∀ {a b : World}, Below a.heap.size a b → a.heap.size ≤ b.heap.size := fun h => h.size;obtain ⟨C7, h7, p7⟩ := zmJ (s := zb8 g bells out) HH.out.lt HH.out.cp HH.out.hi HH.out.tb HH.out.bl HO.out HT3.out HBn.out (HG4.out.below HW4n.out) (fun k hk => HN4.out k hk) HRN.out (fun k hk => Nat.le_trans HBc.out.size (HNN.out k hk)) (fun k hk => HG4.out.own0 (Nat.le_trans HW4c.out.size (HNN.out k hk))) g9 hb9 rfl rfl;have H7 := Lib.hid h7;have P7 := Lib.hid p7;have r38 : (wn.setRow p ((zb8 g bells out).cells q1 none pp ZP (.slice xo mo co))).cell? ⟨p, 38, none⟩ = some (.int .i64 bells) := za hb9 38;have r40 : (wn.setRow p ((zb8 g bells out).cells q1 none pp ZP (.slice xo mo co))).cell? ⟨p, 40, none⟩ = some (.slice xo mo co) := za hb9 40;refine hK.out _ _ (⟨⟨r38, r40⟩, fun e => by cases e⟩) (fun _ => ?_);clear hK K hst hb9 g9 h7 p7
 try simp only [Act.put]
 refine Zh (by kernel_rfl) ?_ _;clear r38 r40 n38 n40 c38 c40 b38 b40 a38 a40 d38 d40 e38 e40;generalize wn.setRow p ((zb8 g bells out).cells q1 none pp ZP (.slice xo mo co)) = w9 at *;go_wp2_with fail;refine (zjh H7.out (by show (0 : Nat) ≤ 1000; decide)).mono ?_;rintro e w10 ⟨rfl, C8, h8, p8⟩;have H8 := Lib.hid h8;have P8 := Lib.hid (P7.out.trans p8);clear h8 p8;go_wp2_with fail;refine (zbJ H8.out).mono ?_;rintro e w11 ⟨rfl, d9⟩;have HD := Lib.hid (zq.after P8.out d9);clear d9;go_wp2_with fail;go_end0;exact ⟨rfl, HD.out⟩
end
section
open Go.RowKit
set_option maxRecDepth 100000
theorem zaf {B : World} {C : Nat → Nat} {p : Nat} {w : World} {s : Scr} {ps : PSt} (h : SR B C p w s ps) (t : ByteArray) (hl : s.out.length ≤ 1000000) (hb : t.data.toList.length ≤ 1000000) :
  Calls Tryz.prog 167 #[.pointer (some ⟨p, 0, none⟩), .string t] w fun e w' => e = .returned (.tuple #[]) ∧ zq B C p w w' (s.say t.data.toList) ps := by
 obtain ⟨vo, co, oo, tv, hk⟩ := h.outs;obtain ⟨xo, mo, cp, rfl⟩ := zu oo;have f40 := h.fz 40;have HO := Lib.hid oo;have HT := Lib.hid tv;have HK := Lib.hid hk;have HPL := Lib.hid h.pl;clear oo tv hk h;go_enter Tryz.func167, Tryz.ntmps167;go_wp2_with (at_builtin; refine zaz ?_);unfold zay;refine zeY Z6 rfl rfl 0 HO.out rfl (znZ _ Tryz.underlying9 t) rfl (by unfold maxLen; omega) (by omega) (by omega) ?_;intro v6 w6 o6 g6 n6;obtain ⟨x6, m6, c6, rfl⟩ := zu o6;have o7 : zn w6 0 1 (.slice x6 m6 c6) (s.out ++ t.data.toList).length (zk (s.out ++ t.data.toList)) := (by rw [List.length_append, ZB]; exact o6);have HD := Lib.hid (HK.out w w6 _ _ (zr _ _) g6 o7 n6);have b6 : w6.heap[p]? = w.heap[p]? := g6.block p HPL.out (fun e => (HT.out p e.symm).2 rfl);have c6' := (zv b6 40).trans co;have f6 := (zc8 b6 40).trans f40;clear o6 g6 n6 o7 b6 f40 co;go_wp2_with fail;go_end0;exact ⟨rfl, HD.out⟩
theorem zji {B : World} {C : Nat → Nat} {p : Nat} {w : World} {s : Scr} {ps : PSt} (h : SR B C p w s ps) :
  Calls Tryz.prog 80 #[.pointer (some ⟨p, 0, none⟩)] w fun e w' => e = .returned (.tuple #[]) ∧ zq B C p w w' s.forget ps := by
 obtain ⟨T, q, hg, c10, hk⟩ := h.main;have HG := Lib.hid hg;have HK := Lib.hid hk;clear hg hk h;go_enter Tryz.func80, Tryz.ntmps80;go_wp2_with fail;refine (zi4 HG.out).mono ?_;rintro e w2 ⟨rfl, hw, g2⟩;have HD := Lib.hid (HK.out w w2 T _ (Below.refl _ _) hw g2 (fun k hk => .inl hk)).1;clear hw g2;go_wp2_with fail;go_end0;exact ⟨rfl, HD.out⟩
theorem zdP {B : World} {C : Nat → Nat} {p c r : Nat} {w : World} {s : Scr} {ps : PSt} (h : SR B C p w s ps) (hok : s.Ok c r) (k : Int) :
  Calls Tryz.prog 233 #[.pointer (some ⟨p, 0, none⟩), .int .i64 k] w fun e w' => e = .returned (.tuple #[]) ∧ zq B C p w w' (s.inRow k) ps := by
 by_cases h0 : k = 0
 ·subst h0;have HE := Lib.hid (show s.inRow 0 = s.calm.turn (fun g => (g.erase s.now.x s.now.y s.cols s.blank).setWrap s.now.y false) from rfl);have HOK := Lib.hid hok.calm;have HNU := Lib.hid (h.nums hok);have c2 : w.cell? ⟨p, 2, none⟩ = some (.bool s.now.wait) := h.at_ 2 _;have f2 := h.fz 2;obtain ⟨h1, g1⟩ := h.set 2 (.bool false) s.calm;have HR := Lib.hid h1;have P1 := Lib.hid g1;clear h h1 g1 hok;go_enter Tryz.func233, Tryz.ntmps233;go_upto_region 3 with fail;generalize w.setCell ⟨p, 2, none⟩ (.bool false) = w1 at *;clear c2 f2;have c0 : w1.cell? ⟨p, 0, none⟩ = some (.int .i64 s.now.x) := HR.out.at_ 0 _;have c1 : w1.cell? ⟨p, 1, none⟩ = some (.int .i64 s.now.y) := HR.out.at_ 1 _;have hok := HOK.out;obtain ⟨T, q, hg, hq, hk⟩ := HR.out.grid;have HG := Lib.hid hg;have HQ := Lib.hid hq;have HK := Lib.hid hk;have HRI := Lib.hid (HR.out.blankR hok);clear hg hq hk;go_upto_region 3 with fail
  go_region_held3 (fun w' => w'.cell? ⟨p, 0, none⟩ = some (.int .i64 s.now.x) ∧ w'.cell? ⟨p, 1, none⟩ = some (.int .i64 s.now.y)) (first | exact ⟨c0, c1⟩ | exact ⟨z0, z1⟩)
   (first
    | (go_at_call 69; refine (zL (w := w1.drew) HQ.out).mono ?_; rintro e w4 ⟨rfl, rfl⟩)
    | (go_at_call 93; refine (ZS (HR.out.below (Below.refl _ _).drew)).mono ?_; rintro e wq ⟨rfl, rfl⟩)
    | (go_at_call 155; refine (Zv (HR.out.below (Below.refl _ _).drew)).mono ?_; rintro e w5 ⟨rfl, b5⟩; have HB5 := Lib.hid ((Below.refl w1.heap.size w1).drew.trans b5); have z0 := zc b5 c0; have z1 := zc b5 c1; clear b5)
    | (go_at_call 282; refine (zdm (HG.out.below HB5.out) _ _ _ _ (HRI.out.below HB5.out)).mono ?_; rintro e w6 ⟨rfl, hw6, g6⟩; obtain ⟨d6, hb6⟩ := HK.out _ _ _ (fun g => g.erase s.now.x s.now.y s.main.cols s.blank) HB5.out hw6 g6 (fun k hk => .inl hk); have HD := Lib.hid d6; have z0 := (zv hb6 0).trans c0; have z1 := (zv hb6 1).trans c1; clear hw6 g6 hb6 d6))
  obtain ⟨C2, h2, p2⟩ := HD.out;have H2 := Lib.hid h2;have P2 := Lib.hid (P1.out.trans p2);have c1b : w6.cell? ⟨p, 1, none⟩ = some (.int .i64 s.now.y) := by
   have := h2.at_ 1 _;rw [zcf] at this;exact this
  clear h2 p2 z0 z1 c0 c1 HG HQ HK HRI HD HR P1 hok;obtain ⟨T, q, hg, hq, hk⟩ := H2.out.grid;have HG := Lib.hid hg;have HQ := Lib.hid hq;have HK := Lib.hid hk;clear hg hq hk;obtain ⟨w1, hw1⟩ : ∃ z, z = w6 := ⟨_, rfl⟩;subst hw1;have c1 : w1.cell? ⟨p, 1, none⟩ = some (.int .i64 s.now.y) := c1b;clear c1b;go_upto_region 4 with fail
  go_region_held3 (fun w' => w'.cell? ⟨p, 1, none⟩ = some (.int .i64 s.now.y)) (first | exact c1 | exact z0)
   (first
    | (go_at_call 69; refine (zL (w := w1.drew) HQ.out).mono ?_; rintro e w4 ⟨rfl, rfl⟩)
    | (go_at_call 205; refine (zed (HG.out.below (Below.refl _ _).drew) _ _).mono ?_; rintro e w6 ⟨rfl, hw6, g6⟩; obtain ⟨d6, hb6⟩ := HK.out _ _ _ (fun g => g.setWrap s.now.y false) (Below.refl _ _).drew hw6 g6 (fun k hk => .inl hk); have HD := Lib.hid d6; have z0 := (zv hb6 1).trans c1; clear hw6 g6 hb6 d6))
  go_wp2_with fail;go_end0;refine ⟨rfl, ?_⟩;have HD2 := HD.out;rw [zcm] at HD2;rw [HE.out];exact .after P2.out HD2
 by_cases h1 : k = 1
 ·subst h1;clear h0;have HE := Lib.hid (show s.inRow 1 = s.calm.turn (fun g => g.erase 0 s.now.y (s.now.x + 1) s.blank) from rfl);have HOK := Lib.hid hok.calm;have HNU := Lib.hid (h.nums hok);have c2 : w.cell? ⟨p, 2, none⟩ = some (.bool s.now.wait) := h.at_ 2 _;have f2 := h.fz 2;obtain ⟨h1, g1⟩ := h.set 2 (.bool false) s.calm;have HR := Lib.hid h1;have P1 := Lib.hid g1;clear h h1 g1 hok;go_enter Tryz.func233, Tryz.ntmps233;go_upto_region 6 with fail;generalize w.setCell ⟨p, 2, none⟩ (.bool false) = w1 at *;clear c2 f2;have c0 : w1.cell? ⟨p, 0, none⟩ = some (.int .i64 s.now.x) := HR.out.at_ 0 _;have c1 : w1.cell? ⟨p, 1, none⟩ = some (.int .i64 s.now.y) := HR.out.at_ 1 _;have hok := HOK.out;obtain ⟨T, q, hg, hq, hk⟩ := HR.out.grid;have HG := Lib.hid hg;have HQ := Lib.hid hq;have HK := Lib.hid hk;have HRI := Lib.hid (HR.out.blankR hok);clear hg hq hk;have hw : IntKind.i64.wrap (s.now.x + 1) = s.now.x + 1 := (by have h1 := HNU.out.x0; have h2 := HNU.out.x1; have h3 := HNU.out.c2; exact zb _ (by omega) (by omega));go_upto_region 6 with fail
  go_region_held3 (fun w' => w'.cell? ⟨p, 0, none⟩ = some (.int .i64 s.now.x) ∧ w'.cell? ⟨p, 1, none⟩ = some (.int .i64 s.now.y)) (first | exact ⟨c0, c1⟩ | exact ⟨z0, z1⟩)
   (first
    | (go_at_call 69; refine (zL (w := w1.drew) HQ.out).mono ?_; rintro e w4 ⟨rfl, rfl⟩)
    | (go_at_call 155; refine (Zv (HR.out.below (Below.refl _ _).drew)).mono ?_; rintro e w5 ⟨rfl, b5⟩; have HB5 := Lib.hid ((Below.refl w1.heap.size w1).drew.trans b5); have z0 := zc b5 c0; have z1 := zc b5 c1; clear b5)
    | (go_at_call 282; refine (zdm (HG.out.below HB5.out) _ _ _ _ (HRI.out.below HB5.out)).mono ?_; rintro e w6 ⟨rfl, hw6, g6⟩; obtain ⟨d6, hb6⟩ := HK.out _ _ _ (fun g => g.erase 0 s.now.y (s.now.x + 1) s.blank) HB5.out hw6 g6 (fun k hk => .inl hk); have HD := Lib.hid d6; have z0 := (zv hb6 0).trans c0; have z1 := (zv hb6 1).trans c1; clear hw6 g6 hb6 d6))
  go_wp2_with fail;go_end0;refine ⟨rfl, ?_⟩;rw [HE.out];exact .after P1.out HD.out
 by_cases h2 : k = 2
 ·subst h2;clear h0 h1;have HE := Lib.hid (show s.inRow 2 = s.calm.clean s.now.y (s.now.y + 1) from rfl);have HOK := Lib.hid hok.calm;have HNU := Lib.hid (h.nums hok);have c2 : w.cell? ⟨p, 2, none⟩ = some (.bool s.now.wait) := h.at_ 2 _;have f2 := h.fz 2;obtain ⟨h1, g1⟩ := h.set 2 (.bool false) s.calm;have HR := Lib.hid h1;have P1 := Lib.hid g1;clear h h1 g1 hok;go_enter Tryz.func233, Tryz.ntmps233;go_upto_region 8 with fail;generalize w.setCell ⟨p, 2, none⟩ (.bool false) = w1 at *;clear c2 f2;have c1 : w1.cell? ⟨p, 1, none⟩ = some (.int .i64 s.now.y) := HR.out.at_ 1 _;have hnu := HNU.out;have hy0 := hnu.y0;have hy1 := hnu.y1;have hy2 := hnu.r2;have hw : IntKind.i64.wrap (s.now.y + 1) = s.now.y + 1 := zb _ (by omega) (by omega);clear hnu
  go_still_tail 12, (by kernel_rfl)
  change wpList _ _ _ _ _ w1.drew;go_wp2_with fail;refine (zcI (HR.out.below (Below.refl _ _).drew) HOK.out s.now.y (s.now.y + 1) ⟨by omega, by omega⟩ (by omega)).mono ?_;rintro e w6 ⟨rfl, d6⟩;have HD6 := Lib.hid (zq.after (P1.out.below (Below.refl _ _).drew) d6);clear d6;go_wp2_with fail;go_end0;refine ⟨rfl, ?_⟩;rw [HE.out];exact HD6.out
 have HE := Lib.hid (show s.inRow k = s.calm by unfold Scr.inRow; rw [if_neg h0, if_neg h1, if_neg h2]);have e0 : (k == 0) = false := beq_eq_false_iff_ne.2 h0;have e1 : (k == 1) = false := beq_eq_false_iff_ne.2 h1;have e2 : (k == 2) = false := beq_eq_false_iff_ne.2 h2;have c2 : w.cell? ⟨p, 2, none⟩ = some (.bool s.now.wait) := h.at_ 2 _;have f2 := h.fz 2;obtain ⟨h1, g1⟩ := h.set 2 (.bool false) s.calm;have HD := Lib.hid (show zq B C p w _ _ ps from ⟨_, h1, g1⟩);clear h h1 g1 hok h0 h2;go_enter Tryz.func233, Tryz.ntmps233;go_wp2_with fail;go_end0;refine ⟨rfl, ?_⟩;rw [HE.out];exact HD.out
theorem zjj {B : World} {C : Nat → Nat} {p c r : Nat} {w : World} {s : Scr} {ps : PSt} (h : SR B C p w s ps) (hok : s.Ok c r) (k : Int) :
  Calls Tryz.prog 232 #[.pointer (some ⟨p, 0, none⟩), .int .i64 k] w fun e w' => e = .returned (.tuple #[]) ∧ zq B C p w w' (s.inAll k) ps := by
 by_cases h0 : k = 0
 ·subst h0;have HE := Lib.hid (show s.inAll 0 = (s.calm.inRow 0).clean (s.now.y + 1) s.rows from rfl);have HOK := Lib.hid hok.calm;have HNU := Lib.hid (h.nums hok);have HOKS := Lib.hid hok;have c2 : w.cell? ⟨p, 2, none⟩ = some (.bool s.now.wait) := h.at_ 2 _;have f2 := h.fz 2;obtain ⟨h1, g1⟩ := h.set 2 (.bool false) s.calm;have HR := Lib.hid h1;have P1 := Lib.hid g1;have hnu := HNU.out;have hy0 := hnu.y0;have hy1 := hnu.y1;have hy2 := hnu.r2;have hw : IntKind.i64.wrap (s.now.y + 1) = s.now.y + 1 := zb _ (by omega) (by omega);clear h h1 g1 hok hnu;go_enter Tryz.func232, Tryz.ntmps232;go_wp2_with fail;refine (zdP HR.out HOK.out 0).mono ?_;rintro e w2 ⟨rfl, C2, h2, p2⟩;have H2 := Lib.hid h2;have P2 := Lib.hid (P1.out.trans p2);have HO2 := Lib.hid (HOK.out.inRow 0);have HRO := Lib.hid (show (s.calm.inRow 0).main.rows.length = s.main.rows.length from HO2.out.main.2.trans HOK.out.main.2.symm);have HCN := Lib.hid (show s.inAll 0 = (s.calm.inRow 0).clean (s.now.y + 1) s.rows from HE.out);clear h2 p2;have c1 : w2.cell? ⟨p, 1, none⟩ = some (.int .i64 s.now.y) := by
   have := H2.out.at_ 1 _;rw [show (s.calm.inRow 0).now.y = s.now.y by unfold Scr.inRow; rw [if_pos rfl, zcf]; rfl] at this;exact this
  go_upto_region 4 with fail
  go_still_tail 9, (by kernel_rfl)
  still_call (ZI (H2.out.below (Below.refl _ _).drew))
  repeat still_step
  refine wpStill_nil ?_;change wpList _ _ _ _ _ w2.drew;rw [HRO.out];go_wp2_with fail;refine (zcI (H2.out.below (Below.refl _ _).drew) HO2.out (s.now.y + 1) s.main.rows.length ⟨by omega, by omega⟩ (by omega)).mono ?_;rintro e w6 ⟨rfl, d6⟩;have HD6 := Lib.hid (zq.after (P2.out.below (Below.refl _ _).drew) d6);clear d6;go_wp2_with fail;go_end0;refine ⟨rfl, ?_⟩;rw [HE.out];exact HD6.out
 by_cases h1 : k = 1
 ·subst h1;clear h0;have HE := Lib.hid (show s.inAll 1 = (s.calm.inRow 1).clean 0 s.now.y from rfl);have HOK := Lib.hid hok.calm;have HNU := Lib.hid (h.nums hok);have HOKS := Lib.hid hok;have c2 : w.cell? ⟨p, 2, none⟩ = some (.bool s.now.wait) := h.at_ 2 _;have f2 := h.fz 2;obtain ⟨h1, g1⟩ := h.set 2 (.bool false) s.calm;have HR := Lib.hid h1;have P1 := Lib.hid g1;have hnu := HNU.out;have hy0 := hnu.y0;have hy1 := hnu.y1;have hy2 := hnu.r2;have hw : IntKind.i64.wrap (s.now.y + 1) = s.now.y + 1 := zb _ (by omega) (by omega);clear h h1 g1 hok hnu;go_enter Tryz.func232, Tryz.ntmps232;go_wp2_with fail;refine (zdP HR.out HOK.out 1).mono ?_;rintro e w2 ⟨rfl, C2, h2, p2⟩;have H2 := Lib.hid h2;have P2 := Lib.hid (P1.out.trans p2);have HO2 := Lib.hid (HOK.out.inRow 1);have HRO := Lib.hid (show (s.calm.inRow 1).main.rows.length = s.main.rows.length from HO2.out.main.2.trans HOK.out.main.2.symm);have HCN := Lib.hid (show s.inAll 1 = (s.calm.inRow 1).clean 0 s.now.y from HE.out);clear h2 p2;have c1 : w2.cell? ⟨p, 1, none⟩ = some (.int .i64 s.now.y) := by
   have := H2.out.at_ 1 _;rw [show (s.calm.inRow 1).now.y = s.now.y by unfold Scr.inRow; rw [if_neg (by decide), if_pos rfl, zcf]; rfl] at this;exact this
  go_wp2_with fail;refine (zcI H2.out HO2.out 0 s.now.y ⟨by omega, by omega⟩ (by omega)).mono ?_;rintro e w6 ⟨rfl, d6⟩;have HD6 := Lib.hid (zq.after P2.out d6);clear d6;go_wp2_with fail;go_end0;refine ⟨rfl, ?_⟩;rw [HE.out];exact HD6.out
 by_cases h2 : k = 2
 ·subst h2;clear h0 h1;have HE := Lib.hid (show s.inAll 2 = s.calm.clean 0 s.rows from rfl);have HOK := Lib.hid hok.calm;have HNU := Lib.hid (h.nums hok);have HOKS := Lib.hid hok;have c2 : w.cell? ⟨p, 2, none⟩ = some (.bool s.now.wait) := h.at_ 2 _;have f2 := h.fz 2;obtain ⟨h1, g1⟩ := h.set 2 (.bool false) s.calm;have HR := Lib.hid h1;have P1 := Lib.hid g1;have hnu := HNU.out;have hy0 := hnu.y0;have hy1 := hnu.y1;have hy2 := hnu.r2;have hw : IntKind.i64.wrap (s.now.y + 1) = s.now.y + 1 := zb _ (by omega) (by omega);clear h h1 g1 hok hnu;go_enter Tryz.func232, Tryz.ntmps232;go_wp2_with fail;refine (ZI HR.out).mono ?_;rintro e w2 ⟨rfl, rfl⟩;go_wp2_with fail;refine (zcI HR.out HOK.out 0 s.main.rows.length ⟨by omega, by omega⟩ (by omega)).mono ?_;rintro e w6 ⟨rfl, d6⟩;have HD6 := Lib.hid (zq.after P1.out d6);clear d6;go_wp2_with fail;go_end0;refine ⟨rfl, ?_⟩;rw [HE.out];exact HD6.out
 by_cases h3 : k = 3
 ·subst h3;clear h0 h1 h2;have HE := Lib.hid (show s.inAll 3 = s.calm.forget from rfl);have HOK := Lib.hid hok.calm;have HNU := Lib.hid (h.nums hok);have HOKS := Lib.hid hok;have c2 : w.cell? ⟨p, 2, none⟩ = some (.bool s.now.wait) := h.at_ 2 _;have f2 := h.fz 2;obtain ⟨h1, g1⟩ := h.set 2 (.bool false) s.calm;have HR := Lib.hid h1;have P1 := Lib.hid g1;have hnu := HNU.out;have hy0 := hnu.y0;have hy1 := hnu.y1;have hy2 := hnu.r2;have hw : IntKind.i64.wrap (s.now.y + 1) = s.now.y + 1 := zb _ (by omega) (by omega);clear h h1 g1 hok hnu;go_enter Tryz.func232, Tryz.ntmps232;go_wp2_with fail;refine (zji HR.out).mono ?_;rintro e w6 ⟨rfl, d6⟩;have HD6 := Lib.hid (zq.after P1.out d6);clear d6;go_wp2_with fail;go_end0;refine ⟨rfl, ?_⟩;rw [HE.out];exact HD6.out
 have HE := Lib.hid (show s.inAll k = s.calm by unfold Scr.inAll; rw [if_neg h0, if_neg h1, if_neg h2, if_neg h3]);have e0 : (k == 0) = false := beq_eq_false_iff_ne.2 h0;have e1 : (k == 1) = false := beq_eq_false_iff_ne.2 h1;have e2 : (k == 2) = false := beq_eq_false_iff_ne.2 h2;have e3 : (k == 3) = false := beq_eq_false_iff_ne.2 h3;have c2 : w.cell? ⟨p, 2, none⟩ = some (.bool s.now.wait) := h.at_ 2 _;have f2 := h.fz 2;obtain ⟨h1, g1⟩ := h.set 2 (.bool false) s.calm;have HD := Lib.hid (show zq B C p w _ _ ps from ⟨_, h1, g1⟩);clear h h1 g1 hok h0 h2 h3;go_enter Tryz.func232, Tryz.ntmps232;go_wp2_with fail;go_end0;refine ⟨rfl, ?_⟩;rw [HE.out];exact HD.out
theorem zic {B : World} {C : Nat → Nat} {p c r : Nat} {w : World} {s : Scr} {ps : PSt} (h : SR B C p w s ps) (hok : s.Ok c r) (n : Nat) (h9 : n ≤ 9999) (hlast : -2147483648 ≤ s.last ∧ s.last ≤ 2147483647) :
  Calls Tryz.prog 230 #[.pointer (some ⟨p, 0, none⟩), .int .i64 (n : Int)] w fun e w' => e = .returned (.tuple #[]) ∧ zq B C p w w' (itF (fun t => if t.last ≠ 0 then t.print t.last else t) n s) ps := by
 have hn := h.nums hok;have HR := Lib.hid h;have HOK := Lib.hid hok;have HCC := Lib.hid (show 1 ≤ c by rw [(hn.ok hok).1]; exact hn.c1);have HLA := Lib.hid hlast;clear hn h hok hlast;obtain ⟨F, hF⟩ : ∃ F : Scr → Scr, F = fun t => if t.last ≠ 0 then t.print t.last else t := ⟨_, rfl⟩
 rw [← hF];have HF0 := Lib.hid hF;clear hF;go_enter Tryz.func230, Tryz.ntmps230;go_wp2_with fail
 go_loopw [5] (fun iv wr => ∃ (k : Nat) (C1 : Nat → Nat) (t : Scr), k ≤ n ∧ iv = .int .i64 k ∧ Hid (SR B C1 p wr t ps) ∧ Hid (t.Ok c r) ∧ Hid (t.last = s.last) ∧ Hid (Pre C w C1 wr) ∧ Hid (itF F (n - k) t = itF F n s)) (fun iv _ => n - (intOf iv).toNat)
 case atStart => exact ⟨0, C, s, Nat.zero_le _, rfl, HR, HOK, Lib.hid rfl, Lib.hid (Pre.refl _ _), Lib.hid rfl⟩
 case round =>
  obtain ⟨k, C1, t, hk, rfl, H1, HO1, HL1, HP1, HF⟩ := hrel;by_cases hlt : k < n;rotate_left
  ·obtain rfl : k = n := (by omega);have HD := Lib.hid (show zq B C p w wr (itF F k s) ps by
    rw [← HF.out, Nat.sub_self];exact ⟨C1, H1.out, HP1.out⟩)
   go_wp2_with fail;go_end0;exact ⟨rfl, HD.out⟩
  have c37 : wr.cell? ⟨p, 37, none⟩ = some (.int .i32 t.last) := H1.out.at_ 37 _;have HST := Lib.hid (show ∀ u, u = F t → itF F (n - (k + 1)) u = itF F n s from fun u hu => by
   rw [hu, ← HF.out, show n - k = (n - (k + 1)) + 1 by omega]; rfl)
  by_cases hz : t.last = 0
  ·have e1 : (t.last != 0) = false := (by rw [hz]; rfl);have HFT := Lib.hid (show F t = t by rw [HF0.out]; exact if_neg (fun e => e hz));clear hz;go_wp2_with fail;go_roundw
   case rel => exact ⟨k + 1, C1, t, by omega, by go_num, H1, HO1, HL1, HP1, Lib.hid (HST.out t HFT.out.symm)⟩
   case measure => simp [intOf]; omega
  ·have e1 : (t.last != 0) = true := bne_iff_ne.2 hz;have HFT := Lib.hid (show F t = t.print t.last by rw [HF0.out]; exact if_pos hz);have HLP := Lib.hid (show (t.print t.last).last = t.last by unfold Scr.print; dsimp only; split <;> rfl);clear hz;go_wp2_with fail;refine (zfI H1.out HO1.out t.last (by rw [HL1.out]; exact HLA.out)).mono ?_;rintro e w2 ⟨rfl, C2, h2, p2⟩;have H2 := Lib.hid h2;have P2 := Lib.hid (HP1.out.trans p2);clear h2 p2;go_wp2_with fail;go_roundw
   case rel => exact ⟨k + 1, C2, _, by omega, by go_num, H2, Lib.hid (HO1.out.print HCC.out _), Lib.hid (HLP.out.trans HL1.out), P2, Lib.hid (HST.out _ HFT.out.symm)⟩
   case measure => simp [intOf]; omega
end
end Go.Proofs.YtlfdgkiliegaiaaGreatDoor
