/- Texts laid together: K21 K30. -/
import Derived.Test.YtlfdgkiliegaiaaGreatDoorY1
import Derived.Test.YtlfdgkiliegaiaaGreatDoorY10
import Derived.Test.YtlfdgkiliegaiaaGreatDoorY11
import Derived.Test.YtlfdgkiliegaiaaGreatDoorY12
import Derived.Test.YtlfdgkiliegaiaaGreatDoorY14
import Derived.Test.YtlfdgkiliegaiaaGreatDoorY15
import Derived.Test.YtlfdgkiliegaiaaGreatDoorY16
import Derived.Test.YtlfdgkiliegaiaaGreatDoorY17
import Derived.Test.YtlfdgkiliegaiaaGreatDoorY19
import Derived.Test.YtlfdgkiliegaiaaGreatDoorY2
import Derived.Test.YtlfdgkiliegaiaaGreatDoorY22
import Derived.Test.YtlfdgkiliegaiaaGreatDoorY3
import Derived.Test.YtlfdgkiliegaiaaGreatDoorY4
import Derived.Test.YtlfdgkiliegaiaaGreatDoorY5
import Derived.Test.YtlfdgkiliegaiaaGreatDoorY6
import Derived.Test.YtlfdgkiliegaiaaGreatDoorY7
import Derived.Test.YtlfdgkiliegaiaaGreatDoorY8
import Derived.Test.YtlfdgkiliegaiaaGreatDoorY9
import Derived.Test.YtlfdgkiliegaiaaGreatDoorShelf
import Derived.ChangeKeysEq
import Derived.Deep.RegionHeld3
import Derived.Deep.MidRow
import Derived.Lib.ItoaLen
import Derived.Lib.Builder
import Derived.Lib.FrozenHead
import Derived.Lib.RuneBytes
import Derived.Lib.UnsafeStr
import Derived.Lib.SliceRun
import Derived.WalkSpells
import Derived.StillTailTactics
import Derived.Deep.RegionLaw
import Derived.Deep.DeepCutAuto
import Derived.Test.YtlfdgkiliegaiaaGreatDoorRows
import Derived.Deep.AppendSrc
import Derived.Lib.AppendStr
import Derived.ArgAppend
import Derived.Laws.IdiomCopy
import Derived.Laws.IdiomStrings
import Derived.Deep.Upon
import Derived.WalkKit
import Derived.WalkLawsBesides
import Derived.BigQuiet
import Derived.Lib.Hide
import Derived.Deep.QuietTactic
import Derived.Lib.AppendIntMem
import Derived.Lib.ItoaNum
import Derived.Laws.ResultCell
import Derived.Deep.CutBlock
import Derived.Laws.EntriesVeiled
import Derived.Laws.StructEq
import Derived.Deep.DrawnRows
import Derived.Laws.Cover4
import Derived.WalkMore
import Derived.ScopeJumps
import Derived.Lib.SlBytesConst
import Derived.Laws.Bits64b
import Derived.Lib.TrimU
import Derived.Lib.FrozenHead2
import Derived.Lib.OthersKept
import Derived.Deep.LoopGhost
set_option linter.unusedVariables false
set_option linter.unusedSimpArgs false
namespace Go.Proofs.YtlfdgkiliegaiaaGreatDoor
section
open Go.RowKit
set_option maxRecDepth 100000
def zaD (b : UInt8) (inter : List UInt8) (ps : PSt) : PSt := if inter = [] then ZZ b ps else ps
theorem zbt {b : ByteArray} (l : List UInt8) (h : ¬ b = ⟨l.toArray⟩) : (b.toList == l) = false := by
 rw [beq_eq_false_iff_ne, ByteArray.toList_eq];intro e;refine h ?_;obtain ⟨d⟩ := b;dsimp only at e;rw [← e]
theorem za2 {b : ByteArray} (l : List UInt8) (h : ¬ b = ⟨l.toArray⟩) : ¬ b.data.toList = l := by
 intro e;refine h ?_;obtain ⟨d⟩ := b;dsimp only at e;rw [← e]
set_option maxHeartbeats 1000000 in
theorem zil {B : World} {C : Nat → Nat} {p c r : Nat} {w : World} {s : Scr} {ps : PSt} (h : SR B C p w s ps) (hok : s.Ok c r) (a : VAct) (v : Value) (ho : s.out.length ≤ 100000) :
  Calls Tryz.prog 110 #[.pointer (some ⟨p, 0, none⟩), a.val v] w fun e w' => e = .returned (.tuple #[]) ∧ zq B C p w w' (s.escape a.byte a.inter.data.toList) (zaD a.byte a.inter.data.toList ps) := by
 obtain ⟨kind, rune, byte, params, inter, text⟩ := a;dsimp only;have hbb := (Below.refl w.heap.size w).alloc (Nat.le_refl _) (.cells ((⟨kind, rune, byte, params, inter, text⟩ : VAct).cells v).toArray 75);have hbx := zE w (.cells ((⟨kind, rune, byte, params, inter, text⟩ : VAct).cells v).toArray 75);unfold VAct.cells at hbb hbx;dsimp only at hbb hbx;have HR := Lib.hid (h.below hbb);have HP := Lib.hid ((Pre.refl C w).below hbb);have HOK := Lib.hid hok;have a0 : (w.alloc (.cells #[.int .i64 kind, .int .i32 rune, .int .u8 (byte.toNat : Int), v, .string inter, .string text] 75)).cell? ⟨w.heap.size, 0, none⟩ = some (.int .i64 kind) := za hbx 0;have a1 : (w.alloc (.cells #[.int .i64 kind, .int .i32 rune, .int .u8 (byte.toNat : Int), v, .string inter, .string text] 75)).cell? ⟨w.heap.size, 1, none⟩ = some (.int .i32 rune) := za hbx 1;have a2 : (w.alloc (.cells #[.int .i64 kind, .int .i32 rune, .int .u8 (byte.toNat : Int), v, .string inter, .string text] 75)).cell? ⟨w.heap.size, 2, none⟩ = some (.int .u8 (byte.toNat : Int)) := za hbx 2;have a3 : (w.alloc (.cells #[.int .i64 kind, .int .i32 rune, .int .u8 (byte.toNat : Int), v, .string inter, .string text] 75)).cell? ⟨w.heap.size, 3, none⟩ = some v := za hbx 3;have a4 : (w.alloc (.cells #[.int .i64 kind, .int .i32 rune, .int .u8 (byte.toNat : Int), v, .string inter, .string text] 75)).cell? ⟨w.heap.size, 4, none⟩ = some (.string inter) := za hbx 4;have a5 : (w.alloc (.cells #[.int .i64 kind, .int .i32 rune, .int .u8 (byte.toNat : Int), v, .string inter, .string text] 75)).cell? ⟨w.heap.size, 5, none⟩ = some (.string text) := za hbx 5;have hN := h.nums hok;have HCC := Lib.hid (show 1 ≤ c ∧ 1 ≤ r from ⟨by rw [(hN.ok hok).1]; exact hN.c1, by rw [(hN.ok hok).2]; exact hN.r1⟩);clear hbb hbx h hok hN;unfold VAct.val;dsimp only;by_cases hi40 : inter = ⟨#[40]⟩
 ·subst hi40;have hb0 : (0 : Int) ≤ (byte.toNat : Int) ∧ (byte.toNat : Int) ≤ 255 := (by have := byte.toNat_lt; omega);obtain ⟨k, hk⟩ : ∃ k : Int, k = (byte.toNat : Int) := ⟨_, rfl⟩;rw [← hk] at hb0 a2 HR HP ⊢;rw [← hk] at a0;rw [← hk] at a1;rw [← hk] at a3;rw [← hk] at a4;rw [← hk] at a5;by_cases h48 : k = 48
  ·subst h48;have HE := Lib.hid (show s.escape byte [40] = { s with now := { s.now with l0 := true } } ∧ zaD byte [40] ps = ps from ⟨by unfold Scr.escape; dsimp only; rw [← hk]; rfl, rfl⟩);clear hk hb0;have c7 : (w.alloc (.cells #[.int .i64 kind, .int .i32 rune, .int .u8 48, v, .string ⟨#[40]⟩, .string text] 75)).cell? ⟨p, 7, none⟩ = some (.bool s.now.l0) := HR.out.at_ 7 _;have f7 := HR.out.fz 7;obtain ⟨h1, g1⟩ := HR.out.set 7 (.bool true) { s with now := { s.now with l0 := true } };have HD := Lib.hid (show zq B C p w _ _ ps from ⟨_, h1, HP.out.trans g1⟩);clear h1 g1;have hix : ∀ h, (⟨#[40]⟩ : ByteArray)[0]'h = 40 := fun _ => rfl;go_enter Tryz.func110, Tryz.ntmps110;go_wp2_with fail;go_end0;refine ⟨rfl, ?_⟩;rw [HE.out.1, HE.out.2];exact HD.out
  by_cases h65 : k = 65
  ·subst h65;have HE := Lib.hid (show s.escape byte [40] = { s with now := { s.now with l0 := false } } ∧ zaD byte [40] ps = ps from ⟨by unfold Scr.escape; dsimp only; rw [← hk]; rfl, rfl⟩);clear hk hb0;have c7 : (w.alloc (.cells #[.int .i64 kind, .int .i32 rune, .int .u8 65, v, .string ⟨#[40]⟩, .string text] 75)).cell? ⟨p, 7, none⟩ = some (.bool s.now.l0) := HR.out.at_ 7 _;have f7 := HR.out.fz 7;obtain ⟨h1, g1⟩ := HR.out.set 7 (.bool false) { s with now := { s.now with l0 := false } };have HD := Lib.hid (show zq B C p w _ _ ps from ⟨_, h1, HP.out.trans g1⟩);clear h1 g1;have hix : ∀ h, (⟨#[40]⟩ : ByteArray)[0]'h = 40 := fun _ => rfl;go_enter Tryz.func110, Tryz.ntmps110;go_wp2_with fail;go_end0;refine ⟨rfl, ?_⟩;rw [HE.out.1, HE.out.2];exact HD.out
  by_cases h66 : k = 66
  ·subst h66;have HE := Lib.hid (show s.escape byte [40] = { s with now := { s.now with l0 := false } } ∧ zaD byte [40] ps = ps from ⟨by unfold Scr.escape; dsimp only; rw [← hk]; rfl, rfl⟩);clear hk hb0;have c7 : (w.alloc (.cells #[.int .i64 kind, .int .i32 rune, .int .u8 66, v, .string ⟨#[40]⟩, .string text] 75)).cell? ⟨p, 7, none⟩ = some (.bool s.now.l0) := HR.out.at_ 7 _;have f7 := HR.out.fz 7;obtain ⟨h1, g1⟩ := HR.out.set 7 (.bool false) { s with now := { s.now with l0 := false } };have HD := Lib.hid (show zq B C p w _ _ ps from ⟨_, h1, HP.out.trans g1⟩);clear h1 g1;have hix : ∀ h, (⟨#[40]⟩ : ByteArray)[0]'h = 40 := fun _ => rfl;go_enter Tryz.func110, Tryz.ntmps110;go_wp2_with fail;go_end0;refine ⟨rfl, ?_⟩;rw [HE.out.1, HE.out.2];exact HD.out
  have HE := Lib.hid (show s.escape byte [40] = s ∧ zaD byte [40] ps = ps from ⟨by
   unfold Scr.escape;dsimp only;rw [← hk, if_pos rfl, if_neg h48, if_neg (show ¬ (k = 65 ∨ k = 66) by omega)], rfl⟩)
  have e48 : (k == 48) = false := beq_eq_false_iff_ne.2 h48;have e65 : (k == 65) = false := beq_eq_false_iff_ne.2 h65;have e66 : (k == 66) = false := beq_eq_false_iff_ne.2 h66;have hix : ∀ h, (⟨#[40]⟩ : ByteArray)[0]'h = 40 := fun _ => rfl;clear hk hb0 h48 h65 h66;go_enter Tryz.func110, Tryz.ntmps110;go_wp2_with fail;go_end0;refine ⟨rfl, ?_⟩;rw [HE.out.1, HE.out.2];exact ⟨_, HR.out, HP.out⟩
 by_cases hi41 : inter = ⟨#[41]⟩
 ·subst hi41;have hb0 : (0 : Int) ≤ (byte.toNat : Int) ∧ (byte.toNat : Int) ≤ 255 := (by have := byte.toNat_lt; omega);obtain ⟨k, hk⟩ : ∃ k : Int, k = (byte.toNat : Int) := ⟨_, rfl⟩;rw [← hk] at hb0 a2 HR HP ⊢;rw [← hk] at a0;rw [← hk] at a1;rw [← hk] at a3;rw [← hk] at a4;rw [← hk] at a5;by_cases h48 : k = 48
  ·subst h48;have HE := Lib.hid (show s.escape byte [41] = { s with now := { s.now with l1 := true } } ∧ zaD byte [41] ps = ps from ⟨by unfold Scr.escape; dsimp only; rw [← hk]; rfl, rfl⟩);clear hk hb0;have c8 : (w.alloc (.cells #[.int .i64 kind, .int .i32 rune, .int .u8 48, v, .string ⟨#[41]⟩, .string text] 75)).cell? ⟨p, 8, none⟩ = some (.bool s.now.l1) := HR.out.at_ 8 _;have f8 := HR.out.fz 8;obtain ⟨h1, g1⟩ := HR.out.set 8 (.bool true) { s with now := { s.now with l1 := true } };have HD := Lib.hid (show zq B C p w _ _ ps from ⟨_, h1, HP.out.trans g1⟩);clear h1 g1;have hix : ∀ h, (⟨#[41]⟩ : ByteArray)[0]'h = 41 := fun _ => rfl;go_enter Tryz.func110, Tryz.ntmps110;go_wp2_with fail;go_end0;refine ⟨rfl, ?_⟩;rw [HE.out.1, HE.out.2];exact HD.out
  by_cases h65 : k = 65
  ·subst h65;have HE := Lib.hid (show s.escape byte [41] = { s with now := { s.now with l1 := false } } ∧ zaD byte [41] ps = ps from ⟨by unfold Scr.escape; dsimp only; rw [← hk]; rfl, rfl⟩);clear hk hb0;have c8 : (w.alloc (.cells #[.int .i64 kind, .int .i32 rune, .int .u8 65, v, .string ⟨#[41]⟩, .string text] 75)).cell? ⟨p, 8, none⟩ = some (.bool s.now.l1) := HR.out.at_ 8 _;have f8 := HR.out.fz 8;obtain ⟨h1, g1⟩ := HR.out.set 8 (.bool false) { s with now := { s.now with l1 := false } };have HD := Lib.hid (show zq B C p w _ _ ps from ⟨_, h1, HP.out.trans g1⟩);clear h1 g1;have hix : ∀ h, (⟨#[41]⟩ : ByteArray)[0]'h = 41 := fun _ => rfl;go_enter Tryz.func110, Tryz.ntmps110;go_wp2_with fail;go_end0;refine ⟨rfl, ?_⟩;rw [HE.out.1, HE.out.2];exact HD.out
  by_cases h66 : k = 66
  ·subst h66;have HE := Lib.hid (show s.escape byte [41] = { s with now := { s.now with l1 := false } } ∧ zaD byte [41] ps = ps from ⟨by unfold Scr.escape; dsimp only; rw [← hk]; rfl, rfl⟩);clear hk hb0;have c8 : (w.alloc (.cells #[.int .i64 kind, .int .i32 rune, .int .u8 66, v, .string ⟨#[41]⟩, .string text] 75)).cell? ⟨p, 8, none⟩ = some (.bool s.now.l1) := HR.out.at_ 8 _;have f8 := HR.out.fz 8;obtain ⟨h1, g1⟩ := HR.out.set 8 (.bool false) { s with now := { s.now with l1 := false } };have HD := Lib.hid (show zq B C p w _ _ ps from ⟨_, h1, HP.out.trans g1⟩);clear h1 g1;have hix : ∀ h, (⟨#[41]⟩ : ByteArray)[0]'h = 41 := fun _ => rfl;go_enter Tryz.func110, Tryz.ntmps110;go_wp2_with fail;go_end0;refine ⟨rfl, ?_⟩;rw [HE.out.1, HE.out.2];exact HD.out
  have HE := Lib.hid (show s.escape byte [41] = s ∧ zaD byte [41] ps = ps from ⟨by
   unfold Scr.escape;dsimp only;rw [← hk, if_neg (by decide), if_pos rfl, if_neg h48, if_neg (show ¬ (k = 65 ∨ k = 66) by omega)], rfl⟩)
  have e48 : (k == 48) = false := beq_eq_false_iff_ne.2 h48;have e65 : (k == 65) = false := beq_eq_false_iff_ne.2 h65;have e66 : (k == 66) = false := beq_eq_false_iff_ne.2 h66;have hix : ∀ h, (⟨#[41]⟩ : ByteArray)[0]'h = 41 := fun _ => rfl;clear hk hb0 h48 h65 h66;go_enter Tryz.func110, Tryz.ntmps110;go_wp2_with fail;go_end0;refine ⟨rfl, ?_⟩;rw [HE.out.1, HE.out.2];exact ⟨_, HR.out, HP.out⟩
 by_cases hi35 : inter = ⟨#[35]⟩
 ·subst hi35;have hb0 : (0 : Int) ≤ (byte.toNat : Int) ∧ (byte.toNat : Int) ≤ 255 := (by have := byte.toNat_lt; omega);obtain ⟨k, hk⟩ : ∃ k : Int, k = (byte.toNat : Int) := ⟨_, rfl⟩;rw [← hk] at hb0 a2 HR HP ⊢;rw [← hk] at a0;rw [← hk] at a1;rw [← hk] at a3;rw [← hk] at a4;rw [← hk] at a5;by_cases h56 : k = 56
  ·subst h56;have HE := Lib.hid (show s.escape byte [35] = s.fill ∧ zaD byte [35] ps = ps from ⟨by unfold Scr.escape; dsimp only; rw [← hk]; rfl, rfl⟩);clear hk hb0;go_enter Tryz.func110, Tryz.ntmps110;go_wp2_with fail;refine (zk4 HR.out HOK.out).mono ?_;rintro e wc1 ⟨rfl, Cc1, hc1, pc1⟩;have Hc1 := Lib.hid hc1;have Pc1 := Lib.hid (HP.out.trans pc1);clear hc1 pc1;go_wp2_with fail;go_end0;refine ⟨rfl, ?_⟩;rw [HE.out.1, HE.out.2];exact ⟨_, Hc1.out, Pc1.out⟩
  ·have HE := Lib.hid (show s.escape byte [35] = s ∧ zaD byte [35] ps = ps from ⟨by
    unfold Scr.escape;dsimp only;rw [← hk, if_neg (by decide), if_neg (by decide), if_pos rfl, if_neg h56], rfl⟩)
   have e56 : (k == 56) = false := beq_eq_false_iff_ne.2 h56;clear hk hb0 h56;go_enter Tryz.func110, Tryz.ntmps110;go_wp2_with fail;go_end0;refine ⟨rfl, ?_⟩;rw [HE.out.1, HE.out.2];exact ⟨_, HR.out, HP.out⟩
 by_cases hi0 : inter = ⟨#[]⟩
 ·subst hi0;have HE := Lib.hid (show s.escape byte [] = s.bare byte ∧ zaD byte [] ps = ZZ byte ps from ⟨rfl, rfl⟩);go_enter Tryz.func110, Tryz.ntmps110;go_wp2_with fail;refine (zld HR.out HOK.out byte ho).mono ?_;rintro e wc1 ⟨rfl, Cc1, hc1, pc1⟩;have Hc1 := Lib.hid hc1;have Pc1 := Lib.hid (HP.out.trans pc1);clear hc1 pc1;go_wp2_with fail;go_end0;refine ⟨rfl, ?_⟩;rw [HE.out.1, HE.out.2];exact ⟨_, Hc1.out, Pc1.out⟩
 have HE := Lib.hid (show s.escape byte inter.data.toList = s ∧ zaD byte inter.data.toList ps = ps from ⟨by
  unfold Scr.escape;dsimp only;rw [if_neg (za2 [40] hi40), if_neg (za2 [41] hi41), if_neg (za2 [35] hi35), if_neg (za2 [] hi0)], by unfold zaD; rw [if_neg (za2 [] hi0)]⟩)
 have g40 := zbt [40] hi40;have g41 := zbt [41] hi41;have g35 := zbt [35] hi35;have g0 := zbt [] hi0;have g0' : inter.toList.isEmpty = false := (by rw [← List.beq_nil_eq]; exact g0);clear hi40 hi41 hi35 hi0;go_enter Tryz.func110, Tryz.ntmps110;go_wp2_with fail;go_end0;refine ⟨rfl, ?_⟩;rw [HE.out.1, HE.out.2];exact ⟨_, HR.out, HP.out⟩
end
section
open Go.RowKit
set_option maxRecDepth 100000
def za6 (w : World) (p : Nat) (s : Sty) : Prop := w.heap[p]? = some (.cells #[.int .i64 s.fg, .int .i64 s.bg, .int .i64 s.attr] 35 (0, 0))
theorem za6.cells {w : World} {p : Nat} {s : Sty} (h : za6 w p s) : w.cell? ⟨p, 0, none⟩ = some (.int .i64 s.fg) ∧ w.cell? ⟨p, 1, none⟩ = some (.int .i64 s.bg) ∧ w.cell? ⟨p, 2, none⟩ = some (.int .i64 s.attr) := ⟨za h 0, za h 1, za h 2⟩
theorem za6.below {w w' : World} {p B : Nat} {s : Sty} (h : za6 w p s) (b : Below B w w') (hp : p < B) : za6 w' p s := by
 unfold za6;rw [b.block p hp];exact h
def zdS (z : Int) (i : Nat) : List Int := ((bitsK.take i).filter fun kc => zee z ((2 ^ kc.1 : Nat) : Int) != 0).map (·.2)
theorem zmO (z : Int) (i : Nat) : (zdS z i).length ≤ 8 := by
 unfold zdS;rw [List.length_map];exact Nat.le_trans (List.length_filter_le _ _) (Nat.le_trans (List.length_take_le' _ _) (by decide))
theorem zbn (z : Int) (k : Nat) (c m : Int) (hk : bitsK[k]? = some (k, c)) (hm : ((2 ^ k : Nat) : Int) = m) (h : (bits BinOp.and IntKind.i64 z m != 0) = true) : zdS z (k + 1) = zdS z k ++ [c] := by
 unfold zdS;rw [List.take_add_one, hk, Option.toList_some, List.filter_append, List.map_append, List.filter_cons];dsimp only;rw [hm, if_pos (show (zee z m != 0) = true from h)];rfl
theorem zb1 (z : Int) (k : Nat) (c m : Int) (hk : bitsK[k]? = some (k, c)) (hm : ((2 ^ k : Nat) : Int) = m) (h : (bits BinOp.and IntKind.i64 z m != 0) = false) : zdS z (k + 1) = zdS z k := by
 unfold zdS;rw [List.take_add_one, hk, Option.toList_some, List.filter_append, List.map_append, List.filter_cons];dsimp only;rw [hm, if_neg (by rw [show (zee z m != 0) = false from h]; decide)];simp
theorem zel (c d : Int) : (ZL c d).length ≤ 5 := by
 unfold ZL
 repeat' split
 all_goals simp
theorem znO {x : Int} (h : 0 ≤ x ∧ x ≤ 1000) : (Lib.itoa x).length ≤ 21 := Lib.itoa_length_le x (by omega) (by omega)
theorem zim : ∀ (l : List Int) (b : Bool), (∀ x ∈ l, 0 ≤ x ∧ x ≤ 1000) → (Ze b l).length ≤ 22 * l.length
 | [], _, _ => by simp [Ze]
 | x :: l, b, h => by
  have h1 := zim l true (fun y hy => h y (List.mem_cons_of_mem _ hy));have h2 := h x (List.mem_cons_self ..);have h3 := znO h2;unfold Ze zhR;rw [if_pos h2.1, List.length_append, List.length_append, List.length_cons];have : (if b then ([59] : List UInt8) else []).length ≤ 1 := (by cases b <;> decide);omega
theorem zin {c d : Int} (hc : Zp c = true) (hd : d = 0 ∨ d = 10) : ∀ x ∈ ZL c d, 0 ≤ x ∧ x ≤ 1000 := by
 have hc2 : -1 ≤ c := by
  unfold Zp at hc;simp at hc;omega
 intro x hx;unfold ZL at hx;by_cases h0 : c < 0
 ·rw [if_pos h0, List.mem_singleton] at hx; omega
 rw [if_neg h0] at hx;by_cases h8 : c < 8
 ·rw [if_pos h8, List.mem_singleton] at hx; omega
 rw [if_neg h8] at hx;by_cases h16 : c < 16
 ·rw [if_pos h16, List.mem_singleton] at hx; omega
 rw [if_neg h16] at hx;by_cases h256 : c < 256
 ·rw [if_pos h256] at hx;simp only [List.mem_cons, List.not_mem_nil, or_false] at hx;omega
 ·rw [if_neg h256] at hx;simp only [List.mem_cons, List.not_mem_nil, or_false] at hx;omega
theorem zmP (z : Int) (i : Nat) : ∀ x ∈ zdS z i, 0 ≤ x ∧ x ≤ 1000 := by
 intro x hx;obtain ⟨kc, hk, rfl⟩ := List.mem_map.1 hx;have hk2 := List.mem_of_mem_take (List.mem_filter.1 hk).1;have : ∀ kc ∈ bitsK, 0 ≤ kc.2 ∧ kc.2 ≤ 1000 := (by decide);exact this kc hk2
theorem zmQ {f t : Sty} (ht : okS t = true) : ∀ x ∈ zdO f t, 0 ≤ x ∧ x ≤ 1000 := by
 unfold okS at ht;simp only [Bool.and_eq_true] at ht;intro x hx;unfold zdO at hx;rw [List.mem_append, List.mem_append, List.mem_append] at hx;rcases hx with ((hx | hx) | hx) | hx
 ·split at hx
  ·rw [List.mem_singleton] at hx; omega
  ·cases hx
 ·exact zmP _ 8 x hx
 ·split at hx
  ·exact zin ht.1 (.inl rfl) x hx
  ·cases hx
 ·split at hx
  ·exact zin ht.2.1 (.inr rfl) x hx
  ·cases hx
theorem zmR {f : Sty} (hf : okS f = true) : (-1 ≤ f.fg ∧ f.fg < 33554432) ∧ (-1 ≤ f.bg ∧ f.bg < 33554432) ∧ 0 ≤ f.attr ∧ f.attr ≤ 255 := by
 unfold okS Zp at hf;simp at hf;omega
theorem zfZ {T e : TypeId} {B b : Nat} {bs : List Value} {w w' : World} (h : Lib.IsBuilderF T e B b bs w) (g : Below w.heap.size w w') : Lib.IsBuilderF T e B b bs w' := by
 have hg : w.grownBy w' none := ⟨g.os, g.tape, g.output, g.size, fun k hk _ => g.block k hk⟩;have k : ∀ p, Lib.BuilderAtF T e B b p bs w → Lib.BuilderAtF T e B b p bs w' := fun p hp => by
  obtain ⟨hB, v, hbk, hown, hne⟩ := hp;exact ⟨hB, v, zm hbk g (zj hbk), hown.kept hg (by cases hv : v.ownBlock <;> simp), hne⟩
 exact h.elim (fun x => .inl (k _ x)) (fun x => .inr (k _ x))
set_option maxHeartbeats 8000000 in
theorem zhn (f t : Sty) (w : World) (ht : zcx w) (hf : okS f = true) (hk : okS t = true) :
  Calls Tryz.prog 20 #[f.val, t.val] w fun e w' => ∃ str : ByteArray, e = .returned (.string str) ∧ str.data.toList = zcn f t ∧ str.size ≤ 1000 ∧ Below w.heap.size w w' := by
 have hfo := zmR hf;have hto := zmR hk;have HTB := Lib.hid ht;have HRF := Lib.hid (zcy f w ht (by omega) (by omega));have HRT := Lib.hid (zcy t w ht (by omega) (by omega));have hb1 := ((Below.refl w.heap.size w).alloc (Nat.le_refl _) (.cells #[.int .i64 f.fg, .int .i64 f.bg, .int .i64 f.attr] 35)).alloc (by simp) (.cells #[.int .i64 t.fg, .int .i64 t.bg, .int .i64 t.attr] 35);have hs1 : w.heap.size + 2 ≤ ((w.alloc (.cells #[.int .i64 f.fg, .int .i64 f.bg, .int .i64 f.attr] 35)).alloc (.cells #[.int .i64 t.fg, .int .i64 t.bg, .int .i64 t.attr] 35)).heap.size := (by simp);have hbf : za6 ((w.alloc (.cells #[.int .i64 f.fg, .int .i64 f.bg, .int .i64 f.attr] 35)).alloc (.cells #[.int .i64 t.fg, .int .i64 t.bg, .int .i64 t.attr] 35)) w.heap.size f := by
  unfold za6;rw [heap_alloc_old _ _ (by simp)];exact zE w _
 have hbt : za6 ((w.alloc (.cells #[.int .i64 f.fg, .int .i64 f.bg, .int .i64 f.attr] 35)).alloc (.cells #[.int .i64 t.fg, .int .i64 t.bg, .int .i64 t.attr] 35)) (w.heap.size + 1) t := zem w _ _;have HFO := Lib.hid hfo;have HTO := Lib.hid hto;have HFK := Lib.hid hf;have HTK := Lib.hid hk;clear ht hf hk hfo hto;unfold Sty.val;unfold Sty.val at HRF HRT;go_enter Tryz.func20, Tryz.ntmps20;go_upto_region 1 with fail;generalize (w.alloc (.cells #[.int .i64 f.fg, .int .i64 f.bg, .int .i64 f.attr] 35)).alloc (.cells #[.int .i64 t.fg, .int .i64 t.bg, .int .i64 t.attr] 35) = w1 at *;obtain ⟨A, hA⟩ : ∃ A, A = w.heap.size := ⟨_, rfl⟩;rw [← hA] at hb1 hs1 hbf hbt;rw [← hA];have HA := Lib.hid hA;clear hA;have HB1 := Lib.hid hb1;have HS1 := Lib.hid hs1;have HF := Lib.hid hbf;have HT := Lib.hid hbt;clear hb1 hs1 hbf hbt;obtain ⟨f0, f1, f2⟩ := HF.out.cells;go_wp2_with fail;refine (HRF.out w1 (by have := HA.out; subst this; exact HB1.out)).mono ?_;rintro e w2 ⟨rfl, b2⟩;rw [HFK.out];have HB2 := Lib.hid (HB1.out.trans (b2.mono (by have := HS1.out; omega)));have HS2 := Lib.hid (show A + 2 ≤ w2.heap.size by have := HS1.out; have := b2.size; omega);replace HF := Lib.hid (HF.out.below b2 (by have := HS1.out; omega));replace HT := Lib.hid (HT.out.below b2 (by have := HS1.out; omega));clear b2 f0 f1 f2;obtain ⟨t0, t1, t2⟩ := HT.out.cells;go_wp2_with fail;refine (HRT.out w2 (by have := HA.out; subst this; exact HB2.out)).mono ?_;rintro e w3 ⟨rfl, b3⟩;rw [HTK.out];have HB3 := Lib.hid (HB2.out.trans (b3.mono (by have := HS2.out; omega)));have HS3 := Lib.hid (show A + 2 ≤ w3.heap.size by have := HS2.out; have := b3.size; omega);replace HF := Lib.hid (HF.out.below b3 (by have := HS2.out; omega));replace HT := Lib.hid (HT.out.below b3 (by have := HS2.out; omega));clear b3 t0 t1 t2 HB1 HB2 HS1 HS2 HRF HRT;obtain ⟨f0, f1, f2⟩ := HF.out.cells;obtain ⟨t0, t1, t2⟩ := HT.out.cells;have hq := fun wx => zdt f t wx;have hg := fun op x y wx => zby op x y f t wx;unfold Sty.val at hq hg;by_cases heq : f = t
 ·have HE := Lib.hid (show zcn f t = [] by unfold zcn; rw [heq, if_pos ⟨rfl, rfl, rfl⟩]);have hqt := (Sty.eqb_iff f t).2 heq;clear heq;go_wp2_with fail;refine zT rfl rfl rfl ⟨_, rfl, ?_⟩;rw [HE.out];exact ⟨rfl, by decide, by have := HA.out; subst this; exact HB3.out⟩
 have HE := Lib.hid (show zcn f t = [27, 91] ++ Ze false (zdO f t) ++ [109] by
  unfold zcn;rw [if_neg];rintro ⟨e1, e2, e3⟩;apply heq;obtain ⟨a1, a2, a3⟩ := f;obtain ⟨b1, b2, b3⟩ := t;dsimp only at e1 e2 e3;rw [e1, e2, e3])
 have hqt : f.eqb t = false := Bool.eq_false_iff.2 (fun e => heq ((Sty.eqb_iff f t).1 e));clear heq;obtain ⟨z, hz⟩ : ∃ z, z = Zm f.attr t.attr := ⟨_, rfl⟩;have hzr : bits BinOp.andNot IntKind.i64 f.attr t.attr = z := hz.symm;have HZ := Lib.hid hz;clear hz;go_upto_if 27 with fail;clear hq hg hqt hzr
 go_cut [5] (fun lv wz => Hid (za6 wz A (zcH f t)) ∧ Hid (za6 wz (A + 1) t) ∧ Hid (Below A w wz) ∧ A + 2 ≤ wz.heap.size ∧ Hid (zn wz (A + 2) 1 lv (if z ≠ 0 then [(0 : Int)] else []).length ((if z ≠ 0 then [(0 : Int)] else []).map (Value.int .i64))))
 case first =>
  by_cases hz0 : z = 0
  ·have HF0 := Lib.hid (show zcH f t = f by unfold zcH; rw [← HZ.out, if_neg (fun e => e hz0)]);have HL0 := Lib.hid (show (if z ≠ 0 then [(0 : Int)] else []) = [] from if_neg (fun e => e hz0));have e1 : (z != 0) = false := (by rw [hz0]; rfl);have e2 : (z == 0) = true := (by rw [hz0]; rfl);clear hz0;go_wp2_with fail;go_meet;rw [HF0.out, HL0.out];exact ⟨HF, HT, HB3, HS3.out, Lib.hid (ZX _ _ _)⟩
  ·have HF0 := Lib.hid (show zcH f t = plainS by unfold zcH; rw [← HZ.out, if_pos hz0]);have HL0 := Lib.hid (show (if z ≠ 0 then [(0 : Int)] else []) = [0] from if_pos hz0);have e2 : (z == 0) = false := beq_eq_false_iff_ne.2 hz0;have e1 : (z != 0) = true := (by unfold bne; rw [e2]; rfl);clear hz0;have O4 := Lib.hid (zac (ZV (w := w3) (e := 3) (n := 1) (size := 1) (base := A + 2) #[.int .i64 0] [.int .i64 0] rfl HS3.out (by decide) rfl rfl));have B4 := Lib.hid ((Below.refl w3.heap.size w3).alloc (Nat.le_refl _) (.cells #[.int .i64 0] 3));go_wp2_with fail;refine (zaZ _).mono ?_;rintro e w5 ⟨rfl, b5⟩;replace O4 := Lib.hid (zh O4.out b5);have B5 := Lib.hid (B4.out.trans (b5.mono (by simp)));clear b5;have HB5 := Lib.hid (HB3.out.trans (B5.out.mono (by have := HS3.out; omega)));have HS5 := Lib.hid (show A + 2 ≤ w5.heap.size by have := HS3.out; have := B5.out.size; omega);have hf5 := HF.out.below B5.out (by have := HS3.out; omega);have ht5 := HT.out.below B5.out (by have := HS3.out; omega);have hst := run_storeVar_row (P := Tryz.prog) w5 A 35 35 _ #[.int .i64 (-1), .int .i64 (-1), .int .i64 0] hf5 zdc rfl (by simp [Value.oneCell']);have hr5 := Lib.hid (show za6 (w5.setRow A #[.int .i64 (-1), .int .i64 (-1), .int .i64 0]) A plainS from zaS hf5);have HB6 := Lib.hid (zbB HB5.out (g := A) (Nat.le_refl _) #[.int .i64 (-1), .int .i64 (-1), .int .i64 0]);have HT6 := Lib.hid (show za6 (w5.setRow A #[.int .i64 (-1), .int .i64 (-1), .int .i64 0]) (A + 1) t by
    unfold za6;rw [setRow_other _ _ _ _ (by omega)];exact ht5)
   have HS6 := Lib.hid (show A + 2 ≤ (w5.setRow A #[.int .i64 (-1), .int .i64 (-1), .int .i64 0]).heap.size by rw [setRow_size]; exact HS5.out);have HO6 := Lib.hid (show zn (w5.setRow A #[.int .i64 (-1), .int .i64 (-1), .int .i64 0]) (A + 2) 1 (.slice (some ⟨w3.heap.size, 0, none⟩) 1 1) 1 [.int .i64 0] from
    Zk O4.out (by rw [setRow_size]; exact Nat.le_refl _) (fun k hk => setRow_other _ _ _ _ (by have := (zl O4.out k hk).1; omega)))
   unfold Sty.val plainS;clear hf5 ht5 f0 f1 f2 t0 t1 t2;generalize w5.setRow A #[.int .i64 (-1), .int .i64 (-1), .int .i64 0] = w6 at *;go_wp2_with (refine zJ rfl _ _ _ rfl hst rfl rfl ?_);go_meet;rw [HF0.out, HL0.out];exact ⟨hr5, HT6, HB6, HS6.out, HO6⟩
 case rest =>
 clear f0 f1 f2 t0 t1 t2 HF HT HB3 HS3;obtain ⟨HF, HT, HBc, hsc, HOc⟩ := hcut;obtain ⟨wz, rfl⟩ : ∃ wz, wz = wc := ⟨wc, rfl⟩;have HS := Lib.hid hsc;clear hsc;obtain ⟨F, hF⟩ : ∃ F, F = zcH f t := ⟨_, rfl⟩;rw [← hF] at HF;obtain ⟨L0, hL0⟩ : ∃ L0 : List Int, L0 = if z ≠ 0 then [(0 : Int)] else [] := ⟨_, rfl⟩
 rw [← hL0] at HOc;have HL0 := Lib.hid (show L0.length ≤ 1 by rw [hL0]; split <;> simp);have HP := Lib.hid (show zdO f t = L0 ++ zdS (Zm t.attr F.attr) 8 ++ (if t.fg ≠ F.fg then ZL t.fg 0 else []) ++ (if t.bg ≠ F.bg then ZL t.bg 10 else []) by rw [hL0, HZ.out, hF]; rfl);clear hF hL0 HZ;obtain ⟨y, hy⟩ : ∃ y, y = Zm t.attr F.attr := ⟨_, rfl⟩;rw [← hy] at HP;have hyr : bits BinOp.andNot IntKind.i64 t.attr F.attr = y := hy.symm;clear hy;go_wp2_with fail
 go_loopw [5, 31] (fun lv iv wr => ∃ (i : Nat) (ov : Value), ov = lv ∧ i ≤ 8 ∧ iv = .int .i64 i ∧ Hid (Below (A + 2) wz wr) ∧ Hid (zn wr (A + 2) 1 ov (L0 ++ zdS y i).length ((L0 ++ zdS y i).map (Value.int .i64)))) (fun _ iv _ => 8 - (intOf iv).toNat)
 case atStart => exact ⟨0, _, rfl, by omega, rfl, Lib.hid (Below.refl _ _), Lib.hid (by rw [show L0 ++ zdS y 0 = L0 from List.append_nil _]; exact HOc.out)⟩
 case round =>
  obtain ⟨k, ov, rfl, hk, rfl, HB, HO⟩ := hrel;obtain ⟨wi, rfl⟩ : ∃ wi, wi = wr := ⟨wr, rfl⟩;have HFi := Lib.hid (HF.out.below HB.out (by omega));have HTi := Lib.hid (HT.out.below HB.out (by omega));have HLE := Lib.hid (show (L0 ++ zdS y k).length ≤ 9 by rw [List.length_append]; have := HL0.out; have := zmO y k; omega);obtain rfl | rfl | rfl | rfl | rfl | rfl | rfl | rfl | rfl : k = 0 ∨ k = 1 ∨ k = 2 ∨ k = 3 ∨ k = 4 ∨ k = 5 ∨ k = 6 ∨ k = 7 ∨ k = 8 := by omega
  ·have hix : ∀ wx, (Instr.index 114 (.agg #[.int .i64 1, .int .i64 2, .int .i64 3, .int .i64 4, .int .i64 5, .int .i64 7, .int .i64 8, .int .i64 9]) (.int .i64 0)).run Tryz.prog wx = .ok (.int .i64 1) wx := fun wx => ix8 0 (by decide) wx;have hwm : IntKind.i64.wrap 1 = 1 := zb _ (by decide) (by decide);obtain ⟨f0, f1, f2⟩ := HFi.out.cells;obtain ⟨t0, t1, t2⟩ := HTi.out.cells;have HNO := Lib.hid (zb1 y 0 1 1 rfl (by decide));have HYE := Lib.hid (zbn y 0 1 1 rfl (by decide));obtain ⟨u, hu⟩ : ∃ u, u = bits BinOp.and IntKind.i64 y 1 := ⟨_, rfl⟩;have hur : bits BinOp.and IntKind.i64 y 1 = u := hu.symm;rw [← hu] at HNO HYE;clear hu;go_upto_region 13 with fail;go_quiet (fail);clear hix hwm f0 f1 f2 t0 t1 t2;have HBN := Lib.hid (zg (Below.refl wi.heap.size wi) nq);have HB3 := Lib.hid (HB.out.trans (HBN.out.mono (by have := HB.out.size; have := HS.out; omega)));have HO3 := Lib.hid (zh HO.out HBN.out);generalize wi.drewN nq = wn at *;by_cases hu0 : u = 0
   ·have e1 : (u == 0) = true := beq_iff_eq.2 hu0;have e2 : (u != 0) = false := (by unfold bne; rw [e1]; rfl);have HX := Lib.hid (HNO.out e2);clear hu0;go_wp2_with fail;go_roundw
    case rel => exact ⟨1, _, rfl, by decide, by go_num, HB3, Lib.hid (by rw [HX.out]; exact HO3.out)⟩
    case measure => simp [intOf]
   ·have e1 : (u == 0) = false := beq_eq_false_iff_ne.2 hu0;have e2 : (u != 0) = true := (by unfold bne; rw [e1]; rfl);have HX := Lib.hid (HYE.out e2);clear hu0;go_wp2_with (at_builtin; refine zaz ?_);unfold zay;refine zG zag rfl rfl (A + 2) (zB HO3.out _) rfl (zV _ _ _) rfl (zah _ _) (by have := HLE.out; unfold maxLen; omega) (by have := HLE.out; omega) (by have := HB3.out.size; have := HS.out; simp; omega) ?_;intro ov6 w6 o6 g6 n6;have B6 := Lib.hid ((HB3.out.alloc (by have := HB3.out.size; have := HS.out; omega) (.cells #[.int .i64 1] 3)).grown g6 (by have := HB3.out.size; have := HS.out; simp; omega) (fun q hq => (zl HO3.out q hq).1));have O6 := Lib.hid o6;clear o6 g6 n6;go_wp2_with fail;go_roundw
    case rel => exact ⟨1, _, rfl, by decide, by go_num, B6, Lib.hid (by rw [HX.out, ← List.append_assoc, List.length_append, List.map_append]; exact O6.out)⟩
    case measure => simp [intOf]
  ·have hix : ∀ wx, (Instr.index 114 (.agg #[.int .i64 1, .int .i64 2, .int .i64 3, .int .i64 4, .int .i64 5, .int .i64 7, .int .i64 8, .int .i64 9]) (.int .i64 1)).run Tryz.prog wx = .ok (.int .i64 2) wx := fun wx => ix8 1 (by decide) wx;have hwm : IntKind.i64.wrap 2 = 2 := zb _ (by decide) (by decide);obtain ⟨f0, f1, f2⟩ := HFi.out.cells;obtain ⟨t0, t1, t2⟩ := HTi.out.cells;have HNO := Lib.hid (zb1 y 1 2 2 rfl (by decide));have HYE := Lib.hid (zbn y 1 2 2 rfl (by decide));obtain ⟨u, hu⟩ : ∃ u, u = bits BinOp.and IntKind.i64 y 2 := ⟨_, rfl⟩;have hur : bits BinOp.and IntKind.i64 y 2 = u := hu.symm;rw [← hu] at HNO HYE;clear hu;go_upto_region 13 with fail;go_quiet (fail);clear hix hwm f0 f1 f2 t0 t1 t2;have HBN := Lib.hid (zg (Below.refl wi.heap.size wi) nq);have HB3 := Lib.hid (HB.out.trans (HBN.out.mono (by have := HB.out.size; have := HS.out; omega)));have HO3 := Lib.hid (zh HO.out HBN.out);generalize wi.drewN nq = wn at *;by_cases hu0 : u = 0
   ·have e1 : (u == 0) = true := beq_iff_eq.2 hu0;have e2 : (u != 0) = false := (by unfold bne; rw [e1]; rfl);have HX := Lib.hid (HNO.out e2);clear hu0;go_wp2_with fail;go_roundw
    case rel => exact ⟨2, _, rfl, by decide, by go_num, HB3, Lib.hid (by rw [HX.out]; exact HO3.out)⟩
    case measure => simp [intOf]
   ·have e1 : (u == 0) = false := beq_eq_false_iff_ne.2 hu0;have e2 : (u != 0) = true := (by unfold bne; rw [e1]; rfl);have HX := Lib.hid (HYE.out e2);clear hu0;go_wp2_with (at_builtin; refine zaz ?_);unfold zay;refine zG zag rfl rfl (A + 2) (zB HO3.out _) rfl (zV _ _ _) rfl (zah _ _) (by have := HLE.out; unfold maxLen; omega) (by have := HLE.out; omega) (by have := HB3.out.size; have := HS.out; simp; omega) ?_;intro ov6 w6 o6 g6 n6;have B6 := Lib.hid ((HB3.out.alloc (by have := HB3.out.size; have := HS.out; omega) (.cells #[.int .i64 2] 3)).grown g6 (by have := HB3.out.size; have := HS.out; simp; omega) (fun q hq => (zl HO3.out q hq).1));have O6 := Lib.hid o6;clear o6 g6 n6;go_wp2_with fail;go_roundw
    case rel => exact ⟨2, _, rfl, by decide, by go_num, B6, Lib.hid (by rw [HX.out, ← List.append_assoc, List.length_append, List.map_append]; exact O6.out)⟩
    case measure => simp [intOf]
  ·have hix : ∀ wx, (Instr.index 114 (.agg #[.int .i64 1, .int .i64 2, .int .i64 3, .int .i64 4, .int .i64 5, .int .i64 7, .int .i64 8, .int .i64 9]) (.int .i64 2)).run Tryz.prog wx = .ok (.int .i64 3) wx := fun wx => ix8 2 (by decide) wx;have hwm : IntKind.i64.wrap 4 = 4 := zb _ (by decide) (by decide);obtain ⟨f0, f1, f2⟩ := HFi.out.cells;obtain ⟨t0, t1, t2⟩ := HTi.out.cells;have HNO := Lib.hid (zb1 y 2 3 4 rfl (by decide));have HYE := Lib.hid (zbn y 2 3 4 rfl (by decide));obtain ⟨u, hu⟩ : ∃ u, u = bits BinOp.and IntKind.i64 y 4 := ⟨_, rfl⟩;have hur : bits BinOp.and IntKind.i64 y 4 = u := hu.symm;rw [← hu] at HNO HYE;clear hu;go_upto_region 13 with fail;go_quiet (fail);clear hix hwm f0 f1 f2 t0 t1 t2;have HBN := Lib.hid (zg (Below.refl wi.heap.size wi) nq);have HB3 := Lib.hid (HB.out.trans (HBN.out.mono (by have := HB.out.size; have := HS.out; omega)));have HO3 := Lib.hid (zh HO.out HBN.out);generalize wi.drewN nq = wn at *;by_cases hu0 : u = 0
   ·have e1 : (u == 0) = true := beq_iff_eq.2 hu0;have e2 : (u != 0) = false := (by unfold bne; rw [e1]; rfl);have HX := Lib.hid (HNO.out e2);clear hu0;go_wp2_with fail;go_roundw
    case rel => exact ⟨3, _, rfl, by decide, by go_num, HB3, Lib.hid (by rw [HX.out]; exact HO3.out)⟩
    case measure => simp [intOf]
   ·have e1 : (u == 0) = false := beq_eq_false_iff_ne.2 hu0;have e2 : (u != 0) = true := (by unfold bne; rw [e1]; rfl);have HX := Lib.hid (HYE.out e2);clear hu0;go_wp2_with (at_builtin; refine zaz ?_);unfold zay;refine zG zag rfl rfl (A + 2) (zB HO3.out _) rfl (zV _ _ _) rfl (zah _ _) (by have := HLE.out; unfold maxLen; omega) (by have := HLE.out; omega) (by have := HB3.out.size; have := HS.out; simp; omega) ?_;intro ov6 w6 o6 g6 n6;have B6 := Lib.hid ((HB3.out.alloc (by have := HB3.out.size; have := HS.out; omega) (.cells #[.int .i64 3] 3)).grown g6 (by have := HB3.out.size; have := HS.out; simp; omega) (fun q hq => (zl HO3.out q hq).1));have O6 := Lib.hid o6;clear o6 g6 n6;go_wp2_with fail;go_roundw
    case rel => exact ⟨3, _, rfl, by decide, by go_num, B6, Lib.hid (by rw [HX.out, ← List.append_assoc, List.length_append, List.map_append]; exact O6.out)⟩
    case measure => simp [intOf]
  ·have hix : ∀ wx, (Instr.index 114 (.agg #[.int .i64 1, .int .i64 2, .int .i64 3, .int .i64 4, .int .i64 5, .int .i64 7, .int .i64 8, .int .i64 9]) (.int .i64 3)).run Tryz.prog wx = .ok (.int .i64 4) wx := fun wx => ix8 3 (by decide) wx;have hwm : IntKind.i64.wrap 8 = 8 := zb _ (by decide) (by decide);obtain ⟨f0, f1, f2⟩ := HFi.out.cells;obtain ⟨t0, t1, t2⟩ := HTi.out.cells;have HNO := Lib.hid (zb1 y 3 4 8 rfl (by decide));have HYE := Lib.hid (zbn y 3 4 8 rfl (by decide));obtain ⟨u, hu⟩ : ∃ u, u = bits BinOp.and IntKind.i64 y 8 := ⟨_, rfl⟩;have hur : bits BinOp.and IntKind.i64 y 8 = u := hu.symm;rw [← hu] at HNO HYE;clear hu;go_upto_region 13 with fail;go_quiet (fail);clear hix hwm f0 f1 f2 t0 t1 t2;have HBN := Lib.hid (zg (Below.refl wi.heap.size wi) nq);have HB3 := Lib.hid (HB.out.trans (HBN.out.mono (by have := HB.out.size; have := HS.out; omega)));have HO3 := Lib.hid (zh HO.out HBN.out);generalize wi.drewN nq = wn at *;by_cases hu0 : u = 0
   ·have e1 : (u == 0) = true := beq_iff_eq.2 hu0;have e2 : (u != 0) = false := (by unfold bne; rw [e1]; rfl);have HX := Lib.hid (HNO.out e2);clear hu0;go_wp2_with fail;go_roundw
    case rel => exact ⟨4, _, rfl, by decide, by go_num, HB3, Lib.hid (by rw [HX.out]; exact HO3.out)⟩
    case measure => simp [intOf]
   ·have e1 : (u == 0) = false := beq_eq_false_iff_ne.2 hu0;have e2 : (u != 0) = true := (by unfold bne; rw [e1]; rfl);have HX := Lib.hid (HYE.out e2);clear hu0;go_wp2_with (at_builtin; refine zaz ?_);unfold zay;refine zG zag rfl rfl (A + 2) (zB HO3.out _) rfl (zV _ _ _) rfl (zah _ _) (by have := HLE.out; unfold maxLen; omega) (by have := HLE.out; omega) (by have := HB3.out.size; have := HS.out; simp; omega) ?_;intro ov6 w6 o6 g6 n6;have B6 := Lib.hid ((HB3.out.alloc (by have := HB3.out.size; have := HS.out; omega) (.cells #[.int .i64 4] 3)).grown g6 (by have := HB3.out.size; have := HS.out; simp; omega) (fun q hq => (zl HO3.out q hq).1));have O6 := Lib.hid o6;clear o6 g6 n6;go_wp2_with fail;go_roundw
    case rel => exact ⟨4, _, rfl, by decide, by go_num, B6, Lib.hid (by rw [HX.out, ← List.append_assoc, List.length_append, List.map_append]; exact O6.out)⟩
    case measure => simp [intOf]
  ·have hix : ∀ wx, (Instr.index 114 (.agg #[.int .i64 1, .int .i64 2, .int .i64 3, .int .i64 4, .int .i64 5, .int .i64 7, .int .i64 8, .int .i64 9]) (.int .i64 4)).run Tryz.prog wx = .ok (.int .i64 5) wx := fun wx => ix8 4 (by decide) wx;have hwm : IntKind.i64.wrap 16 = 16 := zb _ (by decide) (by decide);obtain ⟨f0, f1, f2⟩ := HFi.out.cells;obtain ⟨t0, t1, t2⟩ := HTi.out.cells;have HNO := Lib.hid (zb1 y 4 5 16 rfl (by decide));have HYE := Lib.hid (zbn y 4 5 16 rfl (by decide));obtain ⟨u, hu⟩ : ∃ u, u = bits BinOp.and IntKind.i64 y 16 := ⟨_, rfl⟩;have hur : bits BinOp.and IntKind.i64 y 16 = u := hu.symm;rw [← hu] at HNO HYE;clear hu;go_upto_region 13 with fail;go_quiet (fail);clear hix hwm f0 f1 f2 t0 t1 t2;have HBN := Lib.hid (zg (Below.refl wi.heap.size wi) nq);have HB3 := Lib.hid (HB.out.trans (HBN.out.mono (by have := HB.out.size; have := HS.out; omega)));have HO3 := Lib.hid (zh HO.out HBN.out);generalize wi.drewN nq = wn at *;by_cases hu0 : u = 0
   ·have e1 : (u == 0) = true := beq_iff_eq.2 hu0;have e2 : (u != 0) = false := (by unfold bne; rw [e1]; rfl);have HX := Lib.hid (HNO.out e2);clear hu0;go_wp2_with fail;go_roundw
    case rel => exact ⟨5, _, rfl, by decide, by go_num, HB3, Lib.hid (by rw [HX.out]; exact HO3.out)⟩
    case measure => simp [intOf]
   ·have e1 : (u == 0) = false := beq_eq_false_iff_ne.2 hu0;have e2 : (u != 0) = true := (by unfold bne; rw [e1]; rfl);have HX := Lib.hid (HYE.out e2);clear hu0;go_wp2_with (at_builtin; refine zaz ?_);unfold zay;refine zG zag rfl rfl (A + 2) (zB HO3.out _) rfl (zV _ _ _) rfl (zah _ _) (by have := HLE.out; unfold maxLen; omega) (by have := HLE.out; omega) (by have := HB3.out.size; have := HS.out; simp; omega) ?_;intro ov6 w6 o6 g6 n6;have B6 := Lib.hid ((HB3.out.alloc (by have := HB3.out.size; have := HS.out; omega) (.cells #[.int .i64 5] 3)).grown g6 (by have := HB3.out.size; have := HS.out; simp; omega) (fun q hq => (zl HO3.out q hq).1));have O6 := Lib.hid o6;clear o6 g6 n6;go_wp2_with fail;go_roundw
    case rel => exact ⟨5, _, rfl, by decide, by go_num, B6, Lib.hid (by rw [HX.out, ← List.append_assoc, List.length_append, List.map_append]; exact O6.out)⟩
    case measure => simp [intOf]
  ·have hix : ∀ wx, (Instr.index 114 (.agg #[.int .i64 1, .int .i64 2, .int .i64 3, .int .i64 4, .int .i64 5, .int .i64 7, .int .i64 8, .int .i64 9]) (.int .i64 5)).run Tryz.prog wx = .ok (.int .i64 7) wx := fun wx => ix8 5 (by decide) wx;have hwm : IntKind.i64.wrap 32 = 32 := zb _ (by decide) (by decide);obtain ⟨f0, f1, f2⟩ := HFi.out.cells;obtain ⟨t0, t1, t2⟩ := HTi.out.cells;have HNO := Lib.hid (zb1 y 5 7 32 rfl (by decide));have HYE := Lib.hid (zbn y 5 7 32 rfl (by decide));obtain ⟨u, hu⟩ : ∃ u, u = bits BinOp.and IntKind.i64 y 32 := ⟨_, rfl⟩;have hur : bits BinOp.and IntKind.i64 y 32 = u := hu.symm;rw [← hu] at HNO HYE;clear hu;go_upto_region 13 with fail;go_quiet (fail);clear hix hwm f0 f1 f2 t0 t1 t2;have HBN := Lib.hid (zg (Below.refl wi.heap.size wi) nq);have HB3 := Lib.hid (HB.out.trans (HBN.out.mono (by have := HB.out.size; have := HS.out; omega)));have HO3 := Lib.hid (zh HO.out HBN.out);generalize wi.drewN nq = wn at *;by_cases hu0 : u = 0
   ·have e1 : (u == 0) = true := beq_iff_eq.2 hu0;have e2 : (u != 0) = false := (by unfold bne; rw [e1]; rfl);have HX := Lib.hid (HNO.out e2);clear hu0;go_wp2_with fail;go_roundw
    case rel => exact ⟨6, _, rfl, by decide, by go_num, HB3, Lib.hid (by rw [HX.out]; exact HO3.out)⟩
    case measure => simp [intOf]
   ·have e1 : (u == 0) = false := beq_eq_false_iff_ne.2 hu0;have e2 : (u != 0) = true := (by unfold bne; rw [e1]; rfl);have HX := Lib.hid (HYE.out e2);clear hu0;go_wp2_with (at_builtin; refine zaz ?_);unfold zay;refine zG zag rfl rfl (A + 2) (zB HO3.out _) rfl (zV _ _ _) rfl (zah _ _) (by have := HLE.out; unfold maxLen; omega) (by have := HLE.out; omega) (by have := HB3.out.size; have := HS.out; simp; omega) ?_;intro ov6 w6 o6 g6 n6;have B6 := Lib.hid ((HB3.out.alloc (by have := HB3.out.size; have := HS.out; omega) (.cells #[.int .i64 7] 3)).grown g6 (by have := HB3.out.size; have := HS.out; simp; omega) (fun q hq => (zl HO3.out q hq).1));have O6 := Lib.hid o6;clear o6 g6 n6;go_wp2_with fail;go_roundw
    case rel => exact ⟨6, _, rfl, by decide, by go_num, B6, Lib.hid (by rw [HX.out, ← List.append_assoc, List.length_append, List.map_append]; exact O6.out)⟩
    case measure => simp [intOf]
  ·have hix : ∀ wx, (Instr.index 114 (.agg #[.int .i64 1, .int .i64 2, .int .i64 3, .int .i64 4, .int .i64 5, .int .i64 7, .int .i64 8, .int .i64 9]) (.int .i64 6)).run Tryz.prog wx = .ok (.int .i64 8) wx := fun wx => ix8 6 (by decide) wx;have hwm : IntKind.i64.wrap 64 = 64 := zb _ (by decide) (by decide);obtain ⟨f0, f1, f2⟩ := HFi.out.cells;obtain ⟨t0, t1, t2⟩ := HTi.out.cells;have HNO := Lib.hid (zb1 y 6 8 64 rfl (by decide));have HYE := Lib.hid (zbn y 6 8 64 rfl (by decide));obtain ⟨u, hu⟩ : ∃ u, u = bits BinOp.and IntKind.i64 y 64 := ⟨_, rfl⟩;have hur : bits BinOp.and IntKind.i64 y 64 = u := hu.symm;rw [← hu] at HNO HYE;clear hu;go_upto_region 13 with fail;go_quiet (fail);clear hix hwm f0 f1 f2 t0 t1 t2;have HBN := Lib.hid (zg (Below.refl wi.heap.size wi) nq);have HB3 := Lib.hid (HB.out.trans (HBN.out.mono (by have := HB.out.size; have := HS.out; omega)));have HO3 := Lib.hid (zh HO.out HBN.out);generalize wi.drewN nq = wn at *;by_cases hu0 : u = 0
   ·have e1 : (u == 0) = true := beq_iff_eq.2 hu0;have e2 : (u != 0) = false := (by unfold bne; rw [e1]; rfl);have HX := Lib.hid (HNO.out e2);clear hu0;go_wp2_with fail;go_roundw
    case rel => exact ⟨7, _, rfl, by decide, by go_num, HB3, Lib.hid (by rw [HX.out]; exact HO3.out)⟩
    case measure => simp [intOf]
   ·have e1 : (u == 0) = false := beq_eq_false_iff_ne.2 hu0;have e2 : (u != 0) = true := (by unfold bne; rw [e1]; rfl);have HX := Lib.hid (HYE.out e2);clear hu0;go_wp2_with (at_builtin; refine zaz ?_);unfold zay;refine zG zag rfl rfl (A + 2) (zB HO3.out _) rfl (zV _ _ _) rfl (zah _ _) (by have := HLE.out; unfold maxLen; omega) (by have := HLE.out; omega) (by have := HB3.out.size; have := HS.out; simp; omega) ?_;intro ov6 w6 o6 g6 n6;have B6 := Lib.hid ((HB3.out.alloc (by have := HB3.out.size; have := HS.out; omega) (.cells #[.int .i64 8] 3)).grown g6 (by have := HB3.out.size; have := HS.out; simp; omega) (fun q hq => (zl HO3.out q hq).1));have O6 := Lib.hid o6;clear o6 g6 n6;go_wp2_with fail;go_roundw
    case rel => exact ⟨7, _, rfl, by decide, by go_num, B6, Lib.hid (by rw [HX.out, ← List.append_assoc, List.length_append, List.map_append]; exact O6.out)⟩
    case measure => simp [intOf]
  ·have hix : ∀ wx, (Instr.index 114 (.agg #[.int .i64 1, .int .i64 2, .int .i64 3, .int .i64 4, .int .i64 5, .int .i64 7, .int .i64 8, .int .i64 9]) (.int .i64 7)).run Tryz.prog wx = .ok (.int .i64 9) wx := fun wx => ix8 7 (by decide) wx;have hwm : IntKind.i64.wrap 128 = 128 := zb _ (by decide) (by decide);obtain ⟨f0, f1, f2⟩ := HFi.out.cells;obtain ⟨t0, t1, t2⟩ := HTi.out.cells;have HNO := Lib.hid (zb1 y 7 9 128 rfl (by decide));have HYE := Lib.hid (zbn y 7 9 128 rfl (by decide));obtain ⟨u, hu⟩ : ∃ u, u = bits BinOp.and IntKind.i64 y 128 := ⟨_, rfl⟩;have hur : bits BinOp.and IntKind.i64 y 128 = u := hu.symm;rw [← hu] at HNO HYE;clear hu;go_upto_region 13 with fail;go_quiet (fail);clear hix hwm f0 f1 f2 t0 t1 t2;have HBN := Lib.hid (zg (Below.refl wi.heap.size wi) nq);have HB3 := Lib.hid (HB.out.trans (HBN.out.mono (by have := HB.out.size; have := HS.out; omega)));have HO3 := Lib.hid (zh HO.out HBN.out);generalize wi.drewN nq = wn at *;by_cases hu0 : u = 0
   ·have e1 : (u == 0) = true := beq_iff_eq.2 hu0;have e2 : (u != 0) = false := (by unfold bne; rw [e1]; rfl);have HX := Lib.hid (HNO.out e2);clear hu0;go_wp2_with fail;go_roundw
    case rel => exact ⟨8, _, rfl, by decide, by go_num, HB3, Lib.hid (by rw [HX.out]; exact HO3.out)⟩
    case measure => simp [intOf]
   ·have e1 : (u == 0) = false := beq_eq_false_iff_ne.2 hu0;have e2 : (u != 0) = true := (by unfold bne; rw [e1]; rfl);have HX := Lib.hid (HYE.out e2);clear hu0;go_wp2_with (at_builtin; refine zaz ?_);unfold zay;refine zG zag rfl rfl (A + 2) (zB HO3.out _) rfl (zV _ _ _) rfl (zah _ _) (by have := HLE.out; unfold maxLen; omega) (by have := HLE.out; omega) (by have := HB3.out.size; have := HS.out; simp; omega) ?_;intro ov6 w6 o6 g6 n6;have B6 := Lib.hid ((HB3.out.alloc (by have := HB3.out.size; have := HS.out; omega) (.cells #[.int .i64 9] 3)).grown g6 (by have := HB3.out.size; have := HS.out; simp; omega) (fun q hq => (zl HO3.out q hq).1));have O6 := Lib.hid o6;clear o6 g6 n6;go_wp2_with fail;go_roundw
    case rel => exact ⟨8, _, rfl, by decide, by go_num, B6, Lib.hid (by rw [HX.out, ← List.append_assoc, List.length_append, List.map_append]; exact O6.out)⟩
    case measure => simp [intOf]
  ·rw [show ((8 : Nat) : Int) = 8 from rfl];have HBz := Lib.hid (HBc.out.trans (HB.out.mono (by omega)));have HSi := Lib.hid (show A + 2 ≤ wi.heap.size by have := HB.out.size; have := HS.out; omega);obtain ⟨L1, hL1⟩ : ∃ L1, L1 = L0 ++ zdS y 8 := ⟨_, rfl⟩;rw [← hL1] at HO HP HLE;clear hL1 HF HT HBc HS hyr HOc HL0;obtain ⟨f0, f1, f2⟩ := HFi.out.cells;obtain ⟨t0, t1, t2⟩ := HTi.out.cells;go_upto_if 53 with fail;clear f0 f1 f2 t0 t1 t2
   go_cut [5] (fun lv wz => Hid (za6 wz A F) ∧ Hid (za6 wz (A + 1) t) ∧ Hid (Below A w wz) ∧ A + 2 ≤ wz.heap.size ∧ Hid (zn wz (A + 2) 1 lv (L1 ++ (if t.fg ≠ F.fg then ZL t.fg 0 else [])).length ((L1 ++ (if t.fg ≠ F.fg then ZL t.fg 0 else [])).map (Value.int .i64))))
   case first =>
    by_cases hc : t.fg = F.fg
    ·have HL := Lib.hid (show L1 ++ (if t.fg ≠ F.fg then ZL t.fg 0 else []) = L1 by rw [if_neg (fun e => e hc), List.append_nil]);have e1 : (t.fg == F.fg) = true := beq_iff_eq.2 hc;have e2 : (t.fg != F.fg) = false := (by unfold bne; rw [e1]; rfl);clear hc;go_wp2_with fail;go_meet;rw [HL.out];exact ⟨HFi, HTi, HBz, HSi.out, HO⟩
    ·have HL := Lib.hid (show L1 ++ (if t.fg ≠ F.fg then ZL t.fg 0 else []) = L1 ++ ZL t.fg 0 by rw [if_pos hc]);have e1 : (t.fg == F.fg) = false := beq_eq_false_iff_ne.2 hc;have e2 : (t.fg != F.fg) = true := (by unfold bne; rw [e1]; rfl);clear hc;obtain ⟨t0, t1, t2⟩ := HTi.out.cells;go_wp2_with fail;refine (ze5 t.fg 0 _ HTO.out.1 (by omega)).mono ?_;rintro e w4 ⟨nv, rfl, b4, rd4⟩;have HO4 := Lib.hid (zh HO.out b4);have HB4 := Lib.hid (HBz.out.trans (b4.mono (by have := HSi.out; omega)));have HS4 := Lib.hid (show A + 2 ≤ w4.heap.size by have := HSi.out; have := b4.size; omega);have HF4 := Lib.hid (HFi.out.below b4 (by have := HSi.out; omega));have HT4 := Lib.hid (HTi.out.below b4 (by have := HSi.out; omega));have hnl := zel t.fg 0;have HRD := Lib.hid rd4;clear b4 rd4 t0 t1 t2;go_wp2_with (at_builtin; refine zaz ?_);unfold zay;refine zG zag rfl rfl (A + 2) HO4.out rfl HRD.out rfl (ints_oneCell _ _) (by have := HLE.out; unfold maxLen; omega) (by have := HLE.out; omega) HS4.out ?_;intro ov6 w6 o6 g6 n6;have B6 := Lib.hid (HB4.out.grown g6 (by have := HS4.out; omega) (fun q hq => by have := (zl HO4.out q hq).1; omega));have b62 := ZW (B := A + 2) g6 HS4.out (fun q hq => (zl HO4.out q hq).1);have F6 := Lib.hid (HF4.out.below b62 (by omega));have T6 := Lib.hid (HT4.out.below b62 (by omega));have S6 := Lib.hid (show A + 2 ≤ w6.heap.size by have := HS4.out; have := b62.size; omega);have O6 := Lib.hid o6;clear o6 g6 n6 b62 hnl;go_wp2_with fail;go_meet;rw [HL.out];exact ⟨F6, T6, B6, S6.out, Lib.hid (by rw [List.length_append, List.map_append]; exact O6.out)⟩
   case rest =>
   clear HFi HTi HBz HSi HO;obtain ⟨HFi, HTi, HBz, hsc, HOc⟩ := hcut;have HSi := Lib.hid hsc;clear hsc;obtain ⟨wa, rfl⟩ : ∃ wa, wa = wc := ⟨wc, rfl⟩;obtain ⟨L2, hL⟩ : ∃ L2, L2 = L1 ++ (if t.fg ≠ F.fg then ZL t.fg 0 else []) := ⟨_, rfl⟩;rw [← hL] at HOc HP;replace HLE := Lib.hid (show L2.length ≤ 14 by
    rw [hL, List.length_append];have h1 := HLE.out;have h2 := zel t.fg 0;have h3 : (if t.fg ≠ F.fg then ZL t.fg 0 else []).length ≤ 5 := (by split <;> simp_all);omega)
   clear hL;have HO := Lib.hid HOc.out;clear HOc;obtain ⟨f0, f1, f2⟩ := HFi.out.cells;obtain ⟨t0, t1, t2⟩ := HTi.out.cells;go_upto_if 63 with fail;clear f0 f1 f2 t0 t1 t2
   go_cut [5] (fun lv wz => Hid (za6 wz A F) ∧ Hid (za6 wz (A + 1) t) ∧ Hid (Below A w wz) ∧ A + 2 ≤ wz.heap.size ∧ Hid (zn wz (A + 2) 1 lv (L2 ++ (if t.bg ≠ F.bg then ZL t.bg 10 else [])).length ((L2 ++ (if t.bg ≠ F.bg then ZL t.bg 10 else [])).map (Value.int .i64))))
   case first =>
    by_cases hc : t.bg = F.bg
    ·have HL := Lib.hid (show L2 ++ (if t.bg ≠ F.bg then ZL t.bg 10 else []) = L2 by rw [if_neg (fun e => e hc), List.append_nil]);have e1 : (t.bg == F.bg) = true := beq_iff_eq.2 hc;have e2 : (t.bg != F.bg) = false := (by unfold bne; rw [e1]; rfl);clear hc;go_wp2_with fail;go_meet;rw [HL.out];exact ⟨HFi, HTi, HBz, HSi.out, HO⟩
    ·have HL := Lib.hid (show L2 ++ (if t.bg ≠ F.bg then ZL t.bg 10 else []) = L2 ++ ZL t.bg 10 by rw [if_pos hc]);have e1 : (t.bg == F.bg) = false := beq_eq_false_iff_ne.2 hc;have e2 : (t.bg != F.bg) = true := (by unfold bne; rw [e1]; rfl);clear hc;obtain ⟨t0, t1, t2⟩ := HTi.out.cells;go_wp2_with fail;refine (ze5 t.bg 10 _ HTO.out.2.1 (by omega)).mono ?_;rintro e w4 ⟨nv, rfl, b4, rd4⟩;have HO4 := Lib.hid (zh HO.out b4);have HB4 := Lib.hid (HBz.out.trans (b4.mono (by have := HSi.out; omega)));have HS4 := Lib.hid (show A + 2 ≤ w4.heap.size by have := HSi.out; have := b4.size; omega);have HF4 := Lib.hid (HFi.out.below b4 (by have := HSi.out; omega));have HT4 := Lib.hid (HTi.out.below b4 (by have := HSi.out; omega));have hnl := zel t.bg 10;have HRD := Lib.hid rd4;clear b4 rd4 t0 t1 t2;go_wp2_with (at_builtin; refine zaz ?_);unfold zay;refine zG zag rfl rfl (A + 2) HO4.out rfl HRD.out rfl (ints_oneCell _ _) (by have := HLE.out; unfold maxLen; omega) (by have := HLE.out; omega) HS4.out ?_;intro ov6 w6 o6 g6 n6;have B6 := Lib.hid (HB4.out.grown g6 (by have := HS4.out; omega) (fun q hq => by have := (zl HO4.out q hq).1; omega));have b62 := ZW (B := A + 2) g6 HS4.out (fun q hq => (zl HO4.out q hq).1);have F6 := Lib.hid (HF4.out.below b62 (by omega));have T6 := Lib.hid (HT4.out.below b62 (by omega));have S6 := Lib.hid (show A + 2 ≤ w6.heap.size by have := HS4.out; have := b62.size; omega);have O6 := Lib.hid o6;clear o6 g6 n6 b62 hnl;go_wp2_with fail;go_meet;rw [HL.out];exact ⟨F6, T6, B6, S6.out, Lib.hid (by rw [List.length_append, List.map_append]; exact O6.out)⟩
   case rest =>
   clear HFi HTi HBz HSi HO;obtain ⟨HFi, HTi, HBz, hsc, HOc⟩ := hcut;have HSi := Lib.hid hsc;clear hsc;obtain ⟨wb, rfl⟩ : ∃ wb, wb = wc := ⟨wc, rfl⟩;obtain ⟨L3, hL⟩ : ∃ L3, L3 = L2 ++ (if t.bg ≠ F.bg then ZL t.bg 10 else []) := ⟨_, rfl⟩;rw [← hL] at HOc HP;replace HLE := Lib.hid (show L3.length ≤ 19 by
    rw [hL, List.length_append];have h1 := HLE.out;have h2 := zel t.bg 10;have h3 : (if t.bg ≠ F.bg then ZL t.bg 10 else []).length ≤ 5 := (by split <;> simp_all);omega)
   clear hL;have HO := Lib.hid HOc.out;clear HOc;clear HFi HTi;have HRG := Lib.hid (show ∀ x ∈ L3, 0 ≤ x ∧ x ≤ 1000 by rw [← HP.out]; exact zmQ HTK.out);rw [HP.out] at HE;have HLE3 := Lib.hid HLE.out;clear HP HLE HFO HTO HFK HTK;have HL3 := Lib.hid (show L3.length ≤ 19 from HLE3.out);obtain ⟨Bb, hBb⟩ : ∃ Bb, Bb = wb.heap.size := ⟨_, rfl⟩;have hbld : Lib.IsBuilderF 118 5 wb.heap.size wb.heap.size (Lib.byteCells (Ze false (L3.take 0))) (wb.alloc (.cells #[.pointer none, .slice none 0 0] 118)) :=
    Lib.IsBuilderF.of (.inl ⟨Nat.le_refl _, .slice none 0 0, zE _ _, World.ownsRow_nil _ _ _ _, by simp [Value.ownBlock]⟩)
   have hbb := Below.alloc (Below.refl wb.heap.size wb) (Nat.le_refl _) (.cells #[.pointer none, .slice none 0 0] 118);rw [← hBb] at hbld hbb;have HBL := Lib.hid hbld;have HBB := Lib.hid hbb;have hln := Za Tryz.underlying63 HO.out;clear hbld hbb;go_upto_region 21 with fail;rw [← hBb];have HBz2 := Lib.hid (HBz.out.trans (HBB.out.mono (by have := HSi.out; omega)));generalize wb.alloc (.cells #[.pointer none, .slice none 0 0] 118) = wd at *;have HBS := Lib.hid (show Bb ≤ wb.heap.size by omega);have HOd := Lib.hid (zh HO.out (by have := HBB.out; rw [hBb] at this; exact this));have HB0 := Lib.hid (show A ≤ Bb by have := HSi.out; omega);have HOB := Lib.hid (show ∀ q, ∀ v : Value, zn wb (A + 2) 1 v L3.length (L3.map (Value.int .i64)) → v.ownBlock = some q → q < Bb from fun q v h e => by have := (zl h q e).2; omega);clear hBb;go_wp2_with fail
   go_loopw [71] (fun iv wr => ∃ (k : Nat), k ≤ L3.length ∧ iv = .int .i64 k ∧ Hid (Below Bb wd wr) ∧ Hid (Lib.IsBuilderF 118 5 Bb Bb (Lib.byteCells (Ze false (L3.take k))) wr)) (fun iv _ => L3.length - (intOf iv).toNat)
   case atStart => exact ⟨0, Nat.zero_le _, rfl, Lib.hid (Below.refl _ _), HBL⟩
   case round =>
    obtain ⟨k, hk, rfl, HBr, HBD⟩ := hrel;have HSr := Lib.hid (show Bb ≤ wr.heap.size by have := HBr.out.size; have := HBB.out.size; have := HBS.out; omega);have HPL := Lib.hid (show (Ze false (L3.take k)).length ≤ 500 by
     have h1 := zim (L3.take k) false (fun x hx => HRG.out x (List.mem_of_mem_take hx));have h2 : (L3.take k).length ≤ L3.length := List.length_take_le' _ _;have := HL3.out;omega)
    by_cases hlt : k < L3.length
    ·have d1 : decide ((k : Int) < (L3.length : Int)) = true := decide_eq_true (by omega);have d1' : decide (k < L3.length) = true := decide_eq_true hlt;have hwk : IntKind.i64.wrap ((k : Int) + 1) = (k : Int) + 1 := zb _ (by have := HL3.out; omega) (by have := HL3.out; omega);have HOr := Lib.hid (Zk HOd.out (by have := HBr.out.size; omega) (fun q hq => HBr.out.block q (HOB.out q _ HO.out hq)));obtain ⟨lb, lo, lc, e1, _, _⟩ := zF HOr.out (by omega);subst e1;have p0 : wr.cell? ⟨lb, lo + k, none⟩ = some (.int .i64 (L3.getD k 0)) := by
      rw [(za9 HOr.out k (by omega)).1, List.getElem?_map, zeb L3 k hlt]; rfl
     have hix := ZN (P := Tryz.prog) (size := 1) Tryz.underlying63 (by kernel_rfl) lb lo L3.length lc k hlt;rw [Nat.mul_one] at hix;have HXR := Lib.hid (HRG.out _ (ziy L3 k hlt));have HSN := Lib.hid (show Ze false (L3.take (k + 1)) = Ze false (L3.take k) ++ zhR (false || !(L3.take k).isEmpty) (L3.getD k 0) by rw [Zx L3 0 k hlt, zfw]);generalize L3.getD k 0 = x at *;have HPX := Lib.hid (show ∀ b, zhR b x = (if b then [59] else []) ++ Lib.itoa x from fun b => by unfold zhR; rw [if_pos HXR.out.1]);have HBA := Lib.hid (HBz2.out.trans (HBr.out.mono HB0.out));clear HOr;by_cases hk0 : k = 0
     ·have d2 : decide ((0 : Int) < (k : Int)) = false := decide_eq_false (by omega);have d2' : decide (0 < k) = false := decide_eq_false (by omega);have HS1 := Lib.hid (show Ze false (L3.take (k + 1)) = Ze false (L3.take k) ++ Lib.itoa x by rw [HSN.out, HPX.out, hk0]; rfl);clear hk0;go_wp2_with fail;refine (zan x (by have := HXR.out; omega) (by have := HXR.out; omega) _ (HTB.out.below (by rw [← HA.out]; exact HBA.out))).mono ?_;rintro e w6 ⟨str, rfl, es, hs, b6⟩;have HBD6 := Lib.hid (zfZ HBD.out b6);have HBr6 := Lib.hid (HBr.out.trans (b6.mono HSr.out));have HSr6 := Lib.hid (Nat.le_trans HSr.out b6.size);have HES := Lib.hid es;clear b6 es;go_wp2_with fail;refine (zc0 Bb Bb _ str w6 HBD6.out (by rw [Lib.byteCells_length]; have := HPL.out; omega) HSr6.out).mono ?_;rintro e w7 ⟨rfl, hd7, b7⟩;have HBD7 := Lib.hid (show Lib.IsBuilderF 118 5 Bb Bb (Lib.byteCells (Ze false (L3.take (k + 1)))) w7 from by
       rw [HS1.out];have e : Lib.strCells str = Lib.byteCells (Lib.itoa x) := (by unfold Lib.strCells Lib.byteCells; rw [HES.out]);rw [e] at hd7;rw [zaG]; exact hd7)
      have HBr7 := Lib.hid (HBr6.out.trans b7);clear hd7 b7;go_wp2_with fail;go_roundw
      case rel => exact ⟨k + 1, by omega, by go_num, HBr7, HBD7⟩
      case measure => simp [intOf]; omega
     ·have d2 : decide ((0 : Int) < (k : Int)) = true := decide_eq_true (by omega);have d2' : decide (0 < k) = true := decide_eq_true (by omega);have HS1 := Lib.hid (show Ze false (L3.take (k + 1)) = Ze false (L3.take k) ++ [59] ++ Lib.itoa x by
       rw [HSN.out, HPX.out, List.append_assoc];have : (L3.take k).isEmpty = false := by
        rw [List.isEmpty_eq_false_iff];intro e;have e2 := congrArg List.length e;rw [List.length_take, List.length_nil] at e2;omega
       rw [this]; rfl)
      clear hk0;go_wp2_with fail;refine (zgo Bb Bb _ 59 wr HBD.out (by rw [Lib.byteCells_length]; have := HPL.out; omega) HSr.out).mono ?_;rintro e w4 ⟨rfl, hd4, b4⟩;replace HBD := Lib.hid hd4;replace HBr := Lib.hid (HBr.out.trans b4);replace HBA := Lib.hid (HBA.out.trans (b4.mono HB0.out));replace HSr := Lib.hid (Nat.le_trans HSr.out b4.size);clear hd4 b4 p0 hix;go_wp2_with fail;refine (zan x (by have := HXR.out; omega) (by have := HXR.out; omega) _ (HTB.out.below (by rw [← HA.out]; exact HBA.out))).mono ?_;rintro e w6 ⟨str, rfl, es, hs, b6⟩;have HBD6 := Lib.hid (zfZ HBD.out b6);have HBr6 := Lib.hid (HBr.out.trans (b6.mono HSr.out));have HSr6 := Lib.hid (Nat.le_trans HSr.out b6.size);have HES := Lib.hid es;clear b6 es;go_wp2_with fail;refine (zc0 Bb Bb _ str w6 HBD6.out (by rw [List.length_append, Lib.byteCells_length]; show _ + 1 + _ ≤ _; have := HPL.out; omega) HSr6.out).mono ?_;rintro e w7 ⟨rfl, hd7, b7⟩;have HBD7 := Lib.hid (show Lib.IsBuilderF 118 5 Bb Bb (Lib.byteCells (Ze false (L3.take (k + 1)))) w7 from by
       rw [HS1.out];have e : Lib.strCells str = Lib.byteCells (Lib.itoa x) := (by unfold Lib.strCells Lib.byteCells; rw [HES.out]);rw [e] at hd7;rw [zaG, zaG]; exact hd7)
      have HBr7 := Lib.hid (HBr6.out.trans b7);clear hd7 b7;go_wp2_with fail;go_roundw
      case rel => exact ⟨k + 1, by omega, by go_num, HBr7, HBD7⟩
      case measure => simp [intOf]; omega
    ·have HKE := Lib.hid (show L3.take k = L3 from List.take_of_length_le (by omega));have d1 : decide ((k : Int) < (L3.length : Int)) = false := decide_eq_false (by omega);have d1' : decide (k < L3.length) = false := decide_eq_false hlt;rw [HKE.out] at HBD HPL;clear hlt HKE;go_wp2_with fail;refine (Tryz.Builder_String_any_f Bb Bb _ wr HBD.out HSr.out).mono ?_;rintro e w5 ⟨rfl, _, b5⟩;have HFB := Lib.hid ((HBz2.out.trans (HBr.out.mono HB0.out)).trans (b5.mono HB0.out));obtain ⟨X, hX⟩ : ∃ X : ByteArray, X = ⟨(Ze false L3).toArray⟩ := ⟨_, rfl⟩;rw [← hX];have hsz : X.size ≤ 500 := by
      rw [hX];have := HPL.out;show (Ze false L3).toArray.size ≤ 500;rw [List.size_toArray];exact this
     have HXE := Lib.hid (show X.data.toList = Ze false L3 by rw [hX]);clear hX b5;go_wp2_with fail;refine zT rfl rfl rfl ⟨_, rfl, ?_, ?_, by have := HA.out; subst this; exact HFB.out⟩
     ·rw [HE.out, Zn, Zn, HXE.out]
     ·rw [ByteArray.size_append, ByteArray.size_append];show 2 + X.size + 1 ≤ 1000;omega
end
end Go.Proofs.YtlfdgkiliegaiaaGreatDoor
