/- Texts laid together: K9 K17 K18 K29 Z13. -/
import Derived.Test.YtlfdgkiliegaiaaGreatDoorY1
import Derived.Test.YtlfdgkiliegaiaaGreatDoorY11
import Derived.Test.YtlfdgkiliegaiaaGreatDoorY12
import Derived.Test.YtlfdgkiliegaiaaGreatDoorY14
import Derived.Test.YtlfdgkiliegaiaaGreatDoorY15
import Derived.Test.YtlfdgkiliegaiaaGreatDoorY2
import Derived.Test.YtlfdgkiliegaiaaGreatDoorY3
import Derived.Test.YtlfdgkiliegaiaaGreatDoorY5
import Derived.Test.YtlfdgkiliegaiaaGreatDoorY6
import Derived.Test.YtlfdgkiliegaiaaGreatDoorY8
import Derived.Test.YtlfdgkiliegaiaaGreatDoorY9
import Derived.ChangeKeysEq
import Derived.Deep.RegionHeld3
import Derived.Deep.MidRow
import Derived.Lib.ItoaLen
import Derived.Test.YtlfdgkiliegaiaaGreatDoorShelf
import Derived.Lib.Builder
import Derived.Lib.FrozenHead
import Derived.Lib.RuneBytes
import Derived.Lib.UnsafeStr
import Derived.Lib.SliceRun
import Derived.WalkSpells
import Derived.StillTailTactics
import Derived.Deep.RegionLaw
import Derived.Deep.DeepCutAuto
import Derived.Test.YtlfdgkiliegaiaaGreatDoorRows
import Derived.Deep.AppendSrc
import Derived.Lib.AppendStr
import Derived.ArgAppend
import Derived.Laws.IdiomCopy
import Derived.Laws.IdiomStrings
import Derived.Deep.Upon
import Derived.WalkKit
import Derived.WalkLawsBesides
import Derived.BigQuiet
import Derived.Lib.Hide
import Derived.Deep.QuietTactic
import Derived.Lib.AppendIntMem
import Derived.Lib.ItoaNum
import Derived.Laws.ResultCell
import Derived.Deep.CutBlock
import Derived.Laws.EntriesVeiled
import Derived.Laws.StructEq
import Derived.Deep.DrawnRows
import Derived.Laws.Cover4
import Derived.WalkMore
import Derived.ScopeJumps
import Derived.Lib.SlBytesConst
import Derived.Laws.Bits64b
import Derived.Lib.FrozenHead2
import Derived.Lib.TrimU
import Derived.Lib.OthersKept
import Derived.Deep.LoopGhost
set_option linter.unusedVariables false
set_option linter.unusedSimpArgs false
namespace Go.Proofs.YtlfdgkiliegaiaaGreatDoor
section
open Go.RowKit
set_option maxRecDepth 100000
theorem zfJ : (Tryz.prog.info? 85).map (·.size) = some 10 := by kernel_rfl
def Sav.arr (v : Sav) : Array Value := #[.int .i64 v.x, .int .i64 v.y, .bool v.wait, .int .i64 v.pen.fg, .int .i64 v.pen.bg, .int .i64 v.pen.attr, .bool v.origin, .bool v.l0, .bool v.l1, .int .i64 v.second]
theorem zkX (w : World) : Calls Tryz.prog 84 #[] w fun e w' => e = .returned (.agg sav0.arr) ∧ Below w.heap.size w w' := by
 have hb0 := zE w (.cells #[.int .i64 0, .int .i64 0, .bool false, .int .i64 0, .int .i64 0, .int .i64 0, .bool false, .bool false, .bool false, .int .i64 0] 85);have hB0 := (Below.refl w.heap.size w).alloc (Nat.le_refl _) (.cells #[.int .i64 0, .int .i64 0, .bool false, .int .i64 0, .int .i64 0, .int .i64 0, .bool false, .bool false, .bool false, .int .i64 0] 85);go_enter Tryz.func84, Tryz.ntmps84;go_wp2_with fail;refine (zaZ _).mono ?_;rintro e w2 ⟨rfl, b2⟩;have hb2 := zm hb0 b2 (by simp);have hst := run_storeVar_row (P := Tryz.prog) w2 w.heap.size 85 85 _ sav0.arr hb2 zfJ rfl (by simp [Value.oneCell', Sav.arr]);have hr2 := zaS (cells := sav0.arr) hb2;have hB2 := Lib.hid (hB0.trans (b2.mono (by simp)));have hB3 := Lib.hid (zbB hB2.out (g := w.heap.size) (Nat.le_refl _) sav0.arr);unfold Sty.val plainS;clear hB0 b2;generalize w2.setRow w.heap.size sav0.arr = w3 at *;go_wp2_with (refine zJ rfl _ _ _ rfl hst rfl rfl ?_);exact zca rfl rfl rfl hr2 Tryz.underlying85 rfl (by exact zfJ) ⟨rfl, hB3.out⟩
def Scr.slotO (s : Scr) : Nat := if s.other.isSome then 22 else 12
theorem zeD {B : World} {C : Nat → Nat} {p : Nat} {w : World} {s : Scr} {ps : PSt} (h : SR B C p w s ps) :
  Calls Tryz.prog 238 #[.pointer (some ⟨p, 0, none⟩)] w fun e w' => e = .returned (.pointer (some ⟨p, s.slotO, none⟩)) ∧ w' = w := by
 rcases h.oth with ⟨c11, hno⟩ | ⟨qo, c11, hno⟩
 ·have HO := Lib.hid (show s.slotO = 12 by unfold Scr.slotO; cases ho : s.other <;> rw [ho] at hno <;> first | rfl | cases hno);clear h hno;go_enter Tryz.func238, Tryz.ntmps238;go_wp2_with fail;go_ret;rw [HO.out];exact ⟨rfl, rfl⟩
 ·have HO := Lib.hid (show s.slotO = 22 by unfold Scr.slotO; cases ho : s.other <;> rw [ho] at hno <;> first | rfl | cases hno);clear h hno;go_enter Tryz.func238, Tryz.ntmps238;go_wp2_with fail;go_ret;rw [HO.out];exact ⟨rfl, rfl⟩
theorem SR.slotR {B : World} {C : Nat → Nat} {p : Nat} {w : World} {s : Scr} {ps : PSt} (h : SR B C p w s ps) : w.rangeAt p s.slotO s.slot.vals := by
 unfold Scr.slotO Scr.slot;cases s.other.isSome
 ·exact h.k0R
 ·exact h.k1R
theorem SR.setSlot {B : World} {C : Nat → Nat} {p : Nat} {w : World} {s : Scr} {ps : PSt} (h : SR B C p w s ps) (v : Sav) : SR B C p (w.setCells p s.slotO v.vals) (s.setSlot v) ps ∧ Pre C w C (w.setCells p s.slotO v.vals) := by
 unfold Scr.slotO Scr.setSlot;cases s.other.isSome
 ·exact h.setK0 v
 ·exact h.setK1 v
theorem zhi (s : Scr) : s.setSlot s.slot = s := by
 unfold Scr.setSlot Scr.slot;cases s.other.isSome <;> rfl
def Sav.eqb (a b : Sav) : Bool := a.x == b.x && (a.y == b.y && (a.wait == b.wait && (a.pen.eqb b.pen && (a.origin == b.origin && ((a.l0 == b.l0 && a.l1 == b.l1) && a.second == b.second)))))
theorem Sav.eqb_iff (a b : Sav) : a.eqb b = true ↔ a = b := by
 obtain ⟨x, y, wt, pen, og, l0, l1, sc⟩ := a;obtain ⟨x', y', wt', pen', og', l0', l1', sc'⟩ := b;simp [Sav.eqb, Sty.eqb_iff, and_assoc]
theorem zkY (a b : Sav) (d : Nat) (w : World) : (Op.equalIn (d + 4) 85 (.agg a.arr) (.agg b.arr)).run Tryz.prog w = .ok (a.eqb b) w := by
 have hS : Tryz.prog.underlying 85 = some (.struct (Tryz.prog.fieldsOf 85)) := (by kernel_rfl);have hp : Tryz.prog.stoodInHeld 85 = false := (by kernel_rfl);have hq := zgG a.pen b.pen (d + 1) w;unfold Sty.val at hq;unfold Sav.arr;rw [run_equalIn_agg w (d + 3) 85 _ _ hS hp];simp only [Program.fieldsOf, Tryz.underlying85]
 go_simp
 have h83 : (Op.equalIn (d + 3) 83 (.agg #[.bool a.l0, .bool a.l1]) (.agg #[.bool b.l0, .bool b.l1])).run Tryz.prog w = .ok (a.l0 == b.l0 && a.l1 == b.l1) w := by
  obtain ⟨i, hi, _⟩ := Option.map_eq_some_iff.1 (show (Tryz.prog.info? 4).map (·.size) = some 1 by kernel_rfl);have hs : ∀ wx, (sizeOf 4).run Tryz.prog wx = .ok 1 wx := fun wx => zdb (by kernel_rfl) wx;rw [run_equalIn_array w (d + 2) _ _ Tryz.underlying83 hi];rw [show Tryz.prog.cellsOf 4 = 1 by kernel_rfl];have hq0 := run_equalIn_bool' (P := Tryz.prog) w (d + 1) 4 a.l0 b.l0 Tryz.underlying4;have hq1 := run_equalIn_bool' (P := Tryz.prog) w (d + 1) 4 a.l1 b.l1 Tryz.underlying4;simp [show List.range 2 = [0, 1] from rfl, Op.eqItems, part, hs, hq0, hq1];by_cases h0 : a.l0 = b.l0 <;> by_cases h1 : a.l1 = b.l1 <;> simp [h0, h1]
 rw [h83];unfold Sav.eqb Sty.eqb;by_cases h1 : a.x = b.x;rotate_left
 ·simp [h1]
 by_cases h2 : a.y = b.y;rotate_left
 ·simp [h1, h2]
 by_cases h3 : a.wait = b.wait;rotate_left
 ·simp [h1, h2, h3]
 by_cases h4 : a.pen.fg = b.pen.fg;rotate_left
 ·simp [h1, h2, h3, h4]
 by_cases h5 : a.pen.bg = b.pen.bg;rotate_left
 ·simp [h1, h2, h3, h4, h5]
 by_cases h6 : a.pen.attr = b.pen.attr;rotate_left
 ·simp [h1, h2, h3, h4, h5, h6]
 by_cases h7 : a.origin = b.origin;rotate_left
 ·simp [h1, h2, h3, h4, h5, h6, h7]
 by_cases h8 : a.l0 = b.l0 <;> by_cases h9 : a.l1 = b.l1 <;> by_cases h10 : a.second = b.second <;> simp [h1, h2, h3, h4, h5, h6, h7, h8, h9, h10]
theorem znN (a b : Sav) (w : World) : (binOp .neq 85 (.agg a.arr) (.agg b.arr)).run Tryz.prog w = .ok (.bool (!a.eqb b)) w := by
 have := zkY a b 9996 w;unfold Sav.arr at *;rw [run_neq_struct, show (10000 : Nat) = 9996 + 4 from rfl, this]; rfl
theorem zkZ (op : BinOp) (x y : Operand) (a b : Sav) (w : World) : (eqGuard op 85 x y (.agg a.arr) (.agg b.arr)).run Tryz.prog w = .ok () w := run_eqGuard_agg w op 85 x y _ _ (by kernel_rfl)
theorem zdp {w : World} {p o : Nat} (v : Sav) (h : w.there p o 10) : (storeVar 85 ⟨p, o, none⟩ (.agg v.arr)).run Tryz.prog w = .ok () (w.setCells p o v.vals) :=
 run_storeVar_mid w p o 85 v.arr h zfJ (by simp [Sav.arr, Value.oneCell'])
theorem SR.thereSlot {B : World} {C : Nat → Nat} {p : Nat} {w : World} {s : Scr} {ps : PSt} (h : SR B C p w s ps) : w.there p s.slotO 10 := by
 unfold Scr.slotO;cases s.other.isSome
 ·exact h.there 12 10 (by decide)
 ·exact h.there 22 10 (by decide)
def Scr.save1 (s : Scr) : Scr := { s with now := { s.now with origin := s.has 4 } }
theorem zeE {B : World} {C : Nat → Nat} {p : Nat} {w : World} {s : Scr} {ps : PSt} (h : SR B C p w s ps) :
  Calls Tryz.prog 209 #[.pointer (some ⟨p, 0, none⟩)] w fun e w' => e = .returned (.tuple #[]) ∧ zq B C p w w' s.save ps := by
 have c6 : w.cell? ⟨p, 6, none⟩ = some (.bool s.now.origin) := h.at_ 6 _;have f6 := h.fz 6;have HH := Lib.hid (zaI h 4);obtain ⟨h1, g1⟩ := h.set 6 (.bool (s.has 4)) s.save1;have H1 := Lib.hid h1;have G1 := Lib.hid g1;have HSV := Lib.hid (show s.save = s.save1.setSlot s.save1.now from rfl);clear h h1 g1;go_enter Tryz.func209, Tryz.ntmps209;go_wp2_with fail;refine HH.out.mono ?_;rintro e w2 ⟨rfl, rfl⟩;go_upto_region 1 with fail;generalize hw1 : w2.setCell ⟨p, 6, none⟩ (.bool (s.has 4)) = w1 at *;clear c6 f6 HH;generalize s.save1 = s1 at *;go_wp2_with fail;refine (zeD H1.out).mono ?_;rintro e w3 ⟨rfl, rfl⟩;have a0 : w3.cell? ⟨p, s1.slotO, none⟩ = some (.int .i64 s1.slot.x) := H1.out.slotR 0 _ rfl;have a1 : w3.cell? ⟨p, s1.slotO + 1, none⟩ = some (.int .i64 s1.slot.y) := H1.out.slotR 1 _ rfl;have a2 : w3.cell? ⟨p, s1.slotO + 2, none⟩ = some (.bool s1.slot.wait) := H1.out.slotR 2 _ rfl;have a3 : w3.cell? ⟨p, s1.slotO + 3, none⟩ = some (.int .i64 s1.slot.pen.fg) := H1.out.slotR 3 _ rfl;have a4 : w3.cell? ⟨p, s1.slotO + 4, none⟩ = some (.int .i64 s1.slot.pen.bg) := H1.out.slotR 4 _ rfl;have a5 : w3.cell? ⟨p, s1.slotO + 5, none⟩ = some (.int .i64 s1.slot.pen.attr) := H1.out.slotR 5 _ rfl;have a6 : w3.cell? ⟨p, s1.slotO + 6, none⟩ = some (.bool s1.slot.origin) := H1.out.slotR 6 _ rfl;have a7 : w3.cell? ⟨p, s1.slotO + 7, none⟩ = some (.bool s1.slot.l0) := H1.out.slotR 7 _ rfl;have a8 : w3.cell? ⟨p, s1.slotO + 8, none⟩ = some (.bool s1.slot.l1) := H1.out.slotR 8 _ rfl;have a9 : w3.cell? ⟨p, s1.slotO + 9, none⟩ = some (.int .i64 s1.slot.second) := H1.out.slotR 9 _ rfl;have b0 : w3.cell? ⟨p, 0, none⟩ = some (.int .i64 s1.now.x) := H1.out.at_ 0 _;have b1 : w3.cell? ⟨p, 1, none⟩ = some (.int .i64 s1.now.y) := H1.out.at_ 1 _;have b2 : w3.cell? ⟨p, 2, none⟩ = some (.bool s1.now.wait) := H1.out.at_ 2 _;have b3 : w3.cell? ⟨p, 3, none⟩ = some (.int .i64 s1.now.pen.fg) := H1.out.at_ 3 _;have b4 : w3.cell? ⟨p, 4, none⟩ = some (.int .i64 s1.now.pen.bg) := H1.out.at_ 4 _;have b5 : w3.cell? ⟨p, 5, none⟩ = some (.int .i64 s1.now.pen.attr) := H1.out.at_ 5 _;have b6 : w3.cell? ⟨p, 6, none⟩ = some (.bool s1.now.origin) := H1.out.at_ 6 _;have b7 : w3.cell? ⟨p, 7, none⟩ = some (.bool s1.now.l0) := H1.out.at_ 7 _;have b8 : w3.cell? ⟨p, 8, none⟩ = some (.bool s1.now.l1) := H1.out.at_ 8 _;have b9 : w3.cell? ⟨p, 9, none⟩ = some (.int .i64 s1.now.second) := H1.out.at_ 9 _;have hne : ∀ wx : World, (binOp .neq 85 (.agg #[.int .i64 s1.slot.x, .int .i64 s1.slot.y, .bool s1.slot.wait, .int .i64 s1.slot.pen.fg, .int .i64 s1.slot.pen.bg, .int .i64 s1.slot.pen.attr, .bool s1.slot.origin, .bool s1.slot.l0, .bool s1.slot.l1, .int .i64 s1.slot.second]) (.agg #[.int .i64 s1.now.x, .int .i64 s1.now.y, .bool s1.now.wait, .int .i64 s1.now.pen.fg, .int .i64 s1.now.pen.bg, .int .i64 s1.now.pen.attr, .bool s1.now.origin, .bool s1.now.l0, .bool s1.now.l1, .int .i64 s1.now.second])).run Tryz.prog wx = .ok (.bool (!s1.slot.eqb s1.now)) wx := fun wx => znN s1.slot s1.now wx;have hgd : ∀ (x y : Operand) (wx : World), (eqGuard .neq 85 x y (.agg #[.int .i64 s1.slot.x, .int .i64 s1.slot.y, .bool s1.slot.wait, .int .i64 s1.slot.pen.fg, .int .i64 s1.slot.pen.bg, .int .i64 s1.slot.pen.attr, .bool s1.slot.origin, .bool s1.slot.l0, .bool s1.slot.l1, .int .i64 s1.slot.second]) (.agg #[.int .i64 s1.now.x, .int .i64 s1.now.y, .bool s1.now.wait, .int .i64 s1.now.pen.fg, .int .i64 s1.now.pen.bg, .int .i64 s1.now.pen.attr, .bool s1.now.origin, .bool s1.now.l0, .bool s1.now.l1, .int .i64 s1.now.second])).run Tryz.prog wx = .ok () wx := fun x y wx => zkZ .neq x y s1.slot s1.now wx;go_upto_region 2 with fail
 go_region_held3 (fun w' => w'.cell? ⟨p, s1.slotO, none⟩ = some (.int .i64 s1.slot.x) ∧ w'.cell? ⟨p, s1.slotO + 1, none⟩ = some (.int .i64 s1.slot.y) ∧ w'.cell? ⟨p, s1.slotO + 2, none⟩ = some (.bool s1.slot.wait) ∧ w'.cell? ⟨p, s1.slotO + 3, none⟩ = some (.int .i64 s1.slot.pen.fg) ∧ w'.cell? ⟨p, s1.slotO + 4, none⟩ = some (.int .i64 s1.slot.pen.bg) ∧ w'.cell? ⟨p, s1.slotO + 5, none⟩ = some (.int .i64 s1.slot.pen.attr) ∧ w'.cell? ⟨p, s1.slotO + 6, none⟩ = some (.bool s1.slot.origin) ∧ w'.cell? ⟨p, s1.slotO + 7, none⟩ = some (.bool s1.slot.l0) ∧ w'.cell? ⟨p, s1.slotO + 8, none⟩ = some (.bool s1.slot.l1) ∧ w'.cell? ⟨p, s1.slotO + 9, none⟩ = some (.int .i64 s1.slot.second) ∧ w'.cell? ⟨p, 0, none⟩ = some (.int .i64 s1.now.x) ∧ w'.cell? ⟨p, 1, none⟩ = some (.int .i64 s1.now.y) ∧ w'.cell? ⟨p, 2, none⟩ = some (.bool s1.now.wait) ∧ w'.cell? ⟨p, 3, none⟩ = some (.int .i64 s1.now.pen.fg) ∧ w'.cell? ⟨p, 4, none⟩ = some (.int .i64 s1.now.pen.bg) ∧ w'.cell? ⟨p, 5, none⟩ = some (.int .i64 s1.now.pen.attr) ∧ w'.cell? ⟨p, 6, none⟩ = some (.bool s1.now.origin) ∧ w'.cell? ⟨p, 7, none⟩ = some (.bool s1.now.l0) ∧ w'.cell? ⟨p, 8, none⟩ = some (.bool s1.now.l1) ∧ w'.cell? ⟨p, 9, none⟩ = some (.int .i64 s1.now.second)) (first | exact ⟨a0, a1, a2, a3, a4, a5, a6, a7, a8, a9, b0, b1, b2, b3, b4, b5, b6, b7, b8, b9⟩) (first | fail)
 clear a0 a1 a2 a3 a4 a5 a6 a7 a8 a9 b0 b1 b2 b3 b4 b5 b6 b7 b8 b9 hne hgd;have HD1 := Lib.hid (H1.out.below (Below.refl w3.heap.size w3).drew);have GD1 := Lib.hid (G1.out.below (Below.refl w3.heap.size w3).drew);rename_i hS;clear hS;generalize w3.drew = wd at *;obtain ⟨b, hb⟩ : ∃ b, b = s1.slot.eqb s1.now := ⟨_, rfl⟩;rw [← hb];have HB := Lib.hid hb;clear hb;cases b
 ·obtain ⟨h4, g4⟩ := HD1.out.setSlot s1.now;have HD := Lib.hid (show zq B C p w2 _ s.save ps by rw [HSV.out]; exact ⟨_, h4, GD1.out.trans g4⟩);have hst := zdp s1.now HD1.out.thereSlot;unfold Sav.arr at hst;have b0 : wd.cell? ⟨p, 0, none⟩ = some (.int .i64 s1.now.x) := HD1.out.at_ 0 _;have b1 : wd.cell? ⟨p, 1, none⟩ = some (.int .i64 s1.now.y) := HD1.out.at_ 1 _;have b2 : wd.cell? ⟨p, 2, none⟩ = some (.bool s1.now.wait) := HD1.out.at_ 2 _;have b3 : wd.cell? ⟨p, 3, none⟩ = some (.int .i64 s1.now.pen.fg) := HD1.out.at_ 3 _;have b4 : wd.cell? ⟨p, 4, none⟩ = some (.int .i64 s1.now.pen.bg) := HD1.out.at_ 4 _;have b5 : wd.cell? ⟨p, 5, none⟩ = some (.int .i64 s1.now.pen.attr) := HD1.out.at_ 5 _;have b6 : wd.cell? ⟨p, 6, none⟩ = some (.bool s1.now.origin) := HD1.out.at_ 6 _;have b7 : wd.cell? ⟨p, 7, none⟩ = some (.bool s1.now.l0) := HD1.out.at_ 7 _;have b8 : wd.cell? ⟨p, 8, none⟩ = some (.bool s1.now.l1) := HD1.out.at_ 8 _;have b9 : wd.cell? ⟨p, 9, none⟩ = some (.int .i64 s1.now.second) := HD1.out.at_ 9 _;clear h4 g4;go_wp2_with (refine zJ rfl _ _ _ rfl hst rfl rfl ?_);go_end0;exact ⟨rfl, HD.out⟩
 ·have HD := Lib.hid (show zq B C p w2 wd s.save ps by
   rw [HSV.out, ← (Sav.eqb_iff _ _).1 HB.out.symm, zhi];exact ⟨_, HD1.out, GD1.out⟩)
  go_wp2_with fail;go_end0;exact ⟨rfl, HD.out⟩
theorem zcL {B : World} {C : Nat → Nat} {p : Nat} {w : World} {s : Scr} {ps : PSt} (h : SR B C p w s ps) :
  Calls Tryz.prog 210 #[.pointer (some ⟨p, 0, none⟩)] w fun e w' => e = .returned (.tuple #[]) ∧ zq B C p w w' s.restore ps := by
 have HR := Lib.hid h;have a0 : w.cell? ⟨p, s.slotO, none⟩ = some (.int .i64 s.slot.x) := HR.out.slotR 0 _ rfl;have a1 : w.cell? ⟨p, s.slotO + 1, none⟩ = some (.int .i64 s.slot.y) := HR.out.slotR 1 _ rfl;have a2 : w.cell? ⟨p, s.slotO + 2, none⟩ = some (.bool s.slot.wait) := HR.out.slotR 2 _ rfl;have a3 : w.cell? ⟨p, s.slotO + 3, none⟩ = some (.int .i64 s.slot.pen.fg) := HR.out.slotR 3 _ rfl;have a4 : w.cell? ⟨p, s.slotO + 4, none⟩ = some (.int .i64 s.slot.pen.bg) := HR.out.slotR 4 _ rfl;have a5 : w.cell? ⟨p, s.slotO + 5, none⟩ = some (.int .i64 s.slot.pen.attr) := HR.out.slotR 5 _ rfl;have a6 : w.cell? ⟨p, s.slotO + 6, none⟩ = some (.bool s.slot.origin) := HR.out.slotR 6 _ rfl;have a7 : w.cell? ⟨p, s.slotO + 7, none⟩ = some (.bool s.slot.l0) := HR.out.slotR 7 _ rfl;have a8 : w.cell? ⟨p, s.slotO + 8, none⟩ = some (.bool s.slot.l1) := HR.out.slotR 8 _ rfl;have a9 : w.cell? ⟨p, s.slotO + 9, none⟩ = some (.int .i64 s.slot.second) := HR.out.slotR 9 _ rfl;have HS := Lib.hid (zeD h);have hst := zdp s.slot (h.there 0 10 (by decide));unfold Sav.arr at hst;obtain ⟨h1, g1⟩ := h.setNow s.slot;have H1 := Lib.hid h1;have G1 := Lib.hid g1;clear h h1 g1;go_enter Tryz.func210, Tryz.ntmps210;go_wp2_with fail;refine HS.out.mono ?_;rintro e w2 ⟨rfl, rfl⟩;go_upto_region 1 with (refine zJ rfl _ _ _ rfl hst rfl rfl ?_);clear hst HS a0 a1 a2 a3 a4 a5 a6 a7 a8 a9;generalize w2.setCells p 0 s.slot.vals = w3 at *;have c6 : w3.cell? ⟨p, 6, none⟩ = some (.bool s.slot.origin) := H1.out.at_ 6 _;go_wp2_with fail;refine (Zu H1.out 4 s.slot.origin).mono ?_;rintro e w4 ⟨rfl, d4⟩;have HD := Lib.hid (zq.after G1.out d4);clear d4;go_wp2_with fail;go_end0;exact ⟨rfl, HD.out⟩
theorem zeF {B : World} {C : Nat → Nat} {p : Nat} {w : World} {s : Scr} {ps : PSt} (h : SR B C p w s ps) (on : Bool) :
  Calls Tryz.prog 236 #[.pointer (some ⟨p, 0, none⟩), .bool on] w fun e w' => e = .returned (.tuple #[]) ∧ zq B C p w w' (s.keep on) ps := by
 cases on
 ·have HD := Lib.hid (zcL h);clear h;go_enter Tryz.func236, Tryz.ntmps236;go_wp2_with fail;refine HD.out.mono ?_;rintro e w2 ⟨rfl, d2⟩;have HD2 := Lib.hid d2;clear d2;go_wp2_with fail;go_end0;exact ⟨rfl, HD2.out⟩
 ·have HD := Lib.hid (zeE h);clear h;go_enter Tryz.func236, Tryz.ntmps236;go_wp2_with fail;refine HD.out.mono ?_;rintro e w2 ⟨rfl, d2⟩;have HD2 := Lib.hid d2;clear d2;go_wp2_with fail;go_end0;exact ⟨rfl, HD2.out⟩
end
section
open Go.RowKit
set_option maxRecDepth 100000
theorem zh6 (x : Int) : IntKind.i64.wrap x = wrap64 x := by rw [IntKind.wrap_i64]; unfold wrap64; rfl
structure CIn (a : VAct) (v : Value) (A I i : Nat) (X : Nat → Int) (w : World) : Prop where
 hA : w.heap[A]? = some (.cells (a.cells v).toArray 75 (0, 0))
 hI : w.cell? ⟨I, 0, none⟩ = some (.int .i64 i)
 hr : zff .i64 w v a.params
 hX : ∀ k, X k = par a.params (i + k) 0
theorem CIn.below {a : VAct} {v : Value} {A I i : Nat} {X : Nat → Int} {w w' : World} (h : CIn a v A I i X w) (b : Below w.heap.size w w') : CIn a v A I i X w' :=
 ⟨zm h.hA b (zj h.hA), zc b h.hI, zdT h.hr b, h.hX⟩
theorem zbL {a : VAct} {v : Value} {A I i : Nat} {X : Nat → Int} {w : World} (h : CIn a v A I i X w) (k : Nat) (hk : i + k ≤ 9223372036854775807) :
  Calls Tryz.prog 299 #[.int .i64 k, .pointer (some ⟨A, 0, none⟩), .pointer (some ⟨I, 0, none⟩)] w fun e w' => e = .returned (.int .i64 (X k)) ∧ Below w.heap.size w w' := by
 have HP := Lib.hid (Zw a v w h.hr (i + k) 0);have HX := Lib.hid (h.hX k);have a0 : w.cell? ⟨A, 0, none⟩ = some (.int .i64 a.kind) := za h.hA 0;have a1 : w.cell? ⟨A, 1, none⟩ = some (.int .i32 a.rune) := za h.hA 1;have a2 : w.cell? ⟨A, 2, none⟩ = some (.int .u8 (a.byte.toNat : Int)) := za h.hA 2;have a3 : w.cell? ⟨A, 3, none⟩ = some v := za h.hA 3;have a4 : w.cell? ⟨A, 4, none⟩ = some (.string a.inter) := za h.hA 4;have a5 : w.cell? ⟨A, 5, none⟩ = some (.string a.text) := za h.hA 5;have hI := h.hI;have hw : IntKind.i64.wrap ((i : Int) + (k : Int)) = ((i + k : Nat) : Int) := (by rw [zb _ (by omega) (by omega)]; omega);clear h hk;generalize i + k = j at *;unfold VAct.val at HP;go_enter Tryz.func299, Tryz.ntmps299;go_wp2_with fail;refine HP.out.mono ?_;rintro e w2 ⟨rfl, b2⟩;have HB := Lib.hid b2;clear b2;go_wp2_with fail;go_ret;exact ⟨Z9 HX.out.symm, HB.out⟩
set_option maxHeartbeats 1000000 in
theorem zje (a : VAct) (v : Value) (w : World) (hr : zff .i64 w v a.params) (i : Nat) (hi : i ≤ a.params.length) :
  Calls Tryz.prog 285 #[a.val v, .int .i64 i] w fun e w' => e = .returned (.tuple #[.int .i64 (zZ a.params i).1, .int .i64 ((zZ a.params i).2 : Nat)]) ∧ Below w.heap.size w w' := by
 have hlen := zb9 Tryz.underlying63 hr;have hsm := zbF hr;have hbk := zD (zE w (.cells (a.cells v).toArray 75)) (.cells #[.int .i64 i] 3);have hbi := zE (w.alloc (.cells (a.cells v).toArray 75)) (.cells #[.int .i64 i] 3);have hsz : (w.alloc (.cells (a.cells v).toArray 75)).heap.size = w.heap.size + 1 := (by simp);rw [hsz] at hbi;have HB := Lib.hid (((Below.refl w.heap.size w).alloc (Nat.le_refl _) (.cells (a.cells v).toArray 75)).alloc (by simp) (.cells #[.int .i64 i] 3));obtain ⟨X, hX⟩ : ∃ X : Nat → Int, X = fun k => par a.params (i + k) 0 := ⟨_, rfl⟩;have HCI := Lib.hid (show CIn a v w.heap.size (w.heap.size + 1) i X ((w.alloc (.cells (a.cells v).toArray 75)).alloc (.cells #[.int .i64 i] 3)) from ⟨hbk, za hbi 0, zdT hr HB.out, fun k => by rw [hX]⟩);have HXR := Lib.hid (show ∀ k, 0 ≤ X k ∧ X k ≤ 9999 from fun k => by rw [hX]; exact ZH _ _ _ (by decide) (by decide));have HC := Lib.hid (show zZ a.params i = if i + 2 ≤ a.params.length ∧ X 0 = 5 ∧ X 1 ≤ 255 then (X 1, 2) else if i + 4 ≤ a.params.length ∧ X 0 = 2 ∧ max (max (X 1) (X 2)) (X 3) ≤ 255 then (16777216 + X 1 * 65536 + X 2 * 256 + X 3, 4) else (0, 0) by rw [hX]; rfl);have c3 : ((w.alloc (.cells (a.cells v).toArray 75)).alloc (.cells #[.int .i64 i] 3)).cell? ⟨w.heap.size, 3, none⟩ = some v := za hbk 3;have ci : ((w.alloc (.cells (a.cells v).toArray 75)).alloc (.cells #[.int .i64 i] 3)).cell? ⟨w.heap.size + 1, 0, none⟩ = some (.int .i64 i) := za hbi 0;have hwl : IntKind.i64.wrap ((a.params.length : Int) - i) = (a.params.length : Int) - i := zb _ (by omega) (by omega);have hmf : ∀ (fn : Fn) (first cap : Array Value) (w : World), (Instr.makeFunc fn first cap).run Tryz.prog w = .ok (.func fn first cap) w := fun _ _ _ _ => rfl;clear hX hbk hbi hr hsz;obtain ⟨n, hn⟩ : ∃ n, n = a.params.length := ⟨_, rfl⟩;rw [← hn] at hlen hsm hi HC hwl;have HN := Lib.hid hn;clear hn;unfold VAct.cells at HB HCI c3 ci;unfold VAct.val;go_enter Tryz.func285, Tryz.ntmps285;go_upto_region 3 with fail;clear c3 ci hwl hmf hlen;generalize (w.alloc (.cells [Value.int IntKind.i64 a.kind, Value.int IntKind.i32 a.rune, Value.int IntKind.u8 (a.byte.toNat : Int), v, Value.string a.inter, Value.string a.text].toArray 75)).alloc (.cells #[.int .i64 i] 3) = w1 at *;have HC1 := HCI;have HB1 := HB;clear HCI HB;by_cases h2 : i + 2 ≤ n;rotate_left
 ·have d2 : decide (2 ≤ (n : Int) - (i : Int)) = false := decide_eq_false (by omega);have d4 : decide (4 ≤ (n : Int) - (i : Int)) = false := decide_eq_false (by omega);have HE := Lib.hid (show zZ a.params i = (0, 0) by rw [HC.out]; rw [if_neg (fun e => h2 e.1), if_neg (fun e => h2 (by omega))]);go_wp2_with fail;refine zct rfl rfl rfl rfl ⟨?_, HB1.out⟩;rw [HE.out];rfl
 have d2 : decide (2 ≤ (n : Int) - (i : Int)) = true := decide_eq_true (by omega);go_wp2_with fail;refine (zbL HC1.out 0 (by omega)).mono ?_;rintro e w2 ⟨rfl, b2⟩;have HC2 := Lib.hid (HC1.out.below b2);have HB2 := Lib.hid (HB1.out.trans (b2.mono HB1.out.size));clear b2;by_cases h5 : X 0 = 5
 ·have e5 : (X 0 == 5) = true := beq_iff_eq.2 h5;have e2 : (X 0 == 2) = false := beq_eq_false_iff_ne.2 (by omega);have H5 := Lib.hid h5;clear h5;go_wp2_with fail;refine (zbL HC2.out 1 (by omega)).mono ?_;rintro e w3 ⟨rfl, b3⟩;have HC3 := Lib.hid (HC2.out.below b3);have HB3 := Lib.hid (HB2.out.trans (b3.mono HB2.out.size));clear b3;by_cases h255 : X 1 ≤ 255
  ·have d255 : decide (X 1 ≤ 255) = true := decide_eq_true h255;have HE := Lib.hid (show zZ a.params i = (X 1, 2) by rw [HC.out, if_pos ⟨h2, H5.out, h255⟩]);clear h255;go_wp2_with fail;refine (zbL HC3.out 1 (by omega)).mono ?_;rintro e w4 ⟨rfl, b4⟩;have HC4 := Lib.hid (HC3.out.below b4);have HB4 := Lib.hid (HB3.out.trans (b4.mono HB3.out.size));clear b4;go_wp2_with fail;refine zct rfl rfl rfl rfl ⟨?_, HB4.out⟩;rw [HE.out];rfl
  ·have d255 : decide (X 1 ≤ 255) = false := decide_eq_false h255;have HE := Lib.hid (show zZ a.params i = (0, 0) by rw [HC.out, if_neg (fun e => h255 e.2.2), if_neg (fun e => by have := H5.out; omega)]);clear h255;by_cases h4 : i + 4 ≤ n
   ·have d4 : decide (4 ≤ (n : Int) - (i : Int)) = true := decide_eq_true (by omega);go_wp2_with fail;refine (zbL HC3.out 0 (by omega)).mono ?_;rintro e w4 ⟨rfl, b4⟩;have HC4 := Lib.hid (HC3.out.below b4);have HB4 := Lib.hid (HB3.out.trans (b4.mono HB3.out.size));clear b4;go_wp2_with fail;refine zct rfl rfl rfl rfl ⟨?_, HB4.out⟩;rw [HE.out];rfl
   ·have d4 : decide (4 ≤ (n : Int) - (i : Int)) = false := decide_eq_false (by omega);go_wp2_with fail;refine zct rfl rfl rfl rfl ⟨?_, HB3.out⟩;rw [HE.out];rfl
 ·have e5 : (X 0 == 5) = false := beq_eq_false_iff_ne.2 h5;have H5 := Lib.hid h5;clear h5;by_cases h4 : i + 4 ≤ n;rotate_left
  ·have d4 : decide (4 ≤ (n : Int) - (i : Int)) = false := decide_eq_false (by omega);have HE := Lib.hid (show zZ a.params i = (0, 0) by rw [HC.out, if_neg (fun e => H5.out e.2.1), if_neg (fun e => h4 e.1)]);go_wp2_with fail;refine zct rfl rfl rfl rfl ⟨?_, HB2.out⟩;rw [HE.out];rfl
  have d4 : decide (4 ≤ (n : Int) - (i : Int)) = true := decide_eq_true (by omega);go_wp2_with fail;refine (zbL HC2.out 0 (by omega)).mono ?_;rintro e w3 ⟨rfl, b3⟩;have HC3 := Lib.hid (HC2.out.below b3);have HB3 := Lib.hid (HB2.out.trans (b3.mono HB2.out.size));clear b3;by_cases hx2 : X 0 = 2;rotate_left
  ·have e2 : (X 0 == 2) = false := beq_eq_false_iff_ne.2 hx2;have HE := Lib.hid (show zZ a.params i = (0, 0) by rw [HC.out, if_neg (fun e => H5.out e.2.1), if_neg (fun e => hx2 e.2.1)]);clear hx2;go_wp2_with fail;refine zct rfl rfl rfl rfl ⟨?_, HB3.out⟩;rw [HE.out];rfl
  have e2 : (X 0 == 2) = true := beq_iff_eq.2 hx2;have H2 := Lib.hid hx2;clear hx2;go_wp2_with fail;refine (zbL HC3.out 1 (by omega)).mono ?_;rintro e w4 ⟨rfl, b4⟩;have HC4 := Lib.hid (HC3.out.below b4);have HB4 := Lib.hid (HB3.out.trans (b4.mono HB3.out.size));clear b4;go_wp2_with fail;refine (zbL HC4.out 2 (by omega)).mono ?_;rintro e w5 ⟨rfl, b5⟩;have HC5 := Lib.hid (HC4.out.below b5);have HB5 := Lib.hid (HB4.out.trans (b5.mono HB4.out.size));clear b5;go_wp2_with fail;refine (zbL HC5.out 3 (by omega)).mono ?_;rintro e w6 ⟨rfl, b6⟩;have HC6 := Lib.hid (HC5.out.below b6);have HB6 := Lib.hid (HB5.out.trans (b6.mono HB5.out.size));clear b6;obtain ⟨M, hM⟩ : ∃ M, M = max (max (X 1) (X 2)) (X 3) := ⟨_, rfl⟩;have hmx : (if (if X 1 < X 2 then X 2 else X 1) < X 3 then X 3 else if X 1 < X 2 then X 2 else X 1) = M := (by rw [hM]; repeat' split <;> omega);rw [← hM] at HC;have HM := Lib.hid hM;clear hM;by_cases hm : M ≤ 255;rotate_left
  ·have dm : decide (M ≤ 255) = false := decide_eq_false hm;have HE := Lib.hid (show zZ a.params i = (0, 0) by rw [HC.out, if_neg (fun e => H5.out e.2.1), if_neg (fun e => hm e.2.2)]);clear hm;go_wp2_with fail;refine zct rfl rfl rfl rfl ⟨?_, HB6.out⟩;rw [HE.out];rfl
  have dm : decide (M ≤ 255) = true := decide_eq_true hm;have HE := Lib.hid (show zZ a.params i = (16777216 + X 1 * 65536 + X 2 * 256 + X 3, 4) by rw [HC.out, if_neg (fun e => H5.out e.2.1), if_pos ⟨h4, H2.out, hm⟩]);have HBB := Lib.hid (show (0 ≤ X 1 ∧ X 1 ≤ 255) ∧ (0 ≤ X 2 ∧ X 2 ≤ 255) ∧ (0 ≤ X 3 ∧ X 3 ≤ 255) from ⟨⟨(HXR.out 1).1, by have := HM.out; omega⟩, ⟨(HXR.out 2).1, by have := HM.out; omega⟩, ⟨(HXR.out 3).1, by have := HM.out; omega⟩⟩);clear hm;go_wp2_with fail;refine (zbL HC6.out 1 (by omega)).mono ?_;rintro e w7 ⟨rfl, b7⟩;have HC7 := Lib.hid (HC6.out.below b7);have HB7 := Lib.hid (HB6.out.trans (b7.mono HB6.out.size));clear b7;go_wp2_with fail;refine (zbL HC7.out 2 (by omega)).mono ?_;rintro e w8 ⟨rfl, b8⟩;have HC8 := Lib.hid (HC7.out.below b8);have HB8 := Lib.hid (HB7.out.trans (b8.mono HB7.out.size));clear b8;go_wp2_with fail;refine (zbL HC8.out 3 (by omega)).mono ?_;rintro e w9 ⟨rfl, b9⟩;have HC9 := Lib.hid (HC8.out.below b9);have HB9 := Lib.hid (HB8.out.trans (b9.mono HB8.out.size));clear b9;obtain ⟨⟨l1, u1⟩, ⟨l2, u2⟩, ⟨l3, u3⟩⟩ := HBB.out;have s1 : IntKind.i64.wrap (X 1 * 65536) = X 1 * 65536 := zb _ (by omega) (by omega);have s2 : IntKind.i64.wrap (16777216 + X 1 * 65536) = 16777216 + X 1 * 65536 := zb _ (by omega) (by omega);have s3 : IntKind.i64.wrap (X 2 * 256) = X 2 * 256 := zb _ (by omega) (by omega);have s4 : IntKind.i64.wrap (16777216 + X 1 * 65536 + X 2 * 256) = 16777216 + X 1 * 65536 + X 2 * 256 := zb _ (by omega) (by omega);have s5 : IntKind.i64.wrap (16777216 + X 1 * 65536 + X 2 * 256 + X 3) = 16777216 + X 1 * 65536 + X 2 * 256 + X 3 := zb _ (by omega) (by omega);clear l1 u1 l2 u2 l3 u3;go_wp2_with fail;refine zct rfl rfl rfl rfl ⟨?_, HB9.out⟩;rw [HE.out];show Ending.returned (.tuple #[.int .i64 (wrap64 (wrap64 (wrap64 (16777216 + wrap64 (X 1 * 65536)) + wrap64 (X 2 * 256)) + X 3)), .int .i64 4]) = _;rw [← zh6, ← zh6, ← zh6, ← zh6, ← zh6, s1, s2, s3, s4, s5];rfl
theorem zk0 {ps : List Int} {f i : Nat} {p : Sty} (hi : i < ps.length) : ZC ps (f + 1) i p =
  (if par ps i 0 = 38 ∨ par ps i 0 = 48 then
    if (zZ ps (i + 1)).2 = 0 then p
    else ZC ps f (i + 1 + (zZ ps (i + 1)).2) (if par ps i 0 = 38 then { p with fg := (zZ ps (i + 1)).1 } else { p with bg := (zZ ps (i + 1)).1 })
   else ZC ps f (i + 1) (Zz p (par ps i 0))) := by
 conv => lhs; unfold ZC
 rw [if_pos hi]
theorem zjf {ps : List Int} {f i : Nat} {p : Sty} (hi : ps.length ≤ i) : ZC ps f i p = p := by
 cases f with
 | zero => rfl
 | succ f => unfold ZC; rw [if_neg (by omega)]
theorem zh7 (ps : List Int) (i : Nat) : ((zZ ps i).2 = 0 ∨ i + (zZ ps i).2 ≤ ps.length) ∧ (zZ ps i).2 ≤ 4 := by
 unfold zZ;split
 ·rename_i h; exact ⟨.inr h.1, (by decide : 2 ≤ 4)⟩
 ·split
  ·rename_i h; exact ⟨.inr h.1, (by decide : 4 ≤ 4)⟩
  ·exact ⟨.inl rfl, by decide⟩
structure zaJ (C : Nat → Nat) (w : World) (v : Value) (l : List Int) : Prop where
 rd : zff .i64 w v l
 own : 0 < l.length → ∀ a n c, v = .slice (some a) n c → C a.block = 0
theorem zgF {w w' : World} {a : Addr} (h : w'.heap[a.block]? = w.heap[a.block]?) : w'.cell? a = w.cell? a := by
 unfold World.cell?;rw [h]
theorem zaJ.next {C C' : Nat → Nat} {w w' : World} {v : Value} {l : List Int} (h : zaJ C w v l) (g : Pre C w C' w') : zaJ C' w' v l := by
 obtain ⟨hr, ho⟩ := h;rcases hr with ⟨rfl, rfl⟩ | ⟨a, c, rfl, h1, h2, h3⟩
 ·exact ⟨.inl ⟨rfl, rfl⟩, fun h0 => by simp at h0⟩
 ·have key : 0 < l.length → C a.block = 0 ∧ a.block < w.heap.size := fun h0 => ⟨ho h0 a _ _ rfl, by have := zho (h3 0 h0); rwa [zcR] at this⟩;refine ⟨.inr ⟨a, c, rfl, h1, h2, fun j hj => ?_⟩, fun h0 a' n' c' e => ?_⟩
  ·obtain ⟨k1, k2⟩ := key (by omega);refine (zgF ?_).trans (h3 j hj);rw [zcR];exact g.wi.block _ k2 (fun e => by
    rcases e with e | e
    ·exact e k1
    ·omega)
  ·injection e with e;injection e with e;subst e;obtain ⟨k1, k2⟩ := key h0;by_cases hc : C' a.block = 0
   ·exact hc
   ·rcases g.n _ hc with e | e
    ·exact absurd k1 e
    ·omega
theorem zaJ.below {C : Nat → Nat} {w w' : World} {v : Value} {l : List Int} (h : zaJ C w v l) (b : Below w.heap.size w w') : zaJ C w' v l := h.next ((Pre.refl C w).below b)
end
section
open Go.RowKit
set_option maxRecDepth 100000
structure zaK (a : VAct) (v : Value) (A : Nat) (C : Nat → Nat) (w : World) : Prop where
 blk : w.heap[A]? = some (.cells (a.cells v).toArray 75 (0, 0))
 free : C A = 0
 ap : zaJ C w v a.params
theorem zaK.next {a : VAct} {v : Value} {A : Nat} {C C' : Nat → Nat} {w w' : World} (h : zaK a v A C w) (g : Pre C w C' w') : zaK a v A C' w' := by
 have hl := zj h.blk;refine ⟨(g.wi.block A hl (fun e => ?_)).trans h.blk, ?_, h.ap.next g⟩
 ·rcases e with e | e
  ·exact e h.free
  ·omega
 ·by_cases hc : C' A = 0
  ·exact hc
  ·rcases g.n _ hc with e | e
   ·exact absurd h.free e
   ·omega
theorem zaK.below {a : VAct} {v : Value} {A : Nat} {C : Nat → Nat} {w w' : World} (h : zaK a v A C w) (b : Below w.heap.size w w') : zaK a v A C w' := h.next ((Pre.refl C w).below b)
theorem SR.free {B : World} {C : Nat → Nat} {p : Nat} {w : World} {s : Scr} {ps : PSt} (h : SR B C p w s ps) {k : Nat} (hk : w.heap.size ≤ k) : C k = 0 := by
 obtain ⟨Tm, To, Tp, pm, po, pp, vt, vo, hs⟩ := h.sm;by_cases e : C k = 0
 ·exact e
 ·have := hs.lt k e; omega
theorem zaW {B : World} {C : Nat → Nat} {p : Nat} {w : World} {s : Scr} {ps : PSt} {a : VAct} {v : Value} (h : SR B C p w s ps) (hv : zaJ C w v a.params) : zaK a v w.heap.size C (w.alloc (.cells (a.cells v).toArray 75)) :=
 ⟨zE w _, h.free (Nat.le_refl _), hv.below ((Below.refl w.heap.size w).alloc (Nat.le_refl _) _)⟩
set_option maxHeartbeats 1000000 in
theorem zjg {B : World} {C : Nat → Nat} {p : Nat} {w : World} {s : Scr} {ps : PSt} (h : SR B C p w s ps) (a : VAct) (v : Value) (hv : zaJ C w v a.params) :
  Calls Tryz.prog 235 #[.pointer (some ⟨p, 0, none⟩), a.val v] w fun e w' => e = .returned (.tuple #[]) ∧ zq B C p w w' (s.looks a.params) ps := by
 have hbx := zaW h hv;have hbb := (Below.refl w.heap.size w).alloc (Nat.le_refl _) (.cells (a.cells v).toArray 75);unfold VAct.cells at hbb;have HR := Lib.hid (h.below hbb);have HP := Lib.hid ((Pre.refl C w).below hbb);have HBX := Lib.hid hbx;have hlen := zb9 Tryz.underlying63 hv.rd;have hsm := Lib.hid (zbF hv.rd);have HLK := Lib.hid (show s.looks a.params = s.ink (ZC a.params a.params.length 0 (if a.params = [] then plainS else s.now.pen)) from rfl);clear hbx hbb hv h;unfold VAct.val;obtain ⟨A, hA⟩ : ∃ A, A = w.heap.size := ⟨_, rfl⟩;rw [← hA] at HBX;have c3 : (w.alloc (.cells #[.int .i64 a.kind, .int .i32 a.rune, .int .u8 (a.byte.toNat : Int), v, .string a.inter, .string a.text] 75)).cell? ⟨w.heap.size, 3, none⟩ = some v := (by rw [← hA]; exact za HBX.out.blk 3);obtain ⟨L, hL⟩ : ∃ L, L = a.params.length := ⟨_, rfl⟩;rw [← hL] at hlen hsm HLK;have HL := Lib.hid hL;clear hL;go_enter Tryz.func235, Tryz.ntmps235;go_upto_if 11 with fail;have HBXB := Lib.hid (show zaK a v A C (w.alloc (.cells #[.int .i64 a.kind, .int .i32 a.rune, .int .u8 (a.byte.toNat : Int), v, .string a.inter, .string a.text] 75)) from HBX.out);clear HBX;rw [← hA];clear hA c3;generalize (w.alloc (.cells #[.int .i64 a.kind, .int .i32 a.rune, .int .u8 (a.byte.toNat : Int), v, .string a.inter, .string a.text] 75)) = w1 at *
 go_cut [] (fun wz => ∃ (C1 : Nat → Nat) (t : Sty), Hid (SR B C1 p wz (s.ink t) ps) ∧ Hid (zaK a v A C1 wz) ∧ Hid (Pre C w C1 wz) ∧ Hid (t = if a.params = [] then plainS else s.now.pen))
 case first =>
  by_cases h0 : L = 0
  ·have e0 : ((L : Int) == 0) = true := beq_iff_eq.2 (by omega);have HE := Lib.hid (show plainS = if a.params = [] then plainS else s.now.pen by rw [if_pos (List.eq_nil_of_length_eq_zero (by rw [← HL.out]; exact h0))]);clear h0;go_wp2_with fail;refine (zaZ w1).mono ?_;rintro e w2 ⟨rfl, b2⟩;obtain ⟨hst, h1, g1⟩ := (HR.out.below b2).setPen plainS;have H1 := Lib.hid h1;have P1 := Lib.hid ((HP.out.below b2).trans g1);have HB2 := Lib.hid ((HBXB.out.below b2).next g1);clear h1 g1 b2;unfold Sty.val;go_wp2_with (refine zJ rfl _ _ _ rfl hst rfl rfl ?_);go_meet;exact ⟨C, plainS, H1, HB2, P1, HE⟩
  ·have e0 : ((L : Int) == 0) = false := beq_eq_false_iff_ne.2 (by omega);have HE := Lib.hid (show s.now.pen = if a.params = [] then plainS else s.now.pen by rw [if_neg (fun e => h0 (by rw [HL.out, e]; rfl))]);clear h0;go_wp2_with fail;go_meet;exact ⟨C, s.now.pen, HR, HBXB, HP, HE⟩
 case rest =>
 obtain ⟨C1, t0, H1, HB1, P1, HT0⟩ := hcut;obtain ⟨w2, rfl⟩ : ∃ z, z = wc := ⟨wc, rfl⟩;clear HR HP HBXB;have HLK2 := Lib.hid (show s.looks a.params = s.ink (ZC a.params L 0 t0) by rw [HLK.out, HT0.out]);clear HLK HT0;go_wp2_with fail
 go_loopw [4] (fun iv wr => ∃ (i f : Nat) (C2 : Nat → Nat) (t : Sty), iv = .int .i64 i ∧ i ≤ L ∧ Hid (L ≤ i + f) ∧ Hid (SR B C2 p wr (s.ink t) ps) ∧ Hid (zaK a v A C2 wr) ∧ Hid (Pre C w C2 wr) ∧ Hid (ZC a.params f i t = ZC a.params L 0 t0)) (fun iv _ => L - (intOf iv).toNat)
 case atStart => exact ⟨0, L, C1, t0, rfl, Nat.zero_le _, Lib.hid (by omega), H1, HB1, P1, Lib.hid rfl⟩
 case round =>
  obtain ⟨i, f, C2, t, rfl, hi, HF, H2, HB2, P2, HQ⟩ := hrel;have a0 : wr.cell? ⟨A, 0, none⟩ = some (.int .i64 a.kind) := za HB2.out.blk 0;have a1 : wr.cell? ⟨A, 1, none⟩ = some (.int .i32 a.rune) := za HB2.out.blk 1;have a2 : wr.cell? ⟨A, 2, none⟩ = some (.int .u8 (a.byte.toNat : Int)) := za HB2.out.blk 2;have a3 : wr.cell? ⟨A, 3, none⟩ = some v := za HB2.out.blk 3;have a4 : wr.cell? ⟨A, 4, none⟩ = some (.string a.inter) := za HB2.out.blk 4;have a5 : wr.cell? ⟨A, 5, none⟩ = some (.string a.text) := za HB2.out.blk 5;by_cases hlt : i < L;rotate_left
  ·have HD := Lib.hid (show zq B C p w wr (s.looks a.params) ps by
    rw [HLK2.out, ← HQ.out, zjf (by rw [← HL.out]; omega)];exact ⟨C2, H2.out, P2.out⟩)
   have d1 : decide ((i : Int) < (L : Int)) = false := decide_eq_false (by omega);have d1' : decide (i < L) = false := decide_eq_false hlt;go_wp2_with fail;go_end0;exact ⟨rfl, HD.out⟩
  have d1 : decide ((i : Int) < (L : Int)) = true := decide_eq_true (by omega);have d1' : decide (i < L) = true := decide_eq_true hlt;obtain ⟨f', rfl⟩ : ∃ f', f = f' + 1 := ⟨f - 1, by have := HF.out; omega⟩;have HQ2 := Lib.hid ((zk0 (f := f') (p := t) (show i < a.params.length by rw [← HL.out]; exact hlt)).symm.trans HQ.out);have HP0 := Lib.hid (Zw a v wr HB2.out.ap.rd i 0);have HRG := Lib.hid (ZH a.params i 0 (by decide) (by decide));unfold VAct.val at HP0;clear HQ;have hii : (i : Int) + 1 ≤ 9223372036854775807 := (by have := hsm.out; omega);have hw1 : IntKind.i64.wrap ((i : Int) + 1) = (i : Int) + 1 := zb _ (by omega) (by omega);clear hii;go_wp2_with fail;refine HP0.out.mono ?_;rintro e w3 ⟨rfl, b3⟩;have H3 := Lib.hid (H2.out.below b3);have HB3 := Lib.hid (HB2.out.below b3);have P3 := Lib.hid (P2.out.below b3);clear b3 a0 a1 a2 a3 a4 a5 H2 HB2 P2 HP0;obtain ⟨n, hn⟩ : ∃ n, n = par a.params i 0 := ⟨_, rfl⟩;rw [← hn] at HQ2 HRG ⊢;have HN := Lib.hid hn;clear hn;by_cases hc : n = 38 ∨ n = 48;rotate_left
  ·have e38 : (n == 38) = false := beq_eq_false_iff_ne.2 (by omega);have e48 : (n == 48) = false := beq_eq_false_iff_ne.2 (by omega);have HQ3 := Lib.hid (HQ2.out.symm.trans (if_neg hc)).symm;clear hc HQ2;go_wp2_with fail;refine (zkL H3.out n HRG.out.1 HRG.out.2).mono ?_;rintro e w4 ⟨rfl, C4, h4, p4⟩;have H4 := Lib.hid (show SR B C4 p w4 (s.ink (Zz t n)) ps from h4);have HB4 := Lib.hid (HB3.out.next p4);have P4 := Lib.hid (P3.out.trans p4);clear h4 p4;go_wp2_with fail;go_roundw
   case rel => exact ⟨i + 1, f', C4, Zz t n, by go_num, by omega, Lib.hid (by have := HF.out; omega), H4, HB4, P4, HQ3⟩
   case measure => simp [intOf]; omega
  have HQ3 := Lib.hid ((if_pos hc).symm.trans HQ2.out);clear HQ2;have a0 : w3.cell? ⟨A, 0, none⟩ = some (.int .i64 a.kind) := za HB3.out.blk 0;have a1 : w3.cell? ⟨A, 1, none⟩ = some (.int .i32 a.rune) := za HB3.out.blk 1;have a2 : w3.cell? ⟨A, 2, none⟩ = some (.int .u8 (a.byte.toNat : Int)) := za HB3.out.blk 2;have a3 : w3.cell? ⟨A, 3, none⟩ = some v := za HB3.out.blk 3;have a4 : w3.cell? ⟨A, 4, none⟩ = some (.string a.inter) := za HB3.out.blk 4;have a5 : w3.cell? ⟨A, 5, none⟩ = some (.string a.text) := za HB3.out.blk 5;have HCO := Lib.hid (zje a v w3 HB3.out.ap.rd (i + 1) (by rw [← HL.out]; omega));unfold VAct.val at HCO;have HTW := Lib.hid (zh7 a.params (i + 1));rw [← HL.out] at HTW;obtain ⟨cc, ct, hcc⟩ : ∃ cc ct, zZ a.params (i + 1) = (cc, ct) := ⟨_, _, rfl⟩;rw [hcc] at HCO HTW HQ3;clear hcc;dsimp only at HCO HTW HQ3;have hcast : (((i + 1 : Nat)) : Int) = (i : Int) + 1 := (by omega);rw [hcast] at HCO;clear hcast;have tailp : True := trivial;have key38 : (n == 38) = true ∨ ((n == 38) = false ∧ (n == 48) = true) := by
   rcases hc with h | h
   ·exact .inl (beq_iff_eq.2 h)
   ·exact .inr ⟨beq_eq_false_iff_ne.2 (by omega), beq_iff_eq.2 h⟩
  clear hc;by_cases hz : ct = 0
  ·have e0 : ((ct : Int) == 0) = true := beq_iff_eq.2 (by omega);have HD := Lib.hid (show SR B C2 p w3 (s.ink t) ps ∧ s.looks a.params = s.ink t from ⟨H3.out, by rw [HLK2.out, ← HQ3.out, if_pos hz]⟩);clear hz;rcases key38 with e38 | ⟨e38, e48⟩
   all_goals
    go_wp2_with fail;refine HCO.out.mono ?_;rintro e w4 ⟨rfl, b4⟩;have HD4 := Lib.hid (show zq B C p w w4 (s.looks a.params) ps by rw [HD.out.2]; exact ⟨C2, HD.out.1.below b4, P3.out.below b4⟩);clear b4;go_wp2_with fail;refine ZE rfl rfl ?_;exact ⟨rfl, HD4.out⟩
  have e0 : ((ct : Int) == 0) = false := beq_eq_false_iff_ne.2 (by omega);have HT2 := Lib.hid (show i + 1 + ct ≤ L ∧ 1 ≤ ct ∧ ct ≤ 4 from ⟨by have := HTW.out; omega, by omega, HTW.out.2⟩);have HQ4 := Lib.hid ((if_neg hz).symm.trans HQ3.out);clear hz HQ3 HTW;have hsm2 := hsm.out;have ht2 := HT2.out;have hw2 : IntKind.i64.wrap ((i : Int) + ct) = (i : Int) + ct := zb _ (by omega) (by omega);have hw3 : IntKind.i64.wrap ((i : Int) + ct + 1) = (i : Int) + ct + 1 := zb _ (by omega) (by omega);clear hsm2 ht2;rcases key38 with e38 | ⟨e38, e48⟩
  ·have HQ5 := Lib.hid (show ZC a.params f' (i + 1 + ct) { t with fg := cc } = ZC a.params L 0 t0 by
    have := HQ4.out;rw [if_pos (beq_iff_eq.1 e38)] at this;exact this)
   clear HQ4;go_wp2_with fail;refine HCO.out.mono ?_;rintro e w4 ⟨rfl, b4⟩;have h4 := H3.out.below b4;have c3 := h4.at_ 3 (.int .i64 t.fg);have f3 := h4.fz 3;obtain ⟨h5, g5⟩ := h4.set 3 (.int .i64 cc) (s.ink { t with fg := cc });have H5 := Lib.hid h5;have P5 := Lib.hid ((P3.out.below b4).trans g5);have HB5 := Lib.hid ((HB3.out.below b4).next g5);clear b4 h4 h5 g5 HCO;go_wp2_with fail;go_roundw
   case rel => exact ⟨i + 1 + ct, f', C2, { t with fg := cc }, by go_num, by have := HT2.out; omega, Lib.hid (by have := HF.out; have := HT2.out; omega), H5, HB5, P5, HQ5⟩
   case measure => have := HT2.out; simp [intOf]; omega
  ·have HQ5 := Lib.hid (show ZC a.params f' (i + 1 + ct) { t with bg := cc } = ZC a.params L 0 t0 by
    have := HQ4.out;rw [if_neg (beq_eq_false_iff_ne.1 e38)] at this;exact this)
   clear HQ4;go_wp2_with fail;refine HCO.out.mono ?_;rintro e w4 ⟨rfl, b4⟩;have h4 := H3.out.below b4;have c4 := h4.at_ 4 (.int .i64 t.bg);have f4 := h4.fz 4;obtain ⟨h5, g5⟩ := h4.set 4 (.int .i64 cc) (s.ink { t with bg := cc });have H5 := Lib.hid h5;have P5 := Lib.hid ((P3.out.below b4).trans g5);have HB5 := Lib.hid ((HB3.out.below b4).next g5);clear b4 h4 h5 g5 HCO;go_wp2_with fail;go_roundw
   case rel => exact ⟨i + 1 + ct, f', C2, { t with bg := cc }, by go_num, by have := HT2.out; omega, Lib.hid (by have := HF.out; have := HT2.out; omega), H5, HB5, P5, HQ5⟩
   case measure => have := HT2.out; simp [intOf]; omega
end
section
open Go.RowKit
set_option maxRecDepth 100000
theorem zmF (n : Nat) (h : n < 33554432) : zee (n : Int) 255 = (n : Int) % 256 := by
 have e : n &&& 255 = n % 256 := Nat.and_two_pow_sub_one_eq_mod n 8;unfold zee;rw [show (255 : Int) = ((255 : Nat) : Int) from rfl, BitVec.ofInt_natCast, BitVec.ofInt_natCast, BitVec.toNat_and, BitVec.toNat_ofNat, BitVec.toNat_ofNat, Nat.mod_eq_of_lt (by omega), Nat.mod_eq_of_lt (by omega), e];rw [zb _ (by omega) (by omega)];omega
theorem zfK (x : Int) (h0 : 0 ≤ x) (h1 : x < 33554432) : bits BinOp.and IntKind.i64 x 255 = x % 256 := by
 obtain ⟨n, rfl⟩ := Int.eq_ofNat_of_zero_le h0;exact zmF n (by omega)
set_option maxHeartbeats 2000000 in
theorem ze5 (c d : Int) (w : World) (hc : -1 ≤ c ∧ c < 33554432) (hd : d = 0 ∨ d = 10) :
  Calls Tryz.prog 62 #[.int .i64 c, .int .i64 d] w fun e w' => ∃ v, e = .returned v ∧ Below w.heap.size w w' ∧ zaw w' 1 v (ZL c d).length ((ZL c d).map (Value.int .i64)) := by
 have hd2 : 0 ≤ d ∧ d ≤ 10 := (by omega);clear hd;by_cases h0 : c < 0
 ·have hx : ZL c d = [39 + d] := (by unfold ZL; rw [if_pos h0]);have HX := Lib.hid hx;have d1 : decide (c < 0) = true := decide_eq_true h0;have hw : IntKind.i64.wrap (39 + d) = 39 + d := zb _ (by omega) (by omega);clear hx h0 hc hd2;go_enter Tryz.func62, Tryz.ntmps62;go_wp2_with fail;refine zT rfl rfl rfl ⟨_, rfl, ?_⟩;rw [HX.out];exact ⟨(Below.refl _ _).alloc (Nat.le_refl _) _, zV _ _ _⟩
 by_cases h8 : c < 8
 ·have hx : ZL c d = [30 + d + c] := (by unfold ZL; rw [if_neg h0, if_pos h8]);have HX := Lib.hid hx;have d0 : decide (c < 0) = false := decide_eq_false h0;have d8 : decide (c < 8) = true := decide_eq_true h8;have hw : IntKind.i64.wrap (30 + d) = 30 + d := zb _ (by omega) (by omega);have hw2 : IntKind.i64.wrap (30 + d + c) = 30 + d + c := zb _ (by omega) (by omega);clear hx h0 h8 hc hd2;go_enter Tryz.func62, Tryz.ntmps62;go_wp2_with fail;refine zT rfl rfl rfl ⟨_, rfl, ?_⟩;rw [HX.out];exact ⟨(Below.refl _ _).alloc (Nat.le_refl _) _, zV _ _ _⟩
 by_cases h16 : c < 16
 ·have hx : ZL c d = [82 + d + c] := (by unfold ZL; rw [if_neg h0, if_neg h8, if_pos h16]);have HX := Lib.hid hx;have d0 : decide (c < 0) = false := decide_eq_false h0;have d8 : decide (c < 8) = false := decide_eq_false h8;have d16 : decide (c < 16) = true := decide_eq_true h16;have hw : IntKind.i64.wrap (82 + d) = 82 + d := zb _ (by omega) (by omega);have hw2 : IntKind.i64.wrap (82 + d + c) = 82 + d + c := zb _ (by omega) (by omega);clear hx h0 h8 h16 hc hd2;go_enter Tryz.func62, Tryz.ntmps62;go_wp2_with fail;refine zT rfl rfl rfl ⟨_, rfl, ?_⟩;rw [HX.out];exact ⟨(Below.refl _ _).alloc (Nat.le_refl _) _, zV _ _ _⟩
 by_cases h256 : c < 256
 ·have hx : ZL c d = [38 + d, 5, c] := (by unfold ZL; rw [if_neg h0, if_neg h8, if_neg h16, if_pos h256]);have HX := Lib.hid hx;have d0 : decide (c < 0) = false := decide_eq_false h0;have d8 : decide (c < 8) = false := decide_eq_false h8;have d16 : decide (c < 16) = false := decide_eq_false h16;have d256 : decide (c < 256) = true := decide_eq_true h256;have hw : IntKind.i64.wrap (38 + d) = 38 + d := zb _ (by omega) (by omega);clear hx h0 h8 h16 h256 hc hd2;go_enter Tryz.func62, Tryz.ntmps62;go_wp2_with fail;refine zT rfl rfl rfl ⟨_, rfl, ?_⟩;rw [HX.out];exact ⟨(Below.refl _ _).alloc (Nat.le_refl _) _, zU (zac (ZV (base := 0) _ _ rfl (by omega) (by decide) rfl rfl))⟩
 have d0 : decide (c < 0) = false := decide_eq_false h0;have d8 : decide (c < 8) = false := decide_eq_false h8;have d16 : decide (c < 16) = false := decide_eq_false h16;have d256 : decide (c < 256) = false := decide_eq_false h256;have hw : IntKind.i64.wrap (38 + d) = 38 + d := zb _ (by omega) (by omega);have HX := Lib.hid (show ZL c d = [38 + d, 2, c / 65536 % 256, c / 256 % 256, c % 256] by unfold ZL; rw [if_neg h0, if_neg h8, if_neg h16, if_neg h256]);go_enter Tryz.func62, Tryz.ntmps62;go_wp2_with fail;refine zT rfl rfl rfl ⟨_, rfl, ?_⟩;rw [HX.out, zfK _ (by omega) (by omega), zfK _ (by omega) (by omega), zfK _ (by omega) (by omega)];exact ⟨(Below.refl _ _).alloc (Nat.le_refl _) _, zU (zac (ZV (base := 0) _ _ rfl (by omega) (by decide) rfl rfl))⟩
end
section
open Go.RowKit
def zcn (f t : Sty) : List UInt8 := if f.fg = t.fg ∧ f.bg = t.bg ∧ f.attr = t.attr then [] else [27, 91] ++ Ze false (zdO f t) ++ [109]
def Scr.asked (s : Scr) (b : UInt8) (inter text : List UInt8) : Scr :=
 if (b.toNat : Int) = 113 ∧ inter = [36] then
  if text = [109] then s.say ([27, 80, 49, 36, 114] ++ (if zcn plainS s.now.pen = [] then [27, 91, 48, 109] else zcn plainS s.now.pen).drop 2 ++ [27, 92])
  else if text = [114] then s.say ([27, 80, 49, 36, 114] ++ Lib.itoa (s.top + 1) ++ [59] ++ Lib.itoa (s.bottom + 1) ++ [114, 27, 92])
  else s.say [27, 80, 48, 36, 114, 27, 92]
 else s
def Scr.act (s0 : Scr) (a : VAct) : Scr :=
 let s : Scr := { s0 with out := [] }
 if a.kind = 1 then s.print a.rune
 else if a.kind = 2 then s.control a.byte
 else if a.kind = 3 then s.escape a.byte a.inter.data.toList
 else if a.kind = 4 then s.csi a.byte a.params a.inter.data.toList
 else if a.kind = 5 then s.named a.text.data.toList
 else if a.kind = 6 then s.asked a.byte a.inter.data.toList a.text.data.toList else s
def VAct.ris (a : VAct) : Bool := a.kind == 3 && (a.byte == 99 && a.inter.data.toList == [])
structure Trm where
 scr : Scr
 par : PSt
def Trm.act (t : Trm) (a : VAct) : Trm := ⟨t.scr.act a, if a.ris then s0 else t.par⟩
def Trm.acts : Trm → List VAct → Trm × List UInt8
 | t, [] => (t, [])
 | t, a :: l => (((t.act a).acts l).1, (t.act a).scr.out ++ ((t.act a).acts l).2)
def Trm.byte (t : Trm) (b : UInt8) : Trm × List UInt8 := (⟨t.scr, (t.par.step b).1⟩ : Trm).acts (t.par.step b).2
def Trm.feed : Trm → List UInt8 → Trm × List UInt8
 | t, [] => (t, [])
 | t, b :: l => (((t.byte b).1.feed l).1, (t.byte b).2 ++ ((t.byte b).1.feed l).2)
theorem zbm : ∀ (l m : List UInt8) (t : Trm), t.feed (l ++ m) = (((t.feed l).1.feed m).1, (t.feed l).2 ++ ((t.feed l).1.feed m).2)
 | [], m, t => by simp [Trm.feed]
 | b :: l, m, t => by
  rw [List.cons_append];simp only [Trm.feed];rw [zbm l m];simp
def Scr.acts : Scr → List VAct → Scr × List UInt8
 | s, [] => (s, [])
 | s, a :: l => (((s.act a).acts l).1, (s.act a).out ++ ((s.act a).acts l).2)
theorem zcY : ∀ (l m : List VAct) (s : Scr), s.acts (l ++ m) = (((s.acts l).1.acts m).1, (s.acts l).2 ++ ((s.acts l).1.acts m).2)
 | [], m, s => by simp [Scr.acts]
 | a :: l, m, s => by
  rw [List.cons_append];simp only [Scr.acts];rw [zcY l m];simp
theorem zj2 : ∀ (l : List VAct) (t : Trm), (∀ a ∈ l, a.ris = false) → t.acts l = (⟨(t.scr.acts l).1, t.par⟩, (t.scr.acts l).2)
 | [], _, _ => rfl
 | a :: l, t, h => by
  have e : t.act a = ⟨t.scr.act a, t.par⟩ := by
   unfold Trm.act;rw [h a (List.mem_cons_self ..)];rfl
  unfold Trm.acts Scr.acts;rw [e, zj2 l _ fun x hx => h x (List.mem_cons_of_mem _ hx)]
theorem zh8 : ∀ (l : List UInt8) (t : Trm), (∀ a ∈ (t.par.run l).2, a.ris = false) → t.feed l = (⟨(t.scr.acts (t.par.run l).2).1, (t.par.run l).1⟩, (t.scr.acts (t.par.run l).2).2)
 | [], _, _ => rfl
 | b :: l, t, h => by
  have h1 : ∀ a ∈ (t.par.step b).2, a.ris = false := fun a ha => h a (by unfold PSt.run; exact List.mem_append_left _ ha);have h2 : ∀ a ∈ ((t.par.step b).1.run l).2, a.ris = false := fun a ha => h a (by unfold PSt.run; exact List.mem_append_right _ ha);have e : t.byte b = (⟨(t.scr.acts (t.par.step b).2).1, (t.par.step b).1⟩, (t.scr.acts (t.par.step b).2).2) := zj2 _ _ h1;unfold Trm.feed PSt.run;rw [e, zh8 l _ h2, zcY]
end
end Go.Proofs.YtlfdgkiliegaiaaGreatDoor
