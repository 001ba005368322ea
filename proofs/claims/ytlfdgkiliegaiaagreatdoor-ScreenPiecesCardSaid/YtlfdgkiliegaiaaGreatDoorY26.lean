/- Texts laid together: U3 K25 U7. -/
import Derived.Test.YtlfdgkiliegaiaaGreatDoorY1
import Derived.Test.YtlfdgkiliegaiaaGreatDoorY10
import Derived.Test.YtlfdgkiliegaiaaGreatDoorY11
import Derived.Test.YtlfdgkiliegaiaaGreatDoorY12
import Derived.Test.YtlfdgkiliegaiaaGreatDoorY14
import Derived.Test.YtlfdgkiliegaiaaGreatDoorY15
import Derived.Test.YtlfdgkiliegaiaaGreatDoorY17
import Derived.Test.YtlfdgkiliegaiaaGreatDoorY2
import Derived.Test.YtlfdgkiliegaiaaGreatDoorY20
import Derived.Test.YtlfdgkiliegaiaaGreatDoorY22
import Derived.Test.YtlfdgkiliegaiaaGreatDoorY23
import Derived.Test.YtlfdgkiliegaiaaGreatDoorY3
import Derived.Test.YtlfdgkiliegaiaaGreatDoorY4
import Derived.Test.YtlfdgkiliegaiaaGreatDoorY5
import Derived.Test.YtlfdgkiliegaiaaGreatDoorY6
import Derived.Test.YtlfdgkiliegaiaaGreatDoorY8
import Derived.Test.YtlfdgkiliegaiaaGreatDoorY9
import Derived.Laws.ResultCell
import Derived.Deep.CutBlock
import Derived.Laws.EntriesVeiled
import Derived.Deep.DeepCutAuto
import Derived.Laws.StructEq
import Derived.Deep.DrawnRows
import Derived.Deep.RegionHeld3
import Derived.Test.YtlfdgkiliegaiaaGreatDoorShelf
import Derived.Lib.Builder
import Derived.Lib.FrozenHead
import Derived.Lib.RuneBytes
import Derived.Lib.UnsafeStr
import Derived.Lib.SliceRun
import Derived.WalkSpells
import Derived.StillTailTactics
import Derived.Deep.RegionLaw
import Derived.Test.YtlfdgkiliegaiaaGreatDoorRows
import Derived.Deep.AppendSrc
import Derived.Lib.AppendStr
import Derived.ArgAppend
import Derived.Laws.IdiomCopy
import Derived.Laws.IdiomStrings
import Derived.Deep.Upon
import Derived.WalkKit
import Derived.WalkLawsBesides
import Derived.BigQuiet
import Derived.Lib.Hide
import Derived.Deep.QuietTactic
import Derived.Lib.AppendIntMem
import Derived.Lib.ItoaNum
import Derived.Lib.ItoaLen
import Derived.Laws.Bits64b
import Derived.ProofKit
import Derived.OpenShut
import Derived.JoinedCond
import Derived.ChangeKeysEq
import Derived.Deep.MidRow
import Derived.Laws.Cover4
import Derived.WalkMore
import Derived.ScopeJumps
import Derived.Lib.SlBytesConst
import Derived.Lib.TrimU
set_option linter.unusedVariables false
set_option linter.unusedSimpArgs false
namespace Go.Proofs.YtlfdgkiliegaiaaGreatDoor
section
open Go.RowKit
set_option maxRecDepth 100000
attribute [local go_sem ↓] Go.wp_at_zero Go.wp_at_succ
theorem zgL (a b c e : Int) (f g h i : Bool) (d : Nat) (w : World) : (Op.equalIn (d + 2) 45 (.agg #[.int .i64 a, .int .i64 b, .bool f, .bool g]) (.agg #[.int .i64 c, .int .i64 e, .bool h, .bool i])).run Tryz.prog w = .ok (a == c && (b == e && (f == h && g == i))) w := by
 have hS : Tryz.prog.underlying 45 = some (.struct (Tryz.prog.fieldsOf 45)) := (by kernel_rfl);have hp : Tryz.prog.stoodInHeld 45 = false := (by kernel_rfl);rw [run_equalIn_agg w (d + 1) 45 _ _ hS hp];simp only [Program.fieldsOf, Tryz.underlying45]
 go_simp
 by_cases h1 : a = c <;> by_cases h2 : b = e <;> by_cases h3 : f = h <;> by_cases h4 : g = i <;> simp [h1, h2, h3, h4]
theorem znP (a b c e : Int) (f g h i : Bool) (w : World) : (binOp .eql 45 (.agg #[.int .i64 a, .int .i64 b, .bool f, .bool g]) (.agg #[.int .i64 c, .int .i64 e, .bool h, .bool i])).run Tryz.prog w = .ok (.bool (a == c && (b == e && (f == h && g == i)))) w := by
 have := zgL a b c e f g h i 9998 w;rw [run_eql_struct, show (10000 : Nat) = 9998 + 2 from rfl, this]; rfl
theorem znQ (a b c e : Int) (f g h i : Bool) (w : World) : (binOp .neq 45 (.agg #[.int .i64 a, .int .i64 b, .bool f, .bool g]) (.agg #[.int .i64 c, .int .i64 e, .bool h, .bool i])).run Tryz.prog w = .ok (.bool (!(a == c && (b == e && (f == h && g == i))))) w := by
 have := zgL a b c e f g h i 9998 w;rw [run_neq_struct, show (10000 : Nat) = 9998 + 2 from rfl, this]; rfl
theorem zgM (op : BinOp) (x y : Operand) (u v : Array Value) (w : World) : (eqGuard op 45 x y (.agg u) (.agg v)).run Tryz.prog w = .ok () w := run_eqGuard_agg w op 45 x y _ _ (by kernel_rfl)
theorem zio (a : Sty) : a.eqb a = true := (Sty.eqb_iff a a).2 rfl
theorem zdv (cols rows hist : Int) (w : World) (h1 : I64 cols) (h2 : I64 rows) (h3 : I64 hist) (ht : zcx w) :
  Calls Tryz.prog 17 #[.int .i64 cols, .int .i64 rows, .int .i64 hist] w fun e w' => ∃ p C, e = .returned (.pointer (some ⟨p, 0, none⟩)) ∧ SR w C p w' (za4 (1 + zap cols 40) (1 + zap rows 15) (zap hist 40)) s0 := by
 have l1 := zat cols 40 (by decide);have l2 := zat rows 15 (by decide);have l3 := zat hist 40 (by decide);have P1 := Lib.hid (fun w => zcd cols 40 w h1 (by decide) (by decide));have P2 := Lib.hid (fun w => zcd rows 15 w h2 (by decide) (by decide));have P3 := Lib.hid (fun w => zcd hist 40 w h3 (by decide) (by decide));have HT := Lib.hid ht;generalize zap cols 40 = a at *;generalize zap rows 15 = b at *;generalize zap hist 40 = d at *;obtain ⟨m, hm⟩ : ∃ m : Nat, m = 1 + a := ⟨_, rfl⟩;obtain ⟨n, hn⟩ : ∃ n : Nat, n = 1 + b := ⟨_, rfl⟩;have e1 : IntKind.i64.wrap (1 + (a : Int)) = (m : Int) := (by rw [zb _ (by omega) (by omega)]; omega);have e2 : IntKind.i64.wrap (1 + (b : Int)) = (n : Int) := (by rw [zb _ (by omega) (by omega)]; omega);have HNW := Lib.hid (zfW m n d w (by omega) (by omega) (by omega) (by omega) (by omega) HT.out);rw [← hm, ← hn];clear hm hn h1 h2 h3 ht l1 l2 l3;go_enter Tryz.func17, Tryz.ntmps17;go_wp2_with fail;refine (P1.out _).mono ?_;rintro e w2 ⟨rfl, hw⟩;subst hw;go_wp2_with fail;refine (P2.out _).mono ?_;rintro e w3 ⟨rfl, hw⟩;subst hw;go_wp2_with fail;refine (P3.out _).mono ?_;rintro e w4 ⟨rfl, hw⟩;subst hw;go_wp2_with fail;refine HNW.out.mono ?_;rintro e w5 ⟨p, C, rfl, h5⟩;have H5 := Lib.hid h5;clear h5;go_wp2_with fail;go_ret;exact ⟨p, C, rfl, H5.out⟩
end
section
open Go.RowKit
set_option maxRecDepth 100000
set_option maxHeartbeats 4000000 in
theorem zlh {B : World} {C : Nat → Nat} {p c r : Nat} {w : World} {s : Scr} {ps : PSt} (h : SR B C p w s ps) (hok : s.Ok c r) (a : VAct) (v : Value) (hv : zaJ C w v a.params) (ho : s.out.length ≤ 100000) (hi : a.inter = ⟨#[33]⟩) (hlast : -2147483648 ≤ s.last ∧ s.last ≤ 2147483647) :
  Calls Tryz.prog 111 #[.pointer (some ⟨p, 0, none⟩), a.val v] w fun e w' => e = .returned (.tuple #[]) ∧ zq B C p w w' (s.csi a.byte a.params [33]) ps := by
 have hbx := zaW h hv;have hbb := (Below.refl w.heap.size w).alloc (Nat.le_refl _) (.cells (a.cells v).toArray 75);unfold VAct.cells at hbb;have HR := Lib.hid (h.below hbb);have HP := Lib.hid ((Pre.refl C w).below hbb);have HBX := Lib.hid hbx;have HOK := Lib.hid hok;have HOL := Lib.hid (show s.out.length ≤ 1000000 by omega);have HOS := Lib.hid ho;have HLA := Lib.hid hlast;clear hbx hbb hv h hok ho hlast;unfold VAct.val;obtain ⟨A, hA⟩ : ∃ A, A = w.heap.size := ⟨_, rfl⟩;rw [← hA] at HBX;have HB := Lib.hid (show zaK a v A C (w.alloc (.cells #[.int .i64 a.kind, .int .i32 a.rune, .int .u8 (a.byte.toNat : Int), v, .string a.inter, .string a.text] 75)) from HBX.out);clear HBX;have a0 : (w.alloc (.cells #[.int .i64 a.kind, .int .i32 a.rune, .int .u8 (a.byte.toNat : Int), v, .string a.inter, .string a.text] 75)).cell? ⟨A, 0, none⟩ = some (.int .i64 a.kind) := za HB.out.blk 0;have a1 : (w.alloc (.cells #[.int .i64 a.kind, .int .i32 a.rune, .int .u8 (a.byte.toNat : Int), v, .string a.inter, .string a.text] 75)).cell? ⟨A, 1, none⟩ = some (.int .i32 a.rune) := za HB.out.blk 1;have a2 : (w.alloc (.cells #[.int .i64 a.kind, .int .i32 a.rune, .int .u8 (a.byte.toNat : Int), v, .string a.inter, .string a.text] 75)).cell? ⟨A, 2, none⟩ = some (.int .u8 (a.byte.toNat : Int)) := za HB.out.blk 2;have a3 : (w.alloc (.cells #[.int .i64 a.kind, .int .i32 a.rune, .int .u8 (a.byte.toNat : Int), v, .string a.inter, .string a.text] 75)).cell? ⟨A, 3, none⟩ = some (v) := za HB.out.blk 3;have a4 : (w.alloc (.cells #[.int .i64 a.kind, .int .i32 a.rune, .int .u8 (a.byte.toNat : Int), v, .string a.inter, .string a.text] 75)).cell? ⟨A, 4, none⟩ = some (.string a.inter) := za HB.out.blk 4;have a5 : (w.alloc (.cells #[.int .i64 a.kind, .int .i32 a.rune, .int .u8 (a.byte.toNat : Int), v, .string a.inter, .string a.text] 75)).cell? ⟨A, 5, none⟩ = some (.string a.text) := za HB.out.blk 5;rw [hA] at a0 a1 a2 a3 a4 a5;rw [hi] at a0 a1 a2 a3 a4 a5 HR HP HB;rw [hi];have HI := Lib.hid hi;clear hi;go_enter Tryz.func111, Tryz.ntmps111;go_upto_if 65 with fail;rw [← hA];rw [← hA] at a0 a1 a2 a3 a4 a5;clear hA;generalize (w.alloc (.cells #[.int .i64 a.kind, .int .i32 a.rune, .int .u8 (a.byte.toNat : Int), v, .string ⟨#[33]⟩, .string a.text] 75)) = w1 at *;by_cases h112 : (a.byte.toNat : Int) = 112
 ·have e112 : ((a.byte.toNat : Int) == 112) = true := beq_iff_eq.2 h112;have HE := Lib.hid (show s.csi a.byte a.params [33] = s.soft by unfold Scr.csi; dsimp only; rw [h112]; rfl);clear h112;go_wp2_with fail;refine (zlc HR.out).mono ?_;rintro e wc1 ⟨rfl, Cc1, hc1, pc1⟩;have Hc1 := Lib.hid hc1;have Pc1 := Lib.hid (HP.out.trans pc1);clear hc1 pc1;go_wp2_with fail;go_end0;refine ⟨rfl, ?_⟩;rw [HE.out];exact ⟨_, Hc1.out, Pc1.out⟩
 ·have e112 : ((a.byte.toNat : Int) == 112) = false := beq_eq_false_iff_ne.2 h112;have HE := Lib.hid (show s.csi a.byte a.params [33] = s by unfold Scr.csi; dsimp only; rw [if_neg (by decide), if_neg (by decide), if_pos rfl, if_neg h112]);clear h112;go_wp2_with fail;go_end0;refine ⟨rfl, ?_⟩;rw [HE.out];exact ⟨_, HR.out, HP.out⟩
set_option maxHeartbeats 4000000 in
theorem zli {B : World} {C : Nat → Nat} {p c r : Nat} {w : World} {s : Scr} {ps : PSt} (h : SR B C p w s ps) (hok : s.Ok c r) (a : VAct) (v : Value) (hv : zaJ C w v a.params) (ho : s.out.length ≤ 100000) (hi : a.inter = ⟨#[63]⟩) (hlast : -2147483648 ≤ s.last ∧ s.last ≤ 2147483647) :
  Calls Tryz.prog 111 #[.pointer (some ⟨p, 0, none⟩), a.val v] w fun e w' => e = .returned (.tuple #[]) ∧ zq B C p w w' (s.csi a.byte a.params [63]) ps := by
 have hbx := zaW h hv;have hbb := (Below.refl w.heap.size w).alloc (Nat.le_refl _) (.cells (a.cells v).toArray 75);unfold VAct.cells at hbb;have HR := Lib.hid (h.below hbb);have HP := Lib.hid ((Pre.refl C w).below hbb);have HBX := Lib.hid hbx;have HOK := Lib.hid hok;have HOL := Lib.hid (show s.out.length ≤ 1000000 by omega);have HOS := Lib.hid ho;have HLA := Lib.hid hlast;clear hbx hbb hv h hok ho hlast;unfold VAct.val;obtain ⟨A, hA⟩ : ∃ A, A = w.heap.size := ⟨_, rfl⟩;rw [← hA] at HBX;have HB := Lib.hid (show zaK a v A C (w.alloc (.cells #[.int .i64 a.kind, .int .i32 a.rune, .int .u8 (a.byte.toNat : Int), v, .string a.inter, .string a.text] 75)) from HBX.out);clear HBX;have a0 : (w.alloc (.cells #[.int .i64 a.kind, .int .i32 a.rune, .int .u8 (a.byte.toNat : Int), v, .string a.inter, .string a.text] 75)).cell? ⟨A, 0, none⟩ = some (.int .i64 a.kind) := za HB.out.blk 0;have a1 : (w.alloc (.cells #[.int .i64 a.kind, .int .i32 a.rune, .int .u8 (a.byte.toNat : Int), v, .string a.inter, .string a.text] 75)).cell? ⟨A, 1, none⟩ = some (.int .i32 a.rune) := za HB.out.blk 1;have a2 : (w.alloc (.cells #[.int .i64 a.kind, .int .i32 a.rune, .int .u8 (a.byte.toNat : Int), v, .string a.inter, .string a.text] 75)).cell? ⟨A, 2, none⟩ = some (.int .u8 (a.byte.toNat : Int)) := za HB.out.blk 2;have a3 : (w.alloc (.cells #[.int .i64 a.kind, .int .i32 a.rune, .int .u8 (a.byte.toNat : Int), v, .string a.inter, .string a.text] 75)).cell? ⟨A, 3, none⟩ = some (v) := za HB.out.blk 3;have a4 : (w.alloc (.cells #[.int .i64 a.kind, .int .i32 a.rune, .int .u8 (a.byte.toNat : Int), v, .string a.inter, .string a.text] 75)).cell? ⟨A, 4, none⟩ = some (.string a.inter) := za HB.out.blk 4;have a5 : (w.alloc (.cells #[.int .i64 a.kind, .int .i32 a.rune, .int .u8 (a.byte.toNat : Int), v, .string a.inter, .string a.text] 75)).cell? ⟨A, 5, none⟩ = some (.string a.text) := za HB.out.blk 5;rw [hA] at a0 a1 a2 a3 a4 a5;rw [hi] at a0 a1 a2 a3 a4 a5 HR HP HB;rw [hi];have HI := Lib.hid hi;clear hi;go_enter Tryz.func111, Tryz.ntmps111;go_upto_region 11 with fail;rw [← hA];rw [← hA] at a0 a1 a2 a3 a4 a5;clear hA;generalize (w.alloc (.cells #[.int .i64 a.kind, .int .i32 a.rune, .int .u8 (a.byte.toNat : Int), v, .string ⟨#[63]⟩, .string a.text] 75)) = w1 at *;have HNU := HR.out.nums HOK.out;have HCR := Lib.hid (show 1 ≤ c ∧ 1 ≤ r from ⟨by rw [(HNU.ok HOK.out).1]; exact HNU.c1, by rw [(HNU.ok HOK.out).2]; exact HNU.r1⟩);clear HNU;by_cases h104 : (a.byte.toNat : Int) = 104
 ·have e104 : ((a.byte.toNat : Int) == 104) = true := beq_iff_eq.2 h104;have e108 : ((a.byte.toNat : Int) == 108) = false := beq_eq_false_iff_ne.2 (by omega);have HE := Lib.hid (show s.csi a.byte a.params [63] = (List.range a.params.length).foldl (fun t i => t.private (par a.params i 0) true) s by
   unfold Scr.csi;dsimp only;rw [if_neg (by decide), if_pos rfl, if_pos (show (a.byte.toNat : Int) = 104 ∨ (a.byte.toNat : Int) = 108 by omega), show ((a.byte.toNat : Int) == 104) = true from beq_iff_eq.2 h104])
  obtain ⟨L, hL⟩ : ∃ L, L = a.params.length := ⟨_, rfl⟩;have hlen := zb9 Tryz.underlying63 HB.out.ap.rd;rw [← hL] at HE hlen;have HL := Lib.hid hL;have hsm := Lib.hid (zbF HB.out.ap.rd);clear hL;clear h104;go_wp2_with fail
  go_loopw [49] (fun iv wr => ∃ (i : Nat) (C2 : Nat → Nat) (t : Scr), iv = .int .i64 i ∧ i ≤ L ∧ Hid (t = (List.range i).foldl (fun t i => t.private (par a.params i 0) true) s) ∧ Hid (SR B C2 p wr t ps) ∧ Hid (t.Ok c r) ∧ Hid (zaK a v A C2 wr) ∧ Hid (Pre C w C2 wr)) (fun iv _ => L - (intOf iv).toNat)
  case atStart => exact ⟨0, C, s, rfl, Nat.zero_le _, Lib.hid rfl, HR, HOK, HB, HP⟩
  case round =>
   obtain ⟨i, C2, t, rfl, hi, HT, H2, HO2, HB2, P2⟩ := hrel;clear a0 a1 a2 a3 a4 a5;have a0 : wr.cell? ⟨A, 0, none⟩ = some (.int .i64 a.kind) := za HB2.out.blk 0;have a1 : wr.cell? ⟨A, 1, none⟩ = some (.int .i32 a.rune) := za HB2.out.blk 1;have a2 : wr.cell? ⟨A, 2, none⟩ = some (.int .u8 (a.byte.toNat : Int)) := za HB2.out.blk 2;have a3 : wr.cell? ⟨A, 3, none⟩ = some (v) := za HB2.out.blk 3;have a4 : wr.cell? ⟨A, 4, none⟩ = some (.string a.inter) := za HB2.out.blk 4;have a5 : wr.cell? ⟨A, 5, none⟩ = some (.string a.text) := za HB2.out.blk 5;rw [HI.out] at a4;by_cases hlt : i < L;rotate_left
   ·obtain rfl : i = L := (by omega);have HD := Lib.hid (show zq B C p w wr (s.csi a.byte a.params [63]) ps by rw [HE.out, ← HT.out]; exact ⟨C2, H2.out, P2.out⟩);go_wp2_with fail;go_end0;exact ⟨rfl, HD.out⟩
   have HFS := Lib.hid (show (List.range (i + 1)).foldl (fun t i => t.private (par a.params i 0) true) s = t.private (par a.params i 0) true by rw [List.range_succ, List.foldl_append, HT.out]; rfl);have hw1 : IntKind.i64.wrap ((i : Int) + 1) = (i : Int) + 1 := (by have := hsm.out; have := HL.out; exact zb _ (by omega) (by omega));have HI4 := Lib.hid (show (some (Value.string a.inter)) = some (.string ⟨#[63]⟩) by rw [HI.out]);have HPA := Lib.hid (Zw a v wr.drew (HB2.out.below (Below.refl _ _).drew).ap.rd i 0);unfold VAct.val at HPA;rw [HI.out] at HPA;go_upto_region 15 with fail;refine Zl (c := 7) (S := (fun bb w' => (w'.cell? ⟨A, 0, none⟩ = some (.int .i64 a.kind) ∧ w'.cell? ⟨A, 1, none⟩ = some (.int .i32 a.rune) ∧ w'.cell? ⟨A, 2, none⟩ = some (.int .u8 (a.byte.toNat : Int)) ∧ w'.cell? ⟨A, 3, none⟩ = some (v) ∧ w'.cell? ⟨A, 4, none⟩ = some (.string ⟨#[63]⟩) ∧ w'.cell? ⟨A, 5, none⟩ = some (.string a.text)) ∧ (bb = false → True))) (by kernel_rfl) (⟨⟨a0, a1, a2, a3, a4, a5⟩, fun _ => trivial⟩) (fun _ => ?_);refine zd false 0 (⟨⟨a0, a1, a2, a3, a4, a5⟩, fun _ => trivial⟩) ?_;refine zd false 1 (⟨⟨a0, a1, a2, a3, a4, a5⟩, fun _ => trivial⟩) ?_;refine zd false 2 (⟨⟨a0, a1, a2, a3, a4, a5⟩, fun _ => trivial⟩) ?_;refine zd false 4 (⟨⟨a0, a1, a2, a3, a4, a5⟩, fun _ => trivial⟩) ?_;refine zd false 5 (⟨⟨a0, a1, a2, a3, a4, a5⟩, fun _ => trivial⟩) ?_;refine zd false 6 (⟨⟨a0, a1, a2, a3, a4, a5⟩, fun _ => trivial⟩) ?_;refine zt false 3 fun K hK => ?_;refine zi rfl ?_;go_wp2_with fail;refine HPA.out.mono ?_;rintro e w4 ⟨rfl, b4⟩;have HR4 := Lib.hid ((H2.out.below (Below.refl _ _).drew).below b4);have HB4 := Lib.hid ((HB2.out.below (Below.refl _ _).drew).below b4);have HP4 := Lib.hid ((P2.out.below (Below.refl _ _).drew).below b4);refine hK.out _ _ (⟨⟨za HB4.out.blk 0, za HB4.out.blk 1, za HB4.out.blk 2, za HB4.out.blk 3, (za HB4.out.blk 4).trans HI4.out, za HB4.out.blk 5⟩, fun _ => trivial⟩) (fun _ => ?_);clear hK K b4
   try simp only [Act.put, List.setIfInBounds_toArray, List.set_cons_zero, List.set_cons_succ]
   refine zt true 7 fun K hK => ?_;refine zi rfl ?_;go_wp2_with fail;refine (zek HR4.out HO2.out (par a.params i 0) true).mono ?_;rintro e w7 ⟨rfl, C7, h7, p7⟩;have HB7 := Lib.hid (HB4.out.next p7);have HR7 := Lib.hid h7;have HP7 := Lib.hid (HP4.out.trans p7);refine hK.out _ _ (⟨⟨za HB7.out.blk 0, za HB7.out.blk 1, za HB7.out.blk 2, za HB7.out.blk 3, (za HB7.out.blk 4).trans HI4.out, za HB7.out.blk 5⟩, fun e => by cases e⟩) (fun _ => ?_);clear hK K h7 p7
   try simp only [Act.put, List.setIfInBounds_toArray, List.set_cons_zero, List.set_cons_succ]
   refine Zh (by kernel_rfl) ?_ _;go_wp2_with fail;go_roundw
   case rel => exact ⟨i + 1, C7, t.private (par a.params i 0) true, by go_num, by omega, Lib.hid HFS.out.symm, HR7, Lib.hid (HO2.out.private HCR.out.1 HCR.out.2 _ _), HB7, HP7⟩
   case measure => simp [intOf]; omega
 by_cases h108 : (a.byte.toNat : Int) = 108
 ·have e104 : ((a.byte.toNat : Int) == 104) = false := beq_eq_false_iff_ne.2 (by omega);have e108 : ((a.byte.toNat : Int) == 108) = true := beq_iff_eq.2 h108;have HE := Lib.hid (show s.csi a.byte a.params [63] = (List.range a.params.length).foldl (fun t i => t.private (par a.params i 0) false) s by
   unfold Scr.csi;dsimp only;rw [if_neg (by decide), if_pos rfl, if_pos (show (a.byte.toNat : Int) = 104 ∨ (a.byte.toNat : Int) = 108 by omega), show ((a.byte.toNat : Int) == 104) = false from beq_eq_false_iff_ne.2 h104])
  obtain ⟨L, hL⟩ : ∃ L, L = a.params.length := ⟨_, rfl⟩;have hlen := zb9 Tryz.underlying63 HB.out.ap.rd;rw [← hL] at HE hlen;have HL := Lib.hid hL;have hsm := Lib.hid (zbF HB.out.ap.rd);clear hL;clear h104 h108;go_wp2_with fail
  go_loopw [49] (fun iv wr => ∃ (i : Nat) (C2 : Nat → Nat) (t : Scr), iv = .int .i64 i ∧ i ≤ L ∧ Hid (t = (List.range i).foldl (fun t i => t.private (par a.params i 0) false) s) ∧ Hid (SR B C2 p wr t ps) ∧ Hid (t.Ok c r) ∧ Hid (zaK a v A C2 wr) ∧ Hid (Pre C w C2 wr)) (fun iv _ => L - (intOf iv).toNat)
  case atStart => exact ⟨0, C, s, rfl, Nat.zero_le _, Lib.hid rfl, HR, HOK, HB, HP⟩
  case round =>
   obtain ⟨i, C2, t, rfl, hi, HT, H2, HO2, HB2, P2⟩ := hrel;clear a0 a1 a2 a3 a4 a5;have a0 : wr.cell? ⟨A, 0, none⟩ = some (.int .i64 a.kind) := za HB2.out.blk 0;have a1 : wr.cell? ⟨A, 1, none⟩ = some (.int .i32 a.rune) := za HB2.out.blk 1;have a2 : wr.cell? ⟨A, 2, none⟩ = some (.int .u8 (a.byte.toNat : Int)) := za HB2.out.blk 2;have a3 : wr.cell? ⟨A, 3, none⟩ = some (v) := za HB2.out.blk 3;have a4 : wr.cell? ⟨A, 4, none⟩ = some (.string a.inter) := za HB2.out.blk 4;have a5 : wr.cell? ⟨A, 5, none⟩ = some (.string a.text) := za HB2.out.blk 5;rw [HI.out] at a4;by_cases hlt : i < L;rotate_left
   ·obtain rfl : i = L := (by omega);have HD := Lib.hid (show zq B C p w wr (s.csi a.byte a.params [63]) ps by rw [HE.out, ← HT.out]; exact ⟨C2, H2.out, P2.out⟩);go_wp2_with fail;go_end0;exact ⟨rfl, HD.out⟩
   have HFS := Lib.hid (show (List.range (i + 1)).foldl (fun t i => t.private (par a.params i 0) false) s = t.private (par a.params i 0) false by rw [List.range_succ, List.foldl_append, HT.out]; rfl);have hw1 : IntKind.i64.wrap ((i : Int) + 1) = (i : Int) + 1 := (by have := hsm.out; have := HL.out; exact zb _ (by omega) (by omega));have HI4 := Lib.hid (show (some (Value.string a.inter)) = some (.string ⟨#[63]⟩) by rw [HI.out]);have HPA := Lib.hid (Zw a v wr.drew (HB2.out.below (Below.refl _ _).drew).ap.rd i 0);unfold VAct.val at HPA;rw [HI.out] at HPA;go_upto_region 15 with fail;refine Zl (c := 7) (S := (fun bb w' => (w'.cell? ⟨A, 0, none⟩ = some (.int .i64 a.kind) ∧ w'.cell? ⟨A, 1, none⟩ = some (.int .i32 a.rune) ∧ w'.cell? ⟨A, 2, none⟩ = some (.int .u8 (a.byte.toNat : Int)) ∧ w'.cell? ⟨A, 3, none⟩ = some (v) ∧ w'.cell? ⟨A, 4, none⟩ = some (.string ⟨#[63]⟩) ∧ w'.cell? ⟨A, 5, none⟩ = some (.string a.text)) ∧ (bb = false → True))) (by kernel_rfl) (⟨⟨a0, a1, a2, a3, a4, a5⟩, fun _ => trivial⟩) (fun _ => ?_);refine zd false 0 (⟨⟨a0, a1, a2, a3, a4, a5⟩, fun _ => trivial⟩) ?_;refine zd false 1 (⟨⟨a0, a1, a2, a3, a4, a5⟩, fun _ => trivial⟩) ?_;refine zd false 2 (⟨⟨a0, a1, a2, a3, a4, a5⟩, fun _ => trivial⟩) ?_;refine zd false 4 (⟨⟨a0, a1, a2, a3, a4, a5⟩, fun _ => trivial⟩) ?_;refine zd false 5 (⟨⟨a0, a1, a2, a3, a4, a5⟩, fun _ => trivial⟩) ?_;refine zd false 6 (⟨⟨a0, a1, a2, a3, a4, a5⟩, fun _ => trivial⟩) ?_;refine zt false 3 fun K hK => ?_;refine zi rfl ?_;go_wp2_with fail;refine HPA.out.mono ?_;rintro e w4 ⟨rfl, b4⟩;have HR4 := Lib.hid ((H2.out.below (Below.refl _ _).drew).below b4);have HB4 := Lib.hid ((HB2.out.below (Below.refl _ _).drew).below b4);have HP4 := Lib.hid ((P2.out.below (Below.refl _ _).drew).below b4);refine hK.out _ _ (⟨⟨za HB4.out.blk 0, za HB4.out.blk 1, za HB4.out.blk 2, za HB4.out.blk 3, (za HB4.out.blk 4).trans HI4.out, za HB4.out.blk 5⟩, fun _ => trivial⟩) (fun _ => ?_);clear hK K b4
   try simp only [Act.put, List.setIfInBounds_toArray, List.set_cons_zero, List.set_cons_succ]
   refine zt true 7 fun K hK => ?_;refine zi rfl ?_;go_wp2_with fail;refine (zek HR4.out HO2.out (par a.params i 0) false).mono ?_;rintro e w7 ⟨rfl, C7, h7, p7⟩;have HB7 := Lib.hid (HB4.out.next p7);have HR7 := Lib.hid h7;have HP7 := Lib.hid (HP4.out.trans p7);refine hK.out _ _ (⟨⟨za HB7.out.blk 0, za HB7.out.blk 1, za HB7.out.blk 2, za HB7.out.blk 3, (za HB7.out.blk 4).trans HI4.out, za HB7.out.blk 5⟩, fun e => by cases e⟩) (fun _ => ?_);clear hK K h7 p7
   try simp only [Act.put, List.setIfInBounds_toArray, List.set_cons_zero, List.set_cons_succ]
   refine Zh (by kernel_rfl) ?_ _;go_wp2_with fail;go_roundw
   case rel => exact ⟨i + 1, C7, t.private (par a.params i 0) false, by go_num, by omega, Lib.hid HFS.out.symm, HR7, Lib.hid (HO2.out.private HCR.out.1 HCR.out.2 _ _), HB7, HP7⟩
   case measure => simp [intOf]; omega
 have e104 : ((a.byte.toNat : Int) == 104) = false := beq_eq_false_iff_ne.2 h104;have e108 : ((a.byte.toNat : Int) == 108) = false := beq_eq_false_iff_ne.2 h108;have HE := Lib.hid (show s.csi a.byte a.params [63] = s by unfold Scr.csi; dsimp only; rw [if_neg (by decide), if_pos rfl, if_neg (by omega)]);clear h104 h108;go_wp2_with fail;go_end0;refine ⟨rfl, ?_⟩;rw [HE.out];exact ⟨_, HR.out, HP.out⟩
end
section
open Go.RowKit
set_option maxRecDepth 100000
attribute [local go_sem ↓] Go.wp_at_zero Go.wp_at_succ
theorem zbv.mono {B B' : Nat} {w : World} {rv : Value} {L : List (Value × List Cel)} (h : zbv B w rv L) (hb : B' ≤ B) : zbv B' w rv L := ⟨zM h.row hb, fun x hx => zM (h.cel x hx) hb⟩
theorem zbv.at_ {w : World} {rv : Value} {L : List (Value × List Cel)} (h : zbv 0 w rv L) (k : Nat) (hk : k < L.length) :
  ∃ b off c, rv = .slice (some ⟨b, off, none⟩) L.length c ∧ (∀ wx, (Instr.indexAt 43 rv (.int .i64 k)).run Tryz.prog wx = .ok (.pointer (some ⟨b, off + k, none⟩)) wx) ∧ w.cell? ⟨b, off + k, none⟩ = some L[k].1 ∧ zn w 0 5 L[k].1 L[k].2.length (zp L[k].2) := by
 obtain ⟨b, off, c, e, hix, ⟨x, hx, hc⟩, _, _⟩ := zcV Tryz.underlying43 (by kernel_rfl) h.row k hk;refine ⟨b, off, c, e, hix, ?_, h.cel _ (List.getElem_mem hk)⟩;rw [hc, ← hx, List.getElem?_map, List.getElem?_eq_getElem hk];rfl
set_option maxHeartbeats 4000000 in
theorem zf0 (x y mo : Int) (sh wt : Bool) (ti : ByteArray) (ra rb : Value) (La Lb : List (Value × List Cel)) (w : World) (ha : zbv 0 w ra La) (hb : zbv 0 w rb Lb) (he : La.map (·.2) = Lb.map (·.2)) (hl : La.length ≤ 1000) (hc : ∀ x ∈ La, x.2.length ≤ 1000) :
  Calls Tryz.prog 25 #[.agg #[ra, .int .i64 x, .int .i64 y, .bool sh, .bool wt, .int .i64 mo, .string ti], .agg #[rb, .int .i64 x, .int .i64 y, .bool sh, .bool wt, .int .i64 mo, .string ti]] w fun e w' => e = .returned (.bool true) ∧ Below w.heap.size w w' := by
 obtain ⟨aa, an, ac, rfl⟩ := zu ha.row;obtain ⟨ba, bn, bc, rfl⟩ := zu hb.row;have hlen : La.length = Lb.length := (by have := congrArg List.length he; simpa using this);have b1 := Zy w (.cells #[.slice aa an ac, .int .i64 x, .int .i64 y, .bool sh, .bool wt, .int .i64 mo, .string ti] 47);have b2 := b1.alloc (by simp) (.cells #[.slice ba bn bc, .int .i64 x, .int .i64 y, .bool sh, .bool wt, .int .i64 mo, .string ti] 47);have HVA := Lib.hid (zD (zE w (.cells #[.slice aa an ac, .int .i64 x, .int .i64 y, .bool sh, .bool wt, .int .i64 mo, .string ti] 47)) (.cells #[.slice ba bn bc, .int .i64 x, .int .i64 y, .bool sh, .bool wt, .int .i64 mo, .string ti] 47));have HVB := Lib.hid (zem w (.cells #[.slice aa an ac, .int .i64 x, .int .i64 y, .bool sh, .bool wt, .int .i64 mo, .string ti] 47) (.cells #[.slice ba bn bc, .int .i64 x, .int .i64 y, .bool sh, .bool wt, .int .i64 mo, .string ti] 47));have HA := Lib.hid (ha.below b2);have HB := Lib.hid (hb.below b2);have HE := Lib.hid he;have HC := Lib.hid hc;have HB2 := Lib.hid b2;have hla := Za Tryz.underlying43 ha.row;have hlb := Za Tryz.underlying43 hb.row;rw [← hlen] at hlb;have HLN := Lib.hid hlen;have hnc : ∀ wx, (binOp .neq 45 (.agg #[.int .i64 x, .int .i64 y, .bool sh, .bool wt]) (.agg #[.int .i64 x, .int .i64 y, .bool sh, .bool wt])).run Tryz.prog wx = .ok (.bool false) wx := fun wx => (by rw [znQ]; simp);have hgc := fun (p q : Operand) wx => zgM .neq p q #[.int .i64 x, .int .i64 y, .bool sh, .bool wt] #[.int .i64 x, .int .i64 y, .bool sh, .bool wt] wx;clear b1 b2 ha hb he hc hlen;go_enter Tryz.func25, Tryz.ntmps25;go_upto_region 1 with fail;obtain ⟨A, hA⟩ : ∃ A, A = w.heap.size := ⟨_, rfl⟩;have HAE := Lib.hid hA;obtain ⟨wa, hwa⟩ : ∃ wa, wa = (w.alloc (.cells #[.slice aa an ac, .int .i64 x, .int .i64 y, .bool sh, .bool wt, .int .i64 mo, .string ti] 47)).alloc (.cells #[.slice ba bn bc, .int .i64 x, .int .i64 y, .bool sh, .bool wt, .int .i64 mo, .string ti] 47) := ⟨_, rfl⟩;rw [← hwa] at HA HB HB2 HVA HVB;rw [← hwa];rw [← hA] at HVA HVB;rw [← hA];clear hwa hA;have a0 : wa.cell? ⟨A, 0, none⟩ = some (.slice aa an ac) := za HVA.out 0;have a1 : wa.cell? ⟨A, 1, none⟩ = some (.int .i64 x) := za HVA.out 1;have a2 : wa.cell? ⟨A, 2, none⟩ = some (.int .i64 y) := za HVA.out 2;have a3 : wa.cell? ⟨A, 3, none⟩ = some (.bool sh) := za HVA.out 3;have a4 : wa.cell? ⟨A, 4, none⟩ = some (.bool wt) := za HVA.out 4;have a5 : wa.cell? ⟨A, 5, none⟩ = some (.int .i64 mo) := za HVA.out 5;have a6 : wa.cell? ⟨A, 6, none⟩ = some (.string ti) := za HVA.out 6;have c0 : wa.cell? ⟨A + 1, 0, none⟩ = some (.slice ba bn bc) := za HVB.out 0;have c1 : wa.cell? ⟨A + 1, 1, none⟩ = some (.int .i64 x) := za HVB.out 1;have c2 : wa.cell? ⟨A + 1, 2, none⟩ = some (.int .i64 y) := za HVB.out 2;have c3 : wa.cell? ⟨A + 1, 3, none⟩ = some (.bool sh) := za HVB.out 3;have c4 : wa.cell? ⟨A + 1, 4, none⟩ = some (.bool wt) := za HVB.out 4;have c5 : wa.cell? ⟨A + 1, 5, none⟩ = some (.int .i64 mo) := za HVB.out 5;have c6 : wa.cell? ⟨A + 1, 6, none⟩ = some (.string ti) := za HVB.out 6;go_wp2_with fail;clear a0 a1 a2 a3 a4 a5 a6 c0 c1 c2 c3 c4 c5 c6 hnc hgc
 go_loopw [5] (fun iv wr => ∃ k : Nat, k ≤ La.length ∧ iv = .int .i64 k ∧ Hid (Below wa.heap.size wa wr)) (fun iv _ => La.length - (intOf iv).toNat)
 case atStart => exact ⟨0, Nat.zero_le _, rfl, Below.refl _ _⟩
 case round =>
  obtain ⟨k, hk, rfl, HW⟩ := hrel;obtain ⟨wk, rfl⟩ : ∃ z, z = wr := ⟨wr, rfl⟩;have p0 : wk.cell? ⟨A, 0, none⟩ = some (.slice aa an ac) := zc HW.out (za HVA.out 0);have q0 : wk.cell? ⟨A + 1, 0, none⟩ = some (.slice ba bn bc) := zc HW.out (za HVB.out 0);by_cases hlt : k < La.length
  ·have d1 : decide ((k : Int) < (La.length : Int)) = true := decide_eq_true (by omega);have d1' : decide (k < La.length) = true := decide_eq_true hlt;have hwk : IntKind.i64.wrap ((k : Int) + 1) = (k : Int) + 1 := zb _ (by omega) (by omega);have hlt2 : k < Lb.length := (by have := HLN.out; omega);obtain ⟨ab, ao, ac', e1, hixa, z1, o1⟩ := (HA.out.below HW.out).at_ k hlt;obtain ⟨bb, bo, bc', e2, hixb, z2, o2⟩ := (HB.out.below HW.out).at_ k hlt2;have hee : La[k].2 = Lb[k].2 := by
    have e := congrArg (fun l => l[k]?) HE.out;simp only [List.getElem?_map, List.getElem?_eq_getElem hlt, List.getElem?_eq_getElem hlt2, Option.map_some, Option.some.injEq] at e;exact e
   have hcl := HC.out _ (List.getElem_mem hlt);have HEE := Lib.hid hee;have HCE := Lib.hid (ziZ La[k].2 Lb[k].2 La[k].1 Lb[k].1 wk.drew (zh o1 (Below.refl _ _).drew) (zh o2 (Below.refl _ _).drew) (by omega) (by rw [← hee]; omega));obtain ⟨sa, sn, sc, f1⟩ := zu o1;obtain ⟨ta, tn, tc, f2⟩ := zu o2;rw [f1, f2] at HCE;rw [f1] at z1;rw [f2] at z2;clear o1 o2 f1 f2 hee e1 e2;go_upto_region 6 with fail
   go_region_held3 (fun w' => w'.cell? ⟨A, 0, none⟩ = some (.slice aa an ac) ∧ w'.cell? ⟨A + 1, 0, none⟩ = some (.slice ba bn bc) ∧ w'.cell? ⟨ab, ao + k, none⟩ = some (.slice sa sn sc) ∧ w'.cell? ⟨bb, bo + k, none⟩ = some (.slice ta tn tc)) (first | exact ⟨p0, q0, z1, z2⟩ | exact ⟨u0, u1, u2, u3⟩)
    (first
     | (go_at_call 70; refine HCE.out.mono ?_; rintro e w4 ⟨bv, rfl, hbv, b4⟩; obtain rfl : bv = true := hbv.2 HEE.out; have HB4 := Lib.hid ((Below.refl wk.heap.size wk).drew.trans b4); have u0 := zc HB4.out p0; have u1 := zc HB4.out q0; have u2 := zc HB4.out z1; have u3 := zc HB4.out z2; clear b4 hbv))
   clear p0 q0 z1 z2 u0 u1 u2 u3 hixa hixb;go_wp2_with fail;go_roundw
   case rel => exact ⟨k + 1, by omega, by go_num, HW.out.trans (HB4.out.mono HW.out.size)⟩
   case measure => simp [intOf]; omega
  ·have d1 : decide ((k : Int) < (La.length : Int)) = false := decide_eq_false (by omega);have d1' : decide (k < La.length) = false := decide_eq_false hlt;have HF := Lib.hid (HB2.out.trans (HW.out.mono HB2.out.size));go_wp2_with fail;go_ret;exact ⟨rfl, HF.out⟩
end
end Go.Proofs.YtlfdgkiliegaiaaGreatDoor
