/- Texts laid together: K13 K19 K20. -/
import Derived.Test.YtlfdgkiliegaiaaGreatDoorY1
import Derived.Test.YtlfdgkiliegaiaaGreatDoorY11
import Derived.Test.YtlfdgkiliegaiaaGreatDoorY12
import Derived.Test.YtlfdgkiliegaiaaGreatDoorY14
import Derived.Test.YtlfdgkiliegaiaaGreatDoorY16
import Derived.Test.YtlfdgkiliegaiaaGreatDoorY17
import Derived.Test.YtlfdgkiliegaiaaGreatDoorY19
import Derived.Test.YtlfdgkiliegaiaaGreatDoorY2
import Derived.Test.YtlfdgkiliegaiaaGreatDoorY3
import Derived.Test.YtlfdgkiliegaiaaGreatDoorY4
import Derived.Test.YtlfdgkiliegaiaaGreatDoorY5
import Derived.Test.YtlfdgkiliegaiaaGreatDoorY6
import Derived.Test.YtlfdgkiliegaiaaGreatDoorY8
import Derived.Test.YtlfdgkiliegaiaaGreatDoorY9
import Derived.ChangeKeysEq
import Derived.Deep.RegionHeld3
import Derived.Deep.MidRow
import Derived.Lib.ItoaLen
import Derived.Test.YtlfdgkiliegaiaaGreatDoorShelf
import Derived.Lib.Builder
import Derived.Lib.FrozenHead
import Derived.Lib.RuneBytes
import Derived.Lib.UnsafeStr
import Derived.Lib.SliceRun
import Derived.WalkSpells
import Derived.StillTailTactics
import Derived.Deep.RegionLaw
import Derived.Deep.DeepCutAuto
import Derived.Test.YtlfdgkiliegaiaaGreatDoorRows
import Derived.Deep.AppendSrc
import Derived.Lib.AppendStr
import Derived.ArgAppend
import Derived.Laws.IdiomCopy
import Derived.Laws.IdiomStrings
import Derived.Deep.Upon
import Derived.WalkKit
import Derived.WalkLawsBesides
import Derived.BigQuiet
import Derived.Lib.Hide
import Derived.Deep.QuietTactic
import Derived.Lib.AppendIntMem
import Derived.Lib.ItoaNum
import Derived.Laws.ResultCell
import Derived.Deep.CutBlock
import Derived.Laws.EntriesVeiled
import Derived.Laws.StructEq
import Derived.Deep.DrawnRows
import Derived.Laws.Cover4
import Derived.WalkMore
import Derived.ScopeJumps
import Derived.Lib.SlBytesConst
import Derived.Laws.Bits64b
import Derived.Lib.TrimU
set_option linter.unusedVariables false
set_option linter.unusedSimpArgs false
namespace Go.Proofs.YtlfdgkiliegaiaaGreatDoor
section
open Go.RowKit
set_option maxRecDepth 100000
theorem zjr {B : World} {C : Nat → Nat} {p : Nat} {w : World} {s : Scr} {ps : PSt} (h : SR B C p w s ps) : Calls Tryz.prog 44 #[.pointer (some ⟨p, 0, none⟩)] w fun e w' => e = .returned (.tuple #[]) ∧ zq B C p w w' s.reset s0 := zfP h.half
theorem zfW (cols rows hist : Nat) (w : World) (h1 : 1 ≤ cols) (h2 : cols ≤ 250) (h3 : 1 ≤ rows) (h4 : rows ≤ 120) (h5 : hist ≤ 2000) (ht : zcx w) :
  Calls Tryz.prog 12 #[.int .i64 cols, .int .i64 rows, .int .i64 hist] w fun e w' => ∃ p C, e = .returned (.tuple #[.pointer (some ⟨p, 0, none⟩), .int .i64 0]) ∧ SR w C p w' (za4 cols rows hist) s0 := by
 have HT := Lib.hid ht;have HN := Lib.hid (zde cols rows hist w h1 h2 h3 h4 h5);have HL := Lib.hid (show (ZY cols rows hist).rows.length = rows by unfold ZY ZR; exact List.length_replicate);clear ht h1 h2 h3 h4 h5;go_enter Tryz.func12, Tryz.ntmps12;go_wp2_with fail;refine HN.out.mono ?_;rintro e w2 ⟨q, T, rfl, b2, g2, n2⟩;have HB2 := Lib.hid b2;have HG2 := Lib.hid g2;clear b2 g2 n2;have hbk := zE w2 (.cells #[.int .i64 0, .int .i64 0, .bool false, .int .i64 0, .int .i64 0, .int .i64 0, .bool false, .bool false, .bool false, .int .i64 0, .pointer (some ⟨q, 0, none⟩), .pointer none, .int .i64 0, .int .i64 0, .bool false, .int .i64 0, .int .i64 0, .int .i64 0, .bool false, .bool false, .bool false, .int .i64 0, .int .i64 0, .int .i64 0, .bool false, .int .i64 0, .int .i64 0, .int .i64 0, .bool false, .bool false, .bool false, .int .i64 0, .int .i64 0, .int .i64 0, .int .i64 0, .slice none 0 0, .string ⟨#[]⟩, .int .i32 0, .int .i64 0, .pointer none, .slice none 0 0] 90);have hbb := (Below.refl w2.heap.size w2).alloc (Nat.le_refl _) (.cells #[.int .i64 0, .int .i64 0, .bool false, .int .i64 0, .int .i64 0, .int .i64 0, .bool false, .bool false, .bool false, .int .i64 0, .pointer (some ⟨q, 0, none⟩), .pointer none, .int .i64 0, .int .i64 0, .bool false, .int .i64 0, .int .i64 0, .int .i64 0, .bool false, .bool false, .bool false, .int .i64 0, .int .i64 0, .int .i64 0, .bool false, .int .i64 0, .int .i64 0, .int .i64 0, .bool false, .bool false, .bool false, .int .i64 0, .int .i64 0, .int .i64 0, .int .i64 0, .slice none 0 0, .string ⟨#[]⟩, .int .i32 0, .int .i64 0, .pointer none, .slice none 0 0] 90);have HH := Lib.hid (show zow w (fun k => if k = w2.heap.size then 1 else 0) w2.heap.size (w2.alloc (.cells #[.int .i64 0, .int .i64 0, .bool false, .int .i64 0, .int .i64 0, .int .i64 0, .bool false, .bool false, .bool false, .int .i64 0, .pointer (some ⟨q, 0, none⟩), .pointer none, .int .i64 0, .int .i64 0, .bool false, .int .i64 0, .int .i64 0, .int .i64 0, .bool false, .bool false, .bool false, .int .i64 0, .int .i64 0, .int .i64 0, .bool false, .int .i64 0, .int .i64 0, .int .i64 0, .bool false, .bool false, .bool false, .int .i64 0, .int .i64 0, .int .i64 0, .int .i64 0, .slice none 0 0, .string ⟨#[]⟩, .int .i32 0, .int .i64 0, .pointer none, .slice none 0 0] 90)) (ZY cols rows hist) 0 [] from
  ⟨fun k hk => by
    by_cases e : k = w2.heap.size
    ·rw [e]; simp
    ·simp [e] at hk, by simp, fun k hk => by
    by_cases e : k = w2.heap.size
    ·rw [e]; exact HB2.out.size
    ·simp [e] at hk, HT.out, HB2.out.trans (hbb.mono HB2.out.size), _, T, q, .slice none 0 0, hbk, rfl, rfl, rfl, rfl, HG2.out.below hbb, ZX _ _ _, fun k e => by simp [Value.ownBlock] at e⟩)
 clear hbk hbb;go_upto_region 5 with fail;generalize (w2.alloc (.cells #[.int .i64 0, .int .i64 0, .bool false, .int .i64 0, .int .i64 0, .int .i64 0, .bool false, .bool false, .bool false, .int .i64 0, .pointer (some ⟨q, 0, none⟩), .pointer none, .int .i64 0, .int .i64 0, .bool false, .int .i64 0, .int .i64 0, .int .i64 0, .bool false, .bool false, .bool false, .int .i64 0, .int .i64 0, .int .i64 0, .bool false, .int .i64 0, .int .i64 0, .int .i64 0, .bool false, .bool false, .bool false, .int .i64 0, .int .i64 0, .int .i64 0, .int .i64 0, .slice none 0 0, .string ⟨#[]⟩, .int .i32 0, .int .i64 0, .pointer none, .slice none 0 0] 90)) = w3 at *;generalize w2.heap.size = p at *;go_wp2_with fail;refine (zfP HH.out).mono ?_;rintro e w4 ⟨rfl, C4, h4, p4⟩;have H4 := Lib.hid (show SR w C4 p w4 (za4 cols rows hist) s0 from by
  have : za4 cols rows hist = ((zb8 (ZY cols rows hist) 0 []).stops).whole := rfl;rw [this]; exact h4)
 clear h4 p4;go_wp2_with fail;refine zct rfl rfl rfl rfl ⟨p, C4, rfl, H4.out⟩
def Scr.soft0 (s : Scr) : Scr := { s with now := { sav0 with x := s.now.x, y := s.now.y } }
theorem zlc {B : World} {C : Nat → Nat} {p : Nat} {w : World} {s : Scr} {ps : PSt} (h : SR B C p w s ps) :
  Calls Tryz.prog 166 #[.pointer (some ⟨p, 0, none⟩)] w fun e w' => e = .returned (.tuple #[]) ∧ zq B C p w w' s.soft ps := by
 have HR := Lib.hid h;have c0 : w.cell? ⟨p, 0, none⟩ = some (.int .i64 s.now.x) := h.at_ 0 _;have c1 : w.cell? ⟨p, 1, none⟩ = some (.int .i64 s.now.y) := h.at_ 1 _;clear h;go_enter Tryz.func166, Tryz.ntmps166;go_upto_region 0 with fail;go_quiet (fail);have HB := Lib.hid (zg (Below.refl w.heap.size w) nq);have h := HR.out.below HB.out;have HR1 := Lib.hid h;clear h;generalize w.drewN nq = wn at *;clear c0 c1;go_wp2_with fail;refine (zcp wn).mono ?_;rintro e w2 ⟨rfl, b2⟩;have h2 := HR1.out.below b2;have HB2 := Lib.hid (HB.out.trans (b2.mono HB.out.size));have hst := zdp sav0 (h2.there 0 10 (by decide));rw [show sav0.arr = #[.int .i64 0, .int .i64 0, .bool false, .int .i64 (-1), .int .i64 (-1), .int .i64 0, .bool false, .bool false, .bool false, .int .i64 0] from rfl] at hst;obtain ⟨h3, g3⟩ := h2.setNow sav0;have H3 := Lib.hid h3;have G3 := Lib.hid g3;clear h2 h3 g3 b2;go_upto_region 2 with (refine zJ rfl _ _ _ rfl hst rfl rfl ?_);clear hst;generalize w2.setCells p 0 sav0.vals = w3 at *;have c0 : w3.cell? ⟨p, 0, none⟩ = some (.int .i64 0) := H3.out.at_ 0 _;have c1 : w3.cell? ⟨p, 1, none⟩ = some (.int .i64 0) := H3.out.at_ 1 _;have f0 := H3.out.fz 0;have f1 := H3.out.fz 1;obtain ⟨h4, g4⟩ := H3.out.set 0 (.int .i64 s.now.x) { s with now := { sav0 with x := s.now.x } };obtain ⟨h5, g5⟩ := h4.set 1 (.int .i64 s.now.y) s.soft0;have H5 := Lib.hid h5;have P5 := Lib.hid ((Pre.refl C w).below HB2.out |>.trans (G3.out.trans (g4.trans g5)));clear h4 g4 h5 g5;go_upto_region 3 with fail;generalize (w3.setCell ⟨p, 0, none⟩ (.int .i64 s.now.x)).setCell ⟨p, 1, none⟩ (.int .i64 s.now.y) = w4 at *;clear c0 c1 f0 f1;go_wp2_with fail;refine (zbJ H5.out).mono ?_;rintro e w5 ⟨rfl, C6, h6, p6⟩;have c32 : w5.cell? ⟨p, 32, none⟩ = some (.int .i64 s.modes) := h6.at_ 32 _;have f32 := h6.fz 32;obtain ⟨h7, g7⟩ := h6.set 32 (.int .i64 (Zm s.modes 54)) { s.soft0.whole with modes := Zm s.modes 54 };obtain ⟨h8, g8⟩ := h7.set 32 (.int .i64 (bOr (Zm s.modes 54) 9)) { s.soft0.whole with modes := bOr (Zm s.modes 54) 9 };have H8 := Lib.hid h8;have P8 := Lib.hid (P5.out.trans (p6.trans (g7.trans g8)));clear h6 p6 h7 g7 h8 g8;go_upto_region 6 with fail;rw [show bits BinOp.andNot IntKind.i64 s.modes 54 = Zm s.modes 54 from rfl, show bits BinOp.or IntKind.i64 (Zm s.modes 54) 9 = bOr (Zm s.modes 54) 9 from rfl];generalize hw6 : (w5.setCell ⟨p, 32, none⟩ (.int .i64 (Zm s.modes 54))).setCell ⟨p, 32, none⟩ (.int .i64 (bOr (Zm s.modes 54) 9)) = w6 at *;clear c32 f32;have HSF := Lib.hid (show s.soft = ({ s.soft0.whole with modes := bOr (Zm s.modes 54) 9 } : Scr).setSlot sav0 from rfl);generalize ({ s.soft0.whole with modes := bOr (Zm s.modes 54) 9 } : Scr) = s6 at *;go_wp2_with fail;refine (zeD H8.out).mono ?_;rintro e w7 ⟨rfl, rfl⟩;go_wp2_with fail;refine (zcp _).mono ?_;rintro e w8 ⟨rfl, b8⟩;have h9 := H8.out.below b8;have hst := zdp sav0 h9.thereSlot;rw [show sav0.arr = #[.int .i64 0, .int .i64 0, .bool false, .int .i64 (-1), .int .i64 (-1), .int .i64 0, .bool false, .bool false, .bool false, .int .i64 0] from rfl] at hst;obtain ⟨h10, g10⟩ := h9.setSlot sav0;have HD := Lib.hid (show zq B C p w _ s.soft ps by rw [HSF.out]; exact ⟨_, h10, (P8.out.below b8).trans g10⟩);clear h9 h10 g10 b8;go_wp2_with (refine zJ rfl _ _ _ rfl hst rfl rfl ?_);go_end0;exact ⟨rfl, HD.out⟩
end
section
open Go.RowKit
set_option maxRecDepth 100000
theorem zan (n : Int) (h0 : -9223372036854775808 ≤ n) (h1 : n ≤ 9223372036854775807) (w : World) (ht : zcx w) :
  Calls Tryz.prog 65 #[.int .i64 n] w fun e w' => ∃ str : ByteArray, e = .returned (.string str) ∧ str.data.toList = Lib.itoa n ∧ str.size ≤ 21 ∧ Below w.heap.size w w' := by
 refine (Tryz.strconv_Itoa n h0 h1 w ht.pw.here).mono ?_;rintro e w' ⟨rfl, k, os, rfl⟩;refine ⟨_, rfl, by simp, ?_, Lib.below_grow w.heap.size w (Nat.le_refl _) k os⟩;show (Lib.itoa n).toArray.size ≤ 21;rw [List.size_toArray];exact Lib.itoa_length_le n h0 h1
theorem ZF {a b : ByteArray} {n m : Nat} (ha : a.size ≤ n) (hb : b.size ≤ m) : (a ++ b).size ≤ n + m := by rw [ByteArray.size_append]; omega
theorem Zn (a b : ByteArray) : (a ++ b).data.toList = a.data.toList ++ b.data.toList := by
 rw [ByteArray.data_append, Array.toList_append]
theorem zdR (a : ByteArray) : a.data.toList.length = a.size := by rw [Array.length_toList]; rfl
theorem SR.tabs' {B : World} {C : Nat → Nat} {p : Nat} {w : World} {s : Scr} {ps : PSt} (h : SR B C p w s ps) : zcx w := h.tb.below h.bl
set_option maxHeartbeats 1000000 in
theorem zii {B : World} {C : Nat → Nat} {p c r : Nat} {w : World} {s : Scr} {ps : PSt} (h : SR B C p w s ps) (hok : s.Ok c r) (k : Int) (ho : s.out.length ≤ 100000) :
  Calls Tryz.prog 234 #[.pointer (some ⟨p, 0, none⟩), .int .i64 k] w fun e w' => e = .returned (.tuple #[]) ∧ zq B C p w w' (s.report k) ps := by
 have HR := Lib.hid h;have HN := Lib.hid (h.nums hok);have HOL := Lib.hid (show s.out.length ≤ 1000000 by omega);clear hok ho;by_cases h5 : k = 5
 ·subst h5;have HE := Lib.hid (show s.report 5 = s.say [27, 91, 48, 110] from rfl);clear h;go_enter Tryz.func234, Tryz.ntmps234;go_wp2_with fail;refine (zaf HR.out ⟨#[27, 91, 48, 110]⟩ HOL.out (by decide)).mono ?_;rintro e wc1 ⟨rfl, Cc1, hc1, pc1⟩;have Hc1 := Lib.hid hc1;have Pc1 := Lib.hid (pc1);clear hc1 pc1;go_wp2_with fail;go_end0;refine ⟨rfl, ?_⟩;rw [HE.out];exact ⟨_, Hc1.out, Pc1.out⟩
 by_cases h6 : k = 6;rotate_left
 ·have HE := Lib.hid (show s.report k = s by unfold Scr.report; rw [if_neg h5, if_neg h6]);have e5 : (k == 5) = false := beq_eq_false_iff_ne.2 h5;have e6 : (k == 6) = false := beq_eq_false_iff_ne.2 h6;clear h h5 h6;go_enter Tryz.func234, Tryz.ntmps234;go_wp2_with fail;go_end0;refine ⟨rfl, ?_⟩;rw [HE.out];exact .refl HR.out
 subst h6;clear h5;obtain ⟨yv, hyv⟩ : ∃ yv, yv = if s.has 4 then max 0 (s.now.y - s.top) else s.now.y := ⟨_, rfl⟩
 have HE := Lib.hid (show s.report 6 = s.say ([27, 91] ++ Lib.itoa (yv + 1) ++ [59] ++ Lib.itoa (s.now.x + 1) ++ [82]) by rw [hyv]; rfl);have hnu := HN.out;have x0 := hnu.x0;have x1 := hnu.x1;have k2 := hnu.c2;have y0 := hnu.y0;have y1 := hnu.y1;have r2 := hnu.r2;have t0 := hnu.t0;have tb := hnu.tb;have b1 := hnu.b1;have hyb : 0 ≤ yv ∧ yv ≤ 200 := (by rw [hyv]; split <;> omega);have hw0 : IntKind.i64.wrap (s.now.y - s.top) = s.now.y - s.top := zb _ (by omega) (by omega);have hw1 : IntKind.i64.wrap (yv + 1) = yv + 1 := zb _ (by omega) (by omega);have hw2 : IntKind.i64.wrap (s.now.x + 1) = s.now.x + 1 := zb _ (by omega) (by omega);have HXB := Lib.hid (show 0 ≤ s.now.x + 1 ∧ s.now.x + 1 ≤ 1000 by omega);have HYB := Lib.hid (show 0 ≤ yv + 1 ∧ yv + 1 ≤ 1000 by omega);have c0 : w.cell? ⟨p, 0, none⟩ = some (.int .i64 s.now.x) := h.at_ 0 _;have c1 : w.cell? ⟨p, 1, none⟩ = some (.int .i64 s.now.y) := h.at_ 1 _;have c33 : w.cell? ⟨p, 33, none⟩ = some (.int .i64 s.top) := h.at_ 33 _;clear h x0 x1 k2 y0 y1 r2 t0 tb b1 hyb hnu;have HH := Lib.hid (zaI HR.out 4);go_enter Tryz.func234, Tryz.ntmps234;go_upto_if 18 with (refine HH.out.mono ?_; rintro e w2 ⟨rfl, rfl⟩)
 go_cut [4] (fun v wz => v = .int .i64 yv ∧ wz = w2)
 case first =>
  cases hh : s.has 4
  ·have HYE := Lib.hid (show yv = s.now.y by rw [hyv, hh]; rfl);go_wp2_with fail;go_meet;exact ⟨by rw [HYE.out], rfl⟩
  ·have HYE := Lib.hid (show yv = max 0 (s.now.y - s.top) by rw [hyv, hh]; rfl);go_wp2_with fail;go_meet;exact ⟨by rw [HYE.out], rfl⟩
 case rest =>
 obtain ⟨rfl, hwz⟩ := hcut;subst hwz;obtain ⟨w, rfl⟩ : ∃ z, z = wc := ⟨wc, rfl⟩;clear hyv c1 c33 hw0 HH;go_upto_region 7 with fail;refine Zl (c := 15) (S := (fun bb w' => w'.cell? ⟨p, 0, none⟩ = some (.int .i64 s.now.x) ∧ (bb = false → True))) (by kernel_rfl) (⟨c0, fun _ => trivial⟩) (fun _ => ?_);refine zd false 0 (⟨c0, fun _ => trivial⟩) ?_;refine zd false 1 (⟨c0, fun _ => trivial⟩) ?_;refine zd false 2 (⟨c0, fun _ => trivial⟩) ?_;refine zd false 6 (⟨c0, fun _ => trivial⟩) ?_;refine zd false 7 (⟨c0, fun _ => trivial⟩) ?_;refine zd false 8 (⟨c0, fun _ => trivial⟩) ?_;refine zd false 9 (⟨c0, fun _ => trivial⟩) ?_;refine zd false 10 (⟨c0, fun _ => trivial⟩) ?_;refine zd false 11 (⟨c0, fun _ => trivial⟩) ?_;refine zt false 3 fun K hK => ?_;refine zi rfl ?_;go_wp2_with fail;refine (zan (yv + 1) (by have := HYB.out; omega) (by have := HYB.out; omega) w.drew (HR.out.below (Below.refl _ _).drew).tabs').mono ?_;rintro e w5 ⟨s5, rfl, hs5, hz5, b5⟩;have HS5 := Lib.hid hs5;have HB5 := Lib.hid ((Below.refl w.heap.size w).drew.trans b5);have z5 := zc b5 c0;refine hK.out _ _ (⟨z5, fun _ => trivial⟩) (fun _ => ?_);clear hK K hs5 b5
 try simp only [Act.put, List.setIfInBounds_toArray, List.set_cons_zero, List.set_cons_succ]
 refine zhu false false 4 12 ?_ ?_
 ·intro K hK;refine zi rfl ?_;go_wp2_with fail;refine hK.out _ _ (⟨z5, fun _ => trivial⟩) (fun _ => ?_);clear hK K
  try simp only [Act.put, List.setIfInBounds_toArray, List.set_cons_zero, List.set_cons_succ]
  refine zhu false false 5 12 ?_ ?_
  ·intro K hK;refine zi rfl ?_;go_wp2_with fail;refine hK.out _ _ (⟨z5, fun _ => trivial⟩) (fun _ => ?_);clear hK K
   try simp only [Act.put, List.setIfInBounds_toArray, List.set_cons_zero, List.set_cons_succ]
   refine zt false 12 fun K hK => ?_;refine zi rfl ?_;go_wp2_with fail;refine (zan (s.now.x + 1) (by have := HXB.out; omega) (by have := HXB.out; omega) w5 (HR.out.below HB5.out).tabs').mono ?_;rintro e w6 ⟨s6, rfl, hs6, hz6, b6⟩;have HS6 := Lib.hid hs6;have HB6 := Lib.hid (HB5.out.trans (b6.mono HB5.out.size));have z6 := zc b6 z5;refine hK.out _ _ (⟨z6, fun _ => trivial⟩) (fun _ => ?_);clear hK K hs6 b6
   try simp only [Act.put, List.setIfInBounds_toArray, List.set_cons_zero, List.set_cons_succ]
   refine zt false 13 fun K hK => ?_;refine zi rfl ?_;go_wp2_with fail;refine hK.out _ _ (⟨z6, fun _ => trivial⟩) (fun _ => ?_);clear hK K
   try simp only [Act.put, List.setIfInBounds_toArray, List.set_cons_zero, List.set_cons_succ]
   refine zt false 14 fun K hK => ?_;refine zi rfl ?_;go_wp2_with fail;refine hK.out _ _ (⟨z6, fun _ => trivial⟩) (fun _ => ?_);clear hK K
   try simp only [Act.put, List.setIfInBounds_toArray, List.set_cons_zero, List.set_cons_succ]
   refine zt true 15 fun K hK => ?_;refine zi rfl ?_;go_wp2_with fail;have q4 := ZF (ZF (ZF (ZF (a := ⟨#[27, 91]⟩) (n := 2) (Nat.le_refl _) hz5) (b := ⟨#[59]⟩) (m := 1) (Nat.le_refl _)) hz6) (b := ⟨#[82]⟩) (m := 1) (Nat.le_refl _);refine (zaf (HR.out.below HB6.out) _ HOL.out (by rw [zdR]; omega)).mono ?_;rintro e w7 ⟨rfl, C7, h7, p7⟩;have z7 := h7.at_ 0 (.int .i64 s.now.x);have H7 := Lib.hid h7;have P7 := Lib.hid (((Pre.refl C w).below HB6.out).trans p7);refine hK.out _ _ (⟨z7, fun e => by cases e⟩) (fun _ => ?_);clear hK K h7 p7 q4
   try simp only [Act.put, List.setIfInBounds_toArray, List.set_cons_zero, List.set_cons_succ]
   refine Zh (by kernel_rfl) ?_ _;have HEE := Lib.hid (show s.report 6 = s.say (((((⟨#[27, 91]⟩ : ByteArray) ++ s5) ++ ⟨#[59]⟩) ++ s6) ++ ⟨#[82]⟩).data.toList by
    rw [HE.out, Zn, Zn, Zn, Zn, HS5.out, HS6.out])
   go_wp2_with fail;go_end0;refine ⟨rfl, ?_⟩;rw [HEE.out];exact ⟨_, H7.out, P7.out⟩
  ·intro K hK;refine zi rfl ?_;go_wp2_with fail;refine (zan (s.now.x + 1) (by have := HXB.out; omega) (by have := HXB.out; omega) w5 (HR.out.below HB5.out).tabs').mono ?_;rintro e w6 ⟨s6, rfl, hs6, hz6, b6⟩;have HS6 := Lib.hid hs6;have HB6 := Lib.hid (HB5.out.trans (b6.mono HB5.out.size));have z6 := zc b6 z5;refine hK.out _ _ (⟨z6, fun _ => trivial⟩) (fun _ => ?_);clear hK K hs6 b6
   try simp only [Act.put, List.setIfInBounds_toArray, List.set_cons_zero, List.set_cons_succ]
   refine zt false 5 fun K hK => ?_;refine zi rfl ?_;go_wp2_with fail;refine hK.out _ _ (⟨z6, fun _ => trivial⟩) (fun _ => ?_);clear hK K
   try simp only [Act.put, List.setIfInBounds_toArray, List.set_cons_zero, List.set_cons_succ]
   refine zt false 13 fun K hK => ?_;refine zi rfl ?_;go_wp2_with fail;refine hK.out _ _ (⟨z6, fun _ => trivial⟩) (fun _ => ?_);clear hK K
   try simp only [Act.put, List.setIfInBounds_toArray, List.set_cons_zero, List.set_cons_succ]
   refine zt false 14 fun K hK => ?_;refine zi rfl ?_;go_wp2_with fail;refine hK.out _ _ (⟨z6, fun _ => trivial⟩) (fun _ => ?_);clear hK K
   try simp only [Act.put, List.setIfInBounds_toArray, List.set_cons_zero, List.set_cons_succ]
   refine zt true 15 fun K hK => ?_;refine zi rfl ?_;go_wp2_with fail;have q4 := ZF (ZF (ZF (ZF (a := ⟨#[27, 91]⟩) (n := 2) (Nat.le_refl _) hz5) (b := ⟨#[59]⟩) (m := 1) (Nat.le_refl _)) hz6) (b := ⟨#[82]⟩) (m := 1) (Nat.le_refl _);refine (zaf (HR.out.below HB6.out) _ HOL.out (by rw [zdR]; omega)).mono ?_;rintro e w7 ⟨rfl, C7, h7, p7⟩;have z7 := h7.at_ 0 (.int .i64 s.now.x);have H7 := Lib.hid h7;have P7 := Lib.hid (((Pre.refl C w).below HB6.out).trans p7);refine hK.out _ _ (⟨z7, fun e => by cases e⟩) (fun _ => ?_);clear hK K h7 p7 q4
   try simp only [Act.put, List.setIfInBounds_toArray, List.set_cons_zero, List.set_cons_succ]
   refine Zh (by kernel_rfl) ?_ _;have HEE := Lib.hid (show s.report 6 = s.say (((((⟨#[27, 91]⟩ : ByteArray) ++ s5) ++ ⟨#[59]⟩) ++ s6) ++ ⟨#[82]⟩).data.toList by
    rw [HE.out, Zn, Zn, Zn, Zn, HS5.out, HS6.out])
   go_wp2_with fail;go_end0;refine ⟨rfl, ?_⟩;rw [HEE.out];exact ⟨_, H7.out, P7.out⟩
 ·intro K hK;refine zi rfl ?_;go_wp2_with fail;refine (zan (s.now.x + 1) (by have := HXB.out; omega) (by have := HXB.out; omega) w5 (HR.out.below HB5.out).tabs').mono ?_;rintro e w6 ⟨s6, rfl, hs6, hz6, b6⟩;have HS6 := Lib.hid hs6;have HB6 := Lib.hid (HB5.out.trans (b6.mono HB5.out.size));have z6 := zc b6 z5;refine hK.out _ _ (⟨z6, fun _ => trivial⟩) (fun _ => ?_);clear hK K hs6 b6
  try simp only [Act.put, List.setIfInBounds_toArray, List.set_cons_zero, List.set_cons_succ]
  refine zt false 4 fun K hK => ?_;refine zi rfl ?_;go_wp2_with fail;refine hK.out _ _ (⟨z6, fun _ => trivial⟩) (fun _ => ?_);clear hK K
  try simp only [Act.put, List.setIfInBounds_toArray, List.set_cons_zero, List.set_cons_succ]
  refine zt false 5 fun K hK => ?_;refine zi rfl ?_;go_wp2_with fail;refine hK.out _ _ (⟨z6, fun _ => trivial⟩) (fun _ => ?_);clear hK K
  try simp only [Act.put, List.setIfInBounds_toArray, List.set_cons_zero, List.set_cons_succ]
  refine zt false 13 fun K hK => ?_;refine zi rfl ?_;go_wp2_with fail;refine hK.out _ _ (⟨z6, fun _ => trivial⟩) (fun _ => ?_);clear hK K
  try simp only [Act.put, List.setIfInBounds_toArray, List.set_cons_zero, List.set_cons_succ]
  refine zt false 14 fun K hK => ?_;refine zi rfl ?_;go_wp2_with fail;refine hK.out _ _ (⟨z6, fun _ => trivial⟩) (fun _ => ?_);clear hK K
  try simp only [Act.put, List.setIfInBounds_toArray, List.set_cons_zero, List.set_cons_succ]
  refine zt true 15 fun K hK => ?_;refine zi rfl ?_;go_wp2_with fail;have q4 := ZF (ZF (ZF (ZF (a := ⟨#[27, 91]⟩) (n := 2) (Nat.le_refl _) hz5) (b := ⟨#[59]⟩) (m := 1) (Nat.le_refl _)) hz6) (b := ⟨#[82]⟩) (m := 1) (Nat.le_refl _);refine (zaf (HR.out.below HB6.out) _ HOL.out (by rw [zdR]; omega)).mono ?_;rintro e w7 ⟨rfl, C7, h7, p7⟩;have z7 := h7.at_ 0 (.int .i64 s.now.x);have H7 := Lib.hid h7;have P7 := Lib.hid (((Pre.refl C w).below HB6.out).trans p7);refine hK.out _ _ (⟨z7, fun e => by cases e⟩) (fun _ => ?_);clear hK K h7 p7 q4
  try simp only [Act.put, List.setIfInBounds_toArray, List.set_cons_zero, List.set_cons_succ]
  refine Zh (by kernel_rfl) ?_ _;have HEE := Lib.hid (show s.report 6 = s.say (((((⟨#[27, 91]⟩ : ByteArray) ++ s5) ++ ⟨#[59]⟩) ++ s6) ++ ⟨#[82]⟩).data.toList by
   rw [HE.out, Zn, Zn, Zn, Zn, HS5.out, HS6.out])
  go_wp2_with fail;go_end0;refine ⟨rfl, ?_⟩;rw [HEE.out];exact ⟨_, H7.out, P7.out⟩
end
section
open Go.RowKit
set_option maxRecDepth 100000
def ZZ (b : UInt8) (ps : PSt) : PSt := if (b.toNat : Int) = 99 then s0 else ps
theorem zfX {B : World} {C : Nat → Nat} {p : Nat} {w : World} {s : Scr} {ps : PSt} (h : SR B C p w s ps) (x : Nat) (hx : x < s.tabs.length) (y : Bool) :
  ∃ b off c, w.cell? ⟨p, 35, none⟩ = some (.slice (some ⟨b, off, none⟩) s.tabs.length c) ∧ (∀ wx, (Instr.indexAt 87 (.slice (some ⟨b, off, none⟩) s.tabs.length c) (.int .i64 x)).run Tryz.prog wx = .ok (.pointer (some ⟨b, off + x, none⟩)) wx) ∧
   w.cell? ⟨b, off + x, none⟩ = some (.bool (s.tabs.getD x false)) ∧ w.frozen? ⟨b, off + x, none⟩ = false ∧ zq B C p w (w.setCell ⟨b, off + x, none⟩ (.bool y)) { s with tabs := s.tabs.set x y } ps := by
 obtain ⟨vt, ct, ot, _, _⟩ := h.tabs;obtain ⟨b, off, c, hv, hi, ⟨u, hu, hc⟩, hf, hset⟩ := zcV Tryz.underlying87 zdr ot x hx;subst hv;rw [zh9 _ _ hx] at hu;injection hu with hu;subst hu;refine ⟨b, off, c, ct, hi, hc, hf, ?_⟩;refine h.tabsIn ct (x := s.tabs.set x y) (by rw [List.length_set]) (zO (zr _ (some b)) _ _) ?_;rw [List.map_set];exact hset (.bool y)
set_option maxHeartbeats 1000000 in
theorem zld {B : World} {C : Nat → Nat} {p c r : Nat} {w : World} {s : Scr} {ps : PSt} (h : SR B C p w s ps) (hok : s.Ok c r) (b : UInt8) (ho : s.out.length ≤ 100000) :
  Calls Tryz.prog 160 #[.pointer (some ⟨p, 0, none⟩), .int .u8 (b.toNat : Int)] w fun e w' => e = .returned (.tuple #[]) ∧ zq B C p w w' (s.bare b) (ZZ b ps) := by
 have hb0 : (0 : Int) ≤ (b.toNat : Int) ∧ (b.toNat : Int) ≤ 255 := (by have := b.toNat_lt; omega);have HOL := Lib.hid (show s.out.length ≤ 1000000 by omega);clear ho;obtain ⟨k, hk⟩ : ∃ k : Int, k = (b.toNat : Int) := ⟨_, rfl⟩;have HN := Lib.hid (h.nums hok);have HR := Lib.hid h;have HOK := Lib.hid hok;have HPS := Lib.hid (show ZZ b ps = if k = 99 then s0 else ps by unfold ZZ; rw [hk]);rw [← hk] at hb0 ⊢;clear h hok;by_cases h55 : k = 55
 ·subst h55;have HE := Lib.hid (show s.bare b = s.save ∧ ZZ b ps = ps from ⟨by unfold Scr.bare; dsimp only; rw [← hk]; rfl, HPS.out.trans rfl⟩);clear hk hb0 HPS;go_enter Tryz.func160, Tryz.ntmps160;go_wp2_with fail;refine (zeE HR.out).mono ?_;rintro e wc1 ⟨rfl, Cc1, hc1, pc1⟩;have Hc1 := Lib.hid hc1;have Pc1 := Lib.hid (pc1);clear hc1 pc1;go_wp2_with fail;go_end0;refine ⟨rfl, ?_⟩;rw [HE.out.1, HE.out.2];exact ⟨_, Hc1.out, Pc1.out⟩
 by_cases h56 : k = 56
 ·subst h56;have HE := Lib.hid (show s.bare b = s.restore ∧ ZZ b ps = ps from ⟨by unfold Scr.bare; dsimp only; rw [← hk]; rfl, HPS.out.trans rfl⟩);clear hk hb0 HPS;go_enter Tryz.func160, Tryz.ntmps160;go_wp2_with fail;refine (zcL HR.out).mono ?_;rintro e wc1 ⟨rfl, Cc1, hc1, pc1⟩;have Hc1 := Lib.hid hc1;have Pc1 := Lib.hid (pc1);clear hc1 pc1;go_wp2_with fail;go_end0;refine ⟨rfl, ?_⟩;rw [HE.out.1, HE.out.2];exact ⟨_, Hc1.out, Pc1.out⟩
 by_cases h69 : k = 69
 ·subst h69;have HE := Lib.hid (show s.bare b = (s.toX 0).index.calm ∧ ZZ b ps = ps from ⟨by unfold Scr.bare; dsimp only; rw [← hk]; rfl, HPS.out.trans rfl⟩);clear hk hb0 HPS;have c0 : w.cell? ⟨p, 0, none⟩ = some (.int .i64 s.now.x) := HR.out.at_ 0 _;have f0 := HR.out.fz 0;obtain ⟨hs1_0, gs1_0⟩ := (HR.out).set 0 (.int .i64 0) (s.toX 0);have Hc1 := Lib.hid hs1_0;have Pc1 := Lib.hid (gs1_0);clear hs1_0 gs1_0;have HOK2 := Lib.hid (HOK.out.toX (x := 0) (by decide) (by rw [(HN.out.ok HOK.out).1]; have := HN.out.c1; omega));go_enter Tryz.func160, Tryz.ntmps160;go_wp2_with fail;refine (zbb Hc1.out HOK2.out).mono ?_;rintro e wc2 ⟨rfl, Cc2, hc2, pc2⟩;have Hc2 := Lib.hid hc2;have Pc2 := Lib.hid (Pc1.out.trans pc2);clear hc2 pc2;have c2 : wc2.cell? ⟨p, 2, none⟩ = some (.bool ((s.toX 0).index).now.wait) := Hc2.out.at_ 2 _;have f2 := Hc2.out.fz 2;obtain ⟨hs3_0, gs3_0⟩ := (Hc2.out).set 2 (.bool false) (((s.toX 0).index).calm);have Hc3 := Lib.hid hs3_0;have Pc3 := Lib.hid (Pc2.out.trans gs3_0);clear hs3_0 gs3_0;go_wp2_with fail;go_end0;refine ⟨rfl, ?_⟩;rw [HE.out.1, HE.out.2];exact ⟨_, Hc3.out, Pc3.out⟩
 by_cases h68 : k = 68
 ·subst h68;have HE := Lib.hid (show s.bare b = s.index.calm ∧ ZZ b ps = ps from ⟨by unfold Scr.bare; dsimp only; rw [← hk]; rfl, HPS.out.trans rfl⟩);clear hk hb0 HPS;go_enter Tryz.func160, Tryz.ntmps160;go_wp2_with fail;refine (zbb HR.out HOK.out).mono ?_;rintro e wc1 ⟨rfl, Cc1, hc1, pc1⟩;have Hc1 := Lib.hid hc1;have Pc1 := Lib.hid (pc1);clear hc1 pc1;have c2 : wc1.cell? ⟨p, 2, none⟩ = some (.bool (s.index).now.wait) := Hc1.out.at_ 2 _;have f2 := Hc1.out.fz 2;obtain ⟨hs2_0, gs2_0⟩ := (Hc1.out).set 2 (.bool false) ((s.index).calm);have Hc2 := Lib.hid hs2_0;have Pc2 := Lib.hid (Pc1.out.trans gs2_0);clear hs2_0 gs2_0;go_wp2_with fail;go_end0;refine ⟨rfl, ?_⟩;rw [HE.out.1, HE.out.2];exact ⟨_, Hc2.out, Pc2.out⟩
 by_cases h77 : k = 77
 ·subst h77;have HE := Lib.hid (show s.bare b = s.reverse.calm ∧ ZZ b ps = ps from ⟨by unfold Scr.bare; dsimp only; rw [← hk]; rfl, HPS.out.trans rfl⟩);clear hk hb0 HPS;go_enter Tryz.func160, Tryz.ntmps160;go_wp2_with fail;refine (zhh HR.out HOK.out).mono ?_;rintro e wc1 ⟨rfl, Cc1, hc1, pc1⟩;have Hc1 := Lib.hid hc1;have Pc1 := Lib.hid (pc1);clear hc1 pc1;have c2 : wc1.cell? ⟨p, 2, none⟩ = some (.bool (s.reverse).now.wait) := Hc1.out.at_ 2 _;have f2 := Hc1.out.fz 2;obtain ⟨hs2_0, gs2_0⟩ := (Hc1.out).set 2 (.bool false) ((s.reverse).calm);have Hc2 := Lib.hid hs2_0;have Pc2 := Lib.hid (Pc1.out.trans gs2_0);clear hs2_0 gs2_0;go_wp2_with fail;go_end0;refine ⟨rfl, ?_⟩;rw [HE.out.1, HE.out.2];exact ⟨_, Hc2.out, Pc2.out⟩
 by_cases h72 : k = 72
 ·subst h72;have HE := Lib.hid (show s.bare b = { s with tabs := s.tabs.set s.now.x.toNat true } ∧ ZZ b ps = ps from ⟨by unfold Scr.bare; dsimp only; rw [← hk]; rfl, HPS.out.trans rfl⟩);clear hk hb0 HPS;have hnu := HN.out;obtain ⟨x, hx⟩ : ∃ x : Nat, s.now.x = x := ⟨s.now.x.toNat, by have := hnu.x0; omega⟩;obtain ⟨bb, off, cc, ct, hi, hc, hf, hd⟩ := zfX (HR.out.below (Below.refl w.heap.size w).drew) x (by have := hnu.x1; have := hnu.tl; omega) true;have HD := Lib.hid (zq.after ((Pre.refl C w).below (Below.refl w.heap.size w).drew) hd);have HXE := Lib.hid (show s.now.x.toNat = x by rw [hx, Int.toNat_natCast]);have c0 : w.cell? ⟨p, 0, none⟩ = some (.int .i64 x) := (by rw [← hx]; exact HR.out.at_ 0 _);have ct2 : w.cell? ⟨p, 35, none⟩ = some (.slice (some ⟨bb, off, none⟩) s.tabs.length cc) := ct;have hc2 : w.cell? ⟨bb, off + x, none⟩ = some (.bool (s.tabs.getD x false)) := hc;have hf2 : w.frozen? ⟨bb, off + x, none⟩ = false := hf;clear hnu hx hd;go_enter Tryz.func160, Tryz.ntmps160;go_upto_region 18 with fail
  go_still_tail 10, (by kernel_rfl)
  change wpList _ _ _ _ _ w.drew;go_wp2_with fail;go_end0;refine ⟨rfl, ?_⟩;rw [HE.out.1, HE.out.2, HXE.out];exact HD.out
 by_cases h99 : k = 99
 ·subst h99;have HE := Lib.hid (show s.bare b = s.reset ∧ ZZ b ps = s0 from ⟨by unfold Scr.bare; dsimp only; rw [← hk]; rfl, HPS.out.trans rfl⟩);clear hk hb0 HPS;go_enter Tryz.func160, Tryz.ntmps160;go_wp2_with fail;refine (zjr HR.out).mono ?_;rintro e wc1 ⟨rfl, Cc1, hc1, pc1⟩;have Hc1 := Lib.hid hc1;have Pc1 := Lib.hid (pc1);clear hc1 pc1;go_wp2_with fail;go_end0;refine ⟨rfl, ?_⟩;rw [HE.out.1, HE.out.2];exact ⟨_, Hc1.out, Pc1.out⟩
 by_cases h61 : k = 61
 ·subst h61;have HE := Lib.hid (show s.bare b = s.mode 32 true ∧ ZZ b ps = ps from ⟨by unfold Scr.bare; dsimp only; rw [← hk]; rfl, HPS.out.trans rfl⟩);clear hk hb0 HPS;go_enter Tryz.func160, Tryz.ntmps160;go_wp2_with fail;refine (Zu HR.out 32 true).mono ?_;rintro e wc1 ⟨rfl, Cc1, hc1, pc1⟩;have Hc1 := Lib.hid hc1;have Pc1 := Lib.hid (pc1);clear hc1 pc1;go_wp2_with fail;go_end0;refine ⟨rfl, ?_⟩;rw [HE.out.1, HE.out.2];exact ⟨_, Hc1.out, Pc1.out⟩
 by_cases h62 : k = 62
 ·subst h62;have HE := Lib.hid (show s.bare b = s.mode 32 false ∧ ZZ b ps = ps from ⟨by unfold Scr.bare; dsimp only; rw [← hk]; rfl, HPS.out.trans rfl⟩);clear hk hb0 HPS;go_enter Tryz.func160, Tryz.ntmps160;go_wp2_with fail;refine (Zu HR.out 32 false).mono ?_;rintro e wc1 ⟨rfl, Cc1, hc1, pc1⟩;have Hc1 := Lib.hid hc1;have Pc1 := Lib.hid (pc1);clear hc1 pc1;go_wp2_with fail;go_end0;refine ⟨rfl, ?_⟩;rw [HE.out.1, HE.out.2];exact ⟨_, Hc1.out, Pc1.out⟩
 by_cases h90 : k = 90
 ·subst h90;have HE := Lib.hid (show s.bare b = s.say da1 ∧ ZZ b ps = ps from ⟨by unfold Scr.bare; dsimp only; rw [← hk]; rfl, HPS.out.trans rfl⟩);clear hk hb0 HPS;go_enter Tryz.func160, Tryz.ntmps160;go_wp2_with fail;refine (zaf HR.out ⟨#[27, 91, 63, 54, 50, 59, 99]⟩ HOL.out (by decide)).mono ?_;rintro e wc1 ⟨rfl, Cc1, hc1, pc1⟩;have Hc1 := Lib.hid hc1;have Pc1 := Lib.hid (pc1);clear hc1 pc1;go_wp2_with fail;go_end0;refine ⟨rfl, ?_⟩;rw [HE.out.1, HE.out.2];exact ⟨_, Hc1.out, Pc1.out⟩
 have HE := Lib.hid (show s.bare b = s ∧ ZZ b ps = ps from ⟨by
  unfold Scr.bare;dsimp only;rw [← hk, if_neg h55, if_neg h56, if_neg h69, if_neg h68, if_neg h77, if_neg h72, if_neg h99, if_neg (show ¬ (k = 61 ∨ k = 62) by omega), if_neg h90], by rw [HPS.out, if_neg h99]⟩)
 have e55 : (k == 55) = false := beq_eq_false_iff_ne.2 h55;have e56 : (k == 56) = false := beq_eq_false_iff_ne.2 h56;have e69 : (k == 69) = false := beq_eq_false_iff_ne.2 h69;have e68 : (k == 68) = false := beq_eq_false_iff_ne.2 h68;have e77 : (k == 77) = false := beq_eq_false_iff_ne.2 h77;have e72 : (k == 72) = false := beq_eq_false_iff_ne.2 h72;have e99 : (k == 99) = false := beq_eq_false_iff_ne.2 h99;have e61 : (k == 61) = false := beq_eq_false_iff_ne.2 h61;have e62 : (k == 62) = false := beq_eq_false_iff_ne.2 h62;have e90 : (k == 90) = false := beq_eq_false_iff_ne.2 h90;clear hb0 hk HPS h55 h56 h69 h68 h77 h72 h99 h61 h62 h90;go_enter Tryz.func160, Tryz.ntmps160;go_wp2_with fail;go_end0;refine ⟨rfl, ?_⟩;rw [HE.out.1, HE.out.2];exact .refl HR.out
end
end Go.Proofs.YtlfdgkiliegaiaaGreatDoor
