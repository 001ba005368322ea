/- Texts laid together: K10 K23 U1. -/
import Derived.Test.YtlfdgkiliegaiaaGreatDoorY1
import Derived.Test.YtlfdgkiliegaiaaGreatDoorY11
import Derived.Test.YtlfdgkiliegaiaaGreatDoorY14
import Derived.Test.YtlfdgkiliegaiaaGreatDoorY2
import Derived.Test.YtlfdgkiliegaiaaGreatDoorY3
import Derived.Test.YtlfdgkiliegaiaaGreatDoorY4
import Derived.Test.YtlfdgkiliegaiaaGreatDoorY5
import Derived.Test.YtlfdgkiliegaiaaGreatDoorY6
import Derived.Test.YtlfdgkiliegaiaaGreatDoorY8
import Derived.Test.YtlfdgkiliegaiaaGreatDoorY9
import Derived.ChangeKeysEq
import Derived.Deep.RegionHeld3
import Derived.Deep.MidRow
import Derived.Lib.ItoaLen
import Derived.Test.YtlfdgkiliegaiaaGreatDoorShelf
import Derived.Lib.Builder
import Derived.Lib.FrozenHead
import Derived.Lib.RuneBytes
import Derived.Lib.UnsafeStr
import Derived.Lib.SliceRun
import Derived.WalkSpells
import Derived.StillTailTactics
import Derived.Deep.RegionLaw
import Derived.Deep.DeepCutAuto
import Derived.Test.YtlfdgkiliegaiaaGreatDoorRows
import Derived.Deep.AppendSrc
import Derived.Lib.AppendStr
import Derived.ArgAppend
import Derived.Laws.IdiomCopy
import Derived.Laws.IdiomStrings
import Derived.Deep.Upon
import Derived.WalkKit
import Derived.WalkLawsBesides
import Derived.BigQuiet
import Derived.Lib.Hide
import Derived.Deep.QuietTactic
import Derived.Lib.AppendIntMem
import Derived.Lib.ItoaNum
import Derived.Laws.ResultCell
import Derived.Deep.CutBlock
import Derived.Laws.EntriesVeiled
import Derived.Laws.StructEq
import Derived.Deep.DrawnRows
import Derived.Laws.Cover4
import Derived.WalkMore
import Derived.ScopeJumps
import Derived.Lib.SlBytesConst
import Derived.Laws.Bits64b
set_option linter.unusedVariables false
set_option linter.unusedSimpArgs false
namespace Go.Proofs.YtlfdgkiliegaiaaGreatDoor
section
open Go.RowKit
set_option maxRecDepth 100000
section
variable {B : World} {C : Nat → Nat} {p : Nat} {w w1 : World} {s : Scr} {ps : PSt}
theorem SR.noOther (h : SR B C p w s ps) : SR B C p (w.setCell ⟨p, 11, none⟩ (.pointer none)) { s with other := none } ps ∧ Pre C w C (w.setCell ⟨p, 11, none⟩ (.pointer none)) := by
 obtain ⟨Tm, To, Tp, pm, po, pp, vt, vo, hs⟩ := h.sm;have g : w.grownBy (w.setCell ⟨p, 11, none⟩ (.pointer none)) (some p) := zO (zr _ _) _ _;have K : zar C 1 w (w.setCell ⟨p, 11, none⟩ (.pointer none)) := .of_gb g (fun k hk => by injection hk with hk; subst hk; exact .inl hs.cp);have g' : Pre C w C (w.setCell ⟨p, 11, none⟩ (.pointer none)) := ⟨K.own (by decide), fun _ hk => .inl hk⟩;exact ⟨h.step g' ⟨Tm, fun _ => 0, Tp, pm, none, pp, vt, vo, ⟨fun k hk => Nat.lt_of_lt_of_le (hs.lt k hk) g.size, hs.cp, zw hs.blk 11 _, K.gm hs.gm hs.t4 (by decide), .inl ⟨rfl, rfl, fun _ => rfl⟩, K.rest hs.rp hs.t6 (by decide), K.row hs.ta hs.t2 (by decide), K.row hs.ou hs.t3 (by decide), hs.t2, hs.t3, hs.t4, fun k e => absurd rfl e, hs.t6⟩⟩, g'⟩
theorem SR.newOther {T1 : Nat → Nat} {q : Nat} {g1 : Gr} (h : SR B C p w s ps) (hb : Below w.heap.size w w1) (hg : GM T1 q w1 g1) (n1 : ∀ k, T1 k ≠ 0 → w.heap.size ≤ k) :
  zq B C p w (w1.setCell ⟨p, 11, none⟩ (.pointer (some ⟨q, 0, none⟩))) { s with other := some g1 } ps := by
 obtain ⟨Tm, To, Tp, pm, po, pp, vt, vo, hs0⟩ := h.sm;have hs := hs0.below hb;have hn : ∀ k, T1 k ≠ 0 → own (fun _ => 0) w k := fun k hk => .inr (n1 k hk);have hk : ∀ {d k : Nat}, C k = d → d ≠ 0 → d ≠ 5 → reC C 5 T1 k = d := fun e h0 hd => zci hs0.lt (T := fun _ => 0) (fun k hk => absurd rfl hk) hn e h0 hd;have hp : reC C 5 T1 p = 1 := hk hs.cp (by decide) (by decide);have lt' : ∀ k, reC C 5 T1 k ≠ 0 → k < w1.heap.size := fun k hk2 => by
  rcases zaj hk2 with e | e
  ·exact hg.lt k e
  ·exact hs.lt k e
 have n' : ∀ k, reC C 5 T1 k ≠ 0 → own C w k := fun k hk2 => by
  rcases zaj hk2 with e | e
  ·exact .inr (n1 k e)
  ·exact .inl e
 have K2 : zar (reC C 5 T1) 1 w1 (w1.setCell ⟨p, 11, none⟩ (.pointer (some ⟨q, 0, none⟩))) := .of_gb (zO (zr _ (some p)) 11 _) (fun k hk => by injection hk with hk; subst hk; exact .inl hp);have g : Pre C w (reC C 5 T1) (w1.setCell ⟨p, 11, none⟩ (.pointer (some ⟨q, 0, none⟩))) := ⟨zdl (ze.of_below hb) n' (K2.own (by decide)), n'⟩;exact ⟨_, h.step g ⟨Tm, T1, Tp, pm, some q, pp, vt, vo, ⟨fun k hk2 => Nat.lt_of_lt_of_le (lt' k hk2) K2.wi.size, hp, zw hs.blk 11 _, K2.gm hs.gm (fun k e => hk (hs.t4 k e) (by decide) (by decide)) (by decide), .inr ⟨q, g1, rfl, rfl, K2.gm hg (fun k e => zbw e) (by decide)⟩, K2.rest hs.rp (fun k e => hk (hs.t6 k e) (by decide) (by decide)) (by decide),
  K2.row hs.ta (fun k e => hk (hs.t2 k e) (by decide) (by decide)) (by decide), K2.row hs.ou (fun k e => hk (hs.t3 k e) (by decide) (by decide)) (by decide), fun k e => hk (hs.t2 k e) (by decide) (by decide), fun k e => hk (hs.t3 k e) (by decide) (by decide), fun k e => hk (hs.t4 k e) (by decide) (by decide), fun k e => zbw e, fun k e => hk (hs.t6 k e) (by decide) (by decide)⟩⟩, g⟩
end
theorem zdq {B : World} {C : Nat → Nat} {p : Nat} {w : World} {s : Scr} {ps : PSt} (h : SR B C p w s ps) (on : Bool) :
  Calls Tryz.prog 237 #[.pointer (some ⟨p, 0, none⟩), .bool on] w fun e w' => e = .returned (.tuple #[]) ∧ zq B C p w w' (s.swap on) ps := by
 rcases h.oth with ⟨c11, hno⟩ | ⟨qo, c11, hno⟩
 ·cases on
  ·skip
   have HD := Lib.hid (show zq B C p w w (s.swap false) ps by
    have e : s.swap false = s := (by unfold Scr.swap; rw [if_pos (by revert hno; cases s.other <;> simp)]);rw [e]; exact .refl h)
   clear h hno;go_enter Tryz.func237, Tryz.ntmps237;go_wp2_with fail;refine ZE rfl rfl ?_;exact ⟨rfl, HD.out⟩
  ·skip
   have HE := Lib.hid (show s.swap true = ((({ s with other := some (ZY s.main.cols s.main.rows.length 0) } : Scr).mode 256 true).whole).calm by
    unfold Scr.swap;rw [if_neg (by revert hno; cases s.other <;> simp)]; rfl)
   have f11 := h.fz 11;have HR := Lib.hid h;obtain ⟨h1, p1⟩ := h.noOther;clear h hno;go_enter Tryz.func237, Tryz.ntmps237;have H1 := Lib.hid h1;have P0 := Lib.hid p1;have HN := Lib.hid h1.wf;clear h1 p1;go_upto_region 2 with fail;generalize w.setCell ⟨p, 11, none⟩ (.pointer none) = w1 at *;go_wp2_with fail;refine (ZS H1.out).mono ?_;rintro e w2 ⟨rfl, rfl⟩;go_wp2_with fail;refine (ZI H1.out).mono ?_;rintro e w2 ⟨rfl, rfl⟩;go_wp2_with fail;refine (zde s.main.cols s.main.rows.length 0 w2 HN.out.c1 HN.out.c2 HN.out.r1 HN.out.r2 (by decide)).mono ?_;rintro e w3 ⟨q, T, rfl, b3, g3, n3⟩;have c11 : w3.cell? ⟨p, 11, none⟩ = some (.pointer none) := by
    rcases H1.out.oth with ⟨c11, _⟩ | ⟨_, _, hno⟩
    ·exact zc b3 c11
    ·cases hno
   have f11' := (H1.out.below b3).fz 11;obtain ⟨C1, h1, p1'⟩ := H1.out.newOther b3 g3 n3;have p1 := P0.out.trans p1';clear p1' b3 g3 n3;have HD1 := Lib.hid h1;have P1 := Lib.hid p1;clear h1 p1;go_wp2_with fail;refine (Zu HD1.out 256 true).mono ?_;rintro e w4 ⟨rfl, C2, h2, p2⟩;have HD2 := Lib.hid h2;have P2 := Lib.hid (P1.out.trans p2);clear h2 p2;go_wp2_with fail;refine (zbJ HD2.out).mono ?_;rintro e w5 ⟨rfl, C3, h3, p3⟩;have c2 := h3.at_ 2 (.bool _);have f2 := h3.fz 2;obtain ⟨h4, p4⟩ := h3.set 2 (.bool false) (Scr.calm _);have HD4 := Lib.hid (show zq B C p w _ _ ps from ⟨_, h4, (P2.out.trans p3).trans p4⟩);clear h3 p3 h4 p4;go_wp2_with fail;go_end0;refine ⟨rfl, ?_⟩;rw [HE.out];exact HD4.out
 ·cases on
  ·skip
   have HE := Lib.hid (show s.swap false = ((({ s with other := none } : Scr).mode 256 false).whole).calm by
    unfold Scr.swap;rw [if_neg (by revert hno; cases s.other <;> simp)]; rfl)
   have f11 := h.fz 11;have HR := Lib.hid h;obtain ⟨h1, p1⟩ := h.noOther;clear h hno;go_enter Tryz.func237, Tryz.ntmps237;have HD1 := Lib.hid h1;have P1 := Lib.hid p1;clear h1 p1;go_wp2_with fail;refine (Zu HD1.out 256 false).mono ?_;rintro e w4 ⟨rfl, C2, h2, p2⟩;have HD2 := Lib.hid h2;have P2 := Lib.hid (P1.out.trans p2);clear h2 p2;go_wp2_with fail;refine (zbJ HD2.out).mono ?_;rintro e w5 ⟨rfl, C3, h3, p3⟩;have c2 := h3.at_ 2 (.bool _);have f2 := h3.fz 2;obtain ⟨h4, p4⟩ := h3.set 2 (.bool false) (Scr.calm _);have HD4 := Lib.hid (show zq B C p w _ _ ps from ⟨_, h4, (P2.out.trans p3).trans p4⟩);clear h3 p3 h4 p4;go_wp2_with fail;go_end0;refine ⟨rfl, ?_⟩;rw [HE.out];exact HD4.out
  ·skip
   have HD := Lib.hid (show zq B C p w w (s.swap true) ps by
    have e : s.swap true = s := (by unfold Scr.swap; rw [if_pos (by revert hno; cases s.other <;> simp)]);rw [e]; exact .refl h)
   clear h hno;go_enter Tryz.func237, Tryz.ntmps237;go_wp2_with fail;refine ZE rfl rfl ?_;exact ⟨rfl, HD.out⟩
end
section
open Go.RowKit
set_option maxRecDepth 100000
theorem zmG (f : Fn) (a b : Array Value) (d : Nat) (wx : World) : (Op.equalIn (d + 1) 108 (.func f a b) .nilFunc).run Tryz.prog wx = .ok false wx := by
 have hu := Tryz.underlying108;simp [Op.equalIn, run_underlying hu]
theorem zmH (d : Nat) (wx : World) : (Op.equalIn (d + 1) 108 .nilFunc .nilFunc).run Tryz.prog wx = .ok true wx := by
 have hu := Tryz.underlying108;simp [Op.equalIn, run_underlying hu]
theorem zaL (f : Fn) (a b : Array Value) (wx : World) : (binOp .neq 108 (.func f a b) .nilFunc).run Tryz.prog wx = .ok (.bool true) wx := by
 have h := zmG f a b 9999 wx;simp only [binOp, Op.equal, Sem.run_bind, show Op.maxDepth = 9999 + 1 from rfl, h];rfl
theorem zoR (wx : World) : (binOp .neq 108 .nilFunc .nilFunc).run Tryz.prog wx = .ok (.bool false) wx := by
 have h := zmH 9999 wx;simp only [binOp, Op.equal, Sem.run_bind, show Op.maxDepth = 9999 + 1 from rfl, h];rfl
def ZM (p : Nat) (k : Int) : Value := if k = 65 then .func (.func 213) #[.pointer (some ⟨p, 0, none⟩)] #[] else if k = 66 ∨ k = 101 then .func (.func 214) #[.pointer (some ⟨p, 0, none⟩)] #[] else if k = 67 ∨ k = 97 then .func (.func 215) #[.pointer (some ⟨p, 0, none⟩)] #[] else if k = 68 then .func (.func 216) #[.pointer (some ⟨p, 0, none⟩)] #[] else if k = 69 then .func (.func 217) #[.pointer (some ⟨p, 0, none⟩)] #[] else if k = 70 then .func (.func 218) #[.pointer (some ⟨p, 0, none⟩)] #[] else if k = 71 ∨ k = 96 then .func (.func 219) #[.pointer (some ⟨p, 0, none⟩)] #[] else if k = 100 then .func (.func 220) #[.pointer (some ⟨p, 0, none⟩)] #[] else if k = 73 then .func (.func 221) #[.pointer (some ⟨p, 0, none⟩)] #[] else if k = 90 then .func (.func 222) #[.pointer (some ⟨p, 0, none⟩)] #[] else .nilFunc
theorem zk1 (p : Nat) (b : UInt8) (w : World) : Calls Tryz.prog 161 #[.pointer (some ⟨p, 0, none⟩), .int .u8 (b.toNat : Int)] w fun e w' => e = .returned (ZM p (b.toNat : Int)) ∧ w' = w := by
 have hmf : ∀ (fn : Fn) (first cap : Array Value) (w : World), (Instr.makeFunc fn first cap).run Tryz.prog w = .ok (.func fn first cap) w := fun _ _ _ _ => rfl;obtain ⟨k, hk⟩ : ∃ k : Int, k = (b.toNat : Int) := ⟨_, rfl⟩;rw [← hk];clear hk;by_cases h65 : k = 65
 ·subst h65;have HE := Lib.hid (show ZM p 65 = .func (.func 213) #[.pointer (some ⟨p, 0, none⟩)] #[] from rfl);go_enter Tryz.func161, Tryz.ntmps161;go_wp2_with fail;go_ret;rw [HE.out];exact ⟨rfl, rfl⟩
 by_cases h66 : k = 66
 ·subst h66;have HE := Lib.hid (show ZM p 66 = .func (.func 214) #[.pointer (some ⟨p, 0, none⟩)] #[] from rfl);go_enter Tryz.func161, Tryz.ntmps161;go_wp2_with fail;go_ret;rw [HE.out];exact ⟨rfl, rfl⟩
 by_cases h101 : k = 101
 ·subst h101;have HE := Lib.hid (show ZM p 101 = .func (.func 214) #[.pointer (some ⟨p, 0, none⟩)] #[] from rfl);go_enter Tryz.func161, Tryz.ntmps161;go_wp2_with fail;go_ret;rw [HE.out];exact ⟨rfl, rfl⟩
 by_cases h67 : k = 67
 ·subst h67;have HE := Lib.hid (show ZM p 67 = .func (.func 215) #[.pointer (some ⟨p, 0, none⟩)] #[] from rfl);go_enter Tryz.func161, Tryz.ntmps161;go_wp2_with fail;go_ret;rw [HE.out];exact ⟨rfl, rfl⟩
 by_cases h97 : k = 97
 ·subst h97;have HE := Lib.hid (show ZM p 97 = .func (.func 215) #[.pointer (some ⟨p, 0, none⟩)] #[] from rfl);go_enter Tryz.func161, Tryz.ntmps161;go_wp2_with fail;go_ret;rw [HE.out];exact ⟨rfl, rfl⟩
 by_cases h68 : k = 68
 ·subst h68;have HE := Lib.hid (show ZM p 68 = .func (.func 216) #[.pointer (some ⟨p, 0, none⟩)] #[] from rfl);go_enter Tryz.func161, Tryz.ntmps161;go_wp2_with fail;go_ret;rw [HE.out];exact ⟨rfl, rfl⟩
 by_cases h69 : k = 69
 ·subst h69;have HE := Lib.hid (show ZM p 69 = .func (.func 217) #[.pointer (some ⟨p, 0, none⟩)] #[] from rfl);go_enter Tryz.func161, Tryz.ntmps161;go_wp2_with fail;go_ret;rw [HE.out];exact ⟨rfl, rfl⟩
 by_cases h70 : k = 70
 ·subst h70;have HE := Lib.hid (show ZM p 70 = .func (.func 218) #[.pointer (some ⟨p, 0, none⟩)] #[] from rfl);go_enter Tryz.func161, Tryz.ntmps161;go_wp2_with fail;go_ret;rw [HE.out];exact ⟨rfl, rfl⟩
 by_cases h71 : k = 71
 ·subst h71;have HE := Lib.hid (show ZM p 71 = .func (.func 219) #[.pointer (some ⟨p, 0, none⟩)] #[] from rfl);go_enter Tryz.func161, Tryz.ntmps161;go_wp2_with fail;go_ret;rw [HE.out];exact ⟨rfl, rfl⟩
 by_cases h96 : k = 96
 ·subst h96;have HE := Lib.hid (show ZM p 96 = .func (.func 219) #[.pointer (some ⟨p, 0, none⟩)] #[] from rfl);go_enter Tryz.func161, Tryz.ntmps161;go_wp2_with fail;go_ret;rw [HE.out];exact ⟨rfl, rfl⟩
 by_cases h100 : k = 100
 ·subst h100;have HE := Lib.hid (show ZM p 100 = .func (.func 220) #[.pointer (some ⟨p, 0, none⟩)] #[] from rfl);go_enter Tryz.func161, Tryz.ntmps161;go_wp2_with fail;go_ret;rw [HE.out];exact ⟨rfl, rfl⟩
 by_cases h73 : k = 73
 ·subst h73;have HE := Lib.hid (show ZM p 73 = .func (.func 221) #[.pointer (some ⟨p, 0, none⟩)] #[] from rfl);go_enter Tryz.func161, Tryz.ntmps161;go_wp2_with fail;go_ret;rw [HE.out];exact ⟨rfl, rfl⟩
 by_cases h90 : k = 90
 ·subst h90;have HE := Lib.hid (show ZM p 90 = .func (.func 222) #[.pointer (some ⟨p, 0, none⟩)] #[] from rfl);go_enter Tryz.func161, Tryz.ntmps161;go_wp2_with fail;go_ret;rw [HE.out];exact ⟨rfl, rfl⟩
 have HE := Lib.hid (show ZM p k = .nilFunc by unfold ZM; rw [if_neg (show ¬ (k = 65) by omega), if_neg (show ¬ (k = 66 ∨ k = 101) by omega), if_neg (show ¬ (k = 67 ∨ k = 97) by omega), if_neg (show ¬ (k = 68) by omega), if_neg (show ¬ (k = 69) by omega), if_neg (show ¬ (k = 70) by omega), if_neg (show ¬ (k = 71 ∨ k = 96) by omega), if_neg (show ¬ (k = 100) by omega), if_neg (show ¬ (k = 73) by omega), if_neg (show ¬ (k = 90) by omega)]);have e65 : (k == 65) = false := beq_eq_false_iff_ne.2 h65;have e66 : (k == 66) = false := beq_eq_false_iff_ne.2 h66;have e101 : (k == 101) = false := beq_eq_false_iff_ne.2 h101;have e67 : (k == 67) = false := beq_eq_false_iff_ne.2 h67;have e97 : (k == 97) = false := beq_eq_false_iff_ne.2 h97;have e68 : (k == 68) = false := beq_eq_false_iff_ne.2 h68;have e69 : (k == 69) = false := beq_eq_false_iff_ne.2 h69;have e70 : (k == 70) = false := beq_eq_false_iff_ne.2 h70;have e71 : (k == 71) = false := beq_eq_false_iff_ne.2 h71;have e96 : (k == 96) = false := beq_eq_false_iff_ne.2 h96;have e100 : (k == 100) = false := beq_eq_false_iff_ne.2 h100;have e73 : (k == 73) = false := beq_eq_false_iff_ne.2 h73;have e90 : (k == 90) = false := beq_eq_false_iff_ne.2 h90;clear h65 h66 h101 h67 h97 h68 h69 h70 h71 h96 h100 h73 h90;go_enter Tryz.func161, Tryz.ntmps161;go_wp2_with fail;go_ret;rw [HE.out];exact ⟨rfl, rfl⟩
def zaM (p : Nat) (k : Int) : Value := if k = 64 then .func (.func 223) #[.pointer (some ⟨p, 0, none⟩)] #[] else if k = 80 then .func (.func 224) #[.pointer (some ⟨p, 0, none⟩)] #[] else if k = 88 then .func (.func 225) #[.pointer (some ⟨p, 0, none⟩)] #[] else if k = 76 then .func (.func 226) #[.pointer (some ⟨p, 0, none⟩)] #[] else if k = 77 then .func (.func 227) #[.pointer (some ⟨p, 0, none⟩)] #[] else if k = 83 then .func (.func 228) #[.pointer (some ⟨p, 0, none⟩)] #[] else if k = 84 then .func (.func 229) #[.pointer (some ⟨p, 0, none⟩)] #[] else if k = 98 then .func (.func 230) #[.pointer (some ⟨p, 0, none⟩)] #[] else .nilFunc
theorem zk2 (p : Nat) (b : UInt8) (w : World) : Calls Tryz.prog 163 #[.pointer (some ⟨p, 0, none⟩), .int .u8 (b.toNat : Int)] w fun e w' => e = .returned (zaM p (b.toNat : Int)) ∧ w' = w := by
 have hmf : ∀ (fn : Fn) (first cap : Array Value) (w : World), (Instr.makeFunc fn first cap).run Tryz.prog w = .ok (.func fn first cap) w := fun _ _ _ _ => rfl;obtain ⟨k, hk⟩ : ∃ k : Int, k = (b.toNat : Int) := ⟨_, rfl⟩;rw [← hk];clear hk;by_cases h64 : k = 64
 ·subst h64;have HE := Lib.hid (show zaM p 64 = .func (.func 223) #[.pointer (some ⟨p, 0, none⟩)] #[] from rfl);go_enter Tryz.func163, Tryz.ntmps163;go_wp2_with fail;go_ret;rw [HE.out];exact ⟨rfl, rfl⟩
 by_cases h80 : k = 80
 ·subst h80;have HE := Lib.hid (show zaM p 80 = .func (.func 224) #[.pointer (some ⟨p, 0, none⟩)] #[] from rfl);go_enter Tryz.func163, Tryz.ntmps163;go_wp2_with fail;go_ret;rw [HE.out];exact ⟨rfl, rfl⟩
 by_cases h88 : k = 88
 ·subst h88;have HE := Lib.hid (show zaM p 88 = .func (.func 225) #[.pointer (some ⟨p, 0, none⟩)] #[] from rfl);go_enter Tryz.func163, Tryz.ntmps163;go_wp2_with fail;go_ret;rw [HE.out];exact ⟨rfl, rfl⟩
 by_cases h76 : k = 76
 ·subst h76;have HE := Lib.hid (show zaM p 76 = .func (.func 226) #[.pointer (some ⟨p, 0, none⟩)] #[] from rfl);go_enter Tryz.func163, Tryz.ntmps163;go_wp2_with fail;go_ret;rw [HE.out];exact ⟨rfl, rfl⟩
 by_cases h77 : k = 77
 ·subst h77;have HE := Lib.hid (show zaM p 77 = .func (.func 227) #[.pointer (some ⟨p, 0, none⟩)] #[] from rfl);go_enter Tryz.func163, Tryz.ntmps163;go_wp2_with fail;go_ret;rw [HE.out];exact ⟨rfl, rfl⟩
 by_cases h83 : k = 83
 ·subst h83;have HE := Lib.hid (show zaM p 83 = .func (.func 228) #[.pointer (some ⟨p, 0, none⟩)] #[] from rfl);go_enter Tryz.func163, Tryz.ntmps163;go_wp2_with fail;go_ret;rw [HE.out];exact ⟨rfl, rfl⟩
 by_cases h84 : k = 84
 ·subst h84;have HE := Lib.hid (show zaM p 84 = .func (.func 229) #[.pointer (some ⟨p, 0, none⟩)] #[] from rfl);go_enter Tryz.func163, Tryz.ntmps163;go_wp2_with fail;go_ret;rw [HE.out];exact ⟨rfl, rfl⟩
 by_cases h98 : k = 98
 ·subst h98;have HE := Lib.hid (show zaM p 98 = .func (.func 230) #[.pointer (some ⟨p, 0, none⟩)] #[] from rfl);go_enter Tryz.func163, Tryz.ntmps163;go_wp2_with fail;go_ret;rw [HE.out];exact ⟨rfl, rfl⟩
 have HE := Lib.hid (show zaM p k = .nilFunc by unfold zaM; rw [if_neg (show ¬ (k = 64) by omega), if_neg (show ¬ (k = 80) by omega), if_neg (show ¬ (k = 88) by omega), if_neg (show ¬ (k = 76) by omega), if_neg (show ¬ (k = 77) by omega), if_neg (show ¬ (k = 83) by omega), if_neg (show ¬ (k = 84) by omega), if_neg (show ¬ (k = 98) by omega)]);have e64 : (k == 64) = false := beq_eq_false_iff_ne.2 h64;have e80 : (k == 80) = false := beq_eq_false_iff_ne.2 h80;have e88 : (k == 88) = false := beq_eq_false_iff_ne.2 h88;have e76 : (k == 76) = false := beq_eq_false_iff_ne.2 h76;have e77 : (k == 77) = false := beq_eq_false_iff_ne.2 h77;have e83 : (k == 83) = false := beq_eq_false_iff_ne.2 h83;have e84 : (k == 84) = false := beq_eq_false_iff_ne.2 h84;have e98 : (k == 98) = false := beq_eq_false_iff_ne.2 h98;clear h64 h80 h88 h76 h77 h83 h84 h98;go_enter Tryz.func163, Tryz.ntmps163;go_wp2_with fail;go_ret;rw [HE.out];exact ⟨rfl, rfl⟩
end
section
open Go.RowKit
theorem SAt.other {C C1 Tm To Tp : Nat → Nat} {p pm : Nat} {po : Option Nat} {pp : Nat} {vt vo : Value} {w w' : World} {s : Scr} {ps : PSt} (h : SAt C Tm To Tp p pm po pp vt vo w s ps) (hw : ze (own C1 w) w w') (hd : ∀ k, C k ≠ 0 → C1 k = 0) : SAt C Tm To Tp p pm po pp vt vo w' s ps := by
 have hg : ∀ k, C k ≠ 0 → ¬ own C1 w k := fun k hk e => by
  rcases e with e | e
  ·exact e (hd k hk)
  ·have := h.lt k hk; omega
 have hb : ∀ k, C k ≠ 0 → w'.heap[k]? = w.heap[k]? := fun k hk => hw.block k (h.lt k hk) (hg k hk);refine ⟨fun k hk => Nat.lt_of_lt_of_le (h.lt k hk) hw.size, h.cp, (hb p (by rw [h.cp]; decide)).trans h.blk, h.gm.other hw (fun k hk => hd k (by rw [h.t4 k hk]; decide)), h.go.kept hw (fun k hk => hd k (by rw [h.t5 k hk]; decide)), zgw h.rp hw (fun k hk => hd k (by rw [h.t6 k hk]; decide)),
  Zk h.ta hw.size (fun k hk => hb k (by rw [h.t2 k hk]; decide)), Zk h.ou hw.size (fun k hk => hb k (by rw [h.t3 k hk]; decide)), h.t2, h.t3, h.t4, h.t5, h.t6⟩
theorem SR.other {B : World} {C C1 : Nat → Nat} {p : Nat} {w w' : World} {s : Scr} {ps : PSt} (h : SR B C p w s ps) (hw : ze (own C1 w) w w') (hd : ∀ k, C k ≠ 0 → C1 k = 0) (hB : ∀ k, C1 k ≠ 0 → B.heap.size ≤ k) : SR B C p w' s ps := by
 obtain ⟨Tm, To, Tp, pm, po, pp, vt, vo, hs⟩ := h.sm;exact ⟨⟨Tm, To, Tp, pm, po, pp, vt, vo, hs.other hw hd⟩, h.tb, h.bl.trans (zeK hw h.bl.size hB), h.hi⟩
end
end Go.Proofs.YtlfdgkiliegaiaaGreatDoor
