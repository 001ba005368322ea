/- Texts laid together: V2zScreenAnswers V3zScreenAnswers V5zScreenAnswers Z16zScreenAnswers U10zScreenAnswers Z17zScreenAnswers U11zScreenAnswers. -/
import Derived.Test.YtlfdgkiliegaiaaGreatDoorY1
import Derived.Test.YtlfdgkiliegaiaaGreatDoorY11
import Derived.Test.YtlfdgkiliegaiaaGreatDoorY12
import Derived.Test.YtlfdgkiliegaiaaGreatDoorY13
import Derived.Test.YtlfdgkiliegaiaaGreatDoorY14
import Derived.Test.YtlfdgkiliegaiaaGreatDoorY15
import Derived.Test.YtlfdgkiliegaiaaGreatDoorY17
import Derived.Test.YtlfdgkiliegaiaaGreatDoorY2
import Derived.Test.YtlfdgkiliegaiaaGreatDoorY20
import Derived.Test.YtlfdgkiliegaiaaGreatDoorY23
import Derived.Test.YtlfdgkiliegaiaaGreatDoorY25
import Derived.Test.YtlfdgkiliegaiaaGreatDoorY26
import Derived.Test.YtlfdgkiliegaiaaGreatDoorY28
import Derived.Test.YtlfdgkiliegaiaaGreatDoorY3
import Derived.Test.YtlfdgkiliegaiaaGreatDoorY4
import Derived.Test.YtlfdgkiliegaiaaGreatDoorY5
import Derived.Test.YtlfdgkiliegaiaaGreatDoorY6
import Derived.Test.YtlfdgkiliegaiaaGreatDoorY8
import Derived.Test.YtlfdgkiliegaiaaGreatDoorY9
import Derived.Test.YtlfdgkiliegaiaaGreatDoorShelf
import Derived.Lib.ItoaLen
import Derived.ArgAppend
import Derived.Laws.IdiomCopy
import Derived.Laws.IdiomStrings
import Derived.Deep.Upon
import Derived.WalkKit
import Derived.WalkSpells
import Derived.WalkLawsBesides
import Derived.BigQuiet
import Derived.Lib.Hide
import Derived.Deep.QuietTactic
import Derived.Test.YtlfdgkiliegaiaaGreatDoorRows
import Derived.Laws.Cover4
import Derived.Deep.RegionLaw
import Derived.Deep.DeepCutAuto
import Derived.Deep.AppendSrc
import Derived.Lib.AppendStr
import Derived.Lib.FrozenHead
import Derived.Lib.AppendIntMem
import Derived.Lib.ItoaNum
import Derived.Lib.SlBytesConst
import Derived.WalkMore
import Derived.ScopeJumps
import Derived.StillTailTactics
import Derived.Deep.RegionHeld3
import Derived.Lib.Builder
import Derived.Lib.RuneBytes
import Derived.Lib.UnsafeStr
import Derived.Lib.SliceRun
import Derived.Laws.ResultCell
import Derived.Deep.CutBlock
import Derived.Laws.EntriesVeiled
import Derived.Laws.StructEq
import Derived.Deep.DrawnRows
import Derived.Laws.Bits64b
import Derived.ProofKit
import Derived.OpenShut
import Derived.JoinedCond
import Derived.ChangeKeysEq
import Derived.Deep.MidRow
import Derived.Lib.FrozenHead2
import Derived.Lib.TrimU
import Derived.Lib.OthersKept
import Derived.Deep.LoopGhost
set_option linter.unusedVariables false
set_option linter.unusedSimpArgs false
namespace Go.Proofs.YtlfdgkiliegaiaaGreatDoor
section
open Go.RowKit
theorem zlH (r : ByteArray) (h : ¬ r.size = 0) : (!r.toList.isEmpty) = true := by
 rw [ByteArray.toList_eq];have : r.data.toList.length = r.size := (by rw [Array.length_toList]; rfl);cases hl : r.data.toList with
 | nil => rw [hl] at this; simp at this; omega
 | cons x l => rfl
end
section
open Go.RowKit
section
variable (kind rune : Int) (byte : UInt8) (params : List Int) (inter text : ByteArray) (vp : Value) (w : World)
theorem zlI (a b : ByteArray) : (a ++ b).data.toList = a.data.toList ++ b.data.toList := by
 rw [ByteArray.data_append, Array.toList_append]
end
end
section
open Go.RowKit
theorem zjI (n : Nat) : Lib.decDigits n = (if n / 10 = 0 then [] else Lib.decDigits (n / 10)) ++ [UInt8.ofNat (48 + n % 10)] := by
 by_cases h : n < 10
 ·rw [Lib.decDigits_one h, if_pos (by omega), Nat.mod_eq_of_lt h]; rfl
 ·rw [if_neg (by omega)]; exact zfT n h
theorem zlJ (w : World) (b : UInt8) (x : Int) (hx : x = (b.toNat : Int)) : (convert 38 9 (.slice (some ⟨w.heap.size, 0, none⟩) 1 1)).run Tryz.prog (w.alloc (.cells #[.int .u8 x] 5)) = .ok (.string ⟨#[b]⟩) (w.alloc (.cells #[.int .u8 x] 5)) := by
 subst hx;exact zN (l := [b]) Tryz.underlying38 Tryz.underlying5 Tryz.underlying9 (zV w (.int .u8 (b.toNat : Int)) 5)
theorem zlK (m : Nat) : 48 + (m : Int) % 10 = ((UInt8.ofNat (48 + m % 10)).toNat : Int) := by
 rw [zfj _ (by omega)]; omega
def ziK (k m : Nat) : Prop := (k = 0 ∧ m ≤ 9999) ∨ (k = 1 ∧ m ≤ 999) ∨ (k = 2 ∧ m ≤ 99) ∨ (k = 3 ∧ m ≤ 9) ∨ (k = 4 ∧ m = 0)
end
section
open Go.RowKit
theorem zlL (t : Trm) : ∃ q : PSt, t.feed [24] = (⟨t.scr, q⟩, []) ∧ q.Clear := by
 refine ⟨({ t.par with dec := dec0 } : PSt).begun 0, ?_, rfl, rfl⟩;rfl
end
section
open Go.RowKit
attribute [local go_sem ↓] Go.wp_at_zero Go.wp_at_succ
set_option maxRecDepth 100000 in
theorem zeX (x : Int) (w : World) (h0 : 0 ≤ x) (h1 : x ≤ 9999) :
  Calls Tryz.prog 26 #[.int .i64 x] w fun e w' => e = .returned (.string ⟨(Lib.itoa x).toArray⟩) ∧ Below w.heap.size w w' := by
 obtain ⟨n, rfl⟩ : ∃ n : Nat, x = (n : Int) := ⟨x.toNat, by omega⟩;go_enter Tryz.func26, Tryz.ntmps26;go_wp2_with fail
 go_loopw [0, 3] (fun iv sv wr => ∃ (m : Nat) (s : ByteArray), iv = .int .i64 m ∧ sv = .string s ∧ m ≤ 9999 ∧ s.size ≤ 4 ∧ Below w.heap.size w wr ∧ ziK s.size m ∧
  Hid ((s.size = 0 ∧ m = n) ∨ (s.size ≠ 0 ∧ Lib.decDigits n = (if m = 0 then [] else Lib.decDigits m) ++ s.data.toList))) (fun iv sv _ => (intOf iv).toNat + (match sv with | .string s => if s.size = 0 then 1 else 0 | _ => 0))
 case atStart => exact ⟨n, ByteArray.empty, rfl, rfl, by omega, by decide, Below.refl _ _, by unfold ziK; left; exact ⟨rfl, by omega⟩, .inl ⟨rfl, rfl⟩⟩
 case round =>
  obtain ⟨m, s, rfl, rfl, hm, hs, hb, hsm, HI⟩ := hrel;have HB := Lib.hid hb;clear hb;have hcb := zlJ wr _ _ (zlK m);by_cases hz : s.size = 0
  ·have hem : s = ByteArray.empty := (by apply ByteArray.ext; apply Array.ext'; exact List.eq_nil_of_length_eq_zero (by simpa using hz));subst hem;have HN := Lib.hid (show Lib.decDigits n = (if m / 10 = 0 then [] else Lib.decDigits (m / 10)) ++ [UInt8.ofNat (48 + m % 10)] by
    rcases HI.out with ⟨_, rfl⟩ | ⟨h, _⟩
    ·exact zjI _
    ·exact absurd rfl h)
   generalize hbb : UInt8.ofNat (48 + m % 10) = bb at *;clear hbb HI hs hsm hz;go_wp2_with fail;go_roundw
   case rel =>
    refine ⟨m / 10, ⟨#[bb]⟩ ++ ByteArray.empty, ?_, rfl, by omega, by show 1 ≤ 4; decide, HB.out.alloc HB.out.size _, ?_, .inr ⟨by show ¬ (1 = 0); decide, ?_⟩⟩
    ·go_num
    ·show ziK 1 (m / 10); unfold ziK; omega
    ·rw [HN.out]; rfl
   case measure =>
    simp only [intOf];show _ + (if (⟨#[bb]⟩ ++ ByteArray.empty : ByteArray).size = 0 then 1 else 0) < _ + (if ByteArray.empty.size = 0 then 1 else 0);rw [if_neg (by show ¬ (1 = 0); decide), if_pos (show ByteArray.empty.size = 0 from rfl)];omega
  ·have hne := zlH s hz;have hne' : s.toList.isEmpty = false := (by simpa using hne);have HI2 := Lib.hid (show Lib.decDigits n = (if m = 0 then [] else Lib.decDigits m) ++ s.data.toList by
    rcases HI.out with ⟨h, _⟩ | ⟨_, h⟩
    ·exact absurd h hz
    ·exact h)
   clear HI;by_cases hm0 : m = 0
   ·subst hm0;go_wp2_with fail;go_ret;refine ⟨?_, HB.out⟩;have := HI2.out;simp only [if_true, List.nil_append] at this;rw [zhk, this];rfl
   ·have hm1 : decide (0 < m) = true := decide_eq_true (by omega);have HN := Lib.hid (show Lib.decDigits n = (if m / 10 = 0 then [] else Lib.decDigits (m / 10)) ++ ([UInt8.ofNat (48 + m % 10)] ++ s.data.toList) by
     rw [HI2.out, if_neg hm0, ← List.append_assoc];congr 1;exact zjI m)
    have hs3 : s.size ≤ 3 := (by unfold ziK at hsm; omega);have hbig : ¬ (9223372036854775807 < 1 + s.size) := (by omega);generalize hbb : UInt8.ofNat (48 + m % 10) = bb at *;clear hbb HI2;replace hsm := Lib.hid hsm;go_wp2_with fail;go_roundw
    case rel =>
     refine ⟨m / 10, ⟨#[bb]⟩ ++ s, ?_, rfl, by omega, ?_, HB.out.alloc HB.out.size _, ?_, .inr ⟨?_, ?_⟩⟩
     ·go_num
     ·rw [ByteArray.size_append]; show 1 + s.size ≤ 4; omega
     ·rw [ByteArray.size_append]; show ziK (1 + s.size) (m / 10); have := hsm.out; unfold ziK at this ⊢; omega
     ·rw [ByteArray.size_append]; show ¬ 1 + s.size = 0; omega
     ·rw [HN.out, zlI]
    case measure => simp [intOf, hz]; omega
end
section
open Go.RowKit
theorem zfl (s : Scr) (k : Int) (hk : 0 ≤ k ∧ k ≤ 9999) : s.csi 110 [k] [] = s.report k := by
 unfold Scr.csi;rw [if_pos rfl];have e1 : ∀ n, s.move ((110 : UInt8).toNat : Int) n = none := fun n => by
  unfold Scr.move;simp
 have e2 : ∀ n, s.edit ((110 : UInt8).toNat : Int) n = none := fun n => by
  unfold Scr.edit;simp
 rw [e1, e2];have e3 : par [k] 0 0 = k := by
  unfold par;rw [if_pos ⟨Nat.zero_lt_one, hk.1⟩];show min k 9999 = k;omega
 unfold Scr.others;simp [e3]
theorem zof : Ze false [5] = [53] := by kernel_rfl
theorem zog : Ze false [6] = [54] := by kernel_rfl
theorem zng (t : Trm) (ht : t.par.Clear) : ∃ q : PSt, t.feed [27, 91, 53, 110] = (⟨{ t.scr with out := [27, 91, 48, 110] }, q⟩, [27, 91, 48, 110]) ∧ q.Clear := by
 obtain ⟨q, e, hq⟩ := zei (b := 110) (ps := [5]) (by kernel_rfl) t ht;rw [zof, zfl _ 5 (by decide)] at e;exact ⟨q, e, hq⟩
def Scr.told (s : Scr) : List UInt8 := [27, 91] ++ Lib.itoa ((if s.has 4 then max 0 (s.now.y - s.top) else s.now.y) + 1) ++ [59] ++ Lib.itoa (s.now.x + 1) ++ [82]
theorem znh (t : Trm) (ht : t.par.Clear) : ∃ q : PSt, t.feed [27, 91, 54, 110] = (⟨{ t.scr with out := t.scr.told }, q⟩, t.scr.told) ∧ q.Clear := by
 obtain ⟨q, e, hq⟩ := zei (b := 110) (ps := [6]) (by kernel_rfl) t ht;rw [zog, zfl _ 6 (by decide)] at e;exact ⟨q, e, hq⟩
theorem zgg (t : Trm) (l : List UInt8) : (t.feed (l ++ [24])).1.par.Clear := by
 rw [zbm];obtain ⟨q, e, hq⟩ := zlL (t.feed l).1;rw [e];exact hq
theorem zni (t : Trm) (ht : t.par.Clear) : ∃ q : PSt, (t.feed [27, 91, 53, 110]).2 = [27, 91, 48, 110] ∧ ((t.feed [27, 91, 53, 110]).1.feed [27, 91, 54, 110]) = (⟨{ t.scr with out := t.scr.told }, q⟩, t.scr.told) := by
 obtain ⟨q1, e1, h1⟩ := zng t ht;obtain ⟨q2, e2, _⟩ := znh ⟨{ t.scr with out := [27, 91, 48, 110] }, q1⟩ h1;refine ⟨q2, by rw [e1], ?_⟩;rw [e1, e2];rfl
end
section
open Go.RowKit
set_option maxRecDepth 100000
attribute [local go_sem ↓] Go.wp_at_zero Go.wp_at_succ
theorem zoh (by_ : ByteArray) (l : List UInt8) : (by_ ++ ⟨l.toArray⟩).data.toList = by_.data.toList ++ l := by rw [zcN]
structure zd5 (C : Nat → Nat) (w : World) (rv : Value) (L : List (Value × List Cel)) : Prop where
 row : za3 C w 1 rv L.length (L.map (·.1)) 0
 cel : ∀ x ∈ L, za3 C w 5 x.1 x.2.length (zp x.2) 0
theorem zd5.next {C C' : Nat → Nat} {w w' : World} {rv : Value} {L : List (Value × List Cel)} (h : zd5 C w rv L) (g : Pre C w C' w') : zd5 C' w' rv L := ⟨h.row.next g, fun x hx => (h.cel x hx).next g⟩
theorem zd5.below {C : Nat → Nat} {w w' : World} {rv : Value} {L : List (Value × List Cel)} (h : zd5 C w rv L) (b : Below w.heap.size w w') : zd5 C w' rv L := h.next ((Pre.refl C w).below b)
theorem zd5.view {C : Nat → Nat} {w : World} {rv : Value} {L : List (Value × List Cel)} (h : zd5 C w rv L) : zbv 0 w rv L := ⟨h.row.own, fun x hx => (h.cel x hx).own⟩
theorem zbv.aside {B : World} {C : Nat → Nat} {p : Nat} {w w' : World} {s : Scr} {ps : PSt} {rv : Value} {L : List (Value × List Cel)} (h : zbv w.heap.size w' rv L) (hs : SR B C p w s ps) : zd5 C w' rv L :=
 ⟨⟨zM h.row (Nat.zero_le _), fun k hk => hs.free (zl h.row k hk).1⟩, fun x hx => ⟨zM (h.cel x hx) (Nat.zero_le _), fun k hk => hs.free (zl (h.cel x hx) k hk).1⟩⟩
set_option maxRecDepth 1000000 in
set_option maxHeartbeats 8000000 in
theorem zdJ (cols rows : Int) (by_ : ByteArray) (w : World) (h1 : I64 cols) (h2 : I64 rows) (_hb : by_.size ≤ maxLen) (ht : zcx w) :
  Calls Tryz.prog 5 #[.int .i64 cols, .int .i64 rows, .string by_] w fun e w' => e = .returned (.bool true) ∧ Below w.heap.size w w' := by
 have HSH := Lib.hid (zcP w ht);have HT := Lib.hid ht;have HMD := Lib.hid (fun w1 ht1 => zdv cols rows 5 w1 h1 h2 (by unfold I64; decide) ht1);have l1 := zat cols 40 (by decide);have l2 := zat rows 15 (by decide);rw [show zap 5 40 = 5 from by decide] at HMD;generalize zap cols 40 = x1 at *;generalize zap rows 15 = x2 at *;obtain ⟨m, hm⟩ : ∃ m : Nat, m = 1 + x1 := ⟨_, rfl⟩;obtain ⟨r, hr⟩ : ∃ r : Nat, r = 1 + x2 := ⟨_, rfl⟩;rw [← hm, ← hr] at HMD;have HON := Lib.hid (zfV (c := m) (r := r) (l := 5) (by omega) (by omega));clear hm hr l1 l2 h1 h2 ht;go_enter Tryz.func5, Tryz.ntmps5;go_wp2_with fail;refine HSH.out.mono ?_;rintro e w1 ⟨rfl, b1⟩;have HW1 := Lib.hid b1;have HM := Lib.hid (HMD.out w1 (HT.out.below b1));clear b1 HSH HMD HT;go_wp2_with fail;refine HM.out.mono ?_;rintro e w2 ⟨p, C2, rfl, h2⟩;have H2 := Lib.hid h2;have HB2 := Lib.hid (HW1.out.trans (h2.bl.mono HW1.out.size));clear h2 HM;by_cases hs : by_.size ≤ 10000;rotate_left
 ·have hs' : decide (10000 < (by_.size : Int)) = true := decide_eq_true (by omega);have hs2 : decide (10000 < by_.size) = true := decide_eq_true (by omega);go_wp2_with fail;go_ret;exact ⟨rfl, HB2.out⟩
 have hs' : decide (10000 < (by_.size : Int)) = false := decide_eq_false (by omega);have hs2 : decide (10000 < by_.size) = false := decide_eq_false (by omega);have hz1 : (by_.size : Int) + 7 ≤ 9223372036854775807 := (by omega);have hz2 : by_.size + 7 ≤ 9223372036854775807 := (by omega);have hz3 : (by_.size : Int) + 1 ≤ 9223372036854775807 := (by omega);have hz4 : by_.size + 1 ≤ 9223372036854775807 := (by omega);obtain ⟨v3, w3, hcv3, b3, ha3⟩ := zaR w2 (by_ ++ ⟨#[24, 27, 91, 63, 54, 108, 24]⟩) (by rw [ByteArray.size_append]; show _ + 7 ≤ _; omega);have HF3 := Lib.hid (ZJ (t := ⟨za4 m r 5, s0⟩) (H2.out.below b3) HON.out v3 _ (ha3 _ _ _ _ _ H2.out) (by rw [zal, ByteArray.size_append]; show _ + 7 ≤ _; omega));clear b3 ha3 H2;go_wp2_with fail;refine HF3.out.mono ?_;rintro e w4 ⟨v4, C4, rfl, h4, _, _, o4⟩;obtain ⟨t1, ht1⟩ : ∃ t1 : Trm, t1 = ((⟨za4 m r 5, s0⟩ : Trm).feed (by_ ++ ⟨#[24, 27, 91, 63, 54, 108, 24]⟩).data.toList).1 := ⟨_, rfl⟩;rw [← ht1] at h4 o4;have H4 := Lib.hid h4;have O4 := Lib.hid o4;clear h4 o4 ht1 HF3 HON hcv3;obtain ⟨v5, w5, hcv5, b5, ha5⟩ := zaR w4 (by_ ++ ⟨#[24]⟩) (by rw [ByteArray.size_append]; show _ + 1 ≤ _; omega);have HF5 := Lib.hid (ZJ (t := t1) (H4.out.below b5) O4.out v5 _ (ha5 _ _ _ _ _ H4.out) (by rw [zal, ByteArray.size_append]; show _ + 1 ≤ _; omega));clear b5 ha5 H4;go_wp2_with fail;refine HF5.out.mono ?_;rintro e w6 ⟨v6, C6, rfl, h6, _, _, o6⟩;have hcl : (t1.feed (by_ ++ ⟨#[24]⟩).data.toList).1.par.Clear := by
  rw [show (by_ ++ ⟨#[24]⟩).data.toList = by_.data.toList ++ [24] from zoh by_ [24]];exact zgg t1 _
 obtain ⟨t, htt⟩ : ∃ t : Trm, t = (t1.feed (by_ ++ ⟨#[24]⟩).data.toList).1 := ⟨_, rfl⟩;rw [← htt] at h6 o6 hcl;have H6 := Lib.hid h6;have O6 := Lib.hid o6;have HCL := Lib.hid hcl;clear h6 o6 htt hcl HF5 O4 hcv5;go_wp2_with fail;refine (zbz H6.out O6.out.scr).mono ?_;rintro e w7 ⟨ra, La, rfl, ea, va, b7⟩;obtain ⟨aa, an, ac, rfl⟩ := zu va.row;have hnu := H6.out.nums O6.out.scr;have hlim := zgK H6.out ea O6.out.scr;obtain ⟨x, hx⟩ : ∃ x, x = t.scr.now.x := ⟨_, rfl⟩;obtain ⟨y, hy⟩ : ∃ y, y = t.scr.now.y := ⟨_, rfl⟩;obtain ⟨tp, htp⟩ : ∃ tp, tp = t.scr.top := ⟨_, rfl⟩;unfold Scr.viewV;rw [← hx, ← hy];generalize hsh : t.scr.has 8 = sh;generalize hwt : t.scr.now.wait = wt;generalize hmo : t.scr.modes = mo;generalize hti : (⟨t.scr.title.toArray⟩ : ByteArray) = ti;have HN := Lib.hid (show 0 ≤ x ∧ x < 250 ∧ 0 ≤ y ∧ y < 120 ∧ 0 ≤ tp ∧ tp < 120 from ⟨by rw [hx]; exact hnu.x0, by rw [hx]; have := hnu.x1; have := hnu.c2; omega, by rw [hy]; exact hnu.y0, by rw [hy]; have := hnu.y1; have := hnu.r2; omega, by rw [htp]; exact hnu.t0, by rw [htp]; have := hnu.tb; have := hnu.b1; have := hnu.r2; omega⟩);have HFX := Lib.hid (show t.scr.now.x = x ∧ t.scr.now.y = y ∧ t.scr.top = tp ∧ t.scr.has 8 = sh ∧ t.scr.now.wait = wt ∧ t.scr.modes = mo ∧ (⟨t.scr.title.toArray⟩ : ByteArray) = ti from ⟨hx.symm, hy.symm, htp.symm, hsh, hwt, hmo, hti⟩);have HVL := Lib.hid (va.aside H6.out);have HLI := Lib.hid hlim;have HEA := Lib.hid ea;have H7 := Lib.hid (H6.out.below b7);have hbo := Zy w7 (.cells #[.slice aa an ac, .int .i64 x, .int .i64 y, .bool sh, .bool wt, .int .i64 mo, .string ti] 47);have HVB := Lib.hid (zE w7 (.cells #[.slice aa an ac, .int .i64 x, .int .i64 y, .bool sh, .bool wt, .int .i64 mo, .string ti] 47));have H8 := Lib.hid (H7.out.below hbo);have HV8 := Lib.hid (HVL.out.below hbo);have HZV := Lib.hid (H7.out.free (Nat.le_refl w7.heap.size));clear hnu hlim hx hy htp hsh hwt hmo hti va ea b7 hbo H6 H7 HVL;go_upto_region 8 with fail;obtain ⟨V, hV⟩ : ∃ V, V = w7.heap.size := ⟨_, rfl⟩;rw [← hV] at HVB HZV;rw [← hV];obtain ⟨w8, hw8⟩ : ∃ w8, w8 = w7.alloc (.cells #[.slice aa an ac, .int .i64 x, .int .i64 y, .bool sh, .bool wt, .int .i64 mo, .string ti] 47) := ⟨_, rfl⟩;rw [← hw8] at HVB H8 HV8;rw [← hw8];clear hw8 hV;obtain ⟨qf, ef1, ef2⟩ := zni t HCL.out;have hkc := zf3 w8 #[.int .u8 27, .int .u8 91, .int .u8 53, .int .u8 110] 4 4;have hA1 := zcs H8.out 5 [27, 91, 53, 110] #[.int .u8 27, .int .u8 91, .int .u8 53, .int .u8 110] rfl (by decide);have hbo := Zy w8 (.cells #[.int .u8 27, .int .u8 91, .int .u8 53, .int .u8 110] 5 (4, 5));have HF := Lib.hid (ZJ (t := t) (H8.out.below hbo) O6.out _ [27, 91, 53, 110] hA1 (by decide));have HV9 := Lib.hid (HV8.out.below hbo);have HVB9 := Lib.hid (zm HVB.out hbo (zj HVB.out));have HEF1 := Lib.hid ef1;have HEF2 := Lib.hid ef2;clear hbo hA1 H8 HV8 HVB ef1 ef2;go_wp2_with fail;refine HF.out.mono ?_;rintro e w10 ⟨va1, C10, rfl, h10, p10, a10, o10⟩;rw [HEF1.out] at a10;have hcv1 := zN (P := Tryz.prog) (l := [27, 91, 48, 110]) Tryz.underlying38 Tryz.underlying5 Tryz.underlying9 (zU a10.own);have H10 := Lib.hid h10;have O10 := Lib.hid o10;have HV10 := Lib.hid (HV9.out.next p10);have HVB10 := Lib.hid (p10.blk HVB9.out HZV.out);have HZ10 := Lib.hid (show C10 V = 0 from Classical.byContradiction fun e => by
  rcases p10.n V e with e | e
  ·exact e HZV.out
  ·have := zj HVB9.out; omega)
 clear h10 p10 a10 o10 HF hkc HV9 HVB9 HZV O6 HCL;go_upto_region 9 with fail;clear hcv1;have hkc := zf3 w10 #[.int .u8 27, .int .u8 91, .int .u8 54, .int .u8 110] 4 4;have hA1 := zcs H10.out 5 [27, 91, 54, 110] #[.int .u8 27, .int .u8 91, .int .u8 54, .int .u8 110] rfl (by decide);have hbo := Zy w10 (.cells #[.int .u8 27, .int .u8 91, .int .u8 54, .int .u8 110] 5 (4, 5));have HF := Lib.hid (ZJ (H10.out.below hbo) O10.out _ [27, 91, 54, 110] hA1 (by decide));have HV11 := Lib.hid (HV10.out.below hbo);have HVB11 := Lib.hid (zm HVB10.out hbo (zj HVB10.out));clear hbo hA1 H10 HV10 HVB10;go_wp2_with fail;refine HF.out.mono ?_;rintro e w12 ⟨va2, C12, rfl, h12, p12, a12, o12⟩;rw [HEF2.out] at h12 a12 o12;obtain ⟨TO, hTO⟩ : ∃ TO : ByteArray, TO = ⟨t.scr.told.toArray⟩ := ⟨_, rfl⟩;have hcv2 := zN (P := Tryz.prog) Tryz.underlying38 Tryz.underlying5 Tryz.underlying9 (zU a12.own);rw [← hTO] at hcv2;have H12 := Lib.hid (show SR w1 C12 p w12 { t.scr with out := t.scr.told } qf from h12);have O12 := Lib.hid (show ({ t.scr with out := t.scr.told } : Scr).Ok m r from o12.scr);have HV12 := Lib.hid (HV11.out.next p12);have HVB12 := Lib.hid (p12.blk HVB11.out HZ10.out);have HTO := Lib.hid hTO;clear h12 p12 a12 o12 HF hkc HV11 HVB11 HZ10 O10 hTO HEF1 HEF2;have k1 : w12.cell? ⟨V, 1, none⟩ = some (.int .i64 x) := za HVB12.out 1;have k2 : w12.cell? ⟨V, 2, none⟩ = some (.int .i64 y) := za HVB12.out 2;have k5 : w12.cell? ⟨V, 5, none⟩ = some (.int .i64 mo) := za HVB12.out 5;go_upto_if 64 with fail;clear hcv2;obtain ⟨n1, n2, n3, n4, n5, n6⟩ := HN.out;obtain ⟨yy, hyy⟩ : ∃ yy : Int, yy = (if t.scr.has 4 then max 0 (y - tp) else y) := ⟨_, rfl⟩;have HYY := Lib.hid hyy;clear hyy;obtain ⟨z4, hzq⟩ : ∃ z4 : Int, z4 = zee mo 4 := ⟨_, rfl⟩;have hbits : bits BinOp.and IntKind.i64 mo 4 = z4 := (by rw [hzq]; rfl);have HH4 := Lib.hid (show t.scr.has 4 = (z4 != 0) from by
  rw [hzq, ← HFX.out.2.2.2.2.2.1];rfl)
 have hw5 : IntKind.i64.wrap (y - tp) = y - tp := zb _ (by omega) (by omega);clear hzq n1 n2 n3 n4 n5 n6 hz1 hz2 hz3 hz4 hs hs' hs2
 go_cut [12] (fun v wz => v = .int .i64 yy ∧ Hid (Below w12.heap.size w12 wz))
 case first =>
  by_cases h0 : z4 = 0
  ·have e1 : (z4 != 0) = false := (by rw [h0]; rfl);have e2 : (z4 == 0) = true := (by rw [h0]; rfl);have HYE := Lib.hid (show yy = y by rw [HYY.out, HH4.out, e1, if_neg (by decide)]);clear h0 k1;go_wp2_with fail;go_meet;exact ⟨by rw [HYE.out], Below.refl _ _⟩
  ·have e1 : (z4 != 0) = true := (by simp [h0]);have e2 : (z4 == 0) = false := beq_eq_false_iff_ne.2 h0;have HYE := Lib.hid (show yy = max 0 (y - tp) by rw [HYY.out, HH4.out, e1, if_pos rfl]);have hrg := zc9 H12.out;rw [show ({ t.scr with out := t.scr.told } : Scr).top = tp from HFX.out.2.2.1] at hrg;have HRG := Lib.hid hrg;clear h0 k1 hrg;go_wp2_with fail;refine HRG.out.mono ?_;rintro e w13 ⟨rfl, b13⟩;have HB13 := Lib.hid b13;clear b13;go_wp2_with fail;go_meet;exact ⟨by rw [HYE.out], HB13.out⟩
 case rest =>
  obtain ⟨rfl, HB13⟩ := hcut;obtain ⟨w13, rfl⟩ : ∃ z, z = wc := ⟨wc, rfl⟩;clear k1 k2 k5 hbits hw5;have H13 := Lib.hid (H12.out.below HB13.out);have HV13 := Lib.hid (HV12.out.below HB13.out);have HVB13 := Lib.hid (zm HVB12.out HB13.out (zj HVB12.out));clear H12 HV12 HVB12;have k0 : w13.cell? ⟨V, 0, none⟩ = some (.slice aa an ac) := za HVB13.out 0;have k1 : w13.cell? ⟨V, 1, none⟩ = some (.int .i64 x) := za HVB13.out 1;have k2 : w13.cell? ⟨V, 2, none⟩ = some (.int .i64 y) := za HVB13.out 2;have k3 : w13.cell? ⟨V, 3, none⟩ = some (.bool sh) := za HVB13.out 3;have k4 : w13.cell? ⟨V, 4, none⟩ = some (.bool wt) := za HVB13.out 4;have k5 : w13.cell? ⟨V, 5, none⟩ = some (.int .i64 mo) := za HVB13.out 5;have k6 : w13.cell? ⟨V, 6, none⟩ = some (.string ti) := za HVB13.out 6;obtain ⟨f1, f2, f3, f4, f5, f6, f7⟩ := HFX.out;have hval : ∀ rv, ({ t.scr with out := t.scr.told } : Scr).viewV rv = .agg #[rv, .int .i64 x, .int .i64 y, .bool sh, .bool wt, .int .i64 mo, .string ti] := fun rv => by
   rw [← f1, ← f2, ← f4, ← f5, ← f6, ← f7];rfl
  have HVW := Lib.hid (show Calls Tryz.prog 23 #[.pointer (some ⟨p, 0, none⟩)] w13.drew fun e w' => ∃ rv L, e = .returned (.agg #[rv, .int .i64 x, .int .i64 y, .bool sh, .bool wt, .int .i64 mo, .string ti]) ∧ L.map (·.2) = t.scr.viewL ∧ zbv 0 w' rv L ∧ Below w13.drew.heap.size w13.drew w' from by
   refine (zbz (H13.out.below (Below.refl _ _).drew) O12.out).mono ?_;rintro e w' ⟨rv, L, rfl, h1, h2, h3⟩;exact ⟨rv, L, by rw [hval], h1, h2.mono (Nat.zero_le _), h3⟩)
  clear hval f1 f2 f3 f4 f5 f6 f7;go_upto_region 14 with fail
  go_region_held3 (fun w' => w'.cell? ⟨V, 0, none⟩ = some (.slice aa an ac) ∧ w'.cell? ⟨V, 1, none⟩ = some (.int .i64 x) ∧ w'.cell? ⟨V, 2, none⟩ = some (.int .i64 y) ∧ w'.cell? ⟨V, 3, none⟩ = some (.bool sh) ∧ w'.cell? ⟨V, 4, none⟩ = some (.bool wt) ∧ w'.cell? ⟨V, 5, none⟩ = some (.int .i64 mo) ∧ w'.cell? ⟨V, 6, none⟩ = some (.string ti)) (first | exact ⟨k0, k1, k2, k3, k4, k5, k6⟩ | exact ⟨u0, u1, u2, u3, u4, u5, u6⟩)
   (first
    | (go_at_call 23; refine HVW.out.mono ?_; rintro e w14 ⟨rb, Lb, rfl, eb, vb, b14⟩; obtain ⟨ba, bn, bc, rfl⟩ := zu vb.row; have HB14 := Lib.hid ((Below.refl w13.heap.size w13).drew.trans b14); have u0 := zc HB14.out k0; have u1 := zc HB14.out k1; have u2 := zc HB14.out k2; have u3 := zc HB14.out k3; have u4 := zc HB14.out k4; have u5 := zc HB14.out k5; have u6 := zc HB14.out k6; have HVB14 := Lib.hid vb; have HEB := Lib.hid eb; clear vb eb b14)
    | (go_at_call 25; refine (zf0 x y mo sh wt ti _ _ La Lb w14 (HV13.out.view.below HB14.out) HVB14.out (HEA.out.trans HEB.out.symm) HLI.out.1 HLI.out.2).mono ?_; rintro e w15 ⟨rfl, b15⟩; have HB15 := Lib.hid (HB14.out.trans (b15.mono HB14.out.size)); have u0 := zc HB15.out k0; have u1 := zc HB15.out k1; have u2 := zc HB15.out k2; have u3 := zc HB15.out k3; have u4 := zc HB15.out k4; have u5 := zc HB15.out k5; have u6 := zc HB15.out k6; clear b15))
  clear k0 k1 k2 k3 k4 k5 k6 u0 u2 u3 u4 u5 u6;obtain ⟨n1, n2, n3, n4, n5, n6⟩ := HN.out;have hyr : 0 ≤ yy ∧ yy < 250 := by
   rw [HYY.out];split <;> omega
  have hwy : IntKind.i64.wrap (yy + 1) = yy + 1 := zb _ (by omega) (by omega);have hwx : IntKind.i64.wrap (x + 1) = x + 1 := zb _ (by omega) (by omega);have HD1 := Lib.hid (fun w => zeX (yy + 1) w (by omega) (by omega));have HD2 := Lib.hid (fun w => zeX (x + 1) w (by omega) (by omega));have hi1 := zbd (n := yy + 1) (by omega);have hi2 := zbd (n := x + 1) (by omega);obtain ⟨D1, hD1⟩ : ∃ D : ByteArray, D = ⟨(Lib.itoa (yy + 1)).toArray⟩ := ⟨_, rfl⟩;obtain ⟨D2, hD2⟩ : ∃ D : ByteArray, D = ⟨(Lib.itoa (x + 1)).toArray⟩ := ⟨_, rfl⟩;rw [← hD1] at HD1;rw [← hD2] at HD2;have s1 : D1.size ≤ 21 := (by rw [hD1]; exact Nat.le_trans (Nat.le_of_eq (List.size_toArray ..)) hi1);have s2 : D2.size ≤ 21 := (by rw [hD2]; exact Nat.le_trans (Nat.le_of_eq (List.size_toArray ..)) hi2);obtain ⟨S1, hS1⟩ : ∃ S : ByteArray, (⟨#[27, 91]⟩ : ByteArray) ++ D1 = S := ⟨_, rfl⟩;obtain ⟨S2, hS2⟩ : ∃ S : ByteArray, S1 ++ ⟨#[59]⟩ = S := ⟨_, rfl⟩;obtain ⟨S3, hS3⟩ : ∃ S : ByteArray, S2 ++ D2 = S := ⟨_, rfl⟩;have z1 : S1.size = 2 + D1.size := (by rw [← hS1, ByteArray.size_append]; rfl);have z2 : S2.size = S1.size + 1 := (by rw [← hS2, ByteArray.size_append]; rfl);have z3 : S3.size = S2.size + D2.size := (by rw [← hS3, ByteArray.size_append]);have hS4 : S3 ++ ⟨#[82]⟩ = TO := zod (by
   rw [zcN, ← hS3, zcN, ← hS2, zcN, ← hS1, zcN, hD1, hD2, HTO.out];unfold Scr.told;rw [HFX.out.1, HFX.out.2.1, HFX.out.2.2.1, ← HYY.out])
  have q5 : ¬ (9223372036854775807 < 2 + D1.size) := (by omega);have q6 : ¬ (9223372036854775807 < S1.size + 1) := (by omega);have q7 : ¬ (9223372036854775807 < S2.size + D2.size) := (by omega);have q8 : ¬ (9223372036854775807 < S3.size + 1) := (by omega);have HBF := Lib.hid (HW1.out.trans ((H13.out.below HB15.out).bl.mono HW1.out.size));clear n1 n2 n3 n4 n5 n6 hyr hi1 hi2 hD1 hD2 s1 s2 z1 z2 z3;go_upto_region 15 with fail;refine Zl (c := 16) (S := (fun zz w' => (w'.cell? ⟨V, 1, none⟩ = some (.int .i64 x)) ∧ (zz = false → True))) (by kernel_rfl) (⟨u1, fun _ => trivial⟩) (fun _ => ?_);refine zd false 0 (⟨u1, fun _ => trivial⟩) ?_;refine zd false 1 (⟨u1, fun _ => trivial⟩) ?_;refine zd false 2 (⟨u1, fun _ => trivial⟩) ?_;refine zd false 3 (⟨u1, fun _ => trivial⟩) ?_;refine zd false 4 (⟨u1, fun _ => trivial⟩) ?_;refine zd false 5 (⟨u1, fun _ => trivial⟩) ?_;refine zd false 6 (⟨u1, fun _ => trivial⟩) ?_;refine zd false 7 (⟨u1, fun _ => trivial⟩) ?_;refine zd false 8 (⟨u1, fun _ => trivial⟩) ?_;refine zd false 12 (⟨u1, fun _ => trivial⟩) ?_;refine zd false 13 (⟨u1, fun _ => trivial⟩) ?_;refine zd false 14 (⟨u1, fun _ => trivial⟩) ?_;refine zd false 15 (⟨u1, fun _ => trivial⟩) ?_;refine zt false 9 fun K hK => ?_;refine zbN rfl ?_;go_wp2_with fail;refine (HD1.out w15.drew).mono ?_;rintro e w16 ⟨rfl, b16⟩;have HB16 := Lib.hid ((Below.refl w15.heap.size w15).drew.trans b16);have u16 := zc HB16.out u1;refine hK.out _ _ (⟨u16, fun _ => trivial⟩) (fun _ => ?_);clear hK K b16
  try simp only [Act.put, List.setIfInBounds_toArray, List.set_cons_zero, List.set_cons_succ]
  refine zd false 10 (⟨u16, fun _ => trivial⟩) ?_;refine zd false 11 (⟨u16, fun _ => trivial⟩) ?_;refine zt true 16 fun K hK => ?_;refine zbN rfl ?_;go_wp2_with fail;refine (HD2.out w16).mono ?_;rintro e w17 ⟨rfl, b17⟩;have HB17 := Lib.hid (HB16.out.trans (b17.mono HB16.out.size));have u17 := zc HB17.out u1;refine hK.out _ _ (⟨u17, fun e => by cases e⟩) (fun _ => ?_);clear hK K b17
  try simp only [Act.put, List.setIfInBounds_toArray, List.set_cons_zero, List.set_cons_succ]
  refine zd true 17 (⟨u17, fun e => by cases e⟩) ?_;refine zd true 18 (⟨u17, fun e => by cases e⟩) ?_;refine zd true 19 (⟨u17, fun e => by cases e⟩) ?_;refine zd true 20 (⟨u17, fun e => by cases e⟩) ?_;refine zd true 21 (⟨u17, fun e => by cases e⟩) ?_;refine Zh (by kernel_rfl) ?_ _;have HBG := Lib.hid (HBF.out.trans (HB17.out.mono HBF.out.size));go_wp2_with fail;go_ret;exact ⟨rfl, HBG.out⟩
end
end Go.Proofs.YtlfdgkiliegaiaaGreatDoor
