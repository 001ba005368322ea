/- Texts laid together: K32 K33 U4 U5. -/
import Derived.Test.YtlfdgkiliegaiaaGreatDoorY1
import Derived.Test.YtlfdgkiliegaiaaGreatDoorY10
import Derived.Test.YtlfdgkiliegaiaaGreatDoorY11
import Derived.Test.YtlfdgkiliegaiaaGreatDoorY12
import Derived.Test.YtlfdgkiliegaiaaGreatDoorY14
import Derived.Test.YtlfdgkiliegaiaaGreatDoorY15
import Derived.Test.YtlfdgkiliegaiaaGreatDoorY16
import Derived.Test.YtlfdgkiliegaiaaGreatDoorY17
import Derived.Test.YtlfdgkiliegaiaaGreatDoorY18
import Derived.Test.YtlfdgkiliegaiaaGreatDoorY2
import Derived.Test.YtlfdgkiliegaiaaGreatDoorY20
import Derived.Test.YtlfdgkiliegaiaaGreatDoorY21
import Derived.Test.YtlfdgkiliegaiaaGreatDoorY22
import Derived.Test.YtlfdgkiliegaiaaGreatDoorY23
import Derived.Test.YtlfdgkiliegaiaaGreatDoorY25
import Derived.Test.YtlfdgkiliegaiaaGreatDoorY26
import Derived.Test.YtlfdgkiliegaiaaGreatDoorY27
import Derived.Test.YtlfdgkiliegaiaaGreatDoorY3
import Derived.Test.YtlfdgkiliegaiaaGreatDoorY4
import Derived.Test.YtlfdgkiliegaiaaGreatDoorY5
import Derived.Test.YtlfdgkiliegaiaaGreatDoorY6
import Derived.Test.YtlfdgkiliegaiaaGreatDoorY8
import Derived.Test.YtlfdgkiliegaiaaGreatDoorY9
import Derived.Lib.FrozenHead2
import Derived.Test.YtlfdgkiliegaiaaGreatDoorShelf
import Derived.Lib.Builder
import Derived.Lib.FrozenHead
import Derived.Lib.RuneBytes
import Derived.Lib.UnsafeStr
import Derived.Lib.SliceRun
import Derived.WalkSpells
import Derived.StillTailTactics
import Derived.Deep.RegionLaw
import Derived.Deep.DeepCutAuto
import Derived.Test.YtlfdgkiliegaiaaGreatDoorRows
import Derived.Deep.AppendSrc
import Derived.Lib.AppendStr
import Derived.ArgAppend
import Derived.Laws.IdiomCopy
import Derived.Laws.IdiomStrings
import Derived.Deep.Upon
import Derived.WalkKit
import Derived.WalkLawsBesides
import Derived.BigQuiet
import Derived.Lib.Hide
import Derived.Deep.QuietTactic
import Derived.Lib.AppendIntMem
import Derived.Lib.ItoaNum
import Derived.Lib.SlBytesConst
import Derived.Lib.ItoaLen
import Derived.Laws.Cover4
import Derived.ChangeKeysEq
import Derived.Deep.RegionHeld3
import Derived.Deep.MidRow
import Derived.Laws.ResultCell
import Derived.Deep.CutBlock
import Derived.Laws.EntriesVeiled
import Derived.Laws.StructEq
import Derived.Deep.DrawnRows
import Derived.WalkMore
import Derived.ScopeJumps
import Derived.Laws.Bits64b
import Derived.Lib.TrimU
import Derived.Lib.OthersKept
import Derived.Deep.LoopGhost
import Derived.ProofKit
import Derived.OpenShut
import Derived.JoinedCond
set_option linter.unusedVariables false
set_option linter.unusedSimpArgs false
namespace Go.Proofs.YtlfdgkiliegaiaaGreatDoor
section
open Go.RowKit
set_option maxRecDepth 100000
def Scr.quiet (s : Scr) : Scr := { s with out := [] }
theorem Scr.Ok.quiet {c r : Nat} {s : Scr} (h : s.Ok c r) : s.quiet.Ok c r := ⟨h.main, h.other, h.now, h.k0, h.k1, h.t0, h.tb, h.b1, h.tl, h.md⟩
def VAct.behind (a : VAct) (ps : PSt) : PSt := if a.ris then s0 else ps
theorem znR (a : VAct) (ps : PSt) (hk : a.kind = 3) : zaD a.byte a.inter.data.toList ps = a.behind ps := by
 unfold zaD ZZ VAct.behind VAct.ris;rw [hk];by_cases hi : a.inter.data.toList = []
 ·rw [if_pos hi, hi];by_cases hb : a.byte = 99
  ·rw [hb]; rfl
  ·have e : ¬ (a.byte.toNat : Int) = 99 := fun e => hb (by
    apply UInt8.toNat.inj;show a.byte.toNat = 99;omega)
   rw [if_neg e, beq_eq_false_iff_ne.2 hb];rfl
 ·rw [if_neg hi, beq_eq_false_iff_ne.2 hi];simp
theorem zeJ (a : VAct) (ps : PSt) (hk : ¬ a.kind = 3) : a.behind ps = ps := by
 unfold VAct.behind VAct.ris;rw [beq_eq_false_iff_ne.2 hk];rfl
def zo9 (B : World) (C : Nat → Nat) (p : Nat) (w : World) (s : Scr) (ps : PSt) (e : Ending) (w' : World) : Prop :=
 ∃ vo C', e = .returned vo ∧ SR B C' p w' s ps ∧ Pre C w C' w' ∧ zn w' 0 1 vo s.out.length (zk s.out) ∧ ∀ k, vo.ownBlock = some k → C' k ≠ 0
set_option maxHeartbeats 4000000 in
theorem znS {B : World} {C : Nat → Nat} {p c r : Nat} {w : World} {s : Scr} {ps : PSt} (h : SR B C p w s ps) (hok : s.Ok c r) (a : VAct) (v : Value) (hv : zaJ C w v a.params) (hr : -2147483648 ≤ a.rune ∧ a.rune ≤ 2147483647) (ht : a.text.size ≤ 1000000) (hlast : -2147483648 ≤ s.last ∧ s.last ≤ 2147483647) :
  Calls Tryz.prog 61 #[.pointer (some ⟨p, 0, none⟩), a.val v] w (zo9 B C p w (s.act a) (a.behind ps)) := by
 have hbx := zaW h hv;have hbb := (Below.refl w.heap.size w).alloc (Nat.le_refl _) (.cells (a.cells v).toArray 75);unfold VAct.cells at hbb;have HR0 := Lib.hid (h.below hbb);have HP0 := Lib.hid ((Pre.refl C w).below hbb);have HBX := Lib.hid hbx;have HOK := Lib.hid hok.quiet;have HRU := Lib.hid hr;have HTE := Lib.hid ht;have HLA := Lib.hid (show -2147483648 ≤ s.quiet.last ∧ s.quiet.last ≤ 2147483647 from hlast);clear hbx hbb hv h hok hr ht hlast;unfold VAct.val;obtain ⟨A, hA⟩ : ∃ A, A = w.heap.size := ⟨_, rfl⟩;rw [← hA] at HBX;have HBX2 := Lib.hid (show zaK a v A C (w.alloc (.cells #[.int .i64 a.kind, .int .i32 a.rune, .int .u8 (a.byte.toNat : Int), v, .string a.inter, .string a.text] 75)) from HBX.out);clear HBX;have hou := HR0.out.outs;obtain ⟨vo, c40, _, _, hk40⟩ := hou;have f40 := HR0.out.fz 40;obtain ⟨C1, h1, p1⟩ := hk40 _ _ (.slice none 0 0) [] (zr _ none) (zr _ _) (ZX _ _ _) (fun k e => by simp [Value.ownBlock] at e);have HR := Lib.hid (show SR B C1 p _ s.quiet ps from h1);have HP := Lib.hid (HP0.out.trans p1);have HB := Lib.hid (HBX2.out.next p1);clear hk40 h1 p1 HR0 HP0;go_enter Tryz.func61, Tryz.ntmps61;go_upto_region 2 with fail;rw [← hA] at *;clear hA c40 f40;generalize World.setCell (w.alloc (.cells #[.int .i64 a.kind, .int .i32 a.rune, .int .u8 (a.byte.toNat : Int), v, .string a.inter, .string a.text] 75)) ⟨p, 40, none⟩ (.slice none 0 0) = w1 at *;have a0 : w1.cell? ⟨A, 0, none⟩ = some (.int .i64 a.kind) := za HB.out.blk 0;have a1 : w1.cell? ⟨A, 1, none⟩ = some (.int .i32 a.rune) := za HB.out.blk 1;have a2 : w1.cell? ⟨A, 2, none⟩ = some (.int .u8 (a.byte.toNat : Int)) := za HB.out.blk 2;have a3 : w1.cell? ⟨A, 3, none⟩ = some (v) := za HB.out.blk 3;have a4 : w1.cell? ⟨A, 4, none⟩ = some (.string a.inter) := za HB.out.blk 4;have a5 : w1.cell? ⟨A, 5, none⟩ = some (.string a.text) := za HB.out.blk 5;by_cases hk : a.kind = 1
 ·have e1 : (a.kind == 1) = true := beq_iff_eq.2 hk;have HE := Lib.hid (show s.act a = s.quiet.print a.rune by
   unfold Scr.act;dsimp only;rw [if_pos hk];rfl)
  have HPA := Lib.hid (zeJ a ps (by omega));clear hk;go_wp2_with fail;refine (zfI HR.out HOK.out a.rune HRU.out).mono ?_;rintro e w7 ⟨rfl, C7, h7, p7⟩;rw [← HE.out] at h7;rw [← HPA.out] at h7;have H7 := Lib.hid h7;have P7 := Lib.hid (HP.out.trans p7);clear h7 p7 a0 a1 a2 a3 a4 a5;obtain ⟨vo7, c40, oo, tv, _⟩ := H7.out.outs;have HO := Lib.hid oo;have HT := Lib.hid tv;clear oo tv;go_wp2_with fail;exact zT rfl rfl rfl ⟨_, C7, rfl, H7.out, P7.out, HO.out, fun k e => by rw [(HT.out k e).1]; decide⟩
 have HK1 := Lib.hid hk;have n1 := hk;clear hk;by_cases hk : a.kind = 2
 ·have e1 : (a.kind == 1) = false := beq_eq_false_iff_ne.2 (by omega);have e2 : (a.kind == 2) = true := beq_iff_eq.2 hk;have HE := Lib.hid (show s.act a = s.quiet.control a.byte by
   unfold Scr.act;dsimp only;rw [if_neg HK1.out, if_pos hk];rfl)
  have HPA := Lib.hid (zeJ a ps (by omega));clear hk;go_wp2_with fail;refine (zhm HR.out HOK.out a.byte).mono ?_;rintro e w7 ⟨rfl, C7, h7, p7⟩;rw [← HE.out] at h7;rw [← HPA.out] at h7;have H7 := Lib.hid h7;have P7 := Lib.hid (HP.out.trans p7);clear h7 p7 a0 a1 a2 a3 a4 a5;obtain ⟨vo7, c40, oo, tv, _⟩ := H7.out.outs;have HO := Lib.hid oo;have HT := Lib.hid tv;clear oo tv;go_wp2_with fail;exact zT rfl rfl rfl ⟨_, C7, rfl, H7.out, P7.out, HO.out, fun k e => by rw [(HT.out k e).1]; decide⟩
 have HK2 := Lib.hid hk;have n2 := hk;clear hk;by_cases hk : a.kind = 3
 ·have e1 : (a.kind == 1) = false := beq_eq_false_iff_ne.2 (by omega);have e2 : (a.kind == 2) = false := beq_eq_false_iff_ne.2 (by omega);have e3 : (a.kind == 3) = true := beq_iff_eq.2 hk;have HE := Lib.hid (show s.act a = s.quiet.escape a.byte a.inter.data.toList by
   unfold Scr.act;dsimp only;rw [if_neg HK1.out, if_neg HK2.out, if_pos hk];rfl)
  have HPA := Lib.hid (znR a ps hk);have HCO := Lib.hid (zil HR.out HOK.out a v (show s.quiet.out.length ≤ 100000 from Nat.zero_le _));unfold VAct.val at HCO;clear hk;go_wp2_with fail;refine (HCO.out).mono ?_;rintro e w7 ⟨rfl, C7, h7, p7⟩;rw [← HE.out] at h7;rw [HPA.out] at h7;have H7 := Lib.hid h7;have P7 := Lib.hid (HP.out.trans p7);clear h7 p7 a0 a1 a2 a3 a4 a5;obtain ⟨vo7, c40, oo, tv, _⟩ := H7.out.outs;have HO := Lib.hid oo;have HT := Lib.hid tv;clear oo tv;go_wp2_with fail;exact zT rfl rfl rfl ⟨_, C7, rfl, H7.out, P7.out, HO.out, fun k e => by rw [(HT.out k e).1]; decide⟩
 have HK3 := Lib.hid hk;have n3 := hk;clear hk;by_cases hk : a.kind = 4
 ·have e1 : (a.kind == 1) = false := beq_eq_false_iff_ne.2 (by omega);have e2 : (a.kind == 2) = false := beq_eq_false_iff_ne.2 (by omega);have e3 : (a.kind == 3) = false := beq_eq_false_iff_ne.2 (by omega);have e4 : (a.kind == 4) = true := beq_iff_eq.2 hk;have HE := Lib.hid (show s.act a = s.quiet.csi a.byte a.params a.inter.data.toList by
   unfold Scr.act;dsimp only;rw [if_neg HK1.out, if_neg HK2.out, if_neg HK3.out, if_pos hk];rfl)
  have HPA := Lib.hid (zeJ a ps (by omega));have HCO := Lib.hid (zmT HR.out HOK.out a v HB.out.ap (show s.quiet.out.length ≤ 100000 from Nat.zero_le _) HLA.out);unfold VAct.val at HCO;clear hk;go_wp2_with fail;refine (HCO.out).mono ?_;rintro e w7 ⟨rfl, C7, h7, p7⟩;rw [← HE.out] at h7;rw [← HPA.out] at h7;have H7 := Lib.hid h7;have P7 := Lib.hid (HP.out.trans p7);clear h7 p7 a0 a1 a2 a3 a4 a5;obtain ⟨vo7, c40, oo, tv, _⟩ := H7.out.outs;have HO := Lib.hid oo;have HT := Lib.hid tv;clear oo tv;go_wp2_with fail;exact zT rfl rfl rfl ⟨_, C7, rfl, H7.out, P7.out, HO.out, fun k e => by rw [(HT.out k e).1]; decide⟩
 have HK4 := Lib.hid hk;have n4 := hk;clear hk;by_cases hk : a.kind = 5
 ·have e1 : (a.kind == 1) = false := beq_eq_false_iff_ne.2 (by omega);have e2 : (a.kind == 2) = false := beq_eq_false_iff_ne.2 (by omega);have e3 : (a.kind == 3) = false := beq_eq_false_iff_ne.2 (by omega);have e4 : (a.kind == 4) = false := beq_eq_false_iff_ne.2 (by omega);have e5 : (a.kind == 5) = true := beq_iff_eq.2 hk;have HE := Lib.hid (show s.act a = s.quiet.named a.text.data.toList by
   unfold Scr.act;dsimp only;rw [if_neg HK1.out, if_neg HK2.out, if_neg HK3.out, if_neg HK4.out, if_pos hk];rfl)
  have HPA := Lib.hid (zeJ a ps (by omega));clear hk;go_wp2_with fail;refine (zjq HR.out a.text HTE.out).mono ?_;rintro e w7 ⟨rfl, C7, h7, p7⟩;rw [← HE.out] at h7;rw [← HPA.out] at h7;have H7 := Lib.hid h7;have P7 := Lib.hid (HP.out.trans p7);clear h7 p7 a0 a1 a2 a3 a4 a5;obtain ⟨vo7, c40, oo, tv, _⟩ := H7.out.outs;have HO := Lib.hid oo;have HT := Lib.hid tv;clear oo tv;go_wp2_with fail;exact zT rfl rfl rfl ⟨_, C7, rfl, H7.out, P7.out, HO.out, fun k e => by rw [(HT.out k e).1]; decide⟩
 have HK5 := Lib.hid hk;have n5 := hk;clear hk;by_cases hk : a.kind = 6
 ·have e1 : (a.kind == 1) = false := beq_eq_false_iff_ne.2 (by omega);have e2 : (a.kind == 2) = false := beq_eq_false_iff_ne.2 (by omega);have e3 : (a.kind == 3) = false := beq_eq_false_iff_ne.2 (by omega);have e4 : (a.kind == 4) = false := beq_eq_false_iff_ne.2 (by omega);have e5 : (a.kind == 5) = false := beq_eq_false_iff_ne.2 (by omega);have e6 : (a.kind == 6) = true := beq_iff_eq.2 hk;have HE := Lib.hid (show s.act a = s.quiet.asked a.byte a.inter.data.toList a.text.data.toList by
   unfold Scr.act;dsimp only;rw [if_neg HK1.out, if_neg HK2.out, if_neg HK3.out, if_neg HK4.out, if_neg HK5.out, if_pos hk];rfl)
  have HPA := Lib.hid (zeJ a ps (by omega));have HCO := Lib.hid (zjv HR.out HOK.out a v HB.out.ap (show s.quiet.out.length ≤ 100000 from Nat.zero_le _));unfold VAct.val at HCO;clear hk;go_wp2_with fail;refine (HCO.out).mono ?_;rintro e w7 ⟨rfl, C7, h7, p7⟩;rw [← HE.out] at h7;rw [← HPA.out] at h7;have H7 := Lib.hid h7;have P7 := Lib.hid (HP.out.trans p7);clear h7 p7 a0 a1 a2 a3 a4 a5;obtain ⟨vo7, c40, oo, tv, _⟩ := H7.out.outs;have HO := Lib.hid oo;have HT := Lib.hid tv;clear oo tv;go_wp2_with fail;exact zT rfl rfl rfl ⟨_, C7, rfl, H7.out, P7.out, HO.out, fun k e => by rw [(HT.out k e).1]; decide⟩
 have HK6 := Lib.hid hk;have n6 := hk;clear hk;have e1 : (a.kind == 1) = false := beq_eq_false_iff_ne.2 n1;have e2 : (a.kind == 2) = false := beq_eq_false_iff_ne.2 n2;have e3 : (a.kind == 3) = false := beq_eq_false_iff_ne.2 n3;have e4 : (a.kind == 4) = false := beq_eq_false_iff_ne.2 n4;have e5 : (a.kind == 5) = false := beq_eq_false_iff_ne.2 n5;have e6 : (a.kind == 6) = false := beq_eq_false_iff_ne.2 n6;have HE := Lib.hid (show s.act a = s.quiet by
  unfold Scr.act;dsimp only;rw [if_neg n1, if_neg n2, if_neg n3, if_neg n4, if_neg n5, if_neg n6];rfl)
 have HPA := Lib.hid (zeJ a ps n3);clear n1 n2 n3 n4 n5 n6;have h7 := HR.out;rw [← HE.out] at h7;rw [← HPA.out] at h7;have H7 := Lib.hid h7;clear h7;obtain ⟨vo7, c40, oo, tv, _⟩ := H7.out.outs;have HO := Lib.hid oo;have HT := Lib.hid tv;clear oo tv;go_wp2_with fail;exact zT rfl rfl rfl ⟨_, C1, rfl, H7.out, HP.out, HO.out, fun k e => by rw [(HT.out k e).1]; decide⟩
end
section
open Go.RowKit
set_option maxRecDepth 100000
structure za3 (C : Nat → Nat) (w : World) (size : Nat) (v : Value) (n : Nat) (xs : List Value) (base : Nat) : Prop where
 own : zn w base size v n xs
 zero : ∀ k, v.ownBlock = some k → C k = 0
theorem za3.next {C C' : Nat → Nat} {w w' : World} {size : Nat} {v : Value} {n : Nat} {xs : List Value} {base : Nat} (h : za3 C w size v n xs base) (g : Pre C w C' w') : za3 C' w' size v n xs base := by
 have hn : ∀ k, v.ownBlock = some k → ¬ Go.Proofs.YtlfdgkiliegaiaaGreatDoor.own C w k := fun k hk e => by
  rcases e with e | e
  ·exact e (h.zero k hk)
  ·have := (zl h.own k hk).2; omega
 refine ⟨Zk h.own g.wi.size fun k hk => g.wi.block k (zl h.own k hk).2 (hn k hk), fun k hk => ?_⟩;by_cases e : C' k = 0
 ·exact e
 ·exact absurd (g.n k e) (hn k hk)
theorem za3.below {C : Nat → Nat} {w w' : World} {size : Nat} {v : Value} {n : Nat} {xs : List Value} {base : Nat} (h : za3 C w size v n xs base) (b : Below w.heap.size w w') : za3 C w' size v n xs base := h.next ((Pre.refl C w).below b)
structure ze9 (C : Nat → Nat) (w : World) (v : Value) (L : List (VAct × Value)) : Prop where
 arr : za3 C w 6 v L.length (zad L) 0
 par : ∀ x ∈ L, zaJ C w x.2 x.1.params
theorem ze9.next {C C' : Nat → Nat} {w w' : World} {v : Value} {L : List (VAct × Value)} (h : ze9 C w v L) (g : Pre C w C' w') : ze9 C' w' v L := ⟨h.arr.next g, fun x hx => (h.par x hx).next g⟩
theorem zmU {w : World} {base b off n c : Nat} {L : List (VAct × Value)} (h : zn w base 6 (.slice (some ⟨b, off, none⟩) n c) n (zad L)) (k : Nat) (hk : k < L.length) :
  w.cell? ⟨b, off + k * 6, none⟩ = some (.int .i64 L[k].1.kind) ∧ w.cell? ⟨b, off + k * 6 + 1, none⟩ = some (.int .i32 L[k].1.rune) ∧ w.cell? ⟨b, off + k * 6 + 2, none⟩ = some (.int .u8 (L[k].1.byte.toNat : Int)) ∧
  w.cell? ⟨b, off + k * 6 + 3, none⟩ = some L[k].2 ∧ w.cell? ⟨b, off + k * 6 + 4, none⟩ = some (.string L[k].1.inter) ∧ w.cell? ⟨b, off + k * 6 + 5, none⟩ = some (.string L[k].1.text) := by
 obtain ⟨e1, h2⟩ := h;rcases h2 with ⟨e, _⟩ | ⟨b', off', c', e, hb, hbs, hnc, hcm, hcells, hxs⟩
 ·simp at e
 ·simp only [Value.slice.injEq, Option.some.injEq, Addr.mk.injEq] at e;obtain ⟨⟨rfl, rfl, _⟩, _, rfl⟩ := e;have key : ∀ i u, i < 6 → (L[k].1.cells L[k].2)[i]? = some u → w.cell? ⟨b, off + (k * 6 + i), none⟩ = some u := fun i u hi hu => hxs _ u (by rw [ze0 L k hk i hi]; exact hu);exact ⟨key 0 _ (by decide) rfl, key 1 _ (by decide) rfl, key 2 _ (by decide) rfl, key 3 _ (by decide) rfl, key 4 _ (by decide) rfl, key 5 _ (by decide) rfl⟩
theorem zlk {w : World} {base b off n c : Nat} {l : List UInt8} (h : zn w base 1 (.slice (some ⟨b, off, none⟩) n c) l.length (zk l)) (k : Nat) (hk : k < l.length) :
  zn w base 1 (.slice (some ⟨b, off + k, none⟩) 1 (c - k)) 1 (zk [l.getD k 0]) := by
 obtain ⟨e1, h2⟩ := h;refine ⟨rfl, ?_⟩;rcases h2 with ⟨e, _⟩ | ⟨b', off', c', e, hb, hbs, hnc, hcm, hcells, hxs⟩
 ·simp at e
 ·simp only [Value.slice.injEq, Option.some.injEq, Addr.mk.injEq] at e;obtain ⟨⟨rfl, rfl, _⟩, _, rfl⟩ := e;refine .inr ⟨b, off + k, c - k, rfl, hb, hbs, by omega, by omega, fun j hj => ?_, fun j u hu => ?_⟩
  ·have := hcells (k + j) (by omega);rw [← Nat.add_assoc] at this;exact this
  ·match j, hu with
   | 0, hu =>
    refine hxs k u ?_;rw [← hu];unfold zk;rw [List.getElem?_map, List.getElem?_eq_getElem hk, List.getD_eq_getElem?_getD, List.getElem?_eq_getElem hk];rfl
   | j + 1, hu => simp [zk] at hu
theorem SR.grow {B : World} {C : Nat → Nat} {p : Nat} {w w' : World} {s : Scr} {ps : PSt} {row : Option Nat} (h : SR B C p w s ps) (g : w.grownBy w' row) (h0 : ∀ k, row = some k → C k = 0) (hB : ∀ k, row = some k → B.heap.size ≤ k) : SR B C p w' s ps := by
 refine h.other (C1 := fun k => if row = some k then 1 else 0) (ze.of_gb g fun k hk => .inl (by show (if row = some k then 1 else 0) ≠ 0; rw [if_pos hk]; decide)) (fun k hk => ?_) (fun k hk => ?_)
 ·show (if row = some k then 1 else 0) = 0;by_cases e : row = some k
  ·exact absurd (h0 k e) hk
  ·rw [if_neg e]
 ·have hk : (if row = some k then 1 else 0) ≠ 0 := hk;by_cases e : row = some k
  ·exact hB k e
  ·rw [if_neg e] at hk; exact absurd rfl hk
theorem Pre.grow {C C' : Nat → Nat} {w w1 w2 : World} {row : Option Nat} (g : Pre C w C' w1) (g2 : w1.grownBy w2 row) (h : ∀ k, row = some k → w.heap.size ≤ k) : Pre C w C' w2 := ⟨g.wi.trans (ze.of_gb g2 fun k hk => .inr (h k hk)), g.n⟩
def Apt (ov v : Value) (L : List (VAct × Value)) : Prop := ∀ k, ov.ownBlock = some k → v.ownBlock ≠ some k ∧ ∀ x ∈ L, x.2.ownBlock ≠ some k
theorem zaJ.grow {C : Nat → Nat} {w w' : World} {v : Value} {l : List Int} {row : Option Nat} (h : zaJ C w v l) (g : w.grownBy w' row) (hn : ∀ k, v.ownBlock = some k → row ≠ some k) : zaJ C w' v l := by
 refine ⟨?_, h.own⟩;rcases h.rd with h1 | ⟨a, c, rfl, h1, h2, h3⟩
 ·exact .inl h1
 ·refine .inr ⟨a, c, rfl, h1, h2, fun j hj => (zgF ?_).trans (h3 j hj)⟩;have hk := zho (h3 j hj);rw [zcR] at hk ⊢;exact g.block _ hk (fun e => hn a.block rfl e.symm)
theorem ze9.grow {C : Nat → Nat} {w w' : World} {v ov : Value} {L : List (VAct × Value)} (h : ze9 C w v L) (g : w.grownBy w' ov.ownBlock) (ha : Apt ov v L) : ze9 C w' v L :=
 ⟨⟨zx h.arr.own g fun k hk e => (ha k e).1 hk, h.arr.zero⟩, fun x hx => (h.par x hx).grow g fun k hk e => (ha k e).2 x hx hk⟩
theorem zj8 (s : PSt) (b : UInt8) : s.run [b] = s.step b := by
 unfold PSt.run PSt.run;simp
theorem zmV : (Tryz.prog.info? 75).map (·.size) = some 6 := by kernel_rfl
theorem znT {t1 : Trm} {l : List UInt8} {k : Nat} (hk : k < l.length) : t1.feed (l.drop k) = (((t1.byte (l.getD k 0)).1.feed (l.drop (k + 1))).1, (t1.byte (l.getD k 0)).2 ++ ((t1.byte (l.getD k 0)).1.feed (l.drop (k + 1))).2) := by
 rw [List.drop_eq_getElem_cons hk, List.getD_eq_getElem?_getD, List.getElem?_eq_getElem hk];rfl
theorem znU {t1 : Trm} {L : List (VAct × Value)} {j : Nat} (hj : j < L.length) : t1.acts ((L.drop j).map (·.1)) = (((t1.act L[j].1).acts ((L.drop (j + 1)).map (·.1))).1, (t1.act L[j].1).scr.out ++ ((t1.act L[j].1).acts ((L.drop (j + 1)).map (·.1))).2) := by
 rw [List.drop_eq_getElem_cons hj];rfl
def zoW (B : World) (C : Nat → Nat) (p c r : Nat) (w : World) (t : Trm) (l : List UInt8) (e : Ending) (w' : World) : Prop :=
 ∃ vo C', e = .returned vo ∧ SR B C' p w' (t.feed l).1.scr (t.feed l).1.par ∧ Pre C w C' w' ∧ za3 C' w' 1 vo (t.feed l).2.length (zk (t.feed l).2) w.heap.size ∧ (t.feed l).1.Ok c r
set_option maxHeartbeats 8000000 in
theorem ZJ {B : World} {C : Nat → Nat} {p c r : Nat} {w : World} {t : Trm} (h : SR B C p w t.scr t.par) (hok : t.Ok c r) (vb : Value) (l : List UInt8) (hb : za3 C w 1 vb l.length (zk l) 0) (hl : l.length ≤ 10000000) :
  Calls Tryz.prog 19 #[.pointer (some ⟨p, 0, none⟩), vb] w (zoW B C p c r w t l) := by
 have hnu := h.nums hok.scr;obtain ⟨ec, er⟩ := hnu.ok hok.scr;have hc1 : 1 ≤ c := (by have := hnu.c1; omega);have hr1 : 1 ≤ r := (by have := hnu.r1; omega);have hc2 : c ≤ 1000 := (by have := hnu.c2; omega);have hr2 : r ≤ 1000 := (by have := hnu.r2; omega);have HFL := Lib.hid (Trm.Ok.feed hc1 hr1 hc2 hr2 l hok);have HBY := Lib.hid (fun (t1 : Trm) (h1 : t1.Ok c r) (b : UInt8) => Trm.Ok.byte hc1 hr1 hc2 hr2 h1 b);have HACT := Lib.hid (fun (t1 : Trm) (h1 : t1.Ok c r) (a : VAct) (ha : AOk a) => h1.act hc1 hr1 hc2 hr2 ha);have H := Lib.hid h;have HB := Lib.hid hb;have HOK := Lib.hid hok;have hln := Za Tryz.underlying38 hb.own;clear hnu ec er hc1 hr1 hc2 hr2 h hb hok;go_enter Tryz.func19, Tryz.ntmps19;go_wp2_with fail
 go_loopw [5, 11] (fun vv iv wr => ∃ (k : Nat) (C1 : Nat → Nat) (t1 : Trm) (o : List UInt8) (ov : Value), ov = vv ∧ k ≤ l.length ∧ iv = .int .i64 k ∧ Hid (SR B C1 p wr t1.scr t1.par) ∧ Hid (Pre C w C1 wr) ∧ Hid (t1.Ok c r) ∧ Hid (za3 C1 wr 1 ov o.length (zk o) w.heap.size) ∧ o.length ≤ 2400 * k ∧ Hid ((t.feed l).1 = (t1.feed (l.drop k)).1 ∧ (t.feed l).2 = o ++ (t1.feed (l.drop k)).2)) (fun _ iv _ => l.length - (intOf iv).toNat)
 case atStart => exact ⟨0, C, t, [], .slice none 0 0, rfl, Nat.zero_le _, rfl, H, Pre.refl _ _, HOK, ⟨ZX _ _ _, fun k hk => by simp [Value.ownBlock] at hk⟩, Nat.le_refl _, rfl, rfl⟩
 case round =>
  obtain ⟨k, C1, t1, o, ov, rfl, hk, rfl, H1, P1, O1, A1, ho, HQ⟩ := hrel;obtain ⟨wo, rfl⟩ : ∃ wo, wo = wr := ⟨wr, rfl⟩;by_cases hlt : k < l.length;rotate_left
  ·have d1 : decide ((k : Int) < (l.length : Int)) = false := decide_eq_false (by omega);have d1' : decide (k < l.length) = false := decide_eq_false hlt;have hq := HQ.out;rw [List.drop_eq_nil_of_le (by omega), show t1.feed [] = (t1, []) from rfl, List.append_nil] at hq;have HQ2 := Lib.hid hq;clear hq;go_wp2_with fail;refine zT rfl rfl rfl ⟨_, C1, rfl, ?_, P1.out, ?_, HFL.out.1⟩
   ·rw [HQ2.out.1]; exact H1.out
   ·rw [HQ2.out.2]; exact A1.out
  have d1 : decide ((k : Int) < (l.length : Int)) = true := decide_eq_true (by omega);have d1' : decide (k < l.length) = true := decide_eq_true hlt;have hwk : IntKind.i64.wrap ((k : Int) + 1) = (k : Int) + 1 := zb _ (by omega) (by omega);have HBk := HB.out.next P1.out;obtain ⟨bb, fb, cb, e1, hcb, hcm⟩ := zF HBk.own (by omega);subst e1;have HOB := Lib.hid (zlk HBk.own k hlt);have HZB := Lib.hid (HBk.zero bb rfl);obtain ⟨T, q, hr, c39, ht6, hkp⟩ := H1.out.parser;have HT0 := Lib.hid (show T bb = 0 from by
   by_cases e : T bb = 0
   ·exact e
   ·have := ht6 bb e;rw [HZB.out] at this;cases this)
  have hbd := (Below.refl wo.heap.size wo).drew;have HFD := Lib.hid (zkO (.slice (some ⟨bb, fb + k, none⟩) 1 (cb - k)) [l.getD k 0] (hr.below hbd) ⟨zh HOB.out hbd, fun j hj => by
   have : bb = j := (by simpa [Value.ownBlock] using hj);rw [← this]; exact HT0.out⟩ (by show 1 ≤ 100000000; decide))
  have HKP := Lib.hid hkp;have HBD := Lib.hid hbd;have HPN := Lib.hid (show T p = 0 from by
   by_cases e : T p = 0
   ·exact e
   ·have e6 := ht6 p e;obtain ⟨_, _, _, _, _, _, _, _, hs⟩ := H1.out.sm;rw [hs.cp] at e6;cases e6)
  have HPL := Lib.hid H1.out.pl;have HNX := Lib.hid (znT (t1 := t1) hlt);clear hr hkp hbd HBk;go_upto_region 5 with fail;refine Zl (c := 9) (S := (fun bb w' => (w'.cell? ⟨p, 39, none⟩ = some (.pointer (some ⟨q, 0, none⟩))) ∧ (bb = false → True))) (by kernel_rfl) (⟨c39, fun _ => trivial⟩) (fun _ => ?_);refine zd false 0 (⟨c39, fun _ => trivial⟩) ?_;refine zd false 1 (⟨c39, fun _ => trivial⟩) ?_;refine zd false 2 (⟨c39, fun _ => trivial⟩) ?_;refine zd false 3 (⟨c39, fun _ => trivial⟩) ?_;refine zd false 4 (⟨c39, fun _ => trivial⟩) ?_;refine zd false 5 (⟨c39, fun _ => trivial⟩) ?_;refine zd false 6 (⟨c39, fun _ => trivial⟩) ?_;refine zd false 7 (⟨c39, fun _ => trivial⟩) ?_;refine zd false 11 (⟨c39, fun _ => trivial⟩) ?_;refine zt false 8 fun K hK => ?_;refine zi rfl ?_;go_wp2_with fail;refine hK.out _ _ (⟨c39, fun _ => trivial⟩) (fun _ => ?_);clear hK K
  try simp only [Act.put, List.setIfInBounds_toArray, List.set_cons_zero, List.set_cons_succ]
  refine zt true 9 fun K hK => ?_;refine zi rfl ?_;go_wp2_with fail;refine HFD.out.mono ?_;rintro e w3 ⟨v1, T2, L, rfl, ha, hw3, ht3, hr3, hac, hvo, hxo⟩;have z39 := (zv (hw3.block p (by exact HPL.out) (fun e => by
   rcases e with e | e
   ·exact e HPN.out
   ·have := HPL.out;have e' : wo.heap.size ≤ p := e;omega)) 39).trans c39
  have hl1 := Za Tryz.underlying111 hac.1.own;have HA3 := Lib.hid ha;have HW3 := Lib.hid hw3;have HT3 := Lib.hid ht3;have HR3 := Lib.hid hr3;have HAC := Lib.hid hac;have HVO := Lib.hid hvo;have HXO := Lib.hid hxo;refine hK.out _ _ (⟨z39, fun e => by cases e⟩) (fun _ => ?_);clear hK K ha hw3 ht3 hr3 hac hvo hxo
  try simp only [Act.put, List.setIfInBounds_toArray, List.set_cons_zero, List.set_cons_succ]
  refine zd true 10 (⟨z39, fun e => by cases e⟩) ?_;refine Zh (by kernel_rfl) ?_ _;go_wp2_with fail;obtain ⟨C3, h3, p3, z3⟩ := HKP.out w3 T2 _ ((ze.of_below HBD.out).trans (HW3.out.mono fun k hk => hk)) HR3.out (fun k hk => HT3.out k hk);rw [zj8] at h3;have hL : L.map (·.1) = (t1.par.step (l.getD k 0)).2 := (by rw [← zj8]; exact HA3.out);obtain ⟨g1, g2, _⟩ := zgE (l.getD k 0) O1.out.par;have hll : L.length ≤ 4 := by
   have e1 := congrArg List.length hL;rw [List.length_map] at e1;have := zgb t1.par (l.getD k 0);omega
  have HLO := Lib.hid (show ∀ x ∈ L, AOk x.1 from fun x hx => g2 _ (by rw [← hL]; exact List.mem_map_of_mem hx));have A3 := Lib.hid ((A1.out).next p3);have T3 := Lib.hid (show ze9 C3 w3 v1 L from ⟨⟨HAC.out.1.own, fun j hj => z3 j (HVO.out j hj) (HAC.out.1.tag j hj)⟩, fun x hx => ⟨zen (HAC.out.2 x hx).own, fun _ a n cc e => z3 _ (HXO.out x hx _ (by rw [e]; rfl)) ((HAC.out.2 x hx).tag _ (by rw [e]; rfl))⟩⟩);have P3 := Lib.hid (P1.out.trans p3);have AP3 := Lib.hid (show Apt ov v1 L from fun j hj => by
   have h0 := A1.out.zero j hj;have hlt := (zl A1.out.own j hj).2;have hno : ¬ Go.Proofs.YtlfdgkiliegaiaaGreatDoor.own T wo j := fun e => by
    rcases e with e | e
    ·have := ht6 j e;rw [h0] at this;cases this
    ·omega
   exact ⟨fun e => hno (HVO.out j e), fun x hx e => hno (HXO.out x hx j e)⟩)
  have HXL := Lib.hid (show ∀ n, w3.heap.size ≤ n → ∀ x ∈ L, ∀ k, x.2.ownBlock = some k → k < n from fun n hn x hx k hk => Nat.lt_of_lt_of_le (zl (HAC.out.2 x hx).own k hk).2 hn);have O3 := Lib.hid (show (⟨t1.scr, (t1.par.step (l.getD k 0)).1⟩ : Trm).Ok c r from ⟨O1.out.scr, O1.out.last, g1⟩);have HE3 := Lib.hid (show t1.byte (l.getD k 0) = (⟨t1.scr, (t1.par.step (l.getD k 0)).1⟩ : Trm).acts (L.map (·.1)) by rw [hL]; rfl);have H3 := Lib.hid h3;clear h3 p3 z3 hL g1 g2 z39 c39 HFD HKP HBD HPN HPL HOB HZB HT0 HA3 HW3 HT3 HR3 HAC HVO HXO H1 P1 A1 ht6;generalize l.getD k 0 = b at *;generalize hT : (⟨t1.scr, (t1.par.step b).1⟩ : Trm) = ta at *;have H3' := Lib.hid (show SR B C3 p w3 ta.scr ta.par by rw [← hT]; exact H3.out);clear H3 hT O1
  go_loopw [5, 25] (fun vv jv wi => ∃ (j : Nat) (C2 : Nat → Nat) (t2 : Trm) (o2 : List UInt8) (ov2 : Value), ov2 = vv ∧ j ≤ L.length ∧ jv = .int .i64 j ∧ Hid (SR B C2 p wi t2.scr t2.par) ∧ Hid (Pre C w C2 wi) ∧ Hid (t2.Ok c r) ∧ Hid (za3 C2 wi 1 ov2 o2.length (zk o2) w.heap.size) ∧ Hid (ze9 C2 wi v1 L) ∧ Hid (Apt ov2 v1 L) ∧ Hid (w3.heap.size ≤ wi.heap.size) ∧ o2.length ≤ 2400 * k + 600 * j ∧ Hid ((t1.byte b).1 = (t2.acts ((L.drop j).map (·.1))).1 ∧ o ++ (t1.byte b).2 = o2 ++ (t2.acts ((L.drop j).map (·.1))).2)) (fun _ jv _ => L.length - (intOf jv).toNat)
  case atStart => exact ⟨0, C3, ta, o, _, rfl, Nat.zero_le _, rfl, H3', P3, O3, A3, T3, AP3, Nat.le_refl _, by omega, by rw [HE3.out]; exact ⟨rfl, rfl⟩⟩
  case round =>
   obtain ⟨j, C2, t2, o2, ov2, rfl, hj, rfl, H2, P2, O2, A2, T2, AP2, HSX, ho2, HQ2⟩ := hrel;obtain ⟨wi, rfl⟩ : ∃ wi, wi = wr := ⟨wr, rfl⟩;by_cases hjl : j < L.length;rotate_left
   ·have d2 : decide ((j : Int) < (L.length : Int)) = false := decide_eq_false (by omega);have d2' : decide (j < L.length) = false := decide_eq_false hjl;have hq2 := HQ2.out;rw [List.drop_eq_nil_of_le (by omega), List.map_nil, show t2.acts [] = (t2, []) from rfl, List.append_nil] at hq2;have HQ3 := Lib.hid hq2;clear hq2;go_wp2_with fail;go_roundw
    case rel =>
     refine ⟨k + 1, C2, t2, o2, _, rfl, by omega, by go_num, H2, P2, O2, A2, by omega, ?_⟩;have hq := HQ.out;rw [HNX.out, ← List.append_assoc, HQ3.out.1, HQ3.out.2] at hq;exact hq
    case measure => simp [intOf]; omega
   have d2 : decide ((j : Int) < (L.length : Int)) = true := decide_eq_true (by omega);have d2' : decide (j < L.length) = true := decide_eq_true hjl;have hwj : IntKind.i64.wrap ((j : Int) + 1) = (j : Int) + 1 := zb _ (by omega) (by omega);obtain ⟨va, fa, ca, e2, _, _⟩ := zF T2.out.arr.own (by omega);subst e2;obtain ⟨q0, q1, q2, q3, q4, q5⟩ := zmU T2.out.arr.own j hjl;have hix := ZN (P := Tryz.prog) (size := 6) Tryz.underlying111 zmV va fa L.length ca j hjl;have hap := T2.out.par _ (List.getElem_mem hjl);have hao := HLO.out _ (List.getElem_mem hjl);have HN2 := Lib.hid (znU (t1 := t2) hjl);generalize L[j] = x at *;obtain ⟨⟨kind, rune, byte, params, inter, text⟩, vp⟩ := x;dsimp only at q0 q1 q2 q3 q4 q5 hap hao HN2;have hrt := zih hao;obtain ⟨va2, vn, vc, rfl⟩ : ∃ a n c, vp = Value.slice a n c := by
    rcases hap.rd with ⟨h, _⟩ | ⟨a', c', h, _⟩
    ·exact ⟨_, _, _, h⟩
    ·exact ⟨_, _, _, h⟩
   have hba := (Below.refl wi.heap.size wi).alloc (Nat.le_refl _) (.cells #[.int .i64 kind, .int .i32 rune, .int .u8 (byte.toNat : Int), .slice va2 vn vc, .string inter, .string text] 75);have HD := Lib.hid (znS (H2.out.below hba) O2.out.scr ⟨kind, rune, byte, params, inter, text⟩ (.slice va2 vn vc) (hap.below hba) hrt.1 hrt.2 O2.out.last);unfold VAct.val at HD;dsimp only at HD;have HBA := Lib.hid hba;have HOA := Lib.hid (HACT.out t2 O2.out ⟨kind, rune, byte, params, inter, text⟩ hao);clear hap hao hrt hba;go_wp2_with fail;refine HD.out.mono ?_;rintro e w5 ⟨vo, C5, rfl, h5, p5, oo5, z5⟩;have H5 := Lib.hid (show SR B C5 p w5 (t2.act ⟨kind, rune, byte, params, inter, text⟩).scr (t2.act ⟨kind, rune, byte, params, inter, text⟩).par from h5);have P5a := Lib.hid ((Pre.refl C2 wi).below HBA.out |>.trans p5);have OO5 := Lib.hid (show zn w5 0 1 vo (t2.act ⟨kind, rune, byte, params, inter, text⟩).scr.out.length (zk (t2.act ⟨kind, rune, byte, params, inter, text⟩).scr.out) from oo5);have O5 := Lib.hid HOA.out.1;have hl5 := HOA.out.2;clear h5 p5 oo5 z5 q0 q1 q2 q3 q4 q5 hix HD HOA HBA;have P5 := Lib.hid (P2.out.trans P5a.out);have A5 := Lib.hid (A2.out.next P5a.out);have T5 := Lib.hid (T2.out.next P5a.out);have hs5 := P5a.out.wi.size;have hs0 := P2.out.wi.size;have HVX := Lib.hid (show ∀ x ∈ L, ∀ k, x.2.ownBlock = some k → k < w5.heap.size from HXL.out _ (Nat.le_trans HSX.out hs5));clear P5a O2 H2 P2 A2 T2;generalize t2.act ⟨kind, rune, byte, params, inter, text⟩ = t3 at *;go_wp2_with (at_builtin; refine zaz ?_);unfold zay;refine zeY Z6 rfl rfl w.heap.size A5.out.own rfl (zdk Tryz.underlying38 (zU OO5.out) (zlw _)) rfl (by unfold maxLen; omega) (by omega) (by omega) ?_;intro v6 w6 o6 g6 n6;have hov := zl A5.out.own;have H6 := Lib.hid (H5.out.grow g6 A5.out.zero (fun q hq => Nat.le_trans H.out.bl.size (hov q hq).1));have P6 := Lib.hid (P5.out.grow g6 (fun q hq => (hov q hq).1));have T6 := Lib.hid (T5.out.grow g6 AP2.out);have AP6 := Lib.hid (show Apt v6 (.slice (some ⟨va, fa, none⟩) L.length ca) L from fun q hq => by
    rcases n6 q hq with e | e
    ·exact AP2.out q e
    ·refine ⟨fun e2 => ?_, fun x hx e2 => ?_⟩
     ·have := (zl T5.out.arr.own q e2).2;omega
     ·have := HVX.out x hx q e2;omega)
   have A6 := Lib.hid (show za3 C5 w6 1 v6 (o2 ++ t3.scr.out).length (zk (o2 ++ t3.scr.out)) w.heap.size from ⟨by rw [List.length_append, ZB]; exact o6, fun q hq => by
    rcases n6 q hq with e | e
    ·exact A5.out.zero q e
    ·exact H5.out.free e⟩)
   have HS6 := Lib.hid (show w3.heap.size ≤ w6.heap.size from Nat.le_trans (Nat.le_trans HSX.out hs5) g6.size);clear o6 g6 n6 hov;go_wp2_with fail;go_roundw
   case rel =>
    refine ⟨j + 1, C5, t3, o2 ++ t3.scr.out, _, rfl, by omega, by go_num, H6, P6, O5, A6, T6, AP6, HS6, by rw [List.length_append]; omega, ?_⟩;have hq := HQ2.out;rw [HN2.out, ← List.append_assoc] at hq;exact hq
   case measure => simp [intOf]; omega
end
section
open Go.RowKit
set_option maxRecDepth 100000
attribute [local go_sem ↓] Go.wp_at_zero Go.wp_at_succ
theorem zcs {B : World} {C : Nat → Nat} {p : Nat} {w : World} {s : Scr} {ps : PSt} (h : SR B C p w s ps) (e : TypeId) (l : List UInt8) (A : Array Value) (hA : A.toList = zk l) (hm : l.length ≤ 1000000) :
  za3 C (w.alloc (.cells A e (A.size, A.size + 1))) 1 (.slice (some ⟨w.heap.size, 0, none⟩) l.length l.length) l.length (zk l) 0 :=
 ⟨zM (zjx w e l A hA (by unfold maxLen; omega)) (Nat.zero_le _), fun k hk => by
  simp [Value.ownBlock] at hk;exact h.free (by omega)⟩
theorem Pre.blk {C C' : Nat → Nat} {w w' : World} {k : Nat} {o : Obj} (g : Pre C w C' w') (h : w.heap[k]? = some o) (h0 : C k = 0) : w'.heap[k]? = some o :=
 (g.wi.block k (zj h) (fun e => by
  have := zj h;rcases e with e | e
  ·exact e h0
  ·omega)).trans h
theorem zll {B : World} {C : Nat → Nat} {p : Nat} {w w2 : World} {s : Scr} {ps : PSt} {size : Nat} {v : Value} {n : Nat} {xs : List Value} (h : SR B C p w s ps) (o : zn w2 w.heap.size size v n xs) : za3 C w2 size v n xs w.heap.size := ⟨o, fun _ hk => h.free (zl o _ hk).1⟩
theorem zlm : zda.1.scr.texts = [[97, 98, 99, 100], [101]] := by kernel_rfl
theorem zmW : zlb.1.scr.now.pen = ⟨1, -1, 1⟩ := by kernel_rfl
theorem zpa {w : World} {base b off c : Nat} {t0 t1 : List UInt8} (h : zn w base 1 (.slice (some ⟨b, off, none⟩) 2 c) 2 (zcO [t0, t1])) : w.cell? ⟨b, off, none⟩ = some (.string ⟨t0.toArray⟩) ∧ w.cell? ⟨b, off + 1, none⟩ = some (.string ⟨t1.toArray⟩) := by
 have h0 := (za9 h 0 (by decide)).1;have h1 := (za9 h 1 (by decide)).1;exact ⟨h0, h1⟩
set_option maxHeartbeats 4000000 in
theorem zcP (w : World) (ht : zcx w) :
  Calls Tryz.prog 11 #[] w fun e w' => e = .returned (.bool true) ∧ Below w.heap.size w w' := by
 have HN := Lib.hid (zfW 4 2 10 w (by decide) (by decide) (by decide) (by decide) (by decide) ht);have HO1 := Lib.hid (zfV (c := 4) (r := 2) (l := 10) (by decide) (by decide));clear ht;go_enter Tryz.func11, Tryz.ntmps11;go_wp2_with fail;refine HN.out.mono ?_;rintro e w1 ⟨p, C1, rfl, h1⟩;have hkc := zf3 w1 #[.int .u8 97, .int .u8 98, .int .u8 99, .int .u8 100, .int .u8 101] 5 5;have hA1 := zcs h1 5 zoA #[.int .u8 97, .int .u8 98, .int .u8 99, .int .u8 100, .int .u8 101] rfl (by decide);have HF1 := Lib.hid (ZJ (t := ⟨za4 4 2 10, s0⟩) (h1.below (Zy w1 (.cells #[.int .u8 97, .int .u8 98, .int .u8 99, .int .u8 100, .int .u8 101] 5 (5, 6)))) HO1.out _ zoA hA1 (by decide));clear h1 hA1 HN HO1;go_wp2_with fail;refine HF1.out.mono ?_;rintro e w2 ⟨vo, C2, rfl, h2, _, a2, o2⟩;have H2 := Lib.hid (show SR w C2 p w2 zda.1.scr zda.1.par from h2);have O2 := Lib.hid (show zda.1.Ok 4 2 from o2);have a2' : za3 C2 w2 1 vo zda.2.length (zk zda.2) _ := a2;rw [zoU] at a2';have hln2 := Za Tryz.underlying38 a2'.own;clear h2 a2 o2 a2' hkc HF1;go_wp2_with fail;refine (zjn H2.out O2.out.scr).mono ?_;rintro e w3 ⟨rv, rfl, r3, b3⟩;rw [zlm] at r3;have H3 := Lib.hid (H2.out.below b3);obtain ⟨rb, ro, rc, rfl, _, _⟩ := zF r3 (by decide);have R3 := Lib.hid (zll H2.out r3);have hzf := fun k => (H2.out.below b3).free (k := k);have hln3 := Za Tryz.underlying66 r3;clear r3 b3 H2;go_wp2_with fail;refine (zbz H3.out O2.out.scr).mono ?_;rintro e w4 ⟨vv, L, hvv, _, hvr, b4⟩;obtain ⟨va, vn, vc, rfl⟩ := zu hvr.row;have hve : zda.1.scr.viewV (.slice va vn vc) = .agg #[.slice va vn vc, .int .i64 1, .int .i64 1, .bool true, .bool false, .int .i64 9, .string ⟨zda.1.scr.title.toArray⟩] := by
  unfold Scr.viewV;rw [zej.1, zej.2.1, zej.2.2.1, zej.2.2.2.1, zej.2.2.2.2]
 rw [hve] at hvv;subst hvv;generalize zda.1.scr.title.toArray = ti at *;have H4 := Lib.hid (H3.out.below b4);have R4 := Lib.hid (R3.out.below b4);have hbo := Zy w4 (.cells #[.slice va vn vc, .int .i64 1, .int .i64 1, .bool true, .bool false, .int .i64 9, .string ⟨ti⟩] 47);have HVB := Lib.hid (zE w4 (.cells #[.slice va vn vc, .int .i64 1, .int .i64 1, .bool true, .bool false, .int .i64 9, .string ⟨ti⟩] 47));have H5 := Lib.hid (H4.out.below hbo);have R5 := Lib.hid (R4.out.below hbo);have HZ := Lib.hid (H4.out.free (Nat.le_refl w4.heap.size));clear hve hvr b4 hbo hzf H3 R3 H4 R4;obtain ⟨V, hV⟩ : ∃ V, V = w4.heap.size := ⟨_, rfl⟩;have HV := Lib.hid hV;go_upto_region 7 with fail;rw [← hV] at HVB HZ;rw [← hV];clear hV;obtain ⟨w5, hw5⟩ : ∃ w5, w5 = w4.alloc (.cells #[.slice va vn vc, .int .i64 1, .int .i64 1, .bool true, .bool false, .int .i64 9, .string ⟨ti⟩] 47) := ⟨_, rfl⟩;rw [← hw5] at HVB H5 R5;rw [← hw5];clear hw5 HV;have hkc := zf3 w5 #[.int .u8 27, .int .u8 91, .int .u8 50, .int .u8 59, .int .u8 51, .int .u8 72, .int .u8 27, .int .u8 91, .int .u8 54, .int .u8 110, .int .u8 27, .int .u8 91, .int .u8 49, .int .u8 59, .int .u8 51, .int .u8 49, .int .u8 109] 17 17;have hA1 := zcs H5.out 5 zoB #[.int .u8 27, .int .u8 91, .int .u8 50, .int .u8 59, .int .u8 51, .int .u8 72, .int .u8 27, .int .u8 91, .int .u8 54, .int .u8 110, .int .u8 27, .int .u8 91, .int .u8 49, .int .u8 59, .int .u8 51, .int .u8 49, .int .u8 109] rfl (by decide);have hbo := Zy w5 (.cells #[.int .u8 27, .int .u8 91, .int .u8 50, .int .u8 59, .int .u8 51, .int .u8 72, .int .u8 27, .int .u8 91, .int .u8 54, .int .u8 110, .int .u8 27, .int .u8 91, .int .u8 49, .int .u8 59, .int .u8 51, .int .u8 49, .int .u8 109] 5 (17, 18));have HF2 := Lib.hid (ZJ (t := zda.1) (H5.out.below hbo) O2.out _ zoB hA1 (by decide));have R6 := Lib.hid (R5.out.below hbo);have HV6 := Lib.hid (zm HVB.out hbo (zj HVB.out));clear H5 R5 HVB hA1 hbo O2;go_wp2_with fail;refine HF2.out.mono ?_;rintro e w7 ⟨vo2, C7, rfl, h7, p7, a7, _⟩;have H7 := Lib.hid (show SR w C7 p w7 zlb.1.scr zlb.1.par from h7);have a7' : zn w7 _ 1 vo2 zlb.2.length (zk zlb.2) := a7.own;rw [zoV] at a7';have hcv := zN (P := Tryz.prog) (l := [27, 91, 50, 59, 51, 82]) Tryz.underlying38 Tryz.underlying5 Tryz.underlying9 (zU a7');have hb7 := p7.blk HV6.out HZ.out;obtain ⟨s7a, s7b⟩ := zpa (R6.out.next p7).own;have k1 : w7.cell? ⟨V, 1, none⟩ = some (.int .i64 1) := za hb7 1;have k2 : w7.cell? ⟨V, 2, none⟩ = some (.int .i64 1) := za hb7 2;have k3 : w7.cell? ⟨V, 3, none⟩ = some (.bool true) := za hb7 3;have k4 : w7.cell? ⟨V, 4, none⟩ = some (.bool false) := za hb7 4;have k5 : w7.cell? ⟨V, 5, none⟩ = some (.int .i64 9) := za hb7 5;have hst := zbO H7.out;rw [zmW] at hst;have HST := Lib.hid hst;have hq := fun wx => znP 1 1 1 1 true false true false wx;have hgd := fun (x y : Operand) u v wx => zgM .eql x y u v wx;have hqs := fun wx => zdt ⟨1, -1, 1⟩ ⟨1, -1, 1⟩ wx;have hgs := fun (x y : Operand) wx => zby .eql x y ⟨1, -1, 1⟩ ⟨1, -1, 1⟩ wx;unfold Sty.val at hqs hgs;clear h7 p7 a7 a7' hb7 HF2 R6 HV6 HZ hkc hst;go_wp2_with fail;refine HST.out.mono ?_;rintro e w8 ⟨rfl, b8⟩;have HB := Lib.hid (H7.out.below b8).bl;unfold Sty.val;go_wp2_with fail;go_ret;exact ⟨rfl, HB.out⟩
end
section
open Go.RowKit
set_option maxRecDepth 100000
attribute [local go_sem ↓] Go.wp_at_zero Go.wp_at_succ
theorem zaR (w : World) (s : ByteArray) (hm : s.size ≤ 10000000) :
  ∃ v w', (convert 9 38 (.string s)).run Tryz.prog w = .ok v w' ∧ Below w.heap.size w w' ∧ ∀ B C p t pt, SR B C p w t pt → za3 C w' 1 v s.data.toList.length (zk s.data.toList) 0 := by
 obtain ⟨v, w', h1, h2, h3⟩ := ziV (P := Tryz.prog) w 9 38 5 s Tryz.underlying9 Tryz.underlying38 Tryz.underlying5 (by unfold maxLen; omega);exact ⟨v, w', h1, zkN h3, fun B C p t pt hr => ⟨zM (zix h2 rfl) (Nat.zero_le _), fun k hk => hr.free (zl h2 k hk).1⟩⟩
end
end Go.Proofs.YtlfdgkiliegaiaaGreatDoor
