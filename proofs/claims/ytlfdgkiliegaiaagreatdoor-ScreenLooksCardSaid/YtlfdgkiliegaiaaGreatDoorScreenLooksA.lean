/- Texts laid together: Q1zScreenLooks ArgOzScreenLooks Z10zScreenLooks Z11zScreenLooks Z15zScreenLooks U5zScreenLooks ArgSzScreenLooks. -/
import Derived.Test.YtlfdgkiliegaiaaGreatDoorY1
import Derived.Test.YtlfdgkiliegaiaaGreatDoorY11
import Derived.Test.YtlfdgkiliegaiaaGreatDoorY12
import Derived.Test.YtlfdgkiliegaiaaGreatDoorY13
import Derived.Test.YtlfdgkiliegaiaaGreatDoorY14
import Derived.Test.YtlfdgkiliegaiaaGreatDoorY15
import Derived.Test.YtlfdgkiliegaiaaGreatDoorY17
import Derived.Test.YtlfdgkiliegaiaaGreatDoorY2
import Derived.Test.YtlfdgkiliegaiaaGreatDoorY20
import Derived.Test.YtlfdgkiliegaiaaGreatDoorY22
import Derived.Test.YtlfdgkiliegaiaaGreatDoorY25
import Derived.Test.YtlfdgkiliegaiaaGreatDoorY26
import Derived.Test.YtlfdgkiliegaiaaGreatDoorY28
import Derived.Test.YtlfdgkiliegaiaaGreatDoorY3
import Derived.Test.YtlfdgkiliegaiaaGreatDoorY4
import Derived.Test.YtlfdgkiliegaiaaGreatDoorY5
import Derived.Test.YtlfdgkiliegaiaaGreatDoorY6
import Derived.Test.YtlfdgkiliegaiaaGreatDoorY8
import Derived.Test.YtlfdgkiliegaiaaGreatDoorY9
import Derived.Deep.RegionLaw
import Derived.Deep.DeepCutAuto
import Derived.Test.YtlfdgkiliegaiaaGreatDoorRows
import Derived.Deep.AppendSrc
import Derived.Lib.AppendStr
import Derived.Lib.FrozenHead
import Derived.ArgAppend
import Derived.Laws.IdiomCopy
import Derived.Laws.IdiomStrings
import Derived.Deep.Upon
import Derived.WalkKit
import Derived.WalkSpells
import Derived.WalkLawsBesides
import Derived.BigQuiet
import Derived.Lib.Hide
import Derived.Deep.QuietTactic
import Derived.Lib.AppendIntMem
import Derived.Lib.ItoaNum
import Derived.ProofKit
import Derived.OpenShut
import Derived.JoinedCond
import Derived.Lib.ItoaLen
import Derived.Deep.RegionHeld3
import Derived.Test.YtlfdgkiliegaiaaGreatDoorShelf
import Derived.Lib.Builder
import Derived.Lib.RuneBytes
import Derived.Lib.UnsafeStr
import Derived.Lib.SliceRun
import Derived.StillTailTactics
import Derived.Laws.ResultCell
import Derived.Deep.CutBlock
import Derived.Laws.EntriesVeiled
import Derived.Laws.StructEq
import Derived.Deep.DrawnRows
import Derived.Laws.Cover4
import Derived.WalkMore
import Derived.ScopeJumps
import Derived.Lib.SlBytesConst
import Derived.Laws.Bits64b
import Derived.ChangeKeysEq
import Derived.Deep.MidRow
import Derived.Lib.FrozenHead2
import Derived.Lib.TrimU
import Derived.Lib.OthersKept
import Derived.Deep.LoopGhost
set_option linter.unusedVariables false
set_option linter.unusedSimpArgs false
namespace Go.Proofs.YtlfdgkiliegaiaaGreatDoor
section
open Go.RowKit
def Sty.vals (s : Sty) : List Value := [.int .i64 s.fg, .int .i64 s.bg, .int .i64 s.attr]
end
section
open Go.ChangeShapes Go.WideShapes Go.ChangeAt Go.RowKit Go.ChangeMaps
theorem zg5 : Tryz.prog.cellsOf 3 = 1 := by kernel_rfl
theorem zg6 : Tryz.prog.cellsOf 35 = 3 := by kernel_rfl
theorem zlX {α : Type} {l : List α} (h : l.length = 3) : ∃ c0 c1 c2, l = [c0, c1, c2] := by
 match l, h with
 | [c0, c1, c2], _ => exact ⟨c0, c1, c2, rfl⟩
theorem ziR {z : Int} (h : (Lit.int .i64 z).wf = true) : I64 z := by
 simp only [Lit.wf, Bool.and_eq_true, decide_eq_true_eq] at h;exact h
theorem ziS {H : Type} {enc : TypeId × Value → H} {W : World} {fuel : Nat} {cs : List Value} {x : DataW H × List MemPlace}
  (h : DataW.trod enc Tryz.prog W 0 (fun _ => true) true fuel 35 cs = some x) : ∃ s : Sty, cs = s.vals ∧ I64 s.fg ∧ I64 s.bg ∧ I64 s.attr := by
 obtain ⟨xs, n, rfl, rfl, hl, hxl, hf⟩ := DataW.trod_struct Tryz.underlying35 h;rw [zg6] at hl;obtain ⟨c0, c1, c2, rfl⟩ := zlX hl;obtain ⟨y0, y1, y2, rfl⟩ := zlX hxl;have h0 : DataW.trod enc Tryz.prog W 0 (fun _ => true) true n 3 (([c0, c1, c2].drop 0).take (Tryz.prog.cellsOf 3)) = some y0 := hf 0 _ rfl;have h1 : DataW.trod enc Tryz.prog W 0 (fun _ => true) true n 3 (([c0, c1, c2].drop 1).take (Tryz.prog.cellsOf 3)) = some y1 := hf 1 _ rfl;have h2 : DataW.trod enc Tryz.prog W 0 (fun _ => true) true n 3 (([c0, c1, c2].drop 2).take (Tryz.prog.cellsOf 3)) = some y2 := hf 2 _ rfl;rw [zg5] at h0 h1 h2;simp only [List.drop_zero, List.drop_succ_cons, List.take_succ_cons, List.take_zero] at h0 h1 h2;obtain ⟨z0, e0, _, w0⟩ := DataW.trod_int Tryz.underlying3 h0;obtain ⟨z1, e1, _, w1⟩ := DataW.trod_int Tryz.underlying3 h1;obtain ⟨z2, e2, _, w2⟩ := DataW.trod_int Tryz.underlying3 h2;simp only [List.cons.injEq, and_true] at e0 e1 e2;subst e0 e1 e2;exact ⟨⟨z0, z1, z2⟩, rfl, ziR w0, ziR w1, ziR w2⟩
end
section
open Go.RowKit
theorem zdL {x : Nat} (h : x < 2 ^ 63) : IntKind.i64.wrap ((x : Nat) : Int) = x := zb _ (by omega) (by omega)
theorem zkp {a i : Nat} (h : a < 1024) (hi : 10 ≤ i) : a.testBit i = false := by
 refine Nat.testBit_lt_two_pow (Nat.lt_of_lt_of_le h ?_);show 2 ^ 10 ≤ 2 ^ i;exact Nat.pow_le_pow_right (by decide) hi
theorem zoN {a b : Nat} (ha : a < 1024) (hb : b < 1024) : bOr a b = ((a ||| b : Nat) : Int) := by
 unfold bOr;rw [BitVec.ofInt_natCast, BitVec.ofInt_natCast, BitVec.toNat_or, BitVec.toNat_ofNat, BitVec.toNat_ofNat, Nat.mod_eq_of_lt (by omega), Nat.mod_eq_of_lt (by omega)];exact zdL (Nat.lt_of_lt_of_le (Nat.or_lt_two_pow (n := 10) ha hb) (by decide))
theorem zoj {a b : Nat} (ha : a < 1024) (hb : b < 1024) : zee a b = ((a &&& b : Nat) : Int) := by
 unfold zee;rw [BitVec.ofInt_natCast, BitVec.ofInt_natCast, BitVec.toNat_and, BitVec.toNat_ofNat, BitVec.toNat_ofNat, Nat.mod_eq_of_lt (by omega), Nat.mod_eq_of_lt (by omega)];exact zdL (Nat.lt_of_lt_of_le (Nat.and_lt_two_pow (n := 10) a hb) (by decide))
theorem zlY {a b : Nat} (ha : a < 1024) : ∃ n : Nat, Zm a b = n ∧ n ≤ a ∧ ∀ i, n.testBit i = (a.testBit i && !b.testBit i) := by
 have hlt : (BitVec.ofNat 64 a &&& ~~~ BitVec.ofNat 64 b).toNat ≤ a := by
  rw [BitVec.toNat_and, BitVec.toNat_ofNat, Nat.mod_eq_of_lt (by omega)];exact Nat.and_le_left
 refine ⟨_, ?_, hlt, fun i => ?_⟩
 ·unfold Zm;rw [BitVec.ofInt_natCast, BitVec.ofInt_natCast];exact zdL (Nat.lt_of_le_of_lt hlt (Nat.lt_of_lt_of_le ha (by decide)))
 ·rw [BitVec.testBit_toNat, BitVec.getLsbD_and, BitVec.getLsbD_not, BitVec.getLsbD_ofNat, BitVec.getLsbD_ofNat];by_cases hi : i < 64
  ·simp [hi]
  ·rw [zkp ha (by omega)];simp
def zbj (l : List Int) (p q : Sty) : Prop := ∀ ps f i rest, ps.drop i = l ++ rest → l.length ≤ f → ∃ f', f ≤ f' + l.length ∧ ZC ps f i p = ZC ps f' (i + l.length) q
theorem zbj.nil (p : Sty) : zbj [] p p := fun _ f _ _ _ _ => ⟨f, Nat.le_refl _, rfl⟩
theorem zbj.app {l m : List Int} {p q r : Sty} (h1 : zbj l p q) (h2 : zbj m q r) : zbj (l ++ m) p r := fun ps f i rest hd hf => by
 rw [List.length_append] at hf;obtain ⟨f1, hf1, e1⟩ := h1 ps f i (m ++ rest) (by rw [hd, List.append_assoc]) (by omega);obtain ⟨f2, hf2, e2⟩ := h2 ps f1 (i + l.length) rest (by rw [← List.drop_drop, hd, List.append_assoc, List.drop_left]) (by omega);exact ⟨f2, by rw [List.length_append]; omega, by rw [e1, e2, List.length_append, Nat.add_assoc]⟩
theorem zbj.all {l : List Int} {p q : Sty} (h : zbj l p q) (hl : l ≠ []) : zeA l p = q := by
 unfold zeA;rw [if_neg hl];obtain ⟨f, _, e⟩ := h l l.length 0 [] (by rw [List.drop_zero, List.append_nil]) (Nat.le_refl _);rw [e, Nat.zero_add];cases f with
 | zero => rfl
 | succ f => unfold ZC; rw [if_neg (by omega)]
theorem zc2 {ps : List Int} {i : Nat} {n : Int} {rest : List Int} (h : ps.drop i = n :: rest) (h0 : 0 ≤ n) (h1 : n ≤ 9999) (d : Int) : par ps i d = n ∧ i < ps.length ∧ ps.drop (i + 1) = rest := by
 have hi : i < ps.length := by
  have := congrArg List.length h;rw [List.length_drop, List.length_cons] at this;omega
 have hg : ps.getD i (-1) = n := by
  rw [List.getD_eq_getElem?_getD, List.getElem?_eq_getElem hi];have := List.drop_eq_getElem_cons hi;rw [h] at this;exact (List.cons.inj this).1.symm
 refine ⟨?_, hi, ?_⟩
 ·unfold par;rw [hg, if_pos ⟨hi, h0⟩];omega
 ·rw [← List.drop_drop, h]; rfl
theorem zbk {n : Int} (p : Sty) (h0 : 0 ≤ n) (h1 : n ≤ 9999) (h2 : n ≠ 38) (h3 : n ≠ 48) : zbj [n] p (Zz p n) := fun ps f i rest hd hf => by
 obtain ⟨f, rfl⟩ : ∃ g, f = g + 1 := ⟨f - 1, by simp at hf; omega⟩;obtain ⟨e1, e2, _⟩ := zc2 (by rw [hd]; rfl) h0 h1 0;refine ⟨f, by simp, ?_⟩
 conv => lhs; unfold ZC
 rw [if_pos e2, e1, if_neg (by omega)];rfl
theorem zhH {ps : List Int} {i : Nat} {c : Int} {rest : List Int} (h : ps.drop i = 5 :: c :: rest) (h0 : 0 ≤ c) (h1 : c ≤ 255) : zZ ps i = (c, 2) := by
 obtain ⟨e1, _, d1⟩ := zc2 h (by decide) (by decide) 0;obtain ⟨e2, l2, _⟩ := zc2 d1 h0 (by omega) 0;unfold zZ;rw [e1, e2, if_pos ⟨by omega, rfl, h1⟩]
theorem zhI {ps : List Int} {i : Nat} {r g b : Int} {rest : List Int} (h : ps.drop i = 2 :: r :: g :: b :: rest) (hr : 0 ≤ r ∧ r ≤ 255) (hg : 0 ≤ g ∧ g ≤ 255) (hb : 0 ≤ b ∧ b ≤ 255) :
  zZ ps i = (16777216 + r * 65536 + g * 256 + b, 4) := by
 obtain ⟨e1, _, d1⟩ := zc2 h (by decide) (by decide) 0;obtain ⟨e2, _, d2⟩ := zc2 d1 hr.1 (by omega) 0;obtain ⟨e3, _, d3⟩ := zc2 d2 hg.1 (by omega) 0;obtain ⟨e4, l4, _⟩ := zc2 d3 hb.1 (by omega) 0;have e3' : par ps (i + 2) 0 = g := e3;have e4' : par ps (i + 3) 0 = b := e4;unfold zZ;rw [e1, e2, e3', e4', if_neg (by omega), if_pos ⟨by omega, rfl, by omega⟩]
theorem zd7 {l : List Int} {c : Int} (p : Sty) (n : Int) (hn : n = 38 ∨ n = 48) (hl : l.length ≠ 0) (h : ∀ ps i rest, ps.drop i = l ++ rest → zZ ps i = (c, l.length)) :
  zbj (n :: l) p (if n = 38 then { p with fg := c } else { p with bg := c }) := fun ps f i rest hd hf => by
 obtain ⟨f, rfl⟩ : ∃ g, f = g + 1 := ⟨f - 1, by simp at hf; omega⟩;obtain ⟨e1, e2, d⟩ := zc2 (by rw [hd]; rfl) (by omega) (by omega) 0;refine ⟨f, by simp, ?_⟩
 conv => lhs; unfold ZC
 rw [if_pos e2, e1, if_pos hn, h ps (i + 1) rest d];dsimp only;rw [if_neg hl, List.length_cons, show i + 1 + l.length = i + (l.length + 1) by omega]
theorem zlZ (p : Sty) {n : Int} (h : 30 ≤ n ∧ n ≤ 37) : Zz p n = { p with fg := n - 30 } := by unfold Zz; rw [if_neg (by omega), if_neg (by omega), if_pos h]
theorem zl0 (p : Sty) : Zz p 39 = { p with fg := -1 } := rfl
theorem zl1 (p : Sty) {n : Int} (h : 40 ≤ n ∧ n ≤ 47) : Zz p n = { p with bg := n - 40 } := by unfold Zz; rw [if_neg (by omega), if_neg (by omega), if_neg (by omega), if_neg (by omega), if_pos h]
theorem zl2 (p : Sty) : Zz p 49 = { p with bg := -1 } := rfl
theorem zkq (p : Sty) {n : Int} (h : 90 ≤ n ∧ n ≤ 97) : Zz p n = { p with fg := n - 82 } := by unfold Zz; rw [if_neg (by omega), if_neg (by omega), if_neg (by omega), if_neg (by omega), if_neg (by omega), if_neg (by omega), if_pos h]
theorem zkr (p : Sty) {n : Int} (h : 100 ≤ n ∧ n ≤ 107) : Zz p n = { p with bg := n - 92 } := by unfold Zz; rw [if_neg (by omega), if_neg (by omega), if_neg (by omega), if_neg (by omega), if_neg (by omega), if_neg (by omega), if_neg (by omega), if_pos h]
theorem zns (p : Sty) {c : Int} (h : Zp c = true) : zbj (ZL c 0) p { p with fg := c } := by
 have hc := zc5 h;unfold ZL;by_cases h1 : c < 0
 ·rw [if_pos h1];have := zbk (n := 39) p (by decide) (by decide) (by decide) (by decide);rw [zl0] at this;rw [show c = -1 by omega];exact this
 rw [if_neg h1];by_cases h2 : c < 8
 ·rw [if_pos h2];have := zbk (n := 30 + 0 + c) p (by omega) (by omega) (by omega) (by omega);rw [zlZ p (by omega), show 30 + 0 + c - 30 = c by omega] at this;exact this
 rw [if_neg h2];by_cases h3 : c < 16
 ·rw [if_pos h3];have := zbk (n := 82 + 0 + c) p (by omega) (by omega) (by omega) (by omega);rw [zkq p (by omega), show 82 + 0 + c - 82 = c by omega] at this;exact this
 rw [if_neg h3];by_cases h4 : c < 256
 ·rw [if_pos h4];exact zd7 (l := [5, c]) (c := c) p 38 (.inl rfl) (by simp) (fun ps i rest hd => zhH hd (by omega) (by omega))
 rw [if_neg h4];have := zd7 (l := [2, c / 65536 % 256, c / 256 % 256, c % 256]) (c := 16777216 + c / 65536 % 256 * 65536 + c / 256 % 256 * 256 + c % 256) p 38 (.inl rfl) (by simp)
  (fun ps i rest hd => zhI hd (by omega) (by omega) (by omega))
 rw [show 16777216 + c / 65536 % 256 * 65536 + c / 256 % 256 * 256 + c % 256 = c by omega] at this;exact this
theorem znt (p : Sty) {c : Int} (h : Zp c = true) : zbj (ZL c 10) p { p with bg := c } := by
 have hc := zc5 h;unfold ZL;by_cases h1 : c < 0
 ·rw [if_pos h1];have := zbk (n := 49) p (by decide) (by decide) (by decide) (by decide);rw [zl2] at this;rw [show c = -1 by omega];exact this
 rw [if_neg h1];by_cases h2 : c < 8
 ·rw [if_pos h2];have := zbk (n := 30 + 10 + c) p (by omega) (by omega) (by omega) (by omega);rw [zl1 p (by omega), show 30 + 10 + c - 40 = c by omega] at this;exact this
 rw [if_neg h2];by_cases h3 : c < 16
 ·rw [if_pos h3];have := zbk (n := 82 + 10 + c) p (by omega) (by omega) (by omega) (by omega);rw [zkr p (by omega), show 82 + 10 + c - 92 = c by omega] at this;exact this
 rw [if_neg h3];by_cases h4 : c < 256
 ·rw [if_pos h4];exact zd7 (l := [5, c]) (c := c) p 48 (.inr rfl) (by simp) (fun ps i rest hd => zhH hd (by omega) (by omega))
 rw [if_neg h4];have := zd7 (l := [2, c / 65536 % 256, c / 256 % 256, c % 256]) (c := 16777216 + c / 65536 % 256 * 65536 + c / 256 % 256 * 256 + c % 256) p 48 (.inr rfl) (by simp)
  (fun ps i rest hd => zhI hd (by omega) (by omega) (by omega))
 rw [show 16777216 + c / 65536 % 256 * 65536 + c / 256 % 256 * 256 + c % 256 = c by omega] at this;exact this
end
section
open Go.RowKit
theorem znu {n k : Nat} : (n &&& 2 ^ k ≠ 0) ↔ n.testBit k = true := by
 constructor
 ·intro h;cases hb : n.testBit k with
  | true => rfl
  | false =>
   refine absurd (Nat.eq_of_testBit_eq fun i => ?_) h;rw [Nat.testBit_and, Nat.testBit_two_pow, Nat.zero_testBit];by_cases e : k = i
   ·rw [← e, hb]; rfl
   ·simp [e]
 ·intro h e;have := congrArg (Nat.testBit · k) e;simp [Nat.testBit_and, h] at this
theorem zfr {kc : Nat × Int} (h : kc ∈ bitsK) : 2 ^ kc.1 < 256 := by
 have : ∀ kc ∈ bitsK, 2 ^ kc.1 < 256 := (by decide);exact this kc h
theorem zex (g : Nat × Int → Bool) : ∀ (L : List (Nat × Int)) (p : Sty) (x : Nat), (∀ kc ∈ L, kc ∈ bitsK) → x < 256 →
  ∃ y : Nat, y < 256 ∧ zbj ((L.filter g).map (·.2)) { p with attr := x } { p with attr := y } ∧ ∀ i, y.testBit i = (x.testBit i || L.any fun kc => g kc && decide (kc.1 = i))
 | [], p, x, _, hx => ⟨x, hx, zbj.nil _, fun i => by simp⟩
 | kc :: L, p, x, hL, hx => by
  have hk := hL kc (List.mem_cons_self ..);have hL2 : ∀ kc ∈ L, kc ∈ bitsK := fun q hq => hL q (List.mem_cons_of_mem _ hq);by_cases hg : g kc = true
  ·have hp := zfr hk;obtain ⟨e, e0, e9⟩ := zgD { p with attr := (x : Int) } hk;obtain ⟨y, hy, hr, ht⟩ := zex g L p (x ||| 2 ^ kc.1) hL2 (Nat.or_lt_two_pow (n := 8) hx hp);have h1 := zbk (n := kc.2) { p with attr := (x : Int) } e0 (by omega) (by omega) (by omega);rw [e] at h1;dsimp only at h1;rw [zoN (Nat.lt_trans hx (by decide)) (Nat.lt_trans hp (by decide))] at h1;refine ⟨y, hy, ?_, fun i => ?_⟩
   ·rw [List.filter_cons, if_pos hg, List.map_cons];exact h1.app hr
   ·rw [ht i, Nat.testBit_or, Nat.testBit_two_pow, List.any_cons, hg, Bool.true_and, Bool.or_assoc]
  ·obtain ⟨y, hy, hr, ht⟩ := zex g L p x hL2 hx;refine ⟨y, hy, ?_, fun i => ?_⟩
   ·rw [List.filter_cons, if_neg hg];exact hr
   ·rw [ht i, List.any_cons, Bool.eq_false_iff.2 hg, Bool.false_and, Bool.false_or]
theorem zl3 (g : Nat → Bool) (i : Nat) : (bitsK.any fun kc => g kc.1 && decide (kc.1 = i)) = (decide (i < 8) && g i) := by
 unfold bitsK;simp only [List.any_cons, List.any_nil, Bool.or_false];by_cases h : i < 8
 ·have : i = 0 ∨ i = 1 ∨ i = 2 ∨ i = 3 ∨ i = 4 ∨ i = 5 ∨ i = 6 ∨ i = 7 := (by omega);rcases this with h | h | h | h | h | h | h | h <;> subst h <;> simp
 ·rw [decide_eq_false h];simp;omega
theorem zgr {a i : Nat} (h : a < 256) (hi : ¬ i < 8) : a.testBit i = false := by
 refine Nat.testBit_lt_two_pow (Nat.lt_of_lt_of_le h ?_);show 2 ^ 8 ≤ 2 ^ i;exact Nat.pow_le_pow_right (by decide) (by omega)
theorem zks (p : Sty) {f t : Nat} (hf : f < 256) (ht : t < 256) (hs : ∀ i, f.testBit i = true → t.testBit i = true) : zbj (zhW f t) { p with attr := f } { p with attr := t } := by
 obtain ⟨m, hm, hm8, hb⟩ := zlY (a := t) (b := f) (Nat.lt_trans ht (by decide));have hg : ∀ kc ∈ bitsK, (zee (Zm t f) ((2 ^ kc.1 : Nat) : Int) != 0) = m.testBit kc.1 := fun kc hk => by
  rw [hm, zoj (by omega) (Nat.lt_trans (zfr hk) (by decide)), Bool.eq_iff_iff, bne_iff_ne, ← znu];omega
 have e : zhW f t = (bitsK.filter fun kc => m.testBit kc.1).map (·.2) := by
  unfold zhW;rw [List.filter_congr hg]
 obtain ⟨y, hy, hr, hyb⟩ := zex (fun kc => m.testBit kc.1) bitsK p f (fun _ h => h) hf;have hyt : y = t := Nat.eq_of_testBit_eq fun i => by
  rw [hyb i, zl3 (fun k => m.testBit k) i, hb i];by_cases hi : i < 8
  ·rw [decide_eq_true hi];have := hs i;cases h1 : f.testBit i <;> cases h2 : t.testBit i <;> simp_all
  ·rw [zgr hf hi, zgr ht hi]; simp
 rw [e, ← hyt];exact hr
theorem zjN {b : Prop} [Decidable b] {l : List Int} {p q : Sty} (h1 : b → zbj l p q) (h2 : ¬ b → p = q) : zbj (if b then l else []) p q := by
 split
 ·next h => exact h1 h
 ·next h => rw [h2 h]; exact zbj.nil _
theorem zhJ {f t : Sty} (hf : okS f = true) (ht : okS t = true) : zbj (zdO f t) f t := by
 obtain ⟨af, e1, l1, cf, cb⟩ := zhf hf;obtain ⟨at', e2, l2, tf, tb⟩ := zhf ht;obtain ⟨m, hm, _, hb⟩ := zlY (a := af) (b := at') (Nat.lt_trans l1 (by decide));have hA : zbj (if Zm f.attr t.attr ≠ 0 then [0] else []) f (zcH f t) := by
  unfold zcH;by_cases h : Zm f.attr t.attr ≠ 0
  ·rw [if_pos h, if_pos h];exact zbk (n := 0) f (by decide) (by decide) (by decide) (by decide)
  ·rw [if_neg h, if_neg h];exact zbj.nil _
 have hF : ∃ a : Nat, (zcH f t).attr = a ∧ a < 256 ∧ ∀ i, a.testBit i = true → at'.testBit i = true := by
  unfold zcH;by_cases h : Zm f.attr t.attr ≠ 0
  ·rw [if_pos h];exact ⟨0, rfl, by decide, fun i hi => by simp at hi⟩
  ·rw [if_neg h];refine ⟨af, e1, l1, fun i hi => ?_⟩;have h0 : m = 0 := by
    rw [e1, e2, hm] at h;omega
   have := hb i;rw [h0, Nat.zero_testBit, hi] at this;simpa using this
 obtain ⟨a, ea, la, hs⟩ := hF;unfold zdO;generalize zcH f t = g at hA ea ⊢;have hB := zks g la l2 hs;rw [← ea, ← e2] at hB;have hB' : zbj (zhW g.attr t.attr) g { g with attr := t.attr } := hB;have hC : zbj (if t.fg ≠ g.fg then ZL t.fg 0 else []) { g with attr := t.attr } { g with attr := t.attr, fg := t.fg } :=
  zjN (fun _ => zns _ tf) (fun h => by rw [Classical.not_not.1 h])
 have hD : zbj (if t.bg ≠ g.bg then ZL t.bg 10 else []) { g with attr := t.attr, fg := t.fg } t :=
  zjN (fun _ => znt _ tb) (fun h => by rw [← Classical.not_not.1 h])
 exact ((hA.app hB').app hC).app hD
theorem zbj.nil_eq {p q : Sty} (h : zbj [] p q) : p = q := by
 obtain ⟨f, hf, e⟩ := h [] 1 0 [] rfl (by decide);have hx : ∀ f (s : Sty), ZC [] f 0 s = s := fun f s => (by cases f <;> rfl);rw [hx] at e;exact e.trans (hx _ _)
theorem zok {f t : Sty} (hf : okS f = true) (ht : okS t = true) (h : f ≠ t) : zdO f t ≠ [] := fun e => by
 have hr := zhJ hf ht;rw [e] at hr;exact h hr.nil_eq
theorem zkt {f t : Sty} (hf : okS f = true) (ht : okS t = true) (h : f ≠ t) : zeA (zdO f t) f = t := (zhJ hf ht).all (zok hf ht h)
end
section
open Go.RowKit
theorem zgs (s : Scr) (ps : List Int) : s.csi 109 ps [] = s.looks ps := by
 unfold Scr.csi;rw [if_pos rfl];have e1 : ∀ n, s.move ((109 : UInt8).toNat : Int) n = none := fun n => by
  unfold Scr.move;simp
 have e2 : ∀ n, s.edit ((109 : UInt8).toNat : Int) n = none := fun n => by
  unfold Scr.edit;simp
 rw [e1, e2];unfold Scr.others;simp
theorem zhK {ps : List Int} (h1 : ps.length ≤ 32) (h2 : ∀ x ∈ ps, 0 ≤ x ∧ x ≤ 9999) : zaB (ZO 109 ps []) = true := by
 have e1 : ps.all zc4 = true := by
  rw [List.all_eq_true];intro x hx;have := h2 x hx;unfold zc4;rw [Bool.and_eq_true, decide_eq_true_eq, decide_eq_true_eq];omega
 have e2 : ¬ ps = [-1] := fun e => by
  have := h2 (-1) (by rw [e]; exact List.mem_singleton.2 rfl);omega
 unfold zaB;show (zhS (ZK []).2 109 ps && ps.all zc4) = true;rw [e1, Bool.and_true];unfold zhS;rw [decide_eq_true h1, decide_eq_false e2];rfl
theorem zfs {f g : Sty} (hf : okS f = true) (hg : okS g = true) (t : Trm) (ht : t.par.Clear) (hp : t.scr.now.pen = f) :
  ∃ (o : List UInt8) (q : PSt), t.feed (zcn f g) = (⟨{ t.scr with out := o, now := { t.scr.now with pen := g } }, q⟩, []) ∧ q.Clear := by
 unfold zcn;by_cases h : f = g
 ·rw [if_pos ⟨by rw [h], by rw [h], by rw [h]⟩];refine ⟨t.scr.out, t.par, ?_, ht⟩;rw [← h, ← hp];rfl
 ·rw [if_neg (fun e => h (by cases f; cases g; simp only at e; obtain ⟨e1, e2, e3⟩ := e; subst e1 e2 e3; rfl))];have ho := zj6 (f := f) hg;obtain ⟨q, e, hq⟩ := zei (b := 109) (ps := zdO f g) (zhK (by omega) ho.2) t ht;refine ⟨[], q, ?_, hq⟩;rw [List.append_assoc, e, zgs];have el : zeA (zdO f g) t.scr.now.pen = g := (by rw [hp]; exact zkt hf hg h);unfold Scr.looks;dsimp only;rw [el]
theorem ziT (t : Trm) (ht : t.par.Clear) : ∃ q : PSt, t.feed [27, 91, 109] = (⟨{ t.scr with out := [], now := { t.scr.now with pen := plainS } }, q⟩, []) ∧ q.Clear := by
 obtain ⟨q, e, hq⟩ := zei (b := 109) (ps := []) (zhK (by simp) (by simp)) t ht;refine ⟨q, ?_, hq⟩;have e' : t.feed [27, 91, 109] = _ := e;rw [e', zgs];rfl
end
section
open Go.RowKit
set_option maxRecDepth 100000
attribute [local go_sem ↓] Go.wp_at_zero Go.wp_at_succ
theorem zbr {w : World} {k : Nat} {s : Sty} {T : TypeId} (h : w.heap[k]? = some (.cells #[.int .i64 s.fg, .int .i64 s.bg, .int .i64 s.attr] T (0, 0))) :
  w.cell? ⟨k, 0, none⟩ = some (.int .i64 s.fg) ∧ w.cell? ⟨k, 1, none⟩ = some (.int .i64 s.bg) ∧ w.cell? ⟨k, 2, none⟩ = some (.int .i64 s.attr) := ⟨za h 0, za h 1, za h 2⟩
set_option maxHeartbeats 8000000 in
theorem zey (a b : Sty) (w : World) (ha : I64 a.fg ∧ I64 a.bg ∧ I64 a.attr) (hb : I64 b.fg ∧ I64 b.bg ∧ I64 b.attr) (ht : zcx w) :
  Calls Tryz.prog 4 #[a.val, b.val] w fun e w' => e = .returned (.bool true) ∧ Below w.heap.size w w' := by
 have hb1 := Zy w (.cells #[.int .i64 a.fg, .int .i64 a.bg, .int .i64 a.attr] 35);have hb2 := hb1.alloc (by simp) (.cells #[.int .i64 b.fg, .int .i64 b.bg, .int .i64 b.attr] 35);have HA := Lib.hid (zD (zE w (.cells #[.int .i64 a.fg, .int .i64 a.bg, .int .i64 a.attr] 35)) (.cells #[.int .i64 b.fg, .int .i64 b.bg, .int .i64 b.attr] 35));have HB := Lib.hid (zem w (.cells #[.int .i64 a.fg, .int .i64 a.bg, .int .i64 a.attr] 35) (.cells #[.int .i64 b.fg, .int .i64 b.bg, .int .i64 b.attr] 35));have HB2 := Lib.hid hb2;have HT := Lib.hid (ht.below hb2);have HRA := Lib.hid (zcy a _ HT.out ha.1 ha.2.1);have HRB := Lib.hid (zcy b _ HT.out hb.1 hb.2.1);have HSH := Lib.hid (zcP _ HT.out);clear hb1 hb2 ht ha hb;unfold Sty.val;go_enter Tryz.func4, Tryz.ntmps4;go_upto_region 1 with fail;obtain ⟨A, hA⟩ : ∃ A, A = w.heap.size := ⟨_, rfl⟩;have HAE := Lib.hid hA;obtain ⟨wa, hwa⟩ : ∃ wa, wa = (w.alloc (.cells #[.int .i64 a.fg, .int .i64 a.bg, .int .i64 a.attr] 35)).alloc (.cells #[.int .i64 b.fg, .int .i64 b.bg, .int .i64 b.attr] 35) := ⟨_, rfl⟩;rw [← hwa] at HA HB HB2 HT HRA HRB HSH;rw [← hwa];rw [← hA] at HA HB;rw [← hA];clear hwa hA;go_wp2_with fail;refine HSH.out.mono ?_;rintro e w1 ⟨rfl, b1⟩;have HM := Lib.hid (zdv 9 3 0 w1 (by unfold I64; decide) (by unfold I64; decide) (by unfold I64; decide) (HT.out.below b1));have HLA := Lib.hid (Nat.lt_of_lt_of_le (zj HA.out) b1.size);have HLB := Lib.hid (Nat.lt_of_lt_of_le (zj HB.out) b1.size);have HW1 := Lib.hid b1;clear b1 HSH;go_wp2_with fail;refine HM.out.mono ?_;rintro e w2 ⟨p, C2, rfl, h2⟩;have H2 := Lib.hid (show SR w1 C2 p w2 (za4 10 4 0) s0 from h2);have HZ := Lib.hid (show ∀ k, k < w1.heap.size → C2 k = 0 from fun k hk => Classical.byContradiction fun e => by have := h2.hi k e; omega);have HW2 := Lib.hid (HW1.out.trans (h2.bl.mono HW1.out.size));have HA2 := Lib.hid (zm HA.out HW2.out (zj HA.out));have HB2' := Lib.hid (zm HB.out HW2.out (zj HB.out));clear h2 HM HA HB;obtain ⟨x0, x1, x2⟩ := zbr HA2.out;obtain ⟨y0, y1, y2⟩ := zbr HB2'.out;have hra := HRA.out w2 HW2.out;unfold Sty.val at hra;obtain ⟨oa, hoa⟩ : ∃ oa, okS a = oa := ⟨_, rfl⟩;obtain ⟨ob, hob⟩ : ∃ ob, okS b = ob := ⟨_, rfl⟩;rw [hoa] at hra;have HCA := Lib.hid hra;clear hra;go_wp2_with fail;refine HCA.out.mono ?_;rintro e w3 ⟨rfl, b3⟩;have HW3 := Lib.hid (HW2.out.trans (b3.mono HW2.out.size));have H3 := Lib.hid (H2.out.below b3);have HA3 := Lib.hid (zm HA2.out b3 (zj HA2.out));have HB3 := Lib.hid (zm HB2'.out b3 (zj HB2'.out));clear x0 x1 x2 y0 y1 y2 b3 H2 HA2 HB2' HW2 HCA;obtain ⟨x0, x1, x2⟩ := zbr HA3.out;obtain ⟨y0, y1, y2⟩ := zbr HB3.out;have hrb := HRB.out w3 HW3.out;unfold Sty.val at hrb;rw [hob] at hrb;have HCB := Lib.hid hrb;clear hrb;go_wp2_with fail;refine HCB.out.mono ?_;rintro e w4 ⟨rfl, b4⟩;have HW4 := Lib.hid (HW3.out.trans (b4.mono HW3.out.size));have H4 := Lib.hid (H3.out.below b4);have HA4 := Lib.hid (zm HA3.out b4 (zj HA3.out));have HB4 := Lib.hid (zm HB3.out b4 (zj HB3.out));have HE := Lib.hid (show Below w.heap.size w w4 from HB2.out.trans (HW4.out.mono HB2.out.size));clear x0 x1 x2 y0 y1 y2 b4 H3 HA3 HB3 HW3 HCB;cases oa
 ·go_wp2_with fail;go_ret;exact ⟨rfl, HE.out⟩
 cases ob
 ·go_wp2_with fail;go_ret;exact ⟨rfl, HE.out⟩
 have HOA := Lib.hid hoa;have HOB := Lib.hid hob;clear hoa hob;go_upto_region 7 with fail;obtain ⟨x0, x1, x2⟩ := zbr HA4.out;have HTB4 := Lib.hid (HT.out.below HW4.out);have HPL := Lib.hid (fun w => zaZ w);have HSG := Lib.hid (fun wx hx => zhn plainS a wx hx (by decide) HOA.out);unfold Sty.val plainS at HSG HPL;have HOK := Lib.hid (zfV (c := 10) (r := 4) (l := 0) (by decide) (by decide));refine Zl (c := 5) (S := (fun bb w' => (w'.cell? ⟨A, 0, none⟩ = some (.int .i64 a.fg) ∧ w'.cell? ⟨A, 1, none⟩ = some (.int .i64 a.bg) ∧ w'.cell? ⟨A, 2, none⟩ = some (.int .i64 a.attr)) ∧ (bb = false → True))) (by kernel_rfl) (⟨⟨x0, x1, x2⟩, fun _ => trivial⟩) (fun _ => ?_);refine zd false 0 (⟨⟨x0, x1, x2⟩, fun _ => trivial⟩) ?_;refine zd false 2 (⟨⟨x0, x1, x2⟩, fun _ => trivial⟩) ?_;refine zt false 1 fun K hK => ?_;refine zi rfl ?_;go_wp2_with fail;refine (HPL.out w4.drew).mono ?_;rintro e w5 ⟨rfl, b5⟩;have HB5 := Lib.hid (show Below w4.heap.size w4 w5 from (Below.refl w4.heap.size w4).drew.trans b5);refine hK.out _ _ (⟨⟨zc HB5.out x0, zc HB5.out x1, zc HB5.out x2⟩, fun _ => trivial⟩) (fun _ => ?_);clear hK K b5
 try simp only [Act.put, List.setIfInBounds_toArray, List.set_cons_zero, List.set_cons_succ]
 refine zt false 3 fun K hK => ?_;refine zi rfl ?_;go_wp2_with fail;refine (HSG.out w5 (HTB4.out.below HB5.out)).mono ?_;rintro e w6 ⟨str, rfl, es, hz6, b6⟩;have HES := Lib.hid (show str.data.toList = zcn plainS a from es);have HB6 := Lib.hid (HB5.out.trans (b6.mono HB5.out.size));obtain ⟨v7, w7, hcv, b7, hb7⟩ := zaR w6 str (by omega);have HB7 := Lib.hid (HB6.out.trans (b7.mono HB6.out.size));have HAS := Lib.hid (hb7 _ _ _ _ _ (H4.out.below HB6.out));have HF := Lib.hid (ZJ (t := ⟨za4 10 4 0, s0⟩) (H4.out.below HB7.out) HOK.out v7 str.data.toList HAS.out (by rw [Array.length_toList]; show str.size ≤ _; omega));refine hK.out _ _ (⟨⟨zc HB6.out x0, zc HB6.out x1, zc HB6.out x2⟩, fun _ => trivial⟩) (fun _ => ?_);clear hK K b6 es b7 hb7
 try simp only [Act.put, List.setIfInBounds_toArray, List.set_cons_zero, List.set_cons_succ]
 refine zt false 4 fun K hK => ?_;refine zi rfl ?_;go_wp2_with fail;refine hK.out _ _ (⟨⟨zc HB7.out x0, zc HB7.out x1, zc HB7.out x2⟩, fun _ => trivial⟩) (fun _ => ?_);clear hK K
 try simp only [Act.put, List.setIfInBounds_toArray, List.set_cons_zero, List.set_cons_succ]
 refine zt true 5 fun K hK => ?_;refine zi rfl ?_;go_wp2_with fail;refine HF.out.mono ?_;rintro e w8 ⟨v8, C8, rfl, h8, p8, a8, o8⟩;have HA8 := Lib.hid (p8.blk (zm HA4.out HB7.out (zj HA4.out)) (HZ.out _ HLA.out));have HB8 := Lib.hid (p8.blk (zm HB4.out HB7.out (zj HB4.out)) (HZ.out _ HLB.out));obtain ⟨z0, z1, z2⟩ := zbr HA8.out;have H8 := Lib.hid h8;have P8 := Lib.hid p8;have A8 := Lib.hid a8;have O8 := Lib.hid o8;refine hK.out _ _ (⟨⟨z0, z1, z2⟩, fun e => by cases e⟩) (fun _ => ?_);clear hK K h8 p8 a8 o8
 try simp only [Act.put, List.setIfInBounds_toArray, List.set_cons_zero, List.set_cons_succ]
 refine zd true 6 (⟨⟨z0, z1, z2⟩, fun e => by cases e⟩) ?_;refine Zh (by kernel_rfl) ?_ _;go_wp2_with fail;obtain ⟨o1, q1, e1, c1⟩ := zfs (f := plainS) (g := a) zba HOA.out ⟨za4 10 4 0, s0⟩ ⟨rfl, rfl⟩ rfl;rw [← HES.out] at e1;have h8 := H8.out;have a8 := A8.out;have o8 := O8.out;rw [e1] at h8 a8 o8;obtain ⟨s1, hs1⟩ : ∃ s1 : Scr, s1 = { (⟨za4 10 4 0, s0⟩ : Trm).scr with out := o1, now := { (⟨za4 10 4 0, s0⟩ : Trm).scr.now with pen := a } } := ⟨_, rfl⟩;have hp1 : s1.now.pen = a := (by rw [hs1]);have H9 := Lib.hid (show SR w1 C8 p w8 s1 q1 by rw [hs1]; exact h8);have O9 := Lib.hid (show (⟨s1, q1⟩ : Trm).Ok 10 4 by rw [hs1]; exact o8);have hl8 := Za Tryz.underlying38 (show zn w8 _ 1 v8 0 [] from a8.own);have hst := zbO H9.out;rw [hp1] at hst;have HST := Lib.hid hst;have HC1 := Lib.hid c1;have HP1 := Lib.hid hp1;have HZ8 := Lib.hid (show ∀ k, k < w1.heap.size → C8 k = 0 from fun k hk => Classical.byContradiction fun e => by have := h8.hi k e; omega);clear h8 a8 o8 e1 hs1 hst hp1 c1 H8 A8 O8 P8 H4 HA4 HB4 HTB4 HW4 HE HB5 HB6 HB7 HAS HF HES hcv hz6 x0 x1 x2 z0 z1 z2 HZ HSG HOK;refine HST.out.mono ?_;rintro e w9 ⟨rfl, b9⟩;have H10 := Lib.hid (H9.out.below b9);have HA9 := Lib.hid (zm HA8.out b9 (zj HA8.out));have HB9 := Lib.hid (zm HB8.out b9 (zj HB8.out));have hbo := Zy w9 (.cells #[.int .i64 a.fg, .int .i64 a.bg, .int .i64 a.attr] 35);have HX := Lib.hid (zE w9 (.cells #[.int .i64 a.fg, .int .i64 a.bg, .int .i64 a.attr] 35));have H11 := Lib.hid (H10.out.below hbo);have HA10 := Lib.hid (zm HA9.out hbo (zj HA9.out));have HB10 := Lib.hid (zm HB9.out hbo (zj HB9.out));have HZX := Lib.hid (H10.out.free (Nat.le_refl w9.heap.size));clear b9 H9 HST H10 HA8 HB8 HA9 HB9 hbo;unfold Sty.val;go_upto_region 9 with fail;obtain ⟨X, hX⟩ : ∃ X, X = w9.heap.size := ⟨_, rfl⟩;rw [← hX] at HX HZX;rw [← hX];obtain ⟨w10, hw10⟩ : ∃ w10, w10 = w9.alloc (.cells #[.int .i64 a.fg, .int .i64 a.bg, .int .i64 a.attr] 35) := ⟨_, rfl⟩;rw [← hw10] at HX H11 HA10 HB10;rw [← hw10];clear hw10 hX;obtain ⟨x0, x1, x2⟩ := zbr HA10.out;obtain ⟨y0, y1, y2⟩ := zbr HB10.out;have hsg := zhn a b w10 H11.out.tabs' HOA.out HOB.out;unfold Sty.val at hsg;have HSG := Lib.hid hsg;clear hsg;go_wp2_with fail;refine HSG.out.mono ?_;rintro e w11 ⟨str2, rfl, es, hz, b11⟩;have HES := Lib.hid (show str2.data.toList = zcn a b from es);obtain ⟨v12, w12, hcv, b12, hb12⟩ := zaR w11 str2 (by omega);have hbb := b11.trans (b12.mono b11.size);have HF := Lib.hid (ZJ (t := ⟨s1, q1⟩) (H11.out.below hbb) O9.out v12 str2.data.toList (hb12 _ _ _ _ _ (H11.out.below b11)) (by rw [Array.length_toList]; show str2.size ≤ _; omega));have HA12 := Lib.hid (zm HA10.out hbb (zj HA10.out));have HB12 := Lib.hid (zm HB10.out hbb (zj HB10.out));have HX12 := Lib.hid (zm HX.out hbb (zj HX.out));clear HSG es b11 b12 hb12 hbb HA10 HB10 HX H11 x0 x1 x2 y0 y1 y2;go_wp2_with fail;refine HF.out.mono ?_;rintro e w13 ⟨v13, C13, rfl, h13, p13, a13, o13⟩;obtain ⟨o2, q2, e2, c2⟩ := zfs (f := a) (g := b) HOA.out HOB.out ⟨s1, q1⟩ HC1.out HP1.out;rw [← HES.out] at e2;rw [e2] at h13 a13 o13;obtain ⟨s2, hs2⟩ : ∃ s2 : Scr, s2 = { (⟨s1, q1⟩ : Trm).scr with out := o2, now := { (⟨s1, q1⟩ : Trm).scr.now with pen := b } } := ⟨_, rfl⟩;have hp2 : s2.now.pen = b := (by rw [hs2]);have H14 := Lib.hid (show SR w1 C13 p w13 s2 q2 by rw [hs2]; exact h13);have O14 := Lib.hid (show (⟨s2, q2⟩ : Trm).Ok 10 4 by rw [hs2]; exact o13);have hl13 := Za Tryz.underlying38 (show zn w13 _ 1 v13 0 [] from a13.own);have HA13 := Lib.hid (p13.blk HA12.out (HZ8.out _ HLA.out));have HB13 := Lib.hid (p13.blk HB12.out (HZ8.out _ HLB.out));have HX13 := Lib.hid (p13.blk HX12.out HZX.out);have hst := zbO H14.out;rw [hp2] at hst;have HST := Lib.hid hst;have HC2 := Lib.hid c2;have HZ13 := Lib.hid (show ∀ k, k < w1.heap.size → C13 k = 0 from fun k hk => Classical.byContradiction fun e => by have := h13.hi k e; omega);have HZX13 := Lib.hid (show C13 X = 0 from Classical.byContradiction fun e => by
  rcases p13.n X e with e | e
  ·exact e HZX.out
  ·have := zj HX12.out; omega)
 clear h13 a13 o13 p13 e2 hs2 hst hp2 c2 HF HES hcv hz HZ8 HZX HA12 HB12 HX12 HC1 HP1 O9;go_wp2_with fail;refine HST.out.mono ?_;rintro e w14 ⟨rfl, b14⟩;have hbo := b14.alloc b14.size (.cells #[.int .i64 b.fg, .int .i64 b.bg, .int .i64 b.attr] 35);have HY := Lib.hid (zE w14 (.cells #[.int .i64 b.fg, .int .i64 b.bg, .int .i64 b.attr] 35));have H15 := Lib.hid (H14.out.below hbo);have HA15 := Lib.hid (zm HA13.out hbo (zj HA13.out));have HB15 := Lib.hid (zm HB13.out hbo (zj HB13.out));have HX15 := Lib.hid (zm HX13.out hbo (zj HX13.out));have HZY := Lib.hid ((H14.out.below b14).free (Nat.le_refl w14.heap.size));clear b14 H14 HST HA13 HB13 HX13 hbo;unfold Sty.val;go_upto_region 11 with fail;obtain ⟨Y, hY⟩ : ∃ Y, Y = w14.heap.size := ⟨_, rfl⟩;rw [← hY] at HY HZY;rw [← hY];obtain ⟨w15, hw15⟩ : ∃ w15, w15 = w14.alloc (.cells #[.int .i64 b.fg, .int .i64 b.bg, .int .i64 b.attr] 35) := ⟨_, rfl⟩;rw [← hw15] at HY H15 HA15 HB15 HX15;rw [← hw15];clear hw15 hY;have hkc := zf3 w15 #[.int .u8 27, .int .u8 91, .int .u8 109] 3 3;have hA1 := zcs H15.out 5 [27, 91, 109] #[.int .u8 27, .int .u8 91, .int .u8 109] rfl (by decide);have hbo := Zy w15 (.cells #[.int .u8 27, .int .u8 91, .int .u8 109] 5 (3, 4));have HF := Lib.hid (ZJ (t := ⟨s2, q2⟩) (H15.out.below hbo) O14.out _ [27, 91, 109] hA1 (by decide));have HA16 := Lib.hid (zm HA15.out hbo (zj HA15.out));have HB16 := Lib.hid (zm HB15.out hbo (zj HB15.out));have HX16 := Lib.hid (zm HX15.out hbo (zj HX15.out));have HY16 := Lib.hid (zm HY.out hbo (zj HY.out));clear hbo hA1 HA15 HB15 HX15 HY H15 O14;go_wp2_with fail;refine HF.out.mono ?_;rintro e w17 ⟨v17, C17, rfl, h17, p17, a17, o17⟩;obtain ⟨q3, e3, _⟩ := ziT ⟨s2, q2⟩ HC2.out;rw [e3] at h17 a17;have H17 := Lib.hid h17;have hl17 := Za Tryz.underlying38 (show zn w17 _ 1 v17 0 [] from a17.own);obtain ⟨x0, x1, x2⟩ := zbr (p17.blk HA16.out (HZ13.out _ HLA.out));obtain ⟨y0, y1, y2⟩ := zbr (p17.blk HB16.out (HZ13.out _ HLB.out));obtain ⟨z0, z1, z2⟩ := zbr (p17.blk HX16.out HZX13.out);obtain ⟨u0, u1, u2⟩ := zbr (p17.blk HY16.out HZY.out);have hst := zbO H17.out;have HST := Lib.hid (show Calls Tryz.prog 22 #[.pointer (some ⟨p, 0, none⟩)] w17 fun e w' => e = .returned plainS.val ∧ Below w17.heap.size w17 w' from hst);have hq1 := fun wx => zdt a a wx;have hq2 := fun wx => zdt b b wx;have hq3 := fun wx => zdt plainS plainS wx;rw [zio] at hq1 hq2 hq3;have hg1 := fun (x y : Operand) wx => zby .eql x y a a wx;have hg2 := fun (x y : Operand) wx => zby .eql x y b b wx;have hg3 := fun (x y : Operand) wx => zby .eql x y plainS plainS wx;unfold Sty.val at hq1 hq2 hq3 hg1 hg2 hg3;unfold plainS at hq3 hg3;clear h17 a17 p17 o17 e3 hst HF hkc HA16 HB16 HX16 HY16 HZ13 HZX13 HZY HC2;go_wp2_with fail;refine HST.out.mono ?_;rintro e w18 ⟨rfl, b18⟩;have HPL18 := Lib.hid (HPL.out w18);have HBF := Lib.hid (show Below w.heap.size w w18 from HB2.out.trans ((HW1.out.trans ((H17.out.below b18).bl.mono HW1.out.size)).mono HB2.out.size));unfold Sty.val plainS;clear HST b18 H17 x0 x1 x2 y0 y1 y2 z0 z1 z2 u0 u1 u2;go_wp2_with fail;refine HPL18.out.mono ?_;rintro e w19 ⟨rfl, b19⟩;have HBG := Lib.hid (HBF.out.trans (b19.mono HBF.out.size));go_wp2_with fail;go_ret;exact ⟨rfl, HBG.out⟩
end
section
open Go.ChangeShapes Go.WideShapes Go.ChangeAt Go.RowKit Go.ChangeMaps
set_option maxRecDepth 1000000 in
theorem zd8 {H : Type} {enc : TypeId × Value → H} {W : World} {r : Reach} {base : Nat} {v : Value} {d : DataW H} {ps : List MemPlace} (hval : Value.okWide Tryz.prog W r base 35 v)
  (hd : DataW.Trod enc Tryz.prog W 0 (fun _ => true) true 35 v d ps) : ∃ s : Sty, v = s.val ∧ I64 s.fg ∧ I64 s.bg ∧ I64 s.attr := by
 obtain ⟨cs, e0, hsz⟩ := okWide_struct Tryz.underlying35 hval;clear hsz hval;subst e0;obtain ⟨fuel, hf⟩ := hd;obtain ⟨s, e, h⟩ := ziS hf;refine ⟨s, ?_, h⟩;have e' : cs.toList = s.vals := e;unfold Sty.val;congr 1;exact Array.toList_inj.1 e'
end
end Go.Proofs.YtlfdgkiliegaiaaGreatDoor
