/- Texts laid together: Z4 K1 K2 K16. -/
import Derived.Test.YtlfdgkiliegaiaaGreatDoorY1
import Derived.Test.YtlfdgkiliegaiaaGreatDoorY11
import Derived.Test.YtlfdgkiliegaiaaGreatDoorY2
import Derived.Test.YtlfdgkiliegaiaaGreatDoorY3
import Derived.Test.YtlfdgkiliegaiaaGreatDoorY4
import Derived.Test.YtlfdgkiliegaiaaGreatDoorY5
import Derived.Test.YtlfdgkiliegaiaaGreatDoorY6
import Derived.Test.YtlfdgkiliegaiaaGreatDoorY8
import Derived.Test.YtlfdgkiliegaiaaGreatDoorY9
import Derived.Lib.ItoaLen
import Derived.Deep.RegionHeld3
import Derived.Test.YtlfdgkiliegaiaaGreatDoorShelf
import Derived.Lib.Builder
import Derived.Lib.FrozenHead
import Derived.Lib.RuneBytes
import Derived.Lib.UnsafeStr
import Derived.Lib.SliceRun
import Derived.WalkSpells
import Derived.StillTailTactics
import Derived.Deep.RegionLaw
import Derived.Deep.DeepCutAuto
import Derived.Test.YtlfdgkiliegaiaaGreatDoorRows
import Derived.Deep.AppendSrc
import Derived.Lib.AppendStr
import Derived.ArgAppend
import Derived.Laws.IdiomCopy
import Derived.Laws.IdiomStrings
import Derived.Deep.Upon
import Derived.WalkKit
import Derived.WalkLawsBesides
import Derived.BigQuiet
import Derived.Lib.Hide
import Derived.Deep.QuietTactic
import Derived.Lib.AppendIntMem
import Derived.Lib.ItoaNum
import Derived.Laws.ResultCell
import Derived.Deep.CutBlock
import Derived.Laws.EntriesVeiled
import Derived.Laws.StructEq
import Derived.Deep.DrawnRows
import Derived.Laws.Cover4
import Derived.Deep.MidRow
import Derived.WalkMore
import Derived.ScopeJumps
import Derived.Lib.SlBytesConst
import Derived.Laws.Bits64b
import Derived.ChangeKeysEq
set_option linter.unusedVariables false
set_option linter.unusedSimpArgs false
namespace Go.Proofs.YtlfdgkiliegaiaaGreatDoor
section
open Go.RowKit
theorem zbH {f b a : Int} (hf : Zp f = true) (hb : Zp b = true) (h0 : 0 ≤ a) (h1 : a ≤ 255) : okS ⟨f, b, a⟩ = true := by
 unfold okS;rw [hf, hb];simp; omega
theorem zdn {p : Sty} (h : okS p = true) : Zp p.fg = true ∧ Zp p.bg = true ∧ 0 ≤ p.attr ∧ p.attr ≤ 255 := by
 unfold okS at h;simp only [Bool.and_eq_true, decide_eq_true_eq] at h;exact ⟨h.1, h.2.1, h.2.2.1, h.2.2.2⟩
theorem zas {x : Int} (h0 : -1 ≤ x) (h1 : x ≤ 255) : Zp x = true := by unfold Zp; simp; omega
theorem zkI {x : Int} (h0 : 16777216 ≤ x) (h1 : x < 33554432) : Zp x = true := by unfold Zp; simp; omega
theorem zmt {a : Int} (b : Nat) (h0 : 0 ≤ a) (h1 : a ≤ 255) (hb : b ≤ 255) : 0 ≤ bOr a (b : Int) ∧ bOr a (b : Int) ≤ 255 := by
 obtain ⟨x, rfl⟩ : ∃ n : Nat, a = n := ⟨a.toNat, by omega⟩;have h : x ||| b < 2 ^ 8 := Nat.or_lt_two_pow (by omega) (by omega);unfold bOr;rw [BitVec.toNat_or, zce x (by omega), zce b (by omega), zb _ (by omega) (by omega)];omega
theorem zgB {a : Int} (b : Int) (h0 : 0 ≤ a) (h1 : a ≤ 255) : 0 ≤ Zm a b ∧ Zm a b ≤ 255 := by
 have := zjS (a := a) ⟨h0, by omega⟩ b;omega
theorem znH {p : Sty} (h : okS p = true) (n : Int) (kc : Nat × Int) (hk : 2 ^ kc.1 ≤ 255) : okS (zfz p n kc) = true := by
 obtain ⟨h1, h2, h3, h4⟩ := zdn h;unfold zfz;have hp1 : okS (if n = kc.2 then { p with attr := bOr p.attr (2 ^ kc.1 : Nat) } else p) = true := by
  split
  ·have := zmt (2 ^ kc.1) h3 h4 hk;exact zbH h1 h2 this.1 this.2
  ·exact h
 generalize (if n = kc.2 then { p with attr := bOr p.attr (2 ^ kc.1 : Nat) } else p) = p1 at hp1 ⊢;obtain ⟨g1, g2, g3, g4⟩ := zdn hp1;dsimp only;split
 ·have := zgB ((2 ^ kc.1 : Nat) : Int) g3 g4;exact zbH g1 g2 this.1 this.2
 ·exact hp1
theorem zmu {p : Sty} (h : okS p = true) (n : Int) : okS (Zz p n) = true := by
 obtain ⟨h1, h2, h3, h4⟩ := zdn h;unfold Zz
 repeat' split
 ·exact zba
 ·have := zgB 3 h3 h4;exact zbH h1 h2 this.1 this.2
 ·exact zbH (zas (by omega) (by omega)) h2 h3 h4
 ·exact zbH (zas (by omega) (by omega)) h2 h3 h4
 ·exact zbH h1 (zas (by omega) (by omega)) h3 h4
 ·exact zbH h1 (zas (by omega) (by omega)) h3 h4
 ·exact zbH (zas (by omega) (by omega)) h2 h3 h4
 ·exact zbH h1 (zas (by omega) (by omega)) h3 h4
 ·have step : ∀ (l : List (Nat × Int)) (p : Sty), (∀ kc ∈ l, 2 ^ kc.1 ≤ 255) → okS p = true → okS (l.foldl (fun p kc => zfz p n kc) p) = true := by
   intro l
   induction l with
   | nil => intro p _ hp; exact hp
   | cons a l ih => intro p hl hp; exact ih _ (fun x hx => hl x (List.mem_cons_of_mem _ hx)) (znH hp n a (hl a (List.mem_cons_self ..)))
  exact step _ p (by decide) h
theorem ZH (ps : List Int) (i : Nat) (f : Int) (h0 : 0 ≤ f) (h1 : f ≤ 9999) : 0 ≤ par ps i f ∧ par ps i f ≤ 9999 := by
 unfold par;split
 ·omega
 ·exact ⟨h0, h1⟩
theorem zi8 (ps : List Int) (i : Nat) (h : (zZ ps i).2 ≠ 0) : Zp (zZ ps i).1 = true := by
 have r1 := ZH ps (i + 1) 0 (by decide) (by decide);have r2 := ZH ps (i + 2) 0 (by decide) (by decide);have r3 := ZH ps (i + 3) 0 (by decide) (by decide);unfold zZ at h ⊢;split
 ·exact zas (by omega) (by omega)
 ·rename_i h5;rw [if_neg h5] at h;split
  ·exact zkI (by dsimp only; omega) (by dsimp only; omega)
  ·rename_i h6;rw [if_neg h6] at h;exact absurd rfl h
theorem zkJ (ps : List Int) : ∀ (f i : Nat) (p : Sty), okS p = true → okS (ZC ps f i p) = true := by
 intro f
 induction f with
 | zero => intro i p h; exact h
 | succ f ih =>
  intro i p h;unfold ZC;split
  ·split
   ·split
    ·exact h
    ·rename_i h2;have hc := zi8 ps (i + 1) h2;obtain ⟨h1, h2, h3, h4⟩ := zdn h;refine ih _ _ ?_;split
     ·exact zbH hc h2 h3 h4
     ·exact zbH h1 hc h3 h4
   ·exact ih _ _ (zmu h _)
  ·exact h
theorem zkK (ps : List Int) {p : Sty} (h : okS p = true) : okS (zeA ps p) = true := zkJ ps _ _ _ (by
 split
 ·exact zba
 ·exact h)
section
variable {c r : Nat} {s : Scr}
theorem zhe {f : Scr → Scr} (hf : ∀ t : Scr, t.Ok c r → (f t).Ok c r) : ∀ (n : Nat) (t : Scr), t.Ok c r → (itF f n t).Ok c r
 | 0, _, h => h
 | n + 1, t, h => zhe hf n (f t) (hf t h)
theorem Scr.Ok.move (h : s.Ok c r) (hc : 1 ≤ c) (hr : 1 ≤ r) (k n : Int) : ∀ t, s.move k n = some t → t.Ok c r := by
 intro t ht;unfold Scr.move at ht
 repeat' split at ht
 all_goals first
  | (injection ht with ht; subst ht; exact h.place hc hr _ _)
  | (injection ht with ht; subst ht; exact (h.place hc hr _ _).toX (Int.le_refl 0) (by omega))
  | (injection ht with ht; subst ht; exact zhe (fun _ h => h.tab hc hr) _ _ h)
  | (injection ht with ht; subst ht; exact zhe (fun _ h => h.back hc hr) _ _ h)
  | cases ht
theorem Scr.Ok.edit (h : s.Ok c r) (hc : 1 ≤ c) (k n : Int) : ∀ t, s.edit k n = some t → t.Ok c r := by
 intro t ht;have h0 := ((h.toX (Int.le_refl 0) (by omega)).calm);unfold Scr.edit at ht;split at ht
 ·injection ht with ht; subst ht; exact (h.turn _ fun g hg => zfB hg _ _ _ _).calm
 split at ht
 ·injection ht with ht; subst ht; exact (h.turn _ fun g hg => zmj hg _ _ _ _).calm
 split at ht
 ·injection ht with ht; subst ht; exact (h.turn _ fun g hg => zcF hg _ _ _ _).calm
 split at ht
 ·injection ht with ht; subst ht;split
  ·exact h0.turn _ fun g hg => zeB hg _ _ _ _
  ·exact h
 split at ht
 ·injection ht with ht; subst ht;split
  ·exact h0.turn _ fun g hg => zhc hg _ _ _ _ _
  ·exact h
 split at ht
 ·injection ht with ht; subst ht; exact h.turn _ fun g hg => zhc hg _ _ _ _ _
 split at ht
 ·injection ht with ht; subst ht; exact h.turn _ fun g hg => zeB hg _ _ _ _
 split at ht
 ·injection ht with ht; subst ht;refine zhe (fun t h => ?_) _ _ h;split
  ·exact h.print hc _
  ·exact h
 ·cases ht
theorem ze2 {g : Gr} (h : zaH c r g) (m : Int) (b : Sty) (y : Int) (n : Nat) : zaH c r (zcD m b y n g) := by
 induction n with
 | zero => exact h
 | succ n ih => exact zcg (zcF ih _ _ _ _) _ _
theorem Scr.Ok.clean (h : s.Ok c r) (y z : Int) : (s.clean y z).Ok c r := h.turn _ fun g hg => ze2 hg _ _ _ _
theorem Scr.Ok.inRow (h : s.Ok c r) (k : Int) : (s.inRow k).Ok c r := by
 unfold Scr.inRow
 repeat' split
 ·exact h.calm.turn _ fun g hg => zcg (zcF hg _ _ _ _) _ _
 ·exact h.calm.turn _ fun g hg => zcF hg _ _ _ _
 ·exact h.calm.clean _ _
 ·exact h.calm
theorem Scr.Ok.forget (h : s.Ok c r) : s.forget.Ok c r := ⟨h.main, h.other, h.now, h.k0, h.k1, h.t0, h.tb, h.b1, h.tl, h.md⟩
theorem Scr.Ok.inAll (h : s.Ok c r) (k : Int) : (s.inAll k).Ok c r := by
 unfold Scr.inAll
 repeat' split
 ·exact (h.inRow 0).clean _ _
 ·exact (h.inRow 1).clean _ _
 ·exact h.calm.clean _ _
 ·exact h.calm.forget
 ·exact h.calm
theorem Scr.Ok.report (h : s.Ok c r) (k : Int) : (s.report k).Ok c r := by
 unfold Scr.report
 repeat' split
 ·exact h.say _
 ·exact h.say _
 ·exact h.say _
 ·exact h
theorem Scr.Ok.looks (h : s.Ok c r) (ps : List Int) : (s.looks ps).Ok c r := h.put ⟨h.now.x0, h.now.x1, h.now.y0, h.now.y1, zkK ps h.now.pen, h.now.sec⟩
theorem Scr.Ok.setMode1 (h : s.Ok c r) (k : Int) (on : Bool) : (s.setMode1 k on).Ok c r := by
 unfold Scr.setMode1
 repeat' split
 ·exact h.mode 2 ⟨by decide, by decide⟩ _
 ·exact h.mode 512 ⟨by decide, by decide⟩ _
 ·exact h
theorem Scr.Ok.region (h : s.Ok c r) (hc : 1 ≤ c) (hr : 1 ≤ r) (ps : List Int) : (s.region ps).Ok c r := by
 have e := h.rows;unfold Scr.region;dsimp only;generalize (if par ps 1 s.rows = 0 then s.rows else par ps 1 s.rows) = b0;split
 ·rename_i hlt;have h1 : ({ s with top := max 1 (par ps 0 1) - 1, bottom := min b0 s.rows - 1 } : Scr).Ok c r :=
   ⟨h.main, h.other, h.now, h.k0, h.k1, by show 0 ≤ max 1 (par ps 0 1) - 1; omega, by show max 1 (par ps 0 1) - 1 ≤ min b0 s.rows - 1; omega, by show min b0 s.rows - 1 < r; omega, h.tl, h.md⟩
  exact h1.place hc hr _ _
 ·exact h
theorem zfF {f : Scr → Nat → Scr} (hf : ∀ (t : Scr) i, t.Ok c r → (f t i).Ok c r) : ∀ (l : List Nat) (t : Scr), t.Ok c r → (l.foldl f t).Ok c r
 | [], _, h => h
 | i :: l, t, h => zfF hf l (f t i) (hf t i h)
theorem Scr.Ok.others (h : s.Ok c r) (hc : 1 ≤ c) (hr : 1 ≤ r) (k : Int) (ps : List Int) : (s.others k ps).Ok c r := by
 unfold Scr.others;dsimp only
 repeat' split
 ·exact h.place hc hr _ _
 ·exact h.inAll _
 ·exact h.inRow _
 ·exact h.say _
 ·exact h
 ·exact h.report _
 ·exact h.setTabs (by rw [List.length_set]; exact h.tl)
 ·exact h.setTabs (by rw [List.length_replicate]; exact h.tl)
 ·exact h
 ·exact zfF (fun t i h => h.setMode1 _ _) _ _ h
 ·exact h.looks ps
 ·exact h.region hc hr ps
 ·exact h.keep _
 ·exact h
theorem Scr.Ok.private (h : s.Ok c r) (hc : 1 ≤ c) (hr : 1 ≤ r) (k : Int) (on : Bool) : (s.private k on).Ok c r := by
 unfold Scr.private;dsimp only
 repeat' split
 ·exact h.mode 16 ⟨by decide, by decide⟩ _
 ·exact (h.mode 4 ⟨by decide, by decide⟩ on).place hc hr _ _
 ·have h1 := h.mode 1 ⟨by decide, by decide⟩ on;exact h1.put ⟨h1.now.x0, h1.now.x1, h1.now.y0, h1.now.y1, h1.now.pen, h1.now.sec⟩
 ·exact h.mode 8 ⟨by decide, by decide⟩ _
 ·exact h.swap hr _
 ·exact h.keep _
 ·exact h.save.swap hr _
 ·exact (h.swap hr _).restore
 ·exact h.mode 128 ⟨by decide, by decide⟩ _
 ·exact h.mode 64 ⟨by decide, by decide⟩ _
 ·exact h
theorem Scr.Ok.soft (h : s.Ok c r) (hc : 1 ≤ c) (hr : 1 ≤ r) : s.soft.Ok c r := by
 have h1 := (h.put (v := { sav0 with x := s.now.x, y := s.now.y }) ⟨h.now.x0, h.now.x1, h.now.y0, h.now.y1, zba, .inl rfl⟩).whole hr;unfold Scr.soft;dsimp only;generalize (({ s with now := { sav0 with x := s.now.x, y := s.now.y } } : Scr).whole) = s1 at h1 ⊢;have h2 : ({ s1 with modes := bOr (Zm s1.modes 54) 9 } : Scr).Ok c r := ⟨h1.main, h1.other, h1.now, h1.k0, h1.k1, h1.t0, h1.tb, h1.b1, h1.tl, (h1.md.not 54).or ⟨by decide, by decide⟩⟩;exact h2.setSlot (zcE hc hr)
theorem Scr.Ok.csi (h : s.Ok c r) (hc : 1 ≤ c) (hr : 1 ≤ r) (b : UInt8) (ps : List Int) (i : List UInt8) : (s.csi b ps i).Ok c r := by
 unfold Scr.csi;dsimp only;split
 ·split
  ·rename_i t ht; exact h.move hc hr _ _ t ht
  ·split
   ·rename_i t ht; exact h.edit hc _ _ t ht
   ·exact h.others hc hr _ ps
 split
 ·split
  ·exact zfF (fun t i h => h.private hc hr _ _) _ _ h
  ·exact h
 split
 ·split
  ·exact h.soft hc hr
  ·exact h
 split
 ·split
  ·exact h.say _
  ·exact h
 ·exact h
theorem Scr.Ok.named (h : s.Ok c r) (t : List UInt8) : (s.named t).Ok c r := by
 unfold Scr.named;split
 ·exact ⟨h.main, h.other, h.now, h.k0, h.k1, h.t0, h.tb, h.b1, h.tl, h.md⟩
 ·exact h
end
end
section
open Go.RowKit
structure SR (B : World) (C : Nat → Nat) (p : Nat) (w : World) (s : Scr) (ps : PSt) : Prop where
 sm : SM C p w s ps
 tb : zcx B
 bl : Below B.heap.size B w
 hi : ∀ k, C k ≠ 0 → B.heap.size ≤ k
structure Pre (C : Nat → Nat) (w : World) (C' : Nat → Nat) (w' : World) : Prop where
 wi : ze (own C w) w w'
 n : ∀ k, C' k ≠ 0 → own C w k
theorem Pre.refl (C : Nat → Nat) (w : World) : Pre C w C w := ⟨ze.refl _ _, fun _ hk => .inl hk⟩
theorem Pre.trans {C C1 C2 : Nat → Nat} {w w1 w2 : World} (h : Pre C w C1 w1) (g : Pre C1 w1 C2 w2) : Pre C w C2 w2 :=
 ⟨zdl h.wi h.n g.wi, fun k hk => by
  rcases g.n k hk with e | e
  ·exact h.n k e
  ·exact .inr (by have := h.wi.size; omega)⟩
theorem Pre.below {C C1 : Nat → Nat} {w w1 w2 : World} (h : Pre C w C1 w1) (b : Below w1.heap.size w1 w2) : Pre C w C1 w2 := ⟨h.wi.trans (ze.of_below b), h.n⟩
def zq (B : World) (C : Nat → Nat) (p : Nat) (w w' : World) (s : Scr) (ps : PSt) : Prop := ∃ C', SR B C' p w' s ps ∧ Pre C w C' w'
section
variable {B : World} {C : Nat → Nat} {p : Nat} {w w' : World} {s : Scr} {ps : PSt}
theorem SR.step {C' : Nat → Nat} {s' : Scr} {ps' : PSt} (h : SR B C p w s ps) (g : Pre C w C' w') (hs : SM C' p w' s' ps') : SR B C' p w' s' ps' :=
 ⟨hs, h.tb, h.bl.trans (zeK g.wi h.bl.size h.hi), zip g.n h.bl.size h.hi⟩
theorem SR.below (h : SR B C p w s ps) (b : Below w.heap.size w w') : SR B C p w' s ps := by
 obtain ⟨Tm, To, Tp, pm, po, pp, vt, vo, hs⟩ := h.sm;exact h.step ⟨ze.of_below b, fun _ hk => .inl hk⟩ ⟨Tm, To, Tp, pm, po, pp, vt, vo, hs.below b⟩
theorem zq.refl (h : SR B C p w s ps) : zq B C p w w s ps := ⟨C, h, Pre.refl _ _⟩
theorem zq.after {C1 : Nat → Nat} {w1 w2 : World} {s2 : Scr} {ps2 : PSt} (g : Pre C w C1 w1) (d : zq B C1 p w1 w2 s2 ps2) : zq B C p w w2 s2 ps2 := by
 obtain ⟨C2, h2, g2⟩ := d;exact ⟨C2, h2, g.trans g2⟩
theorem SR.blk (h : SR B C p w s ps) : ∃ pm po pp vt vo, w.heap[p]? = some (.cells (s.cells pm po pp vt vo) 90 (0, 0)) := by
 obtain ⟨Tm, To, Tp, pm, po, pp, vt, vo, hs⟩ := h.sm;exact ⟨pm, po, pp, vt, vo, hs.blk⟩
theorem SR.fz (h : SR B C p w s ps) (i : Nat) : w.frozen? ⟨p, i, none⟩ = false := by
 obtain ⟨pm, po, pp, vt, vo, hb⟩ := h.blk;exact zy hb i
theorem SR.at_ (h : SR B C p w s ps) (i : Nat) (v : Value) (hv : ∀ pm po pp vt vo, (s.cells pm po pp vt vo)[i]? = some v := by intros; rfl) : w.cell? ⟨p, i, none⟩ = some v := by
 obtain ⟨pm, po, pp, vt, vo, hb⟩ := h.blk;exact (za hb i).trans (hv pm po pp vt vo)
theorem zv {w w' : World} {p : Nat} (h : w'.heap[p]? = w.heap[p]?) (i : Nat) : w'.cell? ⟨p, i, none⟩ = w.cell? ⟨p, i, none⟩ := by
 unfold World.cell?;rw [h]
theorem SR.pc (h : SR B C p w s ps) : C p ≠ 0 := by
 obtain ⟨Tm, To, Tp, pm, po, pp, vt, vo, hs⟩ := h.sm;rw [hs.cp]; decide
theorem SR.pl (h : SR B C p w s ps) : p < w.heap.size := by
 obtain ⟨pm, po, pp, vt, vo, hb⟩ := h.blk;exact zj hb
theorem SR.set (h : SR B C p w s ps) (i : Nat) (v : Value) (s' : Scr) (hc : ∀ pm po pp vt vo, (s.cells pm po pp vt vo).setIfInBounds i v = s'.cells pm po pp vt vo := by intros; rfl) (h1 : s'.main = s.main := by rfl) (h2 : s'.other = s.other := by rfl) (h3 : s'.tabs = s.tabs := by rfl) (h4 : s'.out = s.out := by rfl) :
  SR B C p (w.setCell ⟨p, i, none⟩ v) s' ps ∧ Pre C w C (w.setCell ⟨p, i, none⟩ v) := by
 obtain ⟨Tm, To, Tp, pm, po, pp, vt, vo, hs⟩ := h.sm;have g : Pre C w C (w.setCell ⟨p, i, none⟩ v) := ⟨ze.of_gb (zO (zr _ _) _ _) (fun k hk => by injection hk with hk; subst hk; exact .inl h.pc), fun _ hk => .inl hk⟩;exact ⟨h.step g ⟨Tm, To, Tp, pm, po, pp, vt, vo, hs.field i v (hc pm po pp vt vo) h1 h2 h3 h4⟩, g⟩
theorem SR.main (h : SR B C p w s ps) : ∃ T q, GM T q w s.main ∧ w.cell? ⟨p, 10, none⟩ = some (.pointer (some ⟨q, 0, none⟩)) ∧
  ∀ w2 w' T' g', Below w.heap.size w w2 → ze (own T w2) w2 w' → GM T' q w' g' → (∀ k, T' k ≠ 0 → own T w2 k) → zq B C p w w' { s with main := g' } ps ∧ w'.heap[p]? = w.heap[p]? := by
 obtain ⟨Tm, To, Tp, pm, po, pp, vt, vo, hs⟩ := h.sm;refine ⟨Tm, pm, hs.gm, za hs.blk 10, fun w2 w' T' g' hb hw hg hn => ?_⟩;obtain ⟨h2, n2⟩ := (hs.below hb).main' hw hg hn;have K := zar.of_own hw (hs.below hb).t4;have g2 : Pre C w2 (reC C 4 T') w' := ⟨K.own (by decide), n2⟩;have g := ((Pre.refl C w).below hb).trans g2;exact ⟨⟨_, h.step g ⟨_, _, _, _, _, _, _, _, h2⟩, g⟩, (K.blk (hs.below hb).blk hs.cp (by decide)).trans hs.blk.symm⟩
def ShQ (w : World) (p q : Nat) : Prop := (w.cell? ⟨p, 11, none⟩ = some (.pointer none) ∧ w.cell? ⟨p, 10, none⟩ = some (.pointer (some ⟨q, 0, none⟩))) ∨ w.cell? ⟨p, 11, none⟩ = some (.pointer (some ⟨q, 0, none⟩))
theorem SR.grid (h : SR B C p w s ps) : ∃ T q, GM T q w s.shown ∧ ShQ w p q ∧
  ∀ w2 w' T' (f : Gr → Gr), Below w.heap.size w w2 → ze (own T w2) w2 w' → GM T' q w' (f s.shown) → (∀ k, T' k ≠ 0 → own T w2 k) → zq B C p w w' (s.turn f) ps ∧ w'.heap[p]? = w.heap[p]? := by
 obtain ⟨Tm, To, Tp, pm, po, pp, vt, vo, hs⟩ := h.sm;rcases hs.go with ⟨rfl, e, _⟩ | ⟨q, g0, rfl, e, hg0⟩
 ·have hsh : s.shown = s.main := (by unfold Scr.shown; rw [e]; rfl);refine ⟨Tm, pm, by rw [hsh]; exact hs.gm, .inl ⟨za hs.blk 11, za hs.blk 10⟩, fun w2 w' T' f hb hw hg hn => ?_⟩;obtain ⟨h2, n2⟩ := (hs.below hb).main' hw hg hn;have K := zar.of_own hw (hs.below hb).t4;have g2 : Pre C w2 (reC C 4 T') w' := ⟨K.own (by decide), n2⟩;have g := ((Pre.refl C w).below hb).trans g2;have hf : s.turn f = { s with main := f s.shown } := (by unfold Scr.turn; rw [e, hsh]);rw [hf];exact ⟨⟨_, h.step g ⟨_, _, _, _, _, _, _, _, h2⟩, g⟩, (K.blk (hs.below hb).blk hs.cp (by decide)).trans hs.blk.symm⟩
 ·have hsh : s.shown = g0 := (by unfold Scr.shown; rw [e]; rfl);refine ⟨To, q, by rw [hsh]; exact hg0, .inr (za hs.blk 11), fun w2 w' T' f hb hw hg hn => ?_⟩;obtain ⟨h2, n2⟩ := (hs.below hb).other' (g := g0) hw hg hn;have K := zar.of_own hw (hs.below hb).t5;have g2 : Pre C w2 (reC C 5 T') w' := ⟨K.own (by decide), n2⟩;have g := ((Pre.refl C w).below hb).trans g2;have hf : s.turn f = { s with other := some (f s.shown) } := (by unfold Scr.turn; rw [e, hsh]);rw [hf];exact ⟨⟨_, h.step g ⟨_, _, _, _, _, _, _, _, h2⟩, g⟩, (K.blk (hs.below hb).blk hs.cp (by decide)).trans hs.blk.symm⟩
theorem SR.right (h : SR B C p w s ps) (t : Sty) (h1 : -9223372036854775808 ≤ t.fg ∧ t.fg ≤ 9223372036854775807) (h2 : -9223372036854775808 ≤ t.bg ∧ t.bg ≤ 9223372036854775807) : zaa w t := (zcy t B h.tb h1 h2).below h.bl
theorem zeC {t : Sty} (h : okS t = true) : (-9223372036854775808 ≤ t.fg ∧ t.fg ≤ 9223372036854775807) ∧ (-9223372036854775808 ≤ t.bg ∧ t.bg ≤ 9223372036854775807) := by
 unfold okS Zp at h;simp only [Bool.and_eq_true, Bool.or_eq_true, decide_eq_true_eq] at h;omega
theorem SR.oth (h : SR B C p w s ps) : (w.cell? ⟨p, 11, none⟩ = some (.pointer none) ∧ s.other.isNone = true) ∨ ∃ q, w.cell? ⟨p, 11, none⟩ = some (.pointer (some ⟨q, 0, none⟩)) ∧ s.other.isNone = false := by
 obtain ⟨Tm, To, Tp, pm, po, pp, vt, vo, hs⟩ := h.sm;have c := za hs.blk 11;rcases hs.go with ⟨rfl, e, _⟩ | ⟨q, g0, rfl, e, hg0⟩
 ·exact .inl ⟨c, by rw [e]; rfl⟩
 ·exact .inr ⟨q, c, by rw [e]; rfl⟩
theorem SR.wf (h : SR B C p w s ps) : s.main.WF := by
 obtain ⟨T, q, hg, _⟩ := h.main;exact hg.wf
structure zos (s : Scr) : Prop where
 x0 : 0 ≤ s.now.x
 x1 : s.now.x < (s.main.cols : Int)
 y0 : 0 ≤ s.now.y
 y1 : s.now.y < (s.main.rows.length : Int)
 t0 : 0 ≤ s.top
 tb : s.top ≤ s.bottom
 b1 : s.bottom < (s.main.rows.length : Int)
 c1 : 1 ≤ s.main.cols
 c2 : s.main.cols ≤ 250
 r1 : 1 ≤ s.main.rows.length
 r2 : s.main.rows.length ≤ 120
 tl : s.tabs.length = s.main.cols
 pen : okS s.now.pen = true
theorem SR.nums {c r : Nat} (h : SR B C p w s ps) (hok : s.Ok c r) : zos s := by
 have wf := h.wf;obtain ⟨e1, e2⟩ := hok.main;have hn := hok.now;exact ⟨hn.x0, by rw [e1]; exact hn.x1, hn.y0, by rw [e2]; exact hn.y1, hok.t0, hok.tb, by rw [e2]; exact hok.b1, wf.c1, wf.c2, wf.r1, wf.r2, by rw [e1]; exact hok.tl, hn.pen⟩
theorem zos.ok {s : Scr} (_ : zos s) {c r : Nat} (hok : s.Ok c r) : c = s.main.cols ∧ r = s.main.rows.length := ⟨hok.main.1.symm, hok.main.2.symm⟩
theorem SR.blankR {c r : Nat} (h : SR B C p w s ps) (hok : s.Ok c r) : zaa w s.blank := by
 have hr := zeC (h.nums hok).pen;refine h.right _ ⟨?_, ?_⟩ ?_
 ·show (-9223372036854775808 : Int) ≤ -1; decide
 ·show (-1 : Int) ≤ 9223372036854775807; decide
 ·exact hr.2
theorem SR.setG (h : SR B C p w s ps) (g : w.grownBy w' (some p)) (s' : Scr) (hb : ∀ pm po pp vt vo, w.heap[p]? = some (.cells (s.cells pm po pp vt vo) 90 (0, 0)) → w'.heap[p]? = some (.cells (s'.cells pm po pp vt vo) 90 (0, 0)))
  (h1 : s'.main = s.main := by rfl) (h2 : s'.other = s.other := by rfl) (h3 : s'.tabs = s.tabs := by rfl) (h4 : s'.out = s.out := by rfl) : SR B C p w' s' ps ∧ Pre C w C w' := by
 obtain ⟨Tm, To, Tp, pm, po, pp, vt, vo, hs⟩ := h.sm;have K : zar C 1 w w' := .of_gb g (fun k hk => by injection hk with hk; subst hk; exact .inl hs.cp);have g' : Pre C w C w' := ⟨K.own (by decide), fun _ hk => .inl hk⟩;exact ⟨h.step g' ⟨Tm, To, Tp, pm, po, pp, vt, vo, ⟨fun k hk => Nat.lt_of_lt_of_le (hs.lt k hk) g.size, hs.cp, hb pm po pp vt vo hs.blk, by rw [h1]; exact K.gm hs.gm hs.t4 (by decide), by rw [h2]; exact K.oth hs.go hs.t5 (by decide), K.rest hs.rp hs.t6 (by decide), by rw [h3]; exact K.row hs.ta hs.t2 (by decide), by rw [h4]; exact K.row hs.ou hs.t3 (by decide), hs.t2, hs.t3, hs.t4, hs.t5, hs.t6⟩⟩, g'⟩
def Sav.vals (v : Sav) : List Value := [.int .i64 v.x, .int .i64 v.y, .bool v.wait, .int .i64 v.pen.fg, .int .i64 v.pen.bg, .int .i64 v.pen.attr, .bool v.origin, .bool v.l0, .bool v.l1, .int .i64 v.second]
theorem za1 (w : World) (p : Nat) : ∀ (vs : List Value) (o : Nat), w.grownBy (w.setCells p o vs) (some p) := fun vs o => by
 induction vs generalizing w o with
 | nil => exact zr _ _
 | cons v r ih => exact Zs (zO (zr w (some p)) o v) (ih _ _)
theorem zbI {w : World} {p : Nat} {c : Array Value} {T : TypeId} (h : w.heap[p]? = some (.cells c T (0, 0))) (o : Nat) (v : Sav) :
  (w.setCells p o v.vals).heap[p]? = some (.cells ((((((((((c.setIfInBounds o (.int .i64 v.x)).setIfInBounds (o + 1) (.int .i64 v.y)).setIfInBounds (o + 2) (.bool v.wait)).setIfInBounds (o + 3) (.int .i64 v.pen.fg)).setIfInBounds (o + 4) (.int .i64 v.pen.bg)).setIfInBounds (o + 5) (.int .i64 v.pen.attr)).setIfInBounds (o + 6) (.bool v.origin)).setIfInBounds (o + 7) (.bool v.l0)).setIfInBounds (o + 8) (.bool v.l1)).setIfInBounds (o + 9) (.int .i64 v.second)) T (0, 0)) :=
 zw (zw (zw (zw (zw (zw (zw (zw (zw (zw h _ _) _ _) _ _) _ _) _ _) _ _) _ _) _ _) _ _) _ _
theorem SR.setNow (h : SR B C p w s ps) (v : Sav) : SR B C p (w.setCells p 0 v.vals) { s with now := v } ps ∧ Pre C w C (w.setCells p 0 v.vals) :=
 h.setG (za1 w p _ _) { s with now := v } (fun pm po pp vt vo hb => by
  have h2 := zbI hb 0 v;simp only [Scr.cells, List.setIfInBounds_toArray, List.set_cons_zero, List.set_cons_succ, Nat.reduceAdd, Nat.zero_add] at h2;exact h2)
theorem SR.setK0 (h : SR B C p w s ps) (v : Sav) : SR B C p (w.setCells p 12 v.vals) { s with k0 := v } ps ∧ Pre C w C (w.setCells p 12 v.vals) :=
 h.setG (za1 w p _ _) { s with k0 := v } (fun pm po pp vt vo hb => by
  have h2 := zbI hb 12 v;simp only [Scr.cells, List.setIfInBounds_toArray, List.set_cons_zero, List.set_cons_succ, Nat.reduceAdd, Nat.zero_add] at h2;exact h2)
theorem SR.setK1 (h : SR B C p w s ps) (v : Sav) : SR B C p (w.setCells p 22 v.vals) { s with k1 := v } ps ∧ Pre C w C (w.setCells p 22 v.vals) :=
 h.setG (za1 w p _ _) { s with k1 := v } (fun pm po pp vt vo hb => by
  have h2 := zbI hb 22 v;simp only [Scr.cells, List.setIfInBounds_toArray, List.set_cons_zero, List.set_cons_succ, Nat.reduceAdd, Nat.zero_add] at h2;exact h2)
theorem zjW {w : World} {p o : Nat} {c : Array Value} {T : TypeId} {vs : List Value} (h : w.heap[p]? = some (.cells c T (0, 0))) (hv : ∀ j v, vs[j]? = some v → c[o + j]? = some v) : w.rangeAt p o vs := fun j v e => (za h (o + j)).trans (hv j v e)
theorem zgC (v : Sav) (o : Nat) (c : Array Value) (h0 : c[o]? = some (.int .i64 v.x)) (h1 : c[o + 1]? = some (.int .i64 v.y)) (h2 : c[o + 2]? = some (.bool v.wait)) (h3 : c[o + 3]? = some (.int .i64 v.pen.fg)) (h4 : c[o + 4]? = some (.int .i64 v.pen.bg)) (h5 : c[o + 5]? = some (.int .i64 v.pen.attr)) (h6 : c[o + 6]? = some (.bool v.origin)) (h7 : c[o + 7]? = some (.bool v.l0)) (h8 : c[o + 8]? = some (.bool v.l1)) (h9 : c[o + 9]? = some (.int .i64 v.second)) :
  ∀ j u, v.vals[j]? = some u → c[o + j]? = some u
 | 0, u, e => by rw [show v.vals[0]? = some (.int .i64 v.x) from rfl] at e; rw [← e]; exact h0
 | 1, u, e => by rw [show v.vals[1]? = some (.int .i64 v.y) from rfl] at e; rw [← e]; exact h1
 | 2, u, e => by rw [show v.vals[2]? = some (.bool v.wait) from rfl] at e; rw [← e]; exact h2
 | 3, u, e => by rw [show v.vals[3]? = some (.int .i64 v.pen.fg) from rfl] at e; rw [← e]; exact h3
 | 4, u, e => by rw [show v.vals[4]? = some (.int .i64 v.pen.bg) from rfl] at e; rw [← e]; exact h4
 | 5, u, e => by rw [show v.vals[5]? = some (.int .i64 v.pen.attr) from rfl] at e; rw [← e]; exact h5
 | 6, u, e => by rw [show v.vals[6]? = some (.bool v.origin) from rfl] at e; rw [← e]; exact h6
 | 7, u, e => by rw [show v.vals[7]? = some (.bool v.l0) from rfl] at e; rw [← e]; exact h7
 | 8, u, e => by rw [show v.vals[8]? = some (.bool v.l1) from rfl] at e; rw [← e]; exact h8
 | 9, u, e => by rw [show v.vals[9]? = some (.int .i64 v.second) from rfl] at e; rw [← e]; exact h9
 | n + 10, u, e => by rw [show v.vals[n + 10]? = none from rfl] at e; cases e
theorem SR.k0R (h : SR B C p w s ps) : w.rangeAt p 12 s.k0.vals := by
 obtain ⟨pm, po, pp, vt, vo, hb⟩ := h.blk;exact zjW hb (zgC s.k0 12 _ rfl rfl rfl rfl rfl rfl rfl rfl rfl rfl)
theorem SR.k1R (h : SR B C p w s ps) : w.rangeAt p 22 s.k1.vals := by
 obtain ⟨pm, po, pp, vt, vo, hb⟩ := h.blk;exact zjW hb (zgC s.k1 22 _ rfl rfl rfl rfl rfl rfl rfl rfl rfl rfl)
theorem SR.there (h : SR B C p w s ps) (o n : Nat) (hn : o + n ≤ 41) : w.there p o n := fun j hj => by
 obtain ⟨pm, po, pp, vt, vo, hb⟩ := h.blk;refine ⟨?_, h.fz _⟩;rw [za hb, Array.getElem?_eq_getElem (by show o + j < 41; omega)];rfl
end
end
section
open Go.RowKit
set_option maxRecDepth 100000
theorem ZS {B : World} {C : Nat → Nat} {p : Nat} {w : World} {s : Scr} {ps : PSt} (h : SR B C p w s ps) :
  Calls Tryz.prog 93 #[.pointer (some ⟨p, 0, none⟩)] w fun e w' => e = .returned (.int .i64 s.main.cols) ∧ w' = w := by
 obtain ⟨T, q, hg, c10, _⟩ := h.main;have HC := Lib.hid (zf5 hg);clear hg h;go_enter Tryz.func93, Tryz.ntmps93;go_wp2_with fail;refine HC.out.mono ?_;rintro e w2 ⟨rfl, rfl⟩;go_wp2_with fail;go_ret;exact ⟨rfl, rfl⟩
theorem ZI {B : World} {C : Nat → Nat} {p : Nat} {w : World} {s : Scr} {ps : PSt} (h : SR B C p w s ps) :
  Calls Tryz.prog 68 #[.pointer (some ⟨p, 0, none⟩)] w fun e w' => e = .returned (.int .i64 s.main.rows.length) ∧ w' = w := by
 obtain ⟨T, q, hg, c10, _⟩ := h.main;have HC := Lib.hid (zeQ hg);clear hg h;go_enter Tryz.func68, Tryz.ntmps68;go_wp2_with fail;refine HC.out.mono ?_;rintro e w2 ⟨rfl, rfl⟩;go_wp2_with fail;go_ret;exact ⟨rfl, rfl⟩
theorem zL {p q : Nat} {w : World} (h : ShQ w p q) :
  Calls Tryz.prog 69 #[.pointer (some ⟨p, 0, none⟩)] w fun e w' => e = .returned (.pointer (some ⟨q, 0, none⟩)) ∧ w' = w := by
 rcases h with ⟨c11, c10⟩ | c11
 ·go_enter Tryz.func69, Tryz.ntmps69;go_wp2_with fail;go_ret;exact ⟨rfl, rfl⟩
 ·go_enter Tryz.func69, Tryz.ntmps69;go_wp2_with fail;go_ret;exact ⟨rfl, rfl⟩
theorem zaI {B : World} {C : Nat → Nat} {p : Nat} {w : World} {s : Scr} {ps : PSt} (h : SR B C p w s ps) (m : Int) :
  Calls Tryz.prog 67 #[.pointer (some ⟨p, 0, none⟩), .int .i64 m] w fun e w' => e = .returned (.bool (s.has m)) ∧ w' = w := by
 have c32 : w.cell? ⟨p, 32, none⟩ = some (.int .i64 s.modes) := h.at_ 32 _;clear h;go_enter Tryz.func67, Tryz.ntmps67;go_wp2_with fail;go_ret;exact ⟨rfl, rfl⟩
theorem zbJ {B : World} {C : Nat → Nat} {p : Nat} {w : World} {s : Scr} {ps : PSt} (h : SR B C p w s ps) :
  Calls Tryz.prog 49 #[.pointer (some ⟨p, 0, none⟩)] w fun e w' => e = .returned (.tuple #[]) ∧ zq B C p w w' s.whole ps := by
 have HR := Lib.hid (ZI h);have f33 := h.fz 33;have f34 := h.fz 34;have c33 : w.cell? ⟨p, 33, none⟩ = some (.int .i64 s.top) := h.at_ 33 _;have c34 : w.cell? ⟨p, 34, none⟩ = some (.int .i64 s.bottom) := h.at_ 34 _;have wf := h.wf;have r2 := wf.r2;have r1 := wf.r1;have hw1 : IntKind.i64.wrap ((s.main.rows.length : Int) - 1) = (s.main.rows.length : Int) - 1 := zb _ (by omega) (by omega);obtain ⟨h1, g1⟩ := h.set 33 (.int .i64 0) { s with top := 0 };obtain ⟨h2, g2⟩ := h1.set 34 (.int .i64 ((s.main.rows.length : Int) - 1)) { s with top := 0, bottom := (s.main.rows.length : Int) - 1 };have HD := Lib.hid (show zq B C p w _ s.whole ps from ⟨C, h2, g1.trans g2⟩);clear h h1 h2 g1 g2 wf;go_enter Tryz.func49, Tryz.ntmps49;go_wp2_with fail;refine HR.out.mono ?_;rintro e w2 ⟨rfl, rfl⟩;go_wp2_with fail;go_end0;exact ⟨rfl, HD.out⟩
theorem Zu {B : World} {C : Nat → Nat} {p : Nat} {w : World} {s : Scr} {ps : PSt} (h : SR B C p w s ps) (m : Int) (on : Bool) :
  Calls Tryz.prog 212 #[.pointer (some ⟨p, 0, none⟩), .int .i64 m, .bool on] w fun e w' => e = .returned (.tuple #[]) ∧ zq B C p w w' (s.mode m on) ps := by
 have f32 := h.fz 32;have c32 : w.cell? ⟨p, 32, none⟩ = some (.int .i64 s.modes) := h.at_ 32 _;obtain ⟨h1, g1⟩ := h.set 32 (.int .i64 (Zm s.modes m)) { s with modes := Zm s.modes m };cases on
 ·have HD := Lib.hid (show zq B C p w _ (s.mode m false) ps from ⟨C, h1, g1⟩);clear h h1 g1;go_enter Tryz.func212, Tryz.ntmps212;go_wp2_with fail;go_end0;exact ⟨rfl, HD.out⟩
 ·obtain ⟨h2, g2⟩ := h1.set 32 (.int .i64 (bOr (Zm s.modes m) m)) { s with modes := bOr (Zm s.modes m) m };have HD := Lib.hid (show zq B C p w _ (s.mode m true) ps from ⟨C, h2, g1.trans g2⟩);clear h h1 h2 g1 g2;go_enter Tryz.func212, Tryz.ntmps212;go_wp2_with fail;go_end0;exact ⟨rfl, HD.out⟩
theorem Zv {B : World} {C : Nat → Nat} {p : Nat} {w : World} {s : Scr} {ps : PSt} (h : SR B C p w s ps) :
  Calls Tryz.prog 155 #[.pointer (some ⟨p, 0, none⟩)] w fun e w' => e = .returned s.blank.val ∧ Below w.heap.size w w' := by
 have c4 : w.cell? ⟨p, 4, none⟩ = some (.int .i64 s.now.pen.bg) := h.at_ 4 _;have hl := h.pl;have hc := fun o => (show (w.alloc o).cell? ⟨p, 4, none⟩ = some (.int .i64 s.now.pen.bg) from zc ((Below.refl w.heap.size w).alloc (Nat.le_refl _) o) c4);clear h;unfold Sty.val Scr.blank;go_enter Tryz.func155, Tryz.ntmps155;go_wp2_with fail;exact zca rfl rfl rfl (zE _ _) Tryz.underlying35 rfl (by exact zdc) ⟨rfl, (Below.refl w.heap.size w).alloc (Nat.le_refl _) _⟩
theorem Zb {B : World} {C : Nat → Nat} {p : Nat} {w : World} {s : Scr} {ps : PSt} (h : SR B C p w s ps) (x y : Int) :
  Calls Tryz.prog 207 #[.pointer (some ⟨p, 0, none⟩), .int .i64 x, .int .i64 y] w fun e w' => e = .returned (.tuple #[]) ∧ zq B C p w w' (s.place x y) ps := by
 have HR := Lib.hid (ZI h);have HC := Lib.hid (ZS h);have f0 := h.fz 0;have f1 := h.fz 1;have f2 := h.fz 2;have c0 : w.cell? ⟨p, 0, none⟩ = some (.int .i64 s.now.x) := h.at_ 0 _;have c1 : w.cell? ⟨p, 1, none⟩ = some (.int .i64 s.now.y) := h.at_ 1 _;have c2 : w.cell? ⟨p, 2, none⟩ = some (.bool s.now.wait) := h.at_ 2 _;have wf := h.wf;have r2 := wf.r2;have r1 := wf.r1;have k1 := wf.c1;have k2 := wf.c2;have hw1 : IntKind.i64.wrap ((s.main.rows.length : Int) - 1) = (s.main.rows.length : Int) - 1 := zb _ (by omega) (by omega);have hw2 : IntKind.i64.wrap ((s.main.cols : Int) - 1) = (s.main.cols : Int) - 1 := zb _ (by omega) (by omega);obtain ⟨h1, g1⟩ := h.set 0 (.int .i64 (max 0 (min x ((s.main.cols : Int) - 1)))) { s with now := { s.now with x := max 0 (min x ((s.main.cols : Int) - 1)) } };obtain ⟨h2, g2⟩ := h1.set 1 (.int .i64 (max 0 (min y ((s.main.rows.length : Int) - 1)))) { s with now := { s.now with x := max 0 (min x ((s.main.cols : Int) - 1)), y := max 0 (min y ((s.main.rows.length : Int) - 1)) } };obtain ⟨h3, g3⟩ := h2.set 2 (.bool false) (s.place x y);have HD := Lib.hid (show zq B C p w _ (s.place x y) ps from ⟨C, h3, (g1.trans g2).trans g3⟩);clear h h1 h2 h3 g1 g2 g3 wf;go_enter Tryz.func207, Tryz.ntmps207;go_wp2_with fail;refine HC.out.mono ?_;rintro e w2 ⟨rfl, rfl⟩;go_wp2_with fail;refine HR.out.mono ?_;rintro e w2 ⟨rfl, rfl⟩;go_wp2_with fail;go_end0;exact ⟨rfl, HD.out⟩
theorem zck {B : World} {C : Nat → Nat} {p : Nat} {w : World} {s : Scr} {ps : PSt} (h : SR B C p w s ps) (y : Int) (h1 : -100000 ≤ y ∧ y ≤ 100000) (h2 : 0 ≤ s.top ∧ s.top ≤ 1000) :
  Calls Tryz.prog 231 #[.pointer (some ⟨p, 0, none⟩), .int .i64 y] w fun e w' => e = .returned (.int .i64 (s.line y)) ∧ ∃ m, w' = w.drewN m := by
 have HH := Lib.hid (zaI h 4);have c33 : w.cell? ⟨p, 33, none⟩ = some (.int .i64 s.top) := h.at_ 33 _;have c34 : w.cell? ⟨p, 34, none⟩ = some (.int .i64 s.bottom) := h.at_ 34 _;have hw1 : IntKind.i64.wrap (y + s.top) = y + s.top := zb _ (by omega) (by omega);cases e4 : s.has 4
 ·have HE := Lib.hid (show s.line y = y by unfold Scr.line; rw [e4]; rfl);rw [e4] at HH;clear h e4;go_enter Tryz.func231, Tryz.ntmps231;go_wp2_with fail;refine HH.out.mono ?_;rintro e w2 ⟨rfl, rfl⟩;go_wp2_with fail;go_ret;exact ⟨Z9 HE.out.symm, 0, rfl⟩
 ·have HE := Lib.hid (show s.line y = max s.top (min (y + s.top) s.bottom) by unfold Scr.line; rw [e4]; rfl);rw [e4] at HH;clear h e4;go_enter Tryz.func231, Tryz.ntmps231;go_upto_region 3 with (refine HH.out.mono ?_; rintro e w2 ⟨rfl, rfl⟩);go_quiet (fail);go_wp2_with fail;go_ret;exact ⟨Z9 HE.out.symm, _, rfl⟩
end
section
open Go.RowKit
set_option maxRecDepth 100000
theorem zmv : (Tryz.prog.info? 3).map (·.size) = some 1 := by kernel_rfl
theorem Zw (a : VAct) (v : Value) (w : World) (hr : zff .i64 w v a.params) (i : Nat) (first : Int) :
  Calls Tryz.prog 162 #[a.val v, .int .i64 i, .int .i64 first] w fun e w' => e = .returned (.int .i64 (par a.params i first)) ∧ Below w.heap.size w w' := by
 have hlen := zb9 Tryz.underlying63 hr;have hbk := zE w (.cells (a.cells v).toArray 75);have hb := Lib.hid ((Below.refl w.heap.size w).alloc (Nat.le_refl _) (.cells (a.cells v).toArray 75));have HR := Lib.hid hr;have hP := Lib.hid (show ∀ n, a.params.length = n → a.params.length = n from fun _ h => h);obtain ⟨kind, rune, byte, params, inter, text⟩ := a;unfold VAct.val;unfold VAct.cells at hbk hb;dsimp only at *;have c3 : (w.alloc (.cells #[.int .i64 kind, .int .i32 rune, .int .u8 (byte.toNat : Int), v, .string inter, .string text] 75)).cell? ⟨w.heap.size, 3, none⟩ = some v := za hbk 3;clear hr hbk;by_cases hi : i < params.length
 ·have d1 : decide ((params.length : Int) ≤ (i : Int)) = false := decide_eq_false (by omega);have d1' : decide (params.length ≤ i) = false := decide_eq_false (by omega);obtain ⟨ad, had, hcell⟩ := zmX Tryz.underlying63 zmv HR.out i hi;have hcell2 : (w.alloc (.cells #[.int .i64 kind, .int .i32 rune, .int .u8 (byte.toNat : Int), v, .string inter, .string text] 75)).cell? ad = some (.int .i64 (params.getD i 0)) := zc hb.out hcell;have HG := Lib.hid (show params.getD i (-1) = params.getD i 0 by rw [List.getD_eq_getElem?_getD, List.getD_eq_getElem?_getD, List.getElem?_eq_getElem hi]; rfl);have HI := Lib.hid hi;clear hi hcell;by_cases hx : params.getD i 0 < 0
  ·have d2 : decide (params.getD i 0 < 0) = true := decide_eq_true hx;have HE := Lib.hid (show par params i first = first by unfold par; rw [if_neg (by rw [HG.out]; omega)]);clear hx;generalize params.getD i 0 = x at *;go_enter Tryz.func162, Tryz.ntmps162;go_wp2_with fail;go_ret;exact ⟨Z9 HE.out.symm, hb.out⟩
  ·have d2 : decide (params.getD i 0 < 0) = false := decide_eq_false hx;have HE := Lib.hid (show par params i first = min (params.getD i 0) 9999 by unfold par; rw [HG.out, if_pos ⟨HI.out, by omega⟩]);clear hx;generalize params.getD i 0 = x at *;go_enter Tryz.func162, Tryz.ntmps162;go_wp2_with fail;go_ret;exact ⟨Z9 HE.out.symm, hb.out⟩
 ·have d1 : decide ((params.length : Int) ≤ (i : Int)) = true := decide_eq_true (by omega);have d1' : decide (params.length ≤ i) = true := decide_eq_true (by omega);have HE := Lib.hid (show par params i first = first by unfold par; rw [if_neg (fun e => hi e.1)]);clear hi;go_enter Tryz.func162, Tryz.ntmps162;go_wp2_with fail;go_ret;exact ⟨Z9 HE.out.symm, hb.out⟩
def kcL : List (Nat × Int) := [(0, 1), (1, 2), (2, 3), (3, 4), (4, 5), (5, 7), (6, 8), (7, 9)]
def Zj (p : Sty) (n : Int) (k : Nat) : Sty := (kcL.take k).foldl (fun p kc => zfz p n kc) p
def zoP : Value := .agg #[.int .i64 1, .int .i64 2, .int .i64 3, .int .i64 4, .int .i64 5, .int .i64 7, .int .i64 8, .int .i64 9]
theorem ix8 (i : Nat) (hi : i < 8) (wx : World) : (Instr.index 114 zoP (.int .i64 (i : Int))).run Tryz.prog wx = .ok (.int .i64 (kcL.getD i (0, 0)).2) wx := by
 have hs : (sizeOf 3).run Tryz.prog wx = .ok 1 wx := zdb (by kernel_rfl) wx;have hi' : (0 : Int) ≤ (i : Int) ∧ (i : Int) < 8 := (by omega);unfold zoP;simp only [Instr.index, asIntOf, Sem.run_bind, Sem.run_pure, Result.andThen_ok, run_underlying Tryz.underlying114, if_pos hi', hs];have : i = 0 ∨ i = 1 ∨ i = 2 ∨ i = 3 ∨ i = 4 ∨ i = 5 ∨ i = 6 ∨ i = 7 := (by omega);rcases this with rfl | rfl | rfl | rfl | rfl | rfl | rfl | rfl
 all_goals simp [part, hs, zdb, kcL]
theorem zmw (p : Sty) (n : Int) (h0 : ¬ n = 0) (h22 : ¬ n = 22) (h30 : ¬ (30 ≤ n ∧ n ≤ 37)) (h39 : ¬ n = 39) (h40 : ¬ (40 ≤ n ∧ n ≤ 47)) (h49 : ¬ n = 49) (h90 : ¬ (90 ≤ n ∧ n ≤ 97)) (h100 : ¬ (100 ≤ n ∧ n ≤ 107)) : Zz p n = Zj p n 8 := by
 unfold Zz;rw [if_neg h0, if_neg h22, if_neg h30, if_neg h39, if_neg h40, if_neg h49, if_neg h90, if_neg h100]; rfl
theorem znI (p : Sty) (n : Int) (k : Nat) (c : Int) (h : n = c) : zfz p n (k, c) = { p with attr := bOr p.attr (2 ^ k : Nat) } := by
 unfold zfz;dsimp only;rw [if_pos h, if_neg (show ¬ (n = c + 20 ∧ 1 < k) by omega)]
theorem zmx (p : Sty) (n : Int) (k : Nat) (c : Int) (h : n = c + 20) (hk : 1 < k) : zfz p n (k, c) = { p with attr := Zm p.attr (2 ^ k : Nat) } := by
 unfold zfz;dsimp only;rw [if_neg (show ¬ n = c by omega), if_pos (show n = c + 20 ∧ 1 < k from ⟨h, hk⟩)]
theorem znJ (p : Sty) (n : Int) (k : Nat) (c : Int) (h : ¬ n = c) (h2 : ¬ (n = c + 20 ∧ 1 < k)) : zfz p n (k, c) = p := by
 unfold zfz;dsimp only;rw [if_neg h, if_neg h2]
theorem zbZ (p : Sty) (n : Int) (k : Nat) (c : Int) (m : Int) (hk : kcL[k]? = some (k, c)) (hm : ((2 ^ k : Nat) : Int) = m) (h : n = c) : Zj p n (k + 1) = { Zj p n k with attr := bOr (Zj p n k).attr m } := by
 unfold Zj;rw [List.take_add_one, hk, List.foldl_append, ← hm];exact znI _ n k c h
theorem zcl (p : Sty) (n : Int) (k : Nat) (c : Int) (m : Int) (hk : kcL[k]? = some (k, c)) (hm : ((2 ^ k : Nat) : Int) = m) (h : n = c + 20) (h1 : 1 < k) : Zj p n (k + 1) = { Zj p n k with attr := Zm (Zj p n k).attr m } := by
 unfold Zj;rw [List.take_add_one, hk, List.foldl_append, ← hm];exact zmx _ n k c h h1
theorem zbh (p : Sty) (n : Int) (k : Nat) (c : Int) (hk : kcL[k]? = some (k, c)) (h : ¬ n = c) (h2 : ¬ (n = c + 20 ∧ 1 < k)) : Zj p n (k + 1) = Zj p n k := by
 unfold Zj;rw [List.take_add_one, hk, List.foldl_append];exact znJ _ n k c h h2
def Scr.ink (s : Scr) (t : Sty) : Scr := { s with now := { s.now with pen := t } }
theorem SR.setPen {B : World} {C : Nat → Nat} {p : Nat} {w : World} {s : Scr} {ps : PSt} (h : SR B C p w s ps) (t : Sty) :
  (storeVar 35 ⟨p, 3, none⟩ (.agg #[.int .i64 t.fg, .int .i64 t.bg, .int .i64 t.attr])).run Tryz.prog w = .ok () (w.setCells p 3 [.int .i64 t.fg, .int .i64 t.bg, .int .i64 t.attr]) ∧
  SR B C p (w.setCells p 3 [.int .i64 t.fg, .int .i64 t.bg, .int .i64 t.attr]) (s.ink t) ps ∧ Pre C w C (w.setCells p 3 [.int .i64 t.fg, .int .i64 t.bg, .int .i64 t.attr]) := by
 refine ⟨run_storeVar_mid w p 3 35 #[.int .i64 t.fg, .int .i64 t.bg, .int .i64 t.attr] (h.there 3 3 (by decide)) zdc (by simp [Value.oneCell']), ?_⟩;exact h.setG (za1 w p _ _) (s.ink t) (fun pm po pp vt vo hb => by
  have h2 := zw (zw (zw hb 3 (.int .i64 t.fg)) 4 (.int .i64 t.bg)) 5 (.int .i64 t.attr);simp only [Scr.cells, List.setIfInBounds_toArray, List.set_cons_zero, List.set_cons_succ] at h2;exact h2)
set_option maxHeartbeats 4000000 in
theorem zkL {B : World} {C : Nat → Nat} {p : Nat} {w : World} {s : Scr} {ps : PSt} (h : SR B C p w s ps) (n : Int) (h0 : 0 ≤ n) (h9 : n ≤ 9999) :
  Calls Tryz.prog 286 #[.pointer (some ⟨p, 0, none⟩), .int .i64 n] w fun e w' => e = .returned (.tuple #[]) ∧ zq B C p w w' (s.ink (Zz s.now.pen n)) ps := by
 have c3 : w.cell? ⟨p, 3, none⟩ = some (.int .i64 s.now.pen.fg) := h.at_ 3 _;have c4 : w.cell? ⟨p, 4, none⟩ = some (.int .i64 s.now.pen.bg) := h.at_ 4 _;have c5 : w.cell? ⟨p, 5, none⟩ = some (.int .i64 s.now.pen.attr) := h.at_ 5 _;have f3 := h.fz 3;have f4 := h.fz 4;have f5 := h.fz 5;by_cases hc : n = 0
 ·subst hc;have HE := Lib.hid (show Zz s.now.pen 0 = plainS from rfl);have HR := Lib.hid h;clear h h0 h9 c3 c4 c5 f3 f4 f5;go_enter Tryz.func286, Tryz.ntmps286;go_wp2_with fail;refine (zaZ w).mono ?_;rintro e w2 ⟨rfl, b2⟩;obtain ⟨hst, h1, g1⟩ := (HR.out.below b2).setPen plainS;have HD := Lib.hid (show zq B C p w _ _ ps from ⟨_, h1, ((Pre.refl C w).below b2).trans g1⟩);clear h1 g1 b2;unfold Sty.val;go_wp2_with (refine zJ rfl _ _ _ rfl hst rfl rfl ?_);go_end0;refine ⟨rfl, ?_⟩;rw [HE.out];exact HD.out
 have e0 : (n == 0) = false := beq_eq_false_iff_ne.2 hc;have HN0 := Lib.hid hc;clear hc;by_cases hc : n = 22
 ·subst hc;have HE := Lib.hid (show Zz s.now.pen 22 = { s.now.pen with attr := Zm s.now.pen.attr 3 } from rfl);obtain ⟨h1, g1⟩ := h.set 5 (.int .i64 (Zm s.now.pen.attr 3)) (s.ink { s.now.pen with attr := Zm s.now.pen.attr 3 });have HD := Lib.hid (show zq B C p w _ _ ps from ⟨_, h1, g1⟩);clear h h1 g1 h0 h9;go_enter Tryz.func286, Tryz.ntmps286;go_wp2_with fail;go_end0;refine ⟨rfl, ?_⟩;rw [HE.out];exact HD.out
 have e22 : (n == 22) = false := beq_eq_false_iff_ne.2 hc;have HN22 := Lib.hid hc;clear hc;by_cases hc : 30 ≤ n ∧ n ≤ 37
 ·have HE := Lib.hid (show Zz s.now.pen n = { s.now.pen with fg := n - 30 } by unfold Zz; rw [if_neg HN0.out, if_neg HN22.out, if_pos hc]);have hw : IntKind.i64.wrap (n - 30) = n - 30 := zb _ (by omega) (by omega);have dl30 : decide (30 ≤ n) = true := decide_eq_true (by omega);have dh30 : decide (n ≤ 37) = true := decide_eq_true (by omega);obtain ⟨h1, g1⟩ := h.set 3 (.int .i64 (n - 30)) (s.ink { s.now.pen with fg := n - 30 });have HD := Lib.hid (show zq B C p w _ _ ps from ⟨_, h1, g1⟩);clear h h1 g1 h0 h9 hc;go_enter Tryz.func286, Tryz.ntmps286;go_wp2_with fail;go_end0;refine ⟨rfl, ?_⟩;rw [HE.out];exact HD.out
 have HN30 := Lib.hid hc;clear hc;by_cases hc : n = 39
 ·subst hc;have HE := Lib.hid (show Zz s.now.pen 39 = { s.now.pen with fg := -1 } from rfl);obtain ⟨h1, g1⟩ := h.set 3 (.int .i64 (-1)) (s.ink { s.now.pen with fg := -1 });have HD := Lib.hid (show zq B C p w _ _ ps from ⟨_, h1, g1⟩);clear h h1 g1 h0 h9;go_enter Tryz.func286, Tryz.ntmps286;go_wp2_with fail;go_end0;refine ⟨rfl, ?_⟩;rw [HE.out];exact HD.out
 have e39 : (n == 39) = false := beq_eq_false_iff_ne.2 hc;have HN39 := Lib.hid hc;clear hc;by_cases hc : 40 ≤ n ∧ n ≤ 47
 ·have HE := Lib.hid (show Zz s.now.pen n = { s.now.pen with bg := n - 40 } by unfold Zz; rw [if_neg HN0.out, if_neg HN22.out, if_neg HN30.out, if_neg HN39.out, if_pos hc]);have hw : IntKind.i64.wrap (n - 40) = n - 40 := zb _ (by omega) (by omega);have dl30 : decide (30 ≤ n) = true := decide_eq_true (by omega);have dh30 : decide (n ≤ 37) = false := decide_eq_false (by omega);have dl40 : decide (40 ≤ n) = true := decide_eq_true (by omega);have dh40 : decide (n ≤ 47) = true := decide_eq_true (by omega);have e39 : (n == 39) = false := beq_eq_false_iff_ne.2 (by omega);obtain ⟨h1, g1⟩ := h.set 4 (.int .i64 (n - 40)) (s.ink { s.now.pen with bg := n - 40 });have HD := Lib.hid (show zq B C p w _ _ ps from ⟨_, h1, g1⟩);clear h h1 g1 h0 h9 hc;go_enter Tryz.func286, Tryz.ntmps286;go_wp2_with fail;go_end0;refine ⟨rfl, ?_⟩;rw [HE.out];exact HD.out
 have HN40 := Lib.hid hc;clear hc;by_cases hc : n = 49
 ·subst hc;have HE := Lib.hid (show Zz s.now.pen 49 = { s.now.pen with bg := -1 } from rfl);obtain ⟨h1, g1⟩ := h.set 4 (.int .i64 (-1)) (s.ink { s.now.pen with bg := -1 });have HD := Lib.hid (show zq B C p w _ _ ps from ⟨_, h1, g1⟩);clear h h1 g1 h0 h9;go_enter Tryz.func286, Tryz.ntmps286;go_wp2_with fail;go_end0;refine ⟨rfl, ?_⟩;rw [HE.out];exact HD.out
 have e49 : (n == 49) = false := beq_eq_false_iff_ne.2 hc;have HN49 := Lib.hid hc;clear hc;by_cases hc : 90 ≤ n ∧ n ≤ 97
 ·have HE := Lib.hid (show Zz s.now.pen n = { s.now.pen with fg := n - 82 } by unfold Zz; rw [if_neg HN0.out, if_neg HN22.out, if_neg HN30.out, if_neg HN39.out, if_neg HN40.out, if_neg HN49.out, if_pos hc]);have hw : IntKind.i64.wrap (n - 82) = n - 82 := zb _ (by omega) (by omega);have dl30 : decide (30 ≤ n) = true := decide_eq_true (by omega);have dh30 : decide (n ≤ 37) = false := decide_eq_false (by omega);have dl40 : decide (40 ≤ n) = true := decide_eq_true (by omega);have dh40 : decide (n ≤ 47) = false := decide_eq_false (by omega);have dl90 : decide (90 ≤ n) = true := decide_eq_true (by omega);have dh90 : decide (n ≤ 97) = true := decide_eq_true (by omega);have e39 : (n == 39) = false := beq_eq_false_iff_ne.2 (by omega);have e49 : (n == 49) = false := beq_eq_false_iff_ne.2 (by omega);obtain ⟨h1, g1⟩ := h.set 3 (.int .i64 (n - 82)) (s.ink { s.now.pen with fg := n - 82 });have HD := Lib.hid (show zq B C p w _ _ ps from ⟨_, h1, g1⟩);clear h h1 g1 h0 h9 hc;go_enter Tryz.func286, Tryz.ntmps286;go_wp2_with fail;go_end0;refine ⟨rfl, ?_⟩;rw [HE.out];exact HD.out
 have HN90 := Lib.hid hc;clear hc;by_cases hc : 100 ≤ n ∧ n ≤ 107
 ·have HE := Lib.hid (show Zz s.now.pen n = { s.now.pen with bg := n - 92 } by unfold Zz; rw [if_neg HN0.out, if_neg HN22.out, if_neg HN30.out, if_neg HN39.out, if_neg HN40.out, if_neg HN49.out, if_neg HN90.out, if_pos hc]);have hw : IntKind.i64.wrap (n - 92) = n - 92 := zb _ (by omega) (by omega);have dl30 : decide (30 ≤ n) = true := decide_eq_true (by omega);have dh30 : decide (n ≤ 37) = false := decide_eq_false (by omega);have dl40 : decide (40 ≤ n) = true := decide_eq_true (by omega);have dh40 : decide (n ≤ 47) = false := decide_eq_false (by omega);have dl90 : decide (90 ≤ n) = true := decide_eq_true (by omega);have dh90 : decide (n ≤ 97) = false := decide_eq_false (by omega);have dl100 : decide (100 ≤ n) = true := decide_eq_true (by omega);have dh100 : decide (n ≤ 107) = true := decide_eq_true (by omega);have e39 : (n == 39) = false := beq_eq_false_iff_ne.2 (by omega);have e49 : (n == 49) = false := beq_eq_false_iff_ne.2 (by omega);obtain ⟨h1, g1⟩ := h.set 4 (.int .i64 (n - 92)) (s.ink { s.now.pen with bg := n - 92 });have HD := Lib.hid (show zq B C p w _ _ ps from ⟨_, h1, g1⟩);clear h h1 g1 h0 h9 hc;go_enter Tryz.func286, Tryz.ntmps286;go_wp2_with fail;go_end0;refine ⟨rfl, ?_⟩;rw [HE.out];exact HD.out
 have HN100 := Lib.hid hc;clear hc;have HE := Lib.hid (zmw s.now.pen n HN0.out HN22.out HN30.out HN39.out HN40.out HN49.out HN90.out HN100.out);have HR := Lib.hid h;clear h c3 c4 c5 f3 f4 f5;go_enter Tryz.func286, Tryz.ntmps286;go_upto_region 12 with fail
 go_cut [71] (fun v wz => v = .bool false ∧ wz = w)
 case first =>
  by_cases hx : 30 ≤ n
  ·have d1 : decide (30 ≤ n) = true := decide_eq_true hx;have d2 : decide (n ≤ 37) = false := decide_eq_false (fun e => HN30.out ⟨hx, e⟩);go_wp2_with fail;go_meet;exact ⟨rfl, rfl⟩
  ·have d1 : decide (30 ≤ n) = false := decide_eq_false hx;go_wp2_with fail;go_meet;exact ⟨rfl, rfl⟩
 case rest =>
 obtain ⟨rfl, hwz⟩ := hcut;subst hwz;obtain ⟨w, rfl⟩ : ∃ z, z = wc := ⟨wc, rfl⟩;go_upto_region 16 with fail
 go_cut [93] (fun v wz => v = .bool false ∧ wz = w)
 case first =>
  by_cases hx : 40 ≤ n
  ·have d1 : decide (40 ≤ n) = true := decide_eq_true hx;have d2 : decide (n ≤ 47) = false := decide_eq_false (fun e => HN40.out ⟨hx, e⟩);go_wp2_with fail;go_meet;exact ⟨rfl, rfl⟩
  ·have d1 : decide (40 ≤ n) = false := decide_eq_false hx;go_wp2_with fail;go_meet;exact ⟨rfl, rfl⟩
 case rest =>
 obtain ⟨rfl, hwz⟩ := hcut;subst hwz;obtain ⟨w, rfl⟩ : ∃ z, z = wc := ⟨wc, rfl⟩;go_upto_region 20 with fail
 go_cut [115] (fun v wz => v = .bool false ∧ wz = w)
 case first =>
  by_cases hx : 90 ≤ n
  ·have d1 : decide (90 ≤ n) = true := decide_eq_true hx;have d2 : decide (n ≤ 97) = false := decide_eq_false (fun e => HN90.out ⟨hx, e⟩);go_wp2_with fail;go_meet;exact ⟨rfl, rfl⟩
  ·have d1 : decide (90 ≤ n) = false := decide_eq_false hx;go_wp2_with fail;go_meet;exact ⟨rfl, rfl⟩
 case rest =>
 obtain ⟨rfl, hwz⟩ := hcut;subst hwz;obtain ⟨w, rfl⟩ : ∃ z, z = wc := ⟨wc, rfl⟩;go_upto_region 22 with fail
 go_cut [129] (fun v wz => v = .bool false ∧ wz = w)
 case first =>
  by_cases hx : 100 ≤ n
  ·have d1 : decide (100 ≤ n) = true := decide_eq_true hx;have d2 : decide (n ≤ 107) = false := decide_eq_false (fun e => HN100.out ⟨hx, e⟩);go_wp2_with fail;go_meet;exact ⟨rfl, rfl⟩
  ·have d1 : decide (100 ≤ n) = false := decide_eq_false hx;go_wp2_with fail;go_meet;exact ⟨rfl, rfl⟩
 case rest =>
 obtain ⟨rfl, hwz⟩ := hcut;subst hwz;obtain ⟨w, rfl⟩ : ∃ z, z = wc := ⟨wc, rfl⟩;go_wp2_with fail
 go_loopw [7] (fun iv wr => ∃ (k : Nat) (C1 : Nat → Nat), k ≤ 8 ∧ iv = .int .i64 k ∧ Hid (SR B C1 p wr (s.ink (Zj s.now.pen n k)) ps) ∧ Hid (Pre C w C1 wr)) (fun iv _ => 8 - (intOf iv).toNat)
 case atStart => exact ⟨0, C, by omega, rfl, HR, Lib.hid (Pre.refl _ _)⟩
 case round =>
  obtain ⟨k, C1, hk, rfl, H1, P1⟩ := hrel;obtain rfl | rfl | rfl | rfl | rfl | rfl | rfl | rfl | rfl : k = 0 ∨ k = 1 ∨ k = 2 ∨ k = 3 ∨ k = 4 ∨ k = 5 ∨ k = 6 ∨ k = 7 ∨ k = 8 := by omega
  ·have hix : ∀ wx, (Instr.index 114 (.agg #[.int .i64 1, .int .i64 2, .int .i64 3, .int .i64 4, .int .i64 5, .int .i64 7, .int .i64 8, .int .i64 9]) (.int .i64 0)).run Tryz.prog wx = .ok (.int .i64 1) wx := fun wx => ix8 0 (by decide) wx;have c5 : wr.cell? ⟨p, 5, none⟩ = some (.int .i64 (Zj s.now.pen n 0).attr) := H1.out.at_ 5 _;have f5 := H1.out.fz 5;have hwm : IntKind.i64.wrap 1 = 1 := zb _ (by decide) (by decide);by_cases hc : n = 1
   ·have e1 : (n == 1) = true := beq_iff_eq.2 hc;have e2 : (n == 21) = false := beq_eq_false_iff_ne.2 (by omega);have HPK := Lib.hid (zbZ s.now.pen n 0 1 1 rfl (by decide) hc);clear hc;obtain ⟨h2, g2⟩ := (H1.out.below (Below.refl wr.heap.size wr).drew).set 5 (.int .i64 (bOr (Zj s.now.pen n 0).attr 1)) (s.ink { Zj s.now.pen n 0 with attr := bOr (Zj s.now.pen n 0).attr 1 });have H2 := Lib.hid h2;have P2 := Lib.hid ((P1.out.below (Below.refl wr.heap.size wr).drew).trans g2);clear h2 g2;go_upto_region 4 with fail
    go_still_tail 13, (by kernel_rfl)
    change wpList _ _ _ _ _ wr.drew;go_wp2_with fail;go_roundw
    case rel => exact ⟨0 + 1, C1, by decide, by go_num, Lib.hid (by rw [HPK.out]; exact H2.out), Lib.hid P2.out⟩
    case measure => simp [intOf]
   have e1 : (n == 1) = false := beq_eq_false_iff_ne.2 hc;by_cases hd : n = 21
   ·have e2 : (n == 21) = true := beq_iff_eq.2 hd;have hc2 : ¬ (n = 1 + 20 ∧ 1 < 0) := fun e => absurd e.2 (by decide);clear hd;have HPK := Lib.hid (zbh s.now.pen n 0 1 rfl hc hc2);clear hc hc2;go_wp2_with fail;go_roundw
    case rel => exact ⟨0 + 1, C1, by decide, by go_num, Lib.hid (by rw [HPK.out]; exact H1.out), P1⟩
    case measure => simp [intOf]
   ·have e2 : (n == 21) = false := beq_eq_false_iff_ne.2 hd;have hc2 : ¬ (n = 1 + 20 ∧ 1 < 0) := fun e => hd e.1;clear hd;have HPK := Lib.hid (zbh s.now.pen n 0 1 rfl hc hc2);clear hc hc2;go_wp2_with fail;go_roundw
    case rel => exact ⟨0 + 1, C1, by decide, by go_num, Lib.hid (by rw [HPK.out]; exact H1.out), P1⟩
    case measure => simp [intOf]
  ·have hix : ∀ wx, (Instr.index 114 (.agg #[.int .i64 1, .int .i64 2, .int .i64 3, .int .i64 4, .int .i64 5, .int .i64 7, .int .i64 8, .int .i64 9]) (.int .i64 1)).run Tryz.prog wx = .ok (.int .i64 2) wx := fun wx => ix8 1 (by decide) wx;have c5 : wr.cell? ⟨p, 5, none⟩ = some (.int .i64 (Zj s.now.pen n 1).attr) := H1.out.at_ 5 _;have f5 := H1.out.fz 5;have hwm : IntKind.i64.wrap 2 = 2 := zb _ (by decide) (by decide);by_cases hc : n = 2
   ·have e1 : (n == 2) = true := beq_iff_eq.2 hc;have e2 : (n == 22) = false := beq_eq_false_iff_ne.2 (by omega);have HPK := Lib.hid (zbZ s.now.pen n 1 2 2 rfl (by decide) hc);clear hc;obtain ⟨h2, g2⟩ := (H1.out.below (Below.refl wr.heap.size wr).drew).set 5 (.int .i64 (bOr (Zj s.now.pen n 1).attr 2)) (s.ink { Zj s.now.pen n 1 with attr := bOr (Zj s.now.pen n 1).attr 2 });have H2 := Lib.hid h2;have P2 := Lib.hid ((P1.out.below (Below.refl wr.heap.size wr).drew).trans g2);clear h2 g2;go_upto_region 4 with fail
    go_still_tail 13, (by kernel_rfl)
    change wpList _ _ _ _ _ wr.drew;go_wp2_with fail;go_roundw
    case rel => exact ⟨1 + 1, C1, by decide, by go_num, Lib.hid (by rw [HPK.out]; exact H2.out), Lib.hid P2.out⟩
    case measure => simp [intOf]
   have e1 : (n == 2) = false := beq_eq_false_iff_ne.2 hc;by_cases hd : n = 22
   ·have e2 : (n == 22) = true := beq_iff_eq.2 hd;have hc2 : ¬ (n = 2 + 20 ∧ 1 < 1) := fun e => absurd e.2 (by decide);clear hd;have HPK := Lib.hid (zbh s.now.pen n 1 2 rfl hc hc2);clear hc hc2;go_wp2_with fail;go_roundw
    case rel => exact ⟨1 + 1, C1, by decide, by go_num, Lib.hid (by rw [HPK.out]; exact H1.out), P1⟩
    case measure => simp [intOf]
   ·have e2 : (n == 22) = false := beq_eq_false_iff_ne.2 hd;have hc2 : ¬ (n = 2 + 20 ∧ 1 < 1) := fun e => hd e.1;clear hd;have HPK := Lib.hid (zbh s.now.pen n 1 2 rfl hc hc2);clear hc hc2;go_wp2_with fail;go_roundw
    case rel => exact ⟨1 + 1, C1, by decide, by go_num, Lib.hid (by rw [HPK.out]; exact H1.out), P1⟩
    case measure => simp [intOf]
  ·have hix : ∀ wx, (Instr.index 114 (.agg #[.int .i64 1, .int .i64 2, .int .i64 3, .int .i64 4, .int .i64 5, .int .i64 7, .int .i64 8, .int .i64 9]) (.int .i64 2)).run Tryz.prog wx = .ok (.int .i64 3) wx := fun wx => ix8 2 (by decide) wx;have c5 : wr.cell? ⟨p, 5, none⟩ = some (.int .i64 (Zj s.now.pen n 2).attr) := H1.out.at_ 5 _;have f5 := H1.out.fz 5;have hwm : IntKind.i64.wrap 4 = 4 := zb _ (by decide) (by decide);by_cases hc : n = 3
   ·have e1 : (n == 3) = true := beq_iff_eq.2 hc;have e2 : (n == 23) = false := beq_eq_false_iff_ne.2 (by omega);have HPK := Lib.hid (zbZ s.now.pen n 2 3 4 rfl (by decide) hc);clear hc;obtain ⟨h2, g2⟩ := (H1.out.below (Below.refl wr.heap.size wr).drew).set 5 (.int .i64 (bOr (Zj s.now.pen n 2).attr 4)) (s.ink { Zj s.now.pen n 2 with attr := bOr (Zj s.now.pen n 2).attr 4 });have H2 := Lib.hid h2;have P2 := Lib.hid ((P1.out.below (Below.refl wr.heap.size wr).drew).trans g2);clear h2 g2;go_upto_region 4 with fail
    go_still_tail 13, (by kernel_rfl)
    change wpList _ _ _ _ _ wr.drew;go_wp2_with fail;go_roundw
    case rel => exact ⟨2 + 1, C1, by decide, by go_num, Lib.hid (by rw [HPK.out]; exact H2.out), Lib.hid P2.out⟩
    case measure => simp [intOf]
   have e1 : (n == 3) = false := beq_eq_false_iff_ne.2 hc;by_cases hd : n = 23
   ·have e2 : (n == 23) = true := beq_iff_eq.2 hd;replace hc : n = 3 + 20 := hd;clear hd;have HPK := Lib.hid (zcl s.now.pen n 2 3 4 rfl (by decide) hc (by decide));clear hc;obtain ⟨h2, g2⟩ := (H1.out.below (Below.refl wr.heap.size wr).drew).set 5 (.int .i64 (Zm (Zj s.now.pen n 2).attr 4)) (s.ink { Zj s.now.pen n 2 with attr := Zm (Zj s.now.pen n 2).attr 4 });have H2 := Lib.hid h2;have P2 := Lib.hid ((P1.out.below (Below.refl wr.heap.size wr).drew).trans g2);clear h2 g2;go_upto_region 6 with fail
    go_still_tail 13, (by kernel_rfl)
    change wpList _ _ _ _ _ wr.drew;go_wp2_with fail;go_roundw
    case rel => exact ⟨2 + 1, C1, by decide, by go_num, Lib.hid (by rw [HPK.out]; exact H2.out), Lib.hid P2.out⟩
    case measure => simp [intOf]
   ·have e2 : (n == 23) = false := beq_eq_false_iff_ne.2 hd;have hc2 : ¬ (n = 3 + 20 ∧ 1 < 2) := fun e => hd e.1;clear hd;have HPK := Lib.hid (zbh s.now.pen n 2 3 rfl hc hc2);clear hc hc2;go_wp2_with fail;go_roundw
    case rel => exact ⟨2 + 1, C1, by decide, by go_num, Lib.hid (by rw [HPK.out]; exact H1.out), P1⟩
    case measure => simp [intOf]
  ·have hix : ∀ wx, (Instr.index 114 (.agg #[.int .i64 1, .int .i64 2, .int .i64 3, .int .i64 4, .int .i64 5, .int .i64 7, .int .i64 8, .int .i64 9]) (.int .i64 3)).run Tryz.prog wx = .ok (.int .i64 4) wx := fun wx => ix8 3 (by decide) wx;have c5 : wr.cell? ⟨p, 5, none⟩ = some (.int .i64 (Zj s.now.pen n 3).attr) := H1.out.at_ 5 _;have f5 := H1.out.fz 5;have hwm : IntKind.i64.wrap 8 = 8 := zb _ (by decide) (by decide);by_cases hc : n = 4
   ·have e1 : (n == 4) = true := beq_iff_eq.2 hc;have e2 : (n == 24) = false := beq_eq_false_iff_ne.2 (by omega);have HPK := Lib.hid (zbZ s.now.pen n 3 4 8 rfl (by decide) hc);clear hc;obtain ⟨h2, g2⟩ := (H1.out.below (Below.refl wr.heap.size wr).drew).set 5 (.int .i64 (bOr (Zj s.now.pen n 3).attr 8)) (s.ink { Zj s.now.pen n 3 with attr := bOr (Zj s.now.pen n 3).attr 8 });have H2 := Lib.hid h2;have P2 := Lib.hid ((P1.out.below (Below.refl wr.heap.size wr).drew).trans g2);clear h2 g2;go_upto_region 4 with fail
    go_still_tail 13, (by kernel_rfl)
    change wpList _ _ _ _ _ wr.drew;go_wp2_with fail;go_roundw
    case rel => exact ⟨3 + 1, C1, by decide, by go_num, Lib.hid (by rw [HPK.out]; exact H2.out), Lib.hid P2.out⟩
    case measure => simp [intOf]
   have e1 : (n == 4) = false := beq_eq_false_iff_ne.2 hc;by_cases hd : n = 24
   ·have e2 : (n == 24) = true := beq_iff_eq.2 hd;replace hc : n = 4 + 20 := hd;clear hd;have HPK := Lib.hid (zcl s.now.pen n 3 4 8 rfl (by decide) hc (by decide));clear hc;obtain ⟨h2, g2⟩ := (H1.out.below (Below.refl wr.heap.size wr).drew).set 5 (.int .i64 (Zm (Zj s.now.pen n 3).attr 8)) (s.ink { Zj s.now.pen n 3 with attr := Zm (Zj s.now.pen n 3).attr 8 });have H2 := Lib.hid h2;have P2 := Lib.hid ((P1.out.below (Below.refl wr.heap.size wr).drew).trans g2);clear h2 g2;go_upto_region 6 with fail
    go_still_tail 13, (by kernel_rfl)
    change wpList _ _ _ _ _ wr.drew;go_wp2_with fail;go_roundw
    case rel => exact ⟨3 + 1, C1, by decide, by go_num, Lib.hid (by rw [HPK.out]; exact H2.out), Lib.hid P2.out⟩
    case measure => simp [intOf]
   ·have e2 : (n == 24) = false := beq_eq_false_iff_ne.2 hd;have hc2 : ¬ (n = 4 + 20 ∧ 1 < 3) := fun e => hd e.1;clear hd;have HPK := Lib.hid (zbh s.now.pen n 3 4 rfl hc hc2);clear hc hc2;go_wp2_with fail;go_roundw
    case rel => exact ⟨3 + 1, C1, by decide, by go_num, Lib.hid (by rw [HPK.out]; exact H1.out), P1⟩
    case measure => simp [intOf]
  ·have hix : ∀ wx, (Instr.index 114 (.agg #[.int .i64 1, .int .i64 2, .int .i64 3, .int .i64 4, .int .i64 5, .int .i64 7, .int .i64 8, .int .i64 9]) (.int .i64 4)).run Tryz.prog wx = .ok (.int .i64 5) wx := fun wx => ix8 4 (by decide) wx;have c5 : wr.cell? ⟨p, 5, none⟩ = some (.int .i64 (Zj s.now.pen n 4).attr) := H1.out.at_ 5 _;have f5 := H1.out.fz 5;have hwm : IntKind.i64.wrap 16 = 16 := zb _ (by decide) (by decide);by_cases hc : n = 5
   ·have e1 : (n == 5) = true := beq_iff_eq.2 hc;have e2 : (n == 25) = false := beq_eq_false_iff_ne.2 (by omega);have HPK := Lib.hid (zbZ s.now.pen n 4 5 16 rfl (by decide) hc);clear hc;obtain ⟨h2, g2⟩ := (H1.out.below (Below.refl wr.heap.size wr).drew).set 5 (.int .i64 (bOr (Zj s.now.pen n 4).attr 16)) (s.ink { Zj s.now.pen n 4 with attr := bOr (Zj s.now.pen n 4).attr 16 });have H2 := Lib.hid h2;have P2 := Lib.hid ((P1.out.below (Below.refl wr.heap.size wr).drew).trans g2);clear h2 g2;go_upto_region 4 with fail
    go_still_tail 13, (by kernel_rfl)
    change wpList _ _ _ _ _ wr.drew;go_wp2_with fail;go_roundw
    case rel => exact ⟨4 + 1, C1, by decide, by go_num, Lib.hid (by rw [HPK.out]; exact H2.out), Lib.hid P2.out⟩
    case measure => simp [intOf]
   have e1 : (n == 5) = false := beq_eq_false_iff_ne.2 hc;by_cases hd : n = 25
   ·have e2 : (n == 25) = true := beq_iff_eq.2 hd;replace hc : n = 5 + 20 := hd;clear hd;have HPK := Lib.hid (zcl s.now.pen n 4 5 16 rfl (by decide) hc (by decide));clear hc;obtain ⟨h2, g2⟩ := (H1.out.below (Below.refl wr.heap.size wr).drew).set 5 (.int .i64 (Zm (Zj s.now.pen n 4).attr 16)) (s.ink { Zj s.now.pen n 4 with attr := Zm (Zj s.now.pen n 4).attr 16 });have H2 := Lib.hid h2;have P2 := Lib.hid ((P1.out.below (Below.refl wr.heap.size wr).drew).trans g2);clear h2 g2;go_upto_region 6 with fail
    go_still_tail 13, (by kernel_rfl)
    change wpList _ _ _ _ _ wr.drew;go_wp2_with fail;go_roundw
    case rel => exact ⟨4 + 1, C1, by decide, by go_num, Lib.hid (by rw [HPK.out]; exact H2.out), Lib.hid P2.out⟩
    case measure => simp [intOf]
   ·have e2 : (n == 25) = false := beq_eq_false_iff_ne.2 hd;have hc2 : ¬ (n = 5 + 20 ∧ 1 < 4) := fun e => hd e.1;clear hd;have HPK := Lib.hid (zbh s.now.pen n 4 5 rfl hc hc2);clear hc hc2;go_wp2_with fail;go_roundw
    case rel => exact ⟨4 + 1, C1, by decide, by go_num, Lib.hid (by rw [HPK.out]; exact H1.out), P1⟩
    case measure => simp [intOf]
  ·have hix : ∀ wx, (Instr.index 114 (.agg #[.int .i64 1, .int .i64 2, .int .i64 3, .int .i64 4, .int .i64 5, .int .i64 7, .int .i64 8, .int .i64 9]) (.int .i64 5)).run Tryz.prog wx = .ok (.int .i64 7) wx := fun wx => ix8 5 (by decide) wx;have c5 : wr.cell? ⟨p, 5, none⟩ = some (.int .i64 (Zj s.now.pen n 5).attr) := H1.out.at_ 5 _;have f5 := H1.out.fz 5;have hwm : IntKind.i64.wrap 32 = 32 := zb _ (by decide) (by decide);by_cases hc : n = 7
   ·have e1 : (n == 7) = true := beq_iff_eq.2 hc;have e2 : (n == 27) = false := beq_eq_false_iff_ne.2 (by omega);have HPK := Lib.hid (zbZ s.now.pen n 5 7 32 rfl (by decide) hc);clear hc;obtain ⟨h2, g2⟩ := (H1.out.below (Below.refl wr.heap.size wr).drew).set 5 (.int .i64 (bOr (Zj s.now.pen n 5).attr 32)) (s.ink { Zj s.now.pen n 5 with attr := bOr (Zj s.now.pen n 5).attr 32 });have H2 := Lib.hid h2;have P2 := Lib.hid ((P1.out.below (Below.refl wr.heap.size wr).drew).trans g2);clear h2 g2;go_upto_region 4 with fail
    go_still_tail 13, (by kernel_rfl)
    change wpList _ _ _ _ _ wr.drew;go_wp2_with fail;go_roundw
    case rel => exact ⟨5 + 1, C1, by decide, by go_num, Lib.hid (by rw [HPK.out]; exact H2.out), Lib.hid P2.out⟩
    case measure => simp [intOf]
   have e1 : (n == 7) = false := beq_eq_false_iff_ne.2 hc;by_cases hd : n = 27
   ·have e2 : (n == 27) = true := beq_iff_eq.2 hd;replace hc : n = 7 + 20 := hd;clear hd;have HPK := Lib.hid (zcl s.now.pen n 5 7 32 rfl (by decide) hc (by decide));clear hc;obtain ⟨h2, g2⟩ := (H1.out.below (Below.refl wr.heap.size wr).drew).set 5 (.int .i64 (Zm (Zj s.now.pen n 5).attr 32)) (s.ink { Zj s.now.pen n 5 with attr := Zm (Zj s.now.pen n 5).attr 32 });have H2 := Lib.hid h2;have P2 := Lib.hid ((P1.out.below (Below.refl wr.heap.size wr).drew).trans g2);clear h2 g2;go_upto_region 6 with fail
    go_still_tail 13, (by kernel_rfl)
    change wpList _ _ _ _ _ wr.drew;go_wp2_with fail;go_roundw
    case rel => exact ⟨5 + 1, C1, by decide, by go_num, Lib.hid (by rw [HPK.out]; exact H2.out), Lib.hid P2.out⟩
    case measure => simp [intOf]
   ·have e2 : (n == 27) = false := beq_eq_false_iff_ne.2 hd;have hc2 : ¬ (n = 7 + 20 ∧ 1 < 5) := fun e => hd e.1;clear hd;have HPK := Lib.hid (zbh s.now.pen n 5 7 rfl hc hc2);clear hc hc2;go_wp2_with fail;go_roundw
    case rel => exact ⟨5 + 1, C1, by decide, by go_num, Lib.hid (by rw [HPK.out]; exact H1.out), P1⟩
    case measure => simp [intOf]
  ·have hix : ∀ wx, (Instr.index 114 (.agg #[.int .i64 1, .int .i64 2, .int .i64 3, .int .i64 4, .int .i64 5, .int .i64 7, .int .i64 8, .int .i64 9]) (.int .i64 6)).run Tryz.prog wx = .ok (.int .i64 8) wx := fun wx => ix8 6 (by decide) wx;have c5 : wr.cell? ⟨p, 5, none⟩ = some (.int .i64 (Zj s.now.pen n 6).attr) := H1.out.at_ 5 _;have f5 := H1.out.fz 5;have hwm : IntKind.i64.wrap 64 = 64 := zb _ (by decide) (by decide);by_cases hc : n = 8
   ·have e1 : (n == 8) = true := beq_iff_eq.2 hc;have e2 : (n == 28) = false := beq_eq_false_iff_ne.2 (by omega);have HPK := Lib.hid (zbZ s.now.pen n 6 8 64 rfl (by decide) hc);clear hc;obtain ⟨h2, g2⟩ := (H1.out.below (Below.refl wr.heap.size wr).drew).set 5 (.int .i64 (bOr (Zj s.now.pen n 6).attr 64)) (s.ink { Zj s.now.pen n 6 with attr := bOr (Zj s.now.pen n 6).attr 64 });have H2 := Lib.hid h2;have P2 := Lib.hid ((P1.out.below (Below.refl wr.heap.size wr).drew).trans g2);clear h2 g2;go_upto_region 4 with fail
    go_still_tail 13, (by kernel_rfl)
    change wpList _ _ _ _ _ wr.drew;go_wp2_with fail;go_roundw
    case rel => exact ⟨6 + 1, C1, by decide, by go_num, Lib.hid (by rw [HPK.out]; exact H2.out), Lib.hid P2.out⟩
    case measure => simp [intOf]
   have e1 : (n == 8) = false := beq_eq_false_iff_ne.2 hc;by_cases hd : n = 28
   ·have e2 : (n == 28) = true := beq_iff_eq.2 hd;replace hc : n = 8 + 20 := hd;clear hd;have HPK := Lib.hid (zcl s.now.pen n 6 8 64 rfl (by decide) hc (by decide));clear hc;obtain ⟨h2, g2⟩ := (H1.out.below (Below.refl wr.heap.size wr).drew).set 5 (.int .i64 (Zm (Zj s.now.pen n 6).attr 64)) (s.ink { Zj s.now.pen n 6 with attr := Zm (Zj s.now.pen n 6).attr 64 });have H2 := Lib.hid h2;have P2 := Lib.hid ((P1.out.below (Below.refl wr.heap.size wr).drew).trans g2);clear h2 g2;go_upto_region 6 with fail
    go_still_tail 13, (by kernel_rfl)
    change wpList _ _ _ _ _ wr.drew;go_wp2_with fail;go_roundw
    case rel => exact ⟨6 + 1, C1, by decide, by go_num, Lib.hid (by rw [HPK.out]; exact H2.out), Lib.hid P2.out⟩
    case measure => simp [intOf]
   ·have e2 : (n == 28) = false := beq_eq_false_iff_ne.2 hd;have hc2 : ¬ (n = 8 + 20 ∧ 1 < 6) := fun e => hd e.1;clear hd;have HPK := Lib.hid (zbh s.now.pen n 6 8 rfl hc hc2);clear hc hc2;go_wp2_with fail;go_roundw
    case rel => exact ⟨6 + 1, C1, by decide, by go_num, Lib.hid (by rw [HPK.out]; exact H1.out), P1⟩
    case measure => simp [intOf]
  ·have hix : ∀ wx, (Instr.index 114 (.agg #[.int .i64 1, .int .i64 2, .int .i64 3, .int .i64 4, .int .i64 5, .int .i64 7, .int .i64 8, .int .i64 9]) (.int .i64 7)).run Tryz.prog wx = .ok (.int .i64 9) wx := fun wx => ix8 7 (by decide) wx;have c5 : wr.cell? ⟨p, 5, none⟩ = some (.int .i64 (Zj s.now.pen n 7).attr) := H1.out.at_ 5 _;have f5 := H1.out.fz 5;have hwm : IntKind.i64.wrap 128 = 128 := zb _ (by decide) (by decide);by_cases hc : n = 9
   ·have e1 : (n == 9) = true := beq_iff_eq.2 hc;have e2 : (n == 29) = false := beq_eq_false_iff_ne.2 (by omega);have HPK := Lib.hid (zbZ s.now.pen n 7 9 128 rfl (by decide) hc);clear hc;obtain ⟨h2, g2⟩ := (H1.out.below (Below.refl wr.heap.size wr).drew).set 5 (.int .i64 (bOr (Zj s.now.pen n 7).attr 128)) (s.ink { Zj s.now.pen n 7 with attr := bOr (Zj s.now.pen n 7).attr 128 });have H2 := Lib.hid h2;have P2 := Lib.hid ((P1.out.below (Below.refl wr.heap.size wr).drew).trans g2);clear h2 g2;go_upto_region 4 with fail
    go_still_tail 13, (by kernel_rfl)
    change wpList _ _ _ _ _ wr.drew;go_wp2_with fail;go_roundw
    case rel => exact ⟨7 + 1, C1, by decide, by go_num, Lib.hid (by rw [HPK.out]; exact H2.out), Lib.hid P2.out⟩
    case measure => simp [intOf]
   have e1 : (n == 9) = false := beq_eq_false_iff_ne.2 hc;by_cases hd : n = 29
   ·have e2 : (n == 29) = true := beq_iff_eq.2 hd;replace hc : n = 9 + 20 := hd;clear hd;have HPK := Lib.hid (zcl s.now.pen n 7 9 128 rfl (by decide) hc (by decide));clear hc;obtain ⟨h2, g2⟩ := (H1.out.below (Below.refl wr.heap.size wr).drew).set 5 (.int .i64 (Zm (Zj s.now.pen n 7).attr 128)) (s.ink { Zj s.now.pen n 7 with attr := Zm (Zj s.now.pen n 7).attr 128 });have H2 := Lib.hid h2;have P2 := Lib.hid ((P1.out.below (Below.refl wr.heap.size wr).drew).trans g2);clear h2 g2;go_upto_region 6 with fail
    go_still_tail 13, (by kernel_rfl)
    change wpList _ _ _ _ _ wr.drew;go_wp2_with fail;go_roundw
    case rel => exact ⟨7 + 1, C1, by decide, by go_num, Lib.hid (by rw [HPK.out]; exact H2.out), Lib.hid P2.out⟩
    case measure => simp [intOf]
   ·have e2 : (n == 29) = false := beq_eq_false_iff_ne.2 hd;have hc2 : ¬ (n = 9 + 20 ∧ 1 < 7) := fun e => hd e.1;clear hd;have HPK := Lib.hid (zbh s.now.pen n 7 9 rfl hc hc2);clear hc hc2;go_wp2_with fail;go_roundw
    case rel => exact ⟨7 + 1, C1, by decide, by go_num, Lib.hid (by rw [HPK.out]; exact H1.out), P1⟩
    case measure => simp [intOf]
  ·have HD := Lib.hid (show zq B C p w wr (s.ink (Zz s.now.pen n)) ps by rw [HE.out]; exact ⟨C1, H1.out, P1.out⟩);go_wp2_with fail;go_end0;exact ⟨rfl, HD.out⟩
end
end Go.Proofs.YtlfdgkiliegaiaaGreatDoor
