/- Texts laid together: W11 W13 Z10 Z11 P7 P9. -/
import Derived.Test.YtlfdgkiliegaiaaGreatDoorY1
import Derived.Test.YtlfdgkiliegaiaaGreatDoorY11
import Derived.Test.YtlfdgkiliegaiaaGreatDoorY12
import Derived.Test.YtlfdgkiliegaiaaGreatDoorY13
import Derived.Test.YtlfdgkiliegaiaaGreatDoorY2
import Derived.Test.YtlfdgkiliegaiaaGreatDoorY3
import Derived.Test.YtlfdgkiliegaiaaGreatDoorY4
import Derived.Test.YtlfdgkiliegaiaaGreatDoorY5
import Derived.Test.YtlfdgkiliegaiaaGreatDoorY6
import Derived.Test.YtlfdgkiliegaiaaGreatDoorY8
import Derived.Laws.EntriesVeiled
import Derived.Deep.RegionLaw
import Derived.Deep.DeepCutAuto
import Derived.Test.YtlfdgkiliegaiaaGreatDoorRows
import Derived.Deep.AppendSrc
import Derived.Lib.AppendStr
import Derived.Lib.FrozenHead
import Derived.ArgAppend
import Derived.Laws.IdiomCopy
import Derived.Laws.IdiomStrings
import Derived.Deep.Upon
import Derived.WalkKit
import Derived.WalkSpells
import Derived.WalkLawsBesides
import Derived.BigQuiet
import Derived.Lib.Hide
import Derived.Deep.QuietTactic
import Derived.Lib.AppendIntMem
import Derived.Lib.ItoaNum
import Derived.WalkMore
import Derived.ScopeJumps
import Derived.StillTailTactics
import Derived.Lib.SlBytesConst
import Derived.Test.YtlfdgkiliegaiaaGreatDoorShelf
import Derived.Lib.ItoaLen
import Derived.Laws.Cover4
import Derived.Deep.RegionHeld3
import Derived.Lib.Builder
import Derived.Lib.RuneBytes
import Derived.Lib.UnsafeStr
import Derived.Lib.SliceRun
import Derived.Laws.ResultCell
import Derived.Deep.CutBlock
import Derived.Laws.StructEq
import Derived.Deep.DrawnRows
set_option linter.unusedVariables false
namespace Go.Proofs.YtlfdgkiliegaiaaGreatDoor
section
open Go.RowKit
set_option maxRecDepth 100000
def zkM (p d : Nat) : Nat → Nat := fun k => if k = p then 1 else if k = d then 2 else 0
theorem zmy (p d : Nat) (w : World) (hp : w.heap[p]? = some (.cells (s0.cells d .nilFunc ZP ZP ZP) 161 (0, 0))) (hd : zbX w d dec0) (hne : d ≠ p) : zch (zkM p d) p w s0 := by
 refine ⟨fun k hk => ?_, zkf, d, ZP, ZP, ZP, ⟨hp, hd, zg8, zbi _ _ _ _, fun _ => zbi _ _ _ _, zbi _ _ _ _, by simp [zkM], by simp [zkM, hne]⟩⟩;unfold zkM at hk;by_cases h1 : k = p
 ·subst h1; exact zj hp
 ·by_cases h2 : k = d
  ·subst h2; exact zj hd
  ·simp [h1, h2] at hk
theorem zot (w : World) :
  Calls Tryz.prog 85 #[] w fun e w' => e = .returned (.pointer (some ⟨w.heap.size + 1, 0, none⟩)) ∧ w' = (w.alloc (.cells dec0.cells 214)).alloc (.cells (s0.cells w.heap.size .nilFunc ZP ZP ZP) 161) := by
 go_enter Tryz.func85, Tryz.ntmps85;go_wp2_with fail;refine (zcC _).mono ?_;rintro e w1 ⟨rfl, rfl⟩;go_wp2_with fail;go_ret;exact ⟨rfl, rfl⟩
theorem znK (w : World) :
  Calls Tryz.prog 85 #[] w fun e w' => ∃ p T, e = .returned (.pointer (some ⟨p, 0, none⟩)) ∧ Below w.heap.size w w' ∧ zch T p w' s0 ∧ ∀ k, T k ≠ 0 → w.heap.size ≤ k := by
 refine (zot w).mono ?_;rintro e w' ⟨rfl, rfl⟩;refine ⟨w.heap.size + 1, zkM (w.heap.size + 1) w.heap.size, rfl, ((Below.refl _ _).alloc (Nat.le_refl _) _).alloc (by simp) _, zmy _ _ _ ?_ ?_ (by omega), fun k hk => ?_⟩
 ·have := heap_alloc_new (w.alloc (.cells dec0.cells 214)) (.cells (s0.cells w.heap.size .nilFunc ZP ZP ZP) 161);rw [show (w.alloc (.cells dec0.cells 214)).heap.size = w.heap.size + 1 by simp] at this;exact this
 ·exact zD (heap_alloc_new w (.cells dec0.cells 214)) _
 ·unfold zkM at hk;by_cases h1 : k = w.heap.size + 1
  ·omega
  ·by_cases h2 : k = w.heap.size
   ·omega
   ·simp [h1, h2] at hk
end
section
open Go.RowKit
theorem Zy (w : World) (o : Obj) : Below w.heap.size w (w.alloc o) := (Below.refl _ _).alloc (Nat.le_refl _) o
theorem zkN {w w' : World} (g : w.grownBy w' none) : Below w.heap.size w w' := ⟨g.os, g.tape, g.output, g.size, fun k hk => g.block k hk (by simp)⟩
theorem zkO {T : Nat → Nat} {p : Nat} {w : World} {s : PSt} (vb : Value) (l : List UInt8) (h : zch T p w s) (hv : Row T 0 1 vb l.length (zk l) w) (hl : l.length ≤ 100000000) :
  Calls Tryz.prog 60 #[.pointer (some ⟨p, 0, none⟩), vb] w fun e w' => ∃ vo T' L, e = .returned vo ∧ L.map (·.1) = (s.run l).2 ∧ ze (own T w) w w' ∧ (∀ k, T' k ≠ 0 → own T w k) ∧ zch T' p w' (s.run l).1 ∧ zo7 T' w' vo L ∧
   (∀ k, vo.ownBlock = some k → own T w k) ∧ ∀ x ∈ L, ∀ k, x.2.ownBlock = some k → own T w k := by
 refine (zi2 vb l h hv hl).mono ?_;rintro e w' ⟨vo, T', L, rfl, h1, h2, h3, h4, h5, h6, h7⟩;exact ⟨vo, T', L, rfl, h1, h2, h4, h3, ⟨h5, fun x hx => (h7 x hx).1⟩, h6, fun x hx => (h7 x hx).2⟩
end
section
open Go.RowKit
def ZL (c d : Int) : List Int :=
 if c < 0 then [39 + d] else if c < 8 then [30 + d + c] else if c < 16 then [82 + d + c] else if c < 256 then [38 + d, 5, c] else [38 + d, 2, c / 65536 % 256, c / 256 % 256, c % 256]
theorem zc5 {c : Int} (h : Zp c = true) : (-1 ≤ c ∧ c ≤ 255) ∨ (16777216 ≤ c ∧ c < 33554432) := by
 unfold Zp at h;simpa using h
end
section
open Go.RowKit
def bitsK : List (Nat × Int) := [(0, 1), (1, 2), (2, 3), (3, 4), (4, 5), (5, 7), (6, 8), (7, 9)]
def zhW (f t : Int) : List Int := (bitsK.filter fun kc => zee (Zm t f) ((2 ^ kc.1 : Nat) : Int) != 0).map (·.2)
def zcH (f t : Sty) : Sty := if Zm f.attr t.attr ≠ 0 then plainS else f
def zdO (f t : Sty) : List Int :=
 (if Zm f.attr t.attr ≠ 0 then [0] else []) ++ zhW (zcH f t).attr t.attr ++ (if t.fg ≠ (zcH f t).fg then ZL t.fg 0 else []) ++ (if t.bg ≠ (zcH f t).bg then ZL t.bg 10 else [])
theorem zgD (p : Sty) {kc : Nat × Int} (h : kc ∈ bitsK) : Zz p kc.2 = { p with attr := bOr p.attr ((2 ^ kc.1 : Nat) : Int) } ∧ 0 ≤ kc.2 ∧ kc.2 ≤ 9 := by
 unfold bitsK at h;simp only [List.mem_cons, List.not_mem_nil, or_false] at h;rcases h with h | h | h | h | h | h | h | h <;> subst h <;> exact ⟨rfl, by decide, by decide⟩
theorem zhf {s : Sty} (h : okS s = true) : ∃ a : Nat, s.attr = a ∧ a < 256 ∧ Zp s.fg = true ∧ Zp s.bg = true := by
 unfold okS at h;simp only [Bool.and_eq_true, decide_eq_true_eq] at h;exact ⟨s.attr.toNat, by omega, by omega, h.1, h.2.1⟩
end
section
open Go.RowKit
theorem zaV (c : UInt8) (r : List UInt8) : ZK (c :: r) = if 60 ≤ (c.toNat : Int) ∧ (c.toNat : Int) ≤ 63 then ([c], r) else ([], c :: r) := rfl
theorem zc6 {s : PSt} {c : UInt8} {r : List UInt8} (hs : s.inter = c :: r) : s.btw = if 60 ≤ (c.toNat : Int) then r.length else r.length + 1 := by
 unfold PSt.btw PSt.marked;rw [hs];by_cases h : 60 ≤ (c.toNat : Int)
 ·simp [h]
 ·simp [h]
theorem zou {s : PSt} (h : Zr (ZK s.inter).2 = true) : s.btw = (ZK s.inter).2.length := by
 cases hs : s.inter with
 | nil => unfold PSt.btw PSt.marked; rw [hs]; rfl
 | cons c r =>
  rw [hs, zaV] at h;rw [zc6 hs, zaV];by_cases hc : 60 ≤ (c.toNat : Int) ∧ (c.toNat : Int) ≤ 63
  ·rw [if_pos hc, if_pos hc.1]
  ·rw [if_neg hc] at h ⊢;have hn : ¬ 60 ≤ (c.toNat : Int) := fun h60 => by
    unfold Zr zcX at h;simp only [Bool.and_eq_true, List.all_cons, decide_eq_true_eq] at h;omega
   rw [if_neg hn]; rfl
theorem zkP (l : List UInt8) (b : UInt8) (hb : (b.toNat : Int) ≤ 47) : (ZK (l ++ [b])).2 = (ZK l).2 ++ [b] := by
 cases l with
 | nil =>
  show (ZK [b]).2 = [b];rw [zaV, if_neg (by omega)]
 | cons c r =>
  show (ZK (c :: (r ++ [b]))).2 = _;rw [zaV, zaV];split <;> rfl
theorem zgj (l : List UInt8) (b : UInt8) (h : Zr l = true) (hl : l.length < 2) (hb : Zd (b.toNat : Int) = true) : Zr (l ++ [b]) = true := by
 unfold Zr at h ⊢;rw [Bool.and_eq_true, decide_eq_true_eq] at h;unfold Zd at hb;rw [zgz, h.2, hb, decide_eq_true (by rw [List.length_append, List.length_singleton]; omega)];rfl
theorem zmz {s : PSt} (d : Int) (h : s.Good) : (s.digit d).params ≠ [-1] := by
 have hs : s.started.params ≠ [] ∧ (s.any = true → s.started.params = s.params) ∧ (s.any = false → s.started.params = [-1]) := by
  unfold PSt.started;cases ha : s.any
  ·exact ⟨by simp, by simp, by simp⟩
  ·exact ⟨h.fine.pne ha, fun _ => rfl, by simp⟩
 unfold PSt.digit;split
 ·rename_i hd;show zai s.started.params d ≠ [-1];intro e;have hc := zfd (s.started.params.getD (s.started.params.length - 1) 0) d hd;have hlen : s.started.params.length = 1 := by
   have := congrArg List.length e;unfold zai at this;simpa using this
  have hx : zax (s.started.params.getD (s.started.params.length - 1) 0) d = -1 := by
   have := congrArg (fun l => l.getD 0 0) e;unfold zai at this;rw [hlen] at this ⊢;cases hp : s.started.params with
   | nil => rw [hp] at hlen; simp at hlen
   | cons x r => rw [hp] at this; simpa using this
  unfold zax at hx;omega
 ·split
  ·show s.started.params ++ [-1] ≠ [-1];intro e;have := congrArg List.length e;simp at this;exact hs.1 this
  ·rename_i hl;show s.started.params ≠ [-1];intro e;rw [e] at hl;simp at hl
theorem zfG {s : PSt} (d : Int) (h : s.Good) (h1 : s.state = 2 ∨ s.state = 5) : (s.digit d).Good ∧ (s.digit d).owes = s.owes := by
 have e : (s.digit d).inter = s.inter ∧ (s.digit d).text = s.text ∧ (s.digit d).state = s.state ∧ (s.digit d).dec = s.dec := by
  have e0 : s.started.inter = s.inter ∧ s.started.text = s.text ∧ s.started.state = s.state ∧ s.started.dec = s.dec := by
   unfold PSt.started; split <;> exact ⟨rfl, rfl, rfl, rfl⟩
  unfold PSt.digit;split
  ·exact e0
  split
  ·exact e0
  ·exact e0
 obtain ⟨e1, e2, e3, e4⟩ := e;refine ⟨⟨zd4 d h.fine, zmz d h, by rw [e2]; exact h.tx, by rw [e3, e1]; exact h.i1, by rw [e3, e1]; exact h.i2, fun h6 => by rw [e3] at h6; omega, by rw [e4]; exact h.dg, by rw [e3, e4]; exact h.dh⟩, ?_⟩;unfold PSt.owes;rw [e3, e4]
theorem zkQ {s : PSt} (b : UInt8) (h : s.Good) (h1 : s.state = 2 ∨ s.state = 5) (hb : 32 ≤ (b.toNat : Int) ∧ (b.toNat : Int) ≤ 126) :
  (s.seqd b).1.Good ∧ (∀ a ∈ (s.seqd b).2, AOk a) ∧ (s.seqd b).2.length + (s.seqd b).1.owes ≤ 1 + s.owes := by
 have hi2 := h.i2 (h1.elim .inl (fun e => .inr (.inl e)));have hbt := zou hi2;have hh : s.dec.hav = 0 := by
  by_cases h0 : s.dec.hav = 0
  ·exact h0
  ·have := h.dh h0; omega
 have hne1 : ¬ s.state = 1 := (by omega);have hfi := zg1 b h.fine hne1;have hnil : ∀ a ∈ ([] : List VAct), AOk a := fun a ha => (by simp at ha);have h32 : (s.params.take 32) ≠ [-1] := by
  intro e;have hl := congrArg List.length e;rw [List.length_take, List.length_singleton] at hl;rw [List.take_of_length_le (by omega)] at e;exact h.np e
 have hpr32 : ∀ x ∈ s.params.take 32, -1 ≤ x ∧ x ≤ 9999 := fun x hx => h.fine.pr x (List.mem_of_mem_take hx);have hl32 : (s.params.take 32).length ≤ 32 := (by rw [List.length_take]; omega);revert hfi;unfold PSt.seqd;split
 ·rename_i h64;split
  ·intro hfi;refine ⟨Z5 (s := s.cut) (by decide) (by decide) h.dg (fun e => absurd hh e), fun a ha => ?_, ?_⟩
   ·rw [List.mem_singleton] at ha; subst ha;exact zoo hl32 h.fine.il hpr32 (zgx ⟨h64, hb.2⟩ hl32 h32 hpr32 hi2 4 0 _)
   ·show 1 + ((if s.dec.hav = 0 then 0 else 1) + 0) ≤ _;rw [if_pos hh]; omega
  ·intro hfi;refine ⟨⟨hfi, h32, h.tx, fun e => ?_, fun _ => hi2, fun _ => ⟨h64, hb.2, hl32⟩, h.dg, fun e => absurd hh e⟩, hnil, ?_⟩
   ·have e' : (6 : Int) = 1 := e; omega
   ·show 0 + ((if s.dec.hav = 0 then 0 else 1) + 1) ≤ _;rw [if_pos hh]; omega
 rename_i n64;split
 ·rename_i hbe;intro hfi;have hb47 : (b.toNat : Int) ≤ 47 := by
   have := hbe.1;unfold Zd at this;rw [Bool.and_eq_true, decide_eq_true_eq, decide_eq_true_eq] at this;omega
  refine ⟨⟨hfi, h.np, h.tx, fun e => absurd e hne1, fun _ => ?_, fun e => ?_, h.dg, h.dh⟩, hnil, ?_⟩
  ·show Zr (ZK (s.inter ++ [b])).2 = true;rw [zkP _ _ hb47];exact zgj _ _ hi2 (by omega) hbe.1
  ·have e' : s.state = 6 := e; omega
  ·show 0 + s.owes ≤ _; omega
 split
 ·intro _;obtain ⟨g1, g2⟩ := zfG ((b.toNat : Int) - 48) h h1;exact ⟨g1, hnil, by rw [g2]; simp only [List.length_nil]; omega⟩
 split
 ·intro _;obtain ⟨g1, g2⟩ := zfG (-1) h h1;exact ⟨g1, hnil, by rw [g2]; simp only [List.length_nil]; omega⟩
 split
 ·rename_i hm;intro hfi;refine ⟨⟨hfi, h.np, h.tx, fun e => absurd e hne1, fun _ => ?_, fun e => ?_, h.dg, h.dh⟩, hnil, ?_⟩
  ·show Zr (ZK (s.inter ++ [b])).2 = true;rw [List.length_eq_zero_iff.1 hm.2.1];show Zr (ZK [b]).2 = true;rw [zaV, if_pos ⟨hm.1, by omega⟩];rfl
  ·have e' : s.state = 6 := e; omega
  ·show 0 + s.owes ≤ _; omega
 ·intro _;refine ⟨Z5 (s := { s with frm := s.state }) (by decide) (by decide) h.dg (fun e => absurd hh e), hnil, ?_⟩;show 0 + ((if s.dec.hav = 0 then 0 else 1) + 0) ≤ _;rw [if_pos hh]; omega
theorem zkR {s : PSt} (b : UInt8) (h : s.Good) (h32 : 32 ≤ (b.toNat : Int)) (hb : s.texts = false → (b.toNat : Int) ≠ 127 ∧ (127 < (b.toNat : Int) → s.state = 0)) :
  (s.took b).1.Good ∧ (∀ a ∈ (s.took b).2, AOk a) ∧ (s.took b).2.length + (s.took b).1.owes ≤ 1 + s.owes := by
 have hnil : ∀ a ∈ ([] : List VAct), AOk a := fun a ha => (by simp at ha);have htx : ¬ s.state = 4 → ¬ s.state = 6 → ¬ s.state = 7 → s.texts = false := fun a1 a2 a3 => by
  cases ht : s.texts
  ·rfl
  ·have := (zgy s).1 ht; omega
 have hdz : ¬ s.state = 0 → s.dec.hav = 0 := fun e => by
  by_cases h0 : s.dec.hav = 0
  ·exact h0
  ·exact absurd (h.dh h0) e
 unfold PSt.took;split
 ·rename_i h1;have hx := hb (htx (by omega) (by omega) (by omega));refine zi6 b h h1 ⟨h32, ?_⟩;by_cases hc : 127 < (b.toNat : Int)
  ·have := hx.2 hc; omega
  ·have := hx.1; omega
 rename_i n1;split
 ·rename_i h1;have hx := hb (htx (by omega) (by omega) (by omega));refine zkQ b h h1 ⟨h32, ?_⟩;by_cases hc : 127 < (b.toNat : Int)
  ·have := hx.2 hc; omega
  ·have := hx.1; omega
 rename_i n2;split
 ·rename_i h3;have hh := hdz (by omega);split
  ·refine ⟨?_, hnil, ?_⟩
   ·split
    ·exact Z5 (by decide) (by decide) h.dg (fun e => absurd hh e)
    ·exact Z5 (by decide) (by decide) h.dg (fun e => absurd hh e)
   ·split
    ·show 0 + ((if s.dec.hav = 0 then 0 else 1) + 0) ≤ _;rw [if_pos hh]; omega
    ·show 0 + ((if s.dec.hav = 0 then 0 else 1) + 0) ≤ _;rw [if_pos hh]; omega
  ·exact ⟨h, hnil, by simp only [List.length_nil]; omega⟩
 rename_i n3;split
 ·rename_i h4;split
  ·rename_i hl;refine ⟨⟨⟨h.fine.il, h.fine.pne, h.fine.pl, h.fine.pr, by show (s.text ++ [b]).length ≤ 1024; rw [List.length_append, List.length_singleton]; omega, h.fine.st, h.fine.e1⟩, h.np, fun c hc => ?_, h.i1, h.i2, h.f6, h.dg, h.dh⟩, hnil, ?_⟩
   ·have hc' : c ∈ s.text ++ [b] := hc;rcases List.mem_append.1 hc' with hc | hc
    ·exact h.tx c hc
    ·rw [List.mem_singleton] at hc; subst hc; exact h32
   ·show 0 + s.owes ≤ _; omega
  ·exact ⟨h, hnil, by simp only [List.length_nil]; omega⟩
 rename_i n4;split
 ·exact ⟨h, hnil, by simp only [List.length_nil]; omega⟩
 rename_i n7;have h0 : s.state = 0 := (by have := h.fine.st; omega);have hx := hb (htx (by omega) (by omega) (by omega));obtain ⟨g1, g2, g3⟩ := zkB s.dec (b.toNat : Int) h.dg (by omega) (zdy b);unfold PSt.fed;refine ⟨zhU h _ g1 (fun _ => h0), fun a ha => ?_, ?_⟩
 ·obtain ⟨r, hr, rfl⟩ := List.mem_map.1 ha;exact zmp (g2 h32 hx.1 r hr)
 ·simp only [List.length_map, PSt.owes];rw [if_neg (show ¬ (s.state = 4 ∨ s.state = 6) by omega)];omega
theorem zgE {s : PSt} (b : UInt8) (h : s.Good) : (s.step b).1.Good ∧ (∀ a ∈ (s.step b).2, AOk a) ∧ (s.step b).2.length + (s.step b).1.owes ≤ 1 + s.owes := by
 obtain ⟨g1, g2, g3, g4⟩ := zkD b h;unfold PSt.step;split
 ·rename_i ht;exact ⟨g1, g2, g3 ht⟩
 ·rename_i hf;obtain ⟨k1, k2, k3, k4⟩ := g4 (by simpa using hf);obtain ⟨t1, t2, t3⟩ := zkR b g1 k3 k4;rw [k1, List.nil_append];exact ⟨t1, t2, by dsimp only; omega⟩
end
section
open Go.RowKit
theorem znL (l : List Int) (v d : Int) : zai (l ++ [v]) d = l ++ [zax v d] := by
 unfold zai;rw [List.length_append, List.length_singleton, Nat.add_sub_cancel, List.set_append_right _ _ (Nat.le_refl _), Nat.sub_self];simp
theorem zbK {s : PSt} {b : UInt8} (h1 : s.state = 2 ∨ s.state = 5) (h32 : 32 ≤ (b.toNat : Int)) (h127 : (b.toNat : Int) < 127) : s.step b = s.seqd b := by
 rw [zgA h32 (.inr (.inl h127))];unfold PSt.took;rw [if_neg (by omega), if_pos h1]
theorem zhX {s : PSt} {b : UInt8} {P : List Int} {v : Int} (h1 : s.state = 2 ∨ s.state = 5) (hb : s.btw = 0) (ha : s.any = true) (hp : s.params = P ++ [v]) (h48 : 48 ≤ (b.toNat : Int)) (h57 : (b.toNat : Int) ≤ 57) :
  s.step b = ({ s with params := P ++ [zax v ((b.toNat : Int) - 48)] }, []) := by
 rw [zbK h1 (by omega) (by omega)];unfold PSt.seqd;rw [if_neg (by omega), if_neg (by rw [zbG h48]; simp), if_pos ⟨by omega, zbG h48, hb⟩];unfold PSt.digit PSt.started;rw [if_pos (by omega), if_pos ha, hp, znL]
theorem zmA {s : PSt} (h1 : s.state = 2 ∨ s.state = 5) (hb : s.btw = 0) (ha : s.any = true) (hl : s.params.length ≤ 32) :
  s.step 59 = ({ s with params := s.params ++ [-1] }, []) := by
 rw [zbK h1 (by decide) (by decide)];unfold PSt.seqd;rw [if_neg (by decide), if_neg (by intro h; exact absurd h.1 (by decide)), if_neg (by intro h; exact absurd h.1 (by decide)), if_pos ⟨by decide, hb⟩];unfold PSt.digit PSt.started;rw [if_neg (by decide), if_pos ha, if_pos hl]
theorem zjX {s : PSt} {b : UInt8} (hb : s.btw = 0) (h48 : 48 ≤ (b.toNat : Int)) (h57 : (b.toNat : Int) ≤ 57) : s.seqd b = (s.digit ((b.toNat : Int) - 48), []) := by
 unfold PSt.seqd;rw [if_neg (by omega), if_neg (by rw [zbG h48]; simp), if_pos ⟨by omega, zbG h48, hb⟩]
theorem zjY {s : PSt} {b : UInt8} (hb : s.btw = 0) (h59 : (b.toNat : Int) = 59) : s.seqd b = (s.digit (-1), []) := by
 unfold PSt.seqd;rw [if_neg (by omega), if_neg (by rw [zbG (by omega)]; simp), if_neg (by omega), if_pos ⟨h59, hb⟩]
theorem zhg {s : PSt} {b : UInt8} (h1 : s.state = 2 ∨ s.state = 5) (hb : s.btw = 0) (h48 : 48 ≤ (b.toNat : Int)) (h59 : (b.toNat : Int) ≤ 59) (hn : (b.toNat : Int) ≠ 58) : s.step b = s.started.step b := by
 have e1 : s.started.state = s.state := (by unfold PSt.started; split <;> rfl);have e2 : s.started.btw = s.btw := (by unfold PSt.started; split <;> rfl);have e3 : s.started.started = s.started := (by unfold PSt.started; cases h : s.any <;> simp [h]);rw [zbK h1 (by omega) (by omega), zbK (by rw [e1]; exact h1) (by omega) (by omega)];have hd : ∀ d, s.started.digit d = s.digit d := fun d => (by unfold PSt.digit; rw [e3]);by_cases hb58 : (b.toNat : Int) < 58
 ·rw [zjX hb h48 (by omega), zjX (by rw [e2]; exact hb) h48 (by omega), hd]
 ·rw [zjY hb (by omega), zjY (by rw [e2]; exact hb) (by omega), hd]
theorem zfH : ∀ (m n : Nat) (_ : n ≤ m) (s : PSt) (P : List Int), n ≤ 9999 → (s.state = 2 ∨ s.state = 5) → s.btw = 0 → s.any = true → s.params = P ++ [-1] →
  s.run (Lib.decDigits n) = ({ s with params := P ++ [(n : Int)] }, [])
 | m, n, hm, s, P, hn, h1, hb, ha, hp => by
  by_cases h : n < 10
  ·rw [Lib.decDigits_one h];have hd := zfj (48 + n) (by omega);rw [zbl (zhX h1 hb ha hp (by omega) (by omega)), hd];have hc : zax (-1) (((48 + n : Nat) : Int) - 48) = (n : Int) := (by unfold zax; omega);rw [hc]; rfl
  ·rw [zfT n h];have hd := zfj (48 + n % 10) (by omega);cases m with
   | zero => omega
   | succ m =>
    have ih := zfH m (n / 10) (by omega) s P (by omega) h1 hb ha hp;rw [zcj ih, zbl (zhX (P := P) (v := ((n / 10 : Nat) : Int)) (by exact h1) (by exact hb) (by exact ha) rfl (by omega) (by omega)), hd];have hc : zax ((n / 10 : Nat) : Int) (((48 + n % 10 : Nat) : Int) - 48) = (n : Int) := (by unfold zax; omega);rw [hc]; rfl
theorem zjZ {x : Int} (hx : -1 ≤ x ∧ x ≤ 9999) (s : PSt) (P : List Int) (h1 : s.state = 2 ∨ s.state = 5) (hb : s.btw = 0) (ha : s.any = true) (hp : s.params = P ++ [-1]) :
  s.run (if 0 ≤ x then Lib.itoa x else []) = ({ s with params := P ++ [x] }, []) := by
 by_cases h0 : 0 ≤ x
 ·rw [if_pos h0];obtain ⟨n, rfl⟩ : ∃ n : Nat, x = (n : Int) := ⟨x.toNat, by omega⟩;rw [zhk];exact zfH n n (Nat.le_refl _) s P (by omega) h1 hb ha hp
 ·have : x = -1 := (by omega);subst this;rw [if_neg h0, ← hp]; rfl
theorem zhY : ∀ (l : List Int) (s : PSt), (∀ x ∈ l, -1 ≤ x ∧ x ≤ 9999) → (s.state = 2 ∨ s.state = 5) → s.btw = 0 → s.any = true → s.params.length + l.length ≤ 33 →
  s.run (Ze true l) = ({ s with params := s.params ++ l }, [])
 | [], s, _, _, _, _, _ => by simp [Ze, PSt.run]
 | x :: l, s, hl, h1, hb, ha, hn => by
  rw [List.length_cons] at hn;have e1 := zmA h1 hb ha (by omega);have e2 := zjZ (hl x List.mem_cons_self) { s with params := s.params ++ [-1] } s.params (by exact h1) (by exact hb) (by exact ha) rfl;have e3 := zhY l { s with params := s.params ++ [x] } (fun y hy => hl y (List.mem_cons_of_mem _ hy)) (by exact h1) (by exact hb) (by exact ha) (by show (s.params ++ [x]).length + _ ≤ 33; rw [List.length_append, List.length_singleton]; omega);show s.run ((59 :: (if 0 ≤ x then Lib.itoa x else [])) ++ Ze true l) = _;rw [List.cons_append, zbl e1, zcj e2, e3];simp
theorem zkS (n : Nat) : ∃ b l, Lib.decDigits n = b :: l ∧ 48 ≤ (b.toNat : Int) ∧ (b.toNat : Int) ≤ 57 := by
 induction n using Nat.strongRecOn with
 | ind n ih =>
  by_cases h : n < 10
  ·refine ⟨UInt8.ofNat (48 + n), [], Lib.decDigits_one h, ?_⟩;rw [zfj _ (by omega)]; omega
  ·obtain ⟨b, l, e, hb⟩ := ih (n / 10) (by omega);exact ⟨b, l ++ [UInt8.ofNat (48 + n % 10)], by rw [zfT n h, e]; rfl, hb⟩
theorem zkT (l : List Int) (s : PSt) (hl : ∀ x ∈ l, -1 ≤ x ∧ x ≤ 9999) (h1 : s.state = 2 ∨ s.state = 5) (hb : s.btw = 0) (ha : s.any = false) (hp : s.params = []) (hn : l.length ≤ 33) (hne : l ≠ [-1]) :
  ∃ s', s.run (Ze false l) = (s', []) ∧ s'.state = s.state ∧ s'.inter = s.inter ∧ s'.params = l ∧ s'.text = s.text ∧ s'.dec = s.dec := by
 cases l with
 | nil => exact ⟨s, rfl, rfl, rfl, hp, rfl, rfl⟩
 | cons x r =>
  have hx := hl x List.mem_cons_self;have es : s.started = { s with any := true, params := [-1] } := (by unfold PSt.started; rw [ha]; rfl);have key : ∀ (b : UInt8) (t : List UInt8), 48 ≤ (b.toNat : Int) → (b.toNat : Int) ≤ 59 → (b.toNat : Int) ≠ 58 → s.run (b :: t) = s.started.run (b :: t) := fun b t k1 k2 k3 => by
   show (((s.step b).1.run t).1, (s.step b).2 ++ ((s.step b).1.run t).2) = _;rw [zhg h1 hb k1 k2 k3]; rfl
  have e2 := zjZ hx s.started [] (by rw [es]; exact h1) (by rw [es]; exact hb) (by rw [es]) (by rw [es]; rfl);rw [List.nil_append] at e2;rw [List.length_cons] at hn;have e3 := zhY r { s.started with params := [x] } (fun y hy => hl y (List.mem_cons_of_mem _ hy)) (by rw [es]; exact h1) (by rw [es]; exact hb) (by rw [es]) (by show 1 + _ ≤ 33; omega);have tot : s.started.run (Ze false (x :: r)) = ({ s.started with params := x :: r }, []) := by
   show s.started.run (([] ++ (if 0 ≤ x then Lib.itoa x else [])) ++ Ze true r) = _;rw [List.nil_append, zcj e2, e3]; rfl
  have same : s.run (Ze false (x :: r)) = s.started.run (Ze false (x :: r)) := by
   show s.run (([] ++ (if 0 ≤ x then Lib.itoa x else [])) ++ Ze true r) = s.started.run (([] ++ (if 0 ≤ x then Lib.itoa x else [])) ++ Ze true r);rw [List.nil_append];by_cases h0 : 0 ≤ x
   ·rw [if_pos h0];obtain ⟨n, rfl⟩ : ∃ n : Nat, x = (n : Int) := ⟨x.toNat, by omega⟩;rw [zhk];obtain ⟨b, t, e, k1, k2⟩ := zkS n;rw [e, List.cons_append];exact key b _ k1 (by omega) (by omega)
   ·rw [if_neg h0, List.nil_append];cases r with
    | nil => exact absurd (show [x] = [-1] by rw [show x = -1 by omega]) hne
    | cons y r' => exact key 59 _ (by decide) (by decide) (by decide)
  refine ⟨_, by rw [same, tot], ?_, ?_, rfl, ?_, ?_⟩ <;> rw [es]
theorem zmB {s : PSt} {b : UInt8} (hb : (b.toNat : Int) ≤ 47) : ({ s with inter := s.inter ++ [b] } : PSt).btw = s.btw + 1 := by
 cases hs : s.inter with
 | nil =>
  rw [zc6 (s := ({ s with inter := [] ++ [b] } : PSt)) (c := b) (r := []) rfl, if_neg (by omega)];unfold PSt.btw PSt.marked; rw [hs]; rfl
 | cons c r =>
  rw [zc6 (s := ({ s with inter := (c :: r) ++ [b] } : PSt)) (c := c) (r := r ++ [b]) rfl, zc6 hs, List.length_append, List.length_singleton];split <;> omega
theorem zhZ : ∀ (l : List UInt8) (s : PSt), zcX l 32 47 = true → (s.state = 2 ∨ s.state = 5) → s.btw + l.length ≤ 2 → s.run l = ({ s with inter := s.inter ++ l }, [])
 | [], s, _, _, _ => by simp [PSt.run]
 | b :: l, s, ho, h1, hl => by
  unfold zcX at ho;rw [List.all_cons, Bool.and_eq_true, Bool.and_eq_true, decide_eq_true_eq, decide_eq_true_eq] at ho;rw [List.length_cons] at hl;have e : s.step b = ({ s with inter := s.inter ++ [b] }, []) := by
   rw [zbK h1 ho.1.1 (by omega)];unfold PSt.seqd;rw [if_neg (by omega), if_pos ⟨zo8.2 ho.1, by omega⟩]
  rw [zbl e, zhZ l _ (by unfold zcX; exact ho.2) (by exact h1) (by rw [zmB ho.1.2]; omega)];simp
theorem zmC (l : List UInt8) : l = (ZK l).1 ++ (ZK l).2 := by
 cases l with
 | nil => rfl
 | cons c r => rw [zaV]; split <;> rfl
theorem zkU {b : UInt8} {params : List Int} {inter : List UInt8} (k r : Int) (t : ByteArray) (h : zaB ⟨k, r, b, params, ⟨inter.toArray⟩, t⟩ = true) (s : PSt) (h1 : s.state = 2 ∨ s.state = 5) (hi : s.inter = []) (ha : s.any = false) (hp : s.params = []) :
  (64 ≤ (b.toNat : Int) ∧ (b.toNat : Int) ≤ 126 ∧ params.length ≤ 32) ∧
  ∃ s', s.run ((ZK inter).1 ++ Ze false params ++ (ZK inter).2) = (s', []) ∧ s'.state = s.state ∧ s'.inter = inter ∧ s'.params = params ∧ s'.text = s.text ∧ s'.dec = s.dec := by
 unfold zaB zhS at h;have h' : ((Zr (ZK inter).2 && (decide (64 ≤ (b.toNat : Int)) && (decide ((b.toNat : Int) ≤ 126) && (decide (params.length ≤ 32) && !(decide (params = [-1])))))) && params.all zc4) = true := h;simp only [Bool.and_eq_true, decide_eq_true_eq, Bool.not_eq_true', decide_eq_false_iff_not, List.all_eq_true] at h';obtain ⟨⟨hbt, b1, b2, b3, b4⟩, hpar⟩ := h';have hpr : ∀ x ∈ params, -1 ≤ x ∧ x ≤ 9999 := fun x hx => by
  have := hpar x hx;unfold zc4 at this;simpa using this
 unfold Zr at hbt;rw [Bool.and_eq_true, decide_eq_true_eq] at hbt;refine ⟨⟨b1, b2, b3⟩, ?_⟩;have e1 : s.run (ZK inter).1 = ({ s with inter := (ZK inter).1 }, []) ∧ ({ s with inter := (ZK inter).1 } : PSt).btw = 0 := by
  cases inter with
  | nil =>
   refine ⟨?_, rfl⟩;show (s, _) = (({ s with inter := [] } : PSt), _);rw [← hi]
  | cons c t =>
   rw [zaV];by_cases hc : 60 ≤ (c.toNat : Int) ∧ (c.toNat : Int) ≤ 63
   ·rw [if_pos hc];refine ⟨?_, ?_⟩
    ·have e : s.step c = ({ s with inter := [c] }, []) := by
      rw [zbK h1 (by omega) (by omega)];unfold PSt.seqd;have hn : Zd (c.toNat : Int) = false := zbG (by omega);rw [if_neg (by omega), if_neg (by rw [hn]; simp), if_neg (by omega), if_neg (by omega), if_pos ⟨hc.1, by rw [hi]; rfl, ha⟩, hi]; rfl
     rw [zbl e]; rfl
    ·rw [zc6 (s := ({ s with inter := [c] } : PSt)) (c := c) (r := []) rfl, if_pos hc.1]; rfl
   ·rw [if_neg hc];refine ⟨?_, rfl⟩;show (s, _) = (({ s with inter := [] } : PSt), _);rw [← hi]
 obtain ⟨s2, e2, f1, f2, f3, f4, f5⟩ := zkT params { s with inter := (ZK inter).1 } hpr (by exact h1) e1.2 ha hp (by omega) b4;have hb2 : s2.btw = 0 := by
  have := e1.2;unfold PSt.btw PSt.marked at this ⊢;rw [f2]; exact this
 have e3 := zhZ (ZK inter).2 s2 hbt.2 (by rw [f1]; exact h1) (by omega);refine ⟨{ s2 with inter := s2.inter ++ (ZK inter).2 }, ?_, f1, ?_, f3, f4, f5⟩
 ·rw [List.append_assoc, zcj e1.1, zcj e2, e3]; rfl
 ·show s2.inter ++ (ZK inter).2 = inter;rw [f2]; exact (zmC inter).symm
theorem second {s : PSt} (b : UInt8) (st : Int) (h1 : s.state = 1) (hi : s.inter = []) (hb : (b = 91 ∧ st = 2) ∨ (b = 93 ∧ st = 4) ∨ (b = 80 ∧ st = 5)) : s.step b = (s.begun st, []) := by
 have hr : 48 ≤ (b.toNat : Int) ∧ (b.toNat : Int) < 127 := (by rcases hb with h | h | h <;> rw [h.1] <;> decide);rw [zgA (by omega) (.inr (.inl hr.2))];unfold PSt.took;rw [if_pos h1];unfold PSt.esced;rw [if_neg (by rw [zbG hr.1]; simp), if_pos (by rw [hi]; rfl)];rcases hb with ⟨rfl, rfl⟩ | ⟨rfl, rfl⟩ | ⟨rfl, rfl⟩
 ·rw [if_pos (by decide)]
 ·rw [if_neg (by decide), if_pos (by decide)]
 ·rw [if_neg (by decide), if_neg (by decide), if_pos (by decide)]
theorem zmD {b : UInt8} {params : List Int} {inter : List UInt8} (h : zaB (ZO b params inter) = true) (s : PSt) (hs : s.Clear) : ∃ s', s.run (wrL (ZO b params inter)) = (s', [ZO b params inter]) ∧ s'.Clear := by
 have e : wrL (ZO b params inter) = 27 :: 91 :: (((ZK inter).1 ++ Ze false params ++ (ZK inter).2) ++ [b]) := (by unfold wrL; rw [h]; simp [ZO, zfx]);obtain ⟨s1, es, t1, t2, t3, t4, t5, t6, t7⟩ := zkE hs;have e2 := second (s := s1) 91 2 t1 t2 (.inl ⟨rfl, rfl⟩);obtain ⟨⟨b1, b2, b3⟩, s3, e3, f1, f2, f3, f4, f5⟩ := zkU 4 0 emp h (s1.begun 2) (.inl rfl) rfl rfl rfl;have f1' : s3.state = 2 := f1;have e4 : s3.step b = (s3.cut.begun 0, [ZO b params inter]) := by
  rw [zbK (.inl f1') (by omega) (by omega)];unfold PSt.seqd;rw [if_pos b1, if_pos f1', f3, f2, List.take_of_length_le b3]
 refine ⟨s3.cut.begun 0, ?_, rfl, ?_⟩
 ·rw [e, zbl es, zbl e2, zcj e3, zbl e4]; rfl
 ·show s3.dec.hav = 0;rw [f5]; exact t7
end
end Go.Proofs.YtlfdgkiliegaiaaGreatDoor
