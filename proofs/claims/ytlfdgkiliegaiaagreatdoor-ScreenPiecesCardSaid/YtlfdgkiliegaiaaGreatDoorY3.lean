/- Texts laid together: Opq Rd M1 M2 G1 W2 W3 W4 W5. -/
import Derived.Test.YtlfdgkiliegaiaaGreatDoorY1
import Derived.Test.YtlfdgkiliegaiaaGreatDoorY2
import Derived.WalkKit
import Derived.WalkSpells
import Derived.WalkLawsBesides
import Derived.BigQuiet
import Derived.Lib.Hide
import Derived.Deep.QuietTactic
import Derived.Lib.AppendIntMem
import Derived.Lib.ItoaNum
import Derived.Deep.RegionLaw
import Derived.Deep.DeepCutAuto
import Derived.Test.YtlfdgkiliegaiaaGreatDoorRows
import Derived.Deep.AppendSrc
import Derived.Lib.AppendStr
import Derived.Lib.FrozenHead
import Derived.ArgAppend
import Derived.Laws.IdiomCopy
import Derived.Laws.IdiomStrings
import Derived.Deep.Upon
import Derived.Lib.SlBytesConst
import Derived.Test.YtlfdgkiliegaiaaGreatDoorShelf
import Derived.Lib.ItoaLen
import Derived.Laws.Cover4
import Derived.StillTailTactics
set_option linter.unusedVariables false
namespace Go.Proofs.YtlfdgkiliegaiaaGreatDoor
section
open Go.RowKit
section
variable {P : Program} {t e : TypeId}
end
theorem zV (w : World) (v : Value) (T : TypeId) : zaw (w.alloc (.cells #[v] T)) 1 (.slice (some ⟨w.heap.size, 0, none⟩) 1 1) 1 [v] := by
 refine .inr ⟨⟨w.heap.size, 0, none⟩, 1, rfl, rfl, fun j u hu => ?_⟩;rw [zaO, World.cell?_alloc_new, Nat.zero_add];simpa using hu
theorem zah (k : IntKind) (x : Int) : ∀ u ∈ [Value.int k x], u.oneCell' = true := ints_oneCell k [x]
section
variable {P : Program} {t e : TypeId}
end
section
variable {P : Program} {t e : TypeId}
theorem zcQ (ht : P.underlying t = some (.slice e)) : P.underlying t = some (.slice (P.elem t)) := by rw [ht]; simp [Program.elem, ht]
theorem zdb (hs : (P.info? e).map (·.size) = some 1) (wx : World) : (sizeOf e).run P wx = .ok 1 wx := by
 obtain ⟨i, hi, hi2⟩ := Option.map_eq_some_iff.1 hs;simp [sizeOf, typeInfo, hi, hi2]
end
end
section
open Go.RowKit
def zff (k : IntKind) (w : World) (v : Value) (l : List Int) : Prop :=
 (v = .slice none 0 0 ∧ l = []) ∨ ∃ (a : Addr) (c : Nat), v = .slice (some a) l.length c ∧ l.length ≤ c ∧ c ≤ 9223372036854775807 ∧
  ∀ j, j < l.length → w.cell? (a.add j) = some (.int k (l.getD j 0))
theorem zln {k : IntKind} {w : World} {v : Value} {l : List Int} (h : zma k w v l) : zff k w v l := by
 rcases h with h | ⟨b, off, c, h1, h2, h3, h4, h5⟩
 ·exact .inl h
 ·exact .inr ⟨⟨b, off, none⟩, c, h1, h3, h4, fun j hj => by rw [zaO]; exact h5 j hj⟩
theorem zcR (a : Addr) (j : Nat) : (a.add j).block = a.block := by
 unfold Addr.add; split <;> rfl
theorem zho {w : World} {a : Addr} {v : Value} (h : w.cell? a = some v) : a.block < w.heap.size := World.block_lt_of_cell? w a h
theorem zc {w w' : World} (hb : Below w.heap.size w w') {a : Addr} {v : Value} (h : w.cell? a = some v) : w'.cell? a = some v := by
 rw [hb.cell (p := a) (zho h)]; exact h
theorem zdT {k : IntKind} {w w' : World} {v : Value} {l : List Int} (h : zff k w v l) (hb : Below w.heap.size w w') : zff k w' v l := by
 rcases h with h | ⟨a, c, h1, h2, h3, h4⟩
 ·exact .inl h
 ·exact .inr ⟨a, c, h1, h2, h3, fun j hj => zc hb (h4 j hj)⟩
section
variable {P : Program} {t e : TypeId}
theorem zb9 {k : IntKind} {w : World} {v : Value} {l : List Int} (ht : P.underlying t = some (.slice e)) (h : zff k w v l) (ty : TypeId) (wx : World) : (Builtin.len_ #[t] ty #[v]).run P wx = .ok (.int .i64 l.length) wx := by
 rcases h with ⟨rfl, rfl⟩ | ⟨a, c, rfl, _⟩ <;> simp [Builtin.len_, run_underlying ht, goInt]
theorem zmX {k : IntKind} {w : World} {v : Value} {l : List Int} (ht : P.underlying t = some (.slice e)) (hs : (P.info? e).map (·.size) = some 1) (h : zff k w v l) (j : Nat) (hj : j < l.length) :
  ∃ a : Addr, (∀ wx, (Instr.indexAt t v (.int .i64 j)).run P wx = .ok (.pointer (some a)) wx) ∧ w.cell? a = some (.int k (l.getD j 0)) := by
 rcases h with ⟨rfl, rfl⟩ | ⟨a, c, rfl, h1, h2, h3⟩
 ·simp at hj
 ·refine ⟨a.add j, fun wx => ?_, h3 j hj⟩;obtain ⟨i, hi, hi2⟩ := Option.map_eq_some_iff.1 hs;have hj' : (0 : Int) ≤ (j : Int) ∧ (j : Int) < (l.length : Int) := (by omega);simp [Instr.indexAt, asIntOf, run_underlying ht, hj', sizeOf, typeInfo, hi, hi2];omega
end
def Tab (P : Program) (w : World) : Prop := Lib.TabBelow P w.heap.size w "internal/strconv.uint64pow10" .u64 Lib.pow10Tab
theorem zlo {P : Program} {w w' : World} {B : Nat} (h : Lib.TabBelow P B w "internal/strconv.uint64pow10" .u64 Lib.pow10Tab) (hb : Below B w w') : Lib.TabBelow P B w' "internal/strconv.uint64pow10" .u64 Lib.pow10Tab :=
 fun w2 h2 => h w2 (hb.trans h2)
theorem zoC {P : Program} {w : World} {B B' : Nat} (h : Lib.TabBelow P B w "internal/strconv.uint64pow10" .u64 Lib.pow10Tab) (hb : B ≤ B') : Lib.TabBelow P B' w "internal/strconv.uint64pow10" .u64 Lib.pow10Tab :=
 fun w2 h2 => h w2 (h2.mono hb)
theorem zoD {P : Program} {w w' : World} (h : Tab P w) (hb : Below w.heap.size w w') : Tab P w' := zoC (zlo h hb) hb.size
end
section
open Go.RowKit
structure ze (G : Nat → Prop) (w w' : World) : Prop where
 os : w'.os = w.os
 tape : w'.tape = w.tape
 output : w'.output = w.output
 size : w.heap.size ≤ w'.heap.size
 block : ∀ k, k < w.heap.size → ¬ G k → w'.heap[k]? = w.heap[k]?
theorem ze.refl (G : Nat → Prop) (w : World) : ze G w w := ⟨rfl, rfl, rfl, Nat.le_refl _, fun _ _ _ => rfl⟩
theorem ze.trans {G : Nat → Prop} {a b c : World} (h : ze G a b) (g : ze G b c) : ze G a c :=
 ⟨g.os.trans h.os, g.tape.trans h.tape, g.output.trans h.output, Nat.le_trans h.size g.size, fun k hk hg => (g.block k (Nat.lt_of_lt_of_le hk h.size) hg).trans (h.block k hk hg)⟩
structure Mod (T : Nat → Nat) (t : Nat → Prop) (w w' : World) : Prop where
 os : w'.os = w.os
 tape : w'.tape = w.tape
 output : w'.output = w.output
 size : w.heap.size ≤ w'.heap.size
 block : ∀ k, k < w.heap.size → ¬ t (T k) → w'.heap[k]? = w.heap[k]?
theorem Mod.of_gb {T : Nat → Nat} {t : Nat → Prop} {w w' : World} {row : Option Nat} (g : w.grownBy w' row) (h : ∀ k, row = some k → t (T k)) : Mod T t w w' :=
 ⟨g.os, g.tape, g.output, g.size, fun k hk ht => g.block k hk (fun e => ht (h k e.symm))⟩
theorem Mod.trans {T : Nat → Nat} {t : Nat → Prop} {a b c : World} (h : Mod T t a b) (g : Mod T t b c) : Mod T t a c :=
 ⟨g.os.trans h.os, g.tape.trans h.tape, g.output.trans h.output, Nat.le_trans h.size g.size, fun k hk ht => (g.block k (Nat.lt_of_lt_of_le hk h.size) ht).trans (h.block k hk ht)⟩
theorem Mod.retag {T T' : Nat → Nat} {t : Nat → Prop} {w w' : World} (h : Mod T t w w') (e : ∀ k, k < w.heap.size → T' k = T k) : Mod T' t w w' :=
 ⟨h.os, h.tape, h.output, h.size, fun k hk ht => h.block k hk (by rw [← e k hk]; exact ht)⟩
structure zaY (G : Nat → Prop) (T : Nat → Nat) (w : World) : Prop where
 tl : ∀ k, T k ≠ 0 → k < w.heap.size ∧ G k
 gn : ∀ k, w.heap.size ≤ k → G k
theorem zaY.mono {G : Nat → Prop} {T : Nat → Nat} {w w' : World} (h : zaY G T w) (hs : w.heap.size ≤ w'.heap.size) : zaY G T w' :=
 ⟨fun k hk => ⟨Nat.lt_of_lt_of_le (h.tl k hk).1 hs, (h.tl k hk).2⟩, fun k hk => h.gn k (Nat.le_trans hs hk)⟩
theorem Mod.within {G : Nat → Prop} {T : Nat → Nat} {t : Nat → Prop} {w w' : World} (h : Mod T t w w') (hA : zaY G T w) (ht : ¬ t 0) : ze G w w' :=
 ⟨h.os, h.tape, h.output, h.size, fun k hk hg => h.block k hk (fun e => by
  by_cases h0 : T k = 0
  ·rw [h0] at e; exact ht e
  ·exact hg (hA.tl k h0).2)⟩
def adopt (T : Nat → Nat) (a b t : Nat) : Nat → Nat := fun k => if a ≤ k ∧ k < b then t else T k
theorem zdw {T : Nat → Nat} {a b t k : Nat} (h : k < a) : adopt T a b t k = T k := by unfold adopt; rw [if_neg (by omega)]
theorem zdx {T : Nat → Nat} {a b t k : Nat} (h : a ≤ k) (h2 : k < b) : adopt T a b t k = t := by unfold adopt; rw [if_pos ⟨h, h2⟩]
theorem zaY.adopt {G : Nat → Prop} {T : Nat → Nat} {w w' : World} (h : zaY G T w) (hs : w.heap.size ≤ w'.heap.size) (t : Nat) : zaY G (adopt T w.heap.size w'.heap.size t) w' := by
 refine ⟨fun k hk => ?_, fun k hk => h.gn k (Nat.le_trans hs hk)⟩;by_cases hn : w.heap.size ≤ k ∧ k < w'.heap.size
 ·exact ⟨hn.2, h.gn k hn.1⟩
 ·unfold _root_.Go.Proofs.YtlfdgkiliegaiaaGreatDoor.adopt at hk;rw [if_neg hn] at hk;exact (h.mono hs).tl k hk
structure Row (T : Nat → Nat) (t size : Nat) (v : Value) (n : Nat) (xs : List Value) (w : World) : Prop where
 own : zn w 0 size v n xs
 tag : ∀ k, v.ownBlock = some k → T k = t
theorem Row.mod {T : Nat → Nat} {t size : Nat} {v : Value} {n : Nat} {xs : List Value} {w w' : World} {q : Nat → Prop} (h : Row T t size v n xs w) (m : Mod T q w w') (hq : ¬ q t) : Row T t size v n xs w' :=
 ⟨Zk h.own m.size fun k hk => m.block k (zl h.own k hk).2 (by rw [h.tag k hk]; exact hq), h.tag⟩
theorem Row.retag {T T' : Nat → Nat} {t t' size : Nat} {v : Value} {n : Nat} {xs : List Value} {w : World} (h : Row T t size v n xs w) (e : ∀ k, k < w.heap.size → T k = t → T' k = t') : Row T' t' size v n xs w :=
 ⟨h.own, fun k hk => e k (zl h.own k hk).2 (h.tag k hk)⟩
theorem zbi (T : Nat → Nat) (t size : Nat) (w : World) : Row T t size (.slice none 0 0) 0 [] w := ⟨ZX _ _ _, fun k hk => by simp [Value.ownBlock] at hk⟩
def own (T : Nat → Nat) (w : World) : Nat → Prop := fun k => T k ≠ 0 ∨ w.heap.size ≤ k
theorem zhp {G : Nat → Prop} {B : Nat} {w w' : World} (h : ze G w w') (hB : B ≤ w.heap.size) (hG : ∀ k, k < B → ¬ G k) : Below B w w' :=
 ⟨h.os, h.tape, h.output, h.size, fun k hk => h.block k (by omega) (hG k hk)⟩
theorem zeK {T : Nat → Nat} {B : Nat} {w w' : World} (h : ze (own T w) w w') (hB : B ≤ w.heap.size) (hT : ∀ k, T k ≠ 0 → B ≤ k) : Below B w w' :=
 zhp h hB fun k hk hg => by
  rcases hg with hg | hg
  ·have := hT k hg; omega
  ·omega
theorem zip {T T' : Nat → Nat} {B : Nat} {w : World} (ht : ∀ k, T' k ≠ 0 → own T w k) (hB : B ≤ w.heap.size) (hT : ∀ k, T k ≠ 0 → B ≤ k) : ∀ k, T' k ≠ 0 → B ≤ k := fun k hk => by
 rcases ht k hk with h | h
 ·exact hT k h
 ·omega
theorem Mod.of_below {T : Nat → Nat} {w w' : World} (h : Below w.heap.size w w') : Mod T (fun _ => False) w w' := ⟨h.os, h.tape, h.output, h.size, fun k hk _ => h.block k hk⟩
theorem ze.of_below {G : Nat → Prop} {w w' : World} (h : Below w.heap.size w w') : ze G w w' := ⟨h.os, h.tape, h.output, h.size, fun k hk _ => h.block k hk⟩
theorem ze.of_gb {G : Nat → Prop} {w w' : World} {row : Option Nat} (h : w.grownBy w' row) (hg : ∀ k, row = some k → G k) : ze G w w' := ⟨h.os, h.tape, h.output, h.size, fun k hk hn => h.block k hk (fun e => hn (hg k e.symm))⟩
theorem ze.mono {G G' : Nat → Prop} {w w' : World} (h : ze G w w') (hg : ∀ k, G k → G' k) : ze G' w w' := ⟨h.os, h.tape, h.output, h.size, fun k hk hn => h.block k hk (fun e => hn (hg k e))⟩
end
section
open Go.RowKit
theorem zbA {P : Program} {e : TypeId} {n : Nat} (hs : (P.info? e).map (·.size) = some n) (wx : World) : (sizeOf e).run P wx = .ok n wx := by
 obtain ⟨i, hi, hi2⟩ := Option.map_eq_some_iff.1 hs;simp [sizeOf, typeInfo, hi, hi2]
theorem ZN {P : Program} {t e : TypeId} {size : Nat} (ht : P.underlying t = some (.slice e)) (hs : (P.info? e).map (·.size) = some size) (b off n c j : Nat) (hj : j < n) (wx : World) :
  (Instr.indexAt t (.slice (some ⟨b, off, none⟩) n c) (.int .i64 j)).run P wx = .ok (.pointer (some ⟨b, off + j * size, none⟩)) wx := by
 obtain ⟨i, hi, hi2⟩ := Option.map_eq_some_iff.1 hs;have hj' : (0 : Int) ≤ (j : Int) ∧ (j : Int) < (n : Int) := (by omega);simp [Instr.indexAt, asIntOf, run_underlying ht, hj', sizeOf, typeInfo, hi, hi2, zaO];omega
theorem zbP {P : Program} {t e : TypeId} {size : Nat} (ht : P.underlying t = some (.slice e)) (hs : (P.info? e).map (·.size) = some size) (b off n c x y : Nat) (h1 : x ≤ y) (h2 : y ≤ c) (hx : x < c) (wx : World) :
  (Instr.slice t (.slice (some ⟨b, off, none⟩) n c) (some (.int .i64 (x : Int))) (some (.int .i64 (y : Int))) none).run P wx = .ok (.slice (some ⟨b, off + x * size, none⟩) (y - x) (c - x)) wx := by
 have hel : P.elem t = e := (by simp [Program.elem, ht]);rw [run_slice_lh wx t _ _ c (zcQ ht) .i64 .i64 _ _ (by omega) (by omega) (by omega), hel, zbA hs, Int.toNat_natCast, Int.toNat_natCast];show Result.ok (sliced _ x y c size) wx = _;unfold sliced;rw [if_neg (by omega)];show Result.ok (Value.slice (some ((⟨b, off, none⟩ : Addr).add (x * size))) _ _) wx = _;rw [zaO]
theorem zcS {P : Program} {t e : TypeId} {size : Nat} (ht : P.underlying t = some (.slice e)) (hs : (P.info? e).map (·.size) = some size) (b off n c x : Nat) (h1 : x ≤ n) (hx : x < c) (wx : World) :
  (Instr.slice t (.slice (some ⟨b, off, none⟩) n c) (some (.int .i64 (x : Int))) none none).run P wx = .ok (.slice (some ⟨b, off + x * size, none⟩) (n - x) (c - x)) wx := by
 have hel : P.elem t = e := (by simp [Program.elem, ht]);rw [run_slice_l wx t _ _ c (zcQ ht) .i64 _ (by omega) (by omega), hel, zbA hs, Int.toNat_natCast];show Result.ok (sliced _ x n c size) wx = _;unfold sliced;rw [if_neg (by omega)];show Result.ok (Value.slice (some ((⟨b, off, none⟩ : Addr).add (x * size))) _ _) wx = _;rw [zaO]
theorem zhq {P : Program} {t e : TypeId} {size : Nat} (ht : P.underlying t = some (.slice e)) (hs : (P.info? e).map (·.size) = some size) (a : Option Addr) (n c y : Nat) (h2 : y ≤ c) (wx : World) :
  (Instr.slice t (.slice a n c) none (some (.int .i64 (y : Int))) none).run P wx = .ok (.slice a y c) wx := by
 have hel : P.elem t = e := (by simp [Program.elem, ht]);rw [run_slice_h wx t _ _ c (zcQ ht) .i64 _ (by omega) (by omega), hel, zbA hs, Int.toNat_natCast];show Result.ok (sliced _ 0 y c size) wx = _;unfold sliced;cases a with
 | none => simp
 | some a =>
  split
  ·rfl
  ·rw [Nat.zero_mul];show Result.ok (Value.slice (some (a.add 0)) _ _) wx = _;rw [show a.add 0 = a by simp [Addr.add]]; rfl
theorem zf1 {w : World} {base size b off n c : Nat} {xs : List Value} (h : zn w base size (.slice (some ⟨b, off, none⟩) n c) n xs) (x y : Nat) (h1 : x ≤ y) (h2 : y ≤ n) :
  zn w base size (.slice (some ⟨b, off + x * size, none⟩) (y - x) (c - x)) (y - x) ((xs.drop (x * size)).take ((y - x) * size)) := by
 obtain ⟨e1, h2'⟩ := h;rcases h2' with ⟨e, _⟩ | ⟨b', off', c', e, hb, hbs, hnc, hcm, hcells, hxs⟩
 ·simp at e
 ·simp only [Value.slice.injEq, Option.some.injEq, Addr.mk.injEq] at e;obtain ⟨⟨rfl, rfl, _⟩, _, rfl⟩ := e;have hle : x * size + (y - x) * size ≤ xs.length := by
   rw [e1, ← Nat.add_mul]; exact Nat.mul_le_mul_right _ (by omega)
  refine ⟨by rw [List.length_take, List.length_drop]; omega, .inr ⟨b, off + x * size, c - x, rfl, hb, hbs, by omega, by omega, fun j hj => ?_, fun j u hu => ?_⟩⟩
  ·have : x * size + j < c * size := by
    have hh : x * size + (c - x) * size = c * size := (by rw [← Nat.add_mul]; congr 1; omega);omega
   have := hcells (x * size + j) this
   rwa [← Nat.add_assoc] at this
  ·rw [List.getElem?_take] at hu;split at hu
   ·rw [List.getElem?_drop] at hu;have := hxs _ u hu
    rwa [← Nat.add_assoc] at this
   ·simp at hu
theorem zbe {α : Type} (l : List α) (x : Nat) (m : List α) (h : x + m.length ≤ l.length) (j : Nat) : (z8 l x m)[j]? = if j < x then l[j]? else if j < x + m.length then m[j - x]? else l[j]? := by
 unfold z8;have e1 : (l.take x).length = x := (by rw [List.length_take]; omega);by_cases c1 : j < x
 ·rw [if_pos c1, List.getElem?_append_left (by rw [List.length_append]; omega), List.getElem?_append_left (by omega), List.getElem?_take, if_pos c1]
 rw [if_neg c1];by_cases c2 : j < x + m.length
 ·rw [if_pos c2, List.getElem?_append_left (by rw [List.length_append]; omega), List.getElem?_append_right (by omega), e1]
 ·rw [if_neg c2, List.getElem?_append_right (by rw [List.length_append]; omega), List.length_append, e1, List.getElem?_drop];congr 1; omega
theorem zeL (b : Nat) (vs : List Value) (o : Nat) (w : World) (h : ∀ j, j < vs.length → (w.cell? ⟨b, o + j, none⟩).isSome = true) (j : Nat) (hj : j < vs.length) : (w.setCells b o vs).cell? ⟨b, o + j, none⟩ = vs[j]? := by
 rw [World.cell?_setCells_in b vs o w (fun i hi => h i hi) j hj, List.getElem?_eq_getElem hj]
theorem zao (w : World) (b o : Nat) (vs : List Value) : (w.setCells b o vs).heap.size = w.heap.size := by
 induction vs generalizing o w with
 | nil => rfl
 | cons x vs ih => simp only [World.setCells]; rw [ih]; simp
theorem zbo {w : World} {base size b off n c : Nat} {xs : List Value} (h : zn w base size (.slice (some ⟨b, off, none⟩) n c) n xs) (j : Nat) (vs : List Value) (hj : j + vs.length ≤ n * size) :
  zn (w.setCells b (off + j) vs) base size (.slice (some ⟨b, off, none⟩) n c) n (z8 xs j vs) := by
 obtain ⟨e1, h2⟩ := h;rcases h2 with ⟨e, _⟩ | ⟨b', off', c', e, hb, hbs, hnc, hcm, hcells, hxs⟩
 ·simp at e
 ·simp only [Value.slice.injEq, Option.some.injEq, Addr.mk.injEq] at e;obtain ⟨⟨rfl, rfl, _⟩, _, rfl⟩ := e;have hcn : n * size ≤ c * size := Nat.mul_le_mul_right _ hnc;have hin := zeL b vs (off + j) w (fun i hi => by
   have := (hcells (j + i) (by omega)).1
   rwa [← Nat.add_assoc] at this)
  have hout : ∀ k, k < j ∨ j + vs.length ≤ k → (w.setCells b (off + j) vs).cell? ⟨b, off + k, none⟩ = w.cell? ⟨b, off + k, none⟩ := fun k hk =>
   World.cell?_setCells_out b vs (off + j) w _ (fun _ _ => by show off + k < off + j ∨ off + j + vs.length ≤ off + k; omega)
  refine ⟨by rw [ZT _ _ _ (by omega)]; exact e1, .inr ⟨b, off, c, rfl, hb, by rw [zao]; exact hbs, hnc, hcm, fun k hk => ⟨?_, by rw [World.frozen?_setCells]; exact (hcells k hk).2⟩, fun k u hu => ?_⟩⟩
  ·by_cases hk2 : k < j ∨ j + vs.length ≤ k
   ·rw [hout k hk2]; exact (hcells k hk).1
   ·have := hin (k - j) (by omega);rw [show off + j + (k - j) = off + k by omega] at this;rw [this, List.getElem?_eq_getElem (by omega)]; rfl
  ·rw [zbe _ _ _ (by omega)] at hu;by_cases hk1 : k < j
   ·rw [if_pos hk1] at hu;rw [hout k (.inl hk1)]; exact hxs k u hu
   ·rw [if_neg hk1] at hu;by_cases hk2 : k < j + vs.length
    ·rw [if_pos hk2] at hu;have := hin (k - j) (by omega);rw [show off + j + (k - j) = off + k by omega] at this;rw [this]; exact hu
    ·rw [if_neg hk2] at hu;rw [hout k (.inr (by omega))]; exact hxs k u hu
theorem zeM {P : Program} {w : World} {e : TypeId} {base size b off n c : Nat} {xs : List Value} (hs : (P.info? e).map (·.size) = some size) (h : zn w base size (.slice (some ⟨b, off, none⟩) n c) n xs) (j : Nat) (hj : j < n) (vs : Array Value) (hv : vs.size = size)
  (h1 : ∀ u ∈ vs.toList, u.oneCell' = true) : (storeVar e ⟨b, off + j * size, none⟩ (.agg vs)).run P w = .ok () (w.setCells b (off + j * size) vs.toList) := by
 obtain ⟨e1, h2⟩ := h;rcases h2 with ⟨e, _⟩ | ⟨b', off', c', e, hb, hbs, hnc, hcm, hcells, hxs⟩
 ·simp at e
 ·simp only [Value.slice.injEq, Option.some.injEq, Addr.mk.injEq] at e;obtain ⟨⟨rfl, rfl, _⟩, _, rfl⟩ := e;have hlt : (j + 1) * size ≤ c * size := Nat.mul_le_mul_right _ (by omega);rw [Nat.add_mul, Nat.one_mul] at hlt;have hl : vs.toList.length = size := (by rw [Array.length_toList]; exact hv);have hr := run_storeCells_cells (P := P) b (off + j * size) vs.toList 0 w (fun i hi => by
    have := (hcells (j * size + i) (by omega)).1
    rwa [← Nat.add_assoc] at this) (fun i hi => by
    have := (hcells (j * size + i) (by omega)).2
    rwa [← Nat.add_assoc] at this) h1
  unfold storeVar;simp only [Sem.run_bind, zbA hs, Result.andThen, Value.cells, hv, ne_eq, not_true_eq_false, if_false, Nat.add_zero] at hr ⊢;exact hr
theorem zQ {w : World} {base size : Nat} {v : Value} {n : Nat} {xs : List Value} (h : zn w base size v n xs) : ∃ x c, v = Value.slice x n c := by
 rcases h.2 with ⟨hv, rfl⟩ | ⟨b, off, cap, hv, _⟩
 ·exact ⟨_, _, hv⟩
 ·exact ⟨_, _, hv⟩
theorem Za {P : Program} {t e : TypeId} {w : World} {base size : Nat} {v : Value} {n : Nat} {xs : List Value} (ht : P.underlying t = some (.slice e)) (h : zn w base size v n xs) (ty : TypeId) (wx : World) : (Builtin.len_ #[t] ty #[v]).run P wx = .ok (.int .i64 n) wx := by
 rcases h.2 with ⟨rfl, rfl⟩ | ⟨b, off, c, rfl, _⟩ <;> simp [Builtin.len_, run_underlying ht, goInt]
theorem zcZ {P : Program} {fn : Func} {R : Ending → World → Prop} {a : Act} {w : World} (h : fn.results = #[]) (hd : a.defers = []) (hR : R (.returned (.tuple #[])) w) :
  bodyPost P fn R .ret a w := bodyPost_ret (results_none h _ _ _) hd hR
theorem zct {P : Program} {fn : Func} {R : Ending → World → Prop} {a : Act} {w : World} {t u : Tmp} {v1 v2 : Value} (h : fn.results = #[.tmp t, .tmp u]) (hd : a.defers = []) (h1 : a.tmps.getD t undef = v1) (h2 : a.tmps.getD u undef = v2) (hR : R (.returned (.tuple #[v1, v2])) w) :
  bodyPost P fn R .ret a w := by
 subst h1 h2; exact bodyPost_ret (results_tmp2 h _ _ _) hd hR
section
variable {P : Program}
theorem zgN {o : Oper} {a : Act} {w w' : World} {K : Act → World → Prop} {Q : Exit → Act → World → Prop} (ty : TypeId) (x y : Operand) (ho : o.op = .store ty x y)
  {ad : Addr} {v : Value} (hst : (storeVar ty ad v).run P w = .ok () w') (hx : a.eval x = .pointer (some ad)) (hy : a.eval y = v) (h : K (a.put o.dst undef) w') : o.wp P a w K Q := by
 unfold Oper.wp execOp;simp only [ho, hx, hy, Instr.storeAt, Instr.sureAddr, Sem.run_bind, Sem.run_pure, Result.andThen_ok, hst];exact h
theorem zJ {ops : Array Oper} {rest : List Oper} {o : Oper} {a : Act} {w w' : World} {Q : Exit → Act → World → Prop} (hgd : o.guard = none) (ty : TypeId) (x y : Operand) (ho : o.op = .store ty x y)
  {ad : Addr} {v : Value} (hst : (storeVar ty ad v).run P w = .ok () w') (hx : a.eval x = .pointer (some ad)) (hy : a.eval y = v) (h : wpList P ops Q rest (a.put o.dst undef) w') : wpList P ops Q (o :: rest) a w :=
 wpList_plain hgd fun _ hK => zgN ty x y ho hst hx hy (hK _ _ h)
theorem zca {fn : Func} {R : Ending → World → Prop} {a : Act} {w : World} {p : Tmp} {ty t : TypeId} {g : Nat} {cs : Array Value} {fr : Nat × Nat} {d : TypeDesc} (h : fn.results = #[.cell p ty]) (hdf : a.defers = [])
  (hp : a.tmps.getD p undef = .pointer (some ⟨g, 0, none⟩)) (hg : w.heap[g]? = some (.cells cs t fr)) (hu : P.underlying ty = some d) (hd : (match d with | .struct _ | .array _ _ => true | _ => false) = true) (hi : (P.info? ty).map (·.size) = some cs.size)
  (hR : R (.returned (.agg cs)) w) : bodyPost P fn R .ret a w :=
 bodyPost_ret (results_cell_row h _ w g t cs fr d hp hg hu hd hi) hdf hR
end
end
section
open Go.RowKit
theorem zI : (Tryz.prog.info? 133).map (·.size) = some 5 := by kernel_rfl
theorem zdc : (Tryz.prog.info? 35).map (·.size) = some 3 := by kernel_rfl
theorem zH : (Tryz.prog.info? 130).map (·.size) = some 2 := by kernel_rfl
theorem zE (w : World) (o : Obj) : (w.alloc o).heap[w.heap.size]? = some o := heap_alloc_new w o
theorem zem (w : World) (o o' : Obj) : ((w.alloc o).alloc o').heap[w.heap.size + 1]? = some o' := by
 have := heap_alloc_new (w.alloc o) o';simpa using this
theorem zbB {B g : Nat} {w0 w : World} (hb : Below B w0 w) (hBg : B ≤ g) (cs : Array Value) : Below B w0 (w.setRow g cs) :=
 hb.trans ⟨rfl, rfl, rfl, by simp [World.setRow], fun k hk => setRow_other w g k cs (by omega)⟩
theorem zlp (s : Sty) (w : World) : Calls Tryz.prog 193 #[s.val] w fun e w' => e = .returned (Zc s).val ∧ Below w.heap.size w w' := by
 obtain ⟨f, b, a⟩ := s;unfold Sty.val Cel.val Zc;have HB := Lib.hid (((Below.refl w.heap.size w).alloc (Nat.le_refl _) (.cells #[.int .i64 f, .int .i64 b, .int .i64 a] 35)).alloc (by simp) (.cells #[.int .i32 32, .int .i64 1, .int .i64 f, .int .i64 b, .int .i64 a] 133));go_enter Tryz.func193, Tryz.ntmps193;go_wp2_with fail;exact zca rfl rfl rfl (zem _ _ _) Tryz.underlying133 rfl (by exact zI) ⟨rfl, HB.out⟩
theorem zaZ (w : World) : Calls Tryz.prog 21 #[] w fun e w' => e = .returned plainS.val ∧ Below w.heap.size w w' := by
 unfold Sty.val plainS;go_enter Tryz.func21, Tryz.ntmps21;go_wp2_with fail;exact zca rfl rfl rfl (zE _ _) Tryz.underlying35 rfl (by exact zdc) ⟨rfl, (Below.refl w.heap.size w).alloc (Nat.le_refl _) _⟩
theorem zaS {w : World} {g : Nat} {old cells : Array Value} {t : TypeId} (h : w.heap[g]? = some (.cells old t (0, 0))) : (w.setRow g cells).heap[g]? = some (.cells cells t (0, 0)) := setRow_heap w g old cells t (0, 0) h
theorem zlq (l : List Cel) (x : Nat) (s : Sty) : zaX l x 0 s = l := by
 unfold zaX z8;simp
theorem zlr (l : List Cel) (x k : Nat) (s : Sty) (h : x + k < l.length) : z8 (zaX l x k s) (x + k) [Zc s] = zaX l x (k + 1) s := by
 apply List.ext_getElem?;intro j;have hl : (zaX l x k s).length = l.length := zds _ _ _ _ (by omega);rw [zbe _ _ _ (by rw [hl]; simp; omega)];unfold zaX;rw [zbe _ _ _ (by rw [List.length_replicate]; omega), zbe _ _ _ (by rw [List.length_replicate]; omega)];simp only [List.length_replicate, List.length_singleton, List.getElem?_replicate];by_cases c1 : j < x
 ·rw [if_pos (show j < x + k by omega), if_pos c1, if_pos c1]
 rw [if_neg c1, if_neg c1];by_cases c2 : j < x + k
 ·rw [if_pos c2, if_pos c2, if_pos (show j - x < k by omega), if_pos (show j < x + (k + 1) by omega), if_pos (show j - x < k + 1 by omega)]
 rw [if_neg c2, if_neg c2];by_cases c3 : j < x + k + 1
 ·rw [if_pos c3, if_pos (show j < x + (k + 1) by omega), if_pos (show j - x < k + 1 by omega), show j - (x + k) = 0 by omega];rfl
 ·rw [if_neg c3, if_neg (show ¬ j < x + (k + 1) by omega)]
theorem zdU (c : Cel) : ∀ u ∈ (#[Value.int .i32 c.rune, .int .i64 c.width, .int .i64 c.sty.fg, .int .i64 c.sty.bg, .int .i64 c.sty.attr] : Array Value).toList, u.oneCell' = true := zcr [c]
set_option maxRecDepth 100000 in
set_option maxHeartbeats 2000000 in
theorem zdd (l : List Cel) (s : Sty) (b off n c x m c' : Nat) (w : World) (h : zn w 0 5 (.slice (some ⟨b, off, none⟩) n c) n (zp l)) (hn : l.length = n) (hx : x + m ≤ n) (hm : n ≤ maxLen) :
  Calls Tryz.prog 126 #[.slice (some ⟨b, off + x * 5, none⟩) m c', s.val] w fun e w' => e = .returned (.tuple #[]) ∧ w.grownBy w' (some b) ∧ zn w' 0 5 (.slice (some ⟨b, off, none⟩) n c) n (zp (zaX l x m s)) := by
 have hbl := (zl h b rfl).2;have HS0 := Lib.hid (zB h (.cells #[.int .i64 s.fg, .int .i64 s.bg, .int .i64 s.attr] 35));have hb0 := zE w (.cells #[.int .i64 s.fg, .int .i64 s.bg, .int .i64 s.attr] 35);clear h;unfold maxLen at hm;go_enter Tryz.func126, Tryz.ntmps126;unfold Sty.val;go_wp2_with fail
 go_loopw [4, 7] (fun _ iv wr => ∃ k : Nat, k ≤ m ∧ iv = .int .i64 k ∧ w.grownBy wr (some b) ∧ wr.heap[w.heap.size]? = some (.cells #[.int .i64 s.fg, .int .i64 s.bg, .int .i64 s.attr] 35 (0, 0)) ∧ w.heap.size < wr.heap.size ∧
  zn wr 0 5 (.slice (some ⟨b, off, none⟩) n c) n (zp (zaX l x k s))) (fun _ iv _ => m - (intOf iv).toNat)
 case atStart =>
  refine ⟨0, Nat.zero_le _, rfl, World.grownBy_alloc w _ _, hb0, by simp, ?_⟩;rw [zlq]; exact HS0.out
 case round =>
  obtain ⟨k, hk, rfl, g, hb, hlt, ho⟩ := hrel;have HG := Lib.hid g;have HO := Lib.hid ho;have c0 := za hb 0;have c1 := za hb 1;have c2 := za hb 2;replace c0 : wr.cell? ⟨w.heap.size, 0, none⟩ = some (.int .i64 s.fg) := c0;replace c1 : wr.cell? ⟨w.heap.size, 1, none⟩ = some (.int .i64 s.bg) := c1;replace c2 : wr.cell? ⟨w.heap.size, 2, none⟩ = some (.int .i64 s.attr) := c2;have HBk := Lib.hid hb;clear g ho hb;by_cases hlt2 : k < m
  ·have hix := ZN (P := Tryz.prog) (size := 5) Tryz.underlying68 zI b (off + x * 5) m c' k hlt2;have HBL := Lib.hid (zlp s wr);go_wp2_with fail;refine HBL.out.mono ?_;rintro e w2 ⟨rfl, b2⟩;have hl : (zaX l x k s).length = n := (by rw [zds _ _ _ _ (by omega)]; exact hn);have HO2 := Lib.hid (zh HO.out b2);have hst := zeM (P := Tryz.prog) zI HO2.out (x + k) (by omega) #[.int .i32 32, .int .i64 1, .int .i64 s.fg, .int .i64 s.bg, .int .i64 s.attr] rfl (zdU (Zc s));rw [show off + (x + k) * 5 = off + x * 5 + k * 5 by omega] at hst;have HP := zbo HO2.out ((x + k) * 5) (zp [Zc s]) (by rw [zbc]; simp; omega);rw [← zcq, zlr _ _ _ _ (by omega), show off + (x + k) * 5 = off + x * 5 + k * 5 by omega] at HP;have HP2 := Lib.hid HP;have HG2 := Lib.hid (Zs (zfv HG.out b2 (by omega)) (zP w2 b (off + x * 5 + k * 5) (zp [Zc s])));have HK2 := Lib.hid (zo (zm HBk.out b2 hlt) (zP w2 b (off + x * 5 + k * 5) (zp [Zc s])) (by intro e; injection e with e; omega));have hs2 := b2.size;have hsz := zao w2 b (off + x * 5 + k * 5) (zp [Zc s]);unfold Cel.val Zc;dsimp only;replace hst : (storeVar 133 ⟨b, off + x * 5 + k * 5, none⟩ (.agg #[.int .i32 32, .int .i64 1, .int .i64 s.fg, .int .i64 s.bg, .int .i64 s.attr])).run Tryz.prog w2 = .ok () (w2.setCells b (off + x * 5 + k * 5) (zp [Zc s])) := hst;generalize w2.setCells b (off + x * 5 + k * 5) (zp [Zc s]) = w3 at *;clear HP b2;go_wp2_with (refine zJ rfl _ _ _ rfl hst rfl rfl ?_);go_roundw
   case rel => exact ⟨k + 1, by omega, by go_num, HG2.out, HK2.out, by omega, HP2.out⟩
   case measure => simp [intOf]; omega
  ·have : k = m := (by omega);subst this;go_wp2_with fail;go_end0;exact ⟨rfl, HG.out, HO.out⟩
end
section
open Go.RowKit
structure zbU (u : Bool) (T : Nat → Nat) (p d : Nat) (tell vi vp vt : Value) (w : World) (s : PSt) : Prop where
 blk : w.heap[p]? = some (.cells (s.cells d tell vi vp vt) 161 (0, 0))
 dec : zbX w d s.dec
 dok : s.dec.ok
 ri : Row T 4 1 vi s.inter.length (zk s.inter) w
 rp : u = true → Row T 5 1 vp s.params.length (s.params.map (Value.int .i64)) w
 rt : Row T 6 1 vt s.text.length (zk s.text) w
 tp : T p = 1
 td : T d = 2
structure zc1 (G : Nat → Prop) (T : Nat → Nat) (o : Nat) (vo : Value) (w : World) (L : List (VAct × Value)) : Prop where
 blk : w.heap[o]? = some (.cells #[vo] 111 (0, 0))
 ro : Row T 7 6 vo L.length (zad L) w
 tg : T o = 3
 told : ∀ x ∈ L, Row T 0 1 x.2 x.1.params.length (x.1.params.map (Value.int .i64)) w ∧ ∀ k, x.2.ownBlock = some k → G k
theorem zbU.mod {u : Bool} {T : Nat → Nat} {p d : Nat} {tell vi vp vt : Value} {w w' : World} {s : PSt} {q : Nat → Prop} (h : zbU u T p d tell vi vp vt w s) (m : Mod T q w w')
  (h1 : ¬ q 1) (h2 : ¬ q 2) (h4 : ¬ q 4) (h5 : ¬ q 5) (h6 : ¬ q 6) : zbU u T p d tell vi vp vt w' s :=
 ⟨(m.block p (zj h.blk) (by rw [h.tp]; exact h1)).trans h.blk, (m.block d (zj h.dec) (by rw [h.td]; exact h2)).trans h.dec, h.dok, h.ri.mod m h4, fun hu => (h.rp hu).mod m h5, h.rt.mod m h6, h.tp, h.td⟩
theorem zbU.retag {u : Bool} {T T' : Nat → Nat} {p d : Nat} {tell vi vp vt : Value} {w : World} {s : PSt} (h : zbU u T p d tell vi vp vt w s) (e : ∀ k, k < w.heap.size → T' k = T k) : zbU u T' p d tell vi vp vt w s :=
 ⟨h.blk, h.dec, h.dok, h.ri.retag fun k hk ht => (e k hk).trans ht, fun hu => (h.rp hu).retag fun k hk ht => (e k hk).trans ht, h.rt.retag fun k hk ht => (e k hk).trans ht, (e _ (zj h.blk)).trans h.tp, (e _ (zj h.dec)).trans h.td⟩
theorem zbU.put {u u' : Bool} {T : Nat → Nat} {p d : Nat} {tell tell' vi vp vt vi' vp' vt' : Value} {w w' : World} {s s' : PSt} (h : zbU u T p d tell vi vp vt w s) (g : w.grownBy w' (some p))
  (hb : w'.heap[p]? = some (.cells (s'.cells d tell' vi' vp' vt') 161 (0, 0))) (hd : s'.dec = s.dec)
  (ri : Row T 4 1 vi' s'.inter.length (zk s'.inter) w) (rp : u' = true → Row T 5 1 vp' s'.params.length (s'.params.map (Value.int .i64)) w) (rt : Row T 6 1 vt' s'.text.length (zk s'.text) w) : zbU u' T p d tell' vi' vp' vt' w' s' := by
 have m : Mod T (fun x => x = 1) w w' := Mod.of_gb g (fun k hk => by injection hk with hk; subst hk; exact h.tp);exact ⟨hb, by rw [hd]; exact (m.block d (zj h.dec) (by rw [h.td]; decide)).trans h.dec, by rw [hd]; exact h.dok, ri.mod m (by decide), fun hu => (rp hu).mod m (by decide), rt.mod m (by decide), h.tp, h.td⟩
theorem zc1.mod {G : Nat → Prop} {T : Nat → Nat} {o : Nat} {vo : Value} {w w' : World} {L : List (VAct × Value)} {q : Nat → Prop} (h : zc1 G T o vo w L) (m : Mod T q w w') (h3 : ¬ q 3) (h7 : ¬ q 7) (h0 : ¬ q 0) : zc1 G T o vo w' L :=
 ⟨(m.block o (zj h.blk) (by rw [h.tg]; exact h3)).trans h.blk, h.ro.mod m h7, h.tg, fun x hx => ⟨(h.told x hx).1.mod m h0, (h.told x hx).2⟩⟩
theorem zc1.retag {G : Nat → Prop} {T T' : Nat → Nat} {o : Nat} {vo : Value} {w : World} {L : List (VAct × Value)} (h : zc1 G T o vo w L) (e : ∀ k, k < w.heap.size → T' k = T k) : zc1 G T' o vo w L :=
 ⟨h.blk, h.ro.retag fun k hk ht => (e k hk).trans ht, (e _ (zj h.blk)).trans h.tg, fun x hx => ⟨(h.told x hx).1.retag fun k hk ht => (e k hk).trans ht, (h.told x hx).2⟩⟩
def zam (G : Nat → Prop) (u : Bool) (T : Nat → Nat) (p o : Nat) (w : World) (s : PSt) (acts : List VAct) : Prop :=
 ∃ d vi vp vt vo L, L.map (·.1) = acts ∧ zaY G T w ∧ zbU u T p d (zaF o) vi vp vt w s ∧ zc1 G T o vo w L
def zhr (G : Nat → Prop) (u : Bool) (p o : Nat) (w : World) (s : PSt) (acts : List VAct) : Prop := ∃ T, zam G u T p o w s acts
theorem z9 {G : Nat → Prop} {u : Bool} {T : Nat → Nat} {p o : Nat} {w : World} {s : PSt} {acts : List VAct} (st : Int) (h : zam G u T p o w s acts) :
  Calls Tryz.prog 145 #[.pointer (some ⟨p, 0, none⟩), .int .i64 st] w fun e w' => e = .returned (.tuple #[]) ∧ ze G w w' ∧ zam G true T p o w' (s.begun st) acts := by
 obtain ⟨d, vi, vp, vt, vo, L, hL, hA, hC, hT⟩ := h;refine (zg9 p d s (zaF o) vi vp vt st w hC.blk).mono ?_;rintro e w' ⟨rfl, g, hb⟩;have m : Mod T (fun x => x = 1) w w' := Mod.of_gb g (fun k hk => by injection hk with hk; subst hk; exact hC.tp);exact ⟨rfl, m.within hA (by decide), d, ZP, ZP, ZP, vo, L, hL, hA.mono g.size, hC.put g hb rfl (zbi _ _ _ _) (fun _ => zbi _ _ _ _) (zbi _ _ _ _), hT.mod m (by decide) (by decide) (by decide)⟩
theorem zgO {G : Nat → Prop} {T : Nat → Nat} {p o : Nat} {vo : Value} {w : World} {L : List (VAct × Value)} {a : VAct} {v : Value} (hA : zaY G T w) (hT : zc1 G T o vo w L) (hv : Row T 0 1 v a.params.length (a.params.map (Value.int .i64)) w) (hg : ∀ k, v.ownBlock = some k → G k) (hn : L.length ≤ 1000000000) :
  Calls Tryz.prog 105 #[a.val v, .pointer (some ⟨o, 0, none⟩)] w fun e w' => e = .returned (.tuple #[]) ∧ Mod T (fun x => x = 3 ∨ x = 7) w w' ∧ ∃ T' vo', (∀ k, k < w.heap.size → T' k = T k) ∧ zaY G T' w' ∧ zc1 G T' o vo' w' (L ++ [(a, v)]) := by
 have _ := p;have hne : vo.ownBlock ≠ some o := fun e => (by have h1 := hT.ro.tag o e; have h2 := hT.tg; omega);refine (zky a v o vo L.length (zad L) w (zu hv.own) hT.blk hT.ro.own hne hn).mono ?_;rintro e w' ⟨rfl, vo', hb, ho, hnew, h1, h2, h3, h4, h5⟩;have m : Mod T (fun x => x = 3 ∨ x = 7) w w' := ⟨h1, h2, h3, h4, fun k hk ht => h5 k hk (fun e => ht (by subst e; exact .inl hT.tg)) (fun e => ht (.inr (hT.ro.tag k e)))⟩;have ad : ∀ k, k < w.heap.size → adopt T w.heap.size w'.heap.size 7 k = T k := fun k hk => zdw hk;have hTr := hT.retag ad;refine ⟨rfl, m, adopt T w.heap.size w'.heap.size 7, vo', ad, hA.adopt h4 7, hb, ⟨?_, fun k hk => ?_⟩, ?_, fun x hx => ?_⟩
 ·rw [List.length_append, zgh]; exact ho
 ·rcases hnew k hk with h | h
  ·rw [ad k (zl hT.ro.own k h).2]; exact hT.ro.tag k h
  ·exact zdx h (zl ho k hk).2
 ·rw [ad o (zj hT.blk)]; exact hT.tg
 ·have key : ∀ (x : VAct × Value), Row T 0 1 x.2 x.1.params.length (x.1.params.map (Value.int .i64)) w → Row (adopt T w.heap.size w'.heap.size 7) 0 1 x.2 x.1.params.length (x.1.params.map (Value.int .i64)) w' := fun x h => by
   have h' := h.mod m (by decide);exact ⟨h'.own, fun k hk => by rw [ad k (zl h.own k hk).2]; exact h.tag k hk⟩
  rw [List.mem_append, List.mem_singleton] at hx;rcases hx with hx | rfl
  ·exact ⟨key x (hT.told x hx).1, (hT.told x hx).2⟩
  ·exact ⟨key _ hv, hg⟩
theorem zbQ {G : Nat → Prop} {u : Bool} {T : Nat → Nat} {p o : Nat} {w : World} {s : PSt} {acts : List VAct} (a : VAct) (ha : a.params = []) (h : zam G u T p o w s acts) (hn : acts.length ≤ 1000000000) :
  Calls Tryz.prog 105 #[a.val ZP, .pointer (some ⟨o, 0, none⟩)] w fun e w' => e = .returned (.tuple #[]) ∧ ze G w w' ∧ Mod T (fun x => x = 3 ∨ x = 7) w w' ∧ ∃ T', (∀ k, k < w.heap.size → T' k = T k) ∧ zam G u T' p o w' s (acts ++ [a]) := by
 obtain ⟨d, vi, vp, vt, vo, L, hL, hA, hC, hT⟩ := h;have hv : Row T 0 1 ZP a.params.length (a.params.map (Value.int .i64)) w := (by rw [ha]; exact zbi _ _ _ _);refine (zgO (p := p) hA hT hv (fun k hk => by simp [ZP, Value.ownBlock] at hk) (by rw [← hL, List.length_map] at hn; exact hn)).mono ?_;rintro e w' ⟨rfl, m, T', vo', ht, hA', hT'⟩;exact ⟨rfl, m.within hA (by decide), m, T', ht, d, vi, vp, vt, vo', L ++ [(a, ZP)], by rw [List.map_append, hL]; rfl, hA', (hC.retag ht).mod (m.retag ht) (by decide) (by decide) (by decide) (by decide) (by decide), hT'⟩
end
section
open Go.RowKit
set_option maxRecDepth 100000
def PSt.texts (s : PSt) : Bool := s.state == 4 || s.state == 6 || s.state == 7
def emp : ByteArray := ⟨#[]⟩
def za7 (r : Int) : VAct := ⟨1, r, 0, [], emp, emp⟩
def zcb (b : UInt8) : VAct := ⟨2, 0, b, [], emp, emp⟩
def zaE (b : UInt8) (inter : List UInt8) : VAct := ⟨3, 0, b, [], ⟨inter.toArray⟩, emp⟩
def ZO (b : UInt8) (params : List Int) (inter : List UInt8) : VAct := ⟨4, 0, b, params, ⟨inter.toArray⟩, emp⟩
def zcT (text : List UInt8) : VAct := ⟨5, 0, 0, [], emp, ⟨text.toArray⟩⟩
def zbu (b : UInt8) (params : List Int) (inter text : List UInt8) : VAct := ⟨6, 0, b, params, ⟨inter.toArray⟩, ⟨text.toArray⟩⟩
def PSt.endActs (s : PSt) : List VAct := if s.state = 4 then [zcT s.text] else if s.state = 6 then [zbu s.final s.params s.inter s.text] else []
theorem zls (p d : Nat) (s : PSt) (tell vi vp vt : Value) (w : World) (hb : w.heap[p]? = some (.cells (s.cells d tell vi vp vt) 161 (0, 0))) :
  Calls Tryz.prog 144 #[.pointer (some ⟨p, 0, none⟩)] w fun e w' => e = .returned (.bool s.texts) ∧ w' = w := by
 have c0 : w.cell? ⟨p, 0, none⟩ = some (.int .i64 s.state) := za hb 0;clear hb;have HS := Lib.hid (show s.texts = (s.state == 4 || s.state == 6 || s.state == 7) from rfl);generalize s.state = st at *;cases h1 : (st == 4);rotate_left
 ·rw [h1] at HS;go_enter Tryz.func144, Tryz.ntmps144;go_wp2_with fail;go_ret;exact ⟨ZU (by rw [HS.out]; rfl), by trivial⟩
 cases h2 : (st == 6);rotate_left
 ·rw [h1, h2] at HS;go_enter Tryz.func144, Tryz.ntmps144;go_wp2_with fail;go_ret;exact ⟨ZU (by rw [HS.out]; rfl), by trivial⟩
 rw [h1, h2] at HS;go_enter Tryz.func144, Tryz.ntmps144;go_wp2_with fail;go_ret;exact ⟨ZU (by rw [HS.out]; rfl), by trivial⟩
theorem zen {k : IntKind} {w : World} {v : Value} {l : List Int} (h : zn w 0 1 v l.length (l.map (Value.int k))) : zff k w v l := zln (zkv h)
theorem zR {u : Bool} {T : Nat → Nat} {p d : Nat} {tell vi vp vt : Value} {w : World} {s : PSt} (h : zbU u T p d tell vi vp vt w s) (i : Nat) : w.cell? ⟨p, i, none⟩ = (s.cells d tell vi vp vt)[i]? := za h.blk i
theorem zhs {G : Nat → Prop} {u : Bool} {T : Nat → Nat} {p o : Nat} {w : World} {s : PSt} {acts : List VAct} (h : zam G u T p o w s acts) : w.cell? ⟨p, 2, none⟩ = some (.func (.func 105) #[] #[.pointer (some ⟨o, 0, none⟩)]) := by
 obtain ⟨d, vi, vp, vt, vo, L, hL, hA, hC, hT⟩ := h;exact zR hC 2
theorem zbx {G : Nat → Prop} {u : Bool} {T : Nat → Nat} {p o : Nat} {w : World} {s : PSt} {acts : List VAct} (v : Value) (l : List Int) (h : zam G u T p o w s acts) (hv : Row T 0 1 v l.length (l.map (Value.int .i32)) w) (hn : acts.length + l.length ≤ 1000000000) :
  Calls Tryz.prog 146 #[.pointer (some ⟨p, 0, none⟩), v] w fun e w' => e = .returned (.tuple #[]) ∧ ze G w w' ∧ zhr G u p o w' s (acts ++ l.map za7) := by
 have hrd := zen hv.own;have hlen := zb9 Tryz.underlying191 hrd;have H := Lib.hid h;have HV := Lib.hid hv;clear h hv hrd;go_enter Tryz.func146, Tryz.ntmps146;go_wp2_with fail
 go_loopw [8] (fun iv wr => ∃ k : Nat, k ≤ l.length ∧ iv = .int .i64 k ∧ ze G w wr ∧ ∃ T', Row T' 0 1 v l.length (l.map (Value.int .i32)) wr ∧ zam G u T' p o wr s (acts ++ (l.take k).map za7)) (fun iv _ => l.length - (intOf iv).toNat)
 case atStart => exact ⟨0, by omega, rfl, ze.refl _ _, T, HV.out, by simpa using H.out⟩
 case round =>
  obtain ⟨k, hk, rfl, hw, T', hv, hi⟩ := hrel;have HW := Lib.hid hw;have HV2 := Lib.hid hv;have HI := Lib.hid hi;clear hw hv hi;have c2 := zhs HI.out;by_cases hlt : k < l.length
  ·obtain ⟨ad, had, hcell⟩ := zmX Tryz.underlying191 (by kernel_rfl) (zen HV2.out.own) k hlt;have HSN := Lib.hid (Zx l 0 k hlt);have hl1 : (acts ++ (l.take k).map za7).length ≤ 1000000000 := (by rw [List.length_append, List.length_map]; have := List.length_take_le k l; omega);generalize l.getD k 0 = r at *;go_wp2_with fail;refine (zbQ (za7 r) rfl HI.out hl1).mono ?_;rintro e w2 ⟨rfl, hw2, m2, T2, ht2, hi2⟩;have HW2 := Lib.hid (HW.out.trans hw2);have HV3 := Lib.hid ((HV2.out.retag (t' := 0) (fun k hk ht => (ht2 k hk).trans ht)).mod (m2.retag ht2) (by decide));have HI2 := Lib.hid hi2;clear hw2 m2 ht2 hi2;go_wp2_with fail;go_roundw
   case rel =>
    refine ⟨k + 1, by omega, by go_num, HW2.out, T2, HV3.out, ?_⟩;have := HI2.out;rw [HSN.out, List.map_append, ← List.append_assoc];exact this
   case measure => simp [intOf]; omega
  ·have hk2 : k = l.length := (by omega);have HE := Lib.hid (show (l.take k) = l by rw [hk2, List.take_length]);go_wp2_with fail;go_end0;refine ⟨rfl, HW.out, T', ?_⟩;have := HI.out;rw [HE.out] at this;exact this
def free (T : Nat → Nat) : Nat → Nat := fun k => if T k = 5 then 0 else T k
theorem zb2 {T : Nat → Nat} {k t : Nat} (h : T k = t) (ht : t ≠ 5) : free T k = t := by unfold free; rw [if_neg (by omega)]; exact h
theorem zaY.free {G : Nat → Prop} {T : Nat → Nat} {w : World} (h : zaY G T w) : zaY G (free T) w :=
 ⟨fun k hk => h.tl k (fun e => hk (zb2 e (by decide))), h.gn⟩
theorem zbU.free {u : Bool} {T : Nat → Nat} {p d : Nat} {tell vi vp vt : Value} {w : World} {s : PSt} (h : zbU u T p d tell vi vp vt w s) : zbU false (free T) p d tell vi vp vt w s :=
 ⟨h.blk, h.dec, h.dok, h.ri.retag fun _ _ ht => zb2 ht (by decide), fun hu => by simp at hu, h.rt.retag fun _ _ ht => zb2 ht (by decide), zb2 h.tp (by decide), zb2 h.td (by decide)⟩
theorem zc1.free {G : Nat → Prop} {T : Nat → Nat} {o : Nat} {vo : Value} {w : World} {L : List (VAct × Value)} (h : zc1 G T o vo w L) : zc1 G (free T) o vo w L :=
 ⟨h.blk, h.ro.retag fun _ _ ht => zb2 ht (by decide), zb2 h.tg (by decide), fun x hx => ⟨(h.told x hx).1.retag fun _ _ ht => zb2 ht (by decide), (h.told x hx).2⟩⟩
theorem Row.free {T : Nat → Nat} {size : Nat} {v : Value} {n : Nat} {xs : List Value} {w : World} (h : Row T 5 size v n xs w) : Row (free T) 0 size v n xs w :=
 h.retag fun _ _ ht => by unfold _root_.Go.Proofs.YtlfdgkiliegaiaaGreatDoor.free; rw [if_pos ht]
theorem zfa {G : Nat → Prop} {T : Nat → Nat} {p o d : Nat} {vi vp vt vo : Value} {w : World} {s : PSt} {L : List (VAct × Value)} (a : VAct) (ha : a.params = s.params) (hA : zaY G T w) (hC : zbU true T p d (zaF o) vi vp vt w s) (hT : zc1 G T o vo w L) (hn : L.length ≤ 1000000000) :
  Calls Tryz.prog 105 #[a.val vp, .pointer (some ⟨o, 0, none⟩)] w fun e w' => e = .returned (.tuple #[]) ∧ ze G w w' ∧ ∃ T', zam G false T' p o w' s (L.map (·.1) ++ [a]) := by
 have hv := (hC.rp rfl).free;rw [← ha] at hv;refine (zgO (p := p) hA.free hT.free hv (fun k hk => (hA.tl k (by rw [(hC.rp rfl).tag k hk]; decide)).2) hn).mono ?_;rintro e w' ⟨rfl, m, T', vo', ht, hA', hT'⟩;exact ⟨rfl, m.within hA.free (by decide), T', d, vi, vp, vt, vo', L ++ [(a, vp)], by rw [List.map_append]; rfl, hA', (hC.free.retag ht).mod (m.retag ht) (by decide) (by decide) (by decide) (by decide) (by decide), hT'⟩
theorem zam.weak {G : Nat → Prop} {u : Bool} {T : Nat → Nat} {p o : Nat} {w : World} {s : PSt} {acts : List VAct} (h : zam G u T p o w s acts) : zam G false T p o w s acts := by
 obtain ⟨d, vi, vp, vt, vo, L, hL, hA, hC, hT⟩ := h;exact ⟨d, vi, vp, vt, vo, L, hL, hA, ⟨hC.blk, hC.dec, hC.dok, hC.ri, fun hu => by simp at hu, hC.rt, hC.tp, hC.td⟩, hT⟩
theorem zau (T : Nat → Nat) (w : World) : Mod T (fun _ => False) w w.drew := Mod.of_gb (row := none) (zbV (zr w none)) (by intro k hk; simp at hk)
theorem zam.drew {G : Nat → Prop} {u : Bool} {T : Nat → Nat} {p o : Nat} {w : World} {s : PSt} {acts : List VAct} (h : zam G u T p o w s acts) : zam G u T p o w.drew s acts := by
 obtain ⟨d, vi, vp, vt, vo, L, hL, hA, hC, hT⟩ := h;exact ⟨d, vi, vp, vt, vo, L, hL, hA.mono (Nat.le_refl _), hC.mod (zau T w) id id id id id, hT.mod (zau T w) id id id⟩
theorem ze.drew (G : Nat → Prop) (w : World) : ze G w w.drew := ⟨rfl, rfl, rfl, Nat.le_refl _, fun _ _ _ => rfl⟩
theorem ziq {G : Nat → Prop} {T : Nat → Nat} {p o : Nat} {w : World} {s : PSt} {acts : List VAct} (h : zam G true T p o w s acts) (hn : acts.length ≤ 1000000000) :
  Calls Tryz.prog 148 #[.pointer (some ⟨p, 0, none⟩)] w fun e w' => e = .returned (.tuple #[]) ∧ ze G w w' ∧ zhr G false p o w' s (acts ++ s.endActs) := by
 have H := Lib.hid h;obtain ⟨d, vi, vp, vt, vo, L, hL, hA, hC, hT⟩ := h;have c0 : w.cell? ⟨p, 0, none⟩ = some (.int .i64 s.state) := zR hC 0;have c2 : w.cell? ⟨p, 2, none⟩ = some (.func (.func 105) #[] #[.pointer (some ⟨o, 0, none⟩)]) := zR hC 2;have c3 : w.cell? ⟨p, 3, none⟩ = some vi := zR hC 3;have c4 : w.cell? ⟨p, 4, none⟩ = some vp := zR hC 4;have c6 : w.cell? ⟨p, 6, none⟩ = some vt := zR hC 6;have c7 : w.cell? ⟨p, 7, none⟩ = some (.int .u8 (s.final.toNat : Int)) := zR hC 7;have hcti : (convert 38 9 vi).run Tryz.prog w.drew = .ok (.string ⟨s.inter.toArray⟩) w.drew := zN (P := Tryz.prog) (w := w.drew) Tryz.underlying38 Tryz.underlying5 Tryz.underlying9 (zU hC.ri.own);have hctt : (convert 38 9 vt).run Tryz.prog w.drew = .ok (.string ⟨s.text.toArray⟩) w.drew := zN (P := Tryz.prog) (w := w.drew) Tryz.underlying38 Tryz.underlying5 Tryz.underlying9 (zU hC.rt.own);have hn' : L.length ≤ 1000000000 := (by rw [← hL, List.length_map] at hn; exact hn);have HA := Lib.hid hA;have HC := Lib.hid hC;have HT := Lib.hid hT;have HL := Lib.hid hL;obtain ⟨xp, mp, cp', rfl⟩ := zu (hC.rp rfl).own;obtain ⟨xi, mi, ci, rfl⟩ := zu hC.ri.own;obtain ⟨xt, mt, ct, rfl⟩ := zu hC.rt.own;clear hA hC hT hL hn;have HE := Lib.hid (show s.endActs = if s.state = 4 then [zcT s.text] else if s.state = 6 then [zbu s.final s.params s.inter s.text] else [] from rfl);by_cases h4 : s.state = 4
 ·rw [if_pos h4] at HE;have H4 := Lib.hid h4;rw [h4] at c0;clear h4;have ht := zbQ (zcT s.text) rfl H.out.drew (by rw [← HL.out, List.length_map]; exact hn');have HTl := Lib.hid ht;clear ht;go_enter Tryz.func148, Tryz.ntmps148;go_upto_region 2 with fail
  go_still_tail 10, (by kernel_rfl)
  change wpList _ _ _ _ _ w.drew;generalize hwd : w.drew = wd at *;go_wp2_with fail;refine HTl.out.mono ?_;rintro e w2 ⟨rfl, hw2, m2, T2, ht2, hi2⟩;have HW2 := Lib.hid ((hwd ▸ ze.drew G w).trans hw2);have HI2 := Lib.hid hi2.weak;clear hw2 m2 ht2 hi2;go_wp2_with fail;go_end0;refine ⟨rfl, HW2.out, T2, ?_⟩;rw [HE.out];exact HI2.out
 rw [if_neg h4] at HE;by_cases h6 : s.state = 6
 ·rw [if_pos h6] at HE;have H6 := Lib.hid h6;rw [h6] at c0;clear h4 h6;have HTl := Lib.hid (zfa (zbu s.final s.params s.inter s.text) rfl (HA.out.mono (w' := w.drew) (Nat.le_refl _)) (HC.out.mod (zau T w) id id id id id) (HT.out.mod (zau T w) id id id) hn');go_enter Tryz.func148, Tryz.ntmps148;go_upto_region 4 with fail
  go_still_tail 23, (by kernel_rfl)
  change wpList _ _ _ _ _ w.drew;generalize hwd : w.drew = wd at *;go_wp2_with fail;refine HTl.out.mono ?_;rintro e w2 ⟨rfl, hw2, T2, hi2⟩;have HW2 := Lib.hid ((hwd ▸ ze.drew G w).trans hw2);have HI2 := Lib.hid hi2;clear hw2 hi2;go_wp2_with fail;go_end0;refine ⟨rfl, HW2.out, T2, ?_⟩;rw [HE.out, ← HL.out];exact HI2.out
 ·rw [if_neg h6] at HE;have h4' : (s.state == 4) = false := beq_eq_false_iff_ne.2 h4;have h6' : (s.state == 6) = false := beq_eq_false_iff_ne.2 h6;go_enter Tryz.func148, Tryz.ntmps148;go_wp2_with fail;go_end0;refine ⟨rfl, ze.refl _ _, T, ?_⟩;rw [HE.out, List.append_nil];exact H.out.weak
end
section
open Go.RowKit
set_option maxRecDepth 100000
theorem zam.inG {G : Nat → Prop} {u : Bool} {T : Nat → Nat} {p o : Nat} {w : World} {s : PSt} {acts : List VAct} (h : zam G u T p o w s acts) : G p := by
 obtain ⟨d, vi, vp, vt, vo, L, hL, hA, hC, hT⟩ := h;exact (hA.tl p (by rw [hC.tp]; decide)).2
theorem zcU {G : Nat → Prop} {p : Nat} (hp : G p) (w : World) (i : Nat) (v : Value) : ze G w (w.setCell ⟨p, i, none⟩ v) :=
 ⟨rfl, rfl, rfl, by simp, fun k _ hg => heap_setCell_other w ⟨p, i, none⟩ k v (fun e => hg (by rw [e]; exact hp))⟩
theorem zam.set {G : Nat → Prop} {u : Bool} {T : Nat → Nat} {p o : Nat} {w : World} {s : PSt} {acts : List VAct} (h : zam G u T p o w s acts) (i : Nat) (v : Value) (s' : PSt)
  (hc : ∀ d t a b c, (s.cells d t a b c).setIfInBounds i v = s'.cells d t a b c) (h1 : s'.dec = s.dec) (h2 : s'.inter = s.inter) (h3 : s'.params = s.params) (h4 : s'.text = s.text) : zam G u T p o (w.setCell ⟨p, i, none⟩ v) s' acts := by
 obtain ⟨d, vi, vp, vt, vo, L, hL, hA, hC, hT⟩ := h;have g := zO (zr w (some p)) i v;have m : Mod T (fun x => x = 1) w (w.setCell ⟨p, i, none⟩ v) := Mod.of_gb g (fun k hk => by injection hk with hk; subst hk; exact hC.tp);have hb := zw hC.blk i v;rw [hc] at hb;exact ⟨d, vi, vp, vt, vo, L, hL, hA.mono g.size, hC.put g hb h1 (by rw [h2]; exact hC.ri) (fun hu => by rw [h3]; exact hC.rp hu) (by rw [h4]; exact hC.rt), hT.mod m (by decide) (by decide) (by decide)⟩
theorem zbp {G : Nat → Prop} {T : Nat → Nat} {p o d : Nat} {tell vi vp vt vo : Value} {w w1 w' : World} {s : PSt} {L : List (VAct × Value)} {t : Nat} (ht : t = 4 ∨ t = 5 ∨ t = 6) (htell : tell = zaF o)
  (hA : zaY G T w) (hC : zbU true T p d tell vi vp vt w s) (hT : zc1 G T o vo w L) {v v' : Value} {n m : Nat} {xs ys : List Value} (hv : Row T t 1 v n xs w) (g1 : w.grownBy w1 none) (g : w1.grownBy w' v.ownBlock) (ho : zn w' 0 1 v' m ys)
  (hn : ∀ k, v'.ownBlock = some k → v.ownBlock = some k ∨ w1.heap.size ≤ k) :
  ∃ T', ze G w w' ∧ Row T' t 1 v' m ys w' ∧ (∀ t' size v n xs, t' ≠ t → Row T t' size v n xs w → Row T' t' size v n xs w') ∧ w'.heap[p]? = w.heap[p]? ∧
   ∀ (w'' : World) (s' : PSt) (vi' vp' vt' : Value), w'.grownBy w'' (some p) → w''.heap[p]? = some (.cells (s'.cells d tell vi' vp' vt') 161 (0, 0)) → s'.dec = s.dec → Row T' 4 1 vi' s'.inter.length (zk s'.inter) w' → Row T' 5 1 vp' s'.params.length (s'.params.map (Value.int .i64)) w' → Row T' 6 1 vt' s'.text.length (zk s'.text) w' →
    ze G w w'' ∧ zam G true T' p o w'' s' (L.map (·.1)) := by
 have m : Mod T (fun x => x = t) w w' := (Mod.of_gb g1 (by intro k hk; simp at hk)).trans ⟨g.os, g.tape, g.output, g.size, fun k hk hq => by
  by_cases hlt : k < w.heap.size
  ·exact g.block k hk (fun e => hq (hv.tag k e.symm))
  ·exact g.block k hk (fun e => hlt (zl hv.own k e.symm).2)⟩
 have ad : ∀ k, k < w.heap.size → adopt T w.heap.size w'.heap.size t k = T k := fun k hk => zdw hk;have hrow : ∀ t' size v n xs, t' ≠ t → Row T t' size v n xs w → Row (adopt T w.heap.size w'.heap.size t) t' size v n xs w' := fun t' size v n xs hne h => by
  have h' := h.mod m hne;exact ⟨h'.own, fun k hk => by rw [ad k (zl h.own k hk).2]; exact h.tag k hk⟩
 have hpb : w'.heap[p]? = w.heap[p]? := m.block p (zj hC.blk) (by rw [hC.tp]; omega);have hTr := hT.retag ad;have hTm := hTr.mod (m.retag ad) (by omega) (by omega) (by omega);refine ⟨adopt T w.heap.size w'.heap.size t, m.within hA (by omega), ⟨ho, fun k hk => ?_⟩, hrow, hpb, ?_⟩
 ·rcases hn k hk with h | h
  ·rw [ad k (zl hv.own k h).2]; exact hv.tag k h
  ·exact zdx (Nat.le_trans g1.size h) (zl ho k hk).2
 ·intro w'' s' vi' vp' vt' g2 hb hd r4 r5 r6;have tp' : adopt T w.heap.size w'.heap.size t p = 1 := (by rw [ad p (zj hC.blk)]; exact hC.tp);have td' : adopt T w.heap.size w'.heap.size t d = 2 := (by rw [ad d (zj hC.dec)]; exact hC.td);have m2 : Mod (adopt T w.heap.size w'.heap.size t) (fun y => y = 1) w' w'' := Mod.of_gb g2 (fun k hk => by injection hk with hk; subst hk; exact tp');have hdec : zbX w' d s.dec := (m.block d (zj hC.dec) (by rw [hC.td]; omega)).trans hC.dec;subst htell;have hA' := hA.adopt m.size t;exact ⟨(m.within hA (by omega)).trans (m2.within hA' (by decide)), d, vi', vp', vt', vo, L, rfl, (hA.adopt m.size t).mono g2.size,
   ⟨hb, by rw [hd]; exact (m2.block d (zj hdec) (by rw [td']; decide)).trans hdec, by rw [hd]; exact hC.dok, r4.mod m2 (by decide), fun _ => r5.mod m2 (by decide), r6.mod m2 (by decide), tp', td'⟩, hTm.mod m2 (by decide) (by decide) (by decide)⟩
def PSt.passed (s : PSt) : PSt := ({ s with frm := s.state }).begun 3
theorem zbR {G : Nat → Prop} {u : Bool} {T : Nat → Nat} {p o : Nat} {w : World} {s : PSt} {acts : List VAct} (h : zam G u T p o w s acts) :
  Calls Tryz.prog 203 #[.pointer (some ⟨p, 0, none⟩)] w fun e w' => e = .returned (.tuple #[]) ∧ ze G w w' ∧ zam G true T p o w' s.passed acts := by
 have H2 := Lib.hid (h.set 9 (.int .i64 s.state) { s with frm := s.state } (fun _ _ _ _ _ => rfl) rfl rfl rfl rfl);have HG := Lib.hid (zcU h.inG w 9 (.int .i64 s.state));obtain ⟨d, vi, vp, vt, vo, L, hL, hA, hC, hT⟩ := h;have c0 : w.cell? ⟨p, 0, none⟩ = some (.int .i64 s.state) := zR hC 0;have c9 : w.cell? ⟨p, 9, none⟩ = some (.int .i64 s.frm) := zR hC 9;have fz := zy hC.blk;clear hL hA hC hT;go_enter Tryz.func203, Tryz.ntmps203;go_wp2_with fail;refine (z9 3 H2.out).mono ?_;rintro e w2 ⟨rfl, hw2, hi2⟩;have HW2 := Lib.hid (HG.out.trans hw2);have HI2 := Lib.hid hi2;clear hw2 hi2;go_wp2_with fail;go_end0;exact ⟨rfl, HW2.out, HI2.out⟩
end
section
open Go.RowKit
set_option maxRecDepth 100000
def PSt.started (s : PSt) : PSt := if s.any then s else { s with any := true, params := [-1] }
def zax (x d : Int) : Int := min (10 * max x 0 + d) 9999
def zai (l : List Int) (d : Int) : List Int := l.set (l.length - 1) (zax (l.getD (l.length - 1) 0) d)
def PSt.digit (s : PSt) (d : Int) : PSt :=
 if 0 ≤ d then { s.started with params := zai s.started.params d }
 else if s.started.params.length ≤ 32 then { s.started with params := s.started.params ++ [-1] } else s.started
theorem zcu {P : Program} {t e : TypeId} {w : World} {base size : Nat} {v : Value} {n : Nat} {xs : List Value} (ht : P.underlying t = some (.slice e)) (h : zn w base size v n xs) (ty : TypeId) (wx : World) : (Builtin.len_ #[t] ty #[v]).run P wx = .ok (.int .i64 n) wx := by
 rcases h.2 with ⟨rfl, rfl⟩ | ⟨b, off, c, rfl, _⟩ <;> simp [Builtin.len_, run_underlying ht, goInt]
theorem zag : zdC Tryz.prog 63 3 1 8 (.int .i64 0) := ⟨Tryz.underlying63, by kernel_rfl, rfl, by decide⟩
theorem zcV {P : Program} {t e : TypeId} {w : World} {v : Value} {n : Nat} {xs : List Value} (ht : P.underlying t = some (.slice e)) (hs : (P.info? e).map (·.size) = some 1) (h : zn w 0 1 v n xs) (j : Nat) (hj : j < n) :
  ∃ b off c, v = .slice (some ⟨b, off, none⟩) n c ∧ (∀ wx, (Instr.indexAt t v (.int .i64 j)).run P wx = .ok (.pointer (some ⟨b, off + j, none⟩)) wx) ∧ (∃ x, xs[j]? = some x ∧ w.cell? ⟨b, off + j, none⟩ = some x) ∧ w.frozen? ⟨b, off + j, none⟩ = false ∧
   ∀ y, zn (w.setCell ⟨b, off + j, none⟩ y) 0 1 v n (xs.set j y) := by
 obtain ⟨h1, h2⟩ := id h;rcases h2 with ⟨_, h0⟩ | ⟨b, off, c, rfl, hb, hbs, hnc, hcm, hcells, hxs⟩
 ·omega
 ·obtain ⟨i, hi, hi2⟩ := Option.map_eq_some_iff.1 hs;have hj' : (0 : Int) ≤ (j : Int) ∧ (j : Int) < (n : Int) := (by omega);have hjx : j < xs.length := (by omega);refine ⟨b, off, c, rfl, fun wx => ?_, ⟨xs[j], by rw [List.getElem?_eq_getElem hjx], hxs j _ (by rw [List.getElem?_eq_getElem hjx])⟩, (hcells j (by omega)).2, fun y => ?_⟩
  ·simp [Instr.indexAt, asIntOf, run_underlying ht, hj', sizeOf, typeInfo, hi, hi2, zaO];omega
  ·have hcell : ∀ k, k ≠ j → (w.setCell ⟨b, off + j, none⟩ y).cell? ⟨b, off + k, none⟩ = w.cell? ⟨b, off + k, none⟩ := fun k hk => World.cell?_setCell_other w _ _ y (by intro e; injection e with _ e; omega);have hsame : (w.setCell ⟨b, off + j, none⟩ y).cell? ⟨b, off + j, none⟩ = some y := World.cell?_setCell_same' w _ y (hcells j (by omega)).1;refine ⟨by rw [List.length_set]; exact h1, .inr ⟨b, off, c, rfl, hb, by simpa using hbs, hnc, hcm, fun k hk => ⟨?_, ?_⟩, fun k u hu => ?_⟩⟩
   ·by_cases e : k = j
    ·subst e; rw [hsame]; rfl
    ·rw [hcell k e]; exact (hcells k hk).1
   ·rw [World.frozen?_setCell]; exact (hcells k hk).2
   ·by_cases e : k = j
    ·subst e;rw [hsame];rw [List.getElem?_set_self (by omega)] at hu;exact hu
    ·rw [hcell k e];rw [List.getElem?_set_ne (fun e' => e e'.symm)] at hu;exact hxs k u hu
theorem zgl (l : List Int) (j : Nat) (x : Int) : (l.map (Value.int .i64)).set j (.int .i64 x) = (l.set j x).map (Value.int .i64) := by rw [List.map_set]
theorem zgP {G : Nat → Prop} {T : Nat → Nat} {p o : Nat} {w : World} {s : PSt} {acts : List VAct} (dg : Int) (h : zam G true T p o w s acts) (hd0 : -1 ≤ dg) (hd1 : dg ≤ 9) (hp : s.any = true → s.params ≠ []) (hl : s.params.length ≤ 40) (hr : ∀ x ∈ s.params, -1 ≤ x ∧ x ≤ 9999) :
  Calls Tryz.prog 204 #[.pointer (some ⟨p, 0, none⟩), .int .i64 dg] w fun e w' => e = .returned (.tuple #[]) ∧ ze G w w' ∧ zhr G true p o w' (s.digit dg) acts := by
 have HR := Lib.hid (show (s.started.params ≠ [] ∧ s.started.params.length ≤ 40 ∧ (∀ x ∈ s.started.params, -1 ≤ x ∧ x ≤ 9999)) ∧ s.started.any = true by
  unfold PSt.started;cases ha : s.any
  ·exact ⟨⟨by simp, by simp, by simp⟩, rfl⟩
  ·exact ⟨⟨hp ha, hl, hr⟩, ha⟩)
 clear hp hl hr;have H := Lib.hid h;have HS := Lib.hid (show s.started = if s.any then s else { s with any := true, params := [-1] } from rfl);obtain ⟨d, vi, vp, vt, vo, L, hL, hA, hC, hT⟩ := h;have c5 : w.cell? ⟨p, 5, none⟩ = some (.bool s.any) := zR hC 5;have c4 : w.cell? ⟨p, 4, none⟩ = some vp := zR hC 4;have fz := zy hC.blk;have hpl := zj hC.blk;have hb1 := zD hC.blk (.cells #[.int .i64 (-1)] 3);have a5 : (w.alloc (.cells #[.int .i64 (-1)] 3)).cell? ⟨p, 5, none⟩ = some (.bool s.any) := za hb1 5;have a4 : (w.alloc (.cells #[.int .i64 (-1)] 3)).cell? ⟨p, 4, none⟩ = some vp := za hb1 4;have afz : ∀ i, (w.alloc (.cells #[.int .i64 (-1)] 3)).frozen? ⟨p, i, none⟩ = false := zy hb1;have HC := Lib.hid hC;have HA := Lib.hid hA;have HT := Lib.hid hT;have HL := Lib.hid hL;clear hC hA hT hL hb1;go_enter Tryz.func204, Tryz.ntmps204;go_upto_if 9 with fail
 go_cut [10] (fun _ wx => ze G w wx ∧ zhr G true p o wx s.started acts)
 case first =>
  cases hany : s.any
  ·rw [hany] at HS c5 a5;go_wp2_with fail;go_meet;have hg := zO (zO (zr (w.alloc (.cells #[.int .i64 (-1)] 3)) (some p)) 5 (.bool true)) 4 (.slice (some ⟨w.heap.size, 0, none⟩) 1 1);have hb := zw (zw (zD HC.out.blk (.cells #[.int .i64 (-1)] 3)) 5 (.bool true)) 4 (.slice (some ⟨w.heap.size, 0, none⟩) 1 1);have ho : zn (w.alloc (.cells #[.int .i64 (-1)] 3)) 0 1 (.slice (some ⟨w.heap.size, 0, none⟩) 1 1) 1 [.int .i64 (-1)] := zac (ZV (base := 0) #[.int .i64 (-1)] [.int .i64 (-1)] rfl (by omega) (by decide) rfl rfl);obtain ⟨T', hw', hr', hrow, hpb, hfin⟩ := zbp (t := 5) (v := ZP) (n := 0) (xs := []) (w1 := w) (.inr (.inl rfl)) rfl HA.out HC.out HT.out (zbi _ _ _ _) (zr _ _) (World.grownBy_alloc w (.cells #[.int .i64 (-1)] 3) none) ho (fun k hk => by simp [Value.ownBlock] at hk; exact .inr (by omega));obtain ⟨hw'', hi''⟩ := hfin _ { s with any := true, params := [-1] } vi (.slice (some ⟨w.heap.size, 0, none⟩) 1 1) vt hg hb rfl (hrow 4 1 _ _ _ (by decide) HC.out.ri) hr' (hrow 6 1 _ _ _ (by decide) HC.out.rt);have hcomm : ((w.alloc (.cells #[.int .i64 (-1)] 3)).setCell ⟨p, 5, none⟩ (.bool true)).setCell ⟨p, 4, none⟩ (.slice (some ⟨w.heap.size, 0, none⟩) 1 1) = ((w.setCell ⟨p, 5, none⟩ (.bool true)).setCell ⟨p, 4, none⟩ (.slice (some ⟨w.heap.size, 0, none⟩) 1 1)).alloc (.cells #[.int .i64 (-1)] 3) := by
    rw [World.setCell_alloc_past _ p 5 _ hpl, World.setCell_alloc_past _ p 4 _ (by simpa using hpl)]
   rw [HS.out, ← HL.out, ← hcomm, if_neg (by decide)];exact ⟨hw'', T', hi''⟩
  ·rw [hany] at HS c5 a5;go_wp2_with fail;go_meet;rw [HS.out];exact ⟨ze.refl _ _, T, H.out⟩
 case rest =>
  obtain ⟨hw, T2, hi⟩ := hcut;have HW := Lib.hid hw;have HI := Lib.hid hi;clear hw c5 c4 fz a5 a4 afz hpl;have HD := Lib.hid (show s.digit dg = if 0 ≤ dg then { s.started with params := zai s.started.params dg } else if s.started.params.length ≤ 32 then { s.started with params := s.started.params ++ [-1] } else s.started from rfl);generalize hsd : s.digit dg = sd at *;replace hsd := Lib.hid hsd;generalize s.started = s1 at *;clear HS HC HA HT HL H;obtain ⟨d, vi, vp, vt, vo, L, hL, hA, hC, hT⟩ := hi;have c4 : wc.cell? ⟨p, 4, none⟩ = some vp := zR hC 4;have fz := zy hC.blk;have hrp := hC.rp rfl;have hlen := zb9 Tryz.underlying63 (zen hrp.own);have hne := List.length_pos_iff.2 HR.out.1.1;have hl40 := HR.out.1.2.1;have HC := Lib.hid hC;have HA := Lib.hid hA;have HT := Lib.hid hT;have HL := Lib.hid hL;have HRP := Lib.hid hrp;clear hC hA hT hL hrp;obtain ⟨xp, mp, cp', rfl⟩ := zu HRP.out.own;by_cases hdg : 0 ≤ dg
  ·rw [if_pos hdg] at HD;have hdg' : decide (0 ≤ dg) = true := decide_eq_true hdg;obtain ⟨b, off, c, hvp, had, ⟨x, hx1, hx2⟩, hfz, hset⟩ := zcV Tryz.underlying63 (by kernel_rfl) HRP.out.own (s1.params.length - 1) (by omega);have hxe : x = .int .i64 (s1.params.getD (s1.params.length - 1) 0) := by
    rw [List.getElem?_map, zeb _ _ (by omega)] at hx1;exact (Option.some.inj hx1).symm
   subst hxe;have hji : (((s1.params.length - 1 : Nat)) : Int) = (s1.params.length : Int) - 1 := (by omega);rw [hji] at had;have hxr := HR.out.1.2.2 (s1.params.getD (s1.params.length - 1) 0) (by rw [List.getD_eq_getElem?_getD, List.getElem?_eq_getElem (by omega)]; exact List.getElem_mem _);have HSL := Lib.hid (show zai s1.params dg = s1.params.set (s1.params.length - 1) (zax (s1.params.getD (s1.params.length - 1) 0) dg) from rfl);have HCL := Lib.hid (show zax (s1.params.getD (s1.params.length - 1) 0) dg = min (10 * max (s1.params.getD (s1.params.length - 1) 0) 0 + dg) 9999 from rfl);generalize s1.params.getD (s1.params.length - 1) 0 = x at *;have HSET := Lib.hid (hset (.int .i64 (zax x dg)));rw [zgl] at HSET;have HVP := Lib.hid hvp;have HJI := Lib.hid hji;clear hset hx1 hvp hji;go_upto_region 4 with fail
   go_still_tail 18, (by kernel_rfl)
   change wpList _ _ _ _ _ wc.drew;have hfz' : wc.drew.frozen? ⟨b, off + (s1.params.length - 1), none⟩ = false := hfz;have hx2' : wc.drew.cell? ⟨b, off + (s1.params.length - 1), none⟩ = some (.int .i64 x) := hx2;have HSET2 := Lib.hid (zx (w := wc.setCell ⟨b, off + (s1.params.length - 1), none⟩ (.int .i64 (zax x dg))) (w' := wc.drew.setCell ⟨b, off + (s1.params.length - 1), none⟩ (.int .i64 (zax x dg))) (row := none) HSET.out ⟨rfl, rfl, rfl, Nat.le_refl _, fun _ _ _ => rfl⟩ (by intro k _ e; simp at e));have HB := Lib.hid (show (Value.slice xp mp cp').ownBlock = some b by rw [HVP.out]; rfl);clear hfz hx2;generalize hwd : wc.drew = wd at *;go_wp2_with fail;go_end0;have hCd : zbU true T2 p d (zaF o) vi (.slice xp mp cp') vt wd s1 := (by rw [← hwd]; exact HC.out.mod (zau T2 wc) id id id id id);have hTd : zc1 G T2 o vo wd L := (by rw [← hwd]; exact HT.out.mod (zau T2 wc) id id id);have hAd : zaY G T2 wd := (by rw [← hwd]; exact HA.out.mono (Nat.le_refl _));have hRd := hCd.rp rfl;have ho := HSET2.out;have hln : s1.params.length = (s1.params.set (s1.params.length - 1) (zax x dg)).length := (by rw [List.length_set]);obtain ⟨T', hw', hr', hrow, hpb, hfin⟩ := zbp (t := 5) (.inr (.inl rfl)) rfl hAd hCd hTd hRd (zr wd none) (by rw [HB.out]; exact zO (zr wd (some b)) (off + (s1.params.length - 1)) (.int .i64 (zax x dg))) ho (fun k hk => .inl hk);have hr'' : Row T' 5 1 (.slice xp mp cp') (s1.params.set (s1.params.length - 1) (zax x dg)).length ((s1.params.set (s1.params.length - 1) (zax x dg)).map (Value.int .i64)) (wd.setCell ⟨b, off + (s1.params.length - 1), none⟩ (.int .i64 (zax x dg))) := (by rw [← hln]; exact hr');obtain ⟨hw'', hi''⟩ := hfin _ { s1 with params := zai s1.params dg } vi (.slice xp mp cp') vt (zr _ _) (hpb.trans hCd.blk) rfl (hrow 4 1 _ _ _ (by decide) hCd.ri) (by rw [HSL.out]; exact hr'') (hrow 6 1 _ _ _ (by decide) hCd.rt);rw [hsd.out, HD.out, ← HL.out];exact ⟨rfl, HW.out.trans ((hwd ▸ ze.drew G wc).trans hw''), T', hi''⟩
  ·rw [if_neg hdg] at HD;have hdg' : decide (0 ≤ dg) = false := decide_eq_false hdg;by_cases h32 : s1.params.length ≤ 32
   ·rw [if_pos h32] at HD;have h32' : decide ((s1.params.length : Int) - 1 < 32) = true := decide_eq_true (by omega);have hb1 := zD HC.out.blk (.cells #[.int .i64 (-1)] 3);have HB1 := Lib.hid hb1;clear hb1;go_wp2_with (at_builtin; refine zaz ?_);unfold zay;refine zG zag rfl rfl 0 (zB HRP.out.own _) rfl (zV _ _ _) rfl (zah _ _) (by unfold maxLen; omega) (by omega) (by omega) ?_;intro v6 w6 o6 g6 n6;obtain ⟨x6, m6, c6, rfl⟩ := zu o6;have hb6 := zo HB1.out g6 (fun e => by have h1 := HRP.out.tag p e.symm; have h2 := HC.out.tp; omega);have cc6 : w6.cell? ⟨p, 4, none⟩ = some (.slice xp mp cp') := za hb6 4;have fz6 := zy hb6;have HB6 := Lib.hid hb6;have ho6 : zn w6 0 1 (.slice x6 m6 c6) (s1.params ++ [-1]).length ((s1.params ++ [-1]).map (Value.int .i64)) := by
     rw [List.length_append, List.map_append]; exact o6
    obtain ⟨T', hw', hr', hrow, hpb, hfin⟩ := zbp (t := 5) (.inr (.inl rfl)) rfl HA.out HC.out HT.out HRP.out (World.grownBy_alloc wc _ none) g6 ho6 n6;obtain ⟨hw'', hi''⟩ := hfin (w6.setCell ⟨p, 4, none⟩ (.slice x6 m6 c6)) { s1 with params := s1.params ++ [-1] } vi (.slice x6 m6 c6) vt (zO (zr _ _) _ _) (zw HB6.out 4 _) rfl (hrow 4 1 _ _ _ (by decide) HC.out.ri) hr' (hrow 6 1 _ _ _ (by decide) HC.out.rt);have HW2 := Lib.hid (HW.out.trans hw'');have HI2 := Lib.hid hi'';clear o6 g6 n6 ho6 hw' hr' hrow hpb hfin hw'' hi'' hb6;go_wp2_with fail;go_end0;rw [hsd.out, HD.out, ← HL.out];exact ⟨rfl, HW2.out, T', HI2.out⟩
   ·rw [if_neg h32] at HD;have h32' : decide ((s1.params.length : Int) - 1 < 32) = false := decide_eq_false (by omega);go_wp2_with fail;go_end0;rw [hsd.out, HD.out];exact ⟨rfl, HW.out, T2, HI.out⟩
end
end Go.Proofs.YtlfdgkiliegaiaaGreatDoor
