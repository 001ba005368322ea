/- Package grid, texts laid together: M1 Q1 M2 Q2 Q3 A1 G1 G2. -/
import Derived.Test.YtjclgoiclbkgjaaDoorK1
import Derived.Test.YtjclgoiclbkgjaaDoorRows
import Derived.StillTailTactics
/- What of memory is one's own, and how it changes. -/
namespace Go.Proofs.YtjclgoiclbkgjaaDoor
open Go.RowKit

/-- Only blocks of G have changed. -/
structure Within (G : Nat → Prop) (w w' : World) : Prop where
  os : w'.os = w.os
  tape : w'.tape = w.tape
  output : w'.output = w.output
  size : w.heap.size ≤ w'.heap.size
  block : ∀ k, k < w.heap.size → ¬ G k → w'.heap[k]? = w.heap[k]?
theorem Within.refl (G : Nat → Prop) (w : World) : Within G w w := ⟨rfl, rfl, rfl, Nat.le_refl _, fun _ _ _ => rfl⟩
theorem Within.trans {G : Nat → Prop} {a b c : World} (h : Within G a b) (g : Within G b c) : Within G a c :=
  ⟨g.os.trans h.os, g.tape.trans h.tape, g.output.trans h.output, Nat.le_trans h.size g.size, fun k hk hg => (g.block k (Nat.lt_of_lt_of_le hk h.size) hg).trans (h.block k hk hg)⟩
/-- Only blocks of tag t have changed (tags 3 and 7: what is told). -/
structure Mod (T : Nat → Nat) (t : Nat → Prop) (w w' : World) : Prop where
  os : w'.os = w.os
  tape : w'.tape = w.tape
  output : w'.output = w.output
  size : w.heap.size ≤ w'.heap.size
  block : ∀ k, k < w.heap.size → ¬ t (T k) → w'.heap[k]? = w.heap[k]?
theorem Mod.of_gb {T : Nat → Nat} {t : Nat → Prop} {w w' : World} {row : Option Nat} (g : w.grownBy w' row) (h : ∀ k, row = some k → t (T k)) : Mod T t w w' :=
  ⟨g.os, g.tape, g.output, g.size, fun k hk ht => g.block k hk (fun e => ht (h k e.symm))⟩
theorem Mod.trans {T : Nat → Nat} {t : Nat → Prop} {a b c : World} (h : Mod T t a b) (g : Mod T t b c) : Mod T t a c :=
  ⟨g.os.trans h.os, g.tape.trans h.tape, g.output.trans h.output, Nat.le_trans h.size g.size, fun k hk ht => (g.block k (Nat.lt_of_lt_of_le hk h.size) ht).trans (h.block k hk ht)⟩

theorem Mod.retag {T T' : Nat → Nat} {t : Nat → Prop} {w w' : World} (h : Mod T t w w') (e : ∀ k, k < w.heap.size → T' k = T k) : Mod T' t w w' :=
  ⟨h.os, h.tape, h.output, h.size, fun k hk ht => h.block k hk (by rw [← e k hk]; exact ht)⟩

structure Arena (G : Nat → Prop) (T : Nat → Nat) (w : World) : Prop where
  tl : ∀ k, T k ≠ 0 → k < w.heap.size ∧ G k
  gn : ∀ k, w.heap.size ≤ k → G k
theorem Arena.mono {G : Nat → Prop} {T : Nat → Nat} {w w' : World} (h : Arena G T w) (hs : w.heap.size ≤ w'.heap.size) : Arena G T w' :=
  ⟨fun k hk => ⟨Nat.lt_of_lt_of_le (h.tl k hk).1 hs, (h.tl k hk).2⟩, fun k hk => h.gn k (Nat.le_trans hs hk)⟩
theorem Mod.within {G : Nat → Prop} {T : Nat → Nat} {t : Nat → Prop} {w w' : World} (h : Mod T t w w') (hA : Arena G T w) (ht : ¬ t 0) : Within G w w' :=
  ⟨h.os, h.tape, h.output, h.size, fun k hk hg => h.block k hk (fun e => by
    by_cases h0 : T k = 0
    · rw [h0] at e; exact ht e
    · exact hg (hA.tl k h0).2)⟩
/-- New blocks get the tag t. -/
def adopt (T : Nat → Nat) (a b t : Nat) : Nat → Nat := fun k => if a ≤ k ∧ k < b then t else T k
theorem adopt_old {T : Nat → Nat} {a b t k : Nat} (h : k < a) : adopt T a b t k = T k := by unfold adopt; rw [if_neg (by omega)]
theorem adopt_new {T : Nat → Nat} {a b t k : Nat} (h : a ≤ k) (h2 : k < b) : adopt T a b t k = t := by unfold adopt; rw [if_pos ⟨h, h2⟩]
theorem Arena.adopt {G : Nat → Prop} {T : Nat → Nat} {w w' : World} (h : Arena G T w) (hs : w.heap.size ≤ w'.heap.size) (t : Nat) : Arena G (adopt T w.heap.size w'.heap.size t) w' := by
  refine ⟨fun k hk => ?_, fun k hk => h.gn k (Nat.le_trans hs hk)⟩
  by_cases hn : w.heap.size ≤ k ∧ k < w'.heap.size
  · exact ⟨hn.2, h.gn k hn.1⟩
  · unfold _root_.Go.Proofs.YtjclgoiclbkgjaaDoor.adopt at hk
    rw [if_neg hn] at hk
    exact (h.mono hs).tl k hk

/-- A buffer with its tag. -/
structure Row (T : Nat → Nat) (t size : Nat) (v : Value) (n : Nat) (xs : List Value) (w : World) : Prop where
  own : OwnC w 0 size v n xs
  tag : ∀ k, v.ownBlock = some k → T k = t
theorem Row.mod {T : Nat → Nat} {t size : Nat} {v : Value} {n : Nat} {xs : List Value} {w w' : World} {q : Nat → Prop} (h : Row T t size v n xs w) (m : Mod T q w w') (hq : ¬ q t) : Row T t size v n xs w' :=
  ⟨ownC_blocks h.own m.size fun k hk => m.block k (ownC_lt h.own k hk).2 (by rw [h.tag k hk]; exact hq), h.tag⟩
theorem Row.retag {T T' : Nat → Nat} {t t' size : Nat} {v : Value} {n : Nat} {xs : List Value} {w : World} (h : Row T t size v n xs w) (e : ∀ k, k < w.heap.size → T k = t → T' k = t') : Row T' t' size v n xs w :=
  ⟨h.own, fun k hk => e k (ownC_lt h.own k hk).2 (h.tag k hk)⟩
theorem row_nil (T : Nat → Nat) (t size : Nat) (w : World) : Row T t size (.slice none 0 0) 0 [] w := ⟨ownC_nil _ _ _, fun k hk => by simp [Value.ownBlock] at hk⟩
/-- What one may turn: one's own blocks, and new ones. -/
def own (T : Nat → Nat) (w : World) : Nat → Prop := fun k => T k ≠ 0 ∨ w.heap.size ≤ k
theorem within_below {G : Nat → Prop} {B : Nat} {w w' : World} (h : Within G w w') (hB : B ≤ w.heap.size) (hG : ∀ k, k < B → ¬ G k) : Below B w w' :=
  ⟨h.os, h.tape, h.output, h.size, fun k hk => h.block k (by omega) (hG k hk)⟩
theorem own_below {T : Nat → Nat} {B : Nat} {w w' : World} (h : Within (own T w) w w') (hB : B ≤ w.heap.size) (hT : ∀ k, T k ≠ 0 → B ≤ k) : Below B w w' :=
  within_below h hB fun k hk hg => by
    rcases hg with hg | hg
    · have := hT k hg; omega
    · omega
theorem own_from {T T' : Nat → Nat} {B : Nat} {w : World} (ht : ∀ k, T' k ≠ 0 → own T w k) (hB : B ≤ w.heap.size) (hT : ∀ k, T k ≠ 0 → B ≤ k) : ∀ k, T' k ≠ 0 → B ≤ k := fun k hk => by
  rcases ht k hk with h | h
  · exact hT k h
  · omega
theorem Mod.of_below {T : Nat → Nat} {w w' : World} (h : Below w.heap.size w w') : Mod T (fun _ => False) w w' := ⟨h.os, h.tape, h.output, h.size, fun k hk _ => h.block k hk⟩
theorem Within.of_below {G : Nat → Prop} {w w' : World} (h : Below w.heap.size w w') : Within G w w' := ⟨h.os, h.tape, h.output, h.size, fun k hk _ => h.block k hk⟩
theorem Within.of_gb {G : Nat → Prop} {w w' : World} {row : Option Nat} (h : w.grownBy w' row) (hg : ∀ k, row = some k → G k) : Within G w w' := ⟨h.os, h.tape, h.output, h.size, fun k hk hn => h.block k hk (fun e => hn (hg k e.symm))⟩
theorem Within.mono {G G' : Nat → Prop} {w w' : World} (h : Within G w w') (hg : ∀ k, G k → G' k) : Within G' w w' := ⟨h.os, h.tape, h.output, h.size, fun k hk hn => h.block k hk (fun e => hn (hg k e))⟩
end Go.Proofs.YtjclgoiclbkgjaaDoor

/- Package grid, plain: cells, rows, grids as lists. -/
namespace Go.Proofs.YtjclgoiclbkgjaaDoor
open Go.RowKit

structure Sty where
  fg : Int
  bg : Int
  attr : Int
structure Cel where
  rune : Int
  width : Int
  sty : Sty
def Sty.vals (s : Sty) : List Value := [.int .i64 s.fg, .int .i64 s.bg, .int .i64 s.attr]
def Sty.val (s : Sty) : Value := .agg #[.int .i64 s.fg, .int .i64 s.bg, .int .i64 s.attr]
def Cel.vals (c : Cel) : List Value := [.int .i32 c.rune, .int .i64 c.width, .int .i64 c.sty.fg, .int .i64 c.sty.bg, .int .i64 c.sty.attr]
def Cel.val (c : Cel) : Value := .agg #[.int .i32 c.rune, .int .i64 c.width, .int .i64 c.sty.fg, .int .i64 c.sty.bg, .int .i64 c.sty.attr]
def cvals (l : List Cel) : List Value := l.flatMap Cel.vals
structure Rw where
  cells : List Cel
  wrap : Bool
structure Gr where
  cols : Nat
  limit : Nat
  rows : List Rw
  old : List Rw
def plainS : Sty := ⟨-1, -1, 0⟩
def blankC (s : Sty) : Cel := ⟨32, 1, s⟩
def noC : Cel := ⟨0, 0, ⟨0, 0, 0⟩⟩
def noR : Rw := ⟨[], false⟩
/-- m laid over l, from x on. -/
def putAt {α : Type} (l : List α) (x : Nat) (m : List α) : List α := l.take x ++ m ++ l.drop (x + m.length)
theorem putAt_len {α : Type} (l : List α) (x : Nat) (m : List α) (h : x + m.length ≤ l.length) : (putAt l x m).length = l.length := by
  unfold putAt
  rw [List.length_append, List.length_append, List.length_take, List.length_drop]; omega
def fillL (l : List Cel) (x n : Nat) (s : Sty) : List Cel := putAt l x (List.replicate n (blankC s))
def cutL (l : List Cel) (x : Int) : List Cel :=
  if 0 < x ∧ x < (l.length : Int) ∧ (l.getD x.toNat noC).width = 0 then fillL l (x.toNat - 1) 2 (l.getD x.toNat noC).sty else l
theorem fillL_len (l : List Cel) (x n : Nat) (s : Sty) (h : x + n ≤ l.length) : (fillL l x n s).length = l.length :=
  putAt_len _ _ _ (by rw [List.length_replicate]; exact h)
theorem cutL_len (l : List Cel) (x : Int) : (cutL l x).length = l.length := by
  unfold cutL
  split
  · exact fillL_len _ _ _ _ (by omega)
  · rfl
theorem cvals_len (l : List Cel) : (cvals l).length = l.length * 5 := by
  induction l with
  | nil => rfl
  | cons x l ih =>
    simp only [cvals, List.flatMap_cons, List.length_append, Cel.vals, List.length_cons, List.length_nil] at ih ⊢
    omega
theorem cvals_append (l m : List Cel) : cvals (l ++ m) = cvals l ++ cvals m := by simp [cvals]
theorem cvals_take (l : List Cel) (x : Nat) : (cvals l).take (x * 5) = cvals (l.take x) := by
  induction l generalizing x with
  | nil => simp [cvals]
  | cons c l ih =>
    cases x with
    | zero => simp [cvals]
    | succ x =>
      have e : cvals (c :: l) = c.vals ++ cvals l := rfl
      have e2 : cvals ((c :: l).take (x + 1)) = c.vals ++ cvals (l.take x) := rfl
      rw [e, e2, List.take_append, ← ih x]
      have h5 : c.vals.length = 5 := rfl
      rw [List.take_of_length_le (by rw [h5]; omega), h5, show (x + 1) * 5 - 5 = x * 5 by omega]
theorem cvals_drop (l : List Cel) (x : Nat) : (cvals l).drop (x * 5) = cvals (l.drop x) := by
  induction l generalizing x with
  | nil => simp [cvals]
  | cons c l ih =>
    cases x with
    | zero => simp [cvals]
    | succ x =>
      have e : cvals (c :: l) = c.vals ++ cvals l := rfl
      rw [e, List.drop_append, show (c :: l).drop (x + 1) = l.drop x from rfl, ← ih x]
      have h5 : c.vals.length = 5 := rfl
      rw [List.drop_eq_nil_of_le (by rw [h5]; omega), h5, show (x + 1) * 5 - 5 = x * 5 by omega, List.nil_append]
theorem cvals_put (l : List Cel) (x : Nat) (m : List Cel) : cvals (putAt l x m) = putAt (cvals l) (x * 5) (cvals m) := by
  unfold putAt
  rw [cvals_append, cvals_append, ← cvals_take, ← cvals_drop, cvals_len, Nat.add_mul]
theorem cvals_at (l : List Cel) (x : Nat) (h : x < l.length) (i : Nat) (hi : i < 5) : (cvals l)[x * 5 + i]? = (l.getD x noC).vals[i]? := by
  induction l generalizing x with
  | nil => simp at h
  | cons c l ih =>
    have e : cvals (c :: l) = c.vals ++ cvals l := rfl
    have h5 : c.vals.length = 5 := rfl
    cases x with
    | zero => rw [e, List.getElem?_append_left (by omega)]; simp
    | succ x =>
      rw [e, List.getElem?_append_right (by omega), h5, show (x + 1) * 5 + i - 5 = x * 5 + i by omega, ih x (by simpa using h)]
      rfl
theorem cvals_one (l : List Cel) : ∀ u ∈ cvals l, u.oneCell' = true := by
  intro u hu
  obtain ⟨c, _, hu⟩ := List.mem_flatMap.1 hu
  simp only [Cel.vals, List.mem_cons, List.not_mem_nil, or_false] at hu
  rcases hu with rfl | rfl | rfl | rfl | rfl <;> rfl
end Go.Proofs.YtjclgoiclbkgjaaDoor

/- Buffers of one's own whose elements are of any size: places, stores, slices. -/
namespace Go.Proofs.YtjclgoiclbkgjaaDoor
open Go.RowKit

theorem run_sizeN {P : Program} {e : TypeId} {n : Nat} (hs : (P.info? e).map (·.size) = some n) (wx : World) : (sizeOf e).run P wx = .ok n wx := by
  obtain ⟨i, hi, hi2⟩ := Option.map_eq_some_iff.1 hs
  simp [sizeOf, typeInfo, hi, hi2]
/-- The place of an element. -/
theorem idx_at {P : Program} {t e : TypeId} {size : Nat} (ht : P.underlying t = some (.slice e)) (hs : (P.info? e).map (·.size) = some size) (b off n c j : Nat) (hj : j < n) (wx : World) :
    (Instr.indexAt t (.slice (some ⟨b, off, none⟩) n c) (.int .i64 j)).run P wx = .ok (.pointer (some ⟨b, off + j * size, none⟩)) wx := by
  obtain ⟨i, hi, hi2⟩ := Option.map_eq_some_iff.1 hs
  have hj' : (0 : Int) ≤ (j : Int) ∧ (j : Int) < (n : Int) := by omega
  simp [Instr.indexAt, asIntOf, run_underlying ht, hj', sizeOf, typeInfo, hi, hi2, add_eq]
  omega
/-- l[x:y] -/
theorem slice_lh {P : Program} {t e : TypeId} {size : Nat} (ht : P.underlying t = some (.slice e)) (hs : (P.info? e).map (·.size) = some size) (b off n c x y : Nat) (h1 : x ≤ y) (h2 : y ≤ c) (hx : x < c) (wx : World) :
    (Instr.slice t (.slice (some ⟨b, off, none⟩) n c) (some (.int .i64 (x : Int))) (some (.int .i64 (y : Int))) none).run P wx = .ok (.slice (some ⟨b, off + x * size, none⟩) (y - x) (c - x)) wx := by
  have hel : P.elem t = e := by simp [Program.elem, ht]
  rw [run_slice_lh wx t _ _ c (elem_of ht) .i64 .i64 _ _ (by omega) (by omega) (by omega), hel, run_sizeN hs, Int.toNat_natCast, Int.toNat_natCast]
  show Result.ok (sliced _ x y c size) wx = _
  unfold sliced
  rw [if_neg (by omega)]
  show Result.ok (Value.slice (some ((⟨b, off, none⟩ : Addr).add (x * size))) _ _) wx = _
  rw [add_eq]
/-- l[x:] -/
theorem slice_l {P : Program} {t e : TypeId} {size : Nat} (ht : P.underlying t = some (.slice e)) (hs : (P.info? e).map (·.size) = some size) (b off n c x : Nat) (h1 : x ≤ n) (hx : x < c) (wx : World) :
    (Instr.slice t (.slice (some ⟨b, off, none⟩) n c) (some (.int .i64 (x : Int))) none none).run P wx = .ok (.slice (some ⟨b, off + x * size, none⟩) (n - x) (c - x)) wx := by
  have hel : P.elem t = e := by simp [Program.elem, ht]
  rw [run_slice_l wx t _ _ c (elem_of ht) .i64 _ (by omega) (by omega), hel, run_sizeN hs, Int.toNat_natCast]
  show Result.ok (sliced _ x n c size) wx = _
  unfold sliced
  rw [if_neg (by omega)]
  show Result.ok (Value.slice (some ((⟨b, off, none⟩ : Addr).add (x * size))) _ _) wx = _
  rw [add_eq]
/-- l[:y] -/
theorem slice_h {P : Program} {t e : TypeId} {size : Nat} (ht : P.underlying t = some (.slice e)) (hs : (P.info? e).map (·.size) = some size) (a : Option Addr) (n c y : Nat) (h2 : y ≤ c) (wx : World) :
    (Instr.slice t (.slice a n c) none (some (.int .i64 (y : Int))) none).run P wx = .ok (.slice a y c) wx := by
  have hel : P.elem t = e := by simp [Program.elem, ht]
  rw [run_slice_h wx t _ _ c (elem_of ht) .i64 _ (by omega) (by omega), hel, run_sizeN hs, Int.toNat_natCast]
  show Result.ok (sliced _ 0 y c size) wx = _
  unfold sliced
  cases a with
  | none => simp
  | some a =>
    split
    · rfl
    · rw [Nat.zero_mul]
      show Result.ok (Value.slice (some (a.add 0)) _ _) wx = _
      rw [show a.add 0 = a by simp [Addr.add]]; rfl
theorem ownC_sub {w : World} {base size b off n c : Nat} {xs : List Value} (h : OwnC w base size (.slice (some ⟨b, off, none⟩) n c) n xs) (x y : Nat) (h1 : x ≤ y) (h2 : y ≤ n) :
    OwnC w base size (.slice (some ⟨b, off + x * size, none⟩) (y - x) (c - x)) (y - x) ((xs.drop (x * size)).take ((y - x) * size)) := by
  obtain ⟨e1, h2'⟩ := h
  rcases h2' with ⟨e, _⟩ | ⟨b', off', c', e, hb, hbs, hnc, hcm, hcells, hxs⟩
  · simp at e
  · simp only [Value.slice.injEq, Option.some.injEq, Addr.mk.injEq] at e
    obtain ⟨⟨rfl, rfl, _⟩, _, rfl⟩ := e
    have hle : x * size + (y - x) * size ≤ xs.length := by
      rw [e1, ← Nat.add_mul]; exact Nat.mul_le_mul_right _ (by omega)
    refine ⟨by rw [List.length_take, List.length_drop]; omega, .inr ⟨b, off + x * size, c - x, rfl, hb, hbs, by omega, by omega, fun j hj => ?_, fun j u hu => ?_⟩⟩
    · have : x * size + j < c * size := by
        have hh : x * size + (c - x) * size = c * size := by rw [← Nat.add_mul]; congr 1; omega
        omega
      have := hcells (x * size + j) this
      rwa [← Nat.add_assoc] at this
    · rw [List.getElem?_take] at hu
      split at hu
      · rw [List.getElem?_drop] at hu
        have := hxs _ u hu
        rwa [← Nat.add_assoc] at this
      · simp at hu
theorem putAt_get {α : Type} (l : List α) (x : Nat) (m : List α) (h : x + m.length ≤ l.length) (j : Nat) : (putAt l x m)[j]? = if j < x then l[j]? else if j < x + m.length then m[j - x]? else l[j]? := by
  unfold putAt
  have e1 : (l.take x).length = x := by rw [List.length_take]; omega
  by_cases c1 : j < x
  · rw [if_pos c1, List.getElem?_append_left (by rw [List.length_append]; omega), List.getElem?_append_left (by omega), List.getElem?_take, if_pos c1]
  rw [if_neg c1]
  by_cases c2 : j < x + m.length
  · rw [if_pos c2, List.getElem?_append_left (by rw [List.length_append]; omega), List.getElem?_append_right (by omega), e1]
  · rw [if_neg c2, List.getElem?_append_right (by rw [List.length_append]; omega), List.length_append, e1, List.getElem?_drop]
    congr 1; omega
theorem cell_setCells_in (b : Nat) (vs : List Value) (o : Nat) (w : World) (h : ∀ j, j < vs.length → (w.cell? ⟨b, o + j, none⟩).isSome = true) (j : Nat) (hj : j < vs.length) : (w.setCells b o vs).cell? ⟨b, o + j, none⟩ = vs[j]? := by
  rw [World.cell?_setCells_in b vs o w (fun i hi => h i hi) j hj, List.getElem?_eq_getElem hj]
theorem size_setCells (w : World) (b o : Nat) (vs : List Value) : (w.setCells b o vs).heap.size = w.heap.size := by
  induction vs generalizing o w with
  | nil => rfl
  | cons x vs ih => simp only [World.setCells]; rw [ih]; simp
/-- Some cells are written. -/
theorem ownC_put {w : World} {base size b off n c : Nat} {xs : List Value} (h : OwnC w base size (.slice (some ⟨b, off, none⟩) n c) n xs) (j : Nat) (vs : List Value) (hj : j + vs.length ≤ n * size) :
    OwnC (w.setCells b (off + j) vs) base size (.slice (some ⟨b, off, none⟩) n c) n (putAt xs j vs) := by
  obtain ⟨e1, h2⟩ := h
  rcases h2 with ⟨e, _⟩ | ⟨b', off', c', e, hb, hbs, hnc, hcm, hcells, hxs⟩
  · simp at e
  · simp only [Value.slice.injEq, Option.some.injEq, Addr.mk.injEq] at e
    obtain ⟨⟨rfl, rfl, _⟩, _, rfl⟩ := e
    have hcn : n * size ≤ c * size := Nat.mul_le_mul_right _ hnc
    have hin := cell_setCells_in b vs (off + j) w (fun i hi => by
      have := (hcells (j + i) (by omega)).1
      rwa [← Nat.add_assoc] at this)
    have hout : ∀ k, k < j ∨ j + vs.length ≤ k → (w.setCells b (off + j) vs).cell? ⟨b, off + k, none⟩ = w.cell? ⟨b, off + k, none⟩ := fun k hk =>
      World.cell?_setCells_out b vs (off + j) w _ (fun _ _ => by show off + k < off + j ∨ off + j + vs.length ≤ off + k; omega)
    refine ⟨by rw [putAt_len _ _ _ (by omega)]; exact e1, .inr ⟨b, off, c, rfl, hb, by rw [size_setCells]; exact hbs, hnc, hcm, fun k hk => ⟨?_, by rw [World.frozen?_setCells]; exact (hcells k hk).2⟩, fun k u hu => ?_⟩⟩
    · by_cases hk2 : k < j ∨ j + vs.length ≤ k
      · rw [hout k hk2]; exact (hcells k hk).1
      · have := hin (k - j) (by omega)
        rw [show off + j + (k - j) = off + k by omega] at this
        rw [this, List.getElem?_eq_getElem (by omega)]; rfl
    · rw [putAt_get _ _ _ (by omega)] at hu
      by_cases hk1 : k < j
      · rw [if_pos hk1] at hu
        rw [hout k (.inl hk1)]; exact hxs k u hu
      · rw [if_neg hk1] at hu
        by_cases hk2 : k < j + vs.length
        · rw [if_pos hk2] at hu
          have := hin (k - j) (by omega)
          rw [show off + j + (k - j) = off + k by omega] at this
          rw [this]; exact hu
        · rw [if_neg hk2] at hu
          rw [hout k (.inr (by omega))]; exact hxs k u hu
/-- Storing a struct in a place of one's own. -/
theorem store_own {P : Program} {w : World} {e : TypeId} {base size b off n c : Nat} {xs : List Value} (hs : (P.info? e).map (·.size) = some size) (h : OwnC w base size (.slice (some ⟨b, off, none⟩) n c) n xs) (j : Nat) (hj : j < n) (vs : Array Value) (hv : vs.size = size)
    (h1 : ∀ u ∈ vs.toList, u.oneCell' = true) : (storeVar e ⟨b, off + j * size, none⟩ (.agg vs)).run P w = .ok () (w.setCells b (off + j * size) vs.toList) := by
  obtain ⟨e1, h2⟩ := h
  rcases h2 with ⟨e, _⟩ | ⟨b', off', c', e, hb, hbs, hnc, hcm, hcells, hxs⟩
  · simp at e
  · simp only [Value.slice.injEq, Option.some.injEq, Addr.mk.injEq] at e
    obtain ⟨⟨rfl, rfl, _⟩, _, rfl⟩ := e
    have hlt : (j + 1) * size ≤ c * size := Nat.mul_le_mul_right _ (by omega)
    rw [Nat.add_mul, Nat.one_mul] at hlt
    have hl : vs.toList.length = size := by rw [Array.length_toList]; exact hv
    have hr := run_storeCells_cells (P := P) b (off + j * size) vs.toList 0 w (fun i hi => by
        have := (hcells (j * size + i) (by omega)).1
        rwa [← Nat.add_assoc] at this) (fun i hi => by
        have := (hcells (j * size + i) (by omega)).2
        rwa [← Nat.add_assoc] at this) h1
    unfold storeVar
    simp only [Sem.run_bind, run_sizeN hs, Result.andThen, Value.cells, hv, ne_eq, not_true_eq_false, if_false, Nat.add_zero] at hr ⊢
    exact hr
theorem ownC_sl {w : World} {base size : Nat} {v : Value} {n : Nat} {xs : List Value} (h : OwnC w base size v n xs) : ∃ x c, v = Value.slice x n c := by
  rcases h.2 with ⟨hv, rfl⟩ | ⟨b, off, cap, hv, _⟩
  · exact ⟨_, _, hv⟩
  · exact ⟨_, _, hv⟩
theorem ownC_ln {P : Program} {t e : TypeId} {w : World} {base size : Nat} {v : Value} {n : Nat} {xs : List Value} (ht : P.underlying t = some (.slice e)) (h : OwnC w base size v n xs) (ty : TypeId) (wx : World) : (Builtin.len_ #[t] ty #[v]).run P wx = .ok (.int .i64 n) wx := by
  rcases h.2 with ⟨rfl, rfl⟩ | ⟨b, off, c, rfl, _⟩ <;> simp [Builtin.len_, run_underlying ht, goInt]
theorem ret0w {P : Program} {fn : Func} {R : Ending → World → Prop} {a : Act} {w : World} (h : fn.results = #[]) (hd : a.defers = []) (hR : R (.returned (.tuple #[])) w) :
    bodyPost P fn R .ret a w := bodyPost_ret (results_none h _ _ _) hd hR
theorem ret2w {P : Program} {fn : Func} {R : Ending → World → Prop} {a : Act} {w : World} {t u : Tmp} {v1 v2 : Value} (h : fn.results = #[.tmp t, .tmp u]) (hd : a.defers = []) (h1 : a.tmps.getD t undef = v1) (h2 : a.tmps.getD u undef = v2) (hR : R (.returned (.tuple #[v1, v2])) w) :
    bodyPost P fn R .ret a w := by
  subst h1 h2; exact bodyPost_ret (results_tmp2 h _ _ _) hd hR
section
variable {P : Program}
/-- A store whose outcome is known. -/
theorem wp_storeR {o : Oper} {a : Act} {w w' : World} {K : Act → World → Prop} {Q : Exit → Act → World → Prop} (ty : TypeId) (x y : Operand) (ho : o.op = .store ty x y)
    {ad : Addr} {v : Value} (hst : (storeVar ty ad v).run P w = .ok () w') (hx : a.eval x = .pointer (some ad)) (hy : a.eval y = v) (h : K (a.put o.dst undef) w') : o.wp P a w K Q := by
  unfold Oper.wp execOp
  simp only [ho, hx, hy, Instr.storeAt, Instr.sureAddr, Sem.run_bind, Sem.run_pure, Result.andThen_ok, hst]
  exact h
theorem wpList_storeR {ops : Array Oper} {rest : List Oper} {o : Oper} {a : Act} {w w' : World} {Q : Exit → Act → World → Prop} (hgd : o.guard = none) (ty : TypeId) (x y : Operand) (ho : o.op = .store ty x y)
    {ad : Addr} {v : Value} (hst : (storeVar ty ad v).run P w = .ok () w') (hx : a.eval x = .pointer (some ad)) (hy : a.eval y = v) (h : wpList P ops Q rest (a.put o.dst undef) w') : wpList P ops Q (o :: rest) a w :=
  wpList_plain hgd fun _ hK => wp_storeR ty x y ho hst hx hy (hK _ _ h)
/-- A result that lies in a block of its own. -/
theorem retRow {fn : Func} {R : Ending → World → Prop} {a : Act} {w : World} {p : Tmp} {ty t : TypeId} {g : Nat} {cs : Array Value} {fr : Nat × Nat} {d : TypeDesc} (h : fn.results = #[.cell p ty]) (hdf : a.defers = [])
    (hp : a.tmps.getD p undef = .pointer (some ⟨g, 0, none⟩)) (hg : w.heap[g]? = some (.cells cs t fr)) (hu : P.underlying ty = some d) (hd : (match d with | .struct _ | .array _ _ => true | _ => false) = true) (hi : (P.info? ty).map (·.size) = some cs.size)
    (hR : R (.returned (.agg cs)) w) : bodyPost P fn R .ret a w :=
  bodyPost_ret (results_cell_row h _ w g t cs fr d hp hg hu hd hi) hdf hR
end
end Go.Proofs.YtjclgoiclbkgjaaDoor

/- Package grid, plain: what its functions do. -/
namespace Go.Proofs.YtjclgoiclbkgjaaDoor
open Go.RowKit

/-- May a style be? -/
def colOk (c : Int) : Bool := decide (-1 ≤ c ∧ c ≤ 255) || decide (16777216 ≤ c ∧ c < 33554432)
def okS (s : Sty) : Bool := colOk s.fg && (colOk s.bg && (decide (0 ≤ s.attr) && decide (s.attr ≤ 255)))
def freshL (n cols : Nat) (s : Sty) : List Rw := List.replicate n ⟨List.replicate cols (blankC s), false⟩
def mayG (cols rows : Int) : Bool := decide (1 ≤ cols) && (decide (cols ≤ 250) && (decide (1 ≤ rows) && decide (rows ≤ 120)))
def newG (cols rows limit : Nat) : Gr := ⟨cols, limit, freshL rows cols plainS, []⟩
def Gr.row (g : Gr) (y : Int) : Rw :=
  if 0 ≤ y ∧ y < (g.rows.length : Int) then g.rows.getD y.toNat noR
  else if y < 0 ∧ -(g.old.length : Int) ≤ y then g.old.getD ((g.old.length : Int) + y).toNat noR
  else noR
def Gr.cell (g : Gr) (x y : Int) : Cel := if 0 ≤ x ∧ x < ((g.row y).cells.length : Int) then (g.row y).cells.getD x.toNat noC else noC
/-- A row's cells but the blanks at its end. -/
def trimL (l : List Cel) : List Cel := (l.reverse.dropWhile fun c => c.rune == 32).reverse
def Gr.setWrap (g : Gr) (y : Int) (is : Bool) : Gr :=
  if 0 ≤ y ∧ y < (g.rows.length : Int) then { g with rows := g.rows.set y.toNat { g.rows.getD y.toNat noR with wrap := is } } else g
/-- The cells of row y turned. -/
def Gr.turn (g : Gr) (y : Nat) (f : List Cel → List Cel) : Gr := { g with rows := g.rows.set y { g.rows.getD y noR with cells := f (g.rows.getD y noR).cells } }
def Gr.onIt (g : Gr) (x y : Int) (s : Sty) : Bool := decide (0 ≤ y) && (decide (y < (g.rows.length : Int)) && (decide (0 ≤ x) && (decide (x < (g.cols : Int)) && okS s)))
def layL (l : List Cel) (x : Nat) (c : Cel) : List Cel := putAt (cutL (cutL l x) ((x : Int) + c.width)) x (if c.width = 2 then [c, ⟨0, 0, c.sty⟩] else [c])
def keepL (limit : Nat) (l : List Rw) : List Rw := l.drop (l.length - limit)
def regionN (g : Gr) (top bottom n : Int) (s : Sty) : Nat :=
  if top < 0 ∨ bottom < top ∨ (g.rows.length : Int) ≤ bottom ∨ okS s = false then 0 else (max 0 (min n (bottom - top + 1))).toNat
/-- Rows top to bottom scrolled up by n (n at most bottom - top + 1, at least 1). -/
def upRows (rows : List Rw) (top bottom n cols : Nat) (s : Sty) : List Rw :=
  rows.take top ++ (rows.drop (top + n)).take (bottom + 1 - top - n) ++ freshL n cols s ++ rows.drop (bottom + 1)
def downRows (rows : List Rw) (top bottom n cols : Nat) (s : Sty) : List Rw :=
  rows.take top ++ freshL n cols s ++ (rows.drop top).take (bottom + 1 - top - n) ++ rows.drop (bottom + 1)
def Gr.up (g : Gr) (top bottom n : Int) (s : Sty) (keep : Bool) : Gr :=
  if regionN g top bottom n s = 0 then g
  else { g with rows := upRows g.rows top.toNat bottom.toNat (regionN g top bottom n s) g.cols s
                old := if keep = true ∧ top = 0 then keepL g.limit (g.old ++ (g.rows.drop top.toNat).take (regionN g top bottom n s)) else g.old }
def Gr.down (g : Gr) (top bottom n : Int) (s : Sty) : Gr :=
  if regionN g top bottom n s = 0 then g else { g with rows := downRows g.rows top.toNat bottom.toNat (regionN g top bottom n s) g.cols s }

def isPlain (c : Cel) : Bool := c.rune == 32 && (c.width == 1 && (c.sty.fg == -1 && (c.sty.bg == -1 && c.sty.attr == 0)))
/-- A line being split: the rows that are whole, the one that is being filled, where the marked cell came to lie. -/
structure Sp where
  done : List Rw
  cur : List Cel
  told : Option (Int × Int)
def spLay (cols : Nat) (mark : Int) (st : Sp) (i : Nat) (c : Cel) : Sp :=
  let cur1 := if c.width = 2 ∧ st.cur.length = cols - 1 then st.cur ++ [blankC plainS] else st.cur
  let done2 := if cur1.length = cols then st.done ++ [⟨cur1, true⟩] else st.done
  let cur2 := if cur1.length = cols then [] else cur1
  ⟨done2, cur2 ++ [c], if (i : Int) = mark then some ((cur2.length : Int), (done2.length : Int)) else st.told⟩
def spStep (cols : Nat) (mark : Int) (st : Sp) (i : Nat) (c : Cel) : Sp :=
  if cols = 1 ∧ c.width ≠ 1 then
    if c.width = 0 then { st with told := if (i : Int) = mark then some ((st.cur.length : Int) - 1, (st.done.length : Int)) else st.told }
    else spLay cols mark st i (blankC c.sty)
  else spLay cols mark st i c
def spRun (cols : Nat) (mark : Int) : Sp → Nat → List Cel → Sp
  | st, _, [] => st
  | st, i, c :: l => spRun cols mark (spStep cols mark st i c) (i + 1) l
def spEnd (cols : Nat) (st : Sp) : List Rw := st.done ++ [⟨st.cur ++ List.replicate (cols - st.cur.length) (blankC plainS), false⟩]
def splitG (l : List Cel) (cols : Nat) (mark : Int) : Sp := spRun cols mark ⟨[], [], none⟩ 0 l
/-- A line but for the plain blanks at its end, behind the mark. -/
def trimF : Nat → List Cel → Int → List Cel
  | 0, l, _ => l
  | n + 1, l, mark => if mark < (l.length : Int) - 1 ∧ l ≠ [] ∧ isPlain (l.getD (l.length - 1) noC) = true then trimF n (l.take (l.length - 1)) mark else l
def trimM (l : List Cel) (mark : Int) : List Cel := trimF l.length l mark
def wrapLast (l : List Rw) (is : Bool) : List Rw := l.set (l.length - 1) { l.getD (l.length - 1) noR with wrap := is }
structure Fl where
  out : List Rw
  px : Int
  py : Int
def flEnd (cols : Nat) (line : List Cel) (mark : Int) (wrap : Bool) (st : Fl) : Fl :=
  let sp := splitG (trimM line mark) cols mark
  ⟨st.out ++ wrapLast (spEnd cols sp) wrap, match sp.told with | some q => q.1 | none => st.px, match sp.told with | some q => (st.out.length : Int) + q.2 | none => st.py⟩
def flRun (cols : Nat) (place atx : Int) : List Rw → Nat → List Cel → Int → Fl → Fl
  | [], _, _, _, st => st
  | r :: rest, i, line, mark, st =>
    let mark2 := if (i : Int) = place then (line.length : Int) + atx else mark
    if r.wrap = false ∨ rest = [] then flRun cols place atx rest (i + 1) [] (-1) (flEnd cols (line ++ r.cells) mark2 r.wrap st)
    else flRun cols place atx rest (i + 1) (line ++ r.cells) mark2 st
/-- Rows but for plain ones at the end, behind py. -/
def trimR : Nat → List Rw → Int → List Rw
  | 0, l, _ => l
  | n + 1, l, py => if py < (l.length : Int) - 1 ∧ (l.getD (l.length - 1) noR).wrap = false ∧ (l.getD (l.length - 1) noR).cells.all isPlain = true then trimR n (l.take (l.length - 1)) py else l
def Gr.flow (g : Gr) (cols rows : Nat) (ax ay : Int) : Gr × Int × Int :=
  let st := flRun cols ((g.old.length : Int) + ay) ax (g.old ++ g.rows) 0 [] (-1) ⟨[], 0, 0⟩
  let out := trimR st.out.length st.out st.py
  let first := (min (max 0 ((out.length : Int) - rows)) st.py).toNat
  let now := (out.drop first).take rows
  (⟨cols, g.limit, now ++ freshL (rows - now.length) cols plainS, keepL g.limit (out.take first)⟩, st.px, st.py - first)
def fitL (r : Rw) (cols : Nat) : Rw :=
  if cols = r.cells.length then r else ⟨(cutL r.cells cols).take cols ++ List.replicate (cols - r.cells.length) (blankC plainS), false⟩
def into (n most : Int) : Int := max 0 (min n most)
def Gr.resize (g : Gr) (cols rows : Nat) (ax ay : Int) (reflow : Bool) : Gr × Int × Int :=
  if reflow then g.flow cols rows (into ax (g.cols - 1)) (into ay ((g.rows.length : Int) - 1))
  else
    let fit := g.rows.map fun r => fitL r cols
    (⟨cols, g.limit, if rows < fit.length then fit.take rows else fit ++ freshL (rows - fit.length) cols plainS, g.old.map fun r => fitL r cols⟩,
      min (into ax (g.cols - 1)) (cols - 1), min (into ay ((g.rows.length : Int) - 1)) (rows - 1))
end Go.Proofs.YtjclgoiclbkgjaaDoor

/- Package grid, plain: rows scrolled up and down. -/
namespace Go.Proofs.YtjclgoiclbkgjaaDoor
open Go.RowKit

def blankR (cols : Nat) (s : Sty) : Rw := ⟨List.replicate cols (blankC s), false⟩
theorem up_len {rows : List Rw} {t b n c : Nat} {s : Sty} (h1 : t ≤ b) (h2 : b < rows.length) (h3 : n ≤ b + 1 - t) : (upRows rows t b n c s).length = rows.length := by
  unfold upRows freshL
  simp only [List.length_append, List.length_take, List.length_drop, List.length_replicate]; omega
theorem down_len {rows : List Rw} {t b n c : Nat} {s : Sty} (h1 : t ≤ b) (h2 : b < rows.length) (h3 : n ≤ b + 1 - t) : (downRows rows t b n c s).length = rows.length := by
  unfold downRows freshL
  simp only [List.length_append, List.length_take, List.length_drop, List.length_replicate]; omega
theorem up_get {rows : List Rw} {t b n c : Nat} {s : Sty} (h1 : t ≤ b) (h2 : b < rows.length) (h3 : n ≤ b + 1 - t) (y : Nat) :
    (upRows rows t b n c s)[y]? = if y < t then rows[y]? else if y + n ≤ b then rows[y + n]? else if y ≤ b then some (blankR c s) else rows[y]? := by
  unfold upRows freshL
  have e1 : (rows.take t).length = t := by rw [List.length_take]; omega
  have e2 : ((rows.drop (t + n)).take (b + 1 - t - n)).length = b + 1 - t - n := by rw [List.length_take, List.length_drop]; omega
  by_cases c1 : y < t
  · rw [if_pos c1, List.getElem?_append_left (by simp only [List.length_append]; omega), List.getElem?_append_left (by simp only [List.length_append]; omega), List.getElem?_append_left (by omega), List.getElem?_take, if_pos c1]
  rw [if_neg c1]
  by_cases c2 : y + n ≤ b
  · rw [if_pos c2, List.getElem?_append_left (by simp only [List.length_append]; omega), List.getElem?_append_left (by simp only [List.length_append]; omega), List.getElem?_append_right (by omega), e1, List.getElem?_take, if_pos (by omega), List.getElem?_drop]
    congr 1; omega
  rw [if_neg c2]
  by_cases c3 : y ≤ b
  · rw [if_pos c3, List.getElem?_append_left (by simp only [List.length_append, List.length_replicate]; omega), List.getElem?_append_right (by simp only [List.length_append]; omega), List.getElem?_replicate, if_pos (by simp only [List.length_append]; omega)]
    rfl
  · rw [if_neg c3, List.getElem?_append_right (by simp only [List.length_append, List.length_replicate]; omega), List.getElem?_drop]
    congr 1
    simp only [List.length_append, List.length_replicate]; omega
theorem down_get {rows : List Rw} {t b n c : Nat} {s : Sty} (h1 : t ≤ b) (h2 : b < rows.length) (h3 : n ≤ b + 1 - t) (y : Nat) :
    (downRows rows t b n c s)[y]? = if y < t then rows[y]? else if y < t + n then some (blankR c s) else if y ≤ b then rows[y - n]? else rows[y]? := by
  unfold downRows freshL
  have e1 : (rows.take t).length = t := by rw [List.length_take]; omega
  have e2 : ((rows.drop t).take (b + 1 - t - n)).length = b + 1 - t - n := by rw [List.length_take, List.length_drop]; omega
  by_cases c1 : y < t
  · rw [if_pos c1, List.getElem?_append_left (by simp only [List.length_append]; omega), List.getElem?_append_left (by simp only [List.length_append]; omega), List.getElem?_append_left (by omega), List.getElem?_take, if_pos c1]
  rw [if_neg c1]
  by_cases c2 : y < t + n
  · rw [if_pos c2, List.getElem?_append_left (by simp only [List.length_append, List.length_replicate]; omega), List.getElem?_append_left (by simp only [List.length_append, List.length_replicate]; omega), List.getElem?_append_right (by omega), List.getElem?_replicate, if_pos (by omega)]
    rfl
  rw [if_neg c2]
  by_cases c3 : y ≤ b
  · rw [if_pos c3, List.getElem?_append_left (by simp only [List.length_append, List.length_replicate]; omega), List.getElem?_append_right (by simp only [List.length_append, List.length_replicate]; omega), List.getElem?_take, if_pos (by simp only [List.length_append, List.length_replicate]; omega), List.getElem?_drop]
    congr 1
    simp only [List.length_append, List.length_replicate]; omega
  · rw [if_neg c3, List.getElem?_append_right (by simp only [List.length_append, List.length_replicate]; omega), List.getElem?_drop]
    congr 1
    simp only [List.length_append, List.length_replicate]; omega
theorem trim_blank (n : Nat) (s : Sty) : trimL (List.replicate n (blankC s)) = [] := by
  unfold trimL
  rw [List.reverse_replicate, List.reverse_eq_nil_iff]
  induction n with
  | zero => rfl
  | succ n ih => rw [List.replicate_succ, List.dropWhile_cons]; exact ih
end Go.Proofs.YtjclgoiclbkgjaaDoor

/- Walks of package cell: Width and what it calls. -/
namespace Go.Proofs.YtjclgoiclbkgjaaDoor
open Go.RowKit

/-- A rune lies in one of some ranges. -/
def inR (r : Int) (l : List (Int × Int)) : Bool := l.any fun x => decide (x.1 ≤ r) && decide (r ≤ x.2)

theorem inR_succ (r : Int) (l : List (Int × Int)) (k : Nat) (h : k < l.length) :
    inR r (l.take (k + 1)) = (inR r (l.take k) || (decide ((l.getD k (0, 0)).1 ≤ r) && decide (r ≤ (l.getD k (0, 0)).2))) := by
  rw [take_succ_getD l (0, 0) k h]; simp [inR, List.any_append]
theorem inR_hit (r : Int) (l : List (Int × Int)) (k : Nat) (h : k < l.length) (h1 : (l.getD k (0, 0)).1 ≤ r) (h2 : r ≤ (l.getD k (0, 0)).2) : inR r l = true := by
  rw [inR, List.any_eq_true]
  refine ⟨l.getD k (0, 0), ?_, by rw [decide_eq_true h1, decide_eq_true h2]; rfl⟩
  rw [List.getD_eq_getElem?_getD, List.getElem?_eq_getElem h]; exact List.getElem_mem h

set_option maxHeartbeats 400000 in
theorem within_any (r : Int) (b n : Nat) (l : List (Int × Int)) (w : World) (hn : n ≤ 100) (hl : l.length = n)
    (hc : ∀ i, i < n → w.cell? ⟨b, i * 2, none⟩ = some (.int .i32 (l.getD i (0, 0)).1) ∧ w.cell? ⟨b, i * 2 + 1, none⟩ = some (.int .i32 (l.getD i (0, 0)).2)) :
    Calls Tryd.prog 55 #[.int .i32 r, .slice (some ⟨b, 0, none⟩) n n] w fun e w' => e = .returned (.bool (inR r l)) ∧ Below w.heap.size w w' := by
  have HL := Lib.hid hl
  have HC := Lib.hid hc
  clear hl hc
  go_enter Tryd.func55, Tryd.ntmps55
  go_wp2
  go_loopw [9] (fun i wr => ∃ k : Nat, k ≤ n ∧ i = .int .i64 k ∧ Below w.heap.size w wr ∧ inR r (l.take k) = false) (fun i _ => n - (intOf i).toNat)
  case atStart => exact ⟨0, by omega, rfl, Below.refl _ _, rfl⟩
  case round =>
    obtain ⟨k, hk, rfl, hb, hno⟩ := hrel
    have HB := Lib.hid hb
    have HNO := Lib.hid hno
    clear hb hno
    by_cases hlt : k < n
    · obtain ⟨c1, c2⟩ := HC.out k hlt
      generalize hx : (l.getD k (0, 0)).1 = x at c1
      generalize hy : (l.getD k (0, 0)).2 = y at c2
      have HX := Lib.hid hx
      have HY := Lib.hid hy
      clear hx hy
      rw [← HB.out.cell (p := ⟨b, k * 2, none⟩) (World.block_lt_of_cell? w _ c1)] at c1
      rw [← HB.out.cell (p := ⟨b, k * 2 + 1, none⟩) (World.block_lt_of_cell? w _ c2)] at c2
      have hkl : k < l.length := by rw [HL.out]; exact hlt
      go_wp2
      · go_ret
        exact ⟨ret_bool (inR_hit r l k hkl (by rw [HX.out]; assumption) (by rw [HY.out]; assumption)).symm, HB.out.alloc HB.out.size _⟩
      all_goals
        refine ⟨⟨k + 1, by omega, by go_num, HB.out.alloc HB.out.size _, ?_⟩, by simp [intOf]; omega⟩
        rw [inR_succ r l k hkl, HNO.out, HX.out, HY.out]
        simp; omega
    · go_wp2
      go_ret
      refine ⟨ret_bool ?_, HB.out⟩
      have := HNO.out
      rw [List.take_of_length_le (by have := HL.out; omega)] at this
      exact this.symm

def flatR : List (Int × Int) → List Value
  | [] => []
  | x :: l => .int .i32 x.1 :: .int .i32 x.2 :: flatR l
theorem flatR_get : ∀ (l : List (Int × Int)) (i : Nat), i < l.length → (flatR l)[i * 2]? = some (.int .i32 (l.getD i (0, 0)).1) ∧ (flatR l)[i * 2 + 1]? = some (.int .i32 (l.getD i (0, 0)).2)
  | x :: l, 0, _ => by simp [flatR]
  | x :: l, i + 1, h => by
    have := flatR_get l i (by simpa using h)
    rw [show (i + 1) * 2 = (i * 2) + 1 + 1 from by omega]
    simpa [flatR] using this
theorem cells_flat (w : World) (T n : Nat) (l : List (Int × Int)) (A : Array Value) (hA : A = (flatR l).toArray) (hn : n = l.length) : ∀ i, i < n →
    (w.alloc (.cells A T)).cell? ⟨w.heap.size, i * 2, none⟩ = some (.int .i32 (l.getD i (0, 0)).1) ∧ (w.alloc (.cells A T)).cell? ⟨w.heap.size, i * 2 + 1, none⟩ = some (.int .i32 (l.getD i (0, 0)).2) := by
  intro i hi
  subst hA hn
  have := flatR_get l i hi
  rw [World.cell?_alloc_new, World.cell?_alloc_new]
  simpa using this

def ctl : List (Int × Int) := [(127, 159)]
def nil0 : List (Int × Int) := [(768, 879), (8203, 8207), (65024, 65039)]
def two2 : List (Int × Int) := [(4352, 4447), (11904, 12350), (12353, 19903), (19968, 42191), (44032, 55203), (63744, 64255), (65072, 65135), (65280, 65376), (65504, 65510), (127744, 128591), (129280, 129535), (131072, 262141)]
/-- cell.Width. -/
def wid (r : Int) : Int := if r < 32 ∨ 1114111 < r ∨ inR r ctl = true then -1 else if inR r nil0 = true then 0 else if inR r two2 = true then 2 else 1

set_option maxHeartbeats 1000000 in
theorem width_any (r : Int) (w : World) :
    Calls Tryd.prog 42 #[.int .i32 r] w fun e w' => e = .returned (.int .i64 (wid r)) ∧ Below w.heap.size w w' := by
  by_cases h1 : r < 32
  · go_enter Tryd.func42, Tryd.ntmps42
    go_wp2
    go_ret
    exact ⟨ret_int (by simp [wid, h1]), Below.refl _ _⟩
  by_cases h2 : 1114111 < r
  · go_enter Tryd.func42, Tryd.ntmps42
    go_wp2
    go_ret
    exact ⟨ret_int (by simp [wid, h2]), Below.refl _ _⟩
  go_enter Tryd.func42, Tryd.ntmps42
  go_wp2_with fail
  refine (within_any r _ _ ctl _ (by decide) rfl (cells_flat _ _ _ _ _ rfl rfl)).mono ?_
  rintro e w1 ⟨rfl, hb1⟩
  have Hb1 := Lib.hid (((Below.refl w.heap.size w).alloc (Nat.le_refl _) _).trans (hb1.mono (by simp)))
  clear hb1
  go_wp2_with fail
  · go_ret
    exact ⟨ret_int (by simp [wid, *]), Hb1.out⟩
  refine (within_any r _ _ nil0 _ (by decide) rfl (cells_flat _ _ _ _ _ rfl rfl)).mono ?_
  rintro e w2 ⟨rfl, hb1⟩
  have Hb2 := Lib.hid ((Hb1.out.alloc Hb1.out.size _).trans (hb1.mono (by have := Hb1.out.size; simp; omega)))
  clear hb1
  go_wp2_with fail
  · go_ret
    exact ⟨ret_int (by simp [wid, *]), Hb2.out⟩
  refine (within_any r _ _ two2 _ (by decide) rfl (cells_flat _ _ _ _ _ rfl rfl)).mono ?_
  rintro e w3 ⟨rfl, hb1⟩
  have Hb3 := Lib.hid ((Hb2.out.alloc Hb2.out.size _).trans (hb1.mono (by have := Hb2.out.size; simp; omega)))
  clear hb1
  go_wp2_with fail
  all_goals
    go_ret
    exact ⟨ret_int (by simp [wid, *]), Hb3.out⟩

/-- cell.wide. -/
def wide0 (r : Int) : Int := max (wid r) 0
end Go.Proofs.YtjclgoiclbkgjaaDoor

/- Walks of package grid: blank, fill. -/
namespace Go.Proofs.YtjclgoiclbkgjaaDoor
open Go.RowKit

theorem cell_info : (Tryd.prog.info? 38).map (·.size) = some 5 := by kernel_rfl
theorem sty_info : (Tryd.prog.info? 33).map (·.size) = some 3 := by kernel_rfl
theorem row_info : (Tryd.prog.info? 76).map (·.size) = some 2 := by kernel_rfl
theorem blk_new (w : World) (o : Obj) : (w.alloc o).heap[w.heap.size]? = some o := heap_alloc_new w o
theorem blk_new2 (w : World) (o o' : Obj) : ((w.alloc o).alloc o').heap[w.heap.size + 1]? = some o' := by
  have := heap_alloc_new (w.alloc o) o'
  simpa using this
theorem below_row {B g : Nat} {w0 w : World} (hb : Below B w0 w) (hBg : B ≤ g) (cs : Array Value) : Below B w0 (w.setRow g cs) :=
  hb.trans ⟨rfl, rfl, rfl, by simp [World.setRow], fun k hk => setRow_other w g k cs (by omega)⟩
theorem below_allocs {B : Nat} {a w : World} (h : Below B a w) (hs : B ≤ w.heap.size) (o : Obj) : Below B a (w.alloc o) := h.alloc hs o
theorem blank_any (s : Sty) (w : World) : Calls Tryd.prog 61 #[s.val] w fun e w' => e = .returned (blankC s).val ∧ Below w.heap.size w w' := by
  obtain ⟨f, b, a⟩ := s
  unfold Sty.val Cel.val blankC
  have HB := Lib.hid (((Below.refl w.heap.size w).alloc (Nat.le_refl _) (.cells #[.int .i64 f, .int .i64 b, .int .i64 a] 33)).alloc (by simp) (.cells #[.int .i32 32, .int .i64 1, .int .i64 f, .int .i64 b, .int .i64 a] 38))
  go_enter Tryd.func61, Tryd.ntmps61
  go_wp2_with fail
  exact retRow rfl rfl rfl (blk_new2 _ _ _) Tryd.underlying38 rfl (by exact cell_info) ⟨rfl, HB.out⟩
theorem plain_any (w : World) : Calls Tryd.prog 37 #[] w fun e w' => e = .returned plainS.val ∧ Below w.heap.size w w' := by
  unfold Sty.val plainS
  go_enter Tryd.func37, Tryd.ntmps37
  go_wp2_with fail
  exact retRow rfl rfl rfl (blk_new _ _) Tryd.underlying33 rfl (by exact sty_info) ⟨rfl, (Below.refl w.heap.size w).alloc (Nat.le_refl _) _⟩
theorem refPlain_any (w : World) : Calls Tryd.prog 13 #[] w fun e w' => e = .returned plainS.val ∧ Below w.heap.size w w' := by
  unfold Sty.val plainS
  go_enter Tryd.func13, Tryd.ntmps13
  go_wp2_with fail
  exact retRow rfl rfl rfl (blk_new _ _) Tryd.underlying33 rfl (by exact sty_info) ⟨rfl, (Below.refl w.heap.size w).alloc (Nat.le_refl _) _⟩
/-- A struct's own block written whole. -/
theorem setRow_blk {w : World} {g : Nat} {old cells : Array Value} {t : TypeId} (h : w.heap[g]? = some (.cells old t (0, 0))) : (w.setRow g cells).heap[g]? = some (.cells cells t (0, 0)) := setRow_heap w g old cells t (0, 0) h
theorem letter_any (r k : Int) (w : World) : Calls Tryd.prog 15 #[.int .i32 r, .int .i64 k] w fun e w' => e = .returned (⟨r, k, plainS⟩ : Cel).val ∧ Below w.heap.size w w' := by
  unfold Cel.val
  have hb0 := blk_new w (.cells #[.int .i32 0, .int .i64 0, .int .i64 0, .int .i64 0, .int .i64 0] 38)
  have hB0 := (Below.refl w.heap.size w).alloc (Nat.le_refl _) (.cells #[.int .i32 0, .int .i64 0, .int .i64 0, .int .i64 0, .int .i64 0] 38)
  go_enter Tryd.func15, Tryd.ntmps15
  go_wp2_with fail
  refine (refPlain_any _).mono ?_
  rintro e w2 ⟨rfl, b2⟩
  have hb2 := blk_below hb0 b2 (by simp)
  have hst := run_storeVar_row (P := Tryd.prog) w2 w.heap.size 38 38 _ #[.int .i32 r, .int .i64 k, .int .i64 (-1), .int .i64 (-1), .int .i64 0] hb2 cell_info rfl (by simp [Value.oneCell'])
  have hr2 := setRow_blk (cells := #[.int .i32 r, .int .i64 k, .int .i64 (-1), .int .i64 (-1), .int .i64 0]) hb2
  have hB2 := Lib.hid (hB0.trans (b2.mono (by simp)))
  have hB3 := Lib.hid (below_row hB2.out (g := w.heap.size) (Nat.le_refl _) #[.int .i32 r, .int .i64 k, .int .i64 (-1), .int .i64 (-1), .int .i64 0])
  unfold Sty.val plainS
  clear hB0 b2
  generalize w2.setRow w.heap.size #[.int .i32 r, .int .i64 k, .int .i64 (-1), .int .i64 (-1), .int .i64 0] = w3 at *
  go_wp2_with (refine wpList_storeR rfl _ _ _ rfl hst rfl rfl ?_)
  exact retRow rfl rfl rfl hr2 Tryd.underlying38 rfl (by exact cell_info) ⟨rfl, hB3.out⟩
theorem fill_zero (l : List Cel) (x : Nat) (s : Sty) : fillL l x 0 s = l := by
  unfold fillL putAt
  simp
theorem fill_succ (l : List Cel) (x k : Nat) (s : Sty) (h : x + k < l.length) : putAt (fillL l x k s) (x + k) [blankC s] = fillL l x (k + 1) s := by
  apply List.ext_getElem?
  intro j
  have hl : (fillL l x k s).length = l.length := fillL_len _ _ _ _ (by omega)
  rw [putAt_get _ _ _ (by rw [hl]; simp; omega)]
  unfold fillL
  rw [putAt_get _ _ _ (by rw [List.length_replicate]; omega), putAt_get _ _ _ (by rw [List.length_replicate]; omega)]
  simp only [List.length_replicate, List.length_singleton, List.getElem?_replicate]
  by_cases c1 : j < x
  · rw [if_pos (show j < x + k by omega), if_pos c1, if_pos c1]
  rw [if_neg c1, if_neg c1]
  by_cases c2 : j < x + k
  · rw [if_pos c2, if_pos c2, if_pos (show j - x < k by omega), if_pos (show j < x + (k + 1) by omega), if_pos (show j - x < k + 1 by omega)]
  rw [if_neg c2, if_neg c2]
  by_cases c3 : j < x + k + 1
  · rw [if_pos c3, if_pos (show j < x + (k + 1) by omega), if_pos (show j - x < k + 1 by omega), show j - (x + k) = 0 by omega]
    rfl
  · rw [if_neg c3, if_neg (show ¬ j < x + (k + 1) by omega)]
theorem cvals_one' (c : Cel) : ∀ u ∈ (#[Value.int .i32 c.rune, .int .i64 c.width, .int .i64 c.sty.fg, .int .i64 c.sty.bg, .int .i64 c.sty.attr] : Array Value).toList, u.oneCell' = true := cvals_one [c]
set_option maxRecDepth 100000 in
set_option maxHeartbeats 2000000 in
theorem fill_any (l : List Cel) (s : Sty) (b off n c x m c' : Nat) (w : World) (h : OwnC w 0 5 (.slice (some ⟨b, off, none⟩) n c) n (cvals l)) (hn : l.length = n) (hx : x + m ≤ n) (hm : n ≤ maxLen) :
    Calls Tryd.prog 53 #[.slice (some ⟨b, off + x * 5, none⟩) m c', s.val] w fun e w' => e = .returned (.tuple #[]) ∧ w.grownBy w' (some b) ∧ OwnC w' 0 5 (.slice (some ⟨b, off, none⟩) n c) n (cvals (fillL l x m s)) := by
  have hbl := (ownC_lt h b rfl).2
  have HS0 := Lib.hid (ownC_alloc h (.cells #[.int .i64 s.fg, .int .i64 s.bg, .int .i64 s.attr] 33))
  have hb0 := blk_new w (.cells #[.int .i64 s.fg, .int .i64 s.bg, .int .i64 s.attr] 33)
  clear h
  unfold maxLen at hm
  go_enter Tryd.func53, Tryd.ntmps53
  unfold Sty.val
  go_wp2_with fail
  go_loopw [4, 7] (fun _ iv wr => ∃ k : Nat, k ≤ m ∧ iv = .int .i64 k ∧ w.grownBy wr (some b) ∧ wr.heap[w.heap.size]? = some (.cells #[.int .i64 s.fg, .int .i64 s.bg, .int .i64 s.attr] 33 (0, 0)) ∧ w.heap.size < wr.heap.size ∧
    OwnC wr 0 5 (.slice (some ⟨b, off, none⟩) n c) n (cvals (fillL l x k s))) (fun _ iv _ => m - (intOf iv).toNat)
  case atStart =>
    refine ⟨0, Nat.zero_le _, rfl, World.grownBy_alloc w _ _, hb0, by simp, ?_⟩
    rw [fill_zero]; exact HS0.out
  case round =>
    obtain ⟨k, hk, rfl, g, hb, hlt, ho⟩ := hrel
    have HG := Lib.hid g
    have HO := Lib.hid ho
    have c0 := blk_cell hb 0
    have c1 := blk_cell hb 1
    have c2 := blk_cell hb 2
    replace c0 : wr.cell? ⟨w.heap.size, 0, none⟩ = some (.int .i64 s.fg) := c0
    replace c1 : wr.cell? ⟨w.heap.size, 1, none⟩ = some (.int .i64 s.bg) := c1
    replace c2 : wr.cell? ⟨w.heap.size, 2, none⟩ = some (.int .i64 s.attr) := c2
    have HBk := Lib.hid hb
    clear g ho hb
    by_cases hlt2 : k < m
    · have hix := idx_at (P := Tryd.prog) (size := 5) Tryd.underlying51 cell_info b (off + x * 5) m c' k hlt2
      have HBL := Lib.hid (blank_any s wr)
      go_wp2_with fail
      refine HBL.out.mono ?_
      rintro e w2 ⟨rfl, b2⟩
      have hl : (fillL l x k s).length = n := by rw [fillL_len _ _ _ _ (by omega)]; exact hn
      have HO2 := Lib.hid (ownC_below HO.out b2)
      have hst := store_own (P := Tryd.prog) cell_info HO2.out (x + k) (by omega) #[.int .i32 32, .int .i64 1, .int .i64 s.fg, .int .i64 s.bg, .int .i64 s.attr] rfl (cvals_one' (blankC s))
      rw [show off + (x + k) * 5 = off + x * 5 + k * 5 by omega] at hst
      have HP := ownC_put HO2.out ((x + k) * 5) (cvals [blankC s]) (by rw [cvals_len]; simp; omega)
      rw [← cvals_put, fill_succ _ _ _ _ (by omega), show off + (x + k) * 5 = off + x * 5 + k * 5 by omega] at HP
      have HP2 := Lib.hid HP
      have HG2 := Lib.hid (gb_trans (gb_below HG.out b2 (by omega)) (gb_setCells w2 b (off + x * 5 + k * 5) (cvals [blankC s])))
      have HK2 := Lib.hid (blk_grown (blk_below HBk.out b2 hlt) (gb_setCells w2 b (off + x * 5 + k * 5) (cvals [blankC s])) (by intro e; injection e with e; omega))
      have hs2 := b2.size
      have hsz := size_setCells w2 b (off + x * 5 + k * 5) (cvals [blankC s])
      unfold Cel.val blankC
      dsimp only
      replace hst : (storeVar 38 ⟨b, off + x * 5 + k * 5, none⟩ (.agg #[.int .i32 32, .int .i64 1, .int .i64 s.fg, .int .i64 s.bg, .int .i64 s.attr])).run Tryd.prog w2 = .ok () (w2.setCells b (off + x * 5 + k * 5) (cvals [blankC s])) := hst
      generalize w2.setCells b (off + x * 5 + k * 5) (cvals [blankC s]) = w3 at *
      clear HP b2
      go_wp2_with (refine wpList_storeR rfl _ _ _ rfl hst rfl rfl ?_)
      go_roundw
      case rel => exact ⟨k + 1, by omega, by go_num, HG2.out, HK2.out, by omega, HP2.out⟩
      case measure => simp [intOf]; omega
    · have : k = m := by omega
      subst this
      go_wp2_with fail
      go_end0
      exact ⟨rfl, HG.out, HO.out⟩
end Go.Proofs.YtjclgoiclbkgjaaDoor

/- Walks of package grid: cut, may, fresh. -/
namespace Go.Proofs.YtjclgoiclbkgjaaDoor
open Go.RowKit

theorem wrap64_id (n : Int) (h1 : -9223372036854775808 ≤ n) (h2 : n ≤ 9223372036854775807) : IntKind.i64.wrap n = n := by
  unfold IntKind.wrap
  simp [IntKind.bits, IntKind.signed]
  omega
theorem ownC_cel {w : World} {base b off n c : Nat} {l : List Cel} (h : OwnC w base 5 (.slice (some ⟨b, off, none⟩) n c) n (cvals l)) (k : Nat) (hk : k < n) (hl : l.length = n) :
    w.cell? ⟨b, off + k * 5, none⟩ = some (.int .i32 (l.getD k noC).rune) ∧ w.cell? ⟨b, off + k * 5 + 1, none⟩ = some (.int .i64 (l.getD k noC).width) ∧ w.cell? ⟨b, off + k * 5 + 2, none⟩ = some (.int .i64 (l.getD k noC).sty.fg) ∧
    w.cell? ⟨b, off + k * 5 + 3, none⟩ = some (.int .i64 (l.getD k noC).sty.bg) ∧ w.cell? ⟨b, off + k * 5 + 4, none⟩ = some (.int .i64 (l.getD k noC).sty.attr) := by
  obtain ⟨e1, h2⟩ := h
  rcases h2 with ⟨e, _⟩ | ⟨b', off', c', e, hb, hbs, hnc, hcm, hcells, hxs⟩
  · simp at e
  · simp only [Value.slice.injEq, Option.some.injEq, Addr.mk.injEq] at e
    obtain ⟨⟨rfl, rfl, _⟩, _, rfl⟩ := e
    have key : ∀ i u, i < 5 → (l.getD k noC).vals[i]? = some u → w.cell? ⟨b, off + (k * 5 + i), none⟩ = some u := fun i u hi hu => hxs _ u (by rw [cvals_at l k (by omega) i hi]; exact hu)
    exact ⟨key 0 _ (by decide) rfl, key 1 _ (by decide) rfl, key 2 _ (by decide) rfl, key 3 _ (by decide) rfl, key 4 _ (by decide) rfl⟩
set_option maxRecDepth 100000 in
set_option maxHeartbeats 2000000 in
theorem cut_any (l : List Cel) (x : Int) (b off n c : Nat) (w : World) (h : OwnC w 0 5 (.slice (some ⟨b, off, none⟩) n c) n (cvals l)) (hn : l.length = n) (hm : n ≤ 1000000) (hx : -4611686018427387904 ≤ x ∧ x ≤ 4611686018427387904) :
    Calls Tryd.prog 43 #[.slice (some ⟨b, off, none⟩) n c, .int .i64 x] w fun e w' => e = .returned (.tuple #[]) ∧ w.grownBy w' (some b) ∧ OwnC w' 0 5 (.slice (some ⟨b, off, none⟩) n c) n (cvals (cutL l x)) := by
  have HO := Lib.hid h
  have hnc : n ≤ c := by
    rcases h.2 with ⟨e, _⟩ | ⟨b', off', c', e, _, _, hnc, _⟩
    · simp at e
    · simp only [Value.slice.injEq] at e; omega
  clear h
  by_cases h0 : 0 < x ∧ x < (n : Int)
  rotate_left
  · have HE := Lib.hid (show cutL l x = l by unfold cutL; rw [if_neg (by rw [hn]; omega)])
    by_cases h1 : 0 < x
    · have hd1 : decide (0 < x) = true := decide_eq_true h1
      have hd2 : decide (x < (n : Int)) = false := decide_eq_false (by omega)
      go_enter Tryd.func43, Tryd.ntmps43
      go_wp2_with fail
      go_end0
      refine ⟨rfl, gb_refl _ _, ?_⟩
      rw [HE.out]; exact HO.out
    · have hd1 : decide (0 < x) = false := decide_eq_false h1
      go_enter Tryd.func43, Tryd.ntmps43
      go_wp2_with fail
      go_end0
      refine ⟨rfl, gb_refl _ _, ?_⟩
      rw [HE.out]; exact HO.out
  obtain ⟨k, rfl⟩ : ∃ k : Nat, x = (k : Int) := ⟨x.toNat, by omega⟩
  have hd1 : decide (0 < (k : Int)) = true := decide_eq_true h0.1
  have hd2 : decide ((k : Int) < (n : Int)) = true := decide_eq_true h0.2
  have hd1' : decide (0 < k) = true := decide_eq_true (by omega)
  have hd2' : decide (k < n) = true := decide_eq_true (by omega)
  obtain ⟨c0, c1, c2, c3, c4⟩ := ownC_cel HO.out k (by omega) hn
  have hix := idx_at (P := Tryd.prog) (size := 5) Tryd.underlying51 cell_info b off n c k (by omega)
  by_cases hw : (l.getD k noC).width = 0
  · have HE := Lib.hid (show cutL l k = fillL l (k - 1) 2 (l.getD k noC).sty by unfold cutL; rw [if_pos ⟨h0.1, by rw [hn]; exact h0.2, by rw [Int.toNat_natCast]; exact hw⟩, Int.toNat_natCast])
    have hd3 : ((l.getD k noC).width == 0) = true := by rw [hw]; rfl
    have hsl := slice_lh (P := Tryd.prog) (size := 5) Tryd.underlying51 cell_info b off n c (k - 1) (k + 1) (by omega) (by omega) (by omega)
    rw [show ((k - 1 : Nat) : Int) = (k : Int) - 1 by omega, show ((k + 1 : Nat) : Int) = (k : Int) + 1 by omega, show k + 1 - (k - 1) = 2 by omega] at hsl
    have hw1 : IntKind.i64.wrap ((k : Int) - 1) = (k : Int) - 1 := wrap64_id _ (by omega) (by omega)
    have hw2 : IntKind.i64.wrap ((k : Int) + 1) = (k : Int) + 1 := wrap64_id _ (by omega) (by omega)
    generalize l.getD k noC = cc at *
    obtain ⟨cr, cw, cs⟩ := cc
    dsimp only at c0 c1 c2 c3 c4 hw hd3 HE
    have HF := Lib.hid (fun wx (ho : OwnC wx 0 5 (.slice (some ⟨b, off, none⟩) n c) n (cvals l)) => fill_any l cs b off n c (k - 1) 2 (c - (k - 1)) wx ho hn (by omega) (by unfold maxLen; omega))
    unfold Sty.val at HF
    go_enter Tryd.func43, Tryd.ntmps43
    go_upto_region 1 with fail
    go_still_tail 11, (by kernel_rfl)
    change wpList _ _ _ _ _ w.drew
    have HO1 := Lib.hid (show OwnC w.drew 0 5 (.slice (some ⟨b, off, none⟩) n c) n (cvals l) from HO.out)
    generalize hwd : w.drew = wd at *
    go_wp2_with fail
    refine (HF.out _ HO1.out).mono ?_
    rintro e w2 ⟨rfl, g2, o2⟩
    have HG2 := Lib.hid (gb_trans (show w.grownBy wd (some b) by rw [← hwd]; exact gb_drew (gb_refl _ _)) g2)
    have HO2 := Lib.hid o2
    clear g2 o2
    go_wp2_with fail
    go_end0
    refine ⟨rfl, HG2.out, ?_⟩
    rw [HE.out]; exact HO2.out
  · have HE := Lib.hid (show cutL l k = l by unfold cutL; rw [if_neg (by rw [Int.toNat_natCast]; intro hh; exact hw hh.2.2)])
    have hd3 : ((l.getD k noC).width == 0) = false := beq_eq_false_iff_ne.2 hw
    generalize l.getD k noC = cc at *
    obtain ⟨cr, cw, cs⟩ := cc
    dsimp only at c0 c1 c2 c3 c4 hw hd3
    go_enter Tryd.func43, Tryd.ntmps43
    go_wp2_with fail
    go_end0
    refine ⟨rfl, gb_refl _ _, ?_⟩
    rw [HE.out]; exact HO.out
theorem may_any (x y : Int) (w : World) : Calls Tryd.prog 35 #[.int .i64 x, .int .i64 y] w fun e w' => e = .returned (.bool (mayG x y)) ∧ w' = w := by
  by_cases h1 : 1 ≤ x
  rotate_left
  · have e : decide (1 ≤ x) = false := decide_eq_false h1
    go_enter Tryd.func35, Tryd.ntmps35
    go_wp2_with fail
    go_ret
    exact ⟨ret_bool (by unfold mayG; rw [e]; rfl), rfl⟩
  have e1 : decide (1 ≤ x) = true := decide_eq_true h1
  by_cases h2 : x ≤ 250
  rotate_left
  · have e : decide (x ≤ 250) = false := decide_eq_false h2
    go_enter Tryd.func35, Tryd.ntmps35
    go_wp2_with fail
    go_ret
    exact ⟨ret_bool (by unfold mayG; rw [e, e1]; rfl), rfl⟩
  have e2 : decide (x ≤ 250) = true := decide_eq_true h2
  by_cases h3 : 1 ≤ y
  rotate_left
  · have e : decide (1 ≤ y) = false := decide_eq_false h3
    go_enter Tryd.func35, Tryd.ntmps35
    go_wp2_with fail
    go_ret
    exact ⟨ret_bool (by unfold mayG; rw [e, e1, e2]; rfl), rfl⟩
  have e3 : decide (1 ≤ y) = true := decide_eq_true h3
  cases h4 : decide (y ≤ 120)
  · go_enter Tryd.func35, Tryd.ntmps35
    go_wp2_with fail
    go_ret
    exact ⟨ret_bool (by unfold mayG; rw [e1, e2, e3, h4]; rfl), rfl⟩
  · go_enter Tryd.func35, Tryd.ntmps35
    go_wp2_with fail
    go_ret
    exact ⟨ret_bool (by unfold mayG; rw [e1, e2, e3, h4]; rfl), rfl⟩
end Go.Proofs.YtjclgoiclbkgjaaDoor
