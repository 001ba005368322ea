/- What of memory is one's own, and how it changes. -/
import Derived.Test.YtjclgoiclbkgjaaDoorOwn4
namespace Go.Proofs.YtjclgoiclbkgjaaDoor
open Go.RowKit

/-- Only blocks of G have changed. -/
structure Within (G : Nat → Prop) (w w' : World) : Prop where
  os : w'.os = w.os
  tape : w'.tape = w.tape
  output : w'.output = w.output
  size : w.heap.size ≤ w'.heap.size
  block : ∀ k, k < w.heap.size → ¬ G k → w'.heap[k]? = w.heap[k]?
theorem Within.refl (G : Nat → Prop) (w : World) : Within G w w := ⟨rfl, rfl, rfl, Nat.le_refl _, fun _ _ _ => rfl⟩
theorem Within.trans {G : Nat → Prop} {a b c : World} (h : Within G a b) (g : Within G b c) : Within G a c :=
  ⟨g.os.trans h.os, g.tape.trans h.tape, g.output.trans h.output, Nat.le_trans h.size g.size, fun k hk hg => (g.block k (Nat.lt_of_lt_of_le hk h.size) hg).trans (h.block k hk hg)⟩
/-- Only blocks of tag t have changed (tags 3 and 7: what is told). -/
structure Mod (T : Nat → Nat) (t : Nat → Prop) (w w' : World) : Prop where
  os : w'.os = w.os
  tape : w'.tape = w.tape
  output : w'.output = w.output
  size : w.heap.size ≤ w'.heap.size
  block : ∀ k, k < w.heap.size → ¬ t (T k) → w'.heap[k]? = w.heap[k]?
theorem Mod.of_gb {T : Nat → Nat} {t : Nat → Prop} {w w' : World} {row : Option Nat} (g : w.grownBy w' row) (h : ∀ k, row = some k → t (T k)) : Mod T t w w' :=
  ⟨g.os, g.tape, g.output, g.size, fun k hk ht => g.block k hk (fun e => ht (h k e.symm))⟩
theorem Mod.trans {T : Nat → Nat} {t : Nat → Prop} {a b c : World} (h : Mod T t a b) (g : Mod T t b c) : Mod T t a c :=
  ⟨g.os.trans h.os, g.tape.trans h.tape, g.output.trans h.output, Nat.le_trans h.size g.size, fun k hk ht => (g.block k (Nat.lt_of_lt_of_le hk h.size) ht).trans (h.block k hk ht)⟩

theorem Mod.retag {T T' : Nat → Nat} {t : Nat → Prop} {w w' : World} (h : Mod T t w w') (e : ∀ k, k < w.heap.size → T' k = T k) : Mod T' t w w' :=
  ⟨h.os, h.tape, h.output, h.size, fun k hk ht => h.block k hk (by rw [← e k hk]; exact ht)⟩

structure Arena (G : Nat → Prop) (T : Nat → Nat) (w : World) : Prop where
  tl : ∀ k, T k ≠ 0 → k < w.heap.size ∧ G k
  gn : ∀ k, w.heap.size ≤ k → G k
theorem Arena.mono {G : Nat → Prop} {T : Nat → Nat} {w w' : World} (h : Arena G T w) (hs : w.heap.size ≤ w'.heap.size) : Arena G T w' :=
  ⟨fun k hk => ⟨Nat.lt_of_lt_of_le (h.tl k hk).1 hs, (h.tl k hk).2⟩, fun k hk => h.gn k (Nat.le_trans hs hk)⟩
theorem Mod.within {G : Nat → Prop} {T : Nat → Nat} {t : Nat → Prop} {w w' : World} (h : Mod T t w w') (hA : Arena G T w) (ht : ¬ t 0) : Within G w w' :=
  ⟨h.os, h.tape, h.output, h.size, fun k hk hg => h.block k hk (fun e => by
    by_cases h0 : T k = 0
    · rw [h0] at e; exact ht e
    · exact hg (hA.tl k h0).2)⟩
/-- New blocks get the tag t. -/
def adopt (T : Nat → Nat) (a b t : Nat) : Nat → Nat := fun k => if a ≤ k ∧ k < b then t else T k
theorem adopt_old {T : Nat → Nat} {a b t k : Nat} (h : k < a) : adopt T a b t k = T k := by unfold adopt; rw [if_neg (by omega)]
theorem adopt_new {T : Nat → Nat} {a b t k : Nat} (h : a ≤ k) (h2 : k < b) : adopt T a b t k = t := by unfold adopt; rw [if_pos ⟨h, h2⟩]
theorem Arena.adopt {G : Nat → Prop} {T : Nat → Nat} {w w' : World} (h : Arena G T w) (hs : w.heap.size ≤ w'.heap.size) (t : Nat) : Arena G (adopt T w.heap.size w'.heap.size t) w' := by
  refine ⟨fun k hk => ?_, fun k hk => h.gn k (Nat.le_trans hs hk)⟩
  by_cases hn : w.heap.size ≤ k ∧ k < w'.heap.size
  · exact ⟨hn.2, h.gn k hn.1⟩
  · unfold _root_.Go.Proofs.YtjclgoiclbkgjaaDoor.adopt at hk
    rw [if_neg hn] at hk
    exact (h.mono hs).tl k hk

/-- A buffer with its tag. -/
structure Row (T : Nat → Nat) (t size : Nat) (v : Value) (n : Nat) (xs : List Value) (w : World) : Prop where
  own : OwnC w 0 size v n xs
  tag : ∀ k, v.ownBlock = some k → T k = t
theorem Row.mod {T : Nat → Nat} {t size : Nat} {v : Value} {n : Nat} {xs : List Value} {w w' : World} {q : Nat → Prop} (h : Row T t size v n xs w) (m : Mod T q w w') (hq : ¬ q t) : Row T t size v n xs w' :=
  ⟨ownC_blocks h.own m.size fun k hk => m.block k (ownC_lt h.own k hk).2 (by rw [h.tag k hk]; exact hq), h.tag⟩
theorem Row.retag {T T' : Nat → Nat} {t t' size : Nat} {v : Value} {n : Nat} {xs : List Value} {w : World} (h : Row T t size v n xs w) (e : ∀ k, k < w.heap.size → T k = t → T' k = t') : Row T' t' size v n xs w :=
  ⟨h.own, fun k hk => e k (ownC_lt h.own k hk).2 (h.tag k hk)⟩
theorem row_nil (T : Nat → Nat) (t size : Nat) (w : World) : Row T t size (.slice none 0 0) 0 [] w := ⟨ownC_nil _ _ _, fun k hk => by simp [Value.ownBlock] at hk⟩
/-- What one may turn: one's own blocks, and new ones. -/
def own (T : Nat → Nat) (w : World) : Nat → Prop := fun k => T k ≠ 0 ∨ w.heap.size ≤ k
theorem within_below {G : Nat → Prop} {B : Nat} {w w' : World} (h : Within G w w') (hB : B ≤ w.heap.size) (hG : ∀ k, k < B → ¬ G k) : Below B w w' :=
  ⟨h.os, h.tape, h.output, h.size, fun k hk => h.block k (by omega) (hG k hk)⟩
theorem own_below {T : Nat → Nat} {B : Nat} {w w' : World} (h : Within (own T w) w w') (hB : B ≤ w.heap.size) (hT : ∀ k, T k ≠ 0 → B ≤ k) : Below B w w' :=
  within_below h hB fun k hk hg => by
    rcases hg with hg | hg
    · have := hT k hg; omega
    · omega
theorem own_from {T T' : Nat → Nat} {B : Nat} {w : World} (ht : ∀ k, T' k ≠ 0 → own T w k) (hB : B ≤ w.heap.size) (hT : ∀ k, T k ≠ 0 → B ≤ k) : ∀ k, T' k ≠ 0 → B ≤ k := fun k hk => by
  rcases ht k hk with h | h
  · exact hT k h
  · omega
theorem Mod.of_below {T : Nat → Nat} {w w' : World} (h : Below w.heap.size w w') : Mod T (fun _ => False) w w' := ⟨h.os, h.tape, h.output, h.size, fun k hk _ => h.block k hk⟩
theorem Within.of_below {G : Nat → Prop} {w w' : World} (h : Below w.heap.size w w') : Within G w w' := ⟨h.os, h.tape, h.output, h.size, fun k hk _ => h.block k hk⟩
theorem Within.of_gb {G : Nat → Prop} {w w' : World} {row : Option Nat} (h : w.grownBy w' row) (hg : ∀ k, row = some k → G k) : Within G w w' := ⟨h.os, h.tape, h.output, h.size, fun k hk hn => h.block k hk (fun e => hn (hg k e.symm))⟩
theorem Within.mono {G G' : Nat → Prop} {w w' : World} (h : Within G w w') (hg : ∀ k, G k → G' k) : Within G' w w' := ⟨h.os, h.tape, h.output, h.size, fun k hk hn => h.block k hk (fun e => hn (hg k e))⟩
end Go.Proofs.YtjclgoiclbkgjaaDoor
