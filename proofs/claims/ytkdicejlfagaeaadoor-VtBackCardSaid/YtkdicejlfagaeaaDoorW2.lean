/- Package vtparse: what of memory is the parser's, and how it changes. -/
import Derived.Test.YtkdicejlfagaeaaDoorW1
namespace Go.Proofs.YtkdicejlfagaeaaDoor
open Go.RowKit

/-- Only blocks of G have changed. -/
structure Within (G : Nat → Prop) (w w' : World) : Prop where
  os : w'.os = w.os
  tape : w'.tape = w.tape
  output : w'.output = w.output
  size : w.heap.size ≤ w'.heap.size
  block : ∀ k, k < w.heap.size → ¬ G k → w'.heap[k]? = w.heap[k]?
theorem Within.refl (G : Nat → Prop) (w : World) : Within G w w := ⟨rfl, rfl, rfl, Nat.le_refl _, fun _ _ _ => rfl⟩
theorem Within.trans {G : Nat → Prop} {a b c : World} (h : Within G a b) (g : Within G b c) : Within G a c :=
  ⟨g.os.trans h.os, g.tape.trans h.tape, g.output.trans h.output, Nat.le_trans h.size g.size, fun k hk hg => (g.block k (Nat.lt_of_lt_of_le hk h.size) hg).trans (h.block k hk hg)⟩
/-- Only blocks of tag t have changed (tags 3 and 7: what is told). -/
structure Mod (T : Nat → Nat) (t : Nat → Prop) (w w' : World) : Prop where
  os : w'.os = w.os
  tape : w'.tape = w.tape
  output : w'.output = w.output
  size : w.heap.size ≤ w'.heap.size
  block : ∀ k, k < w.heap.size → ¬ t (T k) → w'.heap[k]? = w.heap[k]?
theorem Mod.of_gb {T : Nat → Nat} {t : Nat → Prop} {w w' : World} {row : Option Nat} (g : w.grownBy w' row) (h : ∀ k, row = some k → t (T k)) : Mod T t w w' :=
  ⟨g.os, g.tape, g.output, g.size, fun k hk ht => g.block k hk (fun e => ht (h k e.symm))⟩
theorem Mod.trans {T : Nat → Nat} {t : Nat → Prop} {a b c : World} (h : Mod T t a b) (g : Mod T t b c) : Mod T t a c :=
  ⟨g.os.trans h.os, g.tape.trans h.tape, g.output.trans h.output, Nat.le_trans h.size g.size, fun k hk ht => (g.block k (Nat.lt_of_lt_of_le hk h.size) ht).trans (h.block k hk ht)⟩

theorem Mod.retag {T T' : Nat → Nat} {t : Nat → Prop} {w w' : World} (h : Mod T t w w') (e : ∀ k, k < w.heap.size → T' k = T k) : Mod T' t w w' :=
  ⟨h.os, h.tape, h.output, h.size, fun k hk ht => h.block k hk (by rw [← e k hk]; exact ht)⟩

structure Arena (G : Nat → Prop) (T : Nat → Nat) (w : World) : Prop where
  tl : ∀ k, T k ≠ 0 → k < w.heap.size ∧ G k
  gn : ∀ k, w.heap.size ≤ k → G k
theorem Arena.mono {G : Nat → Prop} {T : Nat → Nat} {w w' : World} (h : Arena G T w) (hs : w.heap.size ≤ w'.heap.size) : Arena G T w' :=
  ⟨fun k hk => ⟨Nat.lt_of_lt_of_le (h.tl k hk).1 hs, (h.tl k hk).2⟩, fun k hk => h.gn k (Nat.le_trans hs hk)⟩
theorem Mod.within {G : Nat → Prop} {T : Nat → Nat} {t : Nat → Prop} {w w' : World} (h : Mod T t w w') (hA : Arena G T w) (ht : ¬ t 0) : Within G w w' :=
  ⟨h.os, h.tape, h.output, h.size, fun k hk hg => h.block k hk (fun e => by
    by_cases h0 : T k = 0
    · rw [h0] at e; exact ht e
    · exact hg (hA.tl k h0).2)⟩
/-- New blocks get the tag t. -/
def adopt (T : Nat → Nat) (a b t : Nat) : Nat → Nat := fun k => if a ≤ k ∧ k < b then t else T k
theorem adopt_old {T : Nat → Nat} {a b t k : Nat} (h : k < a) : adopt T a b t k = T k := by unfold adopt; rw [if_neg (by omega)]
theorem adopt_new {T : Nat → Nat} {a b t k : Nat} (h : a ≤ k) (h2 : k < b) : adopt T a b t k = t := by unfold adopt; rw [if_pos ⟨h, h2⟩]
theorem Arena.adopt {G : Nat → Prop} {T : Nat → Nat} {w w' : World} (h : Arena G T w) (hs : w.heap.size ≤ w'.heap.size) (t : Nat) : Arena G (adopt T w.heap.size w'.heap.size t) w' := by
  refine ⟨fun k hk => ?_, fun k hk => h.gn k (Nat.le_trans hs hk)⟩
  by_cases hn : w.heap.size ≤ k ∧ k < w'.heap.size
  · exact ⟨hn.2, h.gn k hn.1⟩
  · unfold _root_.Go.Proofs.YtkdicejlfagaeaaDoor.adopt at hk
    rw [if_neg hn] at hk
    exact (h.mono hs).tl k hk

/-- A buffer with its tag. -/
structure Row (T : Nat → Nat) (t size : Nat) (v : Value) (n : Nat) (xs : List Value) (w : World) : Prop where
  own : OwnC w 0 size v n xs
  tag : ∀ k, v.ownBlock = some k → T k = t
theorem Row.mod {T : Nat → Nat} {t size : Nat} {v : Value} {n : Nat} {xs : List Value} {w w' : World} {q : Nat → Prop} (h : Row T t size v n xs w) (m : Mod T q w w') (hq : ¬ q t) : Row T t size v n xs w' :=
  ⟨ownC_blocks h.own m.size fun k hk => m.block k (ownC_lt h.own k hk).2 (by rw [h.tag k hk]; exact hq), h.tag⟩
theorem Row.retag {T T' : Nat → Nat} {t t' size : Nat} {v : Value} {n : Nat} {xs : List Value} {w : World} (h : Row T t size v n xs w) (e : ∀ k, k < w.heap.size → T k = t → T' k = t') : Row T' t' size v n xs w :=
  ⟨h.own, fun k hk => e k (ownC_lt h.own k hk).2 (h.tag k hk)⟩
theorem row_nil (T : Nat → Nat) (t size : Nat) (w : World) : Row T t size nilS 0 [] w := ⟨ownC_nil _ _ _, fun k hk => by simp [nilS, Value.ownBlock] at hk⟩

structure Core (u : Bool) (T : Nat → Nat) (p d : Nat) (tell vi vp vt : Value) (w : World) (s : PSt) : Prop where
  blk : w.heap[p]? = some (.cells (s.cells d tell vi vp vt) 45 (0, 0))
  dec : DecAt w d s.dec
  dok : s.dec.ok
  ri : Row T 4 1 vi s.inter.length (byteVals s.inter) w
  rp : u = true → Row T 5 1 vp s.params.length (s.params.map (Value.int .i64)) w
  rt : Row T 6 1 vt s.text.length (byteVals s.text) w
  tp : T p = 1
  td : T d = 2
structure Told (G : Nat → Prop) (T : Nat → Nat) (o : Nat) (vo : Value) (w : World) (L : List (VAct × Value)) : Prop where
  blk : w.heap[o]? = some (.cells #[vo] 22 (0, 0))
  ro : Row T 7 6 vo L.length (actCells L) w
  tg : T o = 3
  told : ∀ x ∈ L, Row T 0 1 x.2 x.1.params.length (x.1.params.map (Value.int .i64)) w ∧ ∀ k, x.2.ownBlock = some k → G k
theorem Core.mod {u : Bool} {T : Nat → Nat} {p d : Nat} {tell vi vp vt : Value} {w w' : World} {s : PSt} {q : Nat → Prop} (h : Core u T p d tell vi vp vt w s) (m : Mod T q w w')
    (h1 : ¬ q 1) (h2 : ¬ q 2) (h4 : ¬ q 4) (h5 : ¬ q 5) (h6 : ¬ q 6) : Core u T p d tell vi vp vt w' s :=
  ⟨(m.block p (heap_lt h.blk) (by rw [h.tp]; exact h1)).trans h.blk, (m.block d (heap_lt h.dec) (by rw [h.td]; exact h2)).trans h.dec, h.dok, h.ri.mod m h4, fun hu => (h.rp hu).mod m h5, h.rt.mod m h6, h.tp, h.td⟩
theorem Core.retag {u : Bool} {T T' : Nat → Nat} {p d : Nat} {tell vi vp vt : Value} {w : World} {s : PSt} (h : Core u T p d tell vi vp vt w s) (e : ∀ k, k < w.heap.size → T' k = T k) : Core u T' p d tell vi vp vt w s :=
  ⟨h.blk, h.dec, h.dok, h.ri.retag fun k hk ht => (e k hk).trans ht, fun hu => (h.rp hu).retag fun k hk ht => (e k hk).trans ht, h.rt.retag fun k hk ht => (e k hk).trans ht, (e _ (heap_lt h.blk)).trans h.tp, (e _ (heap_lt h.dec)).trans h.td⟩
/-- The parser's own block was written. -/
theorem Core.put {u u' : Bool} {T : Nat → Nat} {p d : Nat} {tell tell' vi vp vt vi' vp' vt' : Value} {w w' : World} {s s' : PSt} (h : Core u T p d tell vi vp vt w s) (g : w.grownBy w' (some p))
    (hb : w'.heap[p]? = some (.cells (s'.cells d tell' vi' vp' vt') 45 (0, 0))) (hd : s'.dec = s.dec)
    (ri : Row T 4 1 vi' s'.inter.length (byteVals s'.inter) w) (rp : u' = true → Row T 5 1 vp' s'.params.length (s'.params.map (Value.int .i64)) w) (rt : Row T 6 1 vt' s'.text.length (byteVals s'.text) w) : Core u' T p d tell' vi' vp' vt' w' s' := by
  have m : Mod T (fun x => x = 1) w w' := Mod.of_gb g (fun k hk => by injection hk with hk; subst hk; exact h.tp)
  exact ⟨hb, by rw [hd]; exact (m.block d (heap_lt h.dec) (by rw [h.td]; decide)).trans h.dec, by rw [hd]; exact h.dok, ri.mod m (by decide), fun hu => (rp hu).mod m (by decide), rt.mod m (by decide), h.tp, h.td⟩
theorem Told.mod {G : Nat → Prop} {T : Nat → Nat} {o : Nat} {vo : Value} {w w' : World} {L : List (VAct × Value)} {q : Nat → Prop} (h : Told G T o vo w L) (m : Mod T q w w') (h3 : ¬ q 3) (h7 : ¬ q 7) (h0 : ¬ q 0) : Told G T o vo w' L :=
  ⟨(m.block o (heap_lt h.blk) (by rw [h.tg]; exact h3)).trans h.blk, h.ro.mod m h7, h.tg, fun x hx => ⟨(h.told x hx).1.mod m h0, (h.told x hx).2⟩⟩
theorem Told.retag {G : Nat → Prop} {T T' : Nat → Nat} {o : Nat} {vo : Value} {w : World} {L : List (VAct × Value)} (h : Told G T o vo w L) (e : ∀ k, k < w.heap.size → T' k = T k) : Told G T' o vo w L :=
  ⟨h.blk, h.ro.retag fun k hk ht => (e k hk).trans ht, (e _ (heap_lt h.blk)).trans h.tg, fun x hx => ⟨(h.told x hx).1.retag fun k hk ht => (e k hk).trans ht, (h.told x hx).2⟩⟩

def InvT (G : Nat → Prop) (u : Bool) (T : Nat → Nat) (p o : Nat) (w : World) (s : PSt) (acts : List VAct) : Prop :=
  ∃ d vi vp vt vo L, L.map (·.1) = acts ∧ Arena G T w ∧ Core u T p d (tellV o) vi vp vt w s ∧ Told G T o vo w L
def InvO (G : Nat → Prop) (u : Bool) (p o : Nat) (w : World) (s : PSt) (acts : List VAct) : Prop := ∃ T, InvT G u T p o w s acts

theorem begin_inv {G : Nat → Prop} {u : Bool} {T : Nat → Nat} {p o : Nat} {w : World} {s : PSt} {acts : List VAct} (st : Int) (h : InvT G u T p o w s acts) :
    Calls Tryd.prog 32 #[.pointer (some ⟨p, 0, none⟩), .int .i64 st] w fun e w' => e = .returned (.tuple #[]) ∧ Within G w w' ∧ InvT G true T p o w' (s.begun st) acts := by
  obtain ⟨d, vi, vp, vt, vo, L, hL, hA, hC, hT⟩ := h
  refine (parBegin_any p d s (tellV o) vi vp vt st w hC.blk).mono ?_
  rintro e w' ⟨rfl, g, hb⟩
  have m : Mod T (fun x => x = 1) w w' := Mod.of_gb g (fun k hk => by injection hk with hk; subst hk; exact hC.tp)
  exact ⟨rfl, m.within hA (by decide), d, nilS, nilS, nilS, vo, L, hL, hA.mono g.size, hC.put g hb rfl (row_nil _ _ _ _) (fun _ => row_nil _ _ _ _) (row_nil _ _ _ _), hT.mod m (by decide) (by decide) (by decide)⟩

/-- What tell does with what was told before. -/
theorem tell_told {G : Nat → Prop} {T : Nat → Nat} {p o : Nat} {vo : Value} {w : World} {L : List (VAct × Value)} {a : VAct} {v : Value} (hA : Arena G T w) (hT : Told G T o vo w L) (hv : Row T 0 1 v a.params.length (a.params.map (Value.int .i64)) w) (hg : ∀ k, v.ownBlock = some k → G k) (hn : L.length ≤ 1000000000) :
    Calls Tryd.prog 19 #[a.val v, .pointer (some ⟨o, 0, none⟩)] w fun e w' => e = .returned (.tuple #[]) ∧ Mod T (fun x => x = 3 ∨ x = 7) w w' ∧ ∃ T' vo', (∀ k, k < w.heap.size → T' k = T k) ∧ Arena G T' w' ∧ Told G T' o vo' w' (L ++ [(a, v)]) := by
  have _ := p
  have hne : vo.ownBlock ≠ some o := fun e => by have h1 := hT.ro.tag o e; have h2 := hT.tg; omega
  refine (tell_any a v o vo L.length (actCells L) w (ownC_form hv.own) hT.blk hT.ro.own hne hn).mono ?_
  rintro e w' ⟨rfl, vo', hb, ho, hnew, h1, h2, h3, h4, h5⟩
  have m : Mod T (fun x => x = 3 ∨ x = 7) w w' := ⟨h1, h2, h3, h4, fun k hk ht => h5 k hk (fun e => ht (by subst e; exact .inl hT.tg)) (fun e => ht (.inr (hT.ro.tag k e)))⟩
  have ad : ∀ k, k < w.heap.size → adopt T w.heap.size w'.heap.size 7 k = T k := fun k hk => adopt_old hk
  have hTr := hT.retag ad
  refine ⟨rfl, m, adopt T w.heap.size w'.heap.size 7, vo', ad, hA.adopt h4 7, hb, ⟨?_, fun k hk => ?_⟩, ?_, fun x hx => ?_⟩
  · rw [List.length_append, actCells_snoc]; exact ho
  · rcases hnew k hk with h | h
    · rw [ad k (ownC_lt hT.ro.own k h).2]; exact hT.ro.tag k h
    · exact adopt_new h (ownC_lt ho k hk).2
  · rw [ad o (heap_lt hT.blk)]; exact hT.tg
  · have key : ∀ (x : VAct × Value), Row T 0 1 x.2 x.1.params.length (x.1.params.map (Value.int .i64)) w → Row (adopt T w.heap.size w'.heap.size 7) 0 1 x.2 x.1.params.length (x.1.params.map (Value.int .i64)) w' := fun x h => by
      have h' := h.mod m (by decide)
      exact ⟨h'.own, fun k hk => by rw [ad k (ownC_lt h.own k hk).2]; exact h.tag k hk⟩
    rw [List.mem_append, List.mem_singleton] at hx
    rcases hx with hx | rfl
    · exact ⟨key x (hT.told x hx).1, (hT.told x hx).2⟩
    · exact ⟨key _ hv, hg⟩
theorem tell_inv {G : Nat → Prop} {u : Bool} {T : Nat → Nat} {p o : Nat} {w : World} {s : PSt} {acts : List VAct} (a : VAct) (ha : a.params = []) (h : InvT G u T p o w s acts) (hn : acts.length ≤ 1000000000) :
    Calls Tryd.prog 19 #[a.val nilS, .pointer (some ⟨o, 0, none⟩)] w fun e w' => e = .returned (.tuple #[]) ∧ Within G w w' ∧ Mod T (fun x => x = 3 ∨ x = 7) w w' ∧ ∃ T', (∀ k, k < w.heap.size → T' k = T k) ∧ InvT G u T' p o w' s (acts ++ [a]) := by
  obtain ⟨d, vi, vp, vt, vo, L, hL, hA, hC, hT⟩ := h
  have hv : Row T 0 1 nilS a.params.length (a.params.map (Value.int .i64)) w := by rw [ha]; exact row_nil _ _ _ _
  refine (tell_told (p := p) hA hT hv (fun k hk => by simp [nilS, Value.ownBlock] at hk) (by rw [← hL, List.length_map] at hn; exact hn)).mono ?_
  rintro e w' ⟨rfl, m, T', vo', ht, hA', hT'⟩
  exact ⟨rfl, m.within hA (by decide), m, T', ht, d, vi, vp, vt, vo', L ++ [(a, nilS)], by rw [List.map_append, hL]; rfl, hA', (hC.retag ht).mod (m.retag ht) (by decide) (by decide) (by decide) (by decide) (by decide), hT'⟩
end Go.Proofs.YtkdicejlfagaeaaDoor
