/- Package grid, texts laid together: Base Opq Own Own2 Own3 Rd Own4. -/
import Derived.WalkKit
import Derived.WalkSpells
import Derived.WalkLawsBesides
import Derived.BigQuiet
import Derived.Lib.Hide
import Derived.Deep.QuietTactic
import Derived.ArgAppend
import Derived.Laws.IdiomCopy
import Derived.Laws.IdiomStrings
import Derived.Deep.Upon
import Derived.Deep.AppendSrc
import Derived.Lib.AppendStr
import Derived.Lib.FrozenHead
import Derived.Lib.AppendIntMem
import Derived.Lib.ItoaNum
import Derived.Deep.RegionLaw
import Derived.Deep.DeepCutAuto
import Derived.Test.YtjclgoiclbkgjaaDoorRows
/- Small plain lemmas for the walks: lists, worlds. -/
namespace Go.Proofs.YtjclgoiclbkgjaaDoor
open Go.RowKit

theorem ret_int {k : IntKind} {a b : Int} (h : a = b) : Ending.returned (.int k a) = .returned (.int k b) := by rw [h]
theorem ret_bool {a b : Bool} (h : a = b) : Ending.returned (.bool a) = .returned (.bool b) := by rw [h]
theorem int_eq {k : IntKind} {a b : Int} (h : a = b) : Value.int k a = Value.int k b := by rw [h]

theorem take_succ_getD {α : Type} (l : List α) (d : α) (k : Nat) (h : k < l.length) : l.take (k + 1) = l.take k ++ [l.getD k d] := by
  rw [List.take_succ_eq_append_getElem h, List.getD_eq_getElem?_getD, List.getElem?_eq_getElem h]; rfl

theorem below_cell {W w1 : World} {B : Nat} (hb : Below B W w1) {b o : Nat} {v : Value} (hB : b < B) (h : W.cell? ⟨b, o, none⟩ = some v) : w1.cell? ⟨b, o, none⟩ = some v := by
  rw [hb.cell (p := ⟨b, o, none⟩) hB]; exact h


theorem ret1v {P : Program} {fn : Func} {R : Ending → World → Prop} {a : Act} {w : World} {t : Tmp} {v : Value} (h : fn.results = #[.tmp t]) (hd : a.defers = []) (hv : a.tmps.getD t undef = v) (hR : R (.returned v) w) :
    bodyPost P fn R .ret a w := by
  subst hv; exact bodyPost_ret (results_tmp h _ _ _) hd hR

/-! Blocks. -/
theorem heap_lt {w : World} {p : Nat} {o : Obj} (h : w.heap[p]? = some o) : p < w.heap.size := (Array.getElem?_eq_some_iff.1 h).1
theorem blk_cell {w : World} {p : Nat} {c : Array Value} {T : TypeId} {fr : Nat × Nat} (h : w.heap[p]? = some (.cells c T fr)) (i : Nat) : w.cell? ⟨p, i, none⟩ = c[i]? := by
  simp [World.cell?, h]
theorem blk_free {w : World} {p : Nat} {c : Array Value} {T : TypeId} (h : w.heap[p]? = some (.cells c T (0, 0))) (i : Nat) : w.frozen? ⟨p, i, none⟩ = false := by
  simp [World.frozen?, h]
theorem blk_set {w : World} {p : Nat} {c : Array Value} {T : TypeId} (h : w.heap[p]? = some (.cells c T (0, 0))) (i : Nat) (v : Value) : (w.setCell ⟨p, i, none⟩ v).heap[p]? = some (.cells (c.setIfInBounds i v) T (0, 0)) :=
  heap_setCell_same w p i c T v h
theorem blk_set_other {w : World} {p q : Nat} {o : Obj} (h : w.heap[p]? = some o) (hq : p ≠ q) (i : Nat) (v : Value) : (w.setCell ⟨q, i, none⟩ v).heap[p]? = some o := by
  rw [heap_setCell_other w ⟨q, i, none⟩ p v hq]; exact h
theorem blk_alloc {w : World} {p : Nat} {o : Obj} (h : w.heap[p]? = some o) (o' : Obj) : (w.alloc o').heap[p]? = some o := by
  rw [_root_.Go.heap_alloc_old w o' (heap_lt h)]; exact h
theorem blk_drew {w : World} {p : Nat} {o : Obj} (h : w.heap[p]? = some o) : w.drew.heap[p]? = some o := h
theorem blk_grown {w w' : World} {p : Nat} {o : Obj} {row : Option Nat} (h : w.heap[p]? = some o) (g : w.grownBy w' row) (hne : some p ≠ row) : w'.heap[p]? = some o := by
  rw [g.block p (heap_lt h) hne]; exact h
theorem blk_below {w w' : World} {p B : Nat} {o : Obj} (h : w.heap[p]? = some o) (g : Below B w w') (hB : p < B) : w'.heap[p]? = some o := by
  rw [g.block p hB]; exact h

theorem gb_refl (w : World) (row : Option Nat) : w.grownBy w row := ⟨rfl, rfl, rfl, Nat.le_refl _, fun _ _ _ => rfl⟩
theorem gb_trans {a b c : World} {row : Option Nat} (h : a.grownBy b row) (g : b.grownBy c row) : a.grownBy c row :=
  ⟨g.os.trans h.os, g.tape.trans h.tape, g.output.trans h.output, Nat.le_trans h.size g.size, fun k hk hr => (g.block k (Nat.lt_of_lt_of_le hk h.size) hr).trans (h.block k hk hr)⟩
theorem gb_alloc {a b : World} {row : Option Nat} (h : a.grownBy b row) (o : Obj) : a.grownBy (b.alloc o) row := gb_trans h (World.grownBy_alloc b o row)
theorem gb_drew {a b : World} {row : Option Nat} (h : a.grownBy b row) : a.grownBy b.drew row := gb_trans h ⟨rfl, rfl, rfl, Nat.le_refl _, fun _ _ _ => rfl⟩
theorem gb_set {a b : World} {p : Nat} (h : a.grownBy b (some p)) (i : Nat) (v : Value) : a.grownBy (b.setCell ⟨p, i, none⟩ v) (some p) :=
  gb_trans h ⟨rfl, rfl, rfl, by simp, fun k _ hr => heap_setCell_other b ⟨p, i, none⟩ k v (fun e => hr (by rw [e]))⟩
/-- A store into a block that was not there. -/
theorem gb_set_new {a b : World} {row : Option Nat} (h : a.grownBy b row) {q : Nat} (hq : a.heap.size ≤ q) (i : Nat) (v : Value) : a.grownBy (b.setCell ⟨q, i, none⟩ v) row :=
  ⟨h.os, h.tape, h.output, Nat.le_trans h.size (by simp), fun k hk hr => (heap_setCell_other b ⟨q, i, none⟩ k v (by show k ≠ q; omega)).trans (h.block k hk hr)⟩
/-- What happened in new blocks. -/
theorem gb_below {a b c : World} {row : Option Nat} (h : a.grownBy b row) {B : Nat} (g : Below B b c) (hB : a.heap.size ≤ B) : a.grownBy c row :=
  ⟨g.os.trans h.os, g.tape.trans h.tape, g.output.trans h.output, Nat.le_trans h.size g.size, fun k hk hr => (g.block k (Nat.lt_of_lt_of_le hk hB)).trans (h.block k hk hr)⟩
theorem gb_of_below {b c : World} (row : Option Nat) (g : Below b.heap.size b c) : b.grownBy c row := gb_below (gb_refl b row) g (Nat.le_refl _)
/-- A step that writes a block that was not there. -/
theorem gb_trans_new {a b c : World} {row row' : Option Nat} (h : a.grownBy b row) (g : b.grownBy c row') (hn : ∀ q, row' = some q → a.heap.size ≤ q) : a.grownBy c row :=
  ⟨g.os.trans h.os, g.tape.trans h.tape, g.output.trans h.output, Nat.le_trans h.size g.size, fun k hk hr => (g.block k (Nat.lt_of_lt_of_le hk h.size) (fun e => by have := hn k e.symm; omega)).trans (h.block k hk hr)⟩
theorem ownsRow_new {w : World} {base g n : Nat} {e : TypeId} {size : Nat} (cs : Array Value) (xs : List Value) (hg : g = w.heap.size) (hb : base ≤ w.heap.size) (hm : n ≤ maxLen) (hs : cs.size = n * size) (hx : cs.toList = xs) :
    (w.alloc (.cells cs e)).ownsRow base e size (.slice (some ⟨g, 0, none⟩) n n) n xs := by
  subst hg hx; exact World.ownsRow_lit w cs n hb hm hs
theorem below_of_gb {a b : World} {row : Option Nat} {B : Nat} (h : a.grownBy b row) (hB : B ≤ a.heap.size) (hn : ∀ q, row = some q → B ≤ q) : Below B a b :=
  ⟨h.os, h.tape, h.output, h.size, fun k hk => h.block k (Nat.lt_of_lt_of_le hk hB) (fun e => by have := hn k e.symm; omega)⟩

/-! A goal that the walk does not go on with: 'refine held ?_' in an arm, 'unfold Held' behind. -/
def Held (p : Prop) : Prop := p
theorem held {p : Prop} (h : Held p) : p := h

/-- What the program's table says of slices of type t. -/
structure Elem (P : Program) (t e : TypeId) (size bytes : Nat) (z : Value) : Prop where
  und : P.underlying t = some (.slice e)
  info : (P.info? e).map (fun i => (i.zero, i.size, i.bytes)) = some (some z, size, bytes)
  zs : z.cells.size = size
  pos : 0 < size

/-- A slice that reads as cells. -/
def Reads (w : World) (size : Nat) (x : Value) (m : Nat) (news : List Value) : Prop :=
  (x = .slice none 0 0 ∧ m = 0 ∧ news = []) ∨ ∃ a c, x = .slice (some a) m c ∧ news.length = m * size ∧ ∀ j u, news[j]? = some u → w.cell? (a.add j) = some u

theorem reads_own {w : World} {base : Nat} {e : TypeId} {size : Nat} {v : Value} {n : Nat} {xs : List Value} (h : w.ownsRow base e size v n xs) : Reads w size v n xs := by
  obtain ⟨h1, h2⟩ := id h
  rcases h2 with ⟨hv, hn⟩ | ⟨g, cap, cur, hv, _⟩
  · subst hn
    exact .inl ⟨hv, rfl, List.eq_nil_of_length_eq_zero (by simpa using h1)⟩
  · exact .inr ⟨⟨g, 0, none⟩, cap, hv, h1, h.cells (by rw [hv]; rfl)⟩

section
variable {P : Program} {w : World} {ops : Array Oper} {rest : List Oper} {o : Oper} {a : Act} {Q : Exit → Act → World → Prop}
/-- append(own slice, a slice that reads as cells). -/
theorem wpList_app {t e : TypeId} {size bytes : Nat} {z : Value} (EI : Elem P t e size bytes z) (hgd : o.guard = none) {s x : Operand}
    (ho : o.op = .call { callee := .builtin .append, args := #[s, x], argTypes := #[t, t] })
    (base : Nat) {v : Value} {n : Nat} {xs : List Value} (hown : w.ownsRow base e size v n xs) (hs : a.eval s = v)
    {y : Value} {m : Nat} {news : List Value} (hr : Reads w size y m news) (hx : a.eval x = y) (h1 : ∀ u ∈ news, u.oneCell' = true)
    (h63 : n + m ≤ maxLen) (hbytes : (n + m) * bytes ≤ 140737488355328) (hbase : base ≤ w.heap.size)
    (h : ∀ v' w', w'.ownsRow base e size v' (n + m) (xs ++ news) → w.grownBy w' v.ownBlock → wpList P ops Q rest (a.put o.dst v') w') : wpList P ops Q (o :: rest) a w := by
  obtain ⟨i, hi, hz0, hz1, hz2⟩ := info_parts EI.info
  rcases hr with ⟨rfl, rfl, rfl⟩ | ⟨ad, c, rfl, hl, hc⟩
  · refine wpList_plain hgd fun K hK => ?_
    have hr := run_append_owned_none (P := P) w base t o.type e i size EI.und hi v n xs hown
    unfold Oper.wp execOp
    simp only [ho, resolve, invoke, builtin, Sem.run_bind, Sem.run_pure, Result.andThen_ok, List.map_toArray, List.map_cons, List.map_nil, hs, hx, hr]
    exact hK _ _ (h _ _ (by simpa using hown) ⟨rfl, rfl, rfl, Nat.le_refl _, fun _ _ _ => rfl⟩)
  · exact wpList_append_own w hgd s x t ho base e i z size bytes EI.und hi hz0 hz1 hz2 EI.zs EI.pos v n xs hs hown ad m c news hx hl hc h1 h63 hbytes hbase (fun v' w' a b _ => h v' w' a b)
end

theorem own_mono {w : World} {base base' : Nat} {e : TypeId} {size : Nat} {v : Value} {n : Nat} {xs : List Value} (h : w.ownsRow base e size v n xs) (hb : base' ≤ base) : w.ownsRow base' e size v n xs := by
  refine ⟨h.1, ?_⟩
  rcases h.2 with h | ⟨g, cap, cur, h1, h2, h3⟩
  · exact .inl h
  · exact .inr ⟨g, cap, cur, h1, by omega, h3⟩

/-! A slice of integers that reads as a list. -/
def IsInts (k : IntKind) (w : World) (v : Value) (l : List Int) : Prop :=
  (v = .slice none 0 0 ∧ l = []) ∨ ∃ b off c, v = .slice (some ⟨b, off, none⟩) l.length c ∧ b < w.heap.size ∧ l.length ≤ c ∧ c ≤ 9223372036854775807 ∧
    ∀ j, j < l.length → w.cell? ⟨b, off + j, none⟩ = some (.int k (l.getD j 0))
theorem add_eq (b off j : Nat) : (⟨b, off, none⟩ : Addr).add j = ⟨b, off + j, none⟩ := by
  unfold Addr.add; split
  · rename_i h; subst h; rfl
  · rfl
theorem getD_of (l : List Int) (j : Nat) (h : j < l.length) : l[j]? = some (l.getD j 0) := by
  rw [List.getD_eq_getElem?_getD, List.getElem?_eq_getElem h]; rfl
theorem isInts_own {k : IntKind} {e : TypeId} {w : World} {base : Nat} {v : Value} {l : List Int} (h : w.ownsRow base e 1 v l.length (l.map (Value.int k))) : IsInts k w v l := by
  obtain ⟨h1, h2⟩ := id h
  rcases h2 with ⟨hv, h0⟩ | ⟨g, cap, cur, hv, _, hg, h3, h4, _⟩
  · exact .inl ⟨hv, List.eq_nil_of_length_eq_zero h0⟩
  · refine .inr ⟨g, 0, cap, hv, heap_lt hg, h3, by unfold maxLen at h4; exact h4, fun j hj => ?_⟩
    rw [← add_eq]
    exact h.cells (g := g) (by rw [hv]; rfl) j _ (by rw [List.getElem?_map, getD_of l j hj]; rfl)
theorem isInts_below {k : IntKind} {w w' : World} {v : Value} {l : List Int} (h : IsInts k w v l) (hb : Below w.heap.size w w') : IsInts k w' v l := by
  rcases h with h | ⟨b, off, c, h1, h2, h3, h4, h5⟩
  · exact .inl h
  · exact .inr ⟨b, off, c, h1, Nat.lt_of_lt_of_le h2 hb.size, h3, h4, fun j hj => by rw [hb.cell (p := ⟨b, off + j, none⟩) h2]; exact h5 j hj⟩
theorem isInts_reads {k : IntKind} {w : World} {v : Value} {l : List Int} (h : IsInts k w v l) : Reads w 1 v l.length (l.map (Value.int k)) := by
  rcases h with ⟨h1, rfl⟩ | ⟨b, off, c, h1, h2, h3, h4, h5⟩
  · exact .inl ⟨h1, rfl, rfl⟩
  · refine .inr ⟨⟨b, off, none⟩, c, h1, by simp, fun j u hu => ?_⟩
    rw [add_eq]
    have hj : j < l.length := by have := (List.getElem?_eq_some_iff.1 hu).1; simpa using this
    rw [h5 j hj]
    rw [List.getElem?_map, getD_of l j hj] at hu
    exact hu
theorem below_drewN {B : Nat} {a w : World} (h : Below B a w) (n : Nat) : Below B a (w.drewN n) := h.trans ⟨rfl, rfl, rfl, Nat.le_refl _, fun _ _ => rfl⟩
theorem isInts_lit {k : IntKind} (w : World) (e : TypeId) (g n : Nat) (l : List Int) (A : Array Value) (hg : g = w.heap.size) (hn : n = l.length) (hm : n ≤ 1000000) (hA : A = (l.map (Value.int k)).toArray) :
    IsInts k (w.alloc (.cells A e)) (.slice (some ⟨g, 0, none⟩) n n) l := by
  subst hg hn hA
  refine .inr ⟨w.heap.size, 0, l.length, rfl, by simp, Nat.le_refl _, by omega, fun j hj => ?_⟩
  rw [World.cell?_alloc_new, Nat.zero_add]
  simp [List.getElem?_eq_getElem hj]

/-- A slice of integers that came in. -/
def IsArg (k : IntKind) (w : World) (v : Value) (l : List Int) : Prop :=
  (v = .slice none 0 0 ∧ l = []) ∨ ∃ (a : Addr) (c : Nat), v = .slice (some a) l.length c ∧ l.length ≤ c ∧ c ≤ 9223372036854775807 ∧
    (∀ j, j < l.length → w.cell? (a.add j) = some (.int k (l.getD j 0))) ∧ ∀ n ∈ l, (Lit.int k n).wf = true

end Go.Proofs.YtjclgoiclbkgjaaDoor

/- Slices of integers whose value is left closed: their length, their places. -/
namespace Go.Proofs.YtjclgoiclbkgjaaDoor
open Go.RowKit

section
variable {P : Program} {t e : TypeId}
theorem arg_len {k : IntKind} {w : World} {v : Value} {l : List Int} (ht : P.underlying t = some (.slice e)) (h : IsArg k w v l) (ty : TypeId) (wx : World) : (Builtin.len_ #[t] ty #[v]).run P wx = .ok (.int .i64 l.length) wx := by
  rcases h with ⟨rfl, rfl⟩ | ⟨a, c, rfl, _⟩ <;> simp [Builtin.len_, run_underlying ht, goInt]
theorem arg_at {k : IntKind} {w : World} {v : Value} {l : List Int} (ht : P.underlying t = some (.slice e)) (hs : (P.info? e).map (·.size) = some 1) (h : IsArg k w v l) (j : Nat) (hj : j < l.length) :
    ∃ a : Addr, (∀ wx, (Instr.indexAt t v (.int .i64 j)).run P wx = .ok (.pointer (some a)) wx) ∧ w.cell? a = some (.int k (l.getD j 0)) := by
  rcases h with ⟨rfl, rfl⟩ | ⟨a, c, rfl, h1, h2, h3, h4⟩
  · simp at hj
  · refine ⟨a.add j, fun wx => ?_, h3 j hj⟩
    obtain ⟨i, hi, hi2⟩ := Option.map_eq_some_iff.1 hs
    have hj' : (0 : Int) ≤ (j : Int) ∧ (j : Int) < (l.length : Int) := by omega
    simp [Instr.indexAt, asIntOf, run_underlying ht, hj', sizeOf, typeInfo, hi, hi2]
    omega
end
theorem reads_one (w : World) (v : Value) (T : TypeId) : Reads (w.alloc (.cells #[v] T)) 1 (.slice (some ⟨w.heap.size, 0, none⟩) 1 1) 1 [v] := by
  refine .inr ⟨⟨w.heap.size, 0, none⟩, 1, rfl, rfl, fun j u hu => ?_⟩
  rw [add_eq, World.cell?_alloc_new, Nat.zero_add]
  simpa using hu
theorem int_one (k : IntKind) (x : Int) : ∀ u ∈ [Value.int k x], u.oneCell' = true := ints_oneCell k [x]
theorem own_alloc {w : World} {base : Nat} {e : TypeId} {size : Nat} {v : Value} {n : Nat} {xs : List Value} (h : w.ownsRow base e size v n xs) (o : Obj) : (w.alloc o).ownsRow base e size v n xs := h.alloc o
/-- An own row above p is kept where block p is written. -/
theorem own_kept {w w' : World} {base : Nat} {e : TypeId} {size : Nat} {v : Value} {n : Nat} {xs : List Value} {p : Nat} (h : w.ownsRow base e size v n xs) (g : w.grownBy w' (some p)) (hp : p < base) : w'.ownsRow base e size v n xs := by
  refine h.kept g ?_
  rcases h.2 with ⟨hv, _⟩ | ⟨q, cap, cur, hv, hg, _⟩
  · left; rw [hv]; rfl
  · right; rw [hv]; simp only [Value.ownBlock, ne_eq, Option.some.injEq]; omega
section
variable {P : Program} {t e : TypeId}
theorem ints_len {k : IntKind} {w : World} {v : Value} {l : List Int} (ht : P.underlying t = some (.slice e)) (h : IsInts k w v l) (ty : TypeId) (wx : World) : (Builtin.len_ #[t] ty #[v]).run P wx = .ok (.int .i64 l.length) wx := by
  rcases h with ⟨rfl, rfl⟩ | ⟨b, o, c, rfl, _⟩ <;> simp [Builtin.len_, run_underlying ht, goInt]
theorem ints_at {k : IntKind} {w : World} {v : Value} {l : List Int} (ht : P.underlying t = some (.slice e)) (hs : (P.info? e).map (·.size) = some 1) (h : IsInts k w v l) (j : Nat) (hj : j < l.length) :
    ∃ a : Addr, (∀ wx, (Instr.indexAt t v (.int .i64 j)).run P wx = .ok (.pointer (some a)) wx) ∧ w.cell? a = some (.int k (l.getD j 0)) := by
  rcases h with ⟨rfl, rfl⟩ | ⟨b, o, c, rfl, h0, h1, h2, h3⟩
  · simp at hj
  · refine ⟨(⟨b, o, none⟩ : Addr).add j, fun wx => ?_, by rw [add_eq]; exact h3 j hj⟩
    obtain ⟨i, hi, hi2⟩ := Option.map_eq_some_iff.1 hs
    have hj' : (0 : Int) ≤ (j : Int) ∧ (j : Int) < (l.length : Int) := by omega
    simp [Instr.indexAt, asIntOf, run_underlying ht, hj', sizeOf, typeInfo, hi, hi2]
    omega
end
section
variable {P : Program} {t e : TypeId}
theorem elem_of (ht : P.underlying t = some (.slice e)) : P.underlying t = some (.slice (P.elem t)) := by rw [ht]; simp [Program.elem, ht]
theorem run_size (hs : (P.info? e).map (·.size) = some 1) (wx : World) : (sizeOf e).run P wx = .ok 1 wx := by
  obtain ⟨i, hi, hi2⟩ := Option.map_eq_some_iff.1 hs
  simp [sizeOf, typeInfo, hi, hi2]
/-- v[:n]. -/
theorem ints_take {k : IntKind} {w : World} {v : Value} {l : List Int} (ht : P.underlying t = some (.slice e)) (hs : (P.info? e).map (·.size) = some 1) (h : IsInts k w v l) (n : Nat) (hn : n ≤ l.length) :
    ∃ v', (∀ wx, (Instr.slice t v none (some (.int .i64 n)) none).run P wx = .ok v' wx) ∧ IsInts k w v' (l.take n) := by
  have hel : P.elem t = e := by simp [Program.elem, ht]
  rcases h with ⟨rfl, rfl⟩ | ⟨b, o, c, rfl, h0, h1, h2, h3⟩
  · have : n = 0 := by simpa using hn
    subst this
    refine ⟨.slice none 0 0, fun wx => ?_, .inl ⟨rfl, rfl⟩⟩
    rw [run_slice_h wx t none 0 0 (elem_of ht) .i64 _ (by omega) (by simp), hel, run_size hs]
    simp [Result.andThen, sliced]
  · refine ⟨.slice (some ⟨b, o, none⟩) n c, fun wx => ?_, .inr ⟨b, o, c, by rw [List.length_take, Nat.min_eq_left hn], h0, by rw [List.length_take]; omega, h2, fun j hj => ?_⟩⟩
    · rw [run_slice_h wx t _ _ c (elem_of ht) .i64 _ (by omega) (by omega), hel, run_size hs]
      simp [Result.andThen, sliced]
      intro _; rfl
    · rw [List.length_take] at hj
      rw [h3 j (by omega)]
      congr 2
      rw [List.getD_eq_getElem?_getD, List.getD_eq_getElem?_getD, List.getElem?_take, if_pos (by omega)]
/-- v[n:]. -/
theorem ints_drop {k : IntKind} {w : World} {v : Value} {l : List Int} (ht : P.underlying t = some (.slice e)) (hs : (P.info? e).map (·.size) = some 1) (h : IsInts k w v l) (n : Nat) (hn : n ≤ l.length) :
    ∃ v', (∀ wx, (Instr.slice t v (some (.int .i64 n)) none none).run P wx = .ok v' wx) ∧ IsInts k w v' (l.drop n) := by
  have hel : P.elem t = e := by simp [Program.elem, ht]
  rcases h with ⟨rfl, rfl⟩ | ⟨b, o, c, rfl, h0, h1, h2, h3⟩
  · have : n = 0 := by simpa using hn
    subst this
    refine ⟨.slice none 0 0, fun wx => ?_, .inl ⟨rfl, rfl⟩⟩
    rw [run_slice_l wx t none 0 0 (elem_of ht) .i64 _ (by omega) (by simp), hel, run_size hs]
    simp [Result.andThen, sliced]
  · by_cases hc : c = n
    · refine ⟨.slice (some ⟨b, o, none⟩) (l.length - n) (c - n), fun wx => ?_, .inr ⟨b, o, c - n, by rw [List.length_drop], h0, by rw [List.length_drop]; omega, by omega, fun j hj => ?_⟩⟩
      · rw [run_slice_l wx t _ _ c (elem_of ht) .i64 _ (by omega) (by omega), hel, run_size hs]
        simp [Result.andThen, sliced, hc]
      · rw [List.length_drop] at hj; omega
    · refine ⟨.slice (some ⟨b, o + n, none⟩) (l.length - n) (c - n), fun wx => ?_, .inr ⟨b, o + n, c - n, by rw [List.length_drop], h0, by rw [List.length_drop]; omega, by omega, fun j hj => ?_⟩⟩
      · rw [run_slice_l wx t _ _ c (elem_of ht) .i64 _ (by omega) (by omega), hel, run_size hs]
        simp [Result.andThen, sliced, hc, add_eq]
      · rw [List.length_drop] at hj
        rw [Nat.add_assoc, h3 (n + j) (by omega)]
        congr 2
        rw [List.getD_eq_getElem?_getD, List.getD_eq_getElem?_getD, List.getElem?_drop]
end
end Go.Proofs.YtjclgoiclbkgjaaDoor

/- Buffers: a slice of the call's own, wherever in its block it lies, whatever of the block is frozen behind it. -/
namespace Go.Proofs.YtjclgoiclbkgjaaDoor
open Go.RowKit

def OwnC (w : World) (base size : Nat) (v : Value) (n : Nat) (xs : List Value) : Prop :=
  xs.length = n * size ∧ ((v = .slice none 0 0 ∧ n = 0) ∨ ∃ b off cap, v = .slice (some ⟨b, off, none⟩) n cap ∧ base ≤ b ∧ b < w.heap.size ∧ n ≤ cap ∧ cap ≤ maxLen ∧
    (∀ j, j < cap * size → (w.cell? ⟨b, off + j, none⟩).isSome = true ∧ w.frozen? ⟨b, off + j, none⟩ = false) ∧ ∀ j u, xs[j]? = some u → w.cell? ⟨b, off + j, none⟩ = some u)

theorem ownC_nil (w : World) (base size : Nat) : OwnC w base size (.slice none 0 0) 0 [] := ⟨by simp, .inl ⟨rfl, rfl⟩⟩
theorem ownC_own {w : World} {base : Nat} {e : TypeId} {size : Nat} {v : Value} {n : Nat} {xs : List Value} (h : w.ownsRow base e size v n xs) : OwnC w base size v n xs := by
  obtain ⟨h1, h2⟩ := id h
  refine ⟨h1, ?_⟩
  rcases h2 with h2 | ⟨g, cap, cur, hv, hb, hg, h3, h4, h5, h6⟩
  · exact .inl h2
  · refine .inr ⟨g, 0, cap, hv, hb, heap_lt hg, h3, h4, fun j hj => ⟨?_, ?_⟩, fun j u hu => ?_⟩
    · rw [Nat.zero_add, blk_cell hg]
      rw [Array.getElem?_eq_getElem (by omega)]; rfl
    · rw [Nat.zero_add, blk_free hg]
    · rw [← add_eq]
      exact h.cells (g := g) (by rw [hv]; rfl) j u hu
theorem ownC_lt {w : World} {base size : Nat} {v : Value} {n : Nat} {xs : List Value} (h : OwnC w base size v n xs) : ∀ k, v.ownBlock = some k → base ≤ k ∧ k < w.heap.size := by
  intro k hk
  rcases h.2 with ⟨rfl, _⟩ | ⟨b, off, cap, rfl, h1, h2, _⟩
  · simp [Value.ownBlock] at hk
  · simp [Value.ownBlock] at hk; omega
theorem ownC_blocks {w w' : World} {base size : Nat} {v : Value} {n : Nat} {xs : List Value} (h : OwnC w base size v n xs) (hs : w.heap.size ≤ w'.heap.size) (hk : ∀ k, v.ownBlock = some k → w'.heap[k]? = w.heap[k]?) : OwnC w' base size v n xs := by
  refine ⟨h.1, ?_⟩
  rcases h.2 with h2 | ⟨b, off, cap, rfl, h1, h2, h3, h4, h5, h6⟩
  · exact .inl h2
  · have hb := hk b rfl
    refine .inr ⟨b, off, cap, rfl, h1, by omega, h3, h4, fun j hj => ?_, fun j u hu => ?_⟩
    · rw [World.cell?_of_block (a := ⟨b, off + j, none⟩) hb, World.frozen?_of_block (a := ⟨b, off + j, none⟩) hb]; exact h5 j hj
    · rw [World.cell?_of_block (a := ⟨b, off + j, none⟩) hb]; exact h6 j u hu
theorem ownC_grown {w w' : World} {base size : Nat} {v : Value} {n : Nat} {xs : List Value} {row : Option Nat} (h : OwnC w base size v n xs) (g : w.grownBy w' row) (hr : ∀ k, v.ownBlock = some k → row ≠ some k) : OwnC w' base size v n xs :=
  ownC_blocks h g.size fun k hk => g.block k (ownC_lt h k hk).2 (fun e => hr k hk e.symm)
theorem ownC_below {w w' : World} {base size : Nat} {v : Value} {n : Nat} {xs : List Value} (h : OwnC w base size v n xs) (g : Below w.heap.size w w') : OwnC w' base size v n xs :=
  ownC_blocks h g.size fun k hk => g.block k (ownC_lt h k hk).2
theorem ownC_mono {w : World} {base base' size : Nat} {v : Value} {n : Nat} {xs : List Value} (h : OwnC w base size v n xs) (hb : base' ≤ base) : OwnC w base' size v n xs := by
  refine ⟨h.1, ?_⟩
  rcases h.2 with h2 | ⟨b, off, cap, hv, h1, h2⟩
  · exact .inl h2
  · exact .inr ⟨b, off, cap, hv, by omega, h2⟩
theorem ownC_alloc {w : World} {base size : Nat} {v : Value} {n : Nat} {xs : List Value} (h : OwnC w base size v n xs) (o : Obj) : OwnC (w.alloc o) base size v n xs :=
  ownC_grown h (World.grownBy_alloc w o none) (by intro k _ e; simp at e)
theorem ownC_reads {w : World} {base size : Nat} {v : Value} {n : Nat} {xs : List Value} (h : OwnC w base size v n xs) : Reads w size v n xs := by
  obtain ⟨h1, h2⟩ := h
  rcases h2 with ⟨hv, hn⟩ | ⟨b, off, cap, hv, _, _, _, _, _, h6⟩
  · subst hn
    exact .inl ⟨hv, rfl, List.eq_nil_of_length_eq_zero (by simpa using h1)⟩
  · exact .inr ⟨⟨b, off, none⟩, cap, hv, h1, fun j u hu => by rw [add_eq]; exact h6 j u hu⟩
theorem ownC_ints {w : World} {base : Nat} {k : IntKind} {v : Value} {l : List Int} (h : OwnC w base 1 v l.length (l.map (Value.int k))) : IsInts k w v l := by
  rcases h.2 with ⟨hv, hn⟩ | ⟨b, off, cap, hv, _, h2, h3, h4, _, h6⟩
  · exact .inl ⟨hv, List.eq_nil_of_length_eq_zero hn⟩
  · exact .inr ⟨b, off, cap, hv, h2, h3, by unfold maxLen at h4; exact h4, fun j hj => h6 j _ (by rw [List.getElem?_map, getD_of l j hj]; rfl)⟩

theorem gb_setCells (w : World) (b o : Nat) (vs : List Value) : w.grownBy (w.setCells b o vs) (some b) := by
  have hsz : ∀ (vs : List Value) (o : Nat) (w : World), (w.setCells b o vs).heap.size = w.heap.size := by
    intro vs
    induction vs with
    | nil => intro o w; rfl
    | cons x vs ih => intro o w; simp only [World.setCells]; rw [ih]; simp
  have htp : ∀ (vs : List Value) (o : Nat) (w : World), (w.setCells b o vs).tape = w.tape := by
    intro vs
    induction vs with
    | nil => intro o w; rfl
    | cons x vs ih => intro o w; simp only [World.setCells]; rw [ih]; rfl
  exact ⟨World.os_setCells w b o vs, htp vs o w, World.output_setCells w b o vs, by rw [hsz]; exact Nat.le_refl _, fun k hk hr => World.heap_setCells_other w b o vs hk (fun e => hr (by rw [e]))⟩

section
variable {P : Program} {w : World} {ops : Array Oper} {rest : List Oper} {o : Oper} {a : Act} {Q : Exit → Act → World → Prop}
/-- append(buffer, a slice that reads as cells). -/
theorem wpList_appC {t e : TypeId} {size bytes : Nat} {z : Value} (EI : Elem P t e size bytes z) (hgd : o.guard = none) {s x : Operand}
    (ho : o.op = .call { callee := .builtin .append, args := #[s, x], argTypes := #[t, t] })
    (base : Nat) {v : Value} {n : Nat} {xs : List Value} (hown : OwnC w base size v n xs) (hs : a.eval s = v)
    {y : Value} {m : Nat} {news : List Value} (hr : Reads w size y m news) (hx : a.eval x = y) (h1 : ∀ u ∈ news, u.oneCell' = true)
    (h63 : n + m ≤ maxLen) (hbytes : (n + m) * bytes ≤ 140737488355328) (hbase : base ≤ w.heap.size)
    (h : ∀ v' w', OwnC w' base size v' (n + m) (xs ++ news) → w.grownBy w' v.ownBlock → wpList P ops Q rest (a.put o.dst v') w') : wpList P ops Q (o :: rest) a w := by
  obtain ⟨i, hi, hz0, hz1, hz2⟩ := info_parts EI.info
  rcases hown.2 with ⟨hv, hn⟩ | ⟨b, off, cap, hv, hb, hbs, hnc, hcm, hcells, hxs⟩
  · subst hn
    have hx0 : xs = [] := List.eq_nil_of_length_eq_zero (by simpa using hown.1)
    subst hv hx0
    refine wpList_app EI hgd ho base (World.ownsRow_nil w base e size) hs hr hx h1 h63 hbytes hbase fun v' w' o' g' => h v' w' (ownC_own o') g'
  · rcases hr with ⟨rfl, rfl, rfl⟩ | ⟨ad, c, rfl, hl, hc⟩
    · subst hv
      refine wpList_plain hgd fun K hK => ?_
      have hrr : (Builtin.append_ #[t, t] o.type #[.slice (some ⟨b, off, none⟩) n cap, .slice none 0 0]).run P w = .ok (.slice (some ⟨b, off, none⟩) n cap) w := by
        simp [Builtin.append_, run_underlying EI.und, sizeOf, typeInfo, hi, Builtin.lenOf, Builtin.firstCells, hnc, storeCells]
      unfold Oper.wp execOp
      simp only [ho, resolve, invoke, builtin, Sem.run_bind, Sem.run_pure, Result.andThen_ok, List.map_toArray, List.map_cons, List.map_nil, hs, hx, hrr]
      exact hK _ _ (h _ _ (by simpa using hown) ⟨rfl, rfl, rfl, Nat.le_refl _, fun _ _ _ => rfl⟩)
    · have hown' := hown
      subst hv
      refine wpList_append_arg w hgd s x t ho e i z size bytes EI.und hi hz0 hz1 hz2 EI.zs EI.pos b off n cap xs hs hown.1 hxs ad m c news hx hl hc h1 ?_ h63 hbytes ?_ ?_
      · intro hroom j hj
        have hlt : n * size + j < cap * size := by
          have : (n + m) * size ≤ cap * size := Nat.mul_le_mul_right _ hroom
          rw [Nat.add_mul] at this; omega
        rw [Nat.add_assoc]
        exact hcells _ hlt
      · intro hroom
        have hlen : (xs ++ news).length = (n + m) * size := by rw [List.length_append, hown.1, hl, Nat.add_mul]
        have hbound : (n + m) * size ≤ cap * size := Nat.mul_le_mul_right _ hroom
        have hsplit : (n + m) * size = n * size + m * size := Nat.add_mul _ _ _
        refine h _ _ ⟨hlen, .inr ⟨b, off, cap, rfl, hb, ?_, hroom, hcm, fun j hj => ⟨?_, ?_⟩, fun j u hu => ?_⟩⟩ (gb_setCells w b _ news)
        · exact Nat.lt_of_lt_of_le hbs (gb_setCells w b (off + n * size) news).size
        · by_cases hin : n * size ≤ j ∧ j < n * size + news.length
          · have := World.cell?_setCells_in b news (off + n * size) w (fun i hi => by rw [Nat.add_assoc]; exact (hcells _ (by omega)).1) (j - n * size) (by omega)
            rw [show off + n * size + (j - n * size) = off + j from by omega] at this
            rw [this]; rfl
          · rw [World.cell?_setCells_out b news (off + n * size) w ⟨b, off + j, none⟩ (fun _ _ => by show off + j < _ ∨ _ ≤ off + j; omega)]
            exact (hcells j hj).1
        · rw [World.frozen?_setCells]; exact (hcells j hj).2
        · have hjl : j < (xs ++ news).length := (List.getElem?_eq_some_iff.1 hu).1
          by_cases hjx : j < xs.length
          · rw [List.getElem?_append_left hjx] at hu
            rw [World.cell?_setCells_out b news (off + n * size) w ⟨b, off + j, none⟩ (fun _ _ => by show off + j < _ ∨ _ ≤ off + j; have := hown.1; omega)]
            exact hxs j u hu
          · rw [List.getElem?_append_right (by omega)] at hu
            have hx0 := hown.1
            have hjn : j - xs.length < news.length := (List.getElem?_eq_some_iff.1 hu).1
            have := World.cell?_setCells_in b news (off + n * size) w (fun i hi => by rw [Nat.add_assoc]; exact (hcells _ (by omega)).1) (j - xs.length) hjn
            rw [show off + n * size + (j - xs.length) = off + j from by omega] at this
            rw [this, ← hu, List.getElem?_eq_getElem hjn]
      · intro hfull v' w' o' g'
        exact h v' w' (ownC_mono (ownC_own o') hbase) ⟨g'.os, g'.tape, g'.output, g'.size, fun k hk _ => g'.block k hk (by simp)⟩
end

/-- []byte(s). -/
theorem conv_bytes {P : Program} (w : World) (src dst e : TypeId) (s : ByteArray) (hs : P.underlying src = some .string) (hd : P.underlying dst = some (.slice e)) (he : P.underlying e = some (.int .u8)) (hm : s.size ≤ maxLen) :
    ∃ v w', (convert src dst (.string s)).run P w = .ok v w' ∧ OwnC w' w.heap.size 1 v s.size (s.data.toList.map fun b => Value.int .u8 (b.toNat : Int)) ∧ w.grownBy w' none := by
  have hcap := grownCap_ge w s.size 0 e
  have hcm := grownCap_le_maxLen w s.size 0 e hm
  refine ⟨_, _, run_bytes_of_string w src dst e s hs hd he, ⟨by rw [List.length_map, Array.length_toList, Nat.mul_one]; rfl, .inr ⟨w.heap.size, 0, _, rfl, Nat.le_refl _, by simp, hcap, hcm, ?_, ?_⟩⟩, ⟨rfl, rfl, rfl, by simp, fun k hk _ => heap_alloc_old w.drew _ hk⟩⟩
  · intro j hj
    have hsz : (bytesRow s (grownCap w s.size 0 e)).size = grownCap w s.size 0 e := by
      simp only [bytesRow, Array.size_append, Array.size_map, Array.size_replicate]
      have : s.data.size = s.size := rfl
      omega
    rw [Nat.zero_add]
    have e1 := World.cell?_alloc_mark w.drew (bytesRow s (grownCap w s.size 0 e)) e ((bytesRow s (grownCap w s.size 0 e)).size, (bytesRow s (grownCap w s.size 0 e)).size + 1) j
    have e2 := World.frozen?_alloc_mark w.drew (bytesRow s (grownCap w s.size 0 e)) e (bytesRow s (grownCap w s.size 0 e)).size ((bytesRow s (grownCap w s.size 0 e)).size + 1) j
    refine ⟨?_, ?_⟩
    · rw [show w.heap.size = w.drew.heap.size from rfl, e1, Array.getElem?_eq_getElem (by omega)]; rfl
    · rw [show w.heap.size = w.drew.heap.size from rfl, e2, hsz]
      simp; omega
  · intro j u hu
    rw [Nat.zero_add]
    have e1 := World.cell?_alloc_mark w.drew (bytesRow s (grownCap w s.size 0 e)) e ((bytesRow s (grownCap w s.size 0 e)).size, (bytesRow s (grownCap w s.size 0 e)).size + 1) j
    have hj : j < s.data.size := by have := (List.getElem?_eq_some_iff.1 hu).1; simpa using this
    rw [show w.heap.size = w.drew.heap.size from rfl, e1, bytesRow_at s _ j hj, ← hu, List.getElem?_map, List.getElem?_eq_getElem (by simpa using hj)]
    simp
end Go.Proofs.YtjclgoiclbkgjaaDoor

/- Buffers: append, and where the buffer lies then. -/
namespace Go.Proofs.YtjclgoiclbkgjaaDoor
open Go.RowKit

section
variable {P : Program} {w : World} {ops : Array Oper} {rest : List Oper} {o : Oper} {a : Act} {Q : Exit → Act → World → Prop}
/-- append(buffer, a slice that reads as cells): the buffer stays in its block, or is a new one. -/
theorem wpList_appD {t e : TypeId} {size bytes : Nat} {z : Value} (EI : Elem P t e size bytes z) (hgd : o.guard = none) {s x : Operand}
    (ho : o.op = .call { callee := .builtin .append, args := #[s, x], argTypes := #[t, t] })
    (base : Nat) {v : Value} {n : Nat} {xs : List Value} (hown : OwnC w base size v n xs) (hs : a.eval s = v)
    {y : Value} {m : Nat} {news : List Value} (hr : Reads w size y m news) (hx : a.eval x = y) (h1 : ∀ u ∈ news, u.oneCell' = true)
    (h63 : n + m ≤ maxLen) (hbytes : (n + m) * bytes ≤ 140737488355328) (hbase : base ≤ w.heap.size)
    (h : ∀ v' w', OwnC w' base size v' (n + m) (xs ++ news) → w.grownBy w' v.ownBlock → (∀ k, v'.ownBlock = some k → v.ownBlock = some k ∨ w.heap.size ≤ k) → wpList P ops Q rest (a.put o.dst v') w') : wpList P ops Q (o :: rest) a w := by
  obtain ⟨i, hi, hz0, hz1, hz2⟩ := info_parts EI.info
  rcases hown.2 with ⟨hv, hn⟩ | ⟨b, off, cap, hv, hb, hbs, hnc, hcm, hcells, hxs⟩
  · subst hn
    have hx0 : xs = [] := List.eq_nil_of_length_eq_zero (by simpa using hown.1)
    subst hv hx0
    refine wpList_app EI hgd ho w.heap.size (World.ownsRow_nil w w.heap.size e size) hs hr hx h1 h63 hbytes (Nat.le_refl _) fun v' w' o' g' => h v' w' (ownC_mono (ownC_own o') hbase) g' (fun k hk => .inr (o'.lt k hk).1)
  · rcases hr with ⟨rfl, rfl, rfl⟩ | ⟨ad, c, rfl, hl, hc⟩
    · subst hv
      refine wpList_plain hgd fun K hK => ?_
      have hrr : (Builtin.append_ #[t, t] o.type #[.slice (some ⟨b, off, none⟩) n cap, .slice none 0 0]).run P w = .ok (.slice (some ⟨b, off, none⟩) n cap) w := by
        simp [Builtin.append_, run_underlying EI.und, sizeOf, typeInfo, hi, Builtin.lenOf, Builtin.firstCells, hnc, storeCells]
      unfold Oper.wp execOp
      simp only [ho, resolve, invoke, builtin, Sem.run_bind, Sem.run_pure, Result.andThen_ok, List.map_toArray, List.map_cons, List.map_nil, hs, hx, hrr]
      exact hK _ _ (h _ _ (by simpa using hown) ⟨rfl, rfl, rfl, Nat.le_refl _, fun _ _ _ => rfl⟩ (fun k hk => .inl hk))
    · have hown' := hown
      subst hv
      refine wpList_append_arg w hgd s x t ho e i z size bytes EI.und hi hz0 hz1 hz2 EI.zs EI.pos b off n cap xs hs hown.1 hxs ad m c news hx hl hc h1 ?_ h63 hbytes ?_ ?_
      · intro hroom j hj
        have hlt : n * size + j < cap * size := by
          have : (n + m) * size ≤ cap * size := Nat.mul_le_mul_right _ hroom
          rw [Nat.add_mul] at this; omega
        rw [Nat.add_assoc]
        exact hcells _ hlt
      · intro hroom
        have hlen : (xs ++ news).length = (n + m) * size := by rw [List.length_append, hown.1, hl, Nat.add_mul]
        have hbound : (n + m) * size ≤ cap * size := Nat.mul_le_mul_right _ hroom
        have hsplit : (n + m) * size = n * size + m * size := Nat.add_mul _ _ _
        refine h _ _ ⟨hlen, .inr ⟨b, off, cap, rfl, hb, ?_, hroom, hcm, fun j hj => ⟨?_, ?_⟩, fun j u hu => ?_⟩⟩ (gb_setCells w b _ news) (fun k hk => .inl hk)
        · exact Nat.lt_of_lt_of_le hbs (gb_setCells w b (off + n * size) news).size
        · by_cases hin : n * size ≤ j ∧ j < n * size + news.length
          · have := World.cell?_setCells_in b news (off + n * size) w (fun i hi => by rw [Nat.add_assoc]; exact (hcells _ (by omega)).1) (j - n * size) (by omega)
            rw [show off + n * size + (j - n * size) = off + j from by omega] at this
            rw [this]; rfl
          · rw [World.cell?_setCells_out b news (off + n * size) w ⟨b, off + j, none⟩ (fun _ _ => by show off + j < _ ∨ _ ≤ off + j; omega)]
            exact (hcells j hj).1
        · rw [World.frozen?_setCells]; exact (hcells j hj).2
        · have hjl : j < (xs ++ news).length := (List.getElem?_eq_some_iff.1 hu).1
          by_cases hjx : j < xs.length
          · rw [List.getElem?_append_left hjx] at hu
            rw [World.cell?_setCells_out b news (off + n * size) w ⟨b, off + j, none⟩ (fun _ _ => by show off + j < _ ∨ _ ≤ off + j; have := hown.1; omega)]
            exact hxs j u hu
          · rw [List.getElem?_append_right (by omega)] at hu
            have hx0 := hown.1
            have hjn : j - xs.length < news.length := (List.getElem?_eq_some_iff.1 hu).1
            have := World.cell?_setCells_in b news (off + n * size) w (fun i hi => by rw [Nat.add_assoc]; exact (hcells _ (by omega)).1) (j - xs.length) hjn
            rw [show off + n * size + (j - xs.length) = off + j from by omega] at this
            rw [this, ← hu, List.getElem?_eq_getElem hjn]
      · intro hfull v' w' o' g'
        exact h v' w' (ownC_mono (ownC_own o') hbase) ⟨g'.os, g'.tape, g'.output, g'.size, fun k hk _ => g'.block k hk (by simp)⟩ (fun k hk => .inr (o'.lt k hk).1)
end

end Go.Proofs.YtjclgoiclbkgjaaDoor

/- Buffers: append of whatever is appended (a string's bytes too). -/
namespace Go.Proofs.YtjclgoiclbkgjaaDoor
open Go.RowKit

theorem src_reads {P : Program} {w : World} {t e : TypeId} {size : Nat} {y : Value} {m : Nat} {news : List Value} (ht : P.underlying t = some (.slice e)) (h : Reads w size y m news) (h1 : ∀ u ∈ news, u.oneCell' = true) : Src P size t y m news w := by
  rcases h with ⟨rfl, rfl, rfl⟩ | ⟨a, c, rfl, hl, hc⟩
  · exact Src.ofNil w ht 0
  · exact Src.ofSlice w ht a m c news hl hc h1

theorem run_appS {P : Program} (w : World) {t tx ty e : TypeId} {size bytes : Nat} {z : Value} (EI : Elem P t e size bytes z)
    (base : Nat) {v : Value} {n : Nat} {xs : List Value} (hown : OwnC w base size v n xs)
    {y : Value} {m : Nat} {news : List Value} (hs : Src P size tx y m news w)
    (h63 : n + m ≤ maxLen) (hbytes : (n + m) * bytes ≤ 140737488355328) (hbase : base ≤ w.heap.size) :
    ∃ v' w', (Builtin.append_ #[t, tx] ty #[v, y]).run P w = .ok v' w' ∧ OwnC w' base size v' (n + m) (xs ++ news) ∧ w.grownBy w' v.ownBlock ∧ (∀ k, v'.ownBlock = some k → v.ownBlock = some k ∨ w.heap.size ≤ k) := by
  obtain ⟨i, hi, hz0, hz1, hz2⟩ := info_parts EI.info
  have zs := EI.zs
  have pos := EI.pos
  have und := EI.und
  clear EI
  subst hz1 hz2
  have hlen : (xs ++ news).length = (n + m) * i.size := by rw [List.length_append, hown.1, hs.newsLen, Nat.add_mul]
  have grown : ∀ old : Nat, old < n + m →
      OwnC (w.drew.alloc (.cells ((xs ++ news).toArray ++ Builtin.zeroCells z.cells (grownCap w (n + m) old e - (n + m))) e)) base i.size
        (.slice (some ⟨w.heap.size, 0, none⟩) (n + m) (grownCap w (n + m) old e)) (n + m) (xs ++ news) := by
    intro old ho
    have hge := grownCap_ge w (n + m) old e
    have hcm : grownCap w (n + m) old e ≤ maxLen := grownCap_le_maxLen w (n + m) old e h63
    refine ownC_own (e := e) ⟨hlen, .inr ⟨w.heap.size, _, _, rfl, hbase, heap_alloc_new w.drew _, hge, hcm, ?_, ?_⟩⟩
    · simp only [Array.size_append, List.size_toArray, size_zeroCells, zs, hlen, ← Nat.add_mul]
      congr 1
      omega
    · simp only [Array.toList_append, List.append_assoc]
      rw [← List.append_assoc, ← hlen]
      exact List.take_left
  have hgr : ∀ (o : Obj) (row : Option Nat), w.grownBy (w.drew.alloc o) row := fun o row => ⟨rfl, rfl, rfl, by simp, fun k hk _ => heap_alloc_old w.drew _ hk⟩
  by_cases hm : m = 0
  · subst hm
    have hn : news = [] := List.eq_nil_of_length_eq_zero (by simpa using hs.newsLen)
    subst hn
    have hv : ∃ a c, v = .slice a n c ∧ n ≤ c := by
      rcases hown.2 with ⟨rfl, rfl⟩ | ⟨b, off, cap, rfl, _, _, h, _⟩
      · exact ⟨none, 0, rfl, Nat.le_refl _⟩
      · exact ⟨_, _, rfl, h⟩
    obtain ⟨a, c, rfl, hc⟩ := hv
    exact ⟨_, _, run_append_nothing w t tx ty e i und hi a n c hc y hs, by simpa using hown, gb_refl _ _, fun k hk => .inl hk⟩
  rcases hown.2 with ⟨hv, hn⟩ | ⟨b, off, cap, hv, hb, hbs, hnc, hcm, hcells, hxs⟩
  · subst hn
    have hx0 : xs = [] := List.eq_nil_of_length_eq_zero (by simpa using hown.1)
    subst hv hx0
    have hr := run_append_grow_src w t tx ty e i z und hi hz0 none 0 0 [] (by simp [Builtin.firstCells]) y m news hs (by omega) (by simp only [maxLen] at h63; omega) (growslice_fits (by omega) hbytes)
    exact ⟨_, _, hr, grown 0 (by omega), hgr _ _, fun k hk => .inr (by simp [Value.ownBlock] at hk; omega)⟩
  · subst hv
    by_cases hroom : n + m ≤ cap
    · have hbound : (n + m) * i.size ≤ cap * i.size := Nat.mul_le_mul_right _ hroom
      have hsplit : (n + m) * i.size = n * i.size + m * i.size := Nat.add_mul _ _ _
      have hl := hs.newsLen
      have hspare : ∀ j, j < news.length → (w.cell? ⟨b, off + n * i.size + j, none⟩).isSome = true ∧ w.frozen? ⟨b, off + n * i.size + j, none⟩ = false := by
        intro j hj
        rw [Nat.add_assoc]
        exact hcells _ (by omega)
      have hr := run_append_room_src w t tx ty e i und hi b off n cap y m news hs hroom (fun j hj => (hspare j hj).1) (fun j hj => (hspare j hj).2)
      refine ⟨_, _, hr, ⟨hlen, .inr ⟨b, off, cap, rfl, hb, ?_, hroom, hcm, fun j hj => ⟨?_, ?_⟩, fun j u hu => ?_⟩⟩, gb_setCells w b _ news, fun k hk => .inl hk⟩
      · exact Nat.lt_of_lt_of_le hbs (gb_setCells w b (off + n * i.size) news).size
      · by_cases hin : n * i.size ≤ j ∧ j < n * i.size + news.length
        · have := World.cell?_setCells_in b news (off + n * i.size) w (fun i hi => (hspare i hi).1) (j - n * i.size) (by omega)
          rw [show off + n * i.size + (j - n * i.size) = off + j from by omega] at this
          rw [this]; rfl
        · rw [World.cell?_setCells_out b news (off + n * i.size) w ⟨b, off + j, none⟩ (fun _ _ => by show off + j < _ ∨ _ ≤ off + j; omega)]
          exact (hcells j hj).1
      · rw [World.frozen?_setCells]; exact (hcells j hj).2
      · have hjl : j < (xs ++ news).length := (List.getElem?_eq_some_iff.1 hu).1
        have hx0 := hown.1
        by_cases hjx : j < xs.length
        · rw [List.getElem?_append_left hjx] at hu
          rw [World.cell?_setCells_out b news (off + n * i.size) w ⟨b, off + j, none⟩ (fun _ _ => by show off + j < _ ∨ _ ≤ off + j; omega)]
          exact hxs j u hu
        · rw [List.getElem?_append_right (by omega)] at hu
          have hjn : j - xs.length < news.length := (List.getElem?_eq_some_iff.1 hu).1
          have := World.cell?_setCells_in b news (off + n * i.size) w (fun i hi => (hspare i hi).1) (j - xs.length) hjn
          rw [show off + n * i.size + (j - xs.length) = off + j from by omega] at this
          rw [this, ← hu, List.getElem?_eq_getElem hjn]
    · have hold : (Builtin.firstCells i.size n (.slice (some ⟨b, off, none⟩) n cap)).run P w.drew = .ok xs.toArray w.drew :=
        run_firstCells_some w.drew i.size n ⟨b, off, none⟩ n cap xs hown.1 (fun j u hu => by rw [add_eq]; simpa using hxs j u hu)
      have hr := run_append_grow_src w t tx ty e i z und hi hz0 (some ⟨b, off, none⟩) n cap xs hold y m news hs (by omega) (by simp only [maxLen] at h63; omega) (growslice_fits (by omega) hbytes)
      exact ⟨_, _, hr, grown cap (by omega), hgr _ _, fun k hk => .inr (by simp [Value.ownBlock] at hk; omega)⟩

section
variable {P : Program} {w : World} {ops : Array Oper} {rest : List Oper} {o : Oper} {a : Act} {Q : Exit → Act → World → Prop}
/-- append(buffer, whatever). -/
theorem wpList_appS {t tx e : TypeId} {size bytes : Nat} {z : Value} (EI : Elem P t e size bytes z) (hgd : o.guard = none) {s x : Operand}
    (ho : o.op = .call { callee := .builtin .append, args := #[s, x], argTypes := #[t, tx] })
    (base : Nat) {v : Value} {n : Nat} {xs : List Value} (hown : OwnC w base size v n xs) (hs : a.eval s = v)
    {y : Value} {m : Nat} {news : List Value} (hr : Src P size tx y m news w) (hx : a.eval x = y)
    (h63 : n + m ≤ maxLen) (hbytes : (n + m) * bytes ≤ 140737488355328) (hbase : base ≤ w.heap.size)
    (h : ∀ v' w', OwnC w' base size v' (n + m) (xs ++ news) → w.grownBy w' v.ownBlock → (∀ k, v'.ownBlock = some k → v.ownBlock = some k ∨ w.heap.size ≤ k) → wpList P ops Q rest (a.put o.dst v') w') : wpList P ops Q (o :: rest) a w := by
  refine wpList_plain hgd fun K hK => ?_
  obtain ⟨v', w', hrr, h1, h2, h3⟩ := run_appS w (ty := o.type) EI base hown hr h63 hbytes hbase
  unfold Oper.wp execOp
  simp only [ho, resolve, invoke, builtin, Sem.run_bind, Sem.run_pure, Result.andThen_ok, List.map_toArray, List.map_cons, List.map_nil, hs, hx, hrr]
  exact hK _ _ (h _ _ h1 h2 h3)
end

/-- A row of the call's own whose head is frozen is a buffer for reading. -/
theorem reads_ownF {w : World} {base : Nat} {e : TypeId} {size : Nat} {v : Value} {n : Nat} {xs : List Value} (h : w.ownsRowF base e size v n xs) : Reads w size v n xs := by
  obtain ⟨h1, h2⟩ := id h
  rcases h2 with ⟨hv, hn⟩ | ⟨g, cap, cur, fz, hv, _⟩
  · subst hn
    exact .inl ⟨hv, rfl, List.eq_nil_of_length_eq_zero (by simpa using h1)⟩
  · exact .inr ⟨⟨g, 0, none⟩, cap, hv, h1, h.cells (by rw [hv]; rfl)⟩

/-- A buffer of bytes, as a string. -/
def byteVals (l : List UInt8) : List Value := l.map fun b => Value.int .u8 (b.toNat : Int)
theorem byteVals_length (l : List UInt8) : (byteVals l).length = l.length := by unfold byteVals; simp
theorem byteVals_append (l m : List UInt8) : byteVals (l ++ m) = byteVals l ++ byteVals m := by unfold byteVals; simp
theorem run_bytes_reads {P : Program} {w : World} {src dst e : TypeId} (h1 : P.underlying src = some (.slice e)) (h2 : P.underlying e = some (.int .u8)) (h3 : P.underlying dst = some .string) {v : Value} {l : List UInt8} (h : Reads w 1 v l.length (byteVals l)) :
    (convert src dst v).run P w = .ok (.string ⟨l.toArray⟩) w := by
  rcases h with ⟨rfl, hn, _⟩ | ⟨a, c, rfl, _, hc⟩
  · have : l = [] := List.eq_nil_of_length_eq_zero hn
    subst this
    rw [run_convert_bytes_string w src dst e none 0 0 h1 h2 h3]
    rfl
  · exact run_convert_bytes_back w src dst e a c l h1 h2 h3 (fun j hj => hc j _ (by unfold byteVals; rw [List.getElem?_map, List.getElem?_eq_getElem hj]; rfl))
end Go.Proofs.YtjclgoiclbkgjaaDoor

/- Slices of integers that can be read, at whatever address. -/
namespace Go.Proofs.YtjclgoiclbkgjaaDoor
open Go.RowKit

def IsRd (k : IntKind) (w : World) (v : Value) (l : List Int) : Prop :=
  (v = .slice none 0 0 ∧ l = []) ∨ ∃ (a : Addr) (c : Nat), v = .slice (some a) l.length c ∧ l.length ≤ c ∧ c ≤ 9223372036854775807 ∧
    ∀ j, j < l.length → w.cell? (a.add j) = some (.int k (l.getD j 0))
theorem isRd_nil (k : IntKind) (w : World) : IsRd k w (.slice none 0 0) [] := .inl ⟨rfl, rfl⟩
theorem isRd_ints {k : IntKind} {w : World} {v : Value} {l : List Int} (h : IsInts k w v l) : IsRd k w v l := by
  rcases h with h | ⟨b, off, c, h1, h2, h3, h4, h5⟩
  · exact .inl h
  · exact .inr ⟨⟨b, off, none⟩, c, h1, h3, h4, fun j hj => by rw [add_eq]; exact h5 j hj⟩
theorem isRd_arg {k : IntKind} {w : World} {v : Value} {l : List Int} (h : IsArg k w v l) : IsRd k w v l := by
  rcases h with h | ⟨a, c, h1, h2, h3, h4, _⟩
  · exact .inl h
  · exact .inr ⟨a, c, h1, h2, h3, h4⟩
theorem addr_block (a : Addr) (j : Nat) : (a.add j).block = a.block := by
  unfold Addr.add; split <;> rfl
theorem cell_lt {w : World} {a : Addr} {v : Value} (h : w.cell? a = some v) : a.block < w.heap.size := World.block_lt_of_cell? w a h
theorem cell_below {w w' : World} (hb : Below w.heap.size w w') {a : Addr} {v : Value} (h : w.cell? a = some v) : w'.cell? a = some v := by
  rw [hb.cell (p := a) (cell_lt h)]; exact h
theorem isRd_below {k : IntKind} {w w' : World} {v : Value} {l : List Int} (h : IsRd k w v l) (hb : Below w.heap.size w w') : IsRd k w' v l := by
  rcases h with h | ⟨a, c, h1, h2, h3, h4⟩
  · exact .inl h
  · exact .inr ⟨a, c, h1, h2, h3, fun j hj => cell_below hb (h4 j hj)⟩
section
variable {P : Program} {t e : TypeId}
theorem rd_len {k : IntKind} {w : World} {v : Value} {l : List Int} (ht : P.underlying t = some (.slice e)) (h : IsRd k w v l) (ty : TypeId) (wx : World) : (Builtin.len_ #[t] ty #[v]).run P wx = .ok (.int .i64 l.length) wx := by
  rcases h with ⟨rfl, rfl⟩ | ⟨a, c, rfl, _⟩ <;> simp [Builtin.len_, run_underlying ht, goInt]
theorem rd_at {k : IntKind} {w : World} {v : Value} {l : List Int} (ht : P.underlying t = some (.slice e)) (hs : (P.info? e).map (·.size) = some 1) (h : IsRd k w v l) (j : Nat) (hj : j < l.length) :
    ∃ a : Addr, (∀ wx, (Instr.indexAt t v (.int .i64 j)).run P wx = .ok (.pointer (some a)) wx) ∧ w.cell? a = some (.int k (l.getD j 0)) := by
  rcases h with ⟨rfl, rfl⟩ | ⟨a, c, rfl, h1, h2, h3⟩
  · simp at hj
  · refine ⟨a.add j, fun wx => ?_, h3 j hj⟩
    obtain ⟨i, hi, hi2⟩ := Option.map_eq_some_iff.1 hs
    have hj' : (0 : Int) ≤ (j : Int) ∧ (j : Int) < (l.length : Int) := by omega
    simp [Instr.indexAt, asIntOf, run_underlying ht, hj', sizeOf, typeInfo, hi, hi2]
    omega
end

/-- The table of the powers of ten is there, and will be. -/
def Tab (P : Program) (w : World) : Prop := Lib.TabBelow P w.heap.size w "internal/strconv.uint64pow10" .u64 Lib.pow10Tab
theorem tab_below {P : Program} {w w' : World} {B : Nat} (h : Lib.TabBelow P B w "internal/strconv.uint64pow10" .u64 Lib.pow10Tab) (hb : Below B w w') : Lib.TabBelow P B w' "internal/strconv.uint64pow10" .u64 Lib.pow10Tab :=
  fun w2 h2 => h w2 (hb.trans h2)
theorem tab_up {P : Program} {w : World} {B B' : Nat} (h : Lib.TabBelow P B w "internal/strconv.uint64pow10" .u64 Lib.pow10Tab) (hb : B ≤ B') : Lib.TabBelow P B' w "internal/strconv.uint64pow10" .u64 Lib.pow10Tab :=
  fun w2 h2 => h w2 (h2.mono hb)
theorem tab_go {P : Program} {w w' : World} (h : Tab P w) (hb : Below w.heap.size w w') : Tab P w' := tab_up (tab_below h hb) hb.size
end Go.Proofs.YtjclgoiclbkgjaaDoor

/- append as one step of a region that draws its order. -/
namespace Go.Proofs.YtjclgoiclbkgjaaDoor
open Go.RowKit

theorem run_appR {P : Program} (w : World) {t ty e : TypeId} {size bytes : Nat} {z : Value} (EI : Elem P t e size bytes z)
    (base : Nat) {v : Value} {n : Nat} {xs : List Value} (hown : w.ownsRow base e size v n xs)
    {y : Value} {m : Nat} {news : List Value} (hr : Reads w size y m news) (h1 : ∀ u ∈ news, u.oneCell' = true)
    (h63 : n + m ≤ maxLen) (hbytes : (n + m) * bytes ≤ 140737488355328) (hbase : base ≤ w.heap.size) :
    ∃ v' w', (Builtin.append_ #[t, t] ty #[v, y]).run P w = .ok v' w' ∧ w'.ownsRow base e size v' (n + m) (xs ++ news) ∧ w.grownBy w' v.ownBlock := by
  obtain ⟨i, hi, hz0, hz1, hz2⟩ := info_parts EI.info
  rcases hr with ⟨rfl, rfl, rfl⟩ | ⟨ad, c, rfl, hl, hc⟩
  · exact ⟨_, _, run_append_owned_none (P := P) w base t ty e i size EI.und hi v n xs hown, by simpa using hown, gb_refl _ _⟩
  · obtain ⟨v', w', hrun, r1, r2, _⟩ := run_append_own (P := P) w base t ty e i z size bytes EI.und hi hz0 hz1 hz2 EI.zs EI.pos v n xs hown ad m c news hl hc h1 h63 hbytes hbase
    exact ⟨v', w', hrun, r1, r2⟩
theorem step_appR {P : Program} {ops : Array Oper} {o : Oper} {a : Act} {w : World} {K : Act → World → Prop} {Q : Exit → Act → World → Prop} {E : Prop}
    {t e : TypeId} {size bytes : Nat} {z : Value} (EI : Elem P t e size bytes z) (hgd : o.guard = none) (s x : Operand)
    (ho : o.op = .call { callee := .builtin .append, args := #[s, x], argTypes := #[t, t] })
    (base : Nat) {v : Value} {n : Nat} {xs : List Value} (hown : w.ownsRow base e size v n xs) (hs : a.eval s = v)
    {y : Value} {m : Nat} {news : List Value} (hr : Reads w size y m news) (hx : a.eval x = y) (h1 : ∀ u ∈ news, u.oneCell' = true)
    (h63 : n + m ≤ maxLen) (hbytes : (n + m) * bytes ≤ 140737488355328) (hbase : base ≤ w.heap.size)
    (h : ∀ v' w', w'.ownsRow base e size v' (n + m) (xs ++ news) → w.grownBy w' v.ownBlock → K (a.put o.dst v') w') :
    if Region.wanted o (yielded ops a.tmps) = true then Oper.wp P o a w K Q else E := by
  have hw : Region.wanted o (yielded ops a.tmps) = true := by simp [Region.wanted, hgd]
  rw [if_pos hw]
  obtain ⟨v', w', hrr, h2, h3⟩ := run_appR (P := P) w (ty := o.type) EI base hown hr h1 h63 hbytes hbase
  unfold Oper.wp execOp
  simp only [ho, resolve, invoke, builtin, Sem.run_bind, Sem.run_pure, Result.andThen_ok, List.map_toArray, List.map_cons, List.map_nil, hs, hx, hrr]
  exact h _ _ h2 h3
theorem step_appS {P : Program} {ops : Array Oper} {o : Oper} {a : Act} {w : World} {K : Act → World → Prop} {Q : Exit → Act → World → Prop} {E : Prop}
    {t tx e : TypeId} {size bytes : Nat} {z : Value} (EI : Elem P t e size bytes z) (hgd : o.guard = none) (s x : Operand)
    (ho : o.op = .call { callee := .builtin .append, args := #[s, x], argTypes := #[t, tx] })
    (base : Nat) {v : Value} {n : Nat} {xs : List Value} (hown : OwnC w base size v n xs) (hs : a.eval s = v)
    {y : Value} {m : Nat} {news : List Value} (hr : Src P size tx y m news w) (hx : a.eval x = y)
    (h63 : n + m ≤ maxLen) (hbytes : (n + m) * bytes ≤ 140737488355328) (hbase : base ≤ w.heap.size)
    (h : ∀ v' w', OwnC w' base size v' (n + m) (xs ++ news) → w.grownBy w' v.ownBlock → (∀ k, v'.ownBlock = some k → v.ownBlock = some k ∨ w.heap.size ≤ k) → K (a.put o.dst v') w') :
    if Region.wanted o (yielded ops a.tmps) = true then Oper.wp P o a w K Q else E := by
  have hw : Region.wanted o (yielded ops a.tmps) = true := by simp [Region.wanted, hgd]
  rw [if_pos hw]
  obtain ⟨v', w', hrr, h2, h3, h4⟩ := run_appS (P := P) w (ty := o.type) EI base hown hr h63 hbytes hbase
  unfold Oper.wp execOp
  simp only [ho, resolve, invoke, builtin, Sem.run_bind, Sem.run_pure, Result.andThen_ok, List.map_toArray, List.map_cons, List.map_nil, hs, hx, hrr]
  exact h _ _ h2 h3 h4
theorem src_str {P : Program} (w : World) {tx : TypeId} (hk : P.underlying tx = some .string) (s : ByteArray) : Src P 1 tx (.string s) s.data.toList.length (byteVals s.data.toList) w := by
  rw [Array.length_toList]; exact Src.ofString w hk s
section
variable {P : Program} {w : World} {ops : Array Oper} {rest : List Oper} {o : Oper} {a : Act} {Q : Exit → Act → World → Prop}
/-- append(own bytes, s...). -/
theorem wpList_appStr {t u e : TypeId} (EI : Elem P t e 1 1 (.int .u8 0)) (hu : P.underlying u = some .string) (hgd : o.guard = none) {s x : Operand}
    (ho : o.op = .call { callee := .builtin .append, args := #[s, x], argTypes := #[t, u] })
    (base : Nat) {v : Value} {n : Nat} {xs : List Value} (hown : w.ownsRow base e 1 v n xs) (hs : a.eval s = v)
    (str : ByteArray) (hx : a.eval x = .string str) (hbytes : n + str.size ≤ 140737488355328) (hbase : base ≤ w.heap.size)
    (h : ∀ v' w', w'.ownsRow base e 1 v' (n + str.size) (xs ++ byteVals str.data.toList) → w.grownBy w' v.ownBlock → wpList P ops Q rest (a.put o.dst v') w') : wpList P ops Q (o :: rest) a w := by
  obtain ⟨i, hi, hz0, hz1, hz2⟩ := info_parts EI.info
  exact Lib.wpList_append_own_string w hgd s x t u ho base e i EI.und hu hi hz0 hz1 hz2 v n xs hs hown str hx (by unfold maxLen; omega) hbytes hbase (fun v' w' a b _ => h v' w' a b)
end
theorem step_appStr {P : Program} {ops : Array Oper} {o : Oper} {a : Act} {w : World} {K : Act → World → Prop} {Q : Exit → Act → World → Prop} {E : Prop}
    {t u e : TypeId} (EI : Elem P t e 1 1 (.int .u8 0)) (hu : P.underlying u = some .string) (hgd : o.guard = none) (s x : Operand)
    (ho : o.op = .call { callee := .builtin .append, args := #[s, x], argTypes := #[t, u] })
    (base : Nat) {v : Value} {n : Nat} {xs : List Value} (hown : w.ownsRow base e 1 v n xs) (hs : a.eval s = v)
    (str : ByteArray) (hx : a.eval x = .string str) (hbytes : n + str.size ≤ 140737488355328) (hbase : base ≤ w.heap.size)
    (h : ∀ v' w', w'.ownsRow base e 1 v' (n + str.size) (xs ++ byteVals str.data.toList) → w.grownBy w' v.ownBlock → K (a.put o.dst v') w') :
    if Region.wanted o (yielded ops a.tmps) = true then Oper.wp P o a w K Q else E := by
  have hw : Region.wanted o (yielded ops a.tmps) = true := by simp [Region.wanted, hgd]
  rw [if_pos hw]
  obtain ⟨i, hi, hz0, hz1, hz2⟩ := info_parts EI.info
  obtain ⟨v', w', hrr, h2, h3, _⟩ := Lib.run_append_own_string (P := P) w base t u o.type e i EI.und hu hi hz0 hz1 hz2 v n xs hown str (by unfold maxLen; omega) hbytes hbase
  unfold Oper.wp execOp
  simp only [ho, resolve, invoke, builtin, Sem.run_bind, Sem.run_pure, Result.andThen_ok, List.map_toArray, List.map_cons, List.map_nil, hs, hx, hrr]
  exact h _ _ h2 h3
theorem reads_kept {w w' : World} {row : Option Nat} {size : Nat} {y : Value} {m : Nat} {news : List Value} (h : Reads w size y m news) (g : w.grownBy w' row) (hne : ∀ k, y.ownBlock = some k → row ≠ some k) : Reads w' size y m news := by
  rcases h with h | ⟨a, c, rfl, h1, h2⟩
  · exact .inl h
  · exact .inr ⟨a, c, rfl, h1, fun j u hu => g.cell (h2 j u hu) (by rw [addr_block]; exact fun e => hne a.block rfl e.symm)⟩
theorem bytes_elem : Elem Tryd.prog 86 5 1 1 (.int .u8 0) := ⟨Tryd.underlying86, by kernel_rfl, rfl, by decide⟩
end Go.Proofs.YtjclgoiclbkgjaaDoor
