/- Small plain lemmas for the walks: lists, worlds. -/
import Derived.WalkKit
import Derived.WalkSpells
import Derived.WalkLawsBesides
import Derived.BigQuiet
import Derived.Lib.Hide
import Derived.Deep.QuietTactic
namespace Go.Proofs.YtjclgoiclbkgjaaDoor
open Go.RowKit

theorem ret_int {k : IntKind} {a b : Int} (h : a = b) : Ending.returned (.int k a) = .returned (.int k b) := by rw [h]
theorem ret_bool {a b : Bool} (h : a = b) : Ending.returned (.bool a) = .returned (.bool b) := by rw [h]
theorem int_eq {k : IntKind} {a b : Int} (h : a = b) : Value.int k a = Value.int k b := by rw [h]

theorem take_succ_getD {α : Type} (l : List α) (d : α) (k : Nat) (h : k < l.length) : l.take (k + 1) = l.take k ++ [l.getD k d] := by
  rw [List.take_succ_eq_append_getElem h, List.getD_eq_getElem?_getD, List.getElem?_eq_getElem h]; rfl

theorem below_cell {W w1 : World} {B : Nat} (hb : Below B W w1) {b o : Nat} {v : Value} (hB : b < B) (h : W.cell? ⟨b, o, none⟩ = some v) : w1.cell? ⟨b, o, none⟩ = some v := by
  rw [hb.cell (p := ⟨b, o, none⟩) hB]; exact h


theorem ret1v {P : Program} {fn : Func} {R : Ending → World → Prop} {a : Act} {w : World} {t : Tmp} {v : Value} (h : fn.results = #[.tmp t]) (hd : a.defers = []) (hv : a.tmps.getD t undef = v) (hR : R (.returned v) w) :
    bodyPost P fn R .ret a w := by
  subst hv; exact bodyPost_ret (results_tmp h _ _ _) hd hR

/-! Blocks. -/
theorem heap_lt {w : World} {p : Nat} {o : Obj} (h : w.heap[p]? = some o) : p < w.heap.size := (Array.getElem?_eq_some_iff.1 h).1
theorem blk_cell {w : World} {p : Nat} {c : Array Value} {T : TypeId} {fr : Nat × Nat} (h : w.heap[p]? = some (.cells c T fr)) (i : Nat) : w.cell? ⟨p, i, none⟩ = c[i]? := by
  simp [World.cell?, h]
theorem blk_free {w : World} {p : Nat} {c : Array Value} {T : TypeId} (h : w.heap[p]? = some (.cells c T (0, 0))) (i : Nat) : w.frozen? ⟨p, i, none⟩ = false := by
  simp [World.frozen?, h]
theorem blk_set {w : World} {p : Nat} {c : Array Value} {T : TypeId} (h : w.heap[p]? = some (.cells c T (0, 0))) (i : Nat) (v : Value) : (w.setCell ⟨p, i, none⟩ v).heap[p]? = some (.cells (c.setIfInBounds i v) T (0, 0)) :=
  heap_setCell_same w p i c T v h
theorem blk_set_other {w : World} {p q : Nat} {o : Obj} (h : w.heap[p]? = some o) (hq : p ≠ q) (i : Nat) (v : Value) : (w.setCell ⟨q, i, none⟩ v).heap[p]? = some o := by
  rw [heap_setCell_other w ⟨q, i, none⟩ p v hq]; exact h
theorem blk_alloc {w : World} {p : Nat} {o : Obj} (h : w.heap[p]? = some o) (o' : Obj) : (w.alloc o').heap[p]? = some o := by
  rw [_root_.Go.heap_alloc_old w o' (heap_lt h)]; exact h
theorem blk_drew {w : World} {p : Nat} {o : Obj} (h : w.heap[p]? = some o) : w.drew.heap[p]? = some o := h
theorem blk_grown {w w' : World} {p : Nat} {o : Obj} {row : Option Nat} (h : w.heap[p]? = some o) (g : w.grownBy w' row) (hne : some p ≠ row) : w'.heap[p]? = some o := by
  rw [g.block p (heap_lt h) hne]; exact h
theorem blk_below {w w' : World} {p B : Nat} {o : Obj} (h : w.heap[p]? = some o) (g : Below B w w') (hB : p < B) : w'.heap[p]? = some o := by
  rw [g.block p hB]; exact h

theorem gb_refl (w : World) (row : Option Nat) : w.grownBy w row := ⟨rfl, rfl, rfl, Nat.le_refl _, fun _ _ _ => rfl⟩
theorem gb_trans {a b c : World} {row : Option Nat} (h : a.grownBy b row) (g : b.grownBy c row) : a.grownBy c row :=
  ⟨g.os.trans h.os, g.tape.trans h.tape, g.output.trans h.output, Nat.le_trans h.size g.size, fun k hk hr => (g.block k (Nat.lt_of_lt_of_le hk h.size) hr).trans (h.block k hk hr)⟩
theorem gb_alloc {a b : World} {row : Option Nat} (h : a.grownBy b row) (o : Obj) : a.grownBy (b.alloc o) row := gb_trans h (World.grownBy_alloc b o row)
theorem gb_drew {a b : World} {row : Option Nat} (h : a.grownBy b row) : a.grownBy b.drew row := gb_trans h ⟨rfl, rfl, rfl, Nat.le_refl _, fun _ _ _ => rfl⟩
theorem gb_set {a b : World} {p : Nat} (h : a.grownBy b (some p)) (i : Nat) (v : Value) : a.grownBy (b.setCell ⟨p, i, none⟩ v) (some p) :=
  gb_trans h ⟨rfl, rfl, rfl, by simp, fun k _ hr => heap_setCell_other b ⟨p, i, none⟩ k v (fun e => hr (by rw [e]))⟩
/-- A store into a block that was not there. -/
theorem gb_set_new {a b : World} {row : Option Nat} (h : a.grownBy b row) {q : Nat} (hq : a.heap.size ≤ q) (i : Nat) (v : Value) : a.grownBy (b.setCell ⟨q, i, none⟩ v) row :=
  ⟨h.os, h.tape, h.output, Nat.le_trans h.size (by simp), fun k hk hr => (heap_setCell_other b ⟨q, i, none⟩ k v (by show k ≠ q; omega)).trans (h.block k hk hr)⟩
/-- What happened in new blocks. -/
theorem gb_below {a b c : World} {row : Option Nat} (h : a.grownBy b row) {B : Nat} (g : Below B b c) (hB : a.heap.size ≤ B) : a.grownBy c row :=
  ⟨g.os.trans h.os, g.tape.trans h.tape, g.output.trans h.output, Nat.le_trans h.size g.size, fun k hk hr => (g.block k (Nat.lt_of_lt_of_le hk hB)).trans (h.block k hk hr)⟩
theorem gb_of_below {b c : World} (row : Option Nat) (g : Below b.heap.size b c) : b.grownBy c row := gb_below (gb_refl b row) g (Nat.le_refl _)
/-- A step that writes a block that was not there. -/
theorem gb_trans_new {a b c : World} {row row' : Option Nat} (h : a.grownBy b row) (g : b.grownBy c row') (hn : ∀ q, row' = some q → a.heap.size ≤ q) : a.grownBy c row :=
  ⟨g.os.trans h.os, g.tape.trans h.tape, g.output.trans h.output, Nat.le_trans h.size g.size, fun k hk hr => (g.block k (Nat.lt_of_lt_of_le hk h.size) (fun e => by have := hn k e.symm; omega)).trans (h.block k hk hr)⟩
theorem ownsRow_new {w : World} {base g n : Nat} {e : TypeId} {size : Nat} (cs : Array Value) (xs : List Value) (hg : g = w.heap.size) (hb : base ≤ w.heap.size) (hm : n ≤ maxLen) (hs : cs.size = n * size) (hx : cs.toList = xs) :
    (w.alloc (.cells cs e)).ownsRow base e size (.slice (some ⟨g, 0, none⟩) n n) n xs := by
  subst hg hx; exact World.ownsRow_lit w cs n hb hm hs
theorem below_of_gb {a b : World} {row : Option Nat} {B : Nat} (h : a.grownBy b row) (hB : B ≤ a.heap.size) (hn : ∀ q, row = some q → B ≤ q) : Below B a b :=
  ⟨h.os, h.tape, h.output, h.size, fun k hk => h.block k (Nat.lt_of_lt_of_le hk hB) (fun e => by have := hn k e.symm; omega)⟩

/-! A goal that the walk does not go on with: 'refine held ?_' in an arm, 'unfold Held' behind. -/
def Held (p : Prop) : Prop := p
theorem held {p : Prop} (h : Held p) : p := h

/-- What the program's table says of slices of type t. -/
structure Elem (P : Program) (t e : TypeId) (size bytes : Nat) (z : Value) : Prop where
  und : P.underlying t = some (.slice e)
  info : (P.info? e).map (fun i => (i.zero, i.size, i.bytes)) = some (some z, size, bytes)
  zs : z.cells.size = size
  pos : 0 < size

/-- A slice that reads as cells. -/
def Reads (w : World) (size : Nat) (x : Value) (m : Nat) (news : List Value) : Prop :=
  (x = .slice none 0 0 ∧ m = 0 ∧ news = []) ∨ ∃ a c, x = .slice (some a) m c ∧ news.length = m * size ∧ ∀ j u, news[j]? = some u → w.cell? (a.add j) = some u

theorem reads_own {w : World} {base : Nat} {e : TypeId} {size : Nat} {v : Value} {n : Nat} {xs : List Value} (h : w.ownsRow base e size v n xs) : Reads w size v n xs := by
  obtain ⟨h1, h2⟩ := id h
  rcases h2 with ⟨hv, hn⟩ | ⟨g, cap, cur, hv, _⟩
  · subst hn
    exact .inl ⟨hv, rfl, List.eq_nil_of_length_eq_zero (by simpa using h1)⟩
  · exact .inr ⟨⟨g, 0, none⟩, cap, hv, h1, h.cells (by rw [hv]; rfl)⟩

section
variable {P : Program} {w : World} {ops : Array Oper} {rest : List Oper} {o : Oper} {a : Act} {Q : Exit → Act → World → Prop}
/-- append(own slice, a slice that reads as cells). -/
theorem wpList_app {t e : TypeId} {size bytes : Nat} {z : Value} (EI : Elem P t e size bytes z) (hgd : o.guard = none) {s x : Operand}
    (ho : o.op = .call { callee := .builtin .append, args := #[s, x], argTypes := #[t, t] })
    (base : Nat) {v : Value} {n : Nat} {xs : List Value} (hown : w.ownsRow base e size v n xs) (hs : a.eval s = v)
    {y : Value} {m : Nat} {news : List Value} (hr : Reads w size y m news) (hx : a.eval x = y) (h1 : ∀ u ∈ news, u.oneCell' = true)
    (h63 : n + m ≤ maxLen) (hbytes : (n + m) * bytes ≤ 140737488355328) (hbase : base ≤ w.heap.size)
    (h : ∀ v' w', w'.ownsRow base e size v' (n + m) (xs ++ news) → w.grownBy w' v.ownBlock → wpList P ops Q rest (a.put o.dst v') w') : wpList P ops Q (o :: rest) a w := by
  obtain ⟨i, hi, hz0, hz1, hz2⟩ := info_parts EI.info
  rcases hr with ⟨rfl, rfl, rfl⟩ | ⟨ad, c, rfl, hl, hc⟩
  · refine wpList_plain hgd fun K hK => ?_
    have hr := run_append_owned_none (P := P) w base t o.type e i size EI.und hi v n xs hown
    unfold Oper.wp execOp
    simp only [ho, resolve, invoke, builtin, Sem.run_bind, Sem.run_pure, Result.andThen_ok, List.map_toArray, List.map_cons, List.map_nil, hs, hx, hr]
    exact hK _ _ (h _ _ (by simpa using hown) ⟨rfl, rfl, rfl, Nat.le_refl _, fun _ _ _ => rfl⟩)
  · exact wpList_append_own w hgd s x t ho base e i z size bytes EI.und hi hz0 hz1 hz2 EI.zs EI.pos v n xs hs hown ad m c news hx hl hc h1 h63 hbytes hbase (fun v' w' a b _ => h v' w' a b)
end

theorem own_mono {w : World} {base base' : Nat} {e : TypeId} {size : Nat} {v : Value} {n : Nat} {xs : List Value} (h : w.ownsRow base e size v n xs) (hb : base' ≤ base) : w.ownsRow base' e size v n xs := by
  refine ⟨h.1, ?_⟩
  rcases h.2 with h | ⟨g, cap, cur, h1, h2, h3⟩
  · exact .inl h
  · exact .inr ⟨g, cap, cur, h1, by omega, h3⟩

/-! A slice of integers that reads as a list. -/
def IsInts (k : IntKind) (w : World) (v : Value) (l : List Int) : Prop :=
  (v = .slice none 0 0 ∧ l = []) ∨ ∃ b off c, v = .slice (some ⟨b, off, none⟩) l.length c ∧ b < w.heap.size ∧ l.length ≤ c ∧ c ≤ 9223372036854775807 ∧
    ∀ j, j < l.length → w.cell? ⟨b, off + j, none⟩ = some (.int k (l.getD j 0))
theorem add_eq (b off j : Nat) : (⟨b, off, none⟩ : Addr).add j = ⟨b, off + j, none⟩ := by
  unfold Addr.add; split
  · rename_i h; subst h; rfl
  · rfl
theorem getD_of (l : List Int) (j : Nat) (h : j < l.length) : l[j]? = some (l.getD j 0) := by
  rw [List.getD_eq_getElem?_getD, List.getElem?_eq_getElem h]; rfl
theorem isInts_own {k : IntKind} {e : TypeId} {w : World} {base : Nat} {v : Value} {l : List Int} (h : w.ownsRow base e 1 v l.length (l.map (Value.int k))) : IsInts k w v l := by
  obtain ⟨h1, h2⟩ := id h
  rcases h2 with ⟨hv, h0⟩ | ⟨g, cap, cur, hv, _, hg, h3, h4, _⟩
  · exact .inl ⟨hv, List.eq_nil_of_length_eq_zero h0⟩
  · refine .inr ⟨g, 0, cap, hv, heap_lt hg, h3, by unfold maxLen at h4; exact h4, fun j hj => ?_⟩
    rw [← add_eq]
    exact h.cells (g := g) (by rw [hv]; rfl) j _ (by rw [List.getElem?_map, getD_of l j hj]; rfl)
theorem isInts_below {k : IntKind} {w w' : World} {v : Value} {l : List Int} (h : IsInts k w v l) (hb : Below w.heap.size w w') : IsInts k w' v l := by
  rcases h with h | ⟨b, off, c, h1, h2, h3, h4, h5⟩
  · exact .inl h
  · exact .inr ⟨b, off, c, h1, Nat.lt_of_lt_of_le h2 hb.size, h3, h4, fun j hj => by rw [hb.cell (p := ⟨b, off + j, none⟩) h2]; exact h5 j hj⟩
theorem isInts_reads {k : IntKind} {w : World} {v : Value} {l : List Int} (h : IsInts k w v l) : Reads w 1 v l.length (l.map (Value.int k)) := by
  rcases h with ⟨h1, rfl⟩ | ⟨b, off, c, h1, h2, h3, h4, h5⟩
  · exact .inl ⟨h1, rfl, rfl⟩
  · refine .inr ⟨⟨b, off, none⟩, c, h1, by simp, fun j u hu => ?_⟩
    rw [add_eq]
    have hj : j < l.length := by have := (List.getElem?_eq_some_iff.1 hu).1; simpa using this
    rw [h5 j hj]
    rw [List.getElem?_map, getD_of l j hj] at hu
    exact hu
theorem below_drewN {B : Nat} {a w : World} (h : Below B a w) (n : Nat) : Below B a (w.drewN n) := h.trans ⟨rfl, rfl, rfl, Nat.le_refl _, fun _ _ => rfl⟩
theorem isInts_lit {k : IntKind} (w : World) (e : TypeId) (g n : Nat) (l : List Int) (A : Array Value) (hg : g = w.heap.size) (hn : n = l.length) (hm : n ≤ 1000000) (hA : A = (l.map (Value.int k)).toArray) :
    IsInts k (w.alloc (.cells A e)) (.slice (some ⟨g, 0, none⟩) n n) l := by
  subst hg hn hA
  refine .inr ⟨w.heap.size, 0, l.length, rfl, by simp, Nat.le_refl _, by omega, fun j hj => ?_⟩
  rw [World.cell?_alloc_new, Nat.zero_add]
  simp [List.getElem?_eq_getElem hj]

/-- A slice of integers that came in. -/
def IsArg (k : IntKind) (w : World) (v : Value) (l : List Int) : Prop :=
  (v = .slice none 0 0 ∧ l = []) ∨ ∃ (a : Addr) (c : Nat), v = .slice (some a) l.length c ∧ l.length ≤ c ∧ c ≤ 9223372036854775807 ∧
    (∀ j, j < l.length → w.cell? (a.add j) = some (.int k (l.getD j 0))) ∧ ∀ n ∈ l, (Lit.int k n).wf = true

end Go.Proofs.YtjclgoiclbkgjaaDoor
