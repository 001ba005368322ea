/- Package grid, texts laid together: Base Opq Own Own2 Own3 Rd Own4 M1 Q1 M2 Q2 Q3. -/
import Derived.WalkKit
import Derived.WalkSpells
import Derived.WalkLawsBesides
import Derived.BigQuiet
import Derived.Lib.Hide
import Derived.Deep.QuietTactic
import Derived.ArgAppend
import Derived.Laws.IdiomCopy
import Derived.Laws.IdiomStrings
import Derived.Deep.Upon
import Derived.Deep.AppendSrc
import Derived.Lib.AppendStr
import Derived.Lib.FrozenHead
import Derived.Lib.AppendIntMem
import Derived.Lib.ItoaNum
import Derived.Deep.RegionLaw
import Derived.Deep.DeepCutAuto
import Derived.Test.YtlfdgkiliegaiaaGreatDoorRows
/- Small plain lemmas for the walks: lists, worlds. -/
namespace Go.Proofs.YtlfdgkiliegaiaaGreatDoor
open Go.RowKit

theorem ret_int {k : IntKind} {a b : Int} (h : a = b) : Ending.returned (.int k a) = .returned (.int k b) := by rw [h]
theorem ret_bool {a b : Bool} (h : a = b) : Ending.returned (.bool a) = .returned (.bool b) := by rw [h]
theorem take_succ_getD {α : Type} (l : List α) (d : α) (k : Nat) (h : k < l.length) : l.take (k + 1) = l.take k ++ [l.getD k d] := by
  rw [List.take_succ_eq_append_getElem h, List.getD_eq_getElem?_getD, List.getElem?_eq_getElem h]; rfl

theorem ret1v {P : Program} {fn : Func} {R : Ending → World → Prop} {a : Act} {w : World} {t : Tmp} {v : Value} (h : fn.results = #[.tmp t]) (hd : a.defers = []) (hv : a.tmps.getD t undef = v) (hR : R (.returned v) w) :
    bodyPost P fn R .ret a w := by
  subst hv; exact bodyPost_ret (results_tmp h _ _ _) hd hR

/-! Blocks. -/
theorem heap_lt {w : World} {p : Nat} {o : Obj} (h : w.heap[p]? = some o) : p < w.heap.size := (Array.getElem?_eq_some_iff.1 h).1
theorem blk_cell {w : World} {p : Nat} {c : Array Value} {T : TypeId} {fr : Nat × Nat} (h : w.heap[p]? = some (.cells c T fr)) (i : Nat) : w.cell? ⟨p, i, none⟩ = c[i]? := by
  simp [World.cell?, h]
theorem blk_free {w : World} {p : Nat} {c : Array Value} {T : TypeId} (h : w.heap[p]? = some (.cells c T (0, 0))) (i : Nat) : w.frozen? ⟨p, i, none⟩ = false := by
  simp [World.frozen?, h]
theorem blk_set {w : World} {p : Nat} {c : Array Value} {T : TypeId} (h : w.heap[p]? = some (.cells c T (0, 0))) (i : Nat) (v : Value) : (w.setCell ⟨p, i, none⟩ v).heap[p]? = some (.cells (c.setIfInBounds i v) T (0, 0)) :=
  heap_setCell_same w p i c T v h
theorem blk_alloc {w : World} {p : Nat} {o : Obj} (h : w.heap[p]? = some o) (o' : Obj) : (w.alloc o').heap[p]? = some o := by
  rw [_root_.Go.heap_alloc_old w o' (heap_lt h)]; exact h
theorem blk_drew {w : World} {p : Nat} {o : Obj} (h : w.heap[p]? = some o) : w.drew.heap[p]? = some o := h
theorem blk_grown {w w' : World} {p : Nat} {o : Obj} {row : Option Nat} (h : w.heap[p]? = some o) (g : w.grownBy w' row) (hne : some p ≠ row) : w'.heap[p]? = some o := by
  rw [g.block p (heap_lt h) hne]; exact h
theorem blk_below {w w' : World} {p B : Nat} {o : Obj} (h : w.heap[p]? = some o) (g : Below B w w') (hB : p < B) : w'.heap[p]? = some o := by
  rw [g.block p hB]; exact h

theorem gb_refl (w : World) (row : Option Nat) : w.grownBy w row := ⟨rfl, rfl, rfl, Nat.le_refl _, fun _ _ _ => rfl⟩
theorem gb_trans {a b c : World} {row : Option Nat} (h : a.grownBy b row) (g : b.grownBy c row) : a.grownBy c row :=
  ⟨g.os.trans h.os, g.tape.trans h.tape, g.output.trans h.output, Nat.le_trans h.size g.size, fun k hk hr => (g.block k (Nat.lt_of_lt_of_le hk h.size) hr).trans (h.block k hk hr)⟩
theorem gb_alloc {a b : World} {row : Option Nat} (h : a.grownBy b row) (o : Obj) : a.grownBy (b.alloc o) row := gb_trans h (World.grownBy_alloc b o row)
theorem gb_drew {a b : World} {row : Option Nat} (h : a.grownBy b row) : a.grownBy b.drew row := gb_trans h ⟨rfl, rfl, rfl, Nat.le_refl _, fun _ _ _ => rfl⟩
theorem gb_set {a b : World} {p : Nat} (h : a.grownBy b (some p)) (i : Nat) (v : Value) : a.grownBy (b.setCell ⟨p, i, none⟩ v) (some p) :=
  gb_trans h ⟨rfl, rfl, rfl, by simp, fun k _ hr => heap_setCell_other b ⟨p, i, none⟩ k v (fun e => hr (by rw [e]))⟩
/-- What happened in new blocks. -/
theorem gb_below {a b c : World} {row : Option Nat} (h : a.grownBy b row) {B : Nat} (g : Below B b c) (hB : a.heap.size ≤ B) : a.grownBy c row :=
  ⟨g.os.trans h.os, g.tape.trans h.tape, g.output.trans h.output, Nat.le_trans h.size g.size, fun k hk hr => (g.block k (Nat.lt_of_lt_of_le hk hB)).trans (h.block k hk hr)⟩
/-- A step that writes a block that was not there. -/
theorem gb_trans_new {a b c : World} {row row' : Option Nat} (h : a.grownBy b row) (g : b.grownBy c row') (hn : ∀ q, row' = some q → a.heap.size ≤ q) : a.grownBy c row :=
  ⟨g.os.trans h.os, g.tape.trans h.tape, g.output.trans h.output, Nat.le_trans h.size g.size, fun k hk hr => (g.block k (Nat.lt_of_lt_of_le hk h.size) (fun e => by have := hn k e.symm; omega)).trans (h.block k hk hr)⟩
theorem ownsRow_new {w : World} {base g n : Nat} {e : TypeId} {size : Nat} (cs : Array Value) (xs : List Value) (hg : g = w.heap.size) (hb : base ≤ w.heap.size) (hm : n ≤ maxLen) (hs : cs.size = n * size) (hx : cs.toList = xs) :
    (w.alloc (.cells cs e)).ownsRow base e size (.slice (some ⟨g, 0, none⟩) n n) n xs := by
  subst hg hx; exact World.ownsRow_lit w cs n hb hm hs
theorem below_of_gb {a b : World} {row : Option Nat} {B : Nat} (h : a.grownBy b row) (hB : B ≤ a.heap.size) (hn : ∀ q, row = some q → B ≤ q) : Below B a b :=
  ⟨h.os, h.tape, h.output, h.size, fun k hk => h.block k (Nat.lt_of_lt_of_le hk hB) (fun e => by have := hn k e.symm; omega)⟩

/-! A goal that the walk does not go on with: 'refine held ?_' in an arm, 'unfold Held' behind. -/
def Held (p : Prop) : Prop := p
theorem held {p : Prop} (h : Held p) : p := h

/-- What the program's table says of slices of type t. -/
structure Elem (P : Program) (t e : TypeId) (size bytes : Nat) (z : Value) : Prop where
  und : P.underlying t = some (.slice e)
  info : (P.info? e).map (fun i => (i.zero, i.size, i.bytes)) = some (some z, size, bytes)
  zs : z.cells.size = size
  pos : 0 < size

/-- A slice that reads as cells. -/
def Reads (w : World) (size : Nat) (x : Value) (m : Nat) (news : List Value) : Prop :=
  (x = .slice none 0 0 ∧ m = 0 ∧ news = []) ∨ ∃ a c, x = .slice (some a) m c ∧ news.length = m * size ∧ ∀ j u, news[j]? = some u → w.cell? (a.add j) = some u

theorem reads_own {w : World} {base : Nat} {e : TypeId} {size : Nat} {v : Value} {n : Nat} {xs : List Value} (h : w.ownsRow base e size v n xs) : Reads w size v n xs := by
  obtain ⟨h1, h2⟩ := id h
  rcases h2 with ⟨hv, hn⟩ | ⟨g, cap, cur, hv, _⟩
  · subst hn
    exact .inl ⟨hv, rfl, List.eq_nil_of_length_eq_zero (by simpa using h1)⟩
  · exact .inr ⟨⟨g, 0, none⟩, cap, hv, h1, h.cells (by rw [hv]; rfl)⟩

section
variable {P : Program} {w : World} {ops : Array Oper} {rest : List Oper} {o : Oper} {a : Act} {Q : Exit → Act → World → Prop}
/-- append(own slice, a slice that reads as cells). -/
theorem wpList_app {t e : TypeId} {size bytes : Nat} {z : Value} (EI : Elem P t e size bytes z) (hgd : o.guard = none) {s x : Operand}
    (ho : o.op = .call { callee := .builtin .append, args := #[s, x], argTypes := #[t, t] })
    (base : Nat) {v : Value} {n : Nat} {xs : List Value} (hown : w.ownsRow base e size v n xs) (hs : a.eval s = v)
    {y : Value} {m : Nat} {news : List Value} (hr : Reads w size y m news) (hx : a.eval x = y) (h1 : ∀ u ∈ news, u.oneCell' = true)
    (h63 : n + m ≤ maxLen) (hbytes : (n + m) * bytes ≤ 140737488355328) (hbase : base ≤ w.heap.size)
    (h : ∀ v' w', w'.ownsRow base e size v' (n + m) (xs ++ news) → w.grownBy w' v.ownBlock → wpList P ops Q rest (a.put o.dst v') w') : wpList P ops Q (o :: rest) a w := by
  obtain ⟨i, hi, hz0, hz1, hz2⟩ := info_parts EI.info
  rcases hr with ⟨rfl, rfl, rfl⟩ | ⟨ad, c, rfl, hl, hc⟩
  · refine wpList_plain hgd fun K hK => ?_
    have hr := run_append_owned_none (P := P) w base t o.type e i size EI.und hi v n xs hown
    unfold Oper.wp execOp
    simp only [ho, resolve, invoke, builtin, Sem.run_bind, Sem.run_pure, Result.andThen_ok, List.map_toArray, List.map_cons, List.map_nil, hs, hx, hr]
    exact hK _ _ (h _ _ (by simpa using hown) ⟨rfl, rfl, rfl, Nat.le_refl _, fun _ _ _ => rfl⟩)
  · exact wpList_append_own w hgd s x t ho base e i z size bytes EI.und hi hz0 hz1 hz2 EI.zs EI.pos v n xs hs hown ad m c news hx hl hc h1 h63 hbytes hbase (fun v' w' a b _ => h v' w' a b)
end

theorem own_mono {w : World} {base base' : Nat} {e : TypeId} {size : Nat} {v : Value} {n : Nat} {xs : List Value} (h : w.ownsRow base e size v n xs) (hb : base' ≤ base) : w.ownsRow base' e size v n xs := by
  refine ⟨h.1, ?_⟩
  rcases h.2 with h | ⟨g, cap, cur, h1, h2, h3⟩
  · exact .inl h
  · exact .inr ⟨g, cap, cur, h1, by omega, h3⟩

/-! A slice of integers that reads as a list. -/
def IsInts (k : IntKind) (w : World) (v : Value) (l : List Int) : Prop :=
  (v = .slice none 0 0 ∧ l = []) ∨ ∃ b off c, v = .slice (some ⟨b, off, none⟩) l.length c ∧ b < w.heap.size ∧ l.length ≤ c ∧ c ≤ 9223372036854775807 ∧
    ∀ j, j < l.length → w.cell? ⟨b, off + j, none⟩ = some (.int k (l.getD j 0))
theorem add_eq (b off j : Nat) : (⟨b, off, none⟩ : Addr).add j = ⟨b, off + j, none⟩ := by
  unfold Addr.add; split
  · rename_i h; subst h; rfl
  · rfl
theorem getD_of (l : List Int) (j : Nat) (h : j < l.length) : l[j]? = some (l.getD j 0) := by
  rw [List.getD_eq_getElem?_getD, List.getElem?_eq_getElem h]; rfl
theorem below_drewN {B : Nat} {a w : World} (h : Below B a w) (n : Nat) : Below B a (w.drewN n) := h.trans ⟨rfl, rfl, rfl, Nat.le_refl _, fun _ _ => rfl⟩
end Go.Proofs.YtlfdgkiliegaiaaGreatDoor

/- Slices of integers whose value is left closed: their length, their places. -/
namespace Go.Proofs.YtlfdgkiliegaiaaGreatDoor
open Go.RowKit

section
variable {P : Program} {t e : TypeId}
end
theorem reads_one (w : World) (v : Value) (T : TypeId) : Reads (w.alloc (.cells #[v] T)) 1 (.slice (some ⟨w.heap.size, 0, none⟩) 1 1) 1 [v] := by
  refine .inr ⟨⟨w.heap.size, 0, none⟩, 1, rfl, rfl, fun j u hu => ?_⟩
  rw [add_eq, World.cell?_alloc_new, Nat.zero_add]
  simpa using hu
theorem int_one (k : IntKind) (x : Int) : ∀ u ∈ [Value.int k x], u.oneCell' = true := ints_oneCell k [x]
section
variable {P : Program} {t e : TypeId}
end
section
variable {P : Program} {t e : TypeId}
theorem elem_of (ht : P.underlying t = some (.slice e)) : P.underlying t = some (.slice (P.elem t)) := by rw [ht]; simp [Program.elem, ht]
theorem run_size (hs : (P.info? e).map (·.size) = some 1) (wx : World) : (sizeOf e).run P wx = .ok 1 wx := by
  obtain ⟨i, hi, hi2⟩ := Option.map_eq_some_iff.1 hs
  simp [sizeOf, typeInfo, hi, hi2]
end
end Go.Proofs.YtlfdgkiliegaiaaGreatDoor

/- Buffers: a slice of the call's own, wherever in its block it lies, whatever of the block is frozen behind it. -/
namespace Go.Proofs.YtlfdgkiliegaiaaGreatDoor
open Go.RowKit

def OwnC (w : World) (base size : Nat) (v : Value) (n : Nat) (xs : List Value) : Prop :=
  xs.length = n * size ∧ ((v = .slice none 0 0 ∧ n = 0) ∨ ∃ b off cap, v = .slice (some ⟨b, off, none⟩) n cap ∧ base ≤ b ∧ b < w.heap.size ∧ n ≤ cap ∧ cap ≤ maxLen ∧
    (∀ j, j < cap * size → (w.cell? ⟨b, off + j, none⟩).isSome = true ∧ w.frozen? ⟨b, off + j, none⟩ = false) ∧ ∀ j u, xs[j]? = some u → w.cell? ⟨b, off + j, none⟩ = some u)

theorem ownC_nil (w : World) (base size : Nat) : OwnC w base size (.slice none 0 0) 0 [] := ⟨by simp, .inl ⟨rfl, rfl⟩⟩
theorem ownC_own {w : World} {base : Nat} {e : TypeId} {size : Nat} {v : Value} {n : Nat} {xs : List Value} (h : w.ownsRow base e size v n xs) : OwnC w base size v n xs := by
  obtain ⟨h1, h2⟩ := id h
  refine ⟨h1, ?_⟩
  rcases h2 with h2 | ⟨g, cap, cur, hv, hb, hg, h3, h4, h5, h6⟩
  · exact .inl h2
  · refine .inr ⟨g, 0, cap, hv, hb, heap_lt hg, h3, h4, fun j hj => ⟨?_, ?_⟩, fun j u hu => ?_⟩
    · rw [Nat.zero_add, blk_cell hg]
      rw [Array.getElem?_eq_getElem (by omega)]; rfl
    · rw [Nat.zero_add, blk_free hg]
    · rw [← add_eq]
      exact h.cells (g := g) (by rw [hv]; rfl) j u hu
theorem ownC_lt {w : World} {base size : Nat} {v : Value} {n : Nat} {xs : List Value} (h : OwnC w base size v n xs) : ∀ k, v.ownBlock = some k → base ≤ k ∧ k < w.heap.size := by
  intro k hk
  rcases h.2 with ⟨rfl, _⟩ | ⟨b, off, cap, rfl, h1, h2, _⟩
  · simp [Value.ownBlock] at hk
  · simp [Value.ownBlock] at hk; omega
theorem ownC_blocks {w w' : World} {base size : Nat} {v : Value} {n : Nat} {xs : List Value} (h : OwnC w base size v n xs) (hs : w.heap.size ≤ w'.heap.size) (hk : ∀ k, v.ownBlock = some k → w'.heap[k]? = w.heap[k]?) : OwnC w' base size v n xs := by
  refine ⟨h.1, ?_⟩
  rcases h.2 with h2 | ⟨b, off, cap, rfl, h1, h2, h3, h4, h5, h6⟩
  · exact .inl h2
  · have hb := hk b rfl
    refine .inr ⟨b, off, cap, rfl, h1, by omega, h3, h4, fun j hj => ?_, fun j u hu => ?_⟩
    · rw [World.cell?_of_block (a := ⟨b, off + j, none⟩) hb, World.frozen?_of_block (a := ⟨b, off + j, none⟩) hb]; exact h5 j hj
    · rw [World.cell?_of_block (a := ⟨b, off + j, none⟩) hb]; exact h6 j u hu
theorem ownC_grown {w w' : World} {base size : Nat} {v : Value} {n : Nat} {xs : List Value} {row : Option Nat} (h : OwnC w base size v n xs) (g : w.grownBy w' row) (hr : ∀ k, v.ownBlock = some k → row ≠ some k) : OwnC w' base size v n xs :=
  ownC_blocks h g.size fun k hk => g.block k (ownC_lt h k hk).2 (fun e => hr k hk e.symm)
theorem ownC_below {w w' : World} {base size : Nat} {v : Value} {n : Nat} {xs : List Value} (h : OwnC w base size v n xs) (g : Below w.heap.size w w') : OwnC w' base size v n xs :=
  ownC_blocks h g.size fun k hk => g.block k (ownC_lt h k hk).2
theorem ownC_mono {w : World} {base base' size : Nat} {v : Value} {n : Nat} {xs : List Value} (h : OwnC w base size v n xs) (hb : base' ≤ base) : OwnC w base' size v n xs := by
  refine ⟨h.1, ?_⟩
  rcases h.2 with h2 | ⟨b, off, cap, hv, h1, h2⟩
  · exact .inl h2
  · exact .inr ⟨b, off, cap, hv, by omega, h2⟩
theorem ownC_alloc {w : World} {base size : Nat} {v : Value} {n : Nat} {xs : List Value} (h : OwnC w base size v n xs) (o : Obj) : OwnC (w.alloc o) base size v n xs :=
  ownC_grown h (World.grownBy_alloc w o none) (by intro k _ e; simp at e)
theorem ownC_reads {w : World} {base size : Nat} {v : Value} {n : Nat} {xs : List Value} (h : OwnC w base size v n xs) : Reads w size v n xs := by
  obtain ⟨h1, h2⟩ := h
  rcases h2 with ⟨hv, hn⟩ | ⟨b, off, cap, hv, _, _, _, _, _, h6⟩
  · subst hn
    exact .inl ⟨hv, rfl, List.eq_nil_of_length_eq_zero (by simpa using h1)⟩
  · exact .inr ⟨⟨b, off, none⟩, cap, hv, h1, fun j u hu => by rw [add_eq]; exact h6 j u hu⟩
theorem ownC_ints {w : World} {base : Nat} {k : IntKind} {v : Value} {l : List Int} (h : OwnC w base 1 v l.length (l.map (Value.int k))) : IsInts k w v l := by
  rcases h.2 with ⟨hv, hn⟩ | ⟨b, off, cap, hv, _, h2, h3, h4, _, h6⟩
  · exact .inl ⟨hv, List.eq_nil_of_length_eq_zero hn⟩
  · exact .inr ⟨b, off, cap, hv, h2, h3, by unfold maxLen at h4; exact h4, fun j hj => h6 j _ (by rw [List.getElem?_map, getD_of l j hj]; rfl)⟩

theorem gb_setCells (w : World) (b o : Nat) (vs : List Value) : w.grownBy (w.setCells b o vs) (some b) := by
  have hsz : ∀ (vs : List Value) (o : Nat) (w : World), (w.setCells b o vs).heap.size = w.heap.size := by
    intro vs
    induction vs with
    | nil => intro o w; rfl
    | cons x vs ih => intro o w; simp only [World.setCells]; rw [ih]; simp
  have htp : ∀ (vs : List Value) (o : Nat) (w : World), (w.setCells b o vs).tape = w.tape := by
    intro vs
    induction vs with
    | nil => intro o w; rfl
    | cons x vs ih => intro o w; simp only [World.setCells]; rw [ih]; rfl
  exact ⟨World.os_setCells w b o vs, htp vs o w, World.output_setCells w b o vs, by rw [hsz]; exact Nat.le_refl _, fun k hk hr => World.heap_setCells_other w b o vs hk (fun e => hr (by rw [e]))⟩

section
variable {P : Program} {w : World} {ops : Array Oper} {rest : List Oper} {o : Oper} {a : Act} {Q : Exit → Act → World → Prop}
/-- append(buffer, a slice that reads as cells). -/
theorem wpList_appC {t e : TypeId} {size bytes : Nat} {z : Value} (EI : Elem P t e size bytes z) (hgd : o.guard = none) {s x : Operand}
    (ho : o.op = .call { callee := .builtin .append, args := #[s, x], argTypes := #[t, t] })
    (base : Nat) {v : Value} {n : Nat} {xs : List Value} (hown : OwnC w base size v n xs) (hs : a.eval s = v)
    {y : Value} {m : Nat} {news : List Value} (hr : Reads w size y m news) (hx : a.eval x = y) (h1 : ∀ u ∈ news, u.oneCell' = true)
    (h63 : n + m ≤ maxLen) (hbytes : (n + m) * bytes ≤ 140737488355328) (hbase : base ≤ w.heap.size)
    (h : ∀ v' w', OwnC w' base size v' (n + m) (xs ++ news) → w.grownBy w' v.ownBlock → wpList P ops Q rest (a.put o.dst v') w') : wpList P ops Q (o :: rest) a w := by
  obtain ⟨i, hi, hz0, hz1, hz2⟩ := info_parts EI.info
  rcases hown.2 with ⟨hv, hn⟩ | ⟨b, off, cap, hv, hb, hbs, hnc, hcm, hcells, hxs⟩
  · subst hn
    have hx0 : xs = [] := List.eq_nil_of_length_eq_zero (by simpa using hown.1)
    subst hv hx0
    refine wpList_app EI hgd ho base (World.ownsRow_nil w base e size) hs hr hx h1 h63 hbytes hbase fun v' w' o' g' => h v' w' (ownC_own o') g'
  · rcases hr with ⟨rfl, rfl, rfl⟩ | ⟨ad, c, rfl, hl, hc⟩
    · subst hv
      refine wpList_plain hgd fun K hK => ?_
      have hrr : (Builtin.append_ #[t, t] o.type #[.slice (some ⟨b, off, none⟩) n cap, .slice none 0 0]).run P w = .ok (.slice (some ⟨b, off, none⟩) n cap) w := by
        simp [Builtin.append_, run_underlying EI.und, sizeOf, typeInfo, hi, Builtin.lenOf, Builtin.firstCells, hnc, storeCells]
      unfold Oper.wp execOp
      simp only [ho, resolve, invoke, builtin, Sem.run_bind, Sem.run_pure, Result.andThen_ok, List.map_toArray, List.map_cons, List.map_nil, hs, hx, hrr]
      exact hK _ _ (h _ _ (by simpa using hown) ⟨rfl, rfl, rfl, Nat.le_refl _, fun _ _ _ => rfl⟩)
    · have hown' := hown
      subst hv
      refine wpList_append_arg w hgd s x t ho e i z size bytes EI.und hi hz0 hz1 hz2 EI.zs EI.pos b off n cap xs hs hown.1 hxs ad m c news hx hl hc h1 ?_ h63 hbytes ?_ ?_
      · intro hroom j hj
        have hlt : n * size + j < cap * size := by
          have : (n + m) * size ≤ cap * size := Nat.mul_le_mul_right _ hroom
          rw [Nat.add_mul] at this; omega
        rw [Nat.add_assoc]
        exact hcells _ hlt
      · intro hroom
        have hlen : (xs ++ news).length = (n + m) * size := by rw [List.length_append, hown.1, hl, Nat.add_mul]
        have hbound : (n + m) * size ≤ cap * size := Nat.mul_le_mul_right _ hroom
        have hsplit : (n + m) * size = n * size + m * size := Nat.add_mul _ _ _
        refine h _ _ ⟨hlen, .inr ⟨b, off, cap, rfl, hb, ?_, hroom, hcm, fun j hj => ⟨?_, ?_⟩, fun j u hu => ?_⟩⟩ (gb_setCells w b _ news)
        · exact Nat.lt_of_lt_of_le hbs (gb_setCells w b (off + n * size) news).size
        · by_cases hin : n * size ≤ j ∧ j < n * size + news.length
          · have := World.cell?_setCells_in b news (off + n * size) w (fun i hi => by rw [Nat.add_assoc]; exact (hcells _ (by omega)).1) (j - n * size) (by omega)
            rw [show off + n * size + (j - n * size) = off + j from by omega] at this
            rw [this]; rfl
          · rw [World.cell?_setCells_out b news (off + n * size) w ⟨b, off + j, none⟩ (fun _ _ => by show off + j < _ ∨ _ ≤ off + j; omega)]
            exact (hcells j hj).1
        · rw [World.frozen?_setCells]; exact (hcells j hj).2
        · have hjl : j < (xs ++ news).length := (List.getElem?_eq_some_iff.1 hu).1
          by_cases hjx : j < xs.length
          · rw [List.getElem?_append_left hjx] at hu
            rw [World.cell?_setCells_out b news (off + n * size) w ⟨b, off + j, none⟩ (fun _ _ => by show off + j < _ ∨ _ ≤ off + j; have := hown.1; omega)]
            exact hxs j u hu
          · rw [List.getElem?_append_right (by omega)] at hu
            have hx0 := hown.1
            have hjn : j - xs.length < news.length := (List.getElem?_eq_some_iff.1 hu).1
            have := World.cell?_setCells_in b news (off + n * size) w (fun i hi => by rw [Nat.add_assoc]; exact (hcells _ (by omega)).1) (j - xs.length) hjn
            rw [show off + n * size + (j - xs.length) = off + j from by omega] at this
            rw [this, ← hu, List.getElem?_eq_getElem hjn]
      · intro hfull v' w' o' g'
        exact h v' w' (ownC_mono (ownC_own o') hbase) ⟨g'.os, g'.tape, g'.output, g'.size, fun k hk _ => g'.block k hk (by simp)⟩
end

/-- []byte(s). -/
theorem conv_bytes {P : Program} (w : World) (src dst e : TypeId) (s : ByteArray) (hs : P.underlying src = some .string) (hd : P.underlying dst = some (.slice e)) (he : P.underlying e = some (.int .u8)) (hm : s.size ≤ maxLen) :
    ∃ v w', (convert src dst (.string s)).run P w = .ok v w' ∧ OwnC w' w.heap.size 1 v s.size (s.data.toList.map fun b => Value.int .u8 (b.toNat : Int)) ∧ w.grownBy w' none := by
  have hcap := grownCap_ge w s.size 0 e
  have hcm := grownCap_le_maxLen w s.size 0 e hm
  refine ⟨_, _, run_bytes_of_string w src dst e s hs hd he, ⟨by rw [List.length_map, Array.length_toList, Nat.mul_one]; rfl, .inr ⟨w.heap.size, 0, _, rfl, Nat.le_refl _, by simp, hcap, hcm, ?_, ?_⟩⟩, ⟨rfl, rfl, rfl, by simp, fun k hk _ => heap_alloc_old w.drew _ hk⟩⟩
  · intro j hj
    have hsz : (bytesRow s (grownCap w s.size 0 e)).size = grownCap w s.size 0 e := by
      simp only [bytesRow, Array.size_append, Array.size_map, Array.size_replicate]
      have : s.data.size = s.size := rfl
      omega
    rw [Nat.zero_add]
    have e1 := World.cell?_alloc_mark w.drew (bytesRow s (grownCap w s.size 0 e)) e ((bytesRow s (grownCap w s.size 0 e)).size, (bytesRow s (grownCap w s.size 0 e)).size + 1) j
    have e2 := World.frozen?_alloc_mark w.drew (bytesRow s (grownCap w s.size 0 e)) e (bytesRow s (grownCap w s.size 0 e)).size ((bytesRow s (grownCap w s.size 0 e)).size + 1) j
    refine ⟨?_, ?_⟩
    · rw [show w.heap.size = w.drew.heap.size from rfl, e1, Array.getElem?_eq_getElem (by omega)]; rfl
    · rw [show w.heap.size = w.drew.heap.size from rfl, e2, hsz]
      simp; omega
  · intro j u hu
    rw [Nat.zero_add]
    have e1 := World.cell?_alloc_mark w.drew (bytesRow s (grownCap w s.size 0 e)) e ((bytesRow s (grownCap w s.size 0 e)).size, (bytesRow s (grownCap w s.size 0 e)).size + 1) j
    have hj : j < s.data.size := by have := (List.getElem?_eq_some_iff.1 hu).1; simpa using this
    rw [show w.heap.size = w.drew.heap.size from rfl, e1, bytesRow_at s _ j hj, ← hu, List.getElem?_map, List.getElem?_eq_getElem (by simpa using hj)]
    simp
end Go.Proofs.YtlfdgkiliegaiaaGreatDoor

/- Buffers: append, and where the buffer lies then. -/
namespace Go.Proofs.YtlfdgkiliegaiaaGreatDoor
open Go.RowKit

section
variable {P : Program} {w : World} {ops : Array Oper} {rest : List Oper} {o : Oper} {a : Act} {Q : Exit → Act → World → Prop}
/-- append(buffer, a slice that reads as cells): the buffer stays in its block, or is a new one. -/
theorem wpList_appD {t e : TypeId} {size bytes : Nat} {z : Value} (EI : Elem P t e size bytes z) (hgd : o.guard = none) {s x : Operand}
    (ho : o.op = .call { callee := .builtin .append, args := #[s, x], argTypes := #[t, t] })
    (base : Nat) {v : Value} {n : Nat} {xs : List Value} (hown : OwnC w base size v n xs) (hs : a.eval s = v)
    {y : Value} {m : Nat} {news : List Value} (hr : Reads w size y m news) (hx : a.eval x = y) (h1 : ∀ u ∈ news, u.oneCell' = true)
    (h63 : n + m ≤ maxLen) (hbytes : (n + m) * bytes ≤ 140737488355328) (hbase : base ≤ w.heap.size)
    (h : ∀ v' w', OwnC w' base size v' (n + m) (xs ++ news) → w.grownBy w' v.ownBlock → (∀ k, v'.ownBlock = some k → v.ownBlock = some k ∨ w.heap.size ≤ k) → wpList P ops Q rest (a.put o.dst v') w') : wpList P ops Q (o :: rest) a w := by
  obtain ⟨i, hi, hz0, hz1, hz2⟩ := info_parts EI.info
  rcases hown.2 with ⟨hv, hn⟩ | ⟨b, off, cap, hv, hb, hbs, hnc, hcm, hcells, hxs⟩
  · subst hn
    have hx0 : xs = [] := List.eq_nil_of_length_eq_zero (by simpa using hown.1)
    subst hv hx0
    refine wpList_app EI hgd ho w.heap.size (World.ownsRow_nil w w.heap.size e size) hs hr hx h1 h63 hbytes (Nat.le_refl _) fun v' w' o' g' => h v' w' (ownC_mono (ownC_own o') hbase) g' (fun k hk => .inr (o'.lt k hk).1)
  · rcases hr with ⟨rfl, rfl, rfl⟩ | ⟨ad, c, rfl, hl, hc⟩
    · subst hv
      refine wpList_plain hgd fun K hK => ?_
      have hrr : (Builtin.append_ #[t, t] o.type #[.slice (some ⟨b, off, none⟩) n cap, .slice none 0 0]).run P w = .ok (.slice (some ⟨b, off, none⟩) n cap) w := by
        simp [Builtin.append_, run_underlying EI.und, sizeOf, typeInfo, hi, Builtin.lenOf, Builtin.firstCells, hnc, storeCells]
      unfold Oper.wp execOp
      simp only [ho, resolve, invoke, builtin, Sem.run_bind, Sem.run_pure, Result.andThen_ok, List.map_toArray, List.map_cons, List.map_nil, hs, hx, hrr]
      exact hK _ _ (h _ _ (by simpa using hown) ⟨rfl, rfl, rfl, Nat.le_refl _, fun _ _ _ => rfl⟩ (fun k hk => .inl hk))
    · have hown' := hown
      subst hv
      refine wpList_append_arg w hgd s x t ho e i z size bytes EI.und hi hz0 hz1 hz2 EI.zs EI.pos b off n cap xs hs hown.1 hxs ad m c news hx hl hc h1 ?_ h63 hbytes ?_ ?_
      · intro hroom j hj
        have hlt : n * size + j < cap * size := by
          have : (n + m) * size ≤ cap * size := Nat.mul_le_mul_right _ hroom
          rw [Nat.add_mul] at this; omega
        rw [Nat.add_assoc]
        exact hcells _ hlt
      · intro hroom
        have hlen : (xs ++ news).length = (n + m) * size := by rw [List.length_append, hown.1, hl, Nat.add_mul]
        have hbound : (n + m) * size ≤ cap * size := Nat.mul_le_mul_right _ hroom
        have hsplit : (n + m) * size = n * size + m * size := Nat.add_mul _ _ _
        refine h _ _ ⟨hlen, .inr ⟨b, off, cap, rfl, hb, ?_, hroom, hcm, fun j hj => ⟨?_, ?_⟩, fun j u hu => ?_⟩⟩ (gb_setCells w b _ news) (fun k hk => .inl hk)
        · exact Nat.lt_of_lt_of_le hbs (gb_setCells w b (off + n * size) news).size
        · by_cases hin : n * size ≤ j ∧ j < n * size + news.length
          · have := World.cell?_setCells_in b news (off + n * size) w (fun i hi => by rw [Nat.add_assoc]; exact (hcells _ (by omega)).1) (j - n * size) (by omega)
            rw [show off + n * size + (j - n * size) = off + j from by omega] at this
            rw [this]; rfl
          · rw [World.cell?_setCells_out b news (off + n * size) w ⟨b, off + j, none⟩ (fun _ _ => by show off + j < _ ∨ _ ≤ off + j; omega)]
            exact (hcells j hj).1
        · rw [World.frozen?_setCells]; exact (hcells j hj).2
        · have hjl : j < (xs ++ news).length := (List.getElem?_eq_some_iff.1 hu).1
          by_cases hjx : j < xs.length
          · rw [List.getElem?_append_left hjx] at hu
            rw [World.cell?_setCells_out b news (off + n * size) w ⟨b, off + j, none⟩ (fun _ _ => by show off + j < _ ∨ _ ≤ off + j; have := hown.1; omega)]
            exact hxs j u hu
          · rw [List.getElem?_append_right (by omega)] at hu
            have hx0 := hown.1
            have hjn : j - xs.length < news.length := (List.getElem?_eq_some_iff.1 hu).1
            have := World.cell?_setCells_in b news (off + n * size) w (fun i hi => by rw [Nat.add_assoc]; exact (hcells _ (by omega)).1) (j - xs.length) hjn
            rw [show off + n * size + (j - xs.length) = off + j from by omega] at this
            rw [this, ← hu, List.getElem?_eq_getElem hjn]
      · intro hfull v' w' o' g'
        exact h v' w' (ownC_mono (ownC_own o') hbase) ⟨g'.os, g'.tape, g'.output, g'.size, fun k hk _ => g'.block k hk (by simp)⟩ (fun k hk => .inr (o'.lt k hk).1)
end

end Go.Proofs.YtlfdgkiliegaiaaGreatDoor

/- Buffers: append of whatever is appended (a string's bytes too). -/
namespace Go.Proofs.YtlfdgkiliegaiaaGreatDoor
open Go.RowKit

theorem src_reads {P : Program} {w : World} {t e : TypeId} {size : Nat} {y : Value} {m : Nat} {news : List Value} (ht : P.underlying t = some (.slice e)) (h : Reads w size y m news) (h1 : ∀ u ∈ news, u.oneCell' = true) : Src P size t y m news w := by
  rcases h with ⟨rfl, rfl, rfl⟩ | ⟨a, c, rfl, hl, hc⟩
  · exact Src.ofNil w ht 0
  · exact Src.ofSlice w ht a m c news hl hc h1

theorem run_appS {P : Program} (w : World) {t tx ty e : TypeId} {size bytes : Nat} {z : Value} (EI : Elem P t e size bytes z)
    (base : Nat) {v : Value} {n : Nat} {xs : List Value} (hown : OwnC w base size v n xs)
    {y : Value} {m : Nat} {news : List Value} (hs : Src P size tx y m news w)
    (h63 : n + m ≤ maxLen) (hbytes : (n + m) * bytes ≤ 140737488355328) (hbase : base ≤ w.heap.size) :
    ∃ v' w', (Builtin.append_ #[t, tx] ty #[v, y]).run P w = .ok v' w' ∧ OwnC w' base size v' (n + m) (xs ++ news) ∧ w.grownBy w' v.ownBlock ∧ (∀ k, v'.ownBlock = some k → v.ownBlock = some k ∨ w.heap.size ≤ k) := by
  obtain ⟨i, hi, hz0, hz1, hz2⟩ := info_parts EI.info
  have zs := EI.zs
  have pos := EI.pos
  have und := EI.und
  clear EI
  subst hz1 hz2
  have hlen : (xs ++ news).length = (n + m) * i.size := by rw [List.length_append, hown.1, hs.newsLen, Nat.add_mul]
  have grown : ∀ old : Nat, old < n + m →
      OwnC (w.drew.alloc (.cells ((xs ++ news).toArray ++ Builtin.zeroCells z.cells (grownCap w (n + m) old e - (n + m))) e)) base i.size
        (.slice (some ⟨w.heap.size, 0, none⟩) (n + m) (grownCap w (n + m) old e)) (n + m) (xs ++ news) := by
    intro old ho
    have hge := grownCap_ge w (n + m) old e
    have hcm : grownCap w (n + m) old e ≤ maxLen := grownCap_le_maxLen w (n + m) old e h63
    refine ownC_own (e := e) ⟨hlen, .inr ⟨w.heap.size, _, _, rfl, hbase, heap_alloc_new w.drew _, hge, hcm, ?_, ?_⟩⟩
    · simp only [Array.size_append, List.size_toArray, size_zeroCells, zs, hlen, ← Nat.add_mul]
      congr 1
      omega
    · simp only [Array.toList_append, List.append_assoc]
      rw [← List.append_assoc, ← hlen]
      exact List.take_left
  have hgr : ∀ (o : Obj) (row : Option Nat), w.grownBy (w.drew.alloc o) row := fun o row => ⟨rfl, rfl, rfl, by simp, fun k hk _ => heap_alloc_old w.drew _ hk⟩
  by_cases hm : m = 0
  · subst hm
    have hn : news = [] := List.eq_nil_of_length_eq_zero (by simpa using hs.newsLen)
    subst hn
    have hv : ∃ a c, v = .slice a n c ∧ n ≤ c := by
      rcases hown.2 with ⟨rfl, rfl⟩ | ⟨b, off, cap, rfl, _, _, h, _⟩
      · exact ⟨none, 0, rfl, Nat.le_refl _⟩
      · exact ⟨_, _, rfl, h⟩
    obtain ⟨a, c, rfl, hc⟩ := hv
    exact ⟨_, _, run_append_nothing w t tx ty e i und hi a n c hc y hs, by simpa using hown, gb_refl _ _, fun k hk => .inl hk⟩
  rcases hown.2 with ⟨hv, hn⟩ | ⟨b, off, cap, hv, hb, hbs, hnc, hcm, hcells, hxs⟩
  · subst hn
    have hx0 : xs = [] := List.eq_nil_of_length_eq_zero (by simpa using hown.1)
    subst hv hx0
    have hr := run_append_grow_src w t tx ty e i z und hi hz0 none 0 0 [] (by simp [Builtin.firstCells]) y m news hs (by omega) (by simp only [maxLen] at h63; omega) (growslice_fits (by omega) hbytes)
    exact ⟨_, _, hr, grown 0 (by omega), hgr _ _, fun k hk => .inr (by simp [Value.ownBlock] at hk; omega)⟩
  · subst hv
    by_cases hroom : n + m ≤ cap
    · have hbound : (n + m) * i.size ≤ cap * i.size := Nat.mul_le_mul_right _ hroom
      have hsplit : (n + m) * i.size = n * i.size + m * i.size := Nat.add_mul _ _ _
      have hl := hs.newsLen
      have hspare : ∀ j, j < news.length → (w.cell? ⟨b, off + n * i.size + j, none⟩).isSome = true ∧ w.frozen? ⟨b, off + n * i.size + j, none⟩ = false := by
        intro j hj
        rw [Nat.add_assoc]
        exact hcells _ (by omega)
      have hr := run_append_room_src w t tx ty e i und hi b off n cap y m news hs hroom (fun j hj => (hspare j hj).1) (fun j hj => (hspare j hj).2)
      refine ⟨_, _, hr, ⟨hlen, .inr ⟨b, off, cap, rfl, hb, ?_, hroom, hcm, fun j hj => ⟨?_, ?_⟩, fun j u hu => ?_⟩⟩, gb_setCells w b _ news, fun k hk => .inl hk⟩
      · exact Nat.lt_of_lt_of_le hbs (gb_setCells w b (off + n * i.size) news).size
      · by_cases hin : n * i.size ≤ j ∧ j < n * i.size + news.length
        · have := World.cell?_setCells_in b news (off + n * i.size) w (fun i hi => (hspare i hi).1) (j - n * i.size) (by omega)
          rw [show off + n * i.size + (j - n * i.size) = off + j from by omega] at this
          rw [this]; rfl
        · rw [World.cell?_setCells_out b news (off + n * i.size) w ⟨b, off + j, none⟩ (fun _ _ => by show off + j < _ ∨ _ ≤ off + j; omega)]
          exact (hcells j hj).1
      · rw [World.frozen?_setCells]; exact (hcells j hj).2
      · have hjl : j < (xs ++ news).length := (List.getElem?_eq_some_iff.1 hu).1
        have hx0 := hown.1
        by_cases hjx : j < xs.length
        · rw [List.getElem?_append_left hjx] at hu
          rw [World.cell?_setCells_out b news (off + n * i.size) w ⟨b, off + j, none⟩ (fun _ _ => by show off + j < _ ∨ _ ≤ off + j; omega)]
          exact hxs j u hu
        · rw [List.getElem?_append_right (by omega)] at hu
          have hjn : j - xs.length < news.length := (List.getElem?_eq_some_iff.1 hu).1
          have := World.cell?_setCells_in b news (off + n * i.size) w (fun i hi => (hspare i hi).1) (j - xs.length) hjn
          rw [show off + n * i.size + (j - xs.length) = off + j from by omega] at this
          rw [this, ← hu, List.getElem?_eq_getElem hjn]
    · have hold : (Builtin.firstCells i.size n (.slice (some ⟨b, off, none⟩) n cap)).run P w.drew = .ok xs.toArray w.drew :=
        run_firstCells_some w.drew i.size n ⟨b, off, none⟩ n cap xs hown.1 (fun j u hu => by rw [add_eq]; simpa using hxs j u hu)
      have hr := run_append_grow_src w t tx ty e i z und hi hz0 (some ⟨b, off, none⟩) n cap xs hold y m news hs (by omega) (by simp only [maxLen] at h63; omega) (growslice_fits (by omega) hbytes)
      exact ⟨_, _, hr, grown cap (by omega), hgr _ _, fun k hk => .inr (by simp [Value.ownBlock] at hk; omega)⟩

section
variable {P : Program} {w : World} {ops : Array Oper} {rest : List Oper} {o : Oper} {a : Act} {Q : Exit → Act → World → Prop}
/-- append(buffer, whatever). -/
theorem wpList_appS {t tx e : TypeId} {size bytes : Nat} {z : Value} (EI : Elem P t e size bytes z) (hgd : o.guard = none) {s x : Operand}
    (ho : o.op = .call { callee := .builtin .append, args := #[s, x], argTypes := #[t, tx] })
    (base : Nat) {v : Value} {n : Nat} {xs : List Value} (hown : OwnC w base size v n xs) (hs : a.eval s = v)
    {y : Value} {m : Nat} {news : List Value} (hr : Src P size tx y m news w) (hx : a.eval x = y)
    (h63 : n + m ≤ maxLen) (hbytes : (n + m) * bytes ≤ 140737488355328) (hbase : base ≤ w.heap.size)
    (h : ∀ v' w', OwnC w' base size v' (n + m) (xs ++ news) → w.grownBy w' v.ownBlock → (∀ k, v'.ownBlock = some k → v.ownBlock = some k ∨ w.heap.size ≤ k) → wpList P ops Q rest (a.put o.dst v') w') : wpList P ops Q (o :: rest) a w := by
  refine wpList_plain hgd fun K hK => ?_
  obtain ⟨v', w', hrr, h1, h2, h3⟩ := run_appS w (ty := o.type) EI base hown hr h63 hbytes hbase
  unfold Oper.wp execOp
  simp only [ho, resolve, invoke, builtin, Sem.run_bind, Sem.run_pure, Result.andThen_ok, List.map_toArray, List.map_cons, List.map_nil, hs, hx, hrr]
  exact hK _ _ (h _ _ h1 h2 h3)
end

/-- A buffer of bytes, as a string. -/
def byteVals (l : List UInt8) : List Value := l.map fun b => Value.int .u8 (b.toNat : Int)
theorem byteVals_length (l : List UInt8) : (byteVals l).length = l.length := by unfold byteVals; simp
theorem byteVals_append (l m : List UInt8) : byteVals (l ++ m) = byteVals l ++ byteVals m := by unfold byteVals; simp
theorem run_bytes_reads {P : Program} {w : World} {src dst e : TypeId} (h1 : P.underlying src = some (.slice e)) (h2 : P.underlying e = some (.int .u8)) (h3 : P.underlying dst = some .string) {v : Value} {l : List UInt8} (h : Reads w 1 v l.length (byteVals l)) :
    (convert src dst v).run P w = .ok (.string ⟨l.toArray⟩) w := by
  rcases h with ⟨rfl, hn, _⟩ | ⟨a, c, rfl, _, hc⟩
  · have : l = [] := List.eq_nil_of_length_eq_zero hn
    subst this
    rw [run_convert_bytes_string w src dst e none 0 0 h1 h2 h3]
    rfl
  · exact run_convert_bytes_back w src dst e a c l h1 h2 h3 (fun j hj => hc j _ (by unfold byteVals; rw [List.getElem?_map, List.getElem?_eq_getElem hj]; rfl))
end Go.Proofs.YtlfdgkiliegaiaaGreatDoor

/- Slices of integers that can be read, at whatever address. -/
namespace Go.Proofs.YtlfdgkiliegaiaaGreatDoor
open Go.RowKit

def IsRd (k : IntKind) (w : World) (v : Value) (l : List Int) : Prop :=
  (v = .slice none 0 0 ∧ l = []) ∨ ∃ (a : Addr) (c : Nat), v = .slice (some a) l.length c ∧ l.length ≤ c ∧ c ≤ 9223372036854775807 ∧
    ∀ j, j < l.length → w.cell? (a.add j) = some (.int k (l.getD j 0))
theorem isRd_ints {k : IntKind} {w : World} {v : Value} {l : List Int} (h : IsInts k w v l) : IsRd k w v l := by
  rcases h with h | ⟨b, off, c, h1, h2, h3, h4, h5⟩
  · exact .inl h
  · exact .inr ⟨⟨b, off, none⟩, c, h1, h3, h4, fun j hj => by rw [add_eq]; exact h5 j hj⟩
theorem addr_block (a : Addr) (j : Nat) : (a.add j).block = a.block := by
  unfold Addr.add; split <;> rfl
theorem cell_lt {w : World} {a : Addr} {v : Value} (h : w.cell? a = some v) : a.block < w.heap.size := World.block_lt_of_cell? w a h
theorem cell_below {w w' : World} (hb : Below w.heap.size w w') {a : Addr} {v : Value} (h : w.cell? a = some v) : w'.cell? a = some v := by
  rw [hb.cell (p := a) (cell_lt h)]; exact h
theorem isRd_below {k : IntKind} {w w' : World} {v : Value} {l : List Int} (h : IsRd k w v l) (hb : Below w.heap.size w w') : IsRd k w' v l := by
  rcases h with h | ⟨a, c, h1, h2, h3, h4⟩
  · exact .inl h
  · exact .inr ⟨a, c, h1, h2, h3, fun j hj => cell_below hb (h4 j hj)⟩
section
variable {P : Program} {t e : TypeId}
theorem rd_len {k : IntKind} {w : World} {v : Value} {l : List Int} (ht : P.underlying t = some (.slice e)) (h : IsRd k w v l) (ty : TypeId) (wx : World) : (Builtin.len_ #[t] ty #[v]).run P wx = .ok (.int .i64 l.length) wx := by
  rcases h with ⟨rfl, rfl⟩ | ⟨a, c, rfl, _⟩ <;> simp [Builtin.len_, run_underlying ht, goInt]
theorem rd_at {k : IntKind} {w : World} {v : Value} {l : List Int} (ht : P.underlying t = some (.slice e)) (hs : (P.info? e).map (·.size) = some 1) (h : IsRd k w v l) (j : Nat) (hj : j < l.length) :
    ∃ a : Addr, (∀ wx, (Instr.indexAt t v (.int .i64 j)).run P wx = .ok (.pointer (some a)) wx) ∧ w.cell? a = some (.int k (l.getD j 0)) := by
  rcases h with ⟨rfl, rfl⟩ | ⟨a, c, rfl, h1, h2, h3⟩
  · simp at hj
  · refine ⟨a.add j, fun wx => ?_, h3 j hj⟩
    obtain ⟨i, hi, hi2⟩ := Option.map_eq_some_iff.1 hs
    have hj' : (0 : Int) ≤ (j : Int) ∧ (j : Int) < (l.length : Int) := by omega
    simp [Instr.indexAt, asIntOf, run_underlying ht, hj', sizeOf, typeInfo, hi, hi2]
    omega
end

/-- The table of the powers of ten is there, and will be. -/
def Tab (P : Program) (w : World) : Prop := Lib.TabBelow P w.heap.size w "internal/strconv.uint64pow10" .u64 Lib.pow10Tab
theorem tab_below {P : Program} {w w' : World} {B : Nat} (h : Lib.TabBelow P B w "internal/strconv.uint64pow10" .u64 Lib.pow10Tab) (hb : Below B w w') : Lib.TabBelow P B w' "internal/strconv.uint64pow10" .u64 Lib.pow10Tab :=
  fun w2 h2 => h w2 (hb.trans h2)
theorem tab_up {P : Program} {w : World} {B B' : Nat} (h : Lib.TabBelow P B w "internal/strconv.uint64pow10" .u64 Lib.pow10Tab) (hb : B ≤ B') : Lib.TabBelow P B' w "internal/strconv.uint64pow10" .u64 Lib.pow10Tab :=
  fun w2 h2 => h w2 (h2.mono hb)
theorem tab_go {P : Program} {w w' : World} (h : Tab P w) (hb : Below w.heap.size w w') : Tab P w' := tab_up (tab_below h hb) hb.size
end Go.Proofs.YtlfdgkiliegaiaaGreatDoor

/- append as one step of a region that draws its order. -/
namespace Go.Proofs.YtlfdgkiliegaiaaGreatDoor
open Go.RowKit

theorem step_appS {P : Program} {ops : Array Oper} {o : Oper} {a : Act} {w : World} {K : Act → World → Prop} {Q : Exit → Act → World → Prop} {E : Prop}
    {t tx e : TypeId} {size bytes : Nat} {z : Value} (EI : Elem P t e size bytes z) (hgd : o.guard = none) (s x : Operand)
    (ho : o.op = .call { callee := .builtin .append, args := #[s, x], argTypes := #[t, tx] })
    (base : Nat) {v : Value} {n : Nat} {xs : List Value} (hown : OwnC w base size v n xs) (hs : a.eval s = v)
    {y : Value} {m : Nat} {news : List Value} (hr : Src P size tx y m news w) (hx : a.eval x = y)
    (h63 : n + m ≤ maxLen) (hbytes : (n + m) * bytes ≤ 140737488355328) (hbase : base ≤ w.heap.size)
    (h : ∀ v' w', OwnC w' base size v' (n + m) (xs ++ news) → w.grownBy w' v.ownBlock → (∀ k, v'.ownBlock = some k → v.ownBlock = some k ∨ w.heap.size ≤ k) → K (a.put o.dst v') w') :
    if Region.wanted o (yielded ops a.tmps) = true then Oper.wp P o a w K Q else E := by
  have hw : Region.wanted o (yielded ops a.tmps) = true := by simp [Region.wanted, hgd]
  rw [if_pos hw]
  obtain ⟨v', w', hrr, h2, h3, h4⟩ := run_appS (P := P) w (ty := o.type) EI base hown hr h63 hbytes hbase
  unfold Oper.wp execOp
  simp only [ho, resolve, invoke, builtin, Sem.run_bind, Sem.run_pure, Result.andThen_ok, List.map_toArray, List.map_cons, List.map_nil, hs, hx, hrr]
  exact h _ _ h2 h3 h4
theorem src_str {P : Program} (w : World) {tx : TypeId} (hk : P.underlying tx = some .string) (s : ByteArray) : Src P 1 tx (.string s) s.data.toList.length (byteVals s.data.toList) w := by
  rw [Array.length_toList]; exact Src.ofString w hk s
section
variable {P : Program} {w : World} {ops : Array Oper} {rest : List Oper} {o : Oper} {a : Act} {Q : Exit → Act → World → Prop}
end
theorem reads_kept {w w' : World} {row : Option Nat} {size : Nat} {y : Value} {m : Nat} {news : List Value} (h : Reads w size y m news) (g : w.grownBy w' row) (hne : ∀ k, y.ownBlock = some k → row ≠ some k) : Reads w' size y m news := by
  rcases h with h | ⟨a, c, rfl, h1, h2⟩
  · exact .inl h
  · exact .inr ⟨a, c, rfl, h1, fun j u hu => g.cell (h2 j u hu) (by rw [addr_block]; exact fun e => hne a.block rfl e.symm)⟩
theorem bytes_elem : Elem Tryz.prog 38 5 1 1 (.int .u8 0) := ⟨Tryz.underlying38, by kernel_rfl, rfl, by decide⟩
end Go.Proofs.YtlfdgkiliegaiaaGreatDoor

/- What of memory is one's own, and how it changes. -/
namespace Go.Proofs.YtlfdgkiliegaiaaGreatDoor
open Go.RowKit

/-- Only blocks of G have changed. -/
structure Within (G : Nat → Prop) (w w' : World) : Prop where
  os : w'.os = w.os
  tape : w'.tape = w.tape
  output : w'.output = w.output
  size : w.heap.size ≤ w'.heap.size
  block : ∀ k, k < w.heap.size → ¬ G k → w'.heap[k]? = w.heap[k]?
theorem Within.refl (G : Nat → Prop) (w : World) : Within G w w := ⟨rfl, rfl, rfl, Nat.le_refl _, fun _ _ _ => rfl⟩
theorem Within.trans {G : Nat → Prop} {a b c : World} (h : Within G a b) (g : Within G b c) : Within G a c :=
  ⟨g.os.trans h.os, g.tape.trans h.tape, g.output.trans h.output, Nat.le_trans h.size g.size, fun k hk hg => (g.block k (Nat.lt_of_lt_of_le hk h.size) hg).trans (h.block k hk hg)⟩
/-- Only blocks of tag t have changed (tags 3 and 7: what is told). -/
structure Mod (T : Nat → Nat) (t : Nat → Prop) (w w' : World) : Prop where
  os : w'.os = w.os
  tape : w'.tape = w.tape
  output : w'.output = w.output
  size : w.heap.size ≤ w'.heap.size
  block : ∀ k, k < w.heap.size → ¬ t (T k) → w'.heap[k]? = w.heap[k]?
theorem Mod.of_gb {T : Nat → Nat} {t : Nat → Prop} {w w' : World} {row : Option Nat} (g : w.grownBy w' row) (h : ∀ k, row = some k → t (T k)) : Mod T t w w' :=
  ⟨g.os, g.tape, g.output, g.size, fun k hk ht => g.block k hk (fun e => ht (h k e.symm))⟩
theorem Mod.trans {T : Nat → Nat} {t : Nat → Prop} {a b c : World} (h : Mod T t a b) (g : Mod T t b c) : Mod T t a c :=
  ⟨g.os.trans h.os, g.tape.trans h.tape, g.output.trans h.output, Nat.le_trans h.size g.size, fun k hk ht => (g.block k (Nat.lt_of_lt_of_le hk h.size) ht).trans (h.block k hk ht)⟩

theorem Mod.retag {T T' : Nat → Nat} {t : Nat → Prop} {w w' : World} (h : Mod T t w w') (e : ∀ k, k < w.heap.size → T' k = T k) : Mod T' t w w' :=
  ⟨h.os, h.tape, h.output, h.size, fun k hk ht => h.block k hk (by rw [← e k hk]; exact ht)⟩

structure Arena (G : Nat → Prop) (T : Nat → Nat) (w : World) : Prop where
  tl : ∀ k, T k ≠ 0 → k < w.heap.size ∧ G k
  gn : ∀ k, w.heap.size ≤ k → G k
theorem Arena.mono {G : Nat → Prop} {T : Nat → Nat} {w w' : World} (h : Arena G T w) (hs : w.heap.size ≤ w'.heap.size) : Arena G T w' :=
  ⟨fun k hk => ⟨Nat.lt_of_lt_of_le (h.tl k hk).1 hs, (h.tl k hk).2⟩, fun k hk => h.gn k (Nat.le_trans hs hk)⟩
theorem Mod.within {G : Nat → Prop} {T : Nat → Nat} {t : Nat → Prop} {w w' : World} (h : Mod T t w w') (hA : Arena G T w) (ht : ¬ t 0) : Within G w w' :=
  ⟨h.os, h.tape, h.output, h.size, fun k hk hg => h.block k hk (fun e => by
    by_cases h0 : T k = 0
    · rw [h0] at e; exact ht e
    · exact hg (hA.tl k h0).2)⟩
/-- New blocks get the tag t. -/
def adopt (T : Nat → Nat) (a b t : Nat) : Nat → Nat := fun k => if a ≤ k ∧ k < b then t else T k
theorem adopt_old {T : Nat → Nat} {a b t k : Nat} (h : k < a) : adopt T a b t k = T k := by unfold adopt; rw [if_neg (by omega)]
theorem adopt_new {T : Nat → Nat} {a b t k : Nat} (h : a ≤ k) (h2 : k < b) : adopt T a b t k = t := by unfold adopt; rw [if_pos ⟨h, h2⟩]
theorem Arena.adopt {G : Nat → Prop} {T : Nat → Nat} {w w' : World} (h : Arena G T w) (hs : w.heap.size ≤ w'.heap.size) (t : Nat) : Arena G (adopt T w.heap.size w'.heap.size t) w' := by
  refine ⟨fun k hk => ?_, fun k hk => h.gn k (Nat.le_trans hs hk)⟩
  by_cases hn : w.heap.size ≤ k ∧ k < w'.heap.size
  · exact ⟨hn.2, h.gn k hn.1⟩
  · unfold _root_.Go.Proofs.YtlfdgkiliegaiaaGreatDoor.adopt at hk
    rw [if_neg hn] at hk
    exact (h.mono hs).tl k hk

/-- A buffer with its tag. -/
structure Row (T : Nat → Nat) (t size : Nat) (v : Value) (n : Nat) (xs : List Value) (w : World) : Prop where
  own : OwnC w 0 size v n xs
  tag : ∀ k, v.ownBlock = some k → T k = t
theorem Row.mod {T : Nat → Nat} {t size : Nat} {v : Value} {n : Nat} {xs : List Value} {w w' : World} {q : Nat → Prop} (h : Row T t size v n xs w) (m : Mod T q w w') (hq : ¬ q t) : Row T t size v n xs w' :=
  ⟨ownC_blocks h.own m.size fun k hk => m.block k (ownC_lt h.own k hk).2 (by rw [h.tag k hk]; exact hq), h.tag⟩
theorem Row.retag {T T' : Nat → Nat} {t t' size : Nat} {v : Value} {n : Nat} {xs : List Value} {w : World} (h : Row T t size v n xs w) (e : ∀ k, k < w.heap.size → T k = t → T' k = t') : Row T' t' size v n xs w :=
  ⟨h.own, fun k hk => e k (ownC_lt h.own k hk).2 (h.tag k hk)⟩
theorem row_nil (T : Nat → Nat) (t size : Nat) (w : World) : Row T t size (.slice none 0 0) 0 [] w := ⟨ownC_nil _ _ _, fun k hk => by simp [Value.ownBlock] at hk⟩
/-- What one may turn: one's own blocks, and new ones. -/
def own (T : Nat → Nat) (w : World) : Nat → Prop := fun k => T k ≠ 0 ∨ w.heap.size ≤ k
theorem within_below {G : Nat → Prop} {B : Nat} {w w' : World} (h : Within G w w') (hB : B ≤ w.heap.size) (hG : ∀ k, k < B → ¬ G k) : Below B w w' :=
  ⟨h.os, h.tape, h.output, h.size, fun k hk => h.block k (by omega) (hG k hk)⟩
theorem own_below {T : Nat → Nat} {B : Nat} {w w' : World} (h : Within (own T w) w w') (hB : B ≤ w.heap.size) (hT : ∀ k, T k ≠ 0 → B ≤ k) : Below B w w' :=
  within_below h hB fun k hk hg => by
    rcases hg with hg | hg
    · have := hT k hg; omega
    · omega
theorem own_from {T T' : Nat → Nat} {B : Nat} {w : World} (ht : ∀ k, T' k ≠ 0 → own T w k) (hB : B ≤ w.heap.size) (hT : ∀ k, T k ≠ 0 → B ≤ k) : ∀ k, T' k ≠ 0 → B ≤ k := fun k hk => by
  rcases ht k hk with h | h
  · exact hT k h
  · omega
theorem Mod.of_below {T : Nat → Nat} {w w' : World} (h : Below w.heap.size w w') : Mod T (fun _ => False) w w' := ⟨h.os, h.tape, h.output, h.size, fun k hk _ => h.block k hk⟩
theorem Within.of_below {G : Nat → Prop} {w w' : World} (h : Below w.heap.size w w') : Within G w w' := ⟨h.os, h.tape, h.output, h.size, fun k hk _ => h.block k hk⟩
theorem Within.of_gb {G : Nat → Prop} {w w' : World} {row : Option Nat} (h : w.grownBy w' row) (hg : ∀ k, row = some k → G k) : Within G w w' := ⟨h.os, h.tape, h.output, h.size, fun k hk hn => h.block k hk (fun e => hn (hg k e.symm))⟩
theorem Within.mono {G G' : Nat → Prop} {w w' : World} (h : Within G w w') (hg : ∀ k, G k → G' k) : Within G' w w' := ⟨h.os, h.tape, h.output, h.size, fun k hk hn => h.block k hk (fun e => hn (hg k e))⟩
end Go.Proofs.YtlfdgkiliegaiaaGreatDoor

/- Package grid, plain: cells, rows, grids as lists. -/
namespace Go.Proofs.YtlfdgkiliegaiaaGreatDoor
open Go.RowKit

structure Sty where
  fg : Int
  bg : Int
  attr : Int
structure Cel where
  rune : Int
  width : Int
  sty : Sty
def Sty.vals (s : Sty) : List Value := [.int .i64 s.fg, .int .i64 s.bg, .int .i64 s.attr]
def Sty.val (s : Sty) : Value := .agg #[.int .i64 s.fg, .int .i64 s.bg, .int .i64 s.attr]
def Cel.vals (c : Cel) : List Value := [.int .i32 c.rune, .int .i64 c.width, .int .i64 c.sty.fg, .int .i64 c.sty.bg, .int .i64 c.sty.attr]
def Cel.val (c : Cel) : Value := .agg #[.int .i32 c.rune, .int .i64 c.width, .int .i64 c.sty.fg, .int .i64 c.sty.bg, .int .i64 c.sty.attr]
def cvals (l : List Cel) : List Value := l.flatMap Cel.vals
structure Rw where
  cells : List Cel
  wrap : Bool
structure Gr where
  cols : Nat
  limit : Nat
  rows : List Rw
  old : List Rw
def plainS : Sty := ⟨-1, -1, 0⟩
def blankC (s : Sty) : Cel := ⟨32, 1, s⟩
def noC : Cel := ⟨0, 0, ⟨0, 0, 0⟩⟩
def noR : Rw := ⟨[], false⟩
/-- m laid over l, from x on. -/
def putAt {α : Type} (l : List α) (x : Nat) (m : List α) : List α := l.take x ++ m ++ l.drop (x + m.length)
theorem putAt_len {α : Type} (l : List α) (x : Nat) (m : List α) (h : x + m.length ≤ l.length) : (putAt l x m).length = l.length := by
  unfold putAt
  rw [List.length_append, List.length_append, List.length_take, List.length_drop]; omega
def fillL (l : List Cel) (x n : Nat) (s : Sty) : List Cel := putAt l x (List.replicate n (blankC s))
def cutL (l : List Cel) (x : Int) : List Cel :=
  if 0 < x ∧ x < (l.length : Int) ∧ (l.getD x.toNat noC).width = 0 then fillL l (x.toNat - 1) 2 (l.getD x.toNat noC).sty else l
theorem fillL_len (l : List Cel) (x n : Nat) (s : Sty) (h : x + n ≤ l.length) : (fillL l x n s).length = l.length :=
  putAt_len _ _ _ (by rw [List.length_replicate]; exact h)
theorem cutL_len (l : List Cel) (x : Int) : (cutL l x).length = l.length := by
  unfold cutL
  split
  · exact fillL_len _ _ _ _ (by omega)
  · rfl
theorem cvals_len (l : List Cel) : (cvals l).length = l.length * 5 := by
  induction l with
  | nil => rfl
  | cons x l ih =>
    simp only [cvals, List.flatMap_cons, List.length_append, Cel.vals, List.length_cons, List.length_nil] at ih ⊢
    omega
theorem cvals_append (l m : List Cel) : cvals (l ++ m) = cvals l ++ cvals m := by simp [cvals]
theorem cvals_take (l : List Cel) (x : Nat) : (cvals l).take (x * 5) = cvals (l.take x) := by
  induction l generalizing x with
  | nil => simp [cvals]
  | cons c l ih =>
    cases x with
    | zero => simp [cvals]
    | succ x =>
      have e : cvals (c :: l) = c.vals ++ cvals l := rfl
      have e2 : cvals ((c :: l).take (x + 1)) = c.vals ++ cvals (l.take x) := rfl
      rw [e, e2, List.take_append, ← ih x]
      have h5 : c.vals.length = 5 := rfl
      rw [List.take_of_length_le (by rw [h5]; omega), h5, show (x + 1) * 5 - 5 = x * 5 by omega]
theorem cvals_drop (l : List Cel) (x : Nat) : (cvals l).drop (x * 5) = cvals (l.drop x) := by
  induction l generalizing x with
  | nil => simp [cvals]
  | cons c l ih =>
    cases x with
    | zero => simp [cvals]
    | succ x =>
      have e : cvals (c :: l) = c.vals ++ cvals l := rfl
      rw [e, List.drop_append, show (c :: l).drop (x + 1) = l.drop x from rfl, ← ih x]
      have h5 : c.vals.length = 5 := rfl
      rw [List.drop_eq_nil_of_le (by rw [h5]; omega), h5, show (x + 1) * 5 - 5 = x * 5 by omega, List.nil_append]
theorem cvals_put (l : List Cel) (x : Nat) (m : List Cel) : cvals (putAt l x m) = putAt (cvals l) (x * 5) (cvals m) := by
  unfold putAt
  rw [cvals_append, cvals_append, ← cvals_take, ← cvals_drop, cvals_len, Nat.add_mul]
theorem cvals_at (l : List Cel) (x : Nat) (h : x < l.length) (i : Nat) (hi : i < 5) : (cvals l)[x * 5 + i]? = (l.getD x noC).vals[i]? := by
  induction l generalizing x with
  | nil => simp at h
  | cons c l ih =>
    have e : cvals (c :: l) = c.vals ++ cvals l := rfl
    have h5 : c.vals.length = 5 := rfl
    cases x with
    | zero => rw [e, List.getElem?_append_left (by omega)]; simp
    | succ x =>
      rw [e, List.getElem?_append_right (by omega), h5, show (x + 1) * 5 + i - 5 = x * 5 + i by omega, ih x (by simpa using h)]
      rfl
theorem cvals_one (l : List Cel) : ∀ u ∈ cvals l, u.oneCell' = true := by
  intro u hu
  obtain ⟨c, _, hu⟩ := List.mem_flatMap.1 hu
  simp only [Cel.vals, List.mem_cons, List.not_mem_nil, or_false] at hu
  rcases hu with rfl | rfl | rfl | rfl | rfl <;> rfl
end Go.Proofs.YtlfdgkiliegaiaaGreatDoor

/- Buffers of one's own whose elements are of any size: places, stores, slices. -/
namespace Go.Proofs.YtlfdgkiliegaiaaGreatDoor
open Go.RowKit

theorem run_sizeN {P : Program} {e : TypeId} {n : Nat} (hs : (P.info? e).map (·.size) = some n) (wx : World) : (sizeOf e).run P wx = .ok n wx := by
  obtain ⟨i, hi, hi2⟩ := Option.map_eq_some_iff.1 hs
  simp [sizeOf, typeInfo, hi, hi2]
/-- The place of an element. -/
theorem idx_at {P : Program} {t e : TypeId} {size : Nat} (ht : P.underlying t = some (.slice e)) (hs : (P.info? e).map (·.size) = some size) (b off n c j : Nat) (hj : j < n) (wx : World) :
    (Instr.indexAt t (.slice (some ⟨b, off, none⟩) n c) (.int .i64 j)).run P wx = .ok (.pointer (some ⟨b, off + j * size, none⟩)) wx := by
  obtain ⟨i, hi, hi2⟩ := Option.map_eq_some_iff.1 hs
  have hj' : (0 : Int) ≤ (j : Int) ∧ (j : Int) < (n : Int) := by omega
  simp [Instr.indexAt, asIntOf, run_underlying ht, hj', sizeOf, typeInfo, hi, hi2, add_eq]
  omega
/-- l[x:y] -/
theorem slice_lh {P : Program} {t e : TypeId} {size : Nat} (ht : P.underlying t = some (.slice e)) (hs : (P.info? e).map (·.size) = some size) (b off n c x y : Nat) (h1 : x ≤ y) (h2 : y ≤ c) (hx : x < c) (wx : World) :
    (Instr.slice t (.slice (some ⟨b, off, none⟩) n c) (some (.int .i64 (x : Int))) (some (.int .i64 (y : Int))) none).run P wx = .ok (.slice (some ⟨b, off + x * size, none⟩) (y - x) (c - x)) wx := by
  have hel : P.elem t = e := by simp [Program.elem, ht]
  rw [run_slice_lh wx t _ _ c (elem_of ht) .i64 .i64 _ _ (by omega) (by omega) (by omega), hel, run_sizeN hs, Int.toNat_natCast, Int.toNat_natCast]
  show Result.ok (sliced _ x y c size) wx = _
  unfold sliced
  rw [if_neg (by omega)]
  show Result.ok (Value.slice (some ((⟨b, off, none⟩ : Addr).add (x * size))) _ _) wx = _
  rw [add_eq]
/-- l[x:] -/
theorem slice_l {P : Program} {t e : TypeId} {size : Nat} (ht : P.underlying t = some (.slice e)) (hs : (P.info? e).map (·.size) = some size) (b off n c x : Nat) (h1 : x ≤ n) (hx : x < c) (wx : World) :
    (Instr.slice t (.slice (some ⟨b, off, none⟩) n c) (some (.int .i64 (x : Int))) none none).run P wx = .ok (.slice (some ⟨b, off + x * size, none⟩) (n - x) (c - x)) wx := by
  have hel : P.elem t = e := by simp [Program.elem, ht]
  rw [run_slice_l wx t _ _ c (elem_of ht) .i64 _ (by omega) (by omega), hel, run_sizeN hs, Int.toNat_natCast]
  show Result.ok (sliced _ x n c size) wx = _
  unfold sliced
  rw [if_neg (by omega)]
  show Result.ok (Value.slice (some ((⟨b, off, none⟩ : Addr).add (x * size))) _ _) wx = _
  rw [add_eq]
/-- l[:y] -/
theorem slice_h {P : Program} {t e : TypeId} {size : Nat} (ht : P.underlying t = some (.slice e)) (hs : (P.info? e).map (·.size) = some size) (a : Option Addr) (n c y : Nat) (h2 : y ≤ c) (wx : World) :
    (Instr.slice t (.slice a n c) none (some (.int .i64 (y : Int))) none).run P wx = .ok (.slice a y c) wx := by
  have hel : P.elem t = e := by simp [Program.elem, ht]
  rw [run_slice_h wx t _ _ c (elem_of ht) .i64 _ (by omega) (by omega), hel, run_sizeN hs, Int.toNat_natCast]
  show Result.ok (sliced _ 0 y c size) wx = _
  unfold sliced
  cases a with
  | none => simp
  | some a =>
    split
    · rfl
    · rw [Nat.zero_mul]
      show Result.ok (Value.slice (some (a.add 0)) _ _) wx = _
      rw [show a.add 0 = a by simp [Addr.add]]; rfl
theorem ownC_sub {w : World} {base size b off n c : Nat} {xs : List Value} (h : OwnC w base size (.slice (some ⟨b, off, none⟩) n c) n xs) (x y : Nat) (h1 : x ≤ y) (h2 : y ≤ n) :
    OwnC w base size (.slice (some ⟨b, off + x * size, none⟩) (y - x) (c - x)) (y - x) ((xs.drop (x * size)).take ((y - x) * size)) := by
  obtain ⟨e1, h2'⟩ := h
  rcases h2' with ⟨e, _⟩ | ⟨b', off', c', e, hb, hbs, hnc, hcm, hcells, hxs⟩
  · simp at e
  · simp only [Value.slice.injEq, Option.some.injEq, Addr.mk.injEq] at e
    obtain ⟨⟨rfl, rfl, _⟩, _, rfl⟩ := e
    have hle : x * size + (y - x) * size ≤ xs.length := by
      rw [e1, ← Nat.add_mul]; exact Nat.mul_le_mul_right _ (by omega)
    refine ⟨by rw [List.length_take, List.length_drop]; omega, .inr ⟨b, off + x * size, c - x, rfl, hb, hbs, by omega, by omega, fun j hj => ?_, fun j u hu => ?_⟩⟩
    · have : x * size + j < c * size := by
        have hh : x * size + (c - x) * size = c * size := by rw [← Nat.add_mul]; congr 1; omega
        omega
      have := hcells (x * size + j) this
      rwa [← Nat.add_assoc] at this
    · rw [List.getElem?_take] at hu
      split at hu
      · rw [List.getElem?_drop] at hu
        have := hxs _ u hu
        rwa [← Nat.add_assoc] at this
      · simp at hu
theorem putAt_get {α : Type} (l : List α) (x : Nat) (m : List α) (h : x + m.length ≤ l.length) (j : Nat) : (putAt l x m)[j]? = if j < x then l[j]? else if j < x + m.length then m[j - x]? else l[j]? := by
  unfold putAt
  have e1 : (l.take x).length = x := by rw [List.length_take]; omega
  by_cases c1 : j < x
  · rw [if_pos c1, List.getElem?_append_left (by rw [List.length_append]; omega), List.getElem?_append_left (by omega), List.getElem?_take, if_pos c1]
  rw [if_neg c1]
  by_cases c2 : j < x + m.length
  · rw [if_pos c2, List.getElem?_append_left (by rw [List.length_append]; omega), List.getElem?_append_right (by omega), e1]
  · rw [if_neg c2, List.getElem?_append_right (by rw [List.length_append]; omega), List.length_append, e1, List.getElem?_drop]
    congr 1; omega
theorem cell_setCells_in (b : Nat) (vs : List Value) (o : Nat) (w : World) (h : ∀ j, j < vs.length → (w.cell? ⟨b, o + j, none⟩).isSome = true) (j : Nat) (hj : j < vs.length) : (w.setCells b o vs).cell? ⟨b, o + j, none⟩ = vs[j]? := by
  rw [World.cell?_setCells_in b vs o w (fun i hi => h i hi) j hj, List.getElem?_eq_getElem hj]
theorem size_setCells (w : World) (b o : Nat) (vs : List Value) : (w.setCells b o vs).heap.size = w.heap.size := by
  induction vs generalizing o w with
  | nil => rfl
  | cons x vs ih => simp only [World.setCells]; rw [ih]; simp
/-- Some cells are written. -/
theorem ownC_put {w : World} {base size b off n c : Nat} {xs : List Value} (h : OwnC w base size (.slice (some ⟨b, off, none⟩) n c) n xs) (j : Nat) (vs : List Value) (hj : j + vs.length ≤ n * size) :
    OwnC (w.setCells b (off + j) vs) base size (.slice (some ⟨b, off, none⟩) n c) n (putAt xs j vs) := by
  obtain ⟨e1, h2⟩ := h
  rcases h2 with ⟨e, _⟩ | ⟨b', off', c', e, hb, hbs, hnc, hcm, hcells, hxs⟩
  · simp at e
  · simp only [Value.slice.injEq, Option.some.injEq, Addr.mk.injEq] at e
    obtain ⟨⟨rfl, rfl, _⟩, _, rfl⟩ := e
    have hcn : n * size ≤ c * size := Nat.mul_le_mul_right _ hnc
    have hin := cell_setCells_in b vs (off + j) w (fun i hi => by
      have := (hcells (j + i) (by omega)).1
      rwa [← Nat.add_assoc] at this)
    have hout : ∀ k, k < j ∨ j + vs.length ≤ k → (w.setCells b (off + j) vs).cell? ⟨b, off + k, none⟩ = w.cell? ⟨b, off + k, none⟩ := fun k hk =>
      World.cell?_setCells_out b vs (off + j) w _ (fun _ _ => by show off + k < off + j ∨ off + j + vs.length ≤ off + k; omega)
    refine ⟨by rw [putAt_len _ _ _ (by omega)]; exact e1, .inr ⟨b, off, c, rfl, hb, by rw [size_setCells]; exact hbs, hnc, hcm, fun k hk => ⟨?_, by rw [World.frozen?_setCells]; exact (hcells k hk).2⟩, fun k u hu => ?_⟩⟩
    · by_cases hk2 : k < j ∨ j + vs.length ≤ k
      · rw [hout k hk2]; exact (hcells k hk).1
      · have := hin (k - j) (by omega)
        rw [show off + j + (k - j) = off + k by omega] at this
        rw [this, List.getElem?_eq_getElem (by omega)]; rfl
    · rw [putAt_get _ _ _ (by omega)] at hu
      by_cases hk1 : k < j
      · rw [if_pos hk1] at hu
        rw [hout k (.inl hk1)]; exact hxs k u hu
      · rw [if_neg hk1] at hu
        by_cases hk2 : k < j + vs.length
        · rw [if_pos hk2] at hu
          have := hin (k - j) (by omega)
          rw [show off + j + (k - j) = off + k by omega] at this
          rw [this]; exact hu
        · rw [if_neg hk2] at hu
          rw [hout k (.inr (by omega))]; exact hxs k u hu
/-- Storing a struct in a place of one's own. -/
theorem store_own {P : Program} {w : World} {e : TypeId} {base size b off n c : Nat} {xs : List Value} (hs : (P.info? e).map (·.size) = some size) (h : OwnC w base size (.slice (some ⟨b, off, none⟩) n c) n xs) (j : Nat) (hj : j < n) (vs : Array Value) (hv : vs.size = size)
    (h1 : ∀ u ∈ vs.toList, u.oneCell' = true) : (storeVar e ⟨b, off + j * size, none⟩ (.agg vs)).run P w = .ok () (w.setCells b (off + j * size) vs.toList) := by
  obtain ⟨e1, h2⟩ := h
  rcases h2 with ⟨e, _⟩ | ⟨b', off', c', e, hb, hbs, hnc, hcm, hcells, hxs⟩
  · simp at e
  · simp only [Value.slice.injEq, Option.some.injEq, Addr.mk.injEq] at e
    obtain ⟨⟨rfl, rfl, _⟩, _, rfl⟩ := e
    have hlt : (j + 1) * size ≤ c * size := Nat.mul_le_mul_right _ (by omega)
    rw [Nat.add_mul, Nat.one_mul] at hlt
    have hl : vs.toList.length = size := by rw [Array.length_toList]; exact hv
    have hr := run_storeCells_cells (P := P) b (off + j * size) vs.toList 0 w (fun i hi => by
        have := (hcells (j * size + i) (by omega)).1
        rwa [← Nat.add_assoc] at this) (fun i hi => by
        have := (hcells (j * size + i) (by omega)).2
        rwa [← Nat.add_assoc] at this) h1
    unfold storeVar
    simp only [Sem.run_bind, run_sizeN hs, Result.andThen, Value.cells, hv, ne_eq, not_true_eq_false, if_false, Nat.add_zero] at hr ⊢
    exact hr
theorem ownC_sl {w : World} {base size : Nat} {v : Value} {n : Nat} {xs : List Value} (h : OwnC w base size v n xs) : ∃ x c, v = Value.slice x n c := by
  rcases h.2 with ⟨hv, rfl⟩ | ⟨b, off, cap, hv, _⟩
  · exact ⟨_, _, hv⟩
  · exact ⟨_, _, hv⟩
theorem ownC_ln {P : Program} {t e : TypeId} {w : World} {base size : Nat} {v : Value} {n : Nat} {xs : List Value} (ht : P.underlying t = some (.slice e)) (h : OwnC w base size v n xs) (ty : TypeId) (wx : World) : (Builtin.len_ #[t] ty #[v]).run P wx = .ok (.int .i64 n) wx := by
  rcases h.2 with ⟨rfl, rfl⟩ | ⟨b, off, c, rfl, _⟩ <;> simp [Builtin.len_, run_underlying ht, goInt]
theorem ret0w {P : Program} {fn : Func} {R : Ending → World → Prop} {a : Act} {w : World} (h : fn.results = #[]) (hd : a.defers = []) (hR : R (.returned (.tuple #[])) w) :
    bodyPost P fn R .ret a w := bodyPost_ret (results_none h _ _ _) hd hR
theorem ret2w {P : Program} {fn : Func} {R : Ending → World → Prop} {a : Act} {w : World} {t u : Tmp} {v1 v2 : Value} (h : fn.results = #[.tmp t, .tmp u]) (hd : a.defers = []) (h1 : a.tmps.getD t undef = v1) (h2 : a.tmps.getD u undef = v2) (hR : R (.returned (.tuple #[v1, v2])) w) :
    bodyPost P fn R .ret a w := by
  subst h1 h2; exact bodyPost_ret (results_tmp2 h _ _ _) hd hR
section
variable {P : Program}
/-- A store whose outcome is known. -/
theorem wp_storeR {o : Oper} {a : Act} {w w' : World} {K : Act → World → Prop} {Q : Exit → Act → World → Prop} (ty : TypeId) (x y : Operand) (ho : o.op = .store ty x y)
    {ad : Addr} {v : Value} (hst : (storeVar ty ad v).run P w = .ok () w') (hx : a.eval x = .pointer (some ad)) (hy : a.eval y = v) (h : K (a.put o.dst undef) w') : o.wp P a w K Q := by
  unfold Oper.wp execOp
  simp only [ho, hx, hy, Instr.storeAt, Instr.sureAddr, Sem.run_bind, Sem.run_pure, Result.andThen_ok, hst]
  exact h
theorem wpList_storeR {ops : Array Oper} {rest : List Oper} {o : Oper} {a : Act} {w w' : World} {Q : Exit → Act → World → Prop} (hgd : o.guard = none) (ty : TypeId) (x y : Operand) (ho : o.op = .store ty x y)
    {ad : Addr} {v : Value} (hst : (storeVar ty ad v).run P w = .ok () w') (hx : a.eval x = .pointer (some ad)) (hy : a.eval y = v) (h : wpList P ops Q rest (a.put o.dst undef) w') : wpList P ops Q (o :: rest) a w :=
  wpList_plain hgd fun _ hK => wp_storeR ty x y ho hst hx hy (hK _ _ h)
/-- A result that lies in a block of its own. -/
theorem retRow {fn : Func} {R : Ending → World → Prop} {a : Act} {w : World} {p : Tmp} {ty t : TypeId} {g : Nat} {cs : Array Value} {fr : Nat × Nat} {d : TypeDesc} (h : fn.results = #[.cell p ty]) (hdf : a.defers = [])
    (hp : a.tmps.getD p undef = .pointer (some ⟨g, 0, none⟩)) (hg : w.heap[g]? = some (.cells cs t fr)) (hu : P.underlying ty = some d) (hd : (match d with | .struct _ | .array _ _ => true | _ => false) = true) (hi : (P.info? ty).map (·.size) = some cs.size)
    (hR : R (.returned (.agg cs)) w) : bodyPost P fn R .ret a w :=
  bodyPost_ret (results_cell_row h _ w g t cs fr d hp hg hu hd hi) hdf hR
end
end Go.Proofs.YtlfdgkiliegaiaaGreatDoor

/- Package grid, plain: what its functions do. -/
namespace Go.Proofs.YtlfdgkiliegaiaaGreatDoor
open Go.RowKit

/-- May a style be? -/
def colOk (c : Int) : Bool := decide (-1 ≤ c ∧ c ≤ 255) || decide (16777216 ≤ c ∧ c < 33554432)
def okS (s : Sty) : Bool := colOk s.fg && (colOk s.bg && (decide (0 ≤ s.attr) && decide (s.attr ≤ 255)))
def freshL (n cols : Nat) (s : Sty) : List Rw := List.replicate n ⟨List.replicate cols (blankC s), false⟩
def mayG (cols rows : Int) : Bool := decide (1 ≤ cols) && (decide (cols ≤ 250) && (decide (1 ≤ rows) && decide (rows ≤ 120)))
def newG (cols rows limit : Nat) : Gr := ⟨cols, limit, freshL rows cols plainS, []⟩
def Gr.row (g : Gr) (y : Int) : Rw :=
  if 0 ≤ y ∧ y < (g.rows.length : Int) then g.rows.getD y.toNat noR
  else if y < 0 ∧ -(g.old.length : Int) ≤ y then g.old.getD ((g.old.length : Int) + y).toNat noR
  else noR
/-- A row's cells but the blanks at its end. -/
def trimL (l : List Cel) : List Cel := (l.reverse.dropWhile fun c => c.rune == 32).reverse
def Gr.setWrap (g : Gr) (y : Int) (is : Bool) : Gr :=
  if 0 ≤ y ∧ y < (g.rows.length : Int) then { g with rows := g.rows.set y.toNat { g.rows.getD y.toNat noR with wrap := is } } else g
/-- The cells of row y turned. -/
def Gr.turn (g : Gr) (y : Nat) (f : List Cel → List Cel) : Gr := { g with rows := g.rows.set y { g.rows.getD y noR with cells := f (g.rows.getD y noR).cells } }
def Gr.onIt (g : Gr) (x y : Int) (s : Sty) : Bool := decide (0 ≤ y) && (decide (y < (g.rows.length : Int)) && (decide (0 ≤ x) && (decide (x < (g.cols : Int)) && okS s)))
def layL (l : List Cel) (x : Nat) (c : Cel) : List Cel := putAt (cutL (cutL l x) ((x : Int) + c.width)) x (if c.width = 2 then [c, ⟨0, 0, c.sty⟩] else [c])
def keepL (limit : Nat) (l : List Rw) : List Rw := l.drop (l.length - limit)
def regionN (g : Gr) (top bottom n : Int) (s : Sty) : Nat :=
  if top < 0 ∨ bottom < top ∨ (g.rows.length : Int) ≤ bottom ∨ okS s = false then 0 else (max 0 (min n (bottom - top + 1))).toNat
/-- Rows top to bottom scrolled up by n (n at most bottom - top + 1, at least 1). -/
def upRows (rows : List Rw) (top bottom n cols : Nat) (s : Sty) : List Rw :=
  rows.take top ++ (rows.drop (top + n)).take (bottom + 1 - top - n) ++ freshL n cols s ++ rows.drop (bottom + 1)
def downRows (rows : List Rw) (top bottom n cols : Nat) (s : Sty) : List Rw :=
  rows.take top ++ freshL n cols s ++ (rows.drop top).take (bottom + 1 - top - n) ++ rows.drop (bottom + 1)
def Gr.up (g : Gr) (top bottom n : Int) (s : Sty) (keep : Bool) : Gr :=
  if regionN g top bottom n s = 0 then g
  else { g with rows := upRows g.rows top.toNat bottom.toNat (regionN g top bottom n s) g.cols s
                old := if keep = true ∧ top = 0 then keepL g.limit (g.old ++ (g.rows.drop top.toNat).take (regionN g top bottom n s)) else g.old }
def Gr.down (g : Gr) (top bottom n : Int) (s : Sty) : Gr :=
  if regionN g top bottom n s = 0 then g else { g with rows := downRows g.rows top.toNat bottom.toNat (regionN g top bottom n s) g.cols s }

def into (n most : Int) : Int := max 0 (min n most)
end Go.Proofs.YtlfdgkiliegaiaaGreatDoor

/- Package grid, plain: rows scrolled up and down. -/
namespace Go.Proofs.YtlfdgkiliegaiaaGreatDoor
open Go.RowKit

theorem up_len {rows : List Rw} {t b n c : Nat} {s : Sty} (h1 : t ≤ b) (h2 : b < rows.length) (h3 : n ≤ b + 1 - t) : (upRows rows t b n c s).length = rows.length := by
  unfold upRows freshL
  simp only [List.length_append, List.length_take, List.length_drop, List.length_replicate]; omega
theorem down_len {rows : List Rw} {t b n c : Nat} {s : Sty} (h1 : t ≤ b) (h2 : b < rows.length) (h3 : n ≤ b + 1 - t) : (downRows rows t b n c s).length = rows.length := by
  unfold downRows freshL
  simp only [List.length_append, List.length_take, List.length_drop, List.length_replicate]; omega
end Go.Proofs.YtlfdgkiliegaiaaGreatDoor
