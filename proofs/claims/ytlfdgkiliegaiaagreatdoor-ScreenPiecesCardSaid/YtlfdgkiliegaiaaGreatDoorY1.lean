/- Texts laid together: Base Own Own2 Own3 P1 A2 A3 V1 V2 W1. -/
import Derived.WalkKit
import Derived.WalkSpells
import Derived.WalkLawsBesides
import Derived.BigQuiet
import Derived.Lib.Hide
import Derived.Deep.QuietTactic
import Derived.ArgAppend
import Derived.Laws.IdiomCopy
import Derived.Laws.IdiomStrings
import Derived.Deep.Upon
import Derived.Deep.AppendSrc
import Derived.Lib.AppendStr
import Derived.Lib.FrozenHead
import Derived.Laws.Cover4
import Derived.Test.YtlfdgkiliegaiaaGreatDoorRows
import Derived.Test.YtlfdgkiliegaiaaGreatDoorShelf
import Derived.Lib.ItoaLen
import Derived.Deep.RegionLaw
import Derived.Deep.DeepCutAuto
import Derived.Lib.AppendIntMem
import Derived.Lib.ItoaNum
import Derived.Lib.SlBytesConst
set_option linter.unusedVariables false
namespace Go.Proofs.YtlfdgkiliegaiaaGreatDoor
section
open Go.RowKit
theorem Z9 {k : IntKind} {a b : Int} (h : a = b) : Ending.returned (.int k a) = .returned (.int k b) := by rw [h]
theorem ZU {a b : Bool} (h : a = b) : Ending.returned (.bool a) = .returned (.bool b) := by rw [h]
theorem Zx {α : Type} (l : List α) (d : α) (k : Nat) (h : k < l.length) : l.take (k + 1) = l.take k ++ [l.getD k d] := by
 rw [List.take_succ_eq_append_getElem h, List.getD_eq_getElem?_getD, List.getElem?_eq_getElem h]; rfl
theorem zT {P : Program} {fn : Func} {R : Ending → World → Prop} {a : Act} {w : World} {t : Tmp} {v : Value} (h : fn.results = #[.tmp t]) (hd : a.defers = []) (hv : a.tmps.getD t undef = v) (hR : R (.returned v) w) :
  bodyPost P fn R .ret a w := by
 subst hv; exact bodyPost_ret (results_tmp h _ _ _) hd hR
theorem zj {w : World} {p : Nat} {o : Obj} (h : w.heap[p]? = some o) : p < w.heap.size := (Array.getElem?_eq_some_iff.1 h).1
theorem za {w : World} {p : Nat} {c : Array Value} {T : TypeId} {fr : Nat × Nat} (h : w.heap[p]? = some (.cells c T fr)) (i : Nat) : w.cell? ⟨p, i, none⟩ = c[i]? := by
 simp [World.cell?, h]
theorem zy {w : World} {p : Nat} {c : Array Value} {T : TypeId} (h : w.heap[p]? = some (.cells c T (0, 0))) (i : Nat) : w.frozen? ⟨p, i, none⟩ = false := by
 simp [World.frozen?, h]
theorem zw {w : World} {p : Nat} {c : Array Value} {T : TypeId} (h : w.heap[p]? = some (.cells c T (0, 0))) (i : Nat) (v : Value) : (w.setCell ⟨p, i, none⟩ v).heap[p]? = some (.cells (c.setIfInBounds i v) T (0, 0)) :=
 heap_setCell_same w p i c T v h
theorem zbg {w : World} {p q : Nat} {o : Obj} (h : w.heap[p]? = some o) (hq : p ≠ q) (i : Nat) (v : Value) : (w.setCell ⟨q, i, none⟩ v).heap[p]? = some o := by
 rw [heap_setCell_other w ⟨q, i, none⟩ p v hq]; exact h
theorem zD {w : World} {p : Nat} {o : Obj} (h : w.heap[p]? = some o) (o' : Obj) : (w.alloc o').heap[p]? = some o := by
 rw [_root_.Go.heap_alloc_old w o' (zj h)]; exact h
theorem Zo {w : World} {p : Nat} {o : Obj} (h : w.heap[p]? = some o) : w.drew.heap[p]? = some o := h
theorem zo {w w' : World} {p : Nat} {o : Obj} {row : Option Nat} (h : w.heap[p]? = some o) (g : w.grownBy w' row) (hne : some p ≠ row) : w'.heap[p]? = some o := by
 rw [g.block p (zj h) hne]; exact h
theorem zm {w w' : World} {p B : Nat} {o : Obj} (h : w.heap[p]? = some o) (g : Below B w w') (hB : p < B) : w'.heap[p]? = some o := by
 rw [g.block p hB]; exact h
theorem zr (w : World) (row : Option Nat) : w.grownBy w row := ⟨rfl, rfl, rfl, Nat.le_refl _, fun _ _ _ => rfl⟩
theorem Zs {a b c : World} {row : Option Nat} (h : a.grownBy b row) (g : b.grownBy c row) : a.grownBy c row :=
 ⟨g.os.trans h.os, g.tape.trans h.tape, g.output.trans h.output, Nat.le_trans h.size g.size, fun k hk hr => (g.block k (Nat.lt_of_lt_of_le hk h.size) hr).trans (h.block k hk hr)⟩
theorem zcc {a b : World} {row : Option Nat} (h : a.grownBy b row) (o : Obj) : a.grownBy (b.alloc o) row := Zs h (World.grownBy_alloc b o row)
theorem zbV {a b : World} {row : Option Nat} (h : a.grownBy b row) : a.grownBy b.drew row := Zs h ⟨rfl, rfl, rfl, Nat.le_refl _, fun _ _ _ => rfl⟩
theorem zO {a b : World} {p : Nat} (h : a.grownBy b (some p)) (i : Nat) (v : Value) : a.grownBy (b.setCell ⟨p, i, none⟩ v) (some p) :=
 Zs h ⟨rfl, rfl, rfl, by simp, fun k _ hr => heap_setCell_other b ⟨p, i, none⟩ k v (fun e => hr (by rw [e]))⟩
theorem zfv {a b c : World} {row : Option Nat} (h : a.grownBy b row) {B : Nat} (g : Below B b c) (hB : a.heap.size ≤ B) : a.grownBy c row :=
 ⟨g.os.trans h.os, g.tape.trans h.tape, g.output.trans h.output, Nat.le_trans h.size g.size, fun k hk hr => (g.block k (Nat.lt_of_lt_of_le hk hB)).trans (h.block k hk hr)⟩
theorem zcz {a b c : World} {row row' : Option Nat} (h : a.grownBy b row) (g : b.grownBy c row') (hn : ∀ q, row' = some q → a.heap.size ≤ q) : a.grownBy c row :=
 ⟨g.os.trans h.os, g.tape.trans h.tape, g.output.trans h.output, Nat.le_trans h.size g.size, fun k hk hr => (g.block k (Nat.lt_of_lt_of_le hk h.size) (fun e => by have := hn k e.symm; omega)).trans (h.block k hk hr)⟩
theorem ZV {w : World} {base g n : Nat} {e : TypeId} {size : Nat} (cs : Array Value) (xs : List Value) (hg : g = w.heap.size) (hb : base ≤ w.heap.size) (hm : n ≤ maxLen) (hs : cs.size = n * size) (hx : cs.toList = xs) :
  (w.alloc (.cells cs e)).ownsRow base e size (.slice (some ⟨g, 0, none⟩) n n) n xs := by
 subst hg hx; exact World.ownsRow_lit w cs n hb hm hs
theorem ZW {a b : World} {row : Option Nat} {B : Nat} (h : a.grownBy b row) (hB : B ≤ a.heap.size) (hn : ∀ q, row = some q → B ≤ q) : Below B a b :=
 ⟨h.os, h.tape, h.output, h.size, fun k hk => h.block k (Nat.lt_of_lt_of_le hk hB) (fun e => by have := hn k e.symm; omega)⟩
def zay (p : Prop) : Prop := p
theorem zaz {p : Prop} (h : zay p) : p := h
structure zdC (P : Program) (t e : TypeId) (size bytes : Nat) (z : Value) : Prop where
 und : P.underlying t = some (.slice e)
 info : (P.info? e).map (fun i => (i.zero, i.size, i.bytes)) = some (some z, size, bytes)
 zs : z.cells.size = size
 pos : 0 < size
def zaw (w : World) (size : Nat) (x : Value) (m : Nat) (news : List Value) : Prop :=
 (x = .slice none 0 0 ∧ m = 0 ∧ news = []) ∨ ∃ a c, x = .slice (some a) m c ∧ news.length = m * size ∧ ∀ j u, news[j]? = some u → w.cell? (a.add j) = some u
theorem zdj {w : World} {base : Nat} {e : TypeId} {size : Nat} {v : Value} {n : Nat} {xs : List Value} (h : w.ownsRow base e size v n xs) : zaw w size v n xs := by
 obtain ⟨h1, h2⟩ := id h;rcases h2 with ⟨hv, hn⟩ | ⟨g, cap, cur, hv, _⟩
 ·subst hn;exact .inl ⟨hv, rfl, List.eq_nil_of_length_eq_zero (by simpa using h1)⟩
 ·exact .inr ⟨⟨g, 0, none⟩, cap, hv, h1, h.cells (by rw [hv]; rfl)⟩
section
variable {P : Program} {w : World} {ops : Array Oper} {rest : List Oper} {o : Oper} {a : Act} {Q : Exit → Act → World → Prop}
theorem zbE {t e : TypeId} {size bytes : Nat} {z : Value} (EI : zdC P t e size bytes z) (hgd : o.guard = none) {s x : Operand}
  (ho : o.op = .call { callee := .builtin .append, args := #[s, x], argTypes := #[t, t] })
  (base : Nat) {v : Value} {n : Nat} {xs : List Value} (hown : w.ownsRow base e size v n xs) (hs : a.eval s = v)
  {y : Value} {m : Nat} {news : List Value} (hr : zaw w size y m news) (hx : a.eval x = y) (h1 : ∀ u ∈ news, u.oneCell' = true)
  (h63 : n + m ≤ maxLen) (hbytes : (n + m) * bytes ≤ 140737488355328) (hbase : base ≤ w.heap.size)
  (h : ∀ v' w', w'.ownsRow base e size v' (n + m) (xs ++ news) → w.grownBy w' v.ownBlock → wpList P ops Q rest (a.put o.dst v') w') : wpList P ops Q (o :: rest) a w := by
 obtain ⟨i, hi, hz0, hz1, hz2⟩ := info_parts EI.info;rcases hr with ⟨rfl, rfl, rfl⟩ | ⟨ad, c, rfl, hl, hc⟩
 ·refine wpList_plain hgd fun K hK => ?_;have hr := run_append_owned_none (P := P) w base t o.type e i size EI.und hi v n xs hown;unfold Oper.wp execOp;simp only [ho, resolve, invoke, builtin, Sem.run_bind, Sem.run_pure, Result.andThen_ok, List.map_toArray, List.map_cons, List.map_nil, hs, hx, hr];exact hK _ _ (h _ _ (by simpa using hown) ⟨rfl, rfl, rfl, Nat.le_refl _, fun _ _ _ => rfl⟩)
 ·exact wpList_append_own w hgd s x t ho base e i z size bytes EI.und hi hz0 hz1 hz2 EI.zs EI.pos v n xs hs hown ad m c news hx hl hc h1 h63 hbytes hbase (fun v' w' a b _ => h v' w' a b)
end
theorem zhN {w : World} {base base' : Nat} {e : TypeId} {size : Nat} {v : Value} {n : Nat} {xs : List Value} (h : w.ownsRow base e size v n xs) (hb : base' ≤ base) : w.ownsRow base' e size v n xs := by
 refine ⟨h.1, ?_⟩;rcases h.2 with h | ⟨g, cap, cur, h1, h2, h3⟩
 ·exact .inl h
 ·exact .inr ⟨g, cap, cur, h1, by omega, h3⟩
def zma (k : IntKind) (w : World) (v : Value) (l : List Int) : Prop :=
 (v = .slice none 0 0 ∧ l = []) ∨ ∃ b off c, v = .slice (some ⟨b, off, none⟩) l.length c ∧ b < w.heap.size ∧ l.length ≤ c ∧ c ≤ 9223372036854775807 ∧
  ∀ j, j < l.length → w.cell? ⟨b, off + j, none⟩ = some (.int k (l.getD j 0))
theorem zaO (b off j : Nat) : (⟨b, off, none⟩ : Addr).add j = ⟨b, off + j, none⟩ := by
 unfold Addr.add; split
 ·rename_i h; subst h; rfl
 ·rfl
theorem zeb (l : List Int) (j : Nat) (h : j < l.length) : l[j]? = some (l.getD j 0) := by
 rw [List.getD_eq_getElem?_getD, List.getElem?_eq_getElem h]; rfl
theorem zg {B : Nat} {a w : World} (h : Below B a w) (n : Nat) : Below B a (w.drewN n) := h.trans ⟨rfl, rfl, rfl, Nat.le_refl _, fun _ _ => rfl⟩
end
section
open Go.RowKit
def zn (w : World) (base size : Nat) (v : Value) (n : Nat) (xs : List Value) : Prop :=
 xs.length = n * size ∧ ((v = .slice none 0 0 ∧ n = 0) ∨ ∃ b off cap, v = .slice (some ⟨b, off, none⟩) n cap ∧ base ≤ b ∧ b < w.heap.size ∧ n ≤ cap ∧ cap ≤ maxLen ∧
  (∀ j, j < cap * size → (w.cell? ⟨b, off + j, none⟩).isSome = true ∧ w.frozen? ⟨b, off + j, none⟩ = false) ∧ ∀ j u, xs[j]? = some u → w.cell? ⟨b, off + j, none⟩ = some u)
theorem ZX (w : World) (base size : Nat) : zn w base size (.slice none 0 0) 0 [] := ⟨by simp, .inl ⟨rfl, rfl⟩⟩
theorem zac {w : World} {base : Nat} {e : TypeId} {size : Nat} {v : Value} {n : Nat} {xs : List Value} (h : w.ownsRow base e size v n xs) : zn w base size v n xs := by
 obtain ⟨h1, h2⟩ := id h;refine ⟨h1, ?_⟩;rcases h2 with h2 | ⟨g, cap, cur, hv, hb, hg, h3, h4, h5, h6⟩
 ·exact .inl h2
 ·refine .inr ⟨g, 0, cap, hv, hb, zj hg, h3, h4, fun j hj => ⟨?_, ?_⟩, fun j u hu => ?_⟩
  ·rw [Nat.zero_add, za hg];rw [Array.getElem?_eq_getElem (by omega)]; rfl
  ·rw [Nat.zero_add, zy hg]
  ·rw [← zaO];exact h.cells (g := g) (by rw [hv]; rfl) j u hu
theorem zl {w : World} {base size : Nat} {v : Value} {n : Nat} {xs : List Value} (h : zn w base size v n xs) : ∀ k, v.ownBlock = some k → base ≤ k ∧ k < w.heap.size := by
 intro k hk;rcases h.2 with ⟨rfl, _⟩ | ⟨b, off, cap, rfl, h1, h2, _⟩
 ·simp [Value.ownBlock] at hk
 ·simp [Value.ownBlock] at hk; omega
theorem Zk {w w' : World} {base size : Nat} {v : Value} {n : Nat} {xs : List Value} (h : zn w base size v n xs) (hs : w.heap.size ≤ w'.heap.size) (hk : ∀ k, v.ownBlock = some k → w'.heap[k]? = w.heap[k]?) : zn w' base size v n xs := by
 refine ⟨h.1, ?_⟩;rcases h.2 with h2 | ⟨b, off, cap, rfl, h1, h2, h3, h4, h5, h6⟩
 ·exact .inl h2
 ·have hb := hk b rfl;refine .inr ⟨b, off, cap, rfl, h1, by omega, h3, h4, fun j hj => ?_, fun j u hu => ?_⟩
  ·rw [World.cell?_of_block (a := ⟨b, off + j, none⟩) hb, World.frozen?_of_block (a := ⟨b, off + j, none⟩) hb]; exact h5 j hj
  ·rw [World.cell?_of_block (a := ⟨b, off + j, none⟩) hb]; exact h6 j u hu
theorem zx {w w' : World} {base size : Nat} {v : Value} {n : Nat} {xs : List Value} {row : Option Nat} (h : zn w base size v n xs) (g : w.grownBy w' row) (hr : ∀ k, v.ownBlock = some k → row ≠ some k) : zn w' base size v n xs :=
 Zk h g.size fun k hk => g.block k (zl h k hk).2 (fun e => hr k hk e.symm)
theorem zh {w w' : World} {base size : Nat} {v : Value} {n : Nat} {xs : List Value} (h : zn w base size v n xs) (g : Below w.heap.size w w') : zn w' base size v n xs :=
 Zk h g.size fun k hk => g.block k (zl h k hk).2
theorem zM {w : World} {base base' size : Nat} {v : Value} {n : Nat} {xs : List Value} (h : zn w base size v n xs) (hb : base' ≤ base) : zn w base' size v n xs := by
 refine ⟨h.1, ?_⟩;rcases h.2 with h2 | ⟨b, off, cap, hv, h1, h2⟩
 ·exact .inl h2
 ·exact .inr ⟨b, off, cap, hv, by omega, h2⟩
theorem zB {w : World} {base size : Nat} {v : Value} {n : Nat} {xs : List Value} (h : zn w base size v n xs) (o : Obj) : zn (w.alloc o) base size v n xs :=
 zx h (World.grownBy_alloc w o none) (by intro k _ e; simp at e)
theorem zU {w : World} {base size : Nat} {v : Value} {n : Nat} {xs : List Value} (h : zn w base size v n xs) : zaw w size v n xs := by
 obtain ⟨h1, h2⟩ := h;rcases h2 with ⟨hv, hn⟩ | ⟨b, off, cap, hv, _, _, _, _, _, h6⟩
 ·subst hn;exact .inl ⟨hv, rfl, List.eq_nil_of_length_eq_zero (by simpa using h1)⟩
 ·exact .inr ⟨⟨b, off, none⟩, cap, hv, h1, fun j u hu => by rw [zaO]; exact h6 j u hu⟩
theorem zkv {w : World} {base : Nat} {k : IntKind} {v : Value} {l : List Int} (h : zn w base 1 v l.length (l.map (Value.int k))) : zma k w v l := by
 rcases h.2 with ⟨hv, hn⟩ | ⟨b, off, cap, hv, _, h2, h3, h4, _, h6⟩
 ·exact .inl ⟨hv, List.eq_nil_of_length_eq_zero hn⟩
 ·exact .inr ⟨b, off, cap, hv, h2, h3, by unfold maxLen at h4; exact h4, fun j hj => h6 j _ (by rw [List.getElem?_map, zeb l j hj]; rfl)⟩
theorem zP (w : World) (b o : Nat) (vs : List Value) : w.grownBy (w.setCells b o vs) (some b) := by
 have hsz : ∀ (vs : List Value) (o : Nat) (w : World), (w.setCells b o vs).heap.size = w.heap.size := by
  intro vs
  induction vs with
  | nil => intro o w; rfl
  | cons x vs ih => intro o w; simp only [World.setCells]; rw [ih]; simp
 have htp : ∀ (vs : List Value) (o : Nat) (w : World), (w.setCells b o vs).tape = w.tape := by
  intro vs
  induction vs with
  | nil => intro o w; rfl
  | cons x vs ih => intro o w; simp only [World.setCells]; rw [ih]; rfl
 exact ⟨World.os_setCells w b o vs, htp vs o w, World.output_setCells w b o vs, by rw [hsz]; exact Nat.le_refl _, fun k hk hr => World.heap_setCells_other w b o vs hk (fun e => hr (by rw [e]))⟩
section
variable {P : Program} {w : World} {ops : Array Oper} {rest : List Oper} {o : Oper} {a : Act} {Q : Exit → Act → World → Prop}
theorem zbW {t e : TypeId} {size bytes : Nat} {z : Value} (EI : zdC P t e size bytes z) (hgd : o.guard = none) {s x : Operand}
  (ho : o.op = .call { callee := .builtin .append, args := #[s, x], argTypes := #[t, t] })
  (base : Nat) {v : Value} {n : Nat} {xs : List Value} (hown : zn w base size v n xs) (hs : a.eval s = v)
  {y : Value} {m : Nat} {news : List Value} (hr : zaw w size y m news) (hx : a.eval x = y) (h1 : ∀ u ∈ news, u.oneCell' = true)
  (h63 : n + m ≤ maxLen) (hbytes : (n + m) * bytes ≤ 140737488355328) (hbase : base ≤ w.heap.size)
  (h : ∀ v' w', zn w' base size v' (n + m) (xs ++ news) → w.grownBy w' v.ownBlock → wpList P ops Q rest (a.put o.dst v') w') : wpList P ops Q (o :: rest) a w := by
 obtain ⟨i, hi, hz0, hz1, hz2⟩ := info_parts EI.info;rcases hown.2 with ⟨hv, hn⟩ | ⟨b, off, cap, hv, hb, hbs, hnc, hcm, hcells, hxs⟩
 ·subst hn;have hx0 : xs = [] := List.eq_nil_of_length_eq_zero (by simpa using hown.1);subst hv hx0;refine zbE EI hgd ho base (World.ownsRow_nil w base e size) hs hr hx h1 h63 hbytes hbase fun v' w' o' g' => h v' w' (zac o') g'
 ·rcases hr with ⟨rfl, rfl, rfl⟩ | ⟨ad, c, rfl, hl, hc⟩
  ·subst hv;refine wpList_plain hgd fun K hK => ?_;have hrr : (Builtin.append_ #[t, t] o.type #[.slice (some ⟨b, off, none⟩) n cap, .slice none 0 0]).run P w = .ok (.slice (some ⟨b, off, none⟩) n cap) w := by
    simp [Builtin.append_, run_underlying EI.und, sizeOf, typeInfo, hi, Builtin.lenOf, Builtin.firstCells, hnc, storeCells]
   unfold Oper.wp execOp;simp only [ho, resolve, invoke, builtin, Sem.run_bind, Sem.run_pure, Result.andThen_ok, List.map_toArray, List.map_cons, List.map_nil, hs, hx, hrr];exact hK _ _ (h _ _ (by simpa using hown) ⟨rfl, rfl, rfl, Nat.le_refl _, fun _ _ _ => rfl⟩)
  ·have hown' := hown;subst hv;refine wpList_append_arg w hgd s x t ho e i z size bytes EI.und hi hz0 hz1 hz2 EI.zs EI.pos b off n cap xs hs hown.1 hxs ad m c news hx hl hc h1 ?_ h63 hbytes ?_ ?_
   ·intro hroom j hj;have hlt : n * size + j < cap * size := by
     have : (n + m) * size ≤ cap * size := Nat.mul_le_mul_right _ hroom;rw [Nat.add_mul] at this; omega
    rw [Nat.add_assoc];exact hcells _ hlt
   ·intro hroom;have hlen : (xs ++ news).length = (n + m) * size := (by rw [List.length_append, hown.1, hl, Nat.add_mul]);have hbound : (n + m) * size ≤ cap * size := Nat.mul_le_mul_right _ hroom;have hsplit : (n + m) * size = n * size + m * size := Nat.add_mul _ _ _;refine h _ _ ⟨hlen, .inr ⟨b, off, cap, rfl, hb, ?_, hroom, hcm, fun j hj => ⟨?_, ?_⟩, fun j u hu => ?_⟩⟩ (zP w b _ news)
    ·exact Nat.lt_of_lt_of_le hbs (zP w b (off + n * size) news).size
    ·by_cases hin : n * size ≤ j ∧ j < n * size + news.length
     ·have := World.cell?_setCells_in b news (off + n * size) w (fun i hi => by rw [Nat.add_assoc]; exact (hcells _ (by omega)).1) (j - n * size) (by omega);rw [show off + n * size + (j - n * size) = off + j from by omega] at this;rw [this]; rfl
     ·rw [World.cell?_setCells_out b news (off + n * size) w ⟨b, off + j, none⟩ (fun _ _ => by show off + j < _ ∨ _ ≤ off + j; omega)];exact (hcells j hj).1
    ·rw [World.frozen?_setCells]; exact (hcells j hj).2
    ·have hjl : j < (xs ++ news).length := (List.getElem?_eq_some_iff.1 hu).1;by_cases hjx : j < xs.length
     ·rw [List.getElem?_append_left hjx] at hu;rw [World.cell?_setCells_out b news (off + n * size) w ⟨b, off + j, none⟩ (fun _ _ => by show off + j < _ ∨ _ ≤ off + j; have := hown.1; omega)];exact hxs j u hu
     ·rw [List.getElem?_append_right (by omega)] at hu;have hx0 := hown.1;have hjn : j - xs.length < news.length := (List.getElem?_eq_some_iff.1 hu).1;have := World.cell?_setCells_in b news (off + n * size) w (fun i hi => by rw [Nat.add_assoc]; exact (hcells _ (by omega)).1) (j - xs.length) hjn;rw [show off + n * size + (j - xs.length) = off + j from by omega] at this;rw [this, ← hu, List.getElem?_eq_getElem hjn]
   ·intro hfull v' w' o' g';exact h v' w' (zM (zac o') hbase) ⟨g'.os, g'.tape, g'.output, g'.size, fun k hk _ => g'.block k hk (by simp)⟩
end
theorem ziV {P : Program} (w : World) (src dst e : TypeId) (s : ByteArray) (hs : P.underlying src = some .string) (hd : P.underlying dst = some (.slice e)) (he : P.underlying e = some (.int .u8)) (hm : s.size ≤ maxLen) :
  ∃ v w', (convert src dst (.string s)).run P w = .ok v w' ∧ zn w' w.heap.size 1 v s.size (s.data.toList.map fun b => Value.int .u8 (b.toNat : Int)) ∧ w.grownBy w' none := by
 have hcap := grownCap_ge w s.size 0 e;have hcm := grownCap_le_maxLen w s.size 0 e hm;refine ⟨_, _, run_bytes_of_string w src dst e s hs hd he, ⟨by rw [List.length_map, Array.length_toList, Nat.mul_one]; rfl, .inr ⟨w.heap.size, 0, _, rfl, Nat.le_refl _, by simp, hcap, hcm, ?_, ?_⟩⟩, ⟨rfl, rfl, rfl, by simp, fun k hk _ => heap_alloc_old w.drew _ hk⟩⟩
 ·intro j hj;have hsz : (bytesRow s (grownCap w s.size 0 e)).size = grownCap w s.size 0 e := by
   simp only [bytesRow, Array.size_append, Array.size_map, Array.size_replicate];have : s.data.size = s.size := rfl;omega
  rw [Nat.zero_add];have e1 := World.cell?_alloc_mark w.drew (bytesRow s (grownCap w s.size 0 e)) e ((bytesRow s (grownCap w s.size 0 e)).size, (bytesRow s (grownCap w s.size 0 e)).size + 1) j;have e2 := World.frozen?_alloc_mark w.drew (bytesRow s (grownCap w s.size 0 e)) e (bytesRow s (grownCap w s.size 0 e)).size ((bytesRow s (grownCap w s.size 0 e)).size + 1) j;refine ⟨?_, ?_⟩
  ·rw [show w.heap.size = w.drew.heap.size from rfl, e1, Array.getElem?_eq_getElem (by omega)]; rfl
  ·rw [show w.heap.size = w.drew.heap.size from rfl, e2, hsz];simp; omega
 ·intro j u hu;rw [Nat.zero_add];have e1 := World.cell?_alloc_mark w.drew (bytesRow s (grownCap w s.size 0 e)) e ((bytesRow s (grownCap w s.size 0 e)).size, (bytesRow s (grownCap w s.size 0 e)).size + 1) j;have hj : j < s.data.size := (by have := (List.getElem?_eq_some_iff.1 hu).1; simpa using this);rw [show w.heap.size = w.drew.heap.size from rfl, e1, bytesRow_at s _ j hj, ← hu, List.getElem?_map, List.getElem?_eq_getElem (by simpa using hj)];simp
end
section
open Go.RowKit
section
variable {P : Program} {w : World} {ops : Array Oper} {rest : List Oper} {o : Oper} {a : Act} {Q : Exit → Act → World → Prop}
theorem zG {t e : TypeId} {size bytes : Nat} {z : Value} (EI : zdC P t e size bytes z) (hgd : o.guard = none) {s x : Operand}
  (ho : o.op = .call { callee := .builtin .append, args := #[s, x], argTypes := #[t, t] })
  (base : Nat) {v : Value} {n : Nat} {xs : List Value} (hown : zn w base size v n xs) (hs : a.eval s = v)
  {y : Value} {m : Nat} {news : List Value} (hr : zaw w size y m news) (hx : a.eval x = y) (h1 : ∀ u ∈ news, u.oneCell' = true)
  (h63 : n + m ≤ maxLen) (hbytes : (n + m) * bytes ≤ 140737488355328) (hbase : base ≤ w.heap.size)
  (h : ∀ v' w', zn w' base size v' (n + m) (xs ++ news) → w.grownBy w' v.ownBlock → (∀ k, v'.ownBlock = some k → v.ownBlock = some k ∨ w.heap.size ≤ k) → wpList P ops Q rest (a.put o.dst v') w') : wpList P ops Q (o :: rest) a w := by
 obtain ⟨i, hi, hz0, hz1, hz2⟩ := info_parts EI.info;rcases hown.2 with ⟨hv, hn⟩ | ⟨b, off, cap, hv, hb, hbs, hnc, hcm, hcells, hxs⟩
 ·subst hn;have hx0 : xs = [] := List.eq_nil_of_length_eq_zero (by simpa using hown.1);subst hv hx0;refine zbE EI hgd ho w.heap.size (World.ownsRow_nil w w.heap.size e size) hs hr hx h1 h63 hbytes (Nat.le_refl _) fun v' w' o' g' => h v' w' (zM (zac o') hbase) g' (fun k hk => .inr (o'.lt k hk).1)
 ·rcases hr with ⟨rfl, rfl, rfl⟩ | ⟨ad, c, rfl, hl, hc⟩
  ·subst hv;refine wpList_plain hgd fun K hK => ?_;have hrr : (Builtin.append_ #[t, t] o.type #[.slice (some ⟨b, off, none⟩) n cap, .slice none 0 0]).run P w = .ok (.slice (some ⟨b, off, none⟩) n cap) w := by
    simp [Builtin.append_, run_underlying EI.und, sizeOf, typeInfo, hi, Builtin.lenOf, Builtin.firstCells, hnc, storeCells]
   unfold Oper.wp execOp;simp only [ho, resolve, invoke, builtin, Sem.run_bind, Sem.run_pure, Result.andThen_ok, List.map_toArray, List.map_cons, List.map_nil, hs, hx, hrr];exact hK _ _ (h _ _ (by simpa using hown) ⟨rfl, rfl, rfl, Nat.le_refl _, fun _ _ _ => rfl⟩ (fun k hk => .inl hk))
  ·have hown' := hown;subst hv;refine wpList_append_arg w hgd s x t ho e i z size bytes EI.und hi hz0 hz1 hz2 EI.zs EI.pos b off n cap xs hs hown.1 hxs ad m c news hx hl hc h1 ?_ h63 hbytes ?_ ?_
   ·intro hroom j hj;have hlt : n * size + j < cap * size := by
     have : (n + m) * size ≤ cap * size := Nat.mul_le_mul_right _ hroom;rw [Nat.add_mul] at this; omega
    rw [Nat.add_assoc];exact hcells _ hlt
   ·intro hroom;have hlen : (xs ++ news).length = (n + m) * size := (by rw [List.length_append, hown.1, hl, Nat.add_mul]);have hbound : (n + m) * size ≤ cap * size := Nat.mul_le_mul_right _ hroom;have hsplit : (n + m) * size = n * size + m * size := Nat.add_mul _ _ _;refine h _ _ ⟨hlen, .inr ⟨b, off, cap, rfl, hb, ?_, hroom, hcm, fun j hj => ⟨?_, ?_⟩, fun j u hu => ?_⟩⟩ (zP w b _ news) (fun k hk => .inl hk)
    ·exact Nat.lt_of_lt_of_le hbs (zP w b (off + n * size) news).size
    ·by_cases hin : n * size ≤ j ∧ j < n * size + news.length
     ·have := World.cell?_setCells_in b news (off + n * size) w (fun i hi => by rw [Nat.add_assoc]; exact (hcells _ (by omega)).1) (j - n * size) (by omega);rw [show off + n * size + (j - n * size) = off + j from by omega] at this;rw [this]; rfl
     ·rw [World.cell?_setCells_out b news (off + n * size) w ⟨b, off + j, none⟩ (fun _ _ => by show off + j < _ ∨ _ ≤ off + j; omega)];exact (hcells j hj).1
    ·rw [World.frozen?_setCells]; exact (hcells j hj).2
    ·have hjl : j < (xs ++ news).length := (List.getElem?_eq_some_iff.1 hu).1;by_cases hjx : j < xs.length
     ·rw [List.getElem?_append_left hjx] at hu;rw [World.cell?_setCells_out b news (off + n * size) w ⟨b, off + j, none⟩ (fun _ _ => by show off + j < _ ∨ _ ≤ off + j; have := hown.1; omega)];exact hxs j u hu
     ·rw [List.getElem?_append_right (by omega)] at hu;have hx0 := hown.1;have hjn : j - xs.length < news.length := (List.getElem?_eq_some_iff.1 hu).1;have := World.cell?_setCells_in b news (off + n * size) w (fun i hi => by rw [Nat.add_assoc]; exact (hcells _ (by omega)).1) (j - xs.length) hjn;rw [show off + n * size + (j - xs.length) = off + j from by omega] at this;rw [this, ← hu, List.getElem?_eq_getElem hjn]
   ·intro hfull v' w' o' g';exact h v' w' (zM (zac o') hbase) ⟨g'.os, g'.tape, g'.output, g'.size, fun k hk _ => g'.block k hk (by simp)⟩ (fun k hk => .inr (o'.lt k hk).1)
end
end
section
open Go.RowKit
theorem zdk {P : Program} {w : World} {t e : TypeId} {size : Nat} {y : Value} {m : Nat} {news : List Value} (ht : P.underlying t = some (.slice e)) (h : zaw w size y m news) (h1 : ∀ u ∈ news, u.oneCell' = true) : Src P size t y m news w := by
 rcases h with ⟨rfl, rfl, rfl⟩ | ⟨a, c, rfl, hl, hc⟩
 ·exact Src.ofNil w ht 0
 ·exact Src.ofSlice w ht a m c news hl hc h1
theorem zhO {P : Program} (w : World) {t tx ty e : TypeId} {size bytes : Nat} {z : Value} (EI : zdC P t e size bytes z)
  (base : Nat) {v : Value} {n : Nat} {xs : List Value} (hown : zn w base size v n xs)
  {y : Value} {m : Nat} {news : List Value} (hs : Src P size tx y m news w)
  (h63 : n + m ≤ maxLen) (hbytes : (n + m) * bytes ≤ 140737488355328) (hbase : base ≤ w.heap.size) :
  ∃ v' w', (Builtin.append_ #[t, tx] ty #[v, y]).run P w = .ok v' w' ∧ zn w' base size v' (n + m) (xs ++ news) ∧ w.grownBy w' v.ownBlock ∧ (∀ k, v'.ownBlock = some k → v.ownBlock = some k ∨ w.heap.size ≤ k) := by
 obtain ⟨i, hi, hz0, hz1, hz2⟩ := info_parts EI.info;have zs := EI.zs;have pos := EI.pos;have und := EI.und;clear EI;subst hz1 hz2;have hlen : (xs ++ news).length = (n + m) * i.size := (by rw [List.length_append, hown.1, hs.newsLen, Nat.add_mul]);have grown : ∀ old : Nat, old < n + m →
   zn (w.drew.alloc (.cells ((xs ++ news).toArray ++ Builtin.zeroCells z.cells (grownCap w (n + m) old e - (n + m))) e)) base i.size
    (.slice (some ⟨w.heap.size, 0, none⟩) (n + m) (grownCap w (n + m) old e)) (n + m) (xs ++ news) := by
  intro old ho;have hge := grownCap_ge w (n + m) old e;have hcm : grownCap w (n + m) old e ≤ maxLen := grownCap_le_maxLen w (n + m) old e h63;refine zac (e := e) ⟨hlen, .inr ⟨w.heap.size, _, _, rfl, hbase, heap_alloc_new w.drew _, hge, hcm, ?_, ?_⟩⟩
  ·simp only [Array.size_append, List.size_toArray, size_zeroCells, zs, hlen, ← Nat.add_mul];congr 1;omega
  ·simp only [Array.toList_append, List.append_assoc];rw [← List.append_assoc, ← hlen];exact List.take_left
 have hgr : ∀ (o : Obj) (row : Option Nat), w.grownBy (w.drew.alloc o) row := fun o row => ⟨rfl, rfl, rfl, by simp, fun k hk _ => heap_alloc_old w.drew _ hk⟩;by_cases hm : m = 0
 ·subst hm;have hn : news = [] := List.eq_nil_of_length_eq_zero (by simpa using hs.newsLen);subst hn;have hv : ∃ a c, v = .slice a n c ∧ n ≤ c := by
   rcases hown.2 with ⟨rfl, rfl⟩ | ⟨b, off, cap, rfl, _, _, h, _⟩
   ·exact ⟨none, 0, rfl, Nat.le_refl _⟩
   ·exact ⟨_, _, rfl, h⟩
  obtain ⟨a, c, rfl, hc⟩ := hv;exact ⟨_, _, run_append_nothing w t tx ty e i und hi a n c hc y hs, by simpa using hown, zr _ _, fun k hk => .inl hk⟩
 rcases hown.2 with ⟨hv, hn⟩ | ⟨b, off, cap, hv, hb, hbs, hnc, hcm, hcells, hxs⟩
 ·subst hn;have hx0 : xs = [] := List.eq_nil_of_length_eq_zero (by simpa using hown.1);subst hv hx0;have hr := run_append_grow_src w t tx ty e i z und hi hz0 none 0 0 [] (by simp [Builtin.firstCells]) y m news hs (by omega) (by simp only [maxLen] at h63; omega) (growslice_fits (by omega) hbytes);exact ⟨_, _, hr, grown 0 (by omega), hgr _ _, fun k hk => .inr (by simp [Value.ownBlock] at hk; omega)⟩
 ·subst hv;by_cases hroom : n + m ≤ cap
  ·have hbound : (n + m) * i.size ≤ cap * i.size := Nat.mul_le_mul_right _ hroom;have hsplit : (n + m) * i.size = n * i.size + m * i.size := Nat.add_mul _ _ _;have hl := hs.newsLen;have hspare : ∀ j, j < news.length → (w.cell? ⟨b, off + n * i.size + j, none⟩).isSome = true ∧ w.frozen? ⟨b, off + n * i.size + j, none⟩ = false := by
    intro j hj;rw [Nat.add_assoc];exact hcells _ (by omega)
   have hr := run_append_room_src w t tx ty e i und hi b off n cap y m news hs hroom (fun j hj => (hspare j hj).1) (fun j hj => (hspare j hj).2);refine ⟨_, _, hr, ⟨hlen, .inr ⟨b, off, cap, rfl, hb, ?_, hroom, hcm, fun j hj => ⟨?_, ?_⟩, fun j u hu => ?_⟩⟩, zP w b _ news, fun k hk => .inl hk⟩
   ·exact Nat.lt_of_lt_of_le hbs (zP w b (off + n * i.size) news).size
   ·by_cases hin : n * i.size ≤ j ∧ j < n * i.size + news.length
    ·have := World.cell?_setCells_in b news (off + n * i.size) w (fun i hi => (hspare i hi).1) (j - n * i.size) (by omega);rw [show off + n * i.size + (j - n * i.size) = off + j from by omega] at this;rw [this]; rfl
    ·rw [World.cell?_setCells_out b news (off + n * i.size) w ⟨b, off + j, none⟩ (fun _ _ => by show off + j < _ ∨ _ ≤ off + j; omega)];exact (hcells j hj).1
   ·rw [World.frozen?_setCells]; exact (hcells j hj).2
   ·have hjl : j < (xs ++ news).length := (List.getElem?_eq_some_iff.1 hu).1;have hx0 := hown.1;by_cases hjx : j < xs.length
    ·rw [List.getElem?_append_left hjx] at hu;rw [World.cell?_setCells_out b news (off + n * i.size) w ⟨b, off + j, none⟩ (fun _ _ => by show off + j < _ ∨ _ ≤ off + j; omega)];exact hxs j u hu
    ·rw [List.getElem?_append_right (by omega)] at hu;have hjn : j - xs.length < news.length := (List.getElem?_eq_some_iff.1 hu).1;have := World.cell?_setCells_in b news (off + n * i.size) w (fun i hi => (hspare i hi).1) (j - xs.length) hjn;rw [show off + n * i.size + (j - xs.length) = off + j from by omega] at this;rw [this, ← hu, List.getElem?_eq_getElem hjn]
  ·have hold : (Builtin.firstCells i.size n (.slice (some ⟨b, off, none⟩) n cap)).run P w.drew = .ok xs.toArray w.drew :=
    run_firstCells_some w.drew i.size n ⟨b, off, none⟩ n cap xs hown.1 (fun j u hu => by rw [zaO]; simpa using hxs j u hu)
   have hr := run_append_grow_src w t tx ty e i z und hi hz0 (some ⟨b, off, none⟩) n cap xs hold y m news hs (by omega) (by simp only [maxLen] at h63; omega) (growslice_fits (by omega) hbytes);exact ⟨_, _, hr, grown cap (by omega), hgr _ _, fun k hk => .inr (by simp [Value.ownBlock] at hk; omega)⟩
section
variable {P : Program} {w : World} {ops : Array Oper} {rest : List Oper} {o : Oper} {a : Act} {Q : Exit → Act → World → Prop}
theorem zeY {t tx e : TypeId} {size bytes : Nat} {z : Value} (EI : zdC P t e size bytes z) (hgd : o.guard = none) {s x : Operand}
  (ho : o.op = .call { callee := .builtin .append, args := #[s, x], argTypes := #[t, tx] })
  (base : Nat) {v : Value} {n : Nat} {xs : List Value} (hown : zn w base size v n xs) (hs : a.eval s = v)
  {y : Value} {m : Nat} {news : List Value} (hr : Src P size tx y m news w) (hx : a.eval x = y)
  (h63 : n + m ≤ maxLen) (hbytes : (n + m) * bytes ≤ 140737488355328) (hbase : base ≤ w.heap.size)
  (h : ∀ v' w', zn w' base size v' (n + m) (xs ++ news) → w.grownBy w' v.ownBlock → (∀ k, v'.ownBlock = some k → v.ownBlock = some k ∨ w.heap.size ≤ k) → wpList P ops Q rest (a.put o.dst v') w') : wpList P ops Q (o :: rest) a w := by
 refine wpList_plain hgd fun K hK => ?_;obtain ⟨v', w', hrr, h1, h2, h3⟩ := zhO w (ty := o.type) EI base hown hr h63 hbytes hbase;unfold Oper.wp execOp;simp only [ho, resolve, invoke, builtin, Sem.run_bind, Sem.run_pure, Result.andThen_ok, List.map_toArray, List.map_cons, List.map_nil, hs, hx, hrr];exact hK _ _ (h _ _ h1 h2 h3)
end
def zk (l : List UInt8) : List Value := l.map fun b => Value.int .u8 (b.toNat : Int)
theorem zaN (l : List UInt8) : (zk l).length = l.length := by unfold zk; simp
theorem ZB (l m : List UInt8) : zk (l ++ m) = zk l ++ zk m := by unfold zk; simp
theorem zN {P : Program} {w : World} {src dst e : TypeId} (h1 : P.underlying src = some (.slice e)) (h2 : P.underlying e = some (.int .u8)) (h3 : P.underlying dst = some .string) {v : Value} {l : List UInt8} (h : zaw w 1 v l.length (zk l)) :
  (convert src dst v).run P w = .ok (.string ⟨l.toArray⟩) w := by
 rcases h with ⟨rfl, hn, _⟩ | ⟨a, c, rfl, _, hc⟩
 ·have : l = [] := List.eq_nil_of_length_eq_zero hn;subst this;rw [run_convert_bytes_string w src dst e none 0 0 h1 h2 h3];rfl
 ·exact run_convert_bytes_back w src dst e a c l h1 h2 h3 (fun j hj => hc j _ (by unfold zk; rw [List.getElem?_map, List.getElem?_eq_getElem hj]; rfl))
end
section
structure Dec where
 r : Int
 hav : Int
 more : Int
 lo : Int
 hi : Int
def zY (d : Dec) (b : Int) : Dec × List Int :=
 if b < 128 then ({ d with lo := 128, hi := 191 }, [b])
 else if 194 ≤ b ∧ b ≤ 223 then (⟨b % 32, 1, 1, 128, 191⟩, [])
 else if 224 ≤ b ∧ b ≤ 239 then (⟨b % 16, 1, 2, if b = 224 then 160 else 128, if b = 237 then 159 else 191⟩, [])
 else if 240 ≤ b ∧ b ≤ 244 then (⟨b % 8, 1, 3, if b = 240 then 144 else 128, if b = 244 then 143 else 191⟩, [])
 else ({ d with lo := 128, hi := 191 }, [65533])
def Zg (d : Dec) (b : Int) : Dec × List Int :=
 if d.hav = 0 then zY d b
 else if b < d.lo ∨ d.hi < b then ((zY { d with hav := 0 } b).1, 65533 :: (zY { d with hav := 0 } b).2)
 else if 1 < d.more then (⟨d.r * 64 + b % 64, d.hav + 1, d.more - 1, 128, 191⟩, [])
 else (⟨d.r * 64 + b % 64, 0, d.more - 1, 128, 191⟩, [d.r * 64 + b % 64])
def zaA (d : Dec) : Dec × List Int := if d.hav = 0 then (d, []) else ({ d with hav := 0 }, [65533])
def dec0 : Dec := ⟨0, 0, 0, 0, 0⟩
def Zt : Dec → List UInt8 → Dec × List Int
 | d, [] => (d, [])
 | d, b :: l => ((Zt (Zg d b.toNat).1 l).1, (Zg d b.toNat).2 ++ (Zt (Zg d b.toNat).1 l).2)
theorem zeZ : ∀ (l m : List UInt8) (d : Dec), Zt d (l ++ m) = ((Zt (Zt d l).1 m).1, (Zt d l).2 ++ (Zt (Zt d l).1 m).2)
 | [], m, d => by simp [Zt]
 | b :: l, m, d => by simp [Zt, zeZ l m]
theorem zkw (l : List UInt8) (b : UInt8) (d : Dec) : Zt d (l ++ [b]) = ((Zg (Zt d l).1 b.toNat).1, (Zt d l).2 ++ (Zg (Zt d l).1 b.toNat).2) := by
 rw [zeZ]; simp [Zt]
def zcW (l : List UInt8) : List Int := (Zt dec0 l).2 ++ (zaA (Zt dec0 l).1).2
def Z8 (b : Int) : Int × Int × Int :=
 if 194 ≤ b ∧ b ≤ 223 then (128, 191, 0)
 else if b = 224 then (160, 191, 1)
 else if b = 237 then (128, 159, 1)
 else if 225 ≤ b ∧ b ≤ 239 then (128, 191, 1)
 else if b = 240 then (144, 191, 2)
 else if 241 ≤ b ∧ b ≤ 243 then (128, 191, 2)
 else if b = 244 then (128, 143, 2)
 else (0, 0, -1)
def goT : Nat → Int → Int → Int → List UInt8 → Nat → Int × Nat
 | 0, r, _, _, _, i => (r, i)
 | _ + 1, _, _, _, [], _ => (0, 0)
 | k + 1, r, lo, hi, b :: t, i => if (b.toNat : Int) < lo ∨ hi < (b.toNat : Int) then (65533, i) else goT k (r * 64 + (b.toNat : Int) % 64) 128 191 t (i + 1)
def zg7 (b more : Int) : Int := if more = 2 then b % 8 else if more = 1 then b % 16 else b % 32
def za5 : List UInt8 → Int × Nat
 | [] => (0, 0)
 | b :: t =>
  if (b.toNat : Int) < 128 then (b.toNat, 1)
  else if (Z8 b.toNat).2.2 < 0 then (65533, 1)
  else goT ((Z8 b.toNat).2.2.toNat + 1) (zg7 b.toNat (Z8 b.toNat).2.2) (Z8 b.toNat).1 (Z8 b.toNat).2.1 t 1
theorem zcA (b : UInt8) (t : List UInt8) : za5 (b :: t) = if (b.toNat : Int) < 128 then ((b.toNat : Int), 1)
  else if (Z8 b.toNat).2.2 < 0 then (65533, 1)
  else goT ((Z8 b.toNat).2.2.toNat + 1) (zg7 b.toNat (Z8 b.toNat).2.2) (Z8 b.toNat).1 (Z8 b.toNat).2.1 t 1 := rfl
theorem zjP : ∀ (k : Nat) (d : Dec) (t : List UInt8) (i : Nat), 0 < i → 1 ≤ d.hav → d.more = k + 1 →
  ((goT (k + 1) d.r d.lo d.hi t i).2 = 0 → (Zt d t).2 = [] ∧ (Zt d t).1.hav = d.hav + t.length) ∧
  ((goT (k + 1) d.r d.lo d.hi t i).2 ≠ 0 → ∃ d1 : Dec, d1.hav = 0 ∧ i ≤ (goT (k + 1) d.r d.lo d.hi t i).2 ∧
   Zt d t = ((Zt d1 (t.drop ((goT (k + 1) d.r d.lo d.hi t i).2 - i))).1, (goT (k + 1) d.r d.lo d.hi t i).1 :: (Zt d1 (t.drop ((goT (k + 1) d.r d.lo d.hi t i).2 - i))).2))
 | k, d, [], i, hi, hh, hm => by simp [goT, Zt]
 | k, d, b :: t, i, hi, hh, hm => by
  have h0 : ¬ d.hav = 0 := (by omega);by_cases hb : (b.toNat : Int) < d.lo ∨ d.hi < (b.toNat : Int)
  ·have e : goT (k + 1) d.r d.lo d.hi (b :: t) i = (65533, i) := (by unfold goT; rw [if_pos hb]);rw [e];refine ⟨fun h => by simp at h; omega, fun _ => ⟨{ d with hav := 0 }, rfl, Nat.le_refl _, ?_⟩⟩;have ef : Zg d b.toNat = ((Zg { d with hav := 0 } b.toNat).1, 65533 :: (Zg { d with hav := 0 } b.toNat).2) := by
    unfold Zg; rw [if_neg h0, if_pos hb]; simp
   simp [Zt, ef]
  ·have e : goT (k + 1) d.r d.lo d.hi (b :: t) i = goT k (d.r * 64 + (b.toNat : Int) % 64) 128 191 t (i + 1) := (by rw [goT]; rw [if_neg hb]);rw [e];cases k with
   | zero =>
    have ef : Zg d b.toNat = (⟨d.r * 64 + (b.toNat : Int) % 64, 0, d.more - 1, 128, 191⟩, [d.r * 64 + (b.toNat : Int) % 64]) := by
     unfold Zg; rw [if_neg h0, if_neg hb, if_neg (by omega)]
    simp only [goT];refine ⟨fun h => by omega, fun _ => ⟨⟨d.r * 64 + (b.toNat : Int) % 64, 0, d.more - 1, 128, 191⟩, rfl, by omega, ?_⟩⟩;rw [show i + 1 - i = 1 from by omega];simp only [Zt, ef]; rfl
   | succ k =>
    have ef : Zg d b.toNat = (⟨d.r * 64 + (b.toNat : Int) % 64, d.hav + 1, d.more - 1, 128, 191⟩, []) := by
     unfold Zg; rw [if_neg h0, if_neg hb, if_pos (by omega)]
    have ih := zjP k ⟨d.r * 64 + (b.toNat : Int) % 64, d.hav + 1, d.more - 1, 128, 191⟩ t (i + 1) (by omega) (by simp only []; omega) (by simp only []; omega);dsimp only at ih;have er : Zt d (b :: t) = Zt ⟨d.r * 64 + (b.toNat : Int) % 64, d.hav + 1, d.more - 1, 128, 191⟩ t := (by simp [Zt, ef]);rw [er];refine ⟨fun h => ?_, fun h => ?_⟩
    ·obtain ⟨a1, a2⟩ := ih.1 h;exact ⟨a1, by rw [a2]; simp; omega⟩
    ·obtain ⟨d1, a1, a2, a3⟩ := ih.2 h;refine ⟨d1, a1, by omega, ?_⟩;rw [a3];have : (goT (k + 1) (d.r * 64 + (b.toNat : Int) % 64) 128 191 t (i + 1)).2 - i = ((goT (k + 1) (d.r * 64 + (b.toNat : Int) % 64) 128 191 t (i + 1)).2 - (i + 1)) + 1 := (by omega);rw [this, List.drop_succ_cons]
theorem ziW (d : Dec) (b : Int) (h1 : ¬ b < 128) (h2 : ¬ (Z8 b).2.2 < 0) :
  zY d b = (⟨zg7 b (Z8 b).2.2, 1, (Z8 b).2.2 + 1, (Z8 b).1, (Z8 b).2.1⟩, []) := by
 by_cases c1 : 194 ≤ b ∧ b ≤ 223
 ·simp only [Z8, zY, if_neg h1, if_pos c1]; rfl
 by_cases c2 : b = 224
 ·subst c2; rfl
 by_cases c3 : b = 237
 ·subst c3; rfl
 by_cases c4 : 225 ≤ b ∧ b ≤ 239
 ·simp only [Z8, zY, if_neg h1, if_neg c1, if_neg c2, if_neg c3, if_pos c4, if_pos (show 224 ≤ b ∧ b ≤ 239 by omega)]; rfl
 by_cases c5 : b = 240
 ·subst c5; rfl
 by_cases c6 : 241 ≤ b ∧ b ≤ 243
 ·simp only [Z8, zY, if_neg h1, if_neg c1, if_neg c2, if_neg c3, if_neg c4, if_neg c5, if_pos c6, if_neg (show ¬ (224 ≤ b ∧ b ≤ 239) by omega), if_pos (show 240 ≤ b ∧ b ≤ 244 by omega), if_neg (show ¬ b = 244 by omega)]; rfl
 by_cases c7 : b = 244
 ·subst c7; rfl
 ·exfalso; apply h2;simp only [Z8, if_neg c1, if_neg c2, if_neg c3, if_neg c4, if_neg c5, if_neg c6, if_neg c7]; decide
theorem znv (b : Int) (h2 : (Z8 b).2.2 < 0) : ¬ (194 ≤ b ∧ b ≤ 223) ∧ ¬ (224 ≤ b ∧ b ≤ 239) ∧ ¬ (240 ≤ b ∧ b ≤ 244) := by
 unfold Z8 at h2
 repeat' split at h2
 all_goals first | (exact absurd h2 (by decide)) | omega
theorem zkx (d : Dec) (b : UInt8) (t : List UInt8) (hd : d.hav = 0) :
  ((za5 (b :: t)).2 = 0 → (Zt d (b :: t)).2 = [] ∧ (Zt d (b :: t)).1.hav = (b :: t).length) ∧
  ((za5 (b :: t)).2 ≠ 0 → ∃ d1 : Dec, d1.hav = 0 ∧ Zt d (b :: t) = ((Zt d1 ((b :: t).drop (za5 (b :: t)).2)).1, (za5 (b :: t)).1 :: (Zt d1 ((b :: t).drop (za5 (b :: t)).2)).2)) := by
 have ef : Zg d b.toNat = zY d b.toNat := (by unfold Zg; rw [if_pos hd]);have hlt := b.toNat_lt;by_cases h1 : (b.toNat : Int) < 128
 ·have et : za5 (b :: t) = ((b.toNat : Int), 1) := (by rw [zcA, if_pos h1]);have eb : zY d b.toNat = ({ d with lo := 128, hi := 191 }, [(b.toNat : Int)]) := (by unfold zY; rw [if_pos h1]);rw [et];exact ⟨fun h => absurd h (Nat.succ_ne_zero 0), fun _ => ⟨{ d with lo := 128, hi := 191 }, hd, by simp only [Zt, ef, eb]; rfl⟩⟩
 by_cases h2 : (Z8 b.toNat).2.2 < 0
 ·have et : za5 (b :: t) = (65533, 1) := (by rw [zcA, if_neg h1, if_pos h2]);have eb : zY d b.toNat = ({ d with lo := 128, hi := 191 }, [65533]) := by
   obtain ⟨n1, n2, n3⟩ := znv _ h2;unfold zY; rw [if_neg h1, if_neg n1, if_neg n2, if_neg n3]
  rw [et];exact ⟨fun h => absurd h (Nat.succ_ne_zero 0), fun _ => ⟨{ d with lo := 128, hi := 191 }, hd, by simp only [Zt, ef, eb]; rfl⟩⟩
 ·have eb := ziW d b.toNat h1 h2;have et : za5 (b :: t) = goT ((Z8 b.toNat).2.2.toNat + 1) (zg7 b.toNat (Z8 b.toNat).2.2) (Z8 b.toNat).1 (Z8 b.toNat).2.1 t 1 := by
   rw [zcA, if_neg h1, if_neg h2]
  have hr := zjP (Z8 b.toNat).2.2.toNat ⟨zg7 b.toNat (Z8 b.toNat).2.2, 1, (Z8 b.toNat).2.2 + 1, (Z8 b.toNat).1, (Z8 b.toNat).2.1⟩ t 1 (by omega) (by simp) (by simp only []; omega);dsimp only at hr;rw [← et] at hr;have er : Zt d (b :: t) = Zt ⟨zg7 b.toNat (Z8 b.toNat).2.2, 1, (Z8 b.toNat).2.2 + 1, (Z8 b.toNat).1, (Z8 b.toNat).2.1⟩ t := (by simp [Zt, ef, eb]);rw [er];refine ⟨fun h => ?_, fun h => ?_⟩
  ·obtain ⟨a1, a2⟩ := hr.1 h;exact ⟨a1, by rw [a2]; simp; omega⟩
  ·obtain ⟨d1, a1, a2, a3⟩ := hr.2 h;refine ⟨d1, a1, ?_⟩;rw [a3];have : (za5 (b :: t)).2 = ((za5 (b :: t)).2 - 1) + 1 := (by omega);rw [this, List.drop_succ_cons]; simp
def zbs : Nat → List UInt8 → List Int × Nat
 | 0, _ => ([], 0)
 | _ + 1, [] => ([], 0)
 | n + 1, b :: t => if (za5 (b :: t)).2 = 0 then ([], (b :: t).length) else
   ((za5 (b :: t)).1 :: (zbs n ((b :: t).drop (za5 (b :: t)).2)).1, (zbs n ((b :: t).drop (za5 (b :: t)).2)).2)
theorem zgt : ∀ (n : Nat) (l : List UInt8) (d : Dec), l.length ≤ n → d.hav = 0 → (Zt d l).2 = (zbs n l).1 ∧ (Zt d l).1.hav = (zbs n l).2
 | n, [], d, _, hd => by cases n <;> simp [Zt, zbs, hd]
 | 0, _ :: _, _, h, _ => by simp at h
 | n + 1, b :: t, d, h, hd => by
  obtain ⟨r1, r2⟩ := zkx d b t hd;by_cases h0 : (za5 (b :: t)).2 = 0
  ·obtain ⟨a1, a2⟩ := r1 h0;rw [zbs, if_pos h0];exact ⟨a1, a2⟩
  ·obtain ⟨d1, a1, a2⟩ := r2 h0;rw [zbs, if_neg h0, a2];have ih := zgt n ((b :: t).drop (za5 (b :: t)).2) d1 (by simp only [List.length_drop]; simp only [List.length_cons] at h ⊢; omega) a1;dsimp only;exact ⟨by rw [ih.1], ih.2⟩
def whole (l : List UInt8) : List Int × Nat := zbs l.length l
theorem ziX (l : List UInt8) (d : Dec) (hd : d.hav = 0) : (Zt d l).2 = (whole l).1 ∧ (Zt d l).1.hav = (whole l).2 := zgt _ l d (Nat.le_refl _) hd
def ziY (l : List UInt8) : List Int := (whole l).1 ++ if (whole l).2 = 0 then [] else [65533]
theorem zmb (l : List UInt8) : zcW l = ziY l := by
 obtain ⟨h1, h2⟩ := ziX l dec0 rfl;unfold zcW ziY zaA;rw [h1, h2];congr 1;by_cases h : (whole l).2 = 0
 ·simp [h]
 ·rw [if_neg (by omega), if_neg h]
end
section
open Go.RowKit
def Dec.cells (d : Dec) : Array Value := #[.int .i32 d.r, .int .i64 d.hav, .int .i64 d.more, .int .u8 d.lo, .int .u8 d.hi]
def zbX (w : World) (p : Nat) (d : Dec) : Prop := w.heap[p]? = some (.cells d.cells 214 (0, 0))
theorem zc3 {w : World} {p : Nat} {c : Array Value} {d : Dec} (h : w.heap[p]? = some (.cells c 214 (0, 0))) (e : c = d.cells) : zbX w p d := by subst e; exact h
theorem zmc (d : Dec) (b : Int) (h : b < 128) : zY d b = ({ d with lo := 128, hi := 191 }, [b]) := by unfold zY; rw [if_pos h]
theorem zmd (d : Dec) (b : Int) (h : 194 ≤ b ∧ b ≤ 223) : zY d b = (⟨b % 32, 1, 1, 128, 191⟩, []) := by unfold zY; rw [if_neg (by omega), if_pos h]
theorem zme (d : Dec) (b : Int) (h : 224 ≤ b ∧ b ≤ 239) : zY d b = (⟨b % 16, 1, 2, if b = 224 then 160 else 128, if b = 237 then 159 else 191⟩, []) := by
 unfold zY; rw [if_neg (by omega), if_neg (by omega), if_pos h]
theorem zmf (d : Dec) (b : Int) (h : 240 ≤ b ∧ b ≤ 244) : zY d b = (⟨b % 8, 1, 3, if b = 240 then 144 else 128, if b = 244 then 143 else 191⟩, []) := by
 unfold zY; rw [if_neg (by omega), if_neg (by omega), if_neg (by omega), if_pos h]
theorem zmg (d : Dec) (b : Int) (h : 128 ≤ b) (h2 : ¬ (194 ≤ b ∧ b ≤ 223)) (h3 : ¬ (224 ≤ b ∧ b ≤ 239)) (h4 : ¬ (240 ≤ b ∧ b ≤ 244)) : zY d b = ({ d with lo := 128, hi := 191 }, [65533]) := by
 unfold zY; rw [if_neg (by omega), if_neg h2, if_neg h3, if_neg h4]
theorem zdM (d : Dec) (b : Int) : (zY d b).2.length ≤ 1 := by
 unfold zY; repeat' split
 all_goals simp
set_option maxHeartbeats 1000000 in
theorem zgu (p : Nat) (d : Dec) (b : Int) (w : World) (hd : zbX w p d) (h0 : 0 ≤ b) (h1 : b ≤ 255) :
  Calls Tryz.prog 201 #[.pointer (some ⟨p, 0, none⟩), .int .u8 b] w fun e w' => ∃ v, e = .returned v ∧
   w'.ownsRow w.heap.size 21 1 v (zY d b).2.length ((zY d b).2.map (Value.int .i32)) ∧ w.grownBy w' (some p) ∧ zbX w' p (zY d b).1 := by
 have c0 : w.cell? ⟨p, 0, none⟩ = some (.int .i32 d.r) := za hd 0;have c1 : w.cell? ⟨p, 1, none⟩ = some (.int .i64 d.hav) := za hd 1;have c2 : w.cell? ⟨p, 2, none⟩ = some (.int .i64 d.more) := za hd 2;have c3 : w.cell? ⟨p, 3, none⟩ = some (.int .u8 d.lo) := za hd 3;have c4 : w.cell? ⟨p, 4, none⟩ = some (.int .u8 d.hi) := za hd 4;have fz := zy hd;have HD : w.heap[p]? = some (.cells d.cells 214 (0, 0)) := hd;replace HD := Lib.hid HD;clear hd;go_enter Tryz.func201, Tryz.ntmps201
 go_wp2
 all_goals
  apply zT rfl rfl
  ·simp only [Array.getD_eq_getD_getElem?, List.getElem?_toArray, List.getElem?_cons_succ, List.getElem?_cons_zero, Option.getD_some]; rfl
  refine ⟨_, rfl, ?own, ?gb, ?dec⟩
  case gb => repeat (with_reducible first | refine zO ?_ _ _ | refine zcc ?_ _ | exact zr _ _)
  all_goals first | rw [zmc d b (by omega)] | rw [zmd d b (by omega)] | rw [zme d b (by omega)] | rw [zmf d b (by omega)] | rw [zmg d b (by omega) (by omega) (by omega) (by omega)] | skip
  case dec =>
   apply zc3
   ·repeat (with_reducible first | apply zw | apply zD | exact HD.out)
   ·first | rfl | (simp only [beq_iff_eq, beq_eq_false_iff_ne, ne_eq] at *; simp [Dec.cells, *]; done)
  case own =>
   simp only [List.length_cons, List.length_nil, List.map_cons, List.map_nil, Nat.zero_add]
   with_reducible first | exact World.ownsRow_nil _ _ _ _ | apply ZV
   all_goals first | rfl | simp | decide
end
section
open Go.RowKit
theorem zcB : zdC Tryz.prog 191 21 1 4 (.int .i32 0) := ⟨Tryz.underlying191, by kernel_rfl, rfl, by decide⟩
structure Dec.ok (d : Dec) : Prop where
 h0 : 0 ≤ d.hav
 h1 : d.hav + d.more ≤ 4
 m0 : 0 ≤ d.more
 r0 : 0 ≤ d.r
 r1 : d.hav ≠ 0 → d.r * 64 ^ d.more.toNat < 2097152
 m1 : d.hav ≠ 0 → 1 ≤ d.more
 lo : d.hav ≠ 0 → 128 ≤ d.lo
 hi : d.hav ≠ 0 → d.hi ≤ 191
set_option maxHeartbeats 1000000 in
theorem zhP (p : Nat) (d : Dec) (b : Int) (w : World) (hd : zbX w p d) (h0 : 0 ≤ b) (h1 : b ≤ 255) (hok : d.ok) :
  Calls Tryz.prog 149 #[.pointer (some ⟨p, 0, none⟩), .int .u8 b] w fun e w' => ∃ v, e = .returned v ∧
   w'.ownsRow w.heap.size 21 1 v (Zg d b).2.length ((Zg d b).2.map (Value.int .i32)) ∧ w.grownBy w' (some p) ∧ zbX w' p (Zg d b).1 := by
 have c0 : w.cell? ⟨p, 0, none⟩ = some (.int .i32 d.r) := za hd 0;have c1 : w.cell? ⟨p, 1, none⟩ = some (.int .i64 d.hav) := za hd 1;have c2 : w.cell? ⟨p, 2, none⟩ = some (.int .i64 d.more) := za hd 2;have c3 : w.cell? ⟨p, 3, none⟩ = some (.int .u8 d.lo) := za hd 3;have c4 : w.cell? ⟨p, 4, none⟩ = some (.int .u8 d.hi) := za hd 4;have fz := zy hd;have HD : w.heap[p]? = some (.cells d.cells 214 (0, 0)) := hd;replace HD := Lib.hid HD;by_cases hh : d.hav = 0
 ·have Hf := Lib.hid (show Zg d b = zY d b by unfold Zg; rw [if_pos hh]);have hb : (d.hav == 0) = true := (by simpa using hh);clear hh hok;go_enter Tryz.func149, Tryz.ntmps149;go_wp2_with fail;refine (zgu p d b _ hd h0 h1).mono ?_;rintro e w1 ⟨v, rfl, hq⟩;go_wp2_with fail;go_ret;rw [Hf.out];exact ⟨v, rfl, hq⟩
 by_cases hb : b < d.lo ∨ d.hi < b
 ·have Hf := Lib.hid (show Zg d b = ((zY { d with hav := 0 } b).1, 65533 :: (zY { d with hav := 0 } b).2) by unfold Zg; rw [if_neg hh, if_pos hb]);have hh2 : (d.hav == 0) = false := (by simpa using hh);clear hh hok;have Hgo : ∀ W : World, W = (w.setCell ⟨p, 1, none⟩ (.int .i64 0)).alloc (.cells #[.int .i32 65533] 21) → zbX W p { d with hav := 0 } := by
   intro W hW; subst hW;exact zc3 (zD (zw HD.out _ _) _) rfl
  have HG := Lib.hid Hgo;clear Hgo;have hb : b < d.lo ∨ (¬ b < d.lo ∧ d.hi < b) := (by omega);rcases hb with hb | ⟨hb0, hb⟩
  all_goals
   go_enter Tryz.func149, Tryz.ntmps149;go_wp2_with fail;refine (zgu p _ b _ (HG.out _ rfl) h0 h1).mono ?_;rintro e w1 ⟨v, rfl, hown, hgb, hdec⟩;have Hown := Lib.hid hown;have Hgb := Lib.hid hgb;have Hdec := Lib.hid hdec;clear hown hgb hdec;have hsz := HD.out;replace hsz := zj hsz;have Hrow : Hid (w1.ownsRow w.heap.size 21 1 (.slice (some ⟨w.heap.size, 0, none⟩) 1 1) 1 [.int .i32 65533]) :=
    (ZV (w := w.setCell ⟨p, 1, none⟩ (.int .i64 0)) (n := 1) #[.int .i32 65533] _ (by simp) (by simp) (by decide) rfl rfl).kept Hgb.out (.inr (by simp [Value.ownBlock]; omega))
   go_wp2_with (at_builtin; refine zaz ?_);unfold zay;have hlen : (zY { d with hav := 0 } b).2.length ≤ 1 := zdM _ _;have h2 := Hgb.out.size;refine zbE zcB rfl rfl w.heap.size Hrow.out rfl (zdj Hown.out) rfl (ints_oneCell _ _) (by unfold maxLen; omega) (by omega) (by simp at h2; omega) ?_;intro v' w' h3 h4;have H3 := Lib.hid h3;have H4 := Lib.hid h4;clear h3 h4 hlen h2;go_wp2_with fail;go_ret;refine ⟨v', rfl, ?_, ?_, ?_⟩
   ·rw [Hf.out];have := H3.out;simp only [List.length_cons, List.map_cons];rw [Nat.add_comm];exact this
   ·exact zcz (Zs (zcc (zO (zr _ _) _ _) _) Hgb.out) H4.out (by intro q hq; simp [Value.ownBlock] at hq; omega)
   ·rw [Hf.out];exact zo (o := .cells _ 214 (0, 0)) Hdec.out H4.out (by simp [Value.ownBlock]; omega)
 have m1 := hok.m1 hh;have r1 := hok.r1 hh;have r0 := hok.r0;have hr : d.r * 64 < 2097152 := by
  have e : (64 : Int) ^ d.more.toNat = 64 * 64 ^ (d.more.toNat - 1) := by
   obtain ⟨k, hk⟩ : ∃ k, d.more.toNat = k + 1 := ⟨d.more.toNat - 1, by omega⟩;rw [hk, Int.pow_succ, Int.mul_comm]; rfl
  have hp : (1 : Int) ≤ 64 ^ (d.more.toNat - 1) := by
   have : (0 : Int) < 64 ^ (d.more.toNat - 1) := Int.pow_pos (by decide);omega
  have := Int.mul_le_mul_of_nonneg_left (show (64 : Int) ≤ 64 ^ d.more.toNat by rw [e]; omega) r0;omega
 have hh2 : (d.hav == 0) = false := (by simpa using hh);have hlo : ¬ b < d.lo := (by omega);have hhi : ¬ d.hi < b := (by omega);have k1 := hok.h0;have k2 := hok.h1;by_cases hm : 1 < d.more
 ·have Hf := Lib.hid (show Zg d b = (⟨d.r * 64 + b % 64, d.hav + 1, d.more - 1, 128, 191⟩, []) by unfold Zg; rw [if_neg hh, if_neg hb, if_pos hm]);clear hh hok;go_enter Tryz.func149, Tryz.ntmps149;go_wp2_with fail;refine zT (v := .slice none 0 0) rfl rfl rfl ⟨_, rfl, ?qown, ?qgb, ?qdec⟩
  all_goals try rw [Hf.out]
  case qown => exact World.ownsRow_nil _ _ _ _
  case qgb => repeat (with_reducible first | refine zO ?_ _ _ | exact zr _ _)
  case qdec =>
   apply zc3
   ·repeat (with_reducible first | apply zw | exact HD.out)
   ·rfl
 ·have Hf := Lib.hid (show Zg d b = (⟨d.r * 64 + b % 64, 0, d.more - 1, 128, 191⟩, [d.r * 64 + b % 64]) by unfold Zg; rw [if_neg hh, if_neg hb, if_neg hm]);clear hh hok;go_enter Tryz.func149, Tryz.ntmps149;go_wp2_with fail;refine zT (v := .slice (some ⟨w.heap.size, 0, none⟩) 1 1) rfl rfl rfl ⟨_, rfl, ?qown2, ?qgb2, ?qdec2⟩
  all_goals try rw [Hf.out]
  case qown2 => exact ZV #[.int .i32 (d.r * 64 + b % 64)] _ (by simp) (by simp) (by decide) rfl rfl
  case qgb2 => repeat (with_reducible first | refine zO ?_ _ _ | refine zcc ?_ _ | exact zr _ _)
  case qdec2 =>
   apply zc3
   ·repeat (with_reducible first | apply zw | apply zD | exact HD.out)
   ·rfl
theorem zg8 : dec0.ok := ⟨by decide, by decide, by decide, by decide, fun h => absurd rfl h, fun h => absurd rfl h, fun h => absurd rfl h, fun h => absurd rfl h⟩
theorem zcC (w : World) :
  Calls Tryz.prog 127 #[] w fun e w' => e = .returned (.pointer (some ⟨w.heap.size, 0, none⟩)) ∧ w' = w.alloc (.cells dec0.cells 214) := by
 go_enter Tryz.func127, Tryz.ntmps127
 go_wp2
 go_ret;exact ⟨rfl, rfl⟩
theorem zjQ (p : Nat) (d : Dec) (w : World) (hd : zbX w p d) :
  Calls Tryz.prog 147 #[.pointer (some ⟨p, 0, none⟩)] w fun e w' => ∃ v, e = .returned v ∧
   w'.ownsRow w.heap.size 21 1 v (zaA d).2.length ((zaA d).2.map (Value.int .i32)) ∧ w.grownBy w' (some p) ∧ zbX w' p (zaA d).1 := by
 have c1 : w.cell? ⟨p, 1, none⟩ = some (.int .i64 d.hav) := za hd 1;have fz := zy hd;have HD : w.heap[p]? = some (.cells d.cells 214 (0, 0)) := hd;replace HD := Lib.hid HD;by_cases hh : d.hav = 0
 ·have Hf := Lib.hid (show zaA d = (d, []) by unfold zaA; rw [if_pos hh]);have hh2 : (d.hav == 0) = true := (by simpa using hh);clear hh;go_enter Tryz.func147, Tryz.ntmps147
  go_wp2
  refine zT (v := .slice none 0 0) rfl rfl rfl ⟨_, rfl, ?_, ?_, ?_⟩
  ·rw [Hf.out]; exact World.ownsRow_nil _ _ _ _
  ·exact zr _ _
  ·rw [Hf.out]; exact HD.out
 ·have Hf := Lib.hid (show zaA d = ({ d with hav := 0 }, [65533]) by unfold zaA; rw [if_neg hh]);have hh2 : (d.hav == 0) = false := (by simpa using hh);clear hh;go_enter Tryz.func147, Tryz.ntmps147
  go_wp2
  refine zT (v := .slice (some ⟨w.heap.size, 0, none⟩) 1 1) rfl rfl rfl ⟨_, rfl, ?_, ?_, ?_⟩
  ·rw [Hf.out]; exact ZV #[.int .i32 65533] _ (by simp) (by simp) (by decide) rfl rfl
  ·exact zcc (zO (zr _ _) _ _) _
  ·rw [Hf.out]; exact zc3 (zD (zw HD.out _ _) _) rfl
end
section
open Go.RowKit
def zcX (l : List UInt8) (lo hi : Int) : Bool := l.all fun b => decide (lo ≤ (b.toNat : Int)) && decide ((b.toNat : Int) ≤ hi)
def Zd (b : Int) : Bool := decide (32 ≤ b) && decide (b ≤ 47)
def zfg (b : Int) : Bool := b == 91 || b == 93 || b == 80 || b == 88 || b == 94 || b == 95
def Zr (l : List UInt8) : Bool := decide (l.length ≤ 2) && zcX l 32 47
theorem zA (b : Int) (w : World) :
  Calls Tryz.prog 202 #[.int .u8 b] w fun e w' => e = .returned (.bool (Zd b)) ∧ w' = w := by
 have HB := Lib.hid (show Zd b = (decide (32 ≤ b) && decide (b ≤ 47)) from rfl);by_cases h : 32 ≤ b
 all_goals
  go_enter Tryz.func202, Tryz.ntmps202;go_wp2_with fail;go_ret;exact ⟨ZU (by rw [HB.out]; simp [h] <;> omega), by trivial⟩
theorem zhQ (b : Bool) (w : World) :
  Calls Tryz.prog 152 #[.bool b] w fun e w' => e = .returned (.int .i64 (if b then 1 else 0)) ∧ w' = w := by
 cases b
 all_goals
  go_enter Tryz.func152, Tryz.ntmps152;go_wp2_with fail;go_ret;exact ⟨rfl, by trivial⟩
end
section
open Go.RowKit
structure VAct where
 kind : Int
 rune : Int
 byte : UInt8
 params : List Int
 inter : ByteArray
 text : ByteArray
def VAct.val (a : VAct) (vp : Value) : Value := .agg #[.int .i64 a.kind, .int .i32 a.rune, .int .u8 (a.byte.toNat : Int), vp, .string a.inter, .string a.text]
def ZK : List UInt8 → List UInt8 × List UInt8
 | [] => ([], [])
 | c :: r => if 60 ≤ (c.toNat : Int) ∧ (c.toNat : Int) ≤ 63 then ([c], r) else ([], c :: r)
def zhR (f : Bool) (x : Int) : List UInt8 := (if f then [59] else []) ++ (if 0 ≤ x then Lib.itoa x else [])
def Ze : Bool → List Int → List UInt8
 | _, [] => []
 | f, x :: r => zhR f x ++ Ze true r
theorem zfw : ∀ (l : List Int) (f : Bool) (x : Int), Ze f (l ++ [x]) = Ze f l ++ zhR (f || !l.isEmpty) x
 | [], f, x => by simp [Ze]
 | y :: l, f, x => by simp [Ze, zfw l true x]
def zc4 (x : Int) : Bool := decide (-1 ≤ x) && decide (x ≤ 9999)
def zhS (rest : List UInt8) (byte : UInt8) (params : List Int) : Bool :=
 Zr rest && (decide (64 ≤ (byte.toNat : Int)) && (decide ((byte.toNat : Int) ≤ 126) && (decide (params.length ≤ 32) && !(decide (params = [-1])))))
def zaB (a : VAct) : Bool := zhS (ZK a.inter.data.toList).2 a.byte a.params && a.params.all zc4
def zfx (a : VAct) : List UInt8 := (ZK a.inter.data.toList).1 ++ Ze false a.params ++ (ZK a.inter.data.toList).2 ++ [a.byte]
end
section
open Go.RowKit
structure PSt where
 state : Int
 dec : Dec
 inter : List UInt8
 params : List Int
 any : Bool
 text : List UInt8
 final : UInt8
 ended : Bool
 frm : Int
def PSt.cells (s : PSt) (d : Nat) (tell vi vp vt : Value) : Array Value :=
 #[.int .i64 s.state, .pointer (some ⟨d, 0, none⟩), tell, vi, vp, .bool s.any, vt, .int .u8 (s.final.toNat : Int), .bool s.ended, .int .i64 s.frm]
def PSt.begun (s : PSt) (st : Int) : PSt := { s with state := st, inter := [], params := [], any := false, text := [], ended := false }
def ZP : Value := .slice none 0 0
def zaF (o : Nat) : Value := .func (.func 105) #[] #[.pointer (some ⟨o, 0, none⟩)]
def VAct.cells (a : VAct) (v : Value) : List Value := [.int .i64 a.kind, .int .i32 a.rune, .int .u8 (a.byte.toNat : Int), v, .string a.inter, .string a.text]
def zad (l : List (VAct × Value)) : List Value := l.flatMap fun x => x.1.cells x.2
theorem zgh (l : List (VAct × Value)) (a : VAct) (v : Value) : zad (l ++ [(a, v)]) = zad l ++ a.cells v := by simp [zad]
theorem zg9 (p d : Nat) (s : PSt) (tell vi vp vt : Value) (st : Int) (w : World) (hb : w.heap[p]? = some (.cells (s.cells d tell vi vp vt) 161 (0, 0))) :
  Calls Tryz.prog 145 #[.pointer (some ⟨p, 0, none⟩), .int .i64 st] w fun e w' => e = .returned (.tuple #[]) ∧ w.grownBy w' (some p) ∧
   w'.heap[p]? = some (.cells ((s.begun st).cells d tell ZP ZP ZP) 161 (0, 0)) := by
 have fz := zy hb;have c0 : w.cell? ⟨p, 0, none⟩ = some (.int .i64 s.state) := za hb 0;have c3 : w.cell? ⟨p, 3, none⟩ = some vi := za hb 3;have c4 : w.cell? ⟨p, 4, none⟩ = some vp := za hb 4;have c5 : w.cell? ⟨p, 5, none⟩ = some (.bool s.any) := za hb 5;have c6 : w.cell? ⟨p, 6, none⟩ = some vt := za hb 6;have c8 : w.cell? ⟨p, 8, none⟩ = some (.bool s.ended) := za hb 8;have HD := Lib.hid hb;clear hb;go_enter Tryz.func145, Tryz.ntmps145;go_wp2_with fail;go_end0;refine ⟨rfl, ?_, ?_⟩
 ·repeat (with_reducible first | refine zO ?_ _ _ | exact zr _ _)
 ·have h := zw (zw (zw (zw (zw (zw HD.out 0 (.int .i64 st)) 3 ZP) 4 ZP) 5 (.bool false)) 6 ZP) 8 (.bool false);exact h
theorem zu {w : World} {base size : Nat} {v : Value} {n : Nat} {xs : List Value} (h : zn w base size v n xs) : ∃ x m c, v = Value.slice x m c := by
 rcases h.2 with ⟨h, _⟩ | ⟨b, off, cap, h, _⟩
 ·exact ⟨_, _, _, h⟩
 ·exact ⟨_, _, _, h⟩
theorem zmh : zdC Tryz.prog 111 75 6 72 (.agg #[.int .i64 0, .int .i32 0, .int .u8 0, .slice none 0 0, .string ⟨#[]⟩, .string ⟨#[]⟩]) := ⟨Tryz.underlying111, by kernel_rfl, rfl, by decide⟩
theorem zky (a : VAct) (v : Value) (o : Nat) (vo : Value) (n : Nat) (xs : List Value) (w : World) (hv : ∃ x m c, v = .slice x m c) (hb : w.heap[o]? = some (.cells #[vo] 111 (0, 0))) (hr : zn w 0 6 vo n xs) (hne : vo.ownBlock ≠ some o) (hn : n ≤ 1000000000) :
  Calls Tryz.prog 105 #[a.val v, .pointer (some ⟨o, 0, none⟩)] w fun e w' => e = .returned (.tuple #[]) ∧ ∃ vo', w'.heap[o]? = some (.cells #[vo'] 111 (0, 0)) ∧ zn w' 0 6 vo' (n + 1) (xs ++ a.cells v) ∧
   (∀ k, vo'.ownBlock = some k → vo.ownBlock = some k ∨ w.heap.size ≤ k) ∧ w'.os = w.os ∧ w'.tape = w.tape ∧ w'.output = w.output ∧ w.heap.size ≤ w'.heap.size ∧ ∀ k, k < w.heap.size → k ≠ o → vo.ownBlock ≠ some k → w'.heap[k]? = w.heap[k]? := by
 obtain ⟨kind, rune, byte, params, inter, text⟩ := a;obtain ⟨x, m, c, rfl⟩ := hv;unfold VAct.val VAct.cells;dsimp only;have hol := zj hb;have hb1 := zD hb (.cells #[.int .i64 kind, .int .i32 rune, .int .u8 (byte.toNat : Int), .slice x m c, .string inter, .string text] 75);have c0 := za hb1 0;have hb2 := zD hb1 (.cells #[.int .i64 kind, .int .i32 rune, .int .u8 (byte.toNat : Int), .slice x m c, .string inter, .string text] 75);replace c0 : (w.alloc (.cells #[.int .i64 kind, .int .i32 rune, .int .u8 (byte.toNat : Int), .slice x m c, .string inter, .string text] 75)).cell? ⟨o, 0, none⟩ = some vo := c0;have HD := Lib.hid hb2;have HR := Lib.hid hr;clear hb hr hb1 hb2;go_enter Tryz.func105, Tryz.ntmps105;go_wp2_with (at_builtin; refine zaz ?_);unfold zay;have ho1 : zn ((w.alloc (.cells #[.int .i64 kind, .int .i32 rune, .int .u8 (byte.toNat : Int), .slice x m c, .string inter, .string text] 75)).alloc (.cells #[.int .i64 kind, .int .i32 rune, .int .u8 (byte.toNat : Int), .slice x m c, .string inter, .string text] 75)) 0 6 vo n xs := zB (zB HR.out _) _;refine zG zmh rfl rfl 0 ho1 rfl (zdj (ZV (w := w.alloc (.cells #[.int .i64 kind, .int .i32 rune, .int .u8 (byte.toNat : Int), .slice x m c, .string inter, .string text] 75)) (base := 0) (g := w.heap.size + 1) (n := 1) (e := 75) (size := 6) #[.int .i64 kind, .int .i32 rune, .int .u8 (byte.toNat : Int), .slice x m c, .string inter, .string text] [.int .i64 kind, .int .i32 rune, .int .u8 (byte.toNat : Int), .slice x m c, .string inter, .string text] (by simp) (by omega) (by decide) rfl rfl)) rfl (by intro u hu; simp at hu; rcases hu with rfl | rfl | rfl | rfl | rfl | rfl <;> rfl) (by unfold maxLen; omega) (by omega) (by omega) ?_;intro v6 w6 o6 g6 n6;obtain ⟨x6, m6, c6, rfl⟩ := zu o6;have hb6 := zo HD.out g6 (fun e => hne e.symm);have cc6 : w6.cell? ⟨o, 0, none⟩ = some vo := za hb6 0;have fz6 := zy hb6;have H6 := Lib.hid hb6;have O6 := Lib.hid o6;have G6 := Lib.hid g6;have N6 := Lib.hid n6;clear hb6 o6 g6 n6 ho1;go_wp2_with fail;go_end0;have hs6 := G6.out.size;simp at hs6;refine ⟨rfl, _, zw H6.out 0 _, ?_, fun k hk => ?_, G6.out.os, G6.out.tape, G6.out.output, by simp; omega, fun k h1 h2 h3 => ?_⟩
 ·refine zx O6.out (zO (zr w6 (some o)) 0 _) (fun k hk e => ?_);injection e with e;subst e;rcases N6.out _ hk with h | h
  ·exact hne h
  ·simp at h; omega
 ·rcases N6.out k hk with h | h
  ·exact .inl h
  ·simp at h; exact .inr (by omega)
 ·rw [heap_setCell_other w6 ⟨o, 0, none⟩ k _ h2, G6.out.block k (by simp; omega) (fun e => h3 e.symm)];rw [heap_alloc_old _ _ (by simp; omega), heap_alloc_old _ _ h1]
end
end Go.Proofs.YtlfdgkiliegaiaaGreatDoor
