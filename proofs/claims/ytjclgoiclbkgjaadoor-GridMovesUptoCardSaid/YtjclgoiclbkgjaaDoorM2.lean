/- Buffers of one's own whose elements are of any size: places, stores, slices. -/
import Derived.Test.YtjclgoiclbkgjaaDoorQ1
namespace Go.Proofs.YtjclgoiclbkgjaaDoor
open Go.RowKit

theorem run_sizeN {P : Program} {e : TypeId} {n : Nat} (hs : (P.info? e).map (·.size) = some n) (wx : World) : (sizeOf e).run P wx = .ok n wx := by
  obtain ⟨i, hi, hi2⟩ := Option.map_eq_some_iff.1 hs
  simp [sizeOf, typeInfo, hi, hi2]
/-- The place of an element. -/
theorem idx_at {P : Program} {t e : TypeId} {size : Nat} (ht : P.underlying t = some (.slice e)) (hs : (P.info? e).map (·.size) = some size) (b off n c j : Nat) (hj : j < n) (wx : World) :
    (Instr.indexAt t (.slice (some ⟨b, off, none⟩) n c) (.int .i64 j)).run P wx = .ok (.pointer (some ⟨b, off + j * size, none⟩)) wx := by
  obtain ⟨i, hi, hi2⟩ := Option.map_eq_some_iff.1 hs
  have hj' : (0 : Int) ≤ (j : Int) ∧ (j : Int) < (n : Int) := by omega
  simp [Instr.indexAt, asIntOf, run_underlying ht, hj', sizeOf, typeInfo, hi, hi2, add_eq]
  omega
/-- l[x:y] -/
theorem slice_lh {P : Program} {t e : TypeId} {size : Nat} (ht : P.underlying t = some (.slice e)) (hs : (P.info? e).map (·.size) = some size) (b off n c x y : Nat) (h1 : x ≤ y) (h2 : y ≤ c) (hx : x < c) (wx : World) :
    (Instr.slice t (.slice (some ⟨b, off, none⟩) n c) (some (.int .i64 (x : Int))) (some (.int .i64 (y : Int))) none).run P wx = .ok (.slice (some ⟨b, off + x * size, none⟩) (y - x) (c - x)) wx := by
  have hel : P.elem t = e := by simp [Program.elem, ht]
  rw [run_slice_lh wx t _ _ c (elem_of ht) .i64 .i64 _ _ (by omega) (by omega) (by omega), hel, run_sizeN hs, Int.toNat_natCast, Int.toNat_natCast]
  show Result.ok (sliced _ x y c size) wx = _
  unfold sliced
  rw [if_neg (by omega)]
  show Result.ok (Value.slice (some ((⟨b, off, none⟩ : Addr).add (x * size))) _ _) wx = _
  rw [add_eq]
/-- l[x:] -/
theorem slice_l {P : Program} {t e : TypeId} {size : Nat} (ht : P.underlying t = some (.slice e)) (hs : (P.info? e).map (·.size) = some size) (b off n c x : Nat) (h1 : x ≤ n) (hx : x < c) (wx : World) :
    (Instr.slice t (.slice (some ⟨b, off, none⟩) n c) (some (.int .i64 (x : Int))) none none).run P wx = .ok (.slice (some ⟨b, off + x * size, none⟩) (n - x) (c - x)) wx := by
  have hel : P.elem t = e := by simp [Program.elem, ht]
  rw [run_slice_l wx t _ _ c (elem_of ht) .i64 _ (by omega) (by omega), hel, run_sizeN hs, Int.toNat_natCast]
  show Result.ok (sliced _ x n c size) wx = _
  unfold sliced
  rw [if_neg (by omega)]
  show Result.ok (Value.slice (some ((⟨b, off, none⟩ : Addr).add (x * size))) _ _) wx = _
  rw [add_eq]
/-- l[:y] -/
theorem slice_h {P : Program} {t e : TypeId} {size : Nat} (ht : P.underlying t = some (.slice e)) (hs : (P.info? e).map (·.size) = some size) (a : Option Addr) (n c y : Nat) (h2 : y ≤ c) (wx : World) :
    (Instr.slice t (.slice a n c) none (some (.int .i64 (y : Int))) none).run P wx = .ok (.slice a y c) wx := by
  have hel : P.elem t = e := by simp [Program.elem, ht]
  rw [run_slice_h wx t _ _ c (elem_of ht) .i64 _ (by omega) (by omega), hel, run_sizeN hs, Int.toNat_natCast]
  show Result.ok (sliced _ 0 y c size) wx = _
  unfold sliced
  cases a with
  | none => simp
  | some a =>
    split
    · rfl
    · rw [Nat.zero_mul]
      show Result.ok (Value.slice (some (a.add 0)) _ _) wx = _
      rw [show a.add 0 = a by simp [Addr.add]]; rfl
theorem ownC_sub {w : World} {base size b off n c : Nat} {xs : List Value} (h : OwnC w base size (.slice (some ⟨b, off, none⟩) n c) n xs) (x y : Nat) (h1 : x ≤ y) (h2 : y ≤ n) :
    OwnC w base size (.slice (some ⟨b, off + x * size, none⟩) (y - x) (c - x)) (y - x) ((xs.drop (x * size)).take ((y - x) * size)) := by
  obtain ⟨e1, h2'⟩ := h
  rcases h2' with ⟨e, _⟩ | ⟨b', off', c', e, hb, hbs, hnc, hcm, hcells, hxs⟩
  · simp at e
  · simp only [Value.slice.injEq, Option.some.injEq, Addr.mk.injEq] at e
    obtain ⟨⟨rfl, rfl, _⟩, _, rfl⟩ := e
    have hle : x * size + (y - x) * size ≤ xs.length := by
      rw [e1, ← Nat.add_mul]; exact Nat.mul_le_mul_right _ (by omega)
    refine ⟨by rw [List.length_take, List.length_drop]; omega, .inr ⟨b, off + x * size, c - x, rfl, hb, hbs, by omega, by omega, fun j hj => ?_, fun j u hu => ?_⟩⟩
    · have : x * size + j < c * size := by
        have hh : x * size + (c - x) * size = c * size := by rw [← Nat.add_mul]; congr 1; omega
        omega
      have := hcells (x * size + j) this
      rwa [← Nat.add_assoc] at this
    · rw [List.getElem?_take] at hu
      split at hu
      · rw [List.getElem?_drop] at hu
        have := hxs _ u hu
        rwa [← Nat.add_assoc] at this
      · simp at hu
theorem putAt_get {α : Type} (l : List α) (x : Nat) (m : List α) (h : x + m.length ≤ l.length) (j : Nat) : (putAt l x m)[j]? = if j < x then l[j]? else if j < x + m.length then m[j - x]? else l[j]? := by
  unfold putAt
  have e1 : (l.take x).length = x := by rw [List.length_take]; omega
  by_cases c1 : j < x
  · rw [if_pos c1, List.getElem?_append_left (by rw [List.length_append]; omega), List.getElem?_append_left (by omega), List.getElem?_take, if_pos c1]
  rw [if_neg c1]
  by_cases c2 : j < x + m.length
  · rw [if_pos c2, List.getElem?_append_left (by rw [List.length_append]; omega), List.getElem?_append_right (by omega), e1]
  · rw [if_neg c2, List.getElem?_append_right (by rw [List.length_append]; omega), List.length_append, e1, List.getElem?_drop]
    congr 1; omega
theorem cell_setCells_in (b : Nat) (vs : List Value) (o : Nat) (w : World) (h : ∀ j, j < vs.length → (w.cell? ⟨b, o + j, none⟩).isSome = true) (j : Nat) (hj : j < vs.length) : (w.setCells b o vs).cell? ⟨b, o + j, none⟩ = vs[j]? := by
  rw [World.cell?_setCells_in b vs o w (fun i hi => h i hi) j hj, List.getElem?_eq_getElem hj]
theorem size_setCells (w : World) (b o : Nat) (vs : List Value) : (w.setCells b o vs).heap.size = w.heap.size := by
  induction vs generalizing o w with
  | nil => rfl
  | cons x vs ih => simp only [World.setCells]; rw [ih]; simp
/-- Some cells are written. -/
theorem ownC_put {w : World} {base size b off n c : Nat} {xs : List Value} (h : OwnC w base size (.slice (some ⟨b, off, none⟩) n c) n xs) (j : Nat) (vs : List Value) (hj : j + vs.length ≤ n * size) :
    OwnC (w.setCells b (off + j) vs) base size (.slice (some ⟨b, off, none⟩) n c) n (putAt xs j vs) := by
  obtain ⟨e1, h2⟩ := h
  rcases h2 with ⟨e, _⟩ | ⟨b', off', c', e, hb, hbs, hnc, hcm, hcells, hxs⟩
  · simp at e
  · simp only [Value.slice.injEq, Option.some.injEq, Addr.mk.injEq] at e
    obtain ⟨⟨rfl, rfl, _⟩, _, rfl⟩ := e
    have hcn : n * size ≤ c * size := Nat.mul_le_mul_right _ hnc
    have hin := cell_setCells_in b vs (off + j) w (fun i hi => by
      have := (hcells (j + i) (by omega)).1
      rwa [← Nat.add_assoc] at this)
    have hout : ∀ k, k < j ∨ j + vs.length ≤ k → (w.setCells b (off + j) vs).cell? ⟨b, off + k, none⟩ = w.cell? ⟨b, off + k, none⟩ := fun k hk =>
      World.cell?_setCells_out b vs (off + j) w _ (fun _ _ => by show off + k < off + j ∨ off + j + vs.length ≤ off + k; omega)
    refine ⟨by rw [putAt_len _ _ _ (by omega)]; exact e1, .inr ⟨b, off, c, rfl, hb, by rw [size_setCells]; exact hbs, hnc, hcm, fun k hk => ⟨?_, by rw [World.frozen?_setCells]; exact (hcells k hk).2⟩, fun k u hu => ?_⟩⟩
    · by_cases hk2 : k < j ∨ j + vs.length ≤ k
      · rw [hout k hk2]; exact (hcells k hk).1
      · have := hin (k - j) (by omega)
        rw [show off + j + (k - j) = off + k by omega] at this
        rw [this, List.getElem?_eq_getElem (by omega)]; rfl
    · rw [putAt_get _ _ _ (by omega)] at hu
      by_cases hk1 : k < j
      · rw [if_pos hk1] at hu
        rw [hout k (.inl hk1)]; exact hxs k u hu
      · rw [if_neg hk1] at hu
        by_cases hk2 : k < j + vs.length
        · rw [if_pos hk2] at hu
          have := hin (k - j) (by omega)
          rw [show off + j + (k - j) = off + k by omega] at this
          rw [this]; exact hu
        · rw [if_neg hk2] at hu
          rw [hout k (.inr (by omega))]; exact hxs k u hu
/-- Storing a struct in a place of one's own. -/
theorem store_own {P : Program} {w : World} {e : TypeId} {base size b off n c : Nat} {xs : List Value} (hs : (P.info? e).map (·.size) = some size) (h : OwnC w base size (.slice (some ⟨b, off, none⟩) n c) n xs) (j : Nat) (hj : j < n) (vs : Array Value) (hv : vs.size = size)
    (h1 : ∀ u ∈ vs.toList, u.oneCell' = true) : (storeVar e ⟨b, off + j * size, none⟩ (.agg vs)).run P w = .ok () (w.setCells b (off + j * size) vs.toList) := by
  obtain ⟨e1, h2⟩ := h
  rcases h2 with ⟨e, _⟩ | ⟨b', off', c', e, hb, hbs, hnc, hcm, hcells, hxs⟩
  · simp at e
  · simp only [Value.slice.injEq, Option.some.injEq, Addr.mk.injEq] at e
    obtain ⟨⟨rfl, rfl, _⟩, _, rfl⟩ := e
    have hlt : (j + 1) * size ≤ c * size := Nat.mul_le_mul_right _ (by omega)
    rw [Nat.add_mul, Nat.one_mul] at hlt
    have hl : vs.toList.length = size := by rw [Array.length_toList]; exact hv
    have hr := run_storeCells_cells (P := P) b (off + j * size) vs.toList 0 w (fun i hi => by
        have := (hcells (j * size + i) (by omega)).1
        rwa [← Nat.add_assoc] at this) (fun i hi => by
        have := (hcells (j * size + i) (by omega)).2
        rwa [← Nat.add_assoc] at this) h1
    unfold storeVar
    simp only [Sem.run_bind, run_sizeN hs, Result.andThen, Value.cells, hv, ne_eq, not_true_eq_false, if_false, Nat.add_zero] at hr ⊢
    exact hr
theorem ownC_sl {w : World} {base size : Nat} {v : Value} {n : Nat} {xs : List Value} (h : OwnC w base size v n xs) : ∃ x c, v = Value.slice x n c := by
  rcases h.2 with ⟨hv, rfl⟩ | ⟨b, off, cap, hv, _⟩
  · exact ⟨_, _, hv⟩
  · exact ⟨_, _, hv⟩
theorem ownC_ln {P : Program} {t e : TypeId} {w : World} {base size : Nat} {v : Value} {n : Nat} {xs : List Value} (ht : P.underlying t = some (.slice e)) (h : OwnC w base size v n xs) (ty : TypeId) (wx : World) : (Builtin.len_ #[t] ty #[v]).run P wx = .ok (.int .i64 n) wx := by
  rcases h.2 with ⟨rfl, rfl⟩ | ⟨b, off, c, rfl, _⟩ <;> simp [Builtin.len_, run_underlying ht, goInt]
theorem ret0w {P : Program} {fn : Func} {R : Ending → World → Prop} {a : Act} {w : World} (h : fn.results = #[]) (hd : a.defers = []) (hR : R (.returned (.tuple #[])) w) :
    bodyPost P fn R .ret a w := bodyPost_ret (results_none h _ _ _) hd hR
theorem ret2w {P : Program} {fn : Func} {R : Ending → World → Prop} {a : Act} {w : World} {t u : Tmp} {v1 v2 : Value} (h : fn.results = #[.tmp t, .tmp u]) (hd : a.defers = []) (h1 : a.tmps.getD t undef = v1) (h2 : a.tmps.getD u undef = v2) (hR : R (.returned (.tuple #[v1, v2])) w) :
    bodyPost P fn R .ret a w := by
  subst h1 h2; exact bodyPost_ret (results_tmp2 h _ _ _) hd hR
section
variable {P : Program}
/-- A store whose outcome is known. -/
theorem wp_storeR {o : Oper} {a : Act} {w w' : World} {K : Act → World → Prop} {Q : Exit → Act → World → Prop} (ty : TypeId) (x y : Operand) (ho : o.op = .store ty x y)
    {ad : Addr} {v : Value} (hst : (storeVar ty ad v).run P w = .ok () w') (hx : a.eval x = .pointer (some ad)) (hy : a.eval y = v) (h : K (a.put o.dst undef) w') : o.wp P a w K Q := by
  unfold Oper.wp execOp
  simp only [ho, hx, hy, Instr.storeAt, Instr.sureAddr, Sem.run_bind, Sem.run_pure, Result.andThen_ok, hst]
  exact h
theorem wpList_storeR {ops : Array Oper} {rest : List Oper} {o : Oper} {a : Act} {w w' : World} {Q : Exit → Act → World → Prop} (hgd : o.guard = none) (ty : TypeId) (x y : Operand) (ho : o.op = .store ty x y)
    {ad : Addr} {v : Value} (hst : (storeVar ty ad v).run P w = .ok () w') (hx : a.eval x = .pointer (some ad)) (hy : a.eval y = v) (h : wpList P ops Q rest (a.put o.dst undef) w') : wpList P ops Q (o :: rest) a w :=
  wpList_plain hgd fun _ hK => wp_storeR ty x y ho hst hx hy (hK _ _ h)
/-- A result that lies in a block of its own. -/
theorem retRow {fn : Func} {R : Ending → World → Prop} {a : Act} {w : World} {p : Tmp} {ty t : TypeId} {g : Nat} {cs : Array Value} {fr : Nat × Nat} {d : TypeDesc} (h : fn.results = #[.cell p ty]) (hdf : a.defers = [])
    (hp : a.tmps.getD p undef = .pointer (some ⟨g, 0, none⟩)) (hg : w.heap[g]? = some (.cells cs t fr)) (hu : P.underlying ty = some d) (hd : (match d with | .struct _ | .array _ _ => true | _ => false) = true) (hi : (P.info? ty).map (·.size) = some cs.size)
    (hR : R (.returned (.agg cs)) w) : bodyPost P fn R .ret a w :=
  bodyPost_ret (results_cell_row h _ w g t cs fr d hp hg hu hd hi) hdf hR
end
end Go.Proofs.YtjclgoiclbkgjaaDoor
