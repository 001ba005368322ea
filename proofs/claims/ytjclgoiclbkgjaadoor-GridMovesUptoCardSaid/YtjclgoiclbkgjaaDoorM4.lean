/- copy and clear in a buffer of one's own. -/
import Derived.Test.YtjclgoiclbkgjaaDoorG9
namespace Go.Proofs.YtjclgoiclbkgjaaDoor
open Go.RowKit

theorem copy_own {P : Program} {t e : TypeId} {size : Nat} (ht : P.underlying t = some (.slice e)) (hs : (P.info? e).map (·.size) = some size) {w : World} {base b off n c : Nat} {xs : List Value} (h : OwnC w base size (.slice (some ⟨b, off, none⟩) n c) n xs)
    (x m c1 : Nat) (d : Addr) (hd : 0 < m → d = ⟨b, off + x * size, none⟩) (hx : x + m ≤ n) {y : Value} {k : Nat} {ys : List Value} (hr : Reads w size y k ys) (h1 : ∀ u ∈ ys, u.oneCell' = true) (ty : TypeId) :
    (Builtin.copy_ #[t, t] ty #[.slice (some d) m c1, y]).run P w = .ok (goInt (Nat.min k m)) (w.setCells b (off + x * size) (ys.take (Nat.min k m * size))) := by
  obtain ⟨i, hi, hi2⟩ := Option.map_eq_some_iff.1 hs
  obtain ⟨e1, h2⟩ := h
  rcases h2 with ⟨e, _⟩ | ⟨b', off', c', e, hb, hbs, hnc, hcm, hcells, hxs⟩
  · simp at e
  simp only [Value.slice.injEq, Option.some.injEq, Addr.mk.injEq] at e
  obtain ⟨⟨rfl, rfl, _⟩, _, rfl⟩ := e
  have hst : (storeCells d (ys.take (Nat.min k m * size))).run P w = .ok () (w.setCells b (off + x * size) (ys.take (Nat.min k m * size))) := by
    rcases Nat.eq_zero_or_pos m with h0 | h0
    · have : ys.take (Nat.min k m * size) = [] := by rw [h0, show Nat.min k 0 = 0 from Nat.min_zero k, Nat.zero_mul]; simp
      rw [this]; rfl
    · rw [hd h0]
      have hlen : (ys.take (Nat.min k m * size)).length ≤ m * size := by
        rw [List.length_take]
        exact Nat.le_trans (Nat.min_le_left _ _) (Nat.mul_le_mul_right _ (Nat.min_le_right k m))
      have hin : ∀ j, j < (ys.take (Nat.min k m * size)).length → x * size + j < c * size := fun j hj => by
        have a1 : x * size + m * size ≤ c * size := by rw [← Nat.add_mul]; exact Nat.mul_le_mul_right _ (by omega)
        omega
      have := run_storeCells_cells (P := P) b (off + x * size) (ys.take (Nat.min k m * size)) 0 w (fun j hj => by
          have := (hcells _ (hin j hj)).1
          rwa [← Nat.add_assoc] at this) (fun j hj => by
          have := (hcells _ (hin j hj)).2
          rwa [← Nat.add_assoc] at this) (fun v hv => h1 v (List.mem_of_mem_take hv))
      rwa [Nat.add_zero] at this
  rcases hr with ⟨rfl, rfl, rfl⟩ | ⟨a, c2, rfl, hl, hc⟩
  · have hz : Nat.min 0 m = 0 := Nat.zero_min m
    rw [hz] at hst ⊢
    simp only [List.take_nil] at hst ⊢
    simp [Builtin.copy_, run_underlying ht, Builtin.lenOf, Builtin.firstCells, sizeOf, typeInfo, hi, storeCells, World.setCells]
  · have hll : (ys.take (Nat.min k m * size)).length = Nat.min k m * size := by
      rw [List.length_take, hl]
      exact Nat.min_eq_left (Nat.mul_le_mul_right _ (Nat.min_le_left k m))
    have hld := run_loadCells_list (P := P) w a (ys.take (Nat.min k m * size)) (fun j v hv => by
      rw [List.getElem?_take] at hv
      split at hv
      · exact hc j v hv
      · simp at hv)
    rw [hll] at hld
    simp [Builtin.copy_, run_underlying ht, Builtin.lenOf, Builtin.firstCells, sizeOf, typeInfo, hi, hi2, hld, hst]
/-- What lies in the buffer then. -/
theorem copy_owned {w : World} {base size b off n c : Nat} {xs : List Value} (h : OwnC w base size (.slice (some ⟨b, off, none⟩) n c) n xs) (x : Nat) (vs : List Value) (hx : x * size + vs.length ≤ n * size) :
    OwnC (w.setCells b (off + x * size) vs) base size (.slice (some ⟨b, off, none⟩) n c) n (putAt xs (x * size) vs) := ownC_put h (x * size) vs hx
/-- l[x:y], at the end of the array, too. -/
theorem slice_lh' {P : Program} {t e : TypeId} {size : Nat} (ht : P.underlying t = some (.slice e)) (hs : (P.info? e).map (·.size) = some size) (b off n c x y : Nat) (h1 : x ≤ y) (h2 : y ≤ c) :
    ∃ a : Addr, (∀ wx, (Instr.slice t (.slice (some ⟨b, off, none⟩) n c) (some (.int .i64 (x : Int))) (some (.int .i64 (y : Int))) none).run P wx = .ok (.slice (some a) (y - x) (c - x)) wx) ∧ (x < y → a = ⟨b, off + x * size, none⟩) := by
  by_cases hx : x < c
  · exact ⟨_, slice_lh ht hs b off n c x y h1 h2 hx, fun _ => rfl⟩
  · have hxc : x = c := by omega
    have hyc : y = c := by omega
    subst hxc hyc
    refine ⟨⟨b, off, none⟩, fun wx => ?_, fun h => by omega⟩
    have hel : P.elem t = e := by simp [Program.elem, ht]
    rw [run_slice_lh wx t _ _ y (elem_of ht) .i64 .i64 _ _ (by omega) (by omega) (by omega), hel, run_sizeN hs, Int.toNat_natCast]
    show Result.ok (sliced _ y y y size) wx = _
    unfold sliced
    rw [if_pos rfl]
/-- l[x:], at the end of the array, too. -/
theorem slice_l' {P : Program} {t e : TypeId} {size : Nat} (ht : P.underlying t = some (.slice e)) (hs : (P.info? e).map (·.size) = some size) (b off n c x : Nat) (h1 : x ≤ n) (h2 : n ≤ c) :
    ∃ a : Addr, (∀ wx, (Instr.slice t (.slice (some ⟨b, off, none⟩) n c) (some (.int .i64 (x : Int))) none none).run P wx = .ok (.slice (some a) (n - x) (c - x)) wx) ∧ (x < n → a = ⟨b, off + x * size, none⟩) := by
  by_cases hx : x < c
  · exact ⟨_, slice_l ht hs b off n c x h1 hx, fun _ => rfl⟩
  · have hxc : x = c := by omega
    have hyc : n = c := by omega
    subst hxc hyc
    refine ⟨⟨b, off, none⟩, fun wx => ?_, fun h => by omega⟩
    have hel : P.elem t = e := by simp [Program.elem, ht]
    rw [run_slice_l wx t _ _ n (elem_of ht) .i64 _ (by omega) (by omega), hel, run_sizeN hs, Int.toNat_natCast]
    show Result.ok (sliced _ n n n size) wx = _
    unfold sliced
    rw [if_pos rfl]
theorem reads_sub {w : World} {base size b off n c : Nat} {xs : List Value} (h : OwnC w base size (.slice (some ⟨b, off, none⟩) n c) n xs) (x y c1 : Nat) (a : Addr) (ha : x < y → a = ⟨b, off + x * size, none⟩) (h1 : x ≤ y) (h2 : y ≤ n) :
    Reads w size (.slice (some a) (y - x) c1) (y - x) ((xs.drop (x * size)).take ((y - x) * size)) := by
  obtain ⟨e1, h2'⟩ := h
  rcases h2' with ⟨e, _⟩ | ⟨b', off', c', e, hb, hbs, hnc, hcm, hcells, hxs⟩
  · simp at e
  simp only [Value.slice.injEq, Option.some.injEq, Addr.mk.injEq] at e
  obtain ⟨⟨rfl, rfl, _⟩, _, rfl⟩ := e
  have hle : x * size + (y - x) * size ≤ xs.length := by
    rw [e1, ← Nat.add_mul]; exact Nat.mul_le_mul_right _ (by omega)
  refine .inr ⟨a, c1, rfl, by rw [List.length_take, List.length_drop]; omega, fun j u hu => ?_⟩
  rw [List.getElem?_take] at hu
  split at hu
  · rename_i hj
    have hxy : x < y := by
      rcases Nat.lt_or_ge x y with h' | h'
      · exact h'
      · rw [show y - x = 0 by omega, Nat.zero_mul] at hj; omega
    rw [ha hxy, add_eq]
    rw [List.getElem?_drop] at hu
    have := hxs _ u hu
    rwa [← Nat.add_assoc] at this
  · simp at hu
theorem rowVals_one (L : List (Value × Rw)) (h : ∀ x ∈ L, ∃ a n c, x.1 = Value.slice a n c) : ∀ u ∈ rowVals L, u.oneCell' = true := by
  intro u hu
  obtain ⟨x, hx, hu⟩ := List.mem_flatMap.1 hu
  obtain ⟨a, n, c, e⟩ := h x hx
  rw [e] at hu
  simp only [List.mem_cons, List.not_mem_nil, or_false] at hu
  rcases hu with rfl | rfl <;> rfl
end Go.Proofs.YtjclgoiclbkgjaaDoor
