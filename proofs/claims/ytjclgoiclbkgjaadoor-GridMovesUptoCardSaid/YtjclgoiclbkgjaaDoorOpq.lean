/- Slices of integers whose value is left closed: their length, their places. -/
import Derived.Test.YtjclgoiclbkgjaaDoorBase
namespace Go.Proofs.YtjclgoiclbkgjaaDoor
open Go.RowKit

section
variable {P : Program} {t e : TypeId}
theorem arg_len {k : IntKind} {w : World} {v : Value} {l : List Int} (ht : P.underlying t = some (.slice e)) (h : IsArg k w v l) (ty : TypeId) (wx : World) : (Builtin.len_ #[t] ty #[v]).run P wx = .ok (.int .i64 l.length) wx := by
  rcases h with ⟨rfl, rfl⟩ | ⟨a, c, rfl, _⟩ <;> simp [Builtin.len_, run_underlying ht, goInt]
theorem arg_at {k : IntKind} {w : World} {v : Value} {l : List Int} (ht : P.underlying t = some (.slice e)) (hs : (P.info? e).map (·.size) = some 1) (h : IsArg k w v l) (j : Nat) (hj : j < l.length) :
    ∃ a : Addr, (∀ wx, (Instr.indexAt t v (.int .i64 j)).run P wx = .ok (.pointer (some a)) wx) ∧ w.cell? a = some (.int k (l.getD j 0)) := by
  rcases h with ⟨rfl, rfl⟩ | ⟨a, c, rfl, h1, h2, h3, h4⟩
  · simp at hj
  · refine ⟨a.add j, fun wx => ?_, h3 j hj⟩
    obtain ⟨i, hi, hi2⟩ := Option.map_eq_some_iff.1 hs
    have hj' : (0 : Int) ≤ (j : Int) ∧ (j : Int) < (l.length : Int) := by omega
    simp [Instr.indexAt, asIntOf, run_underlying ht, hj', sizeOf, typeInfo, hi, hi2]
    omega
end
theorem reads_one (w : World) (v : Value) (T : TypeId) : Reads (w.alloc (.cells #[v] T)) 1 (.slice (some ⟨w.heap.size, 0, none⟩) 1 1) 1 [v] := by
  refine .inr ⟨⟨w.heap.size, 0, none⟩, 1, rfl, rfl, fun j u hu => ?_⟩
  rw [add_eq, World.cell?_alloc_new, Nat.zero_add]
  simpa using hu
theorem int_one (k : IntKind) (x : Int) : ∀ u ∈ [Value.int k x], u.oneCell' = true := ints_oneCell k [x]
theorem own_alloc {w : World} {base : Nat} {e : TypeId} {size : Nat} {v : Value} {n : Nat} {xs : List Value} (h : w.ownsRow base e size v n xs) (o : Obj) : (w.alloc o).ownsRow base e size v n xs := h.alloc o
/-- An own row above p is kept where block p is written. -/
theorem own_kept {w w' : World} {base : Nat} {e : TypeId} {size : Nat} {v : Value} {n : Nat} {xs : List Value} {p : Nat} (h : w.ownsRow base e size v n xs) (g : w.grownBy w' (some p)) (hp : p < base) : w'.ownsRow base e size v n xs := by
  refine h.kept g ?_
  rcases h.2 with ⟨hv, _⟩ | ⟨q, cap, cur, hv, hg, _⟩
  · left; rw [hv]; rfl
  · right; rw [hv]; simp only [Value.ownBlock, ne_eq, Option.some.injEq]; omega
section
variable {P : Program} {t e : TypeId}
theorem ints_len {k : IntKind} {w : World} {v : Value} {l : List Int} (ht : P.underlying t = some (.slice e)) (h : IsInts k w v l) (ty : TypeId) (wx : World) : (Builtin.len_ #[t] ty #[v]).run P wx = .ok (.int .i64 l.length) wx := by
  rcases h with ⟨rfl, rfl⟩ | ⟨b, o, c, rfl, _⟩ <;> simp [Builtin.len_, run_underlying ht, goInt]
theorem ints_at {k : IntKind} {w : World} {v : Value} {l : List Int} (ht : P.underlying t = some (.slice e)) (hs : (P.info? e).map (·.size) = some 1) (h : IsInts k w v l) (j : Nat) (hj : j < l.length) :
    ∃ a : Addr, (∀ wx, (Instr.indexAt t v (.int .i64 j)).run P wx = .ok (.pointer (some a)) wx) ∧ w.cell? a = some (.int k (l.getD j 0)) := by
  rcases h with ⟨rfl, rfl⟩ | ⟨b, o, c, rfl, h0, h1, h2, h3⟩
  · simp at hj
  · refine ⟨(⟨b, o, none⟩ : Addr).add j, fun wx => ?_, by rw [add_eq]; exact h3 j hj⟩
    obtain ⟨i, hi, hi2⟩ := Option.map_eq_some_iff.1 hs
    have hj' : (0 : Int) ≤ (j : Int) ∧ (j : Int) < (l.length : Int) := by omega
    simp [Instr.indexAt, asIntOf, run_underlying ht, hj', sizeOf, typeInfo, hi, hi2]
    omega
end
section
variable {P : Program} {t e : TypeId}
theorem elem_of (ht : P.underlying t = some (.slice e)) : P.underlying t = some (.slice (P.elem t)) := by rw [ht]; simp [Program.elem, ht]
theorem run_size (hs : (P.info? e).map (·.size) = some 1) (wx : World) : (sizeOf e).run P wx = .ok 1 wx := by
  obtain ⟨i, hi, hi2⟩ := Option.map_eq_some_iff.1 hs
  simp [sizeOf, typeInfo, hi, hi2]
/-- v[:n]. -/
theorem ints_take {k : IntKind} {w : World} {v : Value} {l : List Int} (ht : P.underlying t = some (.slice e)) (hs : (P.info? e).map (·.size) = some 1) (h : IsInts k w v l) (n : Nat) (hn : n ≤ l.length) :
    ∃ v', (∀ wx, (Instr.slice t v none (some (.int .i64 n)) none).run P wx = .ok v' wx) ∧ IsInts k w v' (l.take n) := by
  have hel : P.elem t = e := by simp [Program.elem, ht]
  rcases h with ⟨rfl, rfl⟩ | ⟨b, o, c, rfl, h0, h1, h2, h3⟩
  · have : n = 0 := by simpa using hn
    subst this
    refine ⟨.slice none 0 0, fun wx => ?_, .inl ⟨rfl, rfl⟩⟩
    rw [run_slice_h wx t none 0 0 (elem_of ht) .i64 _ (by omega) (by simp), hel, run_size hs]
    simp [Result.andThen, sliced]
  · refine ⟨.slice (some ⟨b, o, none⟩) n c, fun wx => ?_, .inr ⟨b, o, c, by rw [List.length_take, Nat.min_eq_left hn], h0, by rw [List.length_take]; omega, h2, fun j hj => ?_⟩⟩
    · rw [run_slice_h wx t _ _ c (elem_of ht) .i64 _ (by omega) (by omega), hel, run_size hs]
      simp [Result.andThen, sliced]
      intro _; rfl
    · rw [List.length_take] at hj
      rw [h3 j (by omega)]
      congr 2
      rw [List.getD_eq_getElem?_getD, List.getD_eq_getElem?_getD, List.getElem?_take, if_pos (by omega)]
/-- v[n:]. -/
theorem ints_drop {k : IntKind} {w : World} {v : Value} {l : List Int} (ht : P.underlying t = some (.slice e)) (hs : (P.info? e).map (·.size) = some 1) (h : IsInts k w v l) (n : Nat) (hn : n ≤ l.length) :
    ∃ v', (∀ wx, (Instr.slice t v (some (.int .i64 n)) none none).run P wx = .ok v' wx) ∧ IsInts k w v' (l.drop n) := by
  have hel : P.elem t = e := by simp [Program.elem, ht]
  rcases h with ⟨rfl, rfl⟩ | ⟨b, o, c, rfl, h0, h1, h2, h3⟩
  · have : n = 0 := by simpa using hn
    subst this
    refine ⟨.slice none 0 0, fun wx => ?_, .inl ⟨rfl, rfl⟩⟩
    rw [run_slice_l wx t none 0 0 (elem_of ht) .i64 _ (by omega) (by simp), hel, run_size hs]
    simp [Result.andThen, sliced]
  · by_cases hc : c = n
    · refine ⟨.slice (some ⟨b, o, none⟩) (l.length - n) (c - n), fun wx => ?_, .inr ⟨b, o, c - n, by rw [List.length_drop], h0, by rw [List.length_drop]; omega, by omega, fun j hj => ?_⟩⟩
      · rw [run_slice_l wx t _ _ c (elem_of ht) .i64 _ (by omega) (by omega), hel, run_size hs]
        simp [Result.andThen, sliced, hc]
      · rw [List.length_drop] at hj; omega
    · refine ⟨.slice (some ⟨b, o + n, none⟩) (l.length - n) (c - n), fun wx => ?_, .inr ⟨b, o + n, c - n, by rw [List.length_drop], h0, by rw [List.length_drop]; omega, by omega, fun j hj => ?_⟩⟩
      · rw [run_slice_l wx t _ _ c (elem_of ht) .i64 _ (by omega) (by omega), hel, run_size hs]
        simp [Result.andThen, sliced, hc, add_eq]
      · rw [List.length_drop] at hj
        rw [Nat.add_assoc, h3 (n + j) (by omega)]
        congr 2
        rw [List.getD_eq_getElem?_getD, List.getD_eq_getElem?_getD, List.getElem?_drop]
end
end Go.Proofs.YtjclgoiclbkgjaaDoor
