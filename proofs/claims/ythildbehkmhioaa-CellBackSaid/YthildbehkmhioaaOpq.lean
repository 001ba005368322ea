/- Slices of integers whose value is left closed: their length, their places. -/
import Derived.Test.YthildbehkmhioaaBase
namespace Go.Proofs.Ythildbehkmhioaa
open Go.RowKit

section
variable {P : Program} {t e : TypeId}
theorem arg_len {k : IntKind} {w : World} {v : Value} {l : List Int} (ht : P.underlying t = some (.slice e)) (h : IsArg k w v l) (ty : TypeId) (wx : World) : (Builtin.len_ #[t] ty #[v]).run P wx = .ok (.int .i64 l.length) wx := by
  rcases h with ⟨rfl, rfl⟩ | ⟨a, c, rfl, _⟩ <;> simp [Builtin.len_, run_underlying ht, goInt]
theorem arg_at {k : IntKind} {w : World} {v : Value} {l : List Int} (ht : P.underlying t = some (.slice e)) (hs : (P.info? e).map (·.size) = some 1) (h : IsArg k w v l) (j : Nat) (hj : j < l.length) :
    ∃ a : Addr, (∀ wx, (Instr.indexAt t v (.int .i64 j)).run P wx = .ok (.pointer (some a)) wx) ∧ w.cell? a = some (.int k (l.getD j 0)) := by
  rcases h with ⟨rfl, rfl⟩ | ⟨a, c, rfl, h1, h2, h3, h4⟩
  · simp at hj
  · refine ⟨a.add j, fun wx => ?_, h3 j hj⟩
    obtain ⟨i, hi, hi2⟩ := Option.map_eq_some_iff.1 hs
    have hj' : (0 : Int) ≤ (j : Int) ∧ (j : Int) < (l.length : Int) := by omega
    simp [Instr.indexAt, asIntOf, run_underlying ht, hj', sizeOf, typeInfo, hi, hi2]
    omega
end
theorem reads_one (w : World) (v : Value) (T : TypeId) : Reads (w.alloc (.cells #[v] T)) 1 (.slice (some ⟨w.heap.size, 0, none⟩) 1 1) 1 [v] := by
  refine .inr ⟨⟨w.heap.size, 0, none⟩, 1, rfl, rfl, fun j u hu => ?_⟩
  rw [add_eq, World.cell?_alloc_new, Nat.zero_add]
  simpa using hu
theorem int_one (k : IntKind) (x : Int) : ∀ u ∈ [Value.int k x], u.oneCell' = true := ints_oneCell k [x]
theorem own_alloc {w : World} {base : Nat} {e : TypeId} {size : Nat} {v : Value} {n : Nat} {xs : List Value} (h : w.ownsRow base e size v n xs) (o : Obj) : (w.alloc o).ownsRow base e size v n xs := h.alloc o
/-- An own row above p is kept where block p is written. -/
theorem own_kept {w w' : World} {base : Nat} {e : TypeId} {size : Nat} {v : Value} {n : Nat} {xs : List Value} {p : Nat} (h : w.ownsRow base e size v n xs) (g : w.grownBy w' (some p)) (hp : p < base) : w'.ownsRow base e size v n xs := by
  refine h.kept g ?_
  rcases h.2 with ⟨hv, _⟩ | ⟨q, cap, cur, hv, hg, _⟩
  · left; rw [hv]; rfl
  · right; rw [hv]; simp only [Value.ownBlock, ne_eq, Option.some.injEq]; omega
end Go.Proofs.Ythildbehkmhioaa
