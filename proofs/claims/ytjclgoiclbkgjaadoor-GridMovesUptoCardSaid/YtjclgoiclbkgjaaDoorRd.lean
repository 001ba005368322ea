/- Slices of integers that can be read, at whatever address. -/
import Derived.Test.YtjclgoiclbkgjaaDoorOpq
import Derived.Lib.AppendIntMem
import Derived.Lib.ItoaNum
namespace Go.Proofs.YtjclgoiclbkgjaaDoor
open Go.RowKit

def IsRd (k : IntKind) (w : World) (v : Value) (l : List Int) : Prop :=
  (v = .slice none 0 0 ∧ l = []) ∨ ∃ (a : Addr) (c : Nat), v = .slice (some a) l.length c ∧ l.length ≤ c ∧ c ≤ 9223372036854775807 ∧
    ∀ j, j < l.length → w.cell? (a.add j) = some (.int k (l.getD j 0))
theorem isRd_nil (k : IntKind) (w : World) : IsRd k w (.slice none 0 0) [] := .inl ⟨rfl, rfl⟩
theorem isRd_ints {k : IntKind} {w : World} {v : Value} {l : List Int} (h : IsInts k w v l) : IsRd k w v l := by
  rcases h with h | ⟨b, off, c, h1, h2, h3, h4, h5⟩
  · exact .inl h
  · exact .inr ⟨⟨b, off, none⟩, c, h1, h3, h4, fun j hj => by rw [add_eq]; exact h5 j hj⟩
theorem isRd_arg {k : IntKind} {w : World} {v : Value} {l : List Int} (h : IsArg k w v l) : IsRd k w v l := by
  rcases h with h | ⟨a, c, h1, h2, h3, h4, _⟩
  · exact .inl h
  · exact .inr ⟨a, c, h1, h2, h3, h4⟩
theorem addr_block (a : Addr) (j : Nat) : (a.add j).block = a.block := by
  unfold Addr.add; split <;> rfl
theorem cell_lt {w : World} {a : Addr} {v : Value} (h : w.cell? a = some v) : a.block < w.heap.size := World.block_lt_of_cell? w a h
theorem cell_below {w w' : World} (hb : Below w.heap.size w w') {a : Addr} {v : Value} (h : w.cell? a = some v) : w'.cell? a = some v := by
  rw [hb.cell (p := a) (cell_lt h)]; exact h
theorem isRd_below {k : IntKind} {w w' : World} {v : Value} {l : List Int} (h : IsRd k w v l) (hb : Below w.heap.size w w') : IsRd k w' v l := by
  rcases h with h | ⟨a, c, h1, h2, h3, h4⟩
  · exact .inl h
  · exact .inr ⟨a, c, h1, h2, h3, fun j hj => cell_below hb (h4 j hj)⟩
section
variable {P : Program} {t e : TypeId}
theorem rd_len {k : IntKind} {w : World} {v : Value} {l : List Int} (ht : P.underlying t = some (.slice e)) (h : IsRd k w v l) (ty : TypeId) (wx : World) : (Builtin.len_ #[t] ty #[v]).run P wx = .ok (.int .i64 l.length) wx := by
  rcases h with ⟨rfl, rfl⟩ | ⟨a, c, rfl, _⟩ <;> simp [Builtin.len_, run_underlying ht, goInt]
theorem rd_at {k : IntKind} {w : World} {v : Value} {l : List Int} (ht : P.underlying t = some (.slice e)) (hs : (P.info? e).map (·.size) = some 1) (h : IsRd k w v l) (j : Nat) (hj : j < l.length) :
    ∃ a : Addr, (∀ wx, (Instr.indexAt t v (.int .i64 j)).run P wx = .ok (.pointer (some a)) wx) ∧ w.cell? a = some (.int k (l.getD j 0)) := by
  rcases h with ⟨rfl, rfl⟩ | ⟨a, c, rfl, h1, h2, h3⟩
  · simp at hj
  · refine ⟨a.add j, fun wx => ?_, h3 j hj⟩
    obtain ⟨i, hi, hi2⟩ := Option.map_eq_some_iff.1 hs
    have hj' : (0 : Int) ≤ (j : Int) ∧ (j : Int) < (l.length : Int) := by omega
    simp [Instr.indexAt, asIntOf, run_underlying ht, hj', sizeOf, typeInfo, hi, hi2]
    omega
end

/-- The table of the powers of ten is there, and will be. -/
def Tab (P : Program) (w : World) : Prop := Lib.TabBelow P w.heap.size w "internal/strconv.uint64pow10" .u64 Lib.pow10Tab
theorem tab_below {P : Program} {w w' : World} {B : Nat} (h : Lib.TabBelow P B w "internal/strconv.uint64pow10" .u64 Lib.pow10Tab) (hb : Below B w w') : Lib.TabBelow P B w' "internal/strconv.uint64pow10" .u64 Lib.pow10Tab :=
  fun w2 h2 => h w2 (hb.trans h2)
theorem tab_up {P : Program} {w : World} {B B' : Nat} (h : Lib.TabBelow P B w "internal/strconv.uint64pow10" .u64 Lib.pow10Tab) (hb : B ≤ B') : Lib.TabBelow P B' w "internal/strconv.uint64pow10" .u64 Lib.pow10Tab :=
  fun w2 h2 => h w2 (h2.mono hb)
theorem tab_go {P : Program} {w w' : World} (h : Tab P w) (hb : Below w.heap.size w w') : Tab P w' := tab_up (tab_below h hb) hb.size
end Go.Proofs.YtjclgoiclbkgjaaDoor
