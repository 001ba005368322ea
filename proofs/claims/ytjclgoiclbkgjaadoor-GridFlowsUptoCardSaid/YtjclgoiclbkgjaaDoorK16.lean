/- Package grid, texts laid together: LaidG Arg ArgG ArgB. -/
import Derived.Test.YtjclgoiclbkgjaaDoorCards
import Derived.Test.YtjclgoiclbkgjaaDoorTie
import Derived.WalkKit
import Derived.ProofKit
import Derived.OpenShut
import Derived.Deep.DeepHandedRow
import Derived.JoinedCond
import Derived.Test.YtjclgoiclbkgjaaDoorRows
import Derived.Test.YtjclgoiclbkgjaaDoorK1
import Derived.Test.YtjclgoiclbkgjaaDoorK13
/- A world for the witness of package grid's laws: the settled one, with what the row lists. -/
namespace Go.Proofs.YtjclgoiclbkgjaaDoor
open Go.ChangeShapes Go.WideShapes Go.ChangeAt Go.RowKit

set_option linter.unusedVariables false
def litValG : DataW Unit → Value
  | .lit (.int k z) => .int k z
  | _ => undef
def datCellsG : DataW Unit → Array Value
  | .agg l => (l.map litValG).toArray
  | _ => #[]
def rowCellsG : DataW Unit → List Value
  | .agg l => l.map litValG
  | _ => []
/-- The ranges of a table that is listed. -/
def tabCellsG : DataW Unit → Array Value
  | .ptr (.agg (.slice l _ :: _)) => (l.flatMap rowCellsG).toArray
  | _ => #[]
def laidInG (heap : Array Obj) (g : Nat) (d : DataW Unit) : Array Obj := heap.modify g fun
  | .cells _ t frozen => .cells (datCellsG d) t frozen
  | o => o
def laidPtrG (heap : Array Obj) (g : Nat) (d : DataW Unit) : Array Obj :=
  ((heap.modify g fun
    | .cells _ t frozen => .cells #[.pointer (some ⟨heap.size, 0, none⟩)] t frozen
    | o => o).push (.cells #[.slice (some ⟨heap.size + 1, 0, none⟩) ((tabCellsG d).size / 3) ((tabCellsG d).size / 3), .slice none 0 0, .int .i64 2] 132 (0, 0))).push (.cells (tabCellsG d) 135 (0, 0))
noncomputable def laidWorldG (os : Os) (args : Array Value) : World :=
  { World.holding Tryd.prog os ⟨#[], args, []⟩ with heap := laidPtrG (laidInG (laidInG (laidInG (laidInG (World.holding Tryd.prog os ⟨#[], args, []⟩).heap 2 Rows.laid_internal_strconv_uint64pow10) 3 Rows.laid_math_bits_deBruijn32tab) 4 Rows.laid_math_bits_deBruijn64tab) 0 Rows.laid_strings_asciiSpace) 1 Rows.laid_unicode_White_Space }
end Go.Proofs.YtjclgoiclbkgjaaDoor

/- Arguments of a law, opened. -/
namespace Go.Proofs.YtjclgoiclbkgjaaDoor
open Go.ChangeShapes Go.WideShapes Go.ChangeAt Go.RowKit Go.ChangeMaps

theorem bulk_pos {H : Type} (d : DataW H) : 1 ≤ Rows.uptoBulk d := by
  cases d with
  | lit l => cases l <;> simp [Rows.uptoBulk]
  | nil => simp [Rows.uptoBulk]
  | ptr d => simp [Rows.uptoBulk]
  | slice elems spare => simp [Rows.uptoBulk]
  | agg parts => simp [Rows.uptoBulk]
  | iface t d => simp [Rows.uptoBulk]
  | map entries => simp [Rows.uptoBulk]
  | held h => simp [Rows.uptoBulk]
theorem bulk_len {H : Type} (l : List (DataW H)) : l.length ≤ Rows.uptoBulkAll l := by
  induction l with
  | nil => simp [Rows.uptoBulkAll]
  | cons x r ih => have := bulk_pos x; simp only [Rows.uptoBulkAll, List.length_cons]; omega

theorem open_arg {H : Type} {enc : TypeId × Value → H} {P : Program} {W : World} {t e : TypeId} {k : IntKind} {fuel : Nat} {a : Option Addr} {len cap : Nat} {x : DataW H × List MemPlace}
    (ht : P.underlying t = some (.slice e)) (he : P.underlying e = some (.int k)) (hc : P.cellsOf e = 1)
    (h : DataW.trod enc P W 0 (fun _ => true) true fuel t (Value.slice a len cap).cells.toList = some x) :
    ∃ zs, IsArg k W (.slice a len cap) zs ∧ zs.length + 1 ≤ Rows.uptoBulk x.1 := by
  rcases open_ints ht he hc h with ⟨hcs, hx⟩ | ⟨ad, l, c, zs, hcs, _, hl, hm, hz, hx, hcell, hwz⟩
  · simp [Value.cells] at hcs
    obtain ⟨rfl, rfl, rfl⟩ := hcs
    exact ⟨[], .inl ⟨rfl, rfl⟩, by rw [hx]; simp [Rows.uptoBulk]⟩
  · simp [Value.cells] at hcs
    obtain ⟨rfl, rfl, rfl⟩ := hcs
    simp at hz
    have hlen : (zs.take len).length = len := by rw [List.length_take]; omega
    refine ⟨zs.take len, .inr ⟨ad, cap, by rw [hlen], by rw [hlen]; exact hl, by unfold maxLen at hm; exact hm, fun j hj => ?_, fun n hn => hwz n (List.mem_of_mem_take hn)⟩, ?_⟩
    · rw [hcell j (by omega)]
      congr 2
      rw [List.getD_eq_getElem?_getD, List.getD_eq_getElem?_getD, List.getElem?_take, if_pos (by omega)]
    · rw [hx]
      simp only [Rows.uptoBulk]
      have h1 := bulk_len (H := H) (lits k (zs.take len))
      have h2 : (lits (H := H) k (zs.take len)).length = (zs.take len).length := by simp [lits]
      omega
end Go.Proofs.YtjclgoiclbkgjaaDoor

/- Arguments that are slices of strings or of bools, opened. -/
namespace Go.Proofs.YtjclgoiclbkgjaaDoor
open Go.ChangeShapes Go.WideShapes Go.ChangeAt Go.RowKit Go.ChangeMaps

theorem mapM_range1 {f : Nat → Option Value} {cs : List Value} (h : (List.range 1).mapM f = some cs) : ∃ c0, cs = [c0] ∧ f 0 = some c0 := by
  rw [show List.range 1 = [0] from rfl] at h
  simp only [List.mapM_cons, List.mapM_nil, Option.pure_def, Option.bind_eq_bind, Option.bind_eq_some_iff, Option.some.injEq] at h
  obtain ⟨c0, h0, _, rfl, rfl⟩ := h
  exact ⟨c0, rfl, h0⟩
theorem bulk_memG {H : Type} : ∀ (l : List (DataW H)) (d : DataW H), d ∈ l → Rows.uptoBulk d ≤ Rows.uptoBulkAll l
  | x :: l, d, h => by
    simp only [Rows.uptoBulkAll]
    rcases List.mem_cons.1 h with rfl | h
    · omega
    · have := bulk_memG l d h; omega
theorem cellsOf_strG : Tryd.prog.cellsOf 9 = 1 := by kernel_rfl
theorem cellsOf_boolG : Tryd.prog.cellsOf 4 = 1 := by kernel_rfl
theorem addr_add0 (a : Addr) (i : Nat) : (a.add (i * 1)).add 0 = a.add i := by simp [Addr.add]
theorem wf64 {n : Int} (h : (Lit.int .i64 n).wf = true) : -9223372036854775808 ≤ n ∧ n ≤ 9223372036854775807 := by
  simp only [Lit.wf, Bool.and_eq_true, decide_eq_true_eq] at h
  exact h
theorem choose_list {α : Type} {p : Nat → α → Prop} {len : Nat} (h : ∀ i, i < len → ∃ y, p i y) : ∀ m, m ≤ len → ∃ l : List α, l.length = m ∧ ∀ i (hi : i < l.length), p i l[i] := by
  intro m
  induction m with
  | zero => intro _; exact ⟨[], rfl, fun i hi => absurd hi (by simp)⟩
  | succ m ih =>
    intro hm
    obtain ⟨l, hl, hp⟩ := ih (by omega)
    obtain ⟨y, hy⟩ := h m (by omega)
    refine ⟨l ++ [y], by simp [hl], fun i hi => ?_⟩
    by_cases hlt : i < l.length
    · rw [List.getElem_append_left hlt]
      exact hp i hlt
    · have hi2 : i = m := by rw [List.length_append, hl] at hi; simp at hi; omega
      subst hi2
      rw [List.getElem_append_right (by omega)]
      simp only [hl, Nat.sub_self, List.getElem_singleton]
      exact hy
set_option maxHeartbeats 1000000 in
theorem open_strs {H : Type} {enc : TypeId × Value → H} {W : World} {fuel : Nat} {a : Option Addr} {len cap : Nat} {x : DataW H × List MemPlace}
    (h : DataW.trod enc Tryd.prog W 0 (fun _ => true) true fuel 22 (Value.slice a len cap).cells.toList = some x) :
    ∃ l : List ByteArray, IsVals W (.slice a len cap) (l.map Value.string) ∧ (∀ s ∈ l, s.size ≤ Rows.uptoBulk x.1) ∧ l.length ≤ Rows.uptoBulk x.1 := by
  rcases DataW.trod_slice Tryd.underlying22 h with ⟨hcs, hx⟩ | ⟨ad, l, c, elems, rest, n, hfu, hcs, hx, _, hlc, hcm, hel, hat, _, _⟩
  · simp [Value.cells] at hcs
    obtain ⟨rfl, rfl, rfl⟩ := hcs
    exact ⟨[], .inl ⟨rfl, rfl⟩, fun _ h => by simp at h, Nat.zero_le _⟩
  · simp [Value.cells] at hcs
    obtain ⟨rfl, rfl, rfl⟩ := hcs
    have hone : ∀ i, i < len → ∃ s : ByteArray, W.cell? (ad.add i) = some (.string s) ∧ s.size ≤ Rows.uptoBulk x.1 := by
      intro i hi
      have h1 := hat i hi
      rw [cellsOf_strG, List.getElem?_eq_getElem (by omega)] at h1
      obtain ⟨cs, hc, ht⟩ := Option.bind_eq_some_iff.1 h1
      obtain ⟨s, e, es, _⟩ := DataW.trod_string Tryd.underlying9 ht
      have hbk : Rows.uptoBulk elems[i].1 ≤ Rows.uptoBulk x.1 := by
        rw [hx]
        simp only [Rows.uptoBulk]
        have := bulk_memG (elems.map (·.1)) elems[i].1 (List.mem_map_of_mem (List.getElem_mem (by omega)))
        omega
      unfold World.cells? at hc
      rw [if_pos (Nat.zero_le _)] at hc
      obtain ⟨c0, e0, g0⟩ := mapM_range1 hc
      rw [e0] at e
      rw [addr_add0] at g0
      refine ⟨s, by rw [g0]; simpa using e, ?_⟩
      rw [es] at hbk
      simp only [Rows.uptoBulk, Array.length_toList] at hbk
      show s.data.size ≤ _
      omega
    obtain ⟨l, hl, hp⟩ := choose_list hone len (Nat.le_refl _)
    refine ⟨l, .inr ⟨ad, cap, by rw [List.length_map, hl], by rw [List.length_map, hl]; exact hlc, by unfold maxLen at hcm; exact hcm, fun j hj => ?_⟩, fun s hs => ?_, ?_⟩
    · rw [List.length_map] at hj
      rw [(hp j hj).1, List.getD_eq_getElem?_getD, List.getElem?_map, List.getElem?_eq_getElem hj]
      rfl
    · obtain ⟨i, hi, rfl⟩ := List.getElem_of_mem hs
      exact (hp i hi).2
    · rw [hl, hx]
      simp only [Rows.uptoBulk]
      have := bulk_len (elems.map (·.1))
      rw [List.length_map] at this
      omega
end Go.Proofs.YtjclgoiclbkgjaaDoor

/- Arguments that are slices of bools, opened. -/
namespace Go.Proofs.YtjclgoiclbkgjaaDoor
open Go.ChangeShapes Go.WideShapes Go.ChangeAt Go.RowKit Go.ChangeMaps

set_option maxHeartbeats 1000000 in
theorem open_bools {H : Type} {enc : TypeId × Value → H} {W : World} {fuel : Nat} {a : Option Addr} {len cap : Nat} {x : DataW H × List MemPlace}
    (h : DataW.trod enc Tryd.prog W 0 (fun _ => true) true fuel 23 (Value.slice a len cap).cells.toList = some x) :
    ∃ l : List Bool, IsVals W (.slice a len cap) (l.map Value.bool) ∧ l.length ≤ Rows.uptoBulk x.1 := by
  rcases DataW.trod_slice Tryd.underlying23 h with ⟨hcs, hx⟩ | ⟨ad, l, c, elems, rest, n, hfu, hcs, hx, _, hlc, hcm, hel, hat, _, _⟩
  · simp [Value.cells] at hcs
    obtain ⟨rfl, rfl, rfl⟩ := hcs
    exact ⟨[], .inl ⟨rfl, rfl⟩, Nat.zero_le _⟩
  · simp [Value.cells] at hcs
    obtain ⟨rfl, rfl, rfl⟩ := hcs
    have hone : ∀ i, i < len → ∃ s : Bool, W.cell? (ad.add i) = some (.bool s) := by
      intro i hi
      have h1 := hat i hi
      rw [cellsOf_boolG, List.getElem?_eq_getElem (by omega)] at h1
      obtain ⟨cs, hc, ht⟩ := Option.bind_eq_some_iff.1 h1
      obtain ⟨s, e, _⟩ := DataW.trod_bool Tryd.underlying4 ht
      unfold World.cells? at hc
      rw [if_pos (Nat.zero_le _)] at hc
      obtain ⟨c0, e0, g0⟩ := mapM_range1 hc
      rw [e0] at e
      rw [addr_add0] at g0
      exact ⟨s, by rw [g0]; simpa using e⟩
    obtain ⟨l, hl, hp⟩ := choose_list hone len (Nat.le_refl _)
    refine ⟨l, .inr ⟨ad, cap, by rw [List.length_map, hl], by rw [List.length_map, hl]; exact hlc, by unfold maxLen at hcm; exact hcm, fun j hj => ?_⟩, ?_⟩
    · rw [List.length_map] at hj
      rw [hp j hj, List.getD_eq_getElem?_getD, List.getElem?_map, List.getElem?_eq_getElem hj]
      rfl
    · rw [hl, hx]
      simp only [Rows.uptoBulk]
      have := bulk_len (elems.map (·.1))
      rw [List.length_map] at this
      omega
end Go.Proofs.YtjclgoiclbkgjaaDoor
