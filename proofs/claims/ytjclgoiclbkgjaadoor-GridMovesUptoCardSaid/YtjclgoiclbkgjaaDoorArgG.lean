/- Arguments that are slices of strings or of bools, opened. -/
import Derived.Test.YtjclgoiclbkgjaaDoorArg
import Derived.Test.YtjclgoiclbkgjaaDoorG27
namespace Go.Proofs.YtjclgoiclbkgjaaDoor
open Go.ChangeShapes Go.WideShapes Go.ChangeAt Go.RowKit Go.ChangeMaps

theorem mapM_range1 {f : Nat → Option Value} {cs : List Value} (h : (List.range 1).mapM f = some cs) : ∃ c0, cs = [c0] ∧ f 0 = some c0 := by
  rw [show List.range 1 = [0] from rfl] at h
  simp only [List.mapM_cons, List.mapM_nil, Option.pure_def, Option.bind_eq_bind, Option.bind_eq_some_iff, Option.some.injEq] at h
  obtain ⟨c0, h0, _, rfl, rfl⟩ := h
  exact ⟨c0, rfl, h0⟩
theorem bulk_memG {H : Type} : ∀ (l : List (DataW H)) (d : DataW H), d ∈ l → Rows.uptoBulk d ≤ Rows.uptoBulkAll l
  | x :: l, d, h => by
    simp only [Rows.uptoBulkAll]
    rcases List.mem_cons.1 h with rfl | h
    · omega
    · have := bulk_memG l d h; omega
theorem cellsOf_strG : Tryd.prog.cellsOf 9 = 1 := by kernel_rfl
theorem cellsOf_boolG : Tryd.prog.cellsOf 4 = 1 := by kernel_rfl
theorem addr_add0 (a : Addr) (i : Nat) : (a.add (i * 1)).add 0 = a.add i := by simp [Addr.add]
theorem wf64 {n : Int} (h : (Lit.int .i64 n).wf = true) : -9223372036854775808 ≤ n ∧ n ≤ 9223372036854775807 := by
  simp only [Lit.wf, Bool.and_eq_true, decide_eq_true_eq] at h
  exact h
theorem choose_list {α : Type} {p : Nat → α → Prop} {len : Nat} (h : ∀ i, i < len → ∃ y, p i y) : ∀ m, m ≤ len → ∃ l : List α, l.length = m ∧ ∀ i (hi : i < l.length), p i l[i] := by
  intro m
  induction m with
  | zero => intro _; exact ⟨[], rfl, fun i hi => absurd hi (by simp)⟩
  | succ m ih =>
    intro hm
    obtain ⟨l, hl, hp⟩ := ih (by omega)
    obtain ⟨y, hy⟩ := h m (by omega)
    refine ⟨l ++ [y], by simp [hl], fun i hi => ?_⟩
    by_cases hlt : i < l.length
    · rw [List.getElem_append_left hlt]
      exact hp i hlt
    · have hi2 : i = m := by rw [List.length_append, hl] at hi; simp at hi; omega
      subst hi2
      rw [List.getElem_append_right (by omega)]
      simp only [hl, Nat.sub_self, List.getElem_singleton]
      exact hy
set_option maxHeartbeats 1000000 in
theorem open_strs {H : Type} {enc : TypeId × Value → H} {W : World} {fuel : Nat} {a : Option Addr} {len cap : Nat} {x : DataW H × List MemPlace}
    (h : DataW.trod enc Tryd.prog W 0 (fun _ => true) true fuel 22 (Value.slice a len cap).cells.toList = some x) :
    ∃ l : List ByteArray, IsVals W (.slice a len cap) (l.map Value.string) ∧ (∀ s ∈ l, s.size ≤ Rows.uptoBulk x.1) ∧ l.length ≤ Rows.uptoBulk x.1 := by
  rcases DataW.trod_slice Tryd.underlying22 h with ⟨hcs, hx⟩ | ⟨ad, l, c, elems, rest, n, hfu, hcs, hx, _, hlc, hcm, hel, hat, _, _⟩
  · simp [Value.cells] at hcs
    obtain ⟨rfl, rfl, rfl⟩ := hcs
    exact ⟨[], .inl ⟨rfl, rfl⟩, fun _ h => by simp at h, Nat.zero_le _⟩
  · simp [Value.cells] at hcs
    obtain ⟨rfl, rfl, rfl⟩ := hcs
    have hone : ∀ i, i < len → ∃ s : ByteArray, W.cell? (ad.add i) = some (.string s) ∧ s.size ≤ Rows.uptoBulk x.1 := by
      intro i hi
      have h1 := hat i hi
      rw [cellsOf_strG, List.getElem?_eq_getElem (by omega)] at h1
      obtain ⟨cs, hc, ht⟩ := Option.bind_eq_some_iff.1 h1
      obtain ⟨s, e, es, _⟩ := DataW.trod_string Tryd.underlying9 ht
      have hbk : Rows.uptoBulk elems[i].1 ≤ Rows.uptoBulk x.1 := by
        rw [hx]
        simp only [Rows.uptoBulk]
        have := bulk_memG (elems.map (·.1)) elems[i].1 (List.mem_map_of_mem (List.getElem_mem (by omega)))
        omega
      unfold World.cells? at hc
      rw [if_pos (Nat.zero_le _)] at hc
      obtain ⟨c0, e0, g0⟩ := mapM_range1 hc
      rw [e0] at e
      rw [addr_add0] at g0
      refine ⟨s, by rw [g0]; simpa using e, ?_⟩
      rw [es] at hbk
      simp only [Rows.uptoBulk, Array.length_toList] at hbk
      show s.data.size ≤ _
      omega
    obtain ⟨l, hl, hp⟩ := choose_list hone len (Nat.le_refl _)
    refine ⟨l, .inr ⟨ad, cap, by rw [List.length_map, hl], by rw [List.length_map, hl]; exact hlc, by unfold maxLen at hcm; exact hcm, fun j hj => ?_⟩, fun s hs => ?_, ?_⟩
    · rw [List.length_map] at hj
      rw [(hp j hj).1, List.getD_eq_getElem?_getD, List.getElem?_map, List.getElem?_eq_getElem hj]
      rfl
    · obtain ⟨i, hi, rfl⟩ := List.getElem_of_mem hs
      exact (hp i hi).2
    · rw [hl, hx]
      simp only [Rows.uptoBulk]
      have := bulk_len (elems.map (·.1))
      rw [List.length_map] at this
      omega
end Go.Proofs.YtjclgoiclbkgjaaDoor
