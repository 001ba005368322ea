/- Walks of package grid: Wrap. -/
import Derived.Test.YtjclgoiclbkgjaaDoorG14
namespace Go.Proofs.YtjclgoiclbkgjaaDoor
open Go.RowKit

theorem ownC_cellx {w : World} {base size b off n c : Nat} {xs : List Value} (h : OwnC w base size (.slice (some ⟨b, off, none⟩) n c) n xs) (j : Nat) (hj : j < n * size) :
    w.cell? ⟨b, off + j, none⟩ = xs[j]? ∧ w.frozen? ⟨b, off + j, none⟩ = false := by
  obtain ⟨e1, h2⟩ := h
  rcases h2 with ⟨e, _⟩ | ⟨b', off', c', e, hb, hbs, hnc, hcm, hcells, hxs⟩
  · simp at e
  · simp only [Value.slice.injEq, Option.some.injEq, Addr.mk.injEq] at e
    obtain ⟨⟨rfl, rfl, _⟩, _, rfl⟩ := e
    have hc : j < c * size := Nat.lt_of_lt_of_le hj (Nat.mul_le_mul_right _ hnc)
    refine ⟨?_, (hcells j hc).2⟩
    have hjx : j < xs.length := by rw [e1]; exact hj
    rw [hxs j _ (List.getElem?_eq_getElem hjx), List.getElem?_eq_getElem hjx]
theorem rowVals_split (A B : List (Value × Rw)) (x : Value × Rw) : rowVals (A ++ x :: B) = (rowVals A ++ [x.1]) ++ .bool x.2.wrap :: rowVals B := by
  rw [rowVals_append, List.append_assoc]
  rfl
theorem rowVals_wrap (L : List (Value × Rw)) (k : Nat) (hk : k < L.length) (is : Bool) : putAt (rowVals L) (k * 2 + 1) [.bool is] = rowVals (L.set k (L[k].1, { L[k].2 with wrap := is })) := by
  have e : L = L.take k ++ L[k] :: L.drop (k + 1) := by
    rw [List.getElem_cons_drop, List.take_append_drop]
  have hl : (L.take k).length = k := by rw [List.length_take]; omega
  rw [List.set_eq_take_append_cons_drop, if_pos hk]
  generalize hx : L[k] = x at *
  generalize L.take k = A at *
  generalize L.drop (k + 1) = B at *
  rw [e, rowVals_split, rowVals_split, putAt_mid _ _ _ _ _ (by rw [List.length_append, rowVals_len, hl]; rfl)]
/-- A row's mark is turned. -/
theorem GAt.rewrap {T : Nat → Nat} {p : Nat} {vr vo : Value} {Lr Lo : List (Value × Rw)} {w w' : World} {g : Gr} (h : GAt T p vr vo Lr Lo w g) (k : Nat) (hk : k < Lr.length) (is : Bool) (m : Mod T (fun t => t = 2) w w')
    (ho : OwnC w' 0 2 vr Lr.length (rowVals (Lr.set k (Lr[k].1, { Lr[k].2 with wrap := is })))) : GM T p w' { g with rows := g.rows.set k { g.rows.getD k noR with wrap := is } } := by
  have hr : g.rows.getD k noR = Lr[k].2 := by
    rw [← h.er, List.getD_eq_getElem?_getD, List.getElem?_map, List.getElem?_eq_getElem hk]; rfl
  have hset : (Lr.set k (Lr[k].1, { Lr[k].2 with wrap := is })).map (·.1.ownBlock) = Lr.map (·.1.ownBlock) := by
    rw [List.map_set]
    apply List.ext_getElem?
    intro j
    by_cases hj : j = k
    · subst hj
      rw [List.getElem?_set_self (by simpa using hk), List.getElem?_map, List.getElem?_eq_getElem hk]; rfl
    · rw [List.getElem?_set_ne (fun e => hj e.symm)]
  refine ⟨vr, vo, Lr.set k (Lr[k].1, { Lr[k].2 with wrap := is }), Lo, ⟨fun k' hk' => Nat.lt_of_lt_of_le (h.lt k' hk') m.size, ?_, h.tp, ?_, h.ro.mod m (by decide), ?_, h.eo, fun x hx => ?_, ?_, ?_⟩⟩
  · exact (m.block p (heap_lt h.blk) (by rw [h.tp]; decide)).trans h.blk
  · rw [List.length_set]
    exact ⟨ho, h.rr.tag⟩
  · rw [List.map_set, h.er, hr]
  · rcases List.mem_append.1 hx with hx | hx
    · rcases List.mem_or_eq_of_mem_set hx with hx | rfl
      · exact (h.ca x (List.mem_append_left _ hx)).mod m (fun q hq => by omega)
      · have := (h.ca Lr[k] (List.mem_append_left _ (List.getElem_mem hk))).mod m (fun q hq => by omega)
        exact ⟨this.own, this.tag⟩
    · exact (h.ca x (List.mem_append_right _ hx)).mod m (fun q hq => by omega)
  · rw [List.map_append, hset, ← List.map_append]; exact h.nd
  · have wf := h.wf
    refine ⟨wf.c1, wf.c2, ?_, ?_, wf.li, wf.ol, fun r hr' => ?_⟩
    · show 1 ≤ (g.rows.set k _).length
      rw [List.length_set]; exact wf.r1
    · show (g.rows.set k _).length ≤ 120
      rw [List.length_set]; exact wf.r2
    · have hr2 : r ∈ g.rows.set k { g.rows.getD k noR with wrap := is } ++ g.old := hr'
      rcases List.mem_append.1 hr2 with hm | hm
      · rcases List.mem_or_eq_of_mem_set hm with hm | rfl
        · exact wf.ce r (List.mem_append_left _ hm)
        · rw [hr]
          have hmem : Lr[k].2 ∈ g.rows := by rw [← h.er]; exact List.mem_map_of_mem (List.getElem_mem hk)
          exact wf.ce Lr[k].2 (List.mem_append_left _ hmem)
      · exact wf.ce r (List.mem_append_right _ hm)
set_option maxRecDepth 100000 in
theorem wrap_any {T : Nat → Nat} {p : Nat} {w : World} {g : Gr} (h : GM T p w g) (y : Int) (is : Bool) :
    Calls Tryd.prog 16 #[.pointer (some ⟨p, 0, none⟩), .int .i64 y, .bool is] w fun e w' => e = .returned (.tuple #[]) ∧ Within (own T w) w w' ∧ GM T p w' (g.setWrap y is) := by
  have H0 := Lib.hid h
  obtain ⟨vr, vo, Lr, Lo, h⟩ := h
  obtain ⟨c0, c1, c2, c3⟩ := gm_cells h
  have hl := ownC_ln Tryd.underlying68 h.rr.own
  have hlen := (rows_len h).1
  by_cases hy : 0 ≤ y ∧ y < (g.rows.length : Int)
  · obtain ⟨k, rfl⟩ : ∃ k : Nat, y = (k : Int) := ⟨y.toNat, by omega⟩
    have hE := Lib.hid (show g.setWrap k is = { g with rows := g.rows.set k { g.rows.getD k noR with wrap := is } } by
      unfold Gr.setWrap; rw [if_pos hy, Int.toNat_natCast])
    have hkl : k < Lr.length := by omega
    obtain ⟨b, off, c, rfl, hnc, hcm⟩ := ownC_pos h.rr.own (by omega)
    have hix := idx_at (P := Tryd.prog) (size := 2) Tryd.underlying68 row_info b off Lr.length c k hkl
    obtain ⟨r1, f1⟩ := ownC_cellx h.rr.own (k * 2 + 1) (by omega)
    rw [rowVals_at Lr k hkl 1 (by decide), ← Nat.add_assoc] at r1
    rw [← Nat.add_assoc] at f1
    replace r1 : w.cell? ⟨b, off + k * 2 + 1, none⟩ = some (.bool Lr[k].2.wrap) := r1
    have d1 : decide (0 ≤ (k : Int)) = true := decide_eq_true (by omega)
    have d2 : decide ((k : Int) < (Lr.length : Int)) = true := decide_eq_true (by omega)
    have d2' : decide (k < Lr.length) = true := decide_eq_true hkl
    have hP := ownC_put h.rr.own (k * 2 + 1) [.bool is] (by simp; omega)
    rw [rowVals_wrap Lr k hkl] at hP
    change OwnC (w.setCell ⟨b, off + (k * 2 + 1), none⟩ (.bool is)) _ _ _ _ _ at hP
    rw [← Nat.add_assoc] at hP
    have g1 : w.grownBy (w.setCell ⟨b, off + k * 2 + 1, none⟩ (.bool is)) (some b) := gb_set (gb_refl _ _) _ _
    have tb : T b = 2 := h.rr.tag b rfl
    have HM := Lib.hid (h.rewrap k hkl is (Mod.of_gb g1 (fun q hq => by injection hq with hq; rw [← hq]; exact tb)) hP)
    have HW := Lib.hid (show Within (own T w) w (w.setCell ⟨b, off + k * 2 + 1, none⟩ (.bool is)) from Within.of_gb g1 (fun q hq => by injection hq with hq; rw [← hq]; exact .inl (by rw [tb]; decide)))
    clear h hP g1 hlen hy
    generalize Lr[k].2.wrap = bo at *
    go_enter Tryd.func16, Tryd.ntmps16
    go_wp2_with fail
    go_end0
    exact ⟨rfl, HW.out, by rw [hE.out]; exact HM.out⟩
  · have hE := Lib.hid (show g.setWrap y is = g by unfold Gr.setWrap; rw [if_neg hy])
    rw [hlen] at hl
    clear h
    by_cases h0 : 0 ≤ y
    · have d1 : decide (0 ≤ y) = true := decide_eq_true h0
      have d2 : decide (y < (g.rows.length : Int)) = false := decide_eq_false (by omega)
      go_enter Tryd.func16, Tryd.ntmps16
      go_wp2_with fail
      go_end0
      exact ⟨rfl, Within.refl _ _, by rw [hE.out]; exact H0.out⟩
    · have d1 : decide (0 ≤ y) = false := decide_eq_false h0
      go_enter Tryd.func16, Tryd.ntmps16
      go_wp2_with fail
      go_end0
      exact ⟨rfl, Within.refl _ _, by rw [hE.out]; exact H0.out⟩
end Go.Proofs.YtjclgoiclbkgjaaDoor
