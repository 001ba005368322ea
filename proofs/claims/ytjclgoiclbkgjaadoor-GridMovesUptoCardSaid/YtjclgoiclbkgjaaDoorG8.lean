/- Walks of package grid: on, Wrap; a row's cells turned. -/
import Derived.Test.YtjclgoiclbkgjaaDoorG7
namespace Go.Proofs.YtjclgoiclbkgjaaDoor
open Go.RowKit

/-- style.Right's answer at a style. -/
def RightOk (s : Sty) : Prop := ∀ w, Calls Tryd.prog 54 #[s.val] w fun e w' => e = .returned (.bool (okS s)) ∧ Below w.heap.size w w'
theorem name_plain (w : World) : Calls Tryd.prog 62 #[.int .i64 (-1)] w fun e w' => e = .returned (.string ⟨#[100, 101, 102, 97, 117, 108, 116]⟩) ∧ w' = w := by
  go_enter Tryd.func62, Tryd.ntmps62
  go_wp2_with fail
  go_ret
  exact ⟨rfl, rfl⟩
set_option maxRecDepth 100000 in
theorem right_plain : RightOk plainS := by
  intro w
  have HB := Lib.hid ((Below.refl w.heap.size w).alloc (Nat.le_refl _) (.cells #[.int .i64 (-1), .int .i64 (-1), .int .i64 0] 33))
  unfold Sty.val plainS
  go_enter Tryd.func54, Tryd.ntmps54
  go_wp2_with fail
  refine (name_plain _).mono ?_
  rintro e w2 ⟨rfl, rfl⟩
  go_wp2_with fail
  refine (name_plain _).mono ?_
  rintro e w2 ⟨rfl, rfl⟩
  go_wp2_with fail
  go_ret
  exact ⟨rfl, HB.out⟩
set_option maxRecDepth 100000 in
theorem on_no {T : Nat → Nat} {p : Nat} {w : World} {g : Gr} (h : GM T p w g) (x y : Int) (s : Sty) (hs : RightOk s) (hn : g.onIt x y s = false) :
    Calls Tryd.prog 41 #[.pointer (some ⟨p, 0, none⟩), .int .i64 x, .int .i64 y, s.val] w fun e w' => e = .returned (.slice none 0 0) ∧ Below w.heap.size w w' := by
  have hBz := Below.alloc (Below.refl w.heap.size w) (Nat.le_refl _) (.cells #[.int .i64 s.fg, .int .i64 s.bg, .int .i64 s.attr] 33)
  have HB := Lib.hid hBz
  have h' := h.below hBz
  have wf := h.wf
  clear h
  obtain ⟨vr, vo, Lr, Lo, h⟩ := h'
  obtain ⟨c0, c1, c2, c3⟩ := gm_cells h
  have hl := ownC_ln Tryd.underlying68 h.rr.own
  rw [(rows_len h).1] at hl
  clear h
  have HN := Lib.hid hn
  have w1 := wf.r2
  have w2 := wf.c2
  clear hn wf
  unfold Gr.onIt at HN
  unfold Sty.val
  by_cases h0 : 0 ≤ y
  rotate_left
  · have d0 : decide (y < 0) = true := decide_eq_true (by omega)
    go_enter Tryd.func41, Tryd.ntmps41
    go_wp2_with fail
    go_ret
    exact ⟨rfl, HB.out⟩
  have d0 : decide (y < 0) = false := decide_eq_false (by omega)
  by_cases h1 : y < (g.rows.length : Int)
  rotate_left
  · have d1 : decide ((g.rows.length : Int) ≤ y) = true := decide_eq_true (by omega)
    go_enter Tryd.func41, Tryd.ntmps41
    go_wp2_with fail
    go_ret
    exact ⟨rfl, HB.out⟩
  have d1 : decide ((g.rows.length : Int) ≤ y) = false := decide_eq_false (by omega)
  by_cases h2 : 0 ≤ x
  rotate_left
  · have d2 : decide (x < 0) = true := decide_eq_true (by omega)
    go_enter Tryd.func41, Tryd.ntmps41
    go_wp2_with fail
    go_ret
    exact ⟨rfl, HB.out⟩
  have d2 : decide (x < 0) = false := decide_eq_false (by omega)
  by_cases h3 : x < (g.cols : Int)
  rotate_left
  · have d3 : decide ((g.cols : Int) ≤ x) = true := decide_eq_true (by omega)
    go_enter Tryd.func41, Tryd.ntmps41
    go_wp2_with fail
    go_ret
    exact ⟨rfl, HB.out⟩
  have d3 : decide ((g.cols : Int) ≤ x) = false := decide_eq_false (by omega)
  have hok : okS s = false := by
    have := HN.out
    rw [decide_eq_true h0, decide_eq_true h1, decide_eq_true h2, decide_eq_true h3] at this
    simpa using this
  have HR := Lib.hid hs
  clear hs
  go_enter Tryd.func41, Tryd.ntmps41
  go_wp2_with fail
  refine (HR.out _).mono ?_
  rintro e w3 ⟨rfl, b3⟩
  rw [hok]
  have HB3 := Lib.hid (HB.out.trans (b3.mono (by simp)))
  clear b3
  go_wp2_with fail
  go_ret
  exact ⟨rfl, HB3.out⟩
set_option maxRecDepth 100000 in
theorem on_yes {T : Nat → Nat} {p : Nat} {vr vo : Value} {Lr Lo : List (Value × Rw)} {w : World} {g : Gr} (h0 : GAt T p vr vo Lr Lo w g) (x y : Nat) (s : Sty) (hs : RightOk s) (hx : x < g.cols) (hy : y < Lr.length) (hok : okS s = true) :
    Calls Tryd.prog 41 #[.pointer (some ⟨p, 0, none⟩), .int .i64 x, .int .i64 y, s.val] w fun e w' => e = .returned Lr[y].1 ∧ Below w.heap.size w w' := by
  have hBz := Below.alloc (Below.refl w.heap.size w) (Nat.le_refl _) (.cells #[.int .i64 s.fg, .int .i64 s.bg, .int .i64 s.attr] 33)
  have HB := Lib.hid hBz
  have H := Lib.hid (h0.mod (.of_below hBz) id id id (fun _ => id))
  have wf := h0.wf
  have w1 := wf.r2
  have w2 := wf.c2
  have hlen := (rows_len h0).1
  clear h0 wf
  obtain ⟨c0, c1, c2, c3⟩ := gm_cells H.out
  have hl := ownC_ln Tryd.underlying68 H.out.rr.own
  have d0 : decide ((y : Int) < 0) = false := decide_eq_false (by omega)
  have d1 : decide ((Lr.length : Int) ≤ (y : Int)) = false := decide_eq_false (by omega)
  have d1' : decide (Lr.length ≤ y) = false := decide_eq_false (by omega)
  have d2 : decide ((x : Int) < 0) = false := decide_eq_false (by omega)
  have d3 : decide ((g.cols : Int) ≤ (x : Int)) = false := decide_eq_false (by omega)
  have d3' : decide (g.cols ≤ x) = false := decide_eq_false (by omega)
  clear hlen
  have HR := Lib.hid hs
  clear hs hBz
  unfold Sty.val
  go_enter Tryd.func41, Tryd.ntmps41
  go_wp2_with fail
  refine (HR.out _).mono ?_
  rintro e w3 ⟨rfl, b3⟩
  rw [hok]
  have HB3 := Lib.hid (HB.out.trans (b3.mono (by simp)))
  have H3 := H.out.mod (.of_below b3) id id id (fun _ => id)
  clear b3 c0 c1 c2 c3
  obtain ⟨c0, c1, c2, c3⟩ := gm_cells H3
  obtain ⟨b, off, c, rfl, _, _⟩ := ownC_pos H3.rr.own (by omega)
  obtain ⟨r0, r1⟩ := ownC_row2 H3.rr.own y hy
  have hix := idx_at (P := Tryd.prog) (size := 2) Tryd.underlying68 row_info b off Lr.length c y hy
  have hxs := ownC_sl (H3.ca Lr[y] (List.mem_append_left _ (List.getElem_mem hy))).own
  generalize hxv : Lr[y].1 = xv at *
  obtain ⟨xa, xc, rfl⟩ := hxs
  clear H3
  go_wp2_with fail
  exact ret1v rfl rfl rfl ⟨by rw [hxv]; rfl, HB3.out⟩
/-- A row's cells turned. -/
theorem GAt.turned {T : Nat → Nat} {p : Nat} {vr vo : Value} {Lr Lo : List (Value × Rw)} {w w' : World} {g : Gr} (h : GAt T p vr vo Lr Lo w g) (k : Nat) (hk : k < Lr.length) {b : Nat} (hb : Lr[k].1.ownBlock = some b)
    (m : Mod T (fun t => t = 10 + b) w w') (f : List Cel → List Cel) (ho : OwnC w' 0 5 Lr[k].1 (f Lr[k].2.cells).length (cvals (f Lr[k].2.cells))) (hl : (f Lr[k].2.cells).length = g.cols) (hok : ∀ c ∈ f Lr[k].2.cells, c.Ok) :
    GM T p w' (g.turn k f) := by
  have hlen := (rows_len h).1
  have hr : g.rows.getD k noR = Lr[k].2 := by
    rw [← h.er, List.getD_eq_getElem?_getD, List.getElem?_map, List.getElem?_eq_getElem hk]; rfl
  have hkb : ∀ k', Lr[k].1.ownBlock = some k' → k' = b := fun k' e => by rw [hb] at e; injection e with e; exact e.symm
  have hcb : ∀ x ∈ Lr ++ Lo, x.1.ownBlock = some b → x ∈ Lr ++ Lo := fun x hx _ => hx
  have hset : (Lr.set k (Lr[k].1, { Lr[k].2 with cells := f Lr[k].2.cells })).map (·.1.ownBlock) = Lr.map (·.1.ownBlock) := by
    rw [List.map_set]
    apply List.ext_getElem?
    intro j
    by_cases hj : j = k
    · subst hj
      rw [List.getElem?_set_self (by simpa using hk), List.getElem?_map, List.getElem?_eq_getElem hk]; rfl
    · rw [List.getElem?_set_ne (fun e => hj e.symm)]
  have hrv : rowVals (Lr.set k (Lr[k].1, { Lr[k].2 with cells := f Lr[k].2.cells })) = rowVals Lr := by
    unfold rowVals
    rw [List.flatMap_def, List.flatMap_def, List.map_set]
    congr 1
    apply List.ext_getElem?
    intro j
    by_cases hj : j = k
    · subst hj
      rw [List.getElem?_set_self (by simpa using hk), List.getElem?_map, List.getElem?_eq_getElem hk]; rfl
    · rw [List.getElem?_set_ne (fun e => hj e.symm)]
  refine ⟨vr, vo, Lr.set k (Lr[k].1, { Lr[k].2 with cells := f Lr[k].2.cells }), Lo, ⟨fun k' hk' => Nat.lt_of_lt_of_le (h.lt k' hk') m.size, ?_, h.tp, ?_, h.ro.mod m (by omega), ?_, h.eo, fun x hx => ?_, ?_, ?_⟩⟩
  · exact (m.block p (heap_lt h.blk) (by rw [h.tp]; omega)).trans h.blk
  · rw [List.length_set, hrv]
    exact h.rr.mod m (by omega)
  · rw [List.map_set, h.er]
    unfold Gr.turn
    rw [hr]
  · rcases List.mem_append.1 hx with hx | hx
    · obtain ⟨j, hj⟩ := List.mem_iff_getElem?.1 hx
      by_cases hjk : j = k
      · subst hjk
        rw [List.getElem?_set_self hk] at hj
        injection hj with hj
        subst hj
        exact ⟨ho, (h.ca _ (List.mem_append_left _ (List.getElem_mem hk))).tag⟩
      · rw [List.getElem?_set_ne (fun e => hjk e.symm)] at hj
        have hjl : j < Lr.length := (List.getElem?_eq_some_iff.1 hj).1
        have hje : Lr[j] = x := (List.getElem?_eq_some_iff.1 hj).2
        have hxm : x ∈ Lr ++ Lo := List.mem_append_left _ (List.mem_of_getElem? hj)
        refine (h.ca x hxm).mod m (fun q hq e => ?_)
        have e' : q = b := by omega
        subst e'
        have hnd := h.nd
        rw [List.map_append, List.nodup_append] at hnd
        have hn1 := hnd.1
        have hh := List.pairwise_iff_getElem.1 hn1
        have g1 : ∀ i (hi : i < Lr.length), (Lr.map (·.1.ownBlock))[i]'(by simpa using hi) = Lr[i].1.ownBlock := fun i hi => by rw [List.getElem_map]
        rcases Nat.lt_trichotomy j k with hlt | heq | hgt
        · refine hh j k (by simpa using hjl) (by simpa using hk) hlt ?_
          rw [g1 j hjl, g1 k hk, hje, hq, hb]
        · exact hjk heq
        · refine hh k j (by simpa using hk) (by simpa using hjl) hgt ?_
          rw [g1 j hjl, g1 k hk, hje, hq, hb]
    · have hxm : x ∈ Lr ++ Lo := List.mem_append_right _ hx
      refine (h.ca x hxm).mod m (fun q hq e => ?_)
      have e' : q = b := by omega
      subst e'
      have hnd := h.nd
      rw [List.map_append, List.nodup_append] at hnd
      exact hnd.2.2 _ (List.mem_map_of_mem (List.getElem_mem hk)) _ (List.mem_map_of_mem hx) (by rw [hb, hq])
  · rw [List.map_append, hset, ← List.map_append]; exact h.nd
  · have wf := h.wf
    refine ⟨wf.c1, wf.c2, ?_, ?_, wf.li, wf.ol, fun r hr' => ?_⟩
    · show 1 ≤ (g.rows.set k _).length
      rw [List.length_set]; exact wf.r1
    · show (g.rows.set k _).length ≤ 120
      rw [List.length_set]; exact wf.r2
    · have hr2 : r ∈ g.rows.set k { g.rows.getD k noR with cells := f (g.rows.getD k noR).cells } ++ g.old := hr'
      rcases List.mem_append.1 hr2 with hm | hm
      · rcases List.mem_or_eq_of_mem_set hm with hm | rfl
        · exact wf.ce r (List.mem_append_left _ hm)
        · rw [hr]
          exact ⟨hl, hok⟩
      · exact wf.ce r (List.mem_append_right _ hm)
end Go.Proofs.YtjclgoiclbkgjaaDoor
