/- Package grid, texts laid together: G16 G17. -/
import Derived.Test.YtjclgoiclbkgjaaDoorK7
import Derived.Test.YtjclgoiclbkgjaaDoorK8
import Derived.Deep.DrawnRows
import Derived.Laws.StructEq
/- Walks of package grid: Clone. -/
namespace Go.Proofs.YtjclgoiclbkgjaaDoor
open Go.RowKit
attribute [local go_sem ↓] Go.wp_at_zero Go.wp_at_succ

theorem RowsAt.snoc {B : Nat} {w w2 w3 : World} {v v' xv : Value} {xr : Rw} {L : List (Value × Rw)} {q : Nat} (h : RowsAt B w v L) (b : Below w.heap.size w w2) (hxo : OwnC w2 w.heap.size 5 xv xr.cells.length (cvals xr.cells)) (hxb : xv.ownBlock = some q)
    (o3 : OwnC w3 B 2 v' (L.length + 1) (rowVals L ++ [xv, .bool xr.wrap])) (g : w2.grownBy w3 v.ownBlock) (hn : ∀ k, v'.ownBlock = some k → v.ownBlock = some k ∨ w2.heap.size ≤ k) (hB : B ≤ w.heap.size) : RowsAt B w3 v' (L ++ [(xv, xr)]) := by
  have hq := ownC_lt hxo q hxb
  have hbs := b.size
  refine ⟨?_, fun x hx => ?_, ?_, fun x hx => ?_⟩
  · rw [List.length_append, rowVals_append]; exact o3
  · rcases List.mem_append.1 hx with hx | hx
    · refine ownC_grown (ownC_below (h.cells x hx) b) g (fun k hk e => ?_)
      obtain ⟨q', e1, e2⟩ := h.ap x hx
      rw [e1] at hk
      injection hk with hk
      exact e2 (by rw [e, hk])
    · rw [List.mem_singleton] at hx
      subst hx
      refine ownC_mono (ownC_grown hxo g (fun k hk e => ?_)) hB
      have := (ownC_lt h.own k e).2
      dsimp only at hk
      rw [hxb] at hk
      injection hk with hk
      omega
  · rw [List.map_append, List.nodup_append]
    refine ⟨h.nd, by simp, fun a ha c hc e => ?_⟩
    obtain ⟨x, hx, rfl⟩ := List.mem_map.1 ha
    simp only [List.map_cons, List.map_nil, List.mem_singleton] at hc
    subst hc
    have := (ownC_lt (h.cells x hx) q (by rw [e, hxb])).2
    omega
  · rcases List.mem_append.1 hx with hx | hx
    · obtain ⟨q', e1, e2⟩ := h.ap x hx
      refine ⟨q', e1, fun e => ?_⟩
      have hlt := (ownC_lt (h.cells x hx) q' e1).2
      rcases hn q' e with h' | h'
      · exact e2 h'
      · omega
    · rw [List.mem_singleton] at hx
      subst hx
      refine ⟨q, hxb, fun e => ?_⟩
      rcases hn q e with h' | h'
      · have := (ownC_lt h.own q h').2
        omega
      · omega
theorem RowsAt.nil (B : Nat) (w : World) : RowsAt B w (.slice none 0 0) [] := ⟨ownC_nil _ _ _, fun x hx => by simp at hx, by simp, fun x hx => by simp at hx⟩
theorem RowsAt.below {B : Nat} {w w' : World} {v : Value} {L : List (Value × Rw)} (h : RowsAt B w v L) (b : Below w.heap.size w w') : RowsAt B w' v L :=
  ⟨ownC_below h.own b, fun x hx => ownC_below (h.cells x hx) b, h.nd, h.ap⟩
theorem RowsAt.grown {B : Nat} {w w' : World} {v : Value} {L : List (Value × Rw)} {row : Option Nat} (h : RowsAt B w v L) (g : w.grownBy w' row) (hr : ∀ k, row = some k → k < B) : RowsAt B w' v L :=
  ⟨ownC_grown h.own g (fun k hk e => by have := (ownC_lt h.own k hk).1; have := hr k e; omega), fun x hx => ownC_grown (h.cells x hx) g (fun k hk e => by have := (ownC_lt (h.cells x hx) k hk).1; have := hr k e; omega), h.nd, h.ap⟩
theorem reads_row (w : World) (v : Value) (b : Bool) (T : TypeId) : Reads (w.alloc (.cells #[v, .bool b] T)) 2 (.slice (some ⟨w.heap.size, 0, none⟩) 1 1) 1 [v, .bool b] := by
  refine .inr ⟨⟨w.heap.size, 0, none⟩, 1, rfl, rfl, fun j u hu => ?_⟩
  rw [add_eq, Nat.zero_add, World.cell?_alloc_new]
  simpa using hu
theorem row_one (a : Option Addr) (n c : Nat) (b : Bool) : ∀ u ∈ [Value.slice a n c, Value.bool b], u.oneCell' = true := by
  intro u hu
  simp only [List.mem_cons, List.not_mem_nil, or_false] at hu
  rcases hu with rfl | rfl <;> rfl
set_option maxRecDepth 100000 in
set_option maxHeartbeats 4000000 in
theorem clone_any {T : Nat → Nat} {p : Nat} {w : World} {g : Gr} (h : GM T p w g) :
    Calls Tryd.prog 22 #[.pointer (some ⟨p, 0, none⟩)] w fun e w' => ∃ p' T', e = .returned (.pointer (some ⟨p', 0, none⟩)) ∧ Below w.heap.size w w' ∧ GM T' p' w' g ∧ ∀ k, T' k ≠ 0 → w.heap.size ≤ k := by
  obtain ⟨vr, vo, Lr, Lo, h0⟩ := h
  obtain ⟨c0, c1, c2, c3⟩ := gm_cells h0
  have HG := Lib.hid h0
  have wf := h0.wf
  have hlr := (rows_len h0).1
  have hlo := (rows_len h0).2
  have w1 := wf.r2
  have w2 := wf.ol
  have w3 := wf.li
  have w4 := wf.c2
  have w5 := wf.c1
  have hrr := h0.rr.own
  have hro := h0.ro.own
  have hpl := heap_lt h0.blk
  have hn1 : Lr.length ≤ 2000 := by omega
  have hn2 : Lo.length ≤ 2000 := by omega
  have HCE := Lib.hid (show ∀ x ∈ Lr ++ Lo, x.2.cells.length = g.cols from fun x hx => by
    refine (wf.ce x.2 ?_).1
    rcases List.mem_append.1 hx with hx | hx
    · exact List.mem_append_left _ (by rw [← h0.er]; exact List.mem_map_of_mem hx)
    · exact List.mem_append_right _ (by rw [← h0.eo]; exact List.mem_map_of_mem hx))
  clear h0 hlr hlo wf
  obtain ⟨ra, rc, rfl⟩ := ownC_sl hrr
  obtain ⟨oa, oc, rfl⟩ := ownC_sl hro
  have hl1 := ownC_ln Tryd.underlying68 hrr
  have hl2 := ownC_ln Tryd.underlying68 hro
  clear hrr hro
  have HNB := Lib.hid (blk_new w (.cells #[.int .i64 g.cols, .int .i64 g.limit, .slice none 0 0, .slice none 0 0] 70))
  have HBW := Lib.hid (Below.alloc (Below.refl w.heap.size w) (Nat.le_refl _) (.cells #[.int .i64 g.cols, .int .i64 g.limit, .slice none 0 0, .slice none 0 0] 70))
  go_enter Tryd.func22, Tryd.ntmps22
  go_upto_region 1 with fail
  go_still_tail 9, (by kernel_rfl)
  change wpList _ _ _ _ _ w.drew
  go_upto_region 3 with fail
  have HNB0 := Lib.hid (show ((w.alloc (.cells #[.int .i64 g.cols, .int .i64 g.limit, .slice none 0 0, .slice none 0 0] 70)).drew).heap[w.heap.size]? = some (.cells #[.int .i64 g.cols, .int .i64 g.limit, .slice none 0 0, .slice none 0 0] 70) from blk_new w _)
  have HBW0 := Lib.hid (show Below w.heap.size w ((w.alloc (.cells #[.int .i64 g.cols, .int .i64 g.limit, .slice none 0 0, .slice none 0 0] 70)).drew) from HBW.out.drew)
  have hsz0 : ((w.alloc (.cells #[.int .i64 g.cols, .int .i64 g.limit, .slice none 0 0, .slice none 0 0] 70)).drew).heap.size = w.heap.size + 1 := by show (w.alloc _).heap.size = _; simp
  generalize (w.alloc (.cells #[.int .i64 g.cols, .int .i64 g.limit, .slice none 0 0, .slice none 0 0] 70)).drew = W0 at *
  clear HNB HBW
  have HG0 := Lib.hid (HG.out.mod (.of_below HBW0.out) id id id (fun _ => id))
  go_loopw [5, 23] (fun _ iv wr => ∃ (k : Nat) (L : List (Value × Rw)) (v : Value), k ≤ Lr.length ∧ iv = .int .i64 k ∧ Hid (L.length = k) ∧ Hid (W0.grownBy wr (some w.heap.size)) ∧ Hid (RowsAt W0.heap.size wr v L) ∧ Hid (wr.heap[w.heap.size]? = some (.cells #[.int .i64 g.cols, .int .i64 g.limit, v, .slice none 0 0] 70 (0, 0))) ∧ Hid (L.map (·.2) = (Lr.map (·.2)).take k)) (fun _ iv _ => Lr.length - (intOf iv).toNat)
  case atStart =>
    exact ⟨0, [], .slice none 0 0, Nat.zero_le _, rfl, rfl, gb_refl _ _, RowsAt.nil _ _, HNB0.out, by simp [Hid]⟩
  case round =>
    obtain ⟨k, L, v, hk, rfl, HL, HGB, HRA, HBK, HMP⟩ := hrel
    by_cases hlt : k < Lr.length
    · have d1 : decide ((k : Int) < (Lr.length : Int)) = true := decide_eq_true (by omega)
      have d1' : decide (k < Lr.length) = true := decide_eq_true hlt
      have hszr := HGB.out.size
      have HGr := Lib.hid (HG0.out.rr.own)
      have HSO := Lib.hid (ownC_grown HGr.out HGB.out (fun q hq e => by have := (ownC_lt HG.out.rr.own q hq).2; injection e with e; omega))
      have HCO := Lib.hid (ownC_grown (HG0.out.ca Lr[k] (List.mem_append_left _ (List.getElem_mem hlt))).own HGB.out (fun q hq e => by have := (ownC_lt (HG.out.ca Lr[k] (List.mem_append_left _ (List.getElem_mem hlt))).own q hq).2; injection e with e; omega))
      obtain ⟨qx, hqx1, hqx2⟩ := (HG0.out.ca Lr[k] (List.mem_append_left _ (List.getElem_mem hlt))).tag
      have hcl : Lr[k].2.cells.length = g.cols := HCE.out _ (List.mem_append_left _ (List.getElem_mem hlt))
      have htk : (Lr.map (·.2)).take (k + 1) = (Lr.map (·.2)).take k ++ [Lr[k].2] := by
        rw [List.take_add_one, List.getElem?_map, List.getElem?_eq_getElem hlt]; rfl
      obtain ⟨sb, soff, sc, hsv, hsn, hsm⟩ := ownC_pos HSO.out (by omega)
      simp only [Value.slice.injEq] at hsv
      obtain ⟨rfl, _, rfl⟩ := hsv
      obtain ⟨r0, r1⟩ := ownC_row2 HSO.out k hlt
      have hix := idx_at (P := Tryd.prog) (size := 2) Tryd.underlying68 row_info sb soff Lr.length rc k hlt
      have HTK := Lib.hid htk
      clear htk
      generalize Lr[k] = x at *
      obtain ⟨xv, xr⟩ := x
      dsimp only at r0 r1 hcl hqx1 HCO HTK
      obtain ⟨xa, xc, rfl⟩ := ownC_sl HCO.out
      rw [hcl] at r0 hqx1
      have hql : w.heap.size < wr.heap.size := heap_lt HBK.out
      have HBA := Lib.hid (Below.alloc (Below.refl wr.heap.size wr) (Nat.le_refl _) (.cells #[.slice none 0 0, .bool false] 76))
      have HZ := Lib.hid (blk_new wr (.cells #[.slice none 0 0, .bool false] 76))
      have q0 := World.cell?_alloc_new wr #[.slice none 0 0, .bool false] 76 0
      have q1 := World.cell?_alloc_new wr #[.slice none 0 0, .bool false] 76 1
      have hst := run_storeVar_row (P := Tryd.prog) (wr.alloc (.cells #[.slice none 0 0, .bool false] 76)) wr.heap.size 76 76 _ #[.slice xa g.cols xc, .bool xr.wrap] HZ.out row_info rfl (by simp [Value.oneCell'])
      have hr2 := setRow_blk (cells := #[.slice xa g.cols xc, .bool xr.wrap]) HZ.out
      have hB3 := below_row HBA.out (g := wr.heap.size) (Nat.le_refl _) #[.slice xa g.cols xc, .bool xr.wrap]
      go_upto_region 5 with (refine wpList_storeR rfl _ _ _ rfl hst rfl rfl ?_)
      try simp only [Act.put]
      have HR2 := Lib.hid hr2
      have HB3 := Lib.hid hB3
      clear hr2 hB3 hst r0 r1 hix q0 q1
      generalize (wr.alloc (.cells #[.slice none 0 0, .bool false] 76)).setRow wr.heap.size #[.slice xa g.cols xc, .bool xr.wrap] = w3 at *
      obtain ⟨va, vc, rfl⟩ := ownC_sl HRA.out.own
      have hs3 := HB3.out.size
      have hrl3 : wr.heap.size < w3.heap.size := heap_lt HR2.out
      have HCO3 := Lib.hid (show OwnC w3.drew 0 5 (.slice xa g.cols xc) xr.cells.length (cvals xr.cells) by
        rw [← hcl]
        exact ownC_below HCO.out (show Below wr.heap.size wr w3.drew from HB3.out.drew))
      have HOW3 := Lib.hid (show OwnC w3.drew W0.heap.size 2 (.slice va L.length vc) L.length (rowVals L) from ownC_below HRA.out.own (show Below wr.heap.size wr w3.drew from HB3.out.drew))
      have HBK3 := Lib.hid (show w3.drew.heap[w.heap.size]? = some (.cells #[.int .i64 g.cols, .int .i64 g.limit, .slice va L.length vc, .slice none 0 0] 70 (0, 0)) from blk_below HBK.out HB3.out.drew hql)
      have HR3 := Lib.hid (show w3.drew.heap[wr.heap.size]? = some (.cells #[.slice xa g.cols xc, .bool xr.wrap] 76 (0, 0)) from HR2.out)
      have s0 : w3.cell? ⟨wr.heap.size, 0, none⟩ = some (.slice xa g.cols xc) := blk_cell HR2.out 0
      have s1 : w3.cell? ⟨wr.heap.size, 1, none⟩ = some (.bool xr.wrap) := blk_cell HR2.out 1
      have s2 : w3.drew.cell? ⟨w.heap.size, 2, none⟩ = some (.slice va L.length vc) := blk_cell HBK3.out 2
      have hne : w.heap.size ≠ wr.heap.size := by omega
      have hs3d : w3.drew.heap.size = w3.heap.size := rfl
      have HLc := Lib.hid hcl
      have hc5 : xr.cells.length ≤ 100000 := by omega
      have hLl : L.length ≤ 2000 := by have := HL.out; omega
      have hW0s : W0.heap.size ≤ wr.heap.size := hszr
      clear hcl d1 d1'
      refine wpL_begin (c := 15) (S := (fun bb w' => (w'.cell? ⟨wr.heap.size, 0, none⟩ = some (.slice xa g.cols xc) ∧ w'.cell? ⟨wr.heap.size, 1, none⟩ = some (.bool xr.wrap)) ∧ (bb = false → w'.cell? ⟨w.heap.size, 2, none⟩ = some (.slice va L.length vc)))) (by kernel_rfl) (⟨⟨s0, s1⟩, fun _ => s2⟩) (fun _ => ?_)
      refine wpL_take (i := 0) (oi := ?o101) (v := ?v101) ?h101 (by kernel_rfl) (by kernel_rfl) (by kernel_rfl) (by rfl) ?q101 (by rfl) (b := false) (⟨⟨s0, s1⟩, fun _ => s2⟩) (Or.inl ⟨?w101, ?y101⟩) ?r101
      case h101 => (simp only [List.getElem?_toArray, List.getElem?_cons_zero]; rfl)
      case q101 => exact fun _ _ _ h => h
      case w101 => rfl
      case y101 =>
        intro wS hSw
        obtain ⟨hSb, hSw, hSx⟩ := hSw
        clear hSx
        go_simp
        (try (with_reducible rfl))
      try simp only [Act.put, List.setIfInBounds_toArray, List.set_cons_zero, List.set_cons_succ]
      refine wpL_take (i := 1) (oi := ?o102) (v := ?v102) ?h102 (by kernel_rfl) (by kernel_rfl) (by kernel_rfl) (by rfl) ?q102 (by rfl) (b := false) (⟨⟨s0, s1⟩, fun _ => s2⟩) (Or.inl ⟨?w102, ?y102⟩) ?r102
      case h102 => (simp only [List.getElem?_toArray, List.getElem?_cons_succ, List.getElem?_cons_zero]; rfl)
      case q102 => exact fun _ _ _ h => h
      case w102 => rfl
      case y102 =>
        intro wS hSw
        obtain ⟨hSb, hSw, hSx⟩ := hSw
        clear hSx
        go_simp
        (try (with_reducible rfl))
      try simp only [Act.put, List.setIfInBounds_toArray, List.set_cons_zero, List.set_cons_succ]
      refine wpL_take (i := 2) (oi := ?o103) (v := ?v103) ?h103 (by kernel_rfl) (by kernel_rfl) (by kernel_rfl) (by rfl) ?q103 (by rfl) (b := false) (⟨⟨s0, s1⟩, fun _ => s2⟩) (Or.inl ⟨?w103, ?y103⟩) ?r103
      case h103 => (simp only [List.getElem?_toArray, List.getElem?_cons_succ, List.getElem?_cons_zero]; rfl)
      case q103 => exact fun _ _ _ h => h
      case w103 => rfl
      case y103 =>
        intro wS hSw
        obtain ⟨hSb, hSw, hSx⟩ := hSw
        clear hSx
        go_simp
        (try (with_reducible rfl))
      try simp only [Act.put, List.setIfInBounds_toArray, List.set_cons_zero, List.set_cons_succ]
      refine wpL_take (i := 3) (oi := ?o104) (v := ?v104) ?h104 (by kernel_rfl) (by kernel_rfl) (by kernel_rfl) (by rfl) ?q104 (by rfl) (b := false) (⟨⟨s0, s1⟩, fun _ => s2⟩) (Or.inl ⟨?w104, ?y104⟩) ?r104
      case h104 => (simp only [List.getElem?_toArray, List.getElem?_cons_succ, List.getElem?_cons_zero]; rfl)
      case q104 => exact fun _ _ _ h => h
      case w104 => rfl
      case y104 =>
        intro wS hSw
        obtain ⟨hSb, hSw, hSx⟩ := hSw
        clear hSx
        go_simp
        (try (with_reducible rfl))
      try simp only [Act.put, List.setIfInBounds_toArray, List.set_cons_zero, List.set_cons_succ]
      refine wpL_takeD (i := 4) (oi := ?o105) (oc := ?c105) (v := ?v105) ?h105 ?g105 ?d105 (by kernel_rfl) (by kernel_rfl) (by kernel_rfl) (by rfl) ?q105 (by rfl) (⟨⟨s0, s1⟩, fun _ => s2⟩) (Or.inl ⟨?w105, ?y105⟩) ?r105
      case h105 => (simp only [List.getElem?_toArray, List.getElem?_cons_succ, List.getElem?_cons_zero]; rfl)
      case g105 => (simp only [List.getElem?_toArray, List.getElem?_cons_succ, List.getElem?_cons_zero]; rfl)
      case d105 => kernel_rfl
      case q105 => exact fun _ _ _ h => h
      case w105 => rfl
      case y105 =>
        intro wS hSw
        obtain ⟨hSw, hSx⟩ := hSw
        have hSx := hSx rfl
        go_simp
        (try (with_reducible rfl))
      try simp only [Act.put, List.setIfInBounds_toArray, List.set_cons_zero, List.set_cons_succ]
      refine wpL_take (i := 5) (oi := ?o106) (v := ?v106) ?h106 (by kernel_rfl) (by kernel_rfl) (by kernel_rfl) (by rfl) ?q106 (by rfl) (b := false) (⟨⟨s0, s1⟩, fun _ => s2⟩) (Or.inl ⟨?w106, ?y106⟩) ?r106
      case h106 => (simp only [List.getElem?_toArray, List.getElem?_cons_succ, List.getElem?_cons_zero]; rfl)
      case q106 => exact fun _ _ _ h => h
      case w106 => rfl
      case y106 =>
        intro wS hSw
        obtain ⟨hSb, hSw, hSx⟩ := hSw
        clear hSx
        go_simp
        (try (with_reducible rfl))
      try simp only [Act.put, List.setIfInBounds_toArray, List.set_cons_zero, List.set_cons_succ]
      refine wpL_take (i := 6) (oi := ?o107) (v := ?v107) ?h107 (by kernel_rfl) (by kernel_rfl) (by kernel_rfl) (by rfl) ?q107 (by rfl) (b := false) (⟨⟨s0, s1⟩, fun _ => s2⟩) (Or.inl ⟨?w107, ?y107⟩) ?r107
      case h107 => (simp only [List.getElem?_toArray, List.getElem?_cons_succ, List.getElem?_cons_zero]; rfl)
      case q107 => exact fun _ _ _ h => h
      case w107 => rfl
      case y107 =>
        intro wS hSw
        obtain ⟨hSb, hSw, hSx⟩ := hSw
        clear hSx
        go_simp
        (try (with_reducible rfl))
      try simp only [Act.put, List.setIfInBounds_toArray, List.set_cons_zero, List.set_cons_succ]
      refine wpL_take (i := 8) (oi := ?o108) (v := ?v108) ?h108 (by kernel_rfl) (by kernel_rfl) (by kernel_rfl) (by rfl) ?q108 (by rfl) (b := false) (⟨⟨s0, s1⟩, fun _ => s2⟩) (Or.inl ⟨?w108, ?y108⟩) ?r108
      case h108 => (simp only [List.getElem?_toArray, List.getElem?_cons_succ, List.getElem?_cons_zero]; rfl)
      case q108 => exact fun _ _ _ h => h
      case w108 => rfl
      case y108 =>
        intro wS hSw
        obtain ⟨hSb, hSw, hSx⟩ := hSw
        clear hSx
        go_simp
        (try (with_reducible rfl))
      try simp only [Act.put, List.setIfInBounds_toArray, List.set_cons_zero, List.set_cons_succ]
      refine wpL_take (i := 9) (oi := ?o109) (v := ?v109) ?h109 (by kernel_rfl) (by kernel_rfl) (by kernel_rfl) (by rfl) ?q109 (by rfl) (b := false) (⟨⟨s0, s1⟩, fun _ => s2⟩) (Or.inl ⟨?w109, ?y109⟩) ?r109
      case h109 => (simp only [List.getElem?_toArray, List.getElem?_cons_succ, List.getElem?_cons_zero]; rfl)
      case q109 => exact fun _ _ _ h => h
      case w109 => rfl
      case y109 =>
        intro wS hSw
        obtain ⟨hSb, hSw, hSx⟩ := hSw
        clear hSx
        go_simp
        (try (with_reducible rfl))
      try simp only [Act.put, List.setIfInBounds_toArray, List.set_cons_zero, List.set_cons_succ]
      refine wpL_one (i := 7) (o := ?o110) (b := false) (by kernel_rfl) ?h110 (by rfl) ?k110
      case h110 => (simp only [List.getElem?_toArray, List.getElem?_cons_succ, List.getElem?_cons_zero]; rfl)
      intro K hK
      refine wanted_on rfl ?_
      go_wp2_with fail
      refine (cloneC_any xr.cells (.slice xa g.cols xc) w3.drew HCO3.out hc5).mono ?_
      rintro e w6 ⟨v6, rfl, b6, o6⟩
      have hbk6 := blk_below HBK3.out b6 (show w.heap.size < w3.heap.size by omega)
      have hrk6 := blk_below HR3.out b6 (show wr.heap.size < w3.heap.size by omega)
      obtain ⟨va6, vc6, rfl⟩ := ownC_sl o6
      have z0 : w6.cell? ⟨wr.heap.size, 0, none⟩ = some (.slice xa g.cols xc) := blk_cell hrk6 0
      have z1 : w6.cell? ⟨wr.heap.size, 1, none⟩ = some (.bool xr.wrap) := blk_cell hrk6 1
      have z2 : w6.cell? ⟨w.heap.size, 2, none⟩ = some (.slice va L.length vc) := blk_cell hbk6 2
      have z3 : ∀ o, (w6.alloc o).cell? ⟨w.heap.size, 2, none⟩ = some (.slice va L.length vc) := fun o => blk_cell (blk_alloc hbk6 o) 2
      have HB6 := Lib.hid b6
      have HO6 := Lib.hid o6
      have HBK6 := Lib.hid hbk6
      have HRK6 := Lib.hid hrk6
      refine hK.out _ _ (⟨⟨z0, z1⟩, fun _ => z2⟩) (fun _ => ?_)
      clear hK K b6 o6 hbk6 hrk6
      try simp only [Act.put, List.setIfInBounds_toArray, List.set_cons_zero, List.set_cons_succ]
      refine wpL_take (i := 10) (oi := ?o111) (v := ?v111) ?h111 (by kernel_rfl) (by kernel_rfl) (by kernel_rfl) (by rfl) ?q111 (by rfl) (b := false) (⟨⟨z0, z1⟩, fun _ => z2⟩) (Or.inl ⟨?w111, ?y111⟩) ?r111
      case h111 => (simp only [List.getElem?_toArray, List.getElem?_cons_succ, List.getElem?_cons_zero]; rfl)
      case q111 => exact fun _ _ _ h => h
      case w111 => rfl
      case y111 =>
        intro wS hSw
        obtain ⟨hSb, hSw, hSx⟩ := hSw
        clear hSx
        go_simp
        (try (with_reducible rfl))
      try simp only [Act.put, List.setIfInBounds_toArray, List.set_cons_zero, List.set_cons_succ]
      refine wpL_one (i := 11) (o := ?o112) (b := false) (by kernel_rfl) ?h112 (by rfl) ?k112
      case h112 => (simp only [List.getElem?_toArray, List.getElem?_cons_succ, List.getElem?_cons_zero]; rfl)
      intro K hK
      refine wanted_on rfl ?_
      go_wp2_with fail
      refine hK.out _ _ (⟨⟨blk_cell (blk_alloc HRK6.out _) 0, blk_cell (blk_alloc HRK6.out _) 1⟩, fun _ => z3 _⟩) (fun _ => ?_)
      clear hK K 
      try simp only [Act.put, List.setIfInBounds_toArray, List.set_cons_zero, List.set_cons_succ]
      refine wpL_one (i := 12) (o := ?o113) (b := false) (by kernel_rfl) ?h113 (by rfl) ?k113
      case h113 => (simp only [List.getElem?_toArray, List.getElem?_cons_succ, List.getElem?_cons_zero]; rfl)
      intro K hK
      apply step_appS rows_elem
      case hgd => rfl
      case ho => rfl
      case hown => exact ownC_alloc (ownC_below HOW3.out HB6.out) _
      case hs => rfl
      case hr => exact src_reads Tryd.underlying68 (reads_row _ _ _ _) (row_one _ _ _ _)
      case hx => rfl
      case h63 => unfold maxLen; omega
      case hbytes => omega
      case hbase => (have := HB6.out.size; simp; (try (show _ ≤ w3.heap.size + 1; omega)); omega)
      intro v7 w7 o7 g7 n7
      have hbk7 := blk_grown (blk_alloc HBK6.out _) g7 (fun e => by have := (ownC_lt HRA.out.own w.heap.size e.symm).1; omega)
      have hrk7 := blk_grown (blk_alloc HRK6.out _) g7 (fun e => by have := (ownC_lt HRA.out.own wr.heap.size e.symm).2; omega)
      have y0 : w7.cell? ⟨wr.heap.size, 0, none⟩ = some (.slice xa g.cols xc) := blk_cell hrk7 0
      have y1 : w7.cell? ⟨wr.heap.size, 1, none⟩ = some (.bool xr.wrap) := blk_cell hrk7 1
      have y2 : w7.cell? ⟨w.heap.size, 2, none⟩ = some (.slice va L.length vc) := blk_cell hbk7 2
      have y3 : w7.frozen? ⟨w.heap.size, 2, none⟩ = false := blk_free hbk7 2
      obtain ⟨va7, vc7, rfl⟩ := ownC_sl o7
      have HBK7 := Lib.hid hbk7
      have HO7 := Lib.hid o7
      have HG7 := Lib.hid g7
      have HN7 := Lib.hid n7
      have HRK7 := Lib.hid hrk7
      refine hK.out _ _ (⟨⟨y0, y1⟩, fun _ => y2⟩) (fun _ => ?_)
      clear hK K hbk7 hrk7 o7 g7 n7
      try simp only [Act.put, List.setIfInBounds_toArray, List.set_cons_zero, List.set_cons_succ]
      refine wpL_take (i := 13) (oi := ?o114) (v := ?v114) ?h114 (by kernel_rfl) (by kernel_rfl) (by kernel_rfl) (by rfl) ?q114 (by rfl) (b := false) (⟨⟨y0, y1⟩, fun _ => y2⟩) (Or.inl ⟨?w114, ?y114⟩) ?r114
      case h114 => (simp only [List.getElem?_toArray, List.getElem?_cons_succ, List.getElem?_cons_zero]; rfl)
      case q114 => exact fun _ _ _ h => h
      case w114 => rfl
      case y114 =>
        intro wS hSw
        obtain ⟨hSb, hSw, hSx⟩ := hSw
        clear hSx
        go_simp
        (try (with_reducible rfl))
      try simp only [Act.put, List.setIfInBounds_toArray, List.set_cons_zero, List.set_cons_succ]
      refine wpL_take (i := 14) (oi := ?o115) (v := ?v115) ?h115 (by kernel_rfl) (by kernel_rfl) (by kernel_rfl) (by rfl) ?q115 (by rfl) (b := false) (⟨⟨y0, y1⟩, fun _ => y2⟩) (Or.inl ⟨?w115, ?y115⟩) ?r115
      case h115 => (simp only [List.getElem?_toArray, List.getElem?_cons_succ, List.getElem?_cons_zero]; rfl)
      case q115 => exact fun _ _ _ h => h
      case w115 => rfl
      case y115 =>
        intro wS hSw
        obtain ⟨hSb, hSw, hSx⟩ := hSw
        clear hSx
        go_simp
        (try (with_reducible rfl))
      try simp only [Act.put, List.setIfInBounds_toArray, List.set_cons_zero, List.set_cons_succ]
      refine wpL_one (i := 15) (o := ?o116) (b := true) (by kernel_rfl) ?h116 (by rfl) ?k116
      case h116 => (simp only [List.getElem?_toArray, List.getElem?_cons_succ, List.getElem?_cons_zero]; rfl)
      intro K hK
      refine wanted_on rfl ?_
      go_wp2_with fail
      refine hK.out _ _ (⟨⟨blk_cell (blk_set_other HRK7.out hne.symm _ _) 0, blk_cell (blk_set_other HRK7.out hne.symm _ _) 1⟩, fun e => by cases e⟩) (fun _ => ?_)
      clear hK K 
      try simp only [Act.put, List.setIfInBounds_toArray, List.set_cons_zero, List.set_cons_succ]
      refine wpL_done (by kernel_rfl) ?_ _
      have hs6 := HB6.out.size
      have HB26 := Lib.hid (show Below wr.heap.size wr (w6.alloc (.cells #[.slice va6 xr.cells.length vc6, .bool xr.wrap] 76)) from
        ((HB3.out.drew.trans (HB6.out.mono (by omega))).alloc (by omega) _))
      obtain ⟨qb, hqb⟩ : ∃ q, (Value.slice va6 xr.cells.length vc6).ownBlock = some q := by
        obtain ⟨b, off, c, e, _, _⟩ := ownC_pos HO6.out (by rw [HLc.out]; omega)
        exact ⟨b, by rw [e]; rfl⟩
      have HRA7 := Lib.hid (HRA.out.snoc (xr := xr) HB26.out (ownC_mono (ownC_alloc HO6.out _) (by omega)) hqb HO7.out HG7.out HN7.out hW0s)
      have HGB7 := Lib.hid (show W0.grownBy w7 (some w.heap.size) from gb_trans_new (gb_below HGB.out HB26.out hW0s) HG7.out (fun q hq => (ownC_lt HRA.out.own q hq).1))
      have hqW : w.heap.size < W0.heap.size := heap_lt HNB0.out
      have HRA8 := Lib.hid (HRA7.out.grown (gb_set (gb_refl w7 (some w.heap.size)) 2 (.slice va7 (L.length + 1) vc7)) (fun k' hk' => by injection hk' with hk'; omega))
      have HGB8 := Lib.hid (gb_set HGB7.out 2 (.slice va7 (L.length + 1) vc7))
      have HBK8 := Lib.hid (blk_set HBK7.out 2 (.slice va7 (L.length + 1) vc7))
      clear y0 y1 y2 y3 z0 z1 z2 z3 s0 s1 s2
      generalize w7.setCell ⟨w.heap.size, 2, none⟩ (.slice va7 (L.length + 1) vc7) = w8 at *
      go_wp2_with fail
      go_roundw
      case rel => exact ⟨k + 1, L ++ [(.slice va6 xr.cells.length vc6, xr)], .slice va7 (L.length + 1) vc7, by omega, by go_num, by show _ = _; rw [List.length_append, HL.out]; rfl, HGB8, HRA8, HBK8, by show _ = _; rw [List.map_append, HMP.out, HTK.out]; rfl⟩
      case measure => simp [intOf]; omega
    · have hkn : k = Lr.length := by omega
      subst hkn
      have d1 : decide ((Lr.length : Int) < (Lr.length : Int)) = false := decide_eq_false (by omega)
      have d1' : decide (Lr.length < Lr.length) = false := decide_eq_false (by omega)
      have HL1 := HL
      have HMP1 := HMP
      have HGB1 := HGB
      have HRA1 := HRA
      have HNB1 := HBK
      clear HL HMP HGB HRA HBK
      obtain ⟨na, nc, rfl⟩ := ownC_sl HRA1.out.own
      have hplq : p ≠ w.heap.size := by omega
      have HP1 := Lib.hid (blk_grown HG0.out.blk HGB1.out (by intro e; injection e with e; omega))
      have t3 : wr.cell? ⟨p, 3, none⟩ = some (.slice oa Lo.length oc) := blk_cell HP1.out 3
      have tq : T w.heap.size = 0 := by
        by_cases h0 : T w.heap.size = 0
        · exact h0
        · have := HG.out.lt _ h0; omega
      have HG1 := Lib.hid (HG0.out.mod (Mod.of_gb (t := fun t => t = 0) HGB1.out (fun k hk => by injection hk with hk; rw [← hk]; exact tq)) (by decide) (by decide) (by decide) (fun k => by omega))
      have hsW1 := HGB1.out.size
      generalize L = Ln at *
      generalize wr = W1 at *
      go_upto_region 8 with fail
      go_loopw [7, 48] (fun _ iv wr => ∃ (k : Nat) (L : List (Value × Rw)) (v : Value), k ≤ Lo.length ∧ iv = .int .i64 k ∧ Hid (L.length = k) ∧ Hid (W1.grownBy wr (some w.heap.size)) ∧ Hid (RowsAt W1.heap.size wr v L) ∧ Hid (wr.heap[w.heap.size]? = some (.cells #[.int .i64 g.cols, .int .i64 g.limit, .slice na Ln.length nc, v] 70 (0, 0))) ∧ Hid (L.map (·.2) = (Lo.map (·.2)).take k)) (fun _ iv _ => Lo.length - (intOf iv).toNat)
      case atStart =>
        exact ⟨0, [], .slice none 0 0, Nat.zero_le _, rfl, rfl, gb_refl _ _, RowsAt.nil _ _, HNB1.out, by simp [Hid]⟩
      case round =>
        obtain ⟨k, L, v, hk, rfl, HL, HGB, HRA, HBK, HMP⟩ := hrel
        by_cases hlt : k < Lo.length
        · have d1 : decide ((k : Int) < (Lo.length : Int)) = true := decide_eq_true (by omega)
          have d1' : decide (k < Lo.length) = true := decide_eq_true hlt
          have hszr := HGB.out.size
          have HGr := Lib.hid (HG1.out.ro.own)
          have HSO := Lib.hid (ownC_grown HGr.out HGB.out (fun q hq e => by have := (ownC_lt HG.out.ro.own q hq).2; injection e with e; omega))
          have HCO := Lib.hid (ownC_grown (HG1.out.ca Lo[k] (List.mem_append_right _ (List.getElem_mem hlt))).own HGB.out (fun q hq e => by have := (ownC_lt (HG.out.ca Lo[k] (List.mem_append_right _ (List.getElem_mem hlt))).own q hq).2; injection e with e; omega))
          obtain ⟨qx, hqx1, hqx2⟩ := (HG1.out.ca Lo[k] (List.mem_append_right _ (List.getElem_mem hlt))).tag
          have hcl : Lo[k].2.cells.length = g.cols := HCE.out _ (List.mem_append_right _ (List.getElem_mem hlt))
          have htk : (Lo.map (·.2)).take (k + 1) = (Lo.map (·.2)).take k ++ [Lo[k].2] := by
            rw [List.take_add_one, List.getElem?_map, List.getElem?_eq_getElem hlt]; rfl
          obtain ⟨sb, soff, sc, hsv, hsn, hsm⟩ := ownC_pos HSO.out (by omega)
          simp only [Value.slice.injEq] at hsv
          obtain ⟨rfl, _, rfl⟩ := hsv
          obtain ⟨r0, r1⟩ := ownC_row2 HSO.out k hlt
          have hix := idx_at (P := Tryd.prog) (size := 2) Tryd.underlying68 row_info sb soff Lo.length oc k hlt
          have HTK := Lib.hid htk
          clear htk
          generalize Lo[k] = x at *
          obtain ⟨xv, xr⟩ := x
          dsimp only at r0 r1 hcl hqx1 HCO HTK
          obtain ⟨xa, xc, rfl⟩ := ownC_sl HCO.out
          rw [hcl] at r0 hqx1
          have hql : w.heap.size < wr.heap.size := heap_lt HBK.out
          have HBA := Lib.hid (Below.alloc (Below.refl wr.heap.size wr) (Nat.le_refl _) (.cells #[.slice none 0 0, .bool false] 76))
          have HZ := Lib.hid (blk_new wr (.cells #[.slice none 0 0, .bool false] 76))
          have q0 := World.cell?_alloc_new wr #[.slice none 0 0, .bool false] 76 0
          have q1 := World.cell?_alloc_new wr #[.slice none 0 0, .bool false] 76 1
          have hst := run_storeVar_row (P := Tryd.prog) (wr.alloc (.cells #[.slice none 0 0, .bool false] 76)) wr.heap.size 76 76 _ #[.slice xa g.cols xc, .bool xr.wrap] HZ.out row_info rfl (by simp [Value.oneCell'])
          have hr2 := setRow_blk (cells := #[.slice xa g.cols xc, .bool xr.wrap]) HZ.out
          have hB3 := below_row HBA.out (g := wr.heap.size) (Nat.le_refl _) #[.slice xa g.cols xc, .bool xr.wrap]
          go_upto_region 10 with (refine wpList_storeR rfl _ _ _ rfl hst rfl rfl ?_)
          try simp only [Act.put]
          have HR2 := Lib.hid hr2
          have HB3 := Lib.hid hB3
          clear hr2 hB3 hst r0 r1 hix q0 q1
          generalize (wr.alloc (.cells #[.slice none 0 0, .bool false] 76)).setRow wr.heap.size #[.slice xa g.cols xc, .bool xr.wrap] = w3 at *
          obtain ⟨va, vc, rfl⟩ := ownC_sl HRA.out.own
          have hs3 := HB3.out.size
          have hrl3 : wr.heap.size < w3.heap.size := heap_lt HR2.out
          have HCO3 := Lib.hid (show OwnC w3.drew 0 5 (.slice xa g.cols xc) xr.cells.length (cvals xr.cells) by
            rw [← hcl]
            exact ownC_below HCO.out (show Below wr.heap.size wr w3.drew from HB3.out.drew))
          have HOW3 := Lib.hid (show OwnC w3.drew W1.heap.size 2 (.slice va L.length vc) L.length (rowVals L) from ownC_below HRA.out.own (show Below wr.heap.size wr w3.drew from HB3.out.drew))
          have HBK3 := Lib.hid (show w3.drew.heap[w.heap.size]? = some (.cells #[.int .i64 g.cols, .int .i64 g.limit, .slice na Ln.length nc, .slice va L.length vc] 70 (0, 0)) from blk_below HBK.out HB3.out.drew hql)
          have HR3 := Lib.hid (show w3.drew.heap[wr.heap.size]? = some (.cells #[.slice xa g.cols xc, .bool xr.wrap] 76 (0, 0)) from HR2.out)
          have s0 : w3.cell? ⟨wr.heap.size, 0, none⟩ = some (.slice xa g.cols xc) := blk_cell HR2.out 0
          have s1 : w3.cell? ⟨wr.heap.size, 1, none⟩ = some (.bool xr.wrap) := blk_cell HR2.out 1
          have s2 : w3.drew.cell? ⟨w.heap.size, 3, none⟩ = some (.slice va L.length vc) := blk_cell HBK3.out 3
          have hne : w.heap.size ≠ wr.heap.size := by omega
          have hs3d : w3.drew.heap.size = w3.heap.size := rfl
          have HLc := Lib.hid hcl
          have hc5 : xr.cells.length ≤ 100000 := by omega
          have hLl : L.length ≤ 2000 := by have := HL.out; omega
          have hW0s : W1.heap.size ≤ wr.heap.size := hszr
          clear hcl d1 d1'
          refine wpL_begin (c := 15) (S := (fun bb w' => (w'.cell? ⟨wr.heap.size, 0, none⟩ = some (.slice xa g.cols xc) ∧ w'.cell? ⟨wr.heap.size, 1, none⟩ = some (.bool xr.wrap)) ∧ (bb = false → w'.cell? ⟨w.heap.size, 3, none⟩ = some (.slice va L.length vc)))) (by kernel_rfl) (⟨⟨s0, s1⟩, fun _ => s2⟩) (fun _ => ?_)
          refine wpL_take (i := 0) (oi := ?o117) (v := ?v117) ?h117 (by kernel_rfl) (by kernel_rfl) (by kernel_rfl) (by rfl) ?q117 (by rfl) (b := false) (⟨⟨s0, s1⟩, fun _ => s2⟩) (Or.inl ⟨?w117, ?y117⟩) ?r117
          case h117 => (simp only [List.getElem?_toArray, List.getElem?_cons_zero]; rfl)
          case q117 => exact fun _ _ _ h => h
          case w117 => rfl
          case y117 =>
            intro wS hSw
            obtain ⟨hSb, hSw, hSx⟩ := hSw
            clear hSx
            go_simp
            (try (with_reducible rfl))
          try simp only [Act.put, List.setIfInBounds_toArray, List.set_cons_zero, List.set_cons_succ]
          refine wpL_take (i := 1) (oi := ?o118) (v := ?v118) ?h118 (by kernel_rfl) (by kernel_rfl) (by kernel_rfl) (by rfl) ?q118 (by rfl) (b := false) (⟨⟨s0, s1⟩, fun _ => s2⟩) (Or.inl ⟨?w118, ?y118⟩) ?r118
          case h118 => (simp only [List.getElem?_toArray, List.getElem?_cons_succ, List.getElem?_cons_zero]; rfl)
          case q118 => exact fun _ _ _ h => h
          case w118 => rfl
          case y118 =>
            intro wS hSw
            obtain ⟨hSb, hSw, hSx⟩ := hSw
            clear hSx
            go_simp
            (try (with_reducible rfl))
          try simp only [Act.put, List.setIfInBounds_toArray, List.set_cons_zero, List.set_cons_succ]
          refine wpL_take (i := 2) (oi := ?o119) (v := ?v119) ?h119 (by kernel_rfl) (by kernel_rfl) (by kernel_rfl) (by rfl) ?q119 (by rfl) (b := false) (⟨⟨s0, s1⟩, fun _ => s2⟩) (Or.inl ⟨?w119, ?y119⟩) ?r119
          case h119 => (simp only [List.getElem?_toArray, List.getElem?_cons_succ, List.getElem?_cons_zero]; rfl)
          case q119 => exact fun _ _ _ h => h
          case w119 => rfl
          case y119 =>
            intro wS hSw
            obtain ⟨hSb, hSw, hSx⟩ := hSw
            clear hSx
            go_simp
            (try (with_reducible rfl))
          try simp only [Act.put, List.setIfInBounds_toArray, List.set_cons_zero, List.set_cons_succ]
          refine wpL_take (i := 3) (oi := ?o120) (v := ?v120) ?h120 (by kernel_rfl) (by kernel_rfl) (by kernel_rfl) (by rfl) ?q120 (by rfl) (b := false) (⟨⟨s0, s1⟩, fun _ => s2⟩) (Or.inl ⟨?w120, ?y120⟩) ?r120
          case h120 => (simp only [List.getElem?_toArray, List.getElem?_cons_succ, List.getElem?_cons_zero]; rfl)
          case q120 => exact fun _ _ _ h => h
          case w120 => rfl
          case y120 =>
            intro wS hSw
            obtain ⟨hSb, hSw, hSx⟩ := hSw
            clear hSx
            go_simp
            (try (with_reducible rfl))
          try simp only [Act.put, List.setIfInBounds_toArray, List.set_cons_zero, List.set_cons_succ]
          refine wpL_takeD (i := 4) (oi := ?o121) (oc := ?c121) (v := ?v121) ?h121 ?g121 ?d121 (by kernel_rfl) (by kernel_rfl) (by kernel_rfl) (by rfl) ?q121 (by rfl) (⟨⟨s0, s1⟩, fun _ => s2⟩) (Or.inl ⟨?w121, ?y121⟩) ?r121
          case h121 => (simp only [List.getElem?_toArray, List.getElem?_cons_succ, List.getElem?_cons_zero]; rfl)
          case g121 => (simp only [List.getElem?_toArray, List.getElem?_cons_succ, List.getElem?_cons_zero]; rfl)
          case d121 => kernel_rfl
          case q121 => exact fun _ _ _ h => h
          case w121 => rfl
          case y121 =>
            intro wS hSw
            obtain ⟨hSw, hSx⟩ := hSw
            have hSx := hSx rfl
            go_simp
            (try (with_reducible rfl))
          try simp only [Act.put, List.setIfInBounds_toArray, List.set_cons_zero, List.set_cons_succ]
          refine wpL_take (i := 5) (oi := ?o122) (v := ?v122) ?h122 (by kernel_rfl) (by kernel_rfl) (by kernel_rfl) (by rfl) ?q122 (by rfl) (b := false) (⟨⟨s0, s1⟩, fun _ => s2⟩) (Or.inl ⟨?w122, ?y122⟩) ?r122
          case h122 => (simp only [List.getElem?_toArray, List.getElem?_cons_succ, List.getElem?_cons_zero]; rfl)
          case q122 => exact fun _ _ _ h => h
          case w122 => rfl
          case y122 =>
            intro wS hSw
            obtain ⟨hSb, hSw, hSx⟩ := hSw
            clear hSx
            go_simp
            (try (with_reducible rfl))
          try simp only [Act.put, List.setIfInBounds_toArray, List.set_cons_zero, List.set_cons_succ]
          refine wpL_take (i := 6) (oi := ?o123) (v := ?v123) ?h123 (by kernel_rfl) (by kernel_rfl) (by kernel_rfl) (by rfl) ?q123 (by rfl) (b := false) (⟨⟨s0, s1⟩, fun _ => s2⟩) (Or.inl ⟨?w123, ?y123⟩) ?r123
          case h123 => (simp only [List.getElem?_toArray, List.getElem?_cons_succ, List.getElem?_cons_zero]; rfl)
          case q123 => exact fun _ _ _ h => h
          case w123 => rfl
          case y123 =>
            intro wS hSw
            obtain ⟨hSb, hSw, hSx⟩ := hSw
            clear hSx
            go_simp
            (try (with_reducible rfl))
          try simp only [Act.put, List.setIfInBounds_toArray, List.set_cons_zero, List.set_cons_succ]
          refine wpL_take (i := 8) (oi := ?o124) (v := ?v124) ?h124 (by kernel_rfl) (by kernel_rfl) (by kernel_rfl) (by rfl) ?q124 (by rfl) (b := false) (⟨⟨s0, s1⟩, fun _ => s2⟩) (Or.inl ⟨?w124, ?y124⟩) ?r124
          case h124 => (simp only [List.getElem?_toArray, List.getElem?_cons_succ, List.getElem?_cons_zero]; rfl)
          case q124 => exact fun _ _ _ h => h
          case w124 => rfl
          case y124 =>
            intro wS hSw
            obtain ⟨hSb, hSw, hSx⟩ := hSw
            clear hSx
            go_simp
            (try (with_reducible rfl))
          try simp only [Act.put, List.setIfInBounds_toArray, List.set_cons_zero, List.set_cons_succ]
          refine wpL_take (i := 9) (oi := ?o125) (v := ?v125) ?h125 (by kernel_rfl) (by kernel_rfl) (by kernel_rfl) (by rfl) ?q125 (by rfl) (b := false) (⟨⟨s0, s1⟩, fun _ => s2⟩) (Or.inl ⟨?w125, ?y125⟩) ?r125
          case h125 => (simp only [List.getElem?_toArray, List.getElem?_cons_succ, List.getElem?_cons_zero]; rfl)
          case q125 => exact fun _ _ _ h => h
          case w125 => rfl
          case y125 =>
            intro wS hSw
            obtain ⟨hSb, hSw, hSx⟩ := hSw
            clear hSx
            go_simp
            (try (with_reducible rfl))
          try simp only [Act.put, List.setIfInBounds_toArray, List.set_cons_zero, List.set_cons_succ]
          refine wpL_one (i := 7) (o := ?o126) (b := false) (by kernel_rfl) ?h126 (by rfl) ?k126
          case h126 => (simp only [List.getElem?_toArray, List.getElem?_cons_succ, List.getElem?_cons_zero]; rfl)
          intro K hK
          refine wanted_on rfl ?_
          go_wp2_with fail
          refine (cloneC_any xr.cells (.slice xa g.cols xc) w3.drew HCO3.out hc5).mono ?_
          rintro e w6 ⟨v6, rfl, b6, o6⟩
          have hbk6 := blk_below HBK3.out b6 (show w.heap.size < w3.heap.size by omega)
          have hrk6 := blk_below HR3.out b6 (show wr.heap.size < w3.heap.size by omega)
          obtain ⟨va6, vc6, rfl⟩ := ownC_sl o6
          have z0 : w6.cell? ⟨wr.heap.size, 0, none⟩ = some (.slice xa g.cols xc) := blk_cell hrk6 0
          have z1 : w6.cell? ⟨wr.heap.size, 1, none⟩ = some (.bool xr.wrap) := blk_cell hrk6 1
          have z2 : w6.cell? ⟨w.heap.size, 3, none⟩ = some (.slice va L.length vc) := blk_cell hbk6 3
          have z3 : ∀ o, (w6.alloc o).cell? ⟨w.heap.size, 3, none⟩ = some (.slice va L.length vc) := fun o => blk_cell (blk_alloc hbk6 o) 3
          have HB6 := Lib.hid b6
          have HO6 := Lib.hid o6
          have HBK6 := Lib.hid hbk6
          have HRK6 := Lib.hid hrk6
          refine hK.out _ _ (⟨⟨z0, z1⟩, fun _ => z2⟩) (fun _ => ?_)
          clear hK K b6 o6 hbk6 hrk6
          try simp only [Act.put, List.setIfInBounds_toArray, List.set_cons_zero, List.set_cons_succ]
          refine wpL_take (i := 10) (oi := ?o127) (v := ?v127) ?h127 (by kernel_rfl) (by kernel_rfl) (by kernel_rfl) (by rfl) ?q127 (by rfl) (b := false) (⟨⟨z0, z1⟩, fun _ => z2⟩) (Or.inl ⟨?w127, ?y127⟩) ?r127
          case h127 => (simp only [List.getElem?_toArray, List.getElem?_cons_succ, List.getElem?_cons_zero]; rfl)
          case q127 => exact fun _ _ _ h => h
          case w127 => rfl
          case y127 =>
            intro wS hSw
            obtain ⟨hSb, hSw, hSx⟩ := hSw
            clear hSx
            go_simp
            (try (with_reducible rfl))
          try simp only [Act.put, List.setIfInBounds_toArray, List.set_cons_zero, List.set_cons_succ]
          refine wpL_one (i := 11) (o := ?o128) (b := false) (by kernel_rfl) ?h128 (by rfl) ?k128
          case h128 => (simp only [List.getElem?_toArray, List.getElem?_cons_succ, List.getElem?_cons_zero]; rfl)
          intro K hK
          refine wanted_on rfl ?_
          go_wp2_with fail
          refine hK.out _ _ (⟨⟨blk_cell (blk_alloc HRK6.out _) 0, blk_cell (blk_alloc HRK6.out _) 1⟩, fun _ => z3 _⟩) (fun _ => ?_)
          clear hK K 
          try simp only [Act.put, List.setIfInBounds_toArray, List.set_cons_zero, List.set_cons_succ]
          refine wpL_one (i := 12) (o := ?o129) (b := false) (by kernel_rfl) ?h129 (by rfl) ?k129
          case h129 => (simp only [List.getElem?_toArray, List.getElem?_cons_succ, List.getElem?_cons_zero]; rfl)
          intro K hK
          apply step_appS rows_elem
          case hgd => rfl
          case ho => rfl
          case hown => exact ownC_alloc (ownC_below HOW3.out HB6.out) _
          case hs => rfl
          case hr => exact src_reads Tryd.underlying68 (reads_row _ _ _ _) (row_one _ _ _ _)
          case hx => rfl
          case h63 => unfold maxLen; omega
          case hbytes => omega
          case hbase => (have := HB6.out.size; simp; (try (show _ ≤ w3.heap.size + 1; omega)); omega)
          intro v7 w7 o7 g7 n7
          have hbk7 := blk_grown (blk_alloc HBK6.out _) g7 (fun e => by have := (ownC_lt HRA.out.own w.heap.size e.symm).1; omega)
          have hrk7 := blk_grown (blk_alloc HRK6.out _) g7 (fun e => by have := (ownC_lt HRA.out.own wr.heap.size e.symm).2; omega)
          have y0 : w7.cell? ⟨wr.heap.size, 0, none⟩ = some (.slice xa g.cols xc) := blk_cell hrk7 0
          have y1 : w7.cell? ⟨wr.heap.size, 1, none⟩ = some (.bool xr.wrap) := blk_cell hrk7 1
          have y2 : w7.cell? ⟨w.heap.size, 3, none⟩ = some (.slice va L.length vc) := blk_cell hbk7 3
          have y3 : w7.frozen? ⟨w.heap.size, 3, none⟩ = false := blk_free hbk7 3
          obtain ⟨va7, vc7, rfl⟩ := ownC_sl o7
          have HBK7 := Lib.hid hbk7
          have HO7 := Lib.hid o7
          have HG7 := Lib.hid g7
          have HN7 := Lib.hid n7
          have HRK7 := Lib.hid hrk7
          refine hK.out _ _ (⟨⟨y0, y1⟩, fun _ => y2⟩) (fun _ => ?_)
          clear hK K hbk7 hrk7 o7 g7 n7
          try simp only [Act.put, List.setIfInBounds_toArray, List.set_cons_zero, List.set_cons_succ]
          refine wpL_take (i := 13) (oi := ?o130) (v := ?v130) ?h130 (by kernel_rfl) (by kernel_rfl) (by kernel_rfl) (by rfl) ?q130 (by rfl) (b := false) (⟨⟨y0, y1⟩, fun _ => y2⟩) (Or.inl ⟨?w130, ?y130⟩) ?r130
          case h130 => (simp only [List.getElem?_toArray, List.getElem?_cons_succ, List.getElem?_cons_zero]; rfl)
          case q130 => exact fun _ _ _ h => h
          case w130 => rfl
          case y130 =>
            intro wS hSw
            obtain ⟨hSb, hSw, hSx⟩ := hSw
            clear hSx
            go_simp
            (try (with_reducible rfl))
          try simp only [Act.put, List.setIfInBounds_toArray, List.set_cons_zero, List.set_cons_succ]
          refine wpL_take (i := 14) (oi := ?o131) (v := ?v131) ?h131 (by kernel_rfl) (by kernel_rfl) (by kernel_rfl) (by rfl) ?q131 (by rfl) (b := false) (⟨⟨y0, y1⟩, fun _ => y2⟩) (Or.inl ⟨?w131, ?y131⟩) ?r131
          case h131 => (simp only [List.getElem?_toArray, List.getElem?_cons_succ, List.getElem?_cons_zero]; rfl)
          case q131 => exact fun _ _ _ h => h
          case w131 => rfl
          case y131 =>
            intro wS hSw
            obtain ⟨hSb, hSw, hSx⟩ := hSw
            clear hSx
            go_simp
            (try (with_reducible rfl))
          try simp only [Act.put, List.setIfInBounds_toArray, List.set_cons_zero, List.set_cons_succ]
          refine wpL_one (i := 15) (o := ?o132) (b := true) (by kernel_rfl) ?h132 (by rfl) ?k132
          case h132 => (simp only [List.getElem?_toArray, List.getElem?_cons_succ, List.getElem?_cons_zero]; rfl)
          intro K hK
          refine wanted_on rfl ?_
          go_wp2_with fail
          refine hK.out _ _ (⟨⟨blk_cell (blk_set_other HRK7.out hne.symm _ _) 0, blk_cell (blk_set_other HRK7.out hne.symm _ _) 1⟩, fun e => by cases e⟩) (fun _ => ?_)
          clear hK K 
          try simp only [Act.put, List.setIfInBounds_toArray, List.set_cons_zero, List.set_cons_succ]
          refine wpL_done (by kernel_rfl) ?_ _
          have hs6 := HB6.out.size
          have HB26 := Lib.hid (show Below wr.heap.size wr (w6.alloc (.cells #[.slice va6 xr.cells.length vc6, .bool xr.wrap] 76)) from
            ((HB3.out.drew.trans (HB6.out.mono (by omega))).alloc (by omega) _))
          obtain ⟨qb, hqb⟩ : ∃ q, (Value.slice va6 xr.cells.length vc6).ownBlock = some q := by
            obtain ⟨b, off, c, e, _, _⟩ := ownC_pos HO6.out (by rw [HLc.out]; omega)
            exact ⟨b, by rw [e]; rfl⟩
          have HRA7 := Lib.hid (HRA.out.snoc (xr := xr) HB26.out (ownC_mono (ownC_alloc HO6.out _) (by omega)) hqb HO7.out HG7.out HN7.out hW0s)
          have HGB7 := Lib.hid (show W1.grownBy w7 (some w.heap.size) from gb_trans_new (gb_below HGB.out HB26.out hW0s) HG7.out (fun q hq => (ownC_lt HRA.out.own q hq).1))
          have hqW : w.heap.size < W1.heap.size := heap_lt HNB1.out
          have HRA8 := Lib.hid (HRA7.out.grown (gb_set (gb_refl w7 (some w.heap.size)) 3 (.slice va7 (L.length + 1) vc7)) (fun k' hk' => by injection hk' with hk'; omega))
          have HGB8 := Lib.hid (gb_set HGB7.out 3 (.slice va7 (L.length + 1) vc7))
          have HBK8 := Lib.hid (blk_set HBK7.out 3 (.slice va7 (L.length + 1) vc7))
          clear y0 y1 y2 y3 z0 z1 z2 z3 s0 s1 s2
          generalize w7.setCell ⟨w.heap.size, 3, none⟩ (.slice va7 (L.length + 1) vc7) = w8 at *
          go_wp2_with fail
          go_roundw
          case rel => exact ⟨k + 1, L ++ [(.slice va6 xr.cells.length vc6, xr)], .slice va7 (L.length + 1) vc7, by omega, by go_num, by show _ = _; rw [List.length_append, HL.out]; rfl, HGB8, HRA8, HBK8, by show _ = _; rw [List.map_append, HMP.out, HTK.out]; rfl⟩
          case measure => simp [intOf]; omega
        · have hkn : k = Lo.length := by omega
          subst hkn
          have d1 : decide ((Lo.length : Int) < (Lo.length : Int)) = false := decide_eq_false (by omega)
          have d1' : decide (Lo.length < Lo.length) = false := decide_eq_false (by omega)
          have hsW2 := HGB.out.size
          have HRN := Lib.hid (HRA1.out.grown HGB.out (fun k' hk' => by injection hk' with hk'; omega))
          have hfin : ∃ T', GM T' w.heap.size wr g ∧ ∀ k, T' k ≠ 0 → own (fun k => if k = w.heap.size then 1 else 0) W0 k := by
            have b1 : ∀ k, (Value.slice na Ln.length nc).ownBlock = some k → W0.heap.size ≤ k ∧ k < W1.heap.size := fun k hk => ownC_lt HRA1.out.own k hk
            have b2 : ∀ k, v.ownBlock = some k → W1.heap.size ≤ k := fun k hk => (ownC_lt HRA.out.own k hk).1
            have b3 : ∀ x ∈ Ln, ∀ k, x.1.ownBlock = some k → W0.heap.size ≤ k ∧ k < W1.heap.size := fun x hx k hk => ownC_lt (HRA1.out.cells x hx) k hk
            have b4 : ∀ x ∈ L, ∀ k, x.1.ownBlock = some k → W1.heap.size ≤ k := fun x hx k hk => (ownC_lt (HRA.out.cells x hx) k hk).1
            refine gat_build (vr := .slice na Ln.length nc) (vo := v) (Lr := Ln) (Lo := L) (fun k hk => ?_) (if_pos rfl) (by omega) HBK.out (ownC_mono HRN.out.own (Nat.zero_le _)) (ownC_mono HRA.out.own (Nat.zero_le _)) (fun k hk => .inr ⟨(b1 k hk).1, fun e => ?_⟩) (fun k hk => .inr ?_) (fun x hx => ?_) ?_ ?_ ?_ HG.out.wf
            · by_cases hkq : k = w.heap.size
              · omega
              · exact absurd (if_neg hkq) hk
            · have := b1 k hk; have := b2 k e; omega
            · have := b2 k hk; omega
            · rcases List.mem_append.1 hx with hx | hx
              · obtain ⟨q, e1, e2⟩ := HRN.out.ap x hx
                refine ⟨ownC_mono (HRN.out.cells x hx) (Nat.zero_le _), q, e1, .inr ⟨(b3 x hx q e1).1, fun e => ?_, e2⟩⟩
                have := b3 x hx q e1; have := b2 q e; omega
              · obtain ⟨q, e1, e2⟩ := HRA.out.ap x hx
                have hq4 := b4 x hx q e1
                refine ⟨ownC_mono (HRA.out.cells x hx) (Nat.zero_le _), q, e1, .inr ⟨by omega, e2, fun e => ?_⟩⟩
                have := b1 q e; omega
            · rw [List.map_append, List.nodup_append]
              refine ⟨HRN.out.nd, HRA.out.nd, fun a ha c hc e => ?_⟩
              obtain ⟨x, hx, rfl⟩ := List.mem_map.1 ha
              obtain ⟨y, hy, rfl⟩ := List.mem_map.1 hc
              obtain ⟨q, e1, _⟩ := HRA1.out.ap x hx
              have := b3 x hx q e1
              have := b4 y hy q (by rw [← e]; exact e1)
              omega
            · have := HMP1.out
              rw [← List.length_map (f := (·.2)), List.take_length] at this
              rw [this]; exact HG.out.er
            · have := HMP.out
              rw [← List.length_map (f := (·.2)), List.take_length] at this
              rw [this]; exact HG.out.eo
          have HF := Lib.hid hfin
          have HBB := Lib.hid (show Below w.heap.size w wr from (HBW0.out.grown HGB1.out (by omega) (by intro k' hk'; injection hk' with hk'; omega)).grown HGB.out (by omega) (by intro k' hk'; injection hk' with hk'; omega))
          clear hfin
          go_wp2_with fail
          obtain ⟨T', f1, f2⟩ := HF.out
          refine ret1v rfl rfl rfl ⟨w.heap.size, rfl, HBB.out, T', f1, fun k hk => ?_⟩
          rcases f2 k hk with h | h
          · by_cases hkq : k = w.heap.size
            · omega
            · exact absurd (if_neg hkq) h
          · omega

end Go.Proofs.YtjclgoiclbkgjaaDoor

/- Cells compared; plain. -/
namespace Go.Proofs.YtjclgoiclbkgjaaDoor
open Go.RowKit
attribute [local go_sem ↓] Go.wp_at_zero Go.wp_at_succ

def Sty.eqb (a b : Sty) : Bool := a.fg == b.fg && (a.bg == b.bg && a.attr == b.attr)
def Cel.eqb (a b : Cel) : Bool := a.rune == b.rune && (a.width == b.width && (a.sty.fg == b.sty.fg && (a.sty.bg == b.sty.bg && a.sty.attr == b.sty.attr)))
theorem Cel.eqb_iff (a b : Cel) : a.eqb b = true ↔ a = b := by
  obtain ⟨r, w, f, g, t⟩ := a
  obtain ⟨r', w', f', g', t'⟩ := b
  simp [Cel.eqb]
theorem Sty.eqb_iff (a b : Sty) : a.eqb b = true ↔ a = b := by
  obtain ⟨f, g, t⟩ := a
  obtain ⟨f', g', t'⟩ := b
  simp [Sty.eqb]
theorem eq_sty_in (a b : Sty) (d : Nat) (w : World) : (Op.equalIn (d + 2) 33 a.val b.val).run Tryd.prog w = .ok (a.eqb b) w := by
  have hS : Tryd.prog.underlying 33 = some (.struct (Tryd.prog.fieldsOf 33)) := by kernel_rfl
  have hp : Tryd.prog.stoodInHeld 33 = false := by kernel_rfl
  unfold Sty.val
  rw [run_equalIn_agg w (d + 1) 33 _ _ hS hp]
  simp only [Program.fieldsOf, Tryd.underlying33]
  go_simp
  unfold Sty.eqb
  by_cases h1 : a.fg = b.fg <;> by_cases h2 : a.bg = b.bg <;> by_cases h3 : a.attr = b.attr <;> simp [h1, h2, h3]
theorem eq_cel_in (a b : Cel) (d : Nat) (w : World) : (Op.equalIn (d + 3) 38 a.val b.val).run Tryd.prog w = .ok (a.eqb b) w := by
  have hS : Tryd.prog.underlying 38 = some (.struct (Tryd.prog.fieldsOf 38)) := by kernel_rfl
  have hp : Tryd.prog.stoodInHeld 38 = false := by kernel_rfl
  unfold Cel.val
  rw [run_equalIn_agg w (d + 2) 38 _ _ hS hp]
  simp only [Program.fieldsOf, Tryd.underlying38]
  go_simp
  unfold Cel.eqb
  by_cases h1 : a.rune = b.rune <;> by_cases h2 : a.width = b.width <;> by_cases h3 : a.sty.fg = b.sty.fg <;> by_cases h4 : a.sty.bg = b.sty.bg <;> by_cases h5 : a.sty.attr = b.sty.attr <;> simp [h1, h2, h3, h4, h5]
theorem eql_cel (a b : Cel) (w : World) : (binOp .eql 38 a.val b.val).run Tryd.prog w = .ok (.bool (a.eqb b)) w := by
  have := eq_cel_in a b 9997 w
  unfold Cel.val at *
  rw [run_eql_struct, show (10000 : Nat) = 9997 + 3 from rfl, this]; rfl
theorem neq_cel (a b : Cel) (w : World) : (binOp .neq 38 a.val b.val).run Tryd.prog w = .ok (.bool (!a.eqb b)) w := by
  have := eq_cel_in a b 9997 w
  unfold Cel.val at *
  rw [run_neq_struct, show (10000 : Nat) = 9997 + 3 from rfl, this]; rfl
theorem eql_sty (a b : Sty) (w : World) : (binOp .eql 33 a.val b.val).run Tryd.prog w = .ok (.bool (a.eqb b)) w := by
  have := eq_sty_in a b 9998 w
  unfold Sty.val at *
  rw [run_eql_struct, show (10000 : Nat) = 9998 + 2 from rfl, this]; rfl
theorem neq_sty (a b : Sty) (w : World) : (binOp .neq 33 a.val b.val).run Tryd.prog w = .ok (.bool (!a.eqb b)) w := by
  have := eq_sty_in a b 9998 w
  unfold Sty.val at *
  rw [run_neq_struct, show (10000 : Nat) = 9998 + 2 from rfl, this]; rfl
theorem guard_cel (op : BinOp) (x y : Operand) (a b : Cel) (w : World) : (eqGuard op 38 x y a.val b.val).run Tryd.prog w = .ok () w := run_eqGuard_agg w op 38 x y _ _ (by kernel_rfl)
theorem guard_sty (op : BinOp) (x y : Operand) (a b : Sty) (w : World) : (eqGuard op 33 x y a.val b.val).run Tryd.prog w = .ok () w := run_eqGuard_agg w op 33 x y _ _ (by kernel_rfl)
theorem plain_eqb (c : Cel) : c.eqb (blankC plainS) = isPlain c := rfl
end Go.Proofs.YtjclgoiclbkgjaaDoor
