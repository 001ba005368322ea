import Derived.Test.YtjclgoiclbkgjaaGreatDoorK23
import Derived.Test.YtjclgoiclbkgjaaGreatDoorK18
/- Walk of the document's grid: flow. -/
namespace Go.Proofs.YtjclgoiclbkgjaaGreatDoor
open Go.RowKit
attribute [local go_sem ↓] Go.wp_at_zero Go.wp_at_succ

theorem wh_width {l : List Cel} (h : Wh l) : ∀ c ∈ l, c.width = 0 ∨ c.width = 1 ∨ c.width = 2 := by
  induction h with
  | nil => intro c hc; simp at hc
  | one c l h _ ih =>
    intro x hx
    rcases List.mem_cons.1 hx with rfl | hx
    · exact .inr (.inl h)
    · exact ih x hx
  | two c l h _ ih =>
    intro x hx
    rcases List.mem_cons.1 hx with rfl | hx
    · exact .inr (.inr h)
    · rcases List.mem_cons.1 hx with rfl | hx
      · exact .inl rfl
      · exact ih x hx
theorem bareC (r : Rw) : (r.cells.all isPlain && !r.wrap) = true ↔ r.wrap = false ∧ r.cells.all isPlain = true := by
  rw [Bool.and_eq_true, Bool.not_eq_true']; exact And.comm
set_option maxRecDepth 100000 in
set_option maxHeartbeats 8000000 in
theorem flowD_any {T : Nat → Nat} {p : Nat} {w : World} {g : Gr} (h : RM T p w g) (hwh : g.All WhR) (cols rows : Nat) (ax ay : Int) (c1 : 1 ≤ cols) (c2 : cols ≤ 250) (r1 : 1 ≤ rows) (r2 : rows ≤ 120) (hx : 0 ≤ ax ∧ ax ≤ 250) (hy : 0 ≤ ay ∧ ay ≤ 120) :
    Calls Tryz.prog 71 #[.pointer (some ⟨p, 0, none⟩), .int .i64 cols, .int .i64 rows, .agg #[.int .i64 ax, .int .i64 ay]] w fun e w' =>
      e = .returned (.agg #[.int .i64 (g.flow cols rows ax ay).2.1, .int .i64 (g.flow cols rows ax ay).2.2]) ∧ Within (own T w) w w' ∧ ∃ T', RM T' p w' (g.flow cols rows ax ay).1 ∧ ∀ k, T' k ≠ 0 → own T w k := by
  obtain ⟨vr, vo, Lr, Lo, h0⟩ := h
  obtain ⟨hlr, hlo⟩ := rrows_len h0
  have wf := h0.wf
  have hr2 : Lr.length ≤ 120 := by have := wf.r2; omega
  have ho2 : Lo.length ≤ 2000 := by have := wf.ol; have := wf.li; omega
  have hr1 : 1 ≤ Lr.length := by have := wf.r1; omega
  have hpl := heap_lt h0.blk
  have hBx : Below w.heap.size w ((w.alloc (.cells #[.int .i64 ax, .int .i64 ay] 51)).alloc (.cells #[.int .i64 0, .int .i64 0] 51)) := Below.alloc (Below.alloc (Below.refl w.heap.size w) (Nat.le_refl _) _) (by simp) _
  have HAT0 := Lib.hid (blk_alloc (blk_new w (.cells #[.int .i64 ax, .int .i64 ay] 51)) (.cells #[.int .i64 0, .int .i64 0] 51))
  have HRS0 := Lib.hid (blk_new2 w (.cells #[.int .i64 ax, .int .i64 ay] 51) (.cells #[.int .i64 0, .int .i64 0] 51))
  have HG0 := Lib.hid h0
  have HG1 := Lib.hid (h0.mod (.of_below hBx) id id id (fun _ => id))
  have HB1 := Lib.hid hBx
  have hsz1 : ((w.alloc (.cells #[.int .i64 ax, .int .i64 ay] 51)).alloc (.cells #[.int .i64 0, .int .i64 0] 51)).heap.size = w.heap.size + 2 := by simp
  have HGC0 := Lib.hid (show ∀ x ∈ Lo ++ Lr, x.2.Good g.cols from fun x hx => by
    refine wf.ce x.2 ?_
    rcases List.mem_append.1 hx with hx | hx
    · exact List.mem_append_right _ (by rw [← h0.eo]; exact List.mem_map_of_mem hx)
    · exact List.mem_append_left _ (by rw [← h0.er]; exact List.mem_map_of_mem hx))
  have HWH := Lib.hid (show ∀ x ∈ Lo ++ Lr, Wh x.2.cells from fun x hx => by
    refine hwh x.2 ?_
    rcases List.mem_append.1 hx with hx | hx
    · exact List.mem_append_left _ (by rw [← h0.eo]; exact List.mem_map_of_mem hx)
    · exact List.mem_append_right _ (by rw [← h0.er]; exact List.mem_map_of_mem hx))
  have hgc1 := wf.c1
  have hgc2 := wf.c2
  have HLR := Lib.hid hlr
  have HLO := Lib.hid hlo
  clear h0 wf hBx hlr hlo hwh
  go_enter Tryz.func71, Tryz.ntmps71
  go_upto_region 1 with fail
  generalize (w.alloc (.cells #[.int .i64 ax, .int .i64 ay] 51)).alloc (.cells #[.int .i64 0, .int .i64 0] 51) = wa at *
  obtain ⟨c0, c1', c2', c3⟩ := rm_cells HG1.out
  have hszw := HB1.out.size
  have HSZ1 := Lib.hid hsz1
  have hpa : p < wa.heap.size := by omega
  clear hsz1
  refine wpL_begin (c := 99) (S := (fun bb w' => (w'.cell? ⟨p, 2, none⟩ = some vr ∧ w'.cell? ⟨p, 3, none⟩ = some vo) ∧ (bb = false → True))) (by kernel_rfl) (⟨⟨c2', c3⟩, fun _ => trivial⟩) (fun _ => ?_)
  refine wpL_tk false 1 (⟨⟨c2', c3⟩, fun _ => trivial⟩) ?_
  refine wpL_tk false 2 (⟨⟨c2', c3⟩, fun _ => trivial⟩) ?_
  refine wpL_tk false 3 (⟨⟨c2', c3⟩, fun _ => trivial⟩) ?_
  refine wpL_tk false 4 (⟨⟨c2', c3⟩, fun _ => trivial⟩) ?_
  refine wpL_tk false 6 (⟨⟨c2', c3⟩, fun _ => trivial⟩) ?_
  refine wpL_tk false 7 (⟨⟨c2', c3⟩, fun _ => trivial⟩) ?_
  refine wpL_tk false 8 (⟨⟨c2', c3⟩, fun _ => trivial⟩) ?_
  refine wpL_tk false 9 (⟨⟨c2', c3⟩, fun _ => trivial⟩) ?_
  refine wpL_on false 0 fun K hK => ?_
  refine wanted_on rfl ?_
  go_wp2_with fail
  have HB2 := Lib.hid (show Below wa.heap.size wa ((wa.alloc (.cells #[] 96)).drew) from ((Below.refl wa.heap.size wa).alloc (Nat.le_refl _) _).drew)
  have HO2 := Lib.hid (show OwnC ((wa.alloc (.cells #[] 96)).drew) wa.heap.size 2 (.slice (some ⟨wa.heap.size, 0, none⟩) 0 0) 0 [] from own_empty wa 96 2)
  have x2 := cell_below HB2.out c2'
  have x3 := cell_below HB2.out c3
  generalize hw2 : (wa.alloc (.cells #[] 96)).drew = w2 at *
  refine hK.out _ _ (⟨⟨x2, x3⟩, fun _ => trivial⟩) (fun _ => ?_)
  clear hK K 
  try simp only [Act.put, List.setIfInBounds_toArray, List.set_cons_zero, List.set_cons_succ]
  refine wpL_on false 5 fun K hK => ?_
  apply step_appS rowsD_elem
  case hgd => rfl
  case ho => rfl
  case hown => exact HO2.out
  case hs => rfl
  case hr => exact src_reads Tryz.underlying62 (ownC_reads (ownC_below HG1.out.ro.own HB2.out)) (cats_ones (fun x hx => HG1.out.ca x (List.mem_append_right _ hx)))
  case hx => rfl
  case h63 => unfold maxLen; omega
  case hbytes => omega
  case hbase => exact HB2.out.size
  intro v3 w3 o3 g3 n3
  rw [List.nil_append, Nat.zero_add] at o3
  have y2 := cell_grown g3 x2 (fun e => by have e : some wa.heap.size = some p := e; injection e with e; omega)
  have y3 := cell_grown g3 x3 (fun e => by have e : some wa.heap.size = some p := e; injection e with e; omega)
  have HB3 := Lib.hid (HB2.out.grown g3 HB2.out.size (fun q hq => by have hq : some wa.heap.size = some q := hq; injection hq with hq; omega))
  have HO3 := Lib.hid o3
  clear o3 g3 n3
  refine hK.out _ _ (⟨⟨y2, y3⟩, fun _ => trivial⟩) (fun _ => ?_)
  clear hK K 
  try simp only [Act.put, List.setIfInBounds_toArray, List.set_cons_zero, List.set_cons_succ]
  refine wpL_on false 10 fun K hK => ?_
  apply step_appS rowsD_elem
  case hgd => rfl
  case ho => rfl
  case hown => exact HO3.out
  case hs => rfl
  case hr => exact src_reads Tryz.underlying62 (ownC_reads (ownC_below HG1.out.rr.own HB3.out)) (cats_ones (fun x hx => HG1.out.ca x (List.mem_append_left _ hx)))
  case hx => rfl
  case h63 => unfold maxLen; omega
  case hbytes => omega
  case hbase => exact HB3.out.size
  intro v4 w4 o4 g4 n4
  rw [← rowVals_append] at o4
  have z2 := cell_grown g4 y2 (fun e => by have := (ownC_lt HO3.out _ e).1; omega)
  have z3 := cell_grown g4 y3 (fun e => by have := (ownC_lt HO3.out _ e).1; omega)
  have HB4 := Lib.hid (HB3.out.grown g4 HB3.out.size (fun q hq => (ownC_lt HO3.out q hq).1))
  have HO4 := Lib.hid o4
  clear o4 g4 n4
  refine hK.out _ _ (⟨⟨z2, z3⟩, fun _ => trivial⟩) (fun _ => ?_)
  clear hK K 
  try simp only [Act.put, List.setIfInBounds_toArray, List.set_cons_zero, List.set_cons_succ]
  refine wpL_tk false 11 (⟨⟨z2, z3⟩, fun _ => trivial⟩) ?_
  refine wpL_done (by kernel_rfl) ?_ _
  have hsz1 := HSZ1.out
  have hAL : (Lo ++ Lr).length = Lo.length + Lr.length := List.length_append
  obtain ⟨ab, aoff, ac, rfl, hac, hacm⟩ := ownC_pos HO4.out (by omega)
  have HA2 := Lib.hid (show (Lo ++ Lr).map (·.2) = g.old ++ g.rows by rw [List.map_append, HG0.out.er, HG0.out.eo])
  have HCA := Lib.hid (show ∀ x ∈ Lo ++ Lr, CAt T w x from fun x hx => by
    rcases List.mem_append.1 hx with hx | hx
    · exact HG0.out.ca x (List.mem_append_right _ hx)
    · exact HG0.out.ca x (List.mem_append_left _ hx))
  have HOA := Lib.hid (show OwnC w4 wa.heap.size 2 (.slice (some ⟨ab, aoff, none⟩) (Lo.length + Lr.length) ac) (Lo ++ Lr).length (rowVals (Lo ++ Lr)) by rw [hAL]; exact HO4.out)
  have hal : Lo.length + Lr.length ≤ 2120 := by omega
  have hal1 : 1 ≤ Lo.length + Lr.length := by omega
  have HBW := Lib.hid (HB1.out.trans (HB4.out.mono HB1.out.size))
  have hsz4 := HB4.out.size
  have hat := blk_below HAT0.out HB4.out (by omega)
  have hrs := blk_below HRS0.out HB4.out (by omega)
  have hk4 := blk_below HG1.out.blk HB4.out (by omega)
  have x0 : w4.cell? ⟨w.heap.size, 0, none⟩ = some (.int .i64 ax) := blk_cell hat 0
  have x1 : w4.cell? ⟨w.heap.size, 1, none⟩ = some (.int .i64 ay) := blk_cell hat 1
  have x3' : w4.cell? ⟨p, 3, none⟩ = some vo := blk_cell hk4 3
  have hw1 : IntKind.i64.wrap ((Lo.length : Int) + ay) = (Lo.length : Int) + ay := wrap64_id _ (by omega) (by omega)
  have hl2 := ownC_ln Tryz.underlying62 HG1.out.ro.own
  have HAT := Lib.hid hat
  have HRS := Lib.hid hrs
  have HK4 := Lib.hid hk4
  clear hat hrs hk4 HB3 HO3 HO4 x2 x3 y2 y3 z2 z3 c0 c1' c2' c3 HB2 HO2 hw2
  go_upto_region 2 with fail
  refine wpL_begin (c := 99) (S := (fun bb w' => (w'.cell? ⟨p, 3, none⟩ = some vo ∧ w'.cell? ⟨w.heap.size, 0, none⟩ = some (.int .i64 ax) ∧ w'.cell? ⟨w.heap.size, 1, none⟩ = some (.int .i64 ay)) ∧ (bb = false → True))) (by kernel_rfl) (⟨⟨x3', x0, x1⟩, fun _ => trivial⟩) (fun _ => ?_)
  refine wpL_tk false 0 (⟨⟨x3', x0, x1⟩, fun _ => trivial⟩) ?_
  refine wpL_tk false 1 (⟨⟨x3', x0, x1⟩, fun _ => trivial⟩) ?_
  refine wpL_tk false 2 (⟨⟨x3', x0, x1⟩, fun _ => trivial⟩) ?_
  refine wpL_tk false 3 (⟨⟨x3', x0, x1⟩, fun _ => trivial⟩) ?_
  refine wpL_tk false 4 (⟨⟨x3', x0, x1⟩, fun _ => trivial⟩) ?_
  refine wpL_tk false 5 (⟨⟨x3', x0, x1⟩, fun _ => trivial⟩) ?_
  refine wpL_tk false 6 (⟨⟨x3', x0, x1⟩, fun _ => trivial⟩) ?_
  refine wpL_tk false 7 (⟨⟨x3', x0, x1⟩, fun _ => trivial⟩) ?_
  refine wpL_tk false 8 (⟨⟨x3', x0, x1⟩, fun _ => trivial⟩) ?_
  refine wpL_tk false 9 (⟨⟨x3', x0, x1⟩, fun _ => trivial⟩) ?_
  refine wpL_tk false 10 (⟨⟨x3', x0, x1⟩, fun _ => trivial⟩) ?_
  refine wpL_on false 11 fun K hK => ?_
  refine wanted_on rfl ?_
  go_wp2_with fail
  have HBd := Lib.hid ((Below.refl w4.heap.size w4).drew)
  refine (linesD_any (Lo ++ Lr) (.slice (some ⟨ab, aoff, none⟩) (Lo.length + Lr.length) ac) ((Lo.length : Int) + ay) ax g.cols w4.drew (ownC_mono (ownC_below HOA.out HBd.out) (Nat.zero_le _)) (fun x hx => ownC_below (HCA.out x hx).own (HBW.out.drew)) (fun x hx => (HGC0.out x hx).1) hgc1 hgc2 (by rw [hAL]; exact hal) hx).mono ?_
  rintro e w5 ⟨vL, L5, rfl, b5, l5, e5⟩
  have HB5 := Lib.hid (show Below w4.heap.size w4 w5 from HBd.out.trans b5)
  have HL5 := Lib.hid (show LnsAt w4.heap.size w5 vL L5 from l5)
  have HE5 := Lib.hid e5
  have t3 := cell_below HB5.out x3'
  have t0 := cell_below HB5.out x0
  have t1 := cell_below HB5.out x1
  clear b5 l5 e5
  refine hK.out _ _ (⟨⟨t3, t0, t1⟩, fun _ => trivial⟩) (fun _ => ?_)
  clear hK K 
  try simp only [Act.put, List.setIfInBounds_toArray, List.set_cons_zero, List.set_cons_succ]
  refine wpL_tk false 12 (⟨⟨t3, t0, t1⟩, fun _ => trivial⟩) ?_
  refine wpL_done (by kernel_rfl) ?_ _
  clear t3 t0 t1 x3' x0 x1 hw1 hl2 HBd
  have hsz5 := HB5.out.size
  have HK5 := Lib.hid (blk_below HK4.out HB5.out (by omega))
  have HRS5 := Lib.hid (blk_below HRS.out HB5.out (by omega))
  have HBW5 := Lib.hid (HBW.out.trans (HB5.out.mono (by omega)))
  have HPL := Lib.hid (show ((Lo.length : Int) + ay) = (g.old.length : Int) + ay by rw [HLO.out])
  clear HK4 HAT HRS HOA HBW HB4 HB5 HG1 HB1 HAT0 HRS0 hac hacm
  generalize hpl2 : (Lo.length : Int) + ay = place at *
  have hplb : 0 ≤ place ∧ place ≤ 3000 := by omega
  clear hpl2
  generalize hAA : Lo ++ Lr = A at *
  have HNA := Lib.hid (show 1 ≤ A.length ∧ A.length ≤ 2120 by omega)
  clear hAA hr2 ho2 hr1 hAL hal hal1
  have HRT0 := Lib.hid (lnRun_tot place ax (A.map (·.2)) (fun r hr => by obtain ⟨z, hz, rfl⟩ := List.mem_map.1 hr; have := (HGC0.out z hz).1; omega) [] 0)
  have HRO := Lib.hid (lnRun_all2 Cel.Ok place ax (A.map (·.2)) (fun r hr => by obtain ⟨z, hz, rfl⟩ := List.mem_map.1 hr; exact (HGC0.out z hz).2) [] 0 (by simp))
  have HRW0 := Lib.hid (lnRun_all2 (fun c => c.width = 0 ∨ c.width = 1 ∨ c.width = 2) place ax (A.map (·.2)) (fun r hr => by obtain ⟨z, hz, rfl⟩ := List.mem_map.1 hr; exact wh_width (HWH.out z hz)) [] 0 (by simp))
  have HFD := Lib.hid (flRun_doc cols place ax (A.map (·.2)))
  generalize lnRun place ax [] 0 (A.map (·.2)) = R at *
  have HTOT := Lib.hid (show lnTot R ≤ 532120 by have h1 := HRT0.out; have h2 := HNA.out.2; rw [List.length_map] at h1; have h3 : lnTot [] = 0 := rfl; omega)
  have HLL := Lib.hid (show L5.length = R.length by have := congrArg List.length HE5.out; rw [List.length_map, List.length_map] at this; exact this)
  have hRl : L5.length ≤ 532120 := by
    have h1 := HTOT.out
    have h2 := HLL.out
    have h3 := lnTot_len R
    omega
  have HFI := Lib.hid (fun k => fold_i c1 (R.take k) (fun l hl => HRO.out l (List.mem_of_mem_take hl)) ⟨[], 0, 0⟩ ⟨by simp, Int.le_refl 0, Int.le_refl 0⟩)
  obtain ⟨lna, lnc, rfl⟩ := ownC_sl HL5.out.own
  have hlnl := ownC_ln Tryz.underlying117 HL5.out.own
  clear HRT0
  go_upto_region 5 with fail
  have HB6 := Lib.hid (Below.alloc (Below.refl w5.heap.size w5) (Nat.le_refl _) (.cells #[.int .i64 0, .int .i64 0] 51))
  have HPB := Lib.hid (show (w5.alloc (.cells #[.int .i64 0, .int .i64 0] 51)).heap[w5.heap.size]? = some (.cells #[.int .i64 0, .int .i64 0] 51 (0, 0)) from blk_new w5 _)
  have hsz6 : (w5.alloc (.cells #[.int .i64 0, .int .i64 0] 51)).heap.size = w5.heap.size + 1 := by simp
  generalize w5.alloc (.cells #[.int .i64 0, .int .i64 0] 51) = w6 at *
  have HSZ6 := Lib.hid hsz6
  clear hsz6
  go_upto_region 6 with fail
  go_loopw [11, 13] (fun vO iv wr => ∃ (k : Nat) (L : List (Value × Rw)), k ≤ L5.length ∧ iv = .int .i64 k ∧ Hid (FlS w6 w5.heap.size wr vO L ((R.take k).foldl (flLn cols) ⟨[], 0, 0⟩))) (fun _ iv _ => L5.length - (intOf iv).toNat)
  case atStart => exact ⟨0, [], Nat.zero_le _, rfl, ⟨gb_refl _ _, HPB.out, RowsAt.nil _ _, rfl⟩⟩
  case round =>
    obtain ⟨k, L, hk, rfl, HS⟩ := hrel
    obtain ⟨ws, rfl⟩ : ∃ ws, ws = wr := ⟨wr, rfl⟩
    by_cases hlt : k < L5.length
    ·
      have d1 : decide ((k : Int) < (L5.length : Int)) = true := decide_eq_true (by omega)
      have d1' : decide (k < L5.length) = true := decide_eq_true hlt
      have hszs := HS.out.gb.size
      have hs6 := HSZ6.out
      have HBs := Lib.hid (show Below w5.heap.size w5 ws from (HB6.out.grown HS.out.gb (by omega) (fun q hq => by injection hq with hq; omega)))
      have hkR : k < R.length := by have := HLL.out; omega
      have HFT := Lib.hid (fold_take (flLn cols) R ⟨[], 0, 0⟩ k hkR)
      have HFB := Lib.hid (show FlI cols ((R.take k).foldl (flLn cols) ⟨[], 0, 0⟩) ∧ ((R.take k).foldl (flLn cols) ⟨[], 0, 0⟩).out.length ≤ 532120 by
        have h1 := HFI.out k
        have h2 := lnTot_take R k
        have h3 := HTOT.out
        refine ⟨h1.1, ?_⟩
        have h5 : ((R.take k).foldl (flLn cols) ⟨[], 0, 0⟩).out.length ≤ 0 + lnTot (R.take k) := h1.2
        omega)
      generalize (R.take k).foldl (flLn cols) ⟨[], 0, 0⟩ = st at *
      obtain ⟨LA, lx, LC, hLA, hAi⟩ := split_at L5 k hlt
      obtain ⟨lv, cT⟩ := lx
      have HCT := Lib.hid (show cT = lnTrim R[k] by
        have h1 := HE5.out
        have h2 : (L5.map (·.2))[k]? = some cT := by rw [hLA, List.map_append, List.map_cons, List.getElem?_append_right (by simp; omega)]; simp [hAi]
        rw [h1, List.getElem?_map, List.getElem?_eq_getElem hkR] at h2
        exact (Option.some.inj h2).symm)
      have HRk := Lib.hid (show R[k] ∈ R from List.getElem_mem hkR)
      generalize R[k] = rl at *
      have hct := HCT.out
      subst hct
      have HLs := Lib.hid (show LnsAt w4.heap.size ws (.slice lna L5.length lnc) (LA ++ (lv, lnTrim rl) :: LC) from by rw [← hLA]; exact HL5.out.below HBs.out)
      have HLLn := Lib.hid (show L5.length = (LA ++ (lv, lnTrim rl) :: LC).length by rw [← hLA])
      subst hAi
      clear hLA
      have hown := HLs.out.own
      rw [← HLLn.out] at hown
      obtain ⟨lb, loff, ln3, e4, _, _⟩ := ownC_pos hown (by omega)
      simp only [Value.slice.injEq] at e4
      obtain ⟨e5, _, e6⟩ := e4
      subst e5 e6
      clear hown
      obtain ⟨s0, _, s1⟩ := HLs.out.at HLLn.out rfl
      have s2 := HLs.out.at2 HLLn.out rfl
      have HLV := Lib.hid (show OwnC ws w4.heap.size 5 lv (lnTrim rl).cells.length (cvals (lnTrim rl).cells) from HLs.out.cells (lv, lnTrim rl) (List.mem_append_right _ (List.mem_cons_self ..)))
      obtain ⟨lva, lvc, rfl⟩ := ownC_sl HLV.out
      have hix := idx_at (P := Tryz.prog) (size := 3) Tryz.underlying117 ln_info lb loff L5.length lnc LA.length hlt
      have hclb : (lnTrim rl).cells.length ≤ 532120 := by
        have h1 : (lnTrim rl).cells.length ≤ rl.cells.length := trimM_len _ _
        have h2 : rl.cells.length + 1 ≤ lnTot R := by
          have h3 := HRk.out
          obtain ⟨a, b, hab⟩ := List.append_of_mem h3
          rw [hab, show rl :: b = [rl] ++ b from rfl, lnTot_append, lnTot_append, lnTot_one]; omega
        have h4 := HTOT.out
        omega
      have HSP := Lib.hid (splitD_any (lnTrim rl).cells (lnTrim rl).pl (lnTrim rl).wrap cols (.slice lva (lnTrim rl).cells.length lvc) ws (ownC_mono HLV.out (Nat.zero_le _)) c1 c2 (by omega) (fun c hc => HRW0.out rl HRk.out c (trimM_mem hc)))
      have HSI := Lib.hid (splitG_i (lnTrim rl).cells cols (lnTrim rl).pl (fun c hc => HRO.out rl HRk.out c (trimM_mem hc)) c1)
      have HLN := Lib.hid (show flLn cols st rl = flEnd cols rl.cells rl.pl rl.wrap st from rfl)
      have HLT := Lib.hid (show (lnTrim rl).cells = trimM rl.cells rl.pl ∧ (lnTrim rl).pl = rl.pl ∧ (lnTrim rl).wrap = rl.wrap from ⟨rfl, rfl, rfl⟩)
      generalize hlt2 : lnTrim rl = lt at *
      obtain ⟨tc, tp, tw⟩ := lt
      dsimp only at s1 s2 hclb
      have HSP := Lib.hid (show Calls Tryz.prog 87 #[.agg #[.slice lva tc.length lvc, .int .i64 tp, .bool tw], .int .i64 cols] ws fun e w' => ∃ v L, e = .returned (.tuple #[v, .agg #[.int .i64 (saidX (splitG tc cols tp).told), .int .i64 (saidY (splitG tc cols tp).told)]]) ∧ Below ws.heap.size ws w' ∧ RowsAt ws.heap.size w' v L ∧
        L.map (·.2) = wrapLast (spEnd cols (splitG tc cols tp)) tw from HSP.out)
      have HSI := Lib.hid (show SpI cols (splitG tc cols tp) ∧ (splitG tc cols tp).done.length ≤ tc.length from HSI.out)
      have HLT := Lib.hid (show tc = trimM rl.cells rl.pl ∧ tp = rl.pl ∧ tw = rl.wrap from HLT.out)
      have HLV := Lib.hid (show OwnC ws w4.heap.size 5 (.slice lva tc.length lvc) tc.length (cvals tc) from HLV.out)
      clear hlt2
      go_wp2_with fail
      refine HSP.out.mono ?_
      rintro e w7 ⟨v2, L2, rfl, b7, rl7, e7⟩
      have HB7 := Lib.hid b7
      have HR7 := Lib.hid rl7
      have HE7 := Lib.hid e7
      clear b7 rl7 e7 s0 s1 s2 hix HSP
      go_upto_region 9 with fail
      have hL2 : L2.length = (splitG tc cols tp).done.length + 1 := by rw [← spEnd_len cols, ← wrapLast_len _ tw, ← HE7.out, List.length_map]
      have hL2b : L2.length ≤ 532121 := by have := HSI.out.2; omega
      have hs7 := HB7.out.size
      clear hL2
      have HB8 := Lib.hid (show Below ws.heap.size ws (w7.alloc (.cells #[.int .i64 (saidX (splitG tc cols tp).told), .int .i64 (saidY (splitG tc cols tp).told)] 51)) from HB7.out.alloc HB7.out.size _)
      have HK8 := Lib.hid (blk_new w7 (.cells #[.int .i64 (saidX (splitG tc cols tp).told), .int .i64 (saidY (splitG tc cols tp).told)] 51))
      have HR8 := Lib.hid (HR7.out.below (Below.alloc (Below.refl w7.heap.size w7) (Nat.le_refl _) (.cells #[.int .i64 (saidX (splitG tc cols tp).told), .int .i64 (saidY (splitG tc cols tp).told)] 51)))
      have hsz8 : (w7.alloc (.cells #[.int .i64 (saidX (splitG tc cols tp).told), .int .i64 (saidY (splitG tc cols tp).told)] 51)).heap.size = w7.heap.size + 1 := by simp
      generalize w7.alloc (.cells #[.int .i64 (saidX (splitG tc cols tp).told), .int .i64 (saidY (splitG tc cols tp).told)] 51) = w8 at *
      have u0 : w8.cell? ⟨w7.heap.size, 0, none⟩ = some (.int .i64 (saidX (splitG tc cols tp).told)) := blk_cell HK8.out 0
      have u1 : w8.cell? ⟨w7.heap.size, 1, none⟩ = some (.int .i64 (saidY (splitG tc cols tp).told)) := blk_cell HK8.out 1
      have HLo := Lib.hid (show L.length = st.out.length by rw [← HS.out.er, List.length_map])
      have hLb : L.length ≤ 532120 := by have := HLo.out; have := HFB.out.2; omega
      have HS8 := Lib.hid (HS.out.below HB8.out)
      obtain ⟨oa, oc, rfl⟩ := ownC_sl HS.out.ro.own
      obtain ⟨ra, rc, rfl⟩ := ownC_sl HR7.out.own
      have hlo := ownC_ln Tryz.underlying62 HS.out.ro.own
      have hpbw : w5.heap.size < ws.heap.size := by omega
      go_cut [60] (fun v wx => (∃ f, v = .bool f ∧ Hid (f = true ↔ (splitG tc cols tp).told.isSome = true)) ∧ wx = w8)
      case first =>
        cases htd : (splitG tc cols tp).told with
        | none =>
          rw [htd] at u0 u1
          have HTD := Lib.hid htd
          clear htd
          unfold saidY at u1
          dsimp only at u1
          go_wp2_with fail
          go_meet
          exact ⟨⟨false, rfl, iff_of_false (by decide) (by rw [HTD.out]; decide)⟩, rfl⟩
        | some q =>
          rw [htd] at u0 u1
          have HTD := Lib.hid htd
          have hq2 := HSI.out.1.told q htd
          obtain ⟨qx, qy⟩ := q
          unfold saidY at u1
          dsimp only at u1 hq2
          have d5 : decide (0 ≤ qy) = true := decide_eq_true hq2.1
          have d6 : decide (qy < 0) = false := decide_eq_false (by omega)
          clear htd
          go_wp2_with fail
          go_meet
          exact ⟨⟨true, rfl, iff_of_true rfl (by rw [HTD.out]; rfl)⟩, rfl⟩
      case rest =>
      obtain ⟨⟨f, rfl, HF⟩, rfl⟩ := hcut
      obtain ⟨w8, rfl⟩ : ∃ w0, w0 = wc := ⟨wc, rfl⟩
      go_upto_if 60 with fail
      go_cut [15] (fun pv wx => pv = .pointer (some ⟨w7.heap.size, 0, none⟩) ∧ Hid (ws.grownBy wx (some w5.heap.size)) ∧ Hid (wx.heap[w5.heap.size]? = some (.cells #[.int .i64 (tellX (splitG tc cols tp).told st.px), .int .i64 (tellY (splitG tc cols tp).told st.py st.out.length)] 51 (0, 0))) ∧ Hid (RowsAt ws.heap.size wx (.slice ra L2.length rc) L2))
      case first =>
        cases htd : (splitG tc cols tp).told with
        | none =>
          have hff : f = false := by
            cases f
            · rfl
            · have := HF.out.1 rfl; rw [htd] at this; exact absurd this (by decide)
          subst hff
          have HTD := Lib.hid htd
          clear htd
          go_wp2_with fail
          go_meet
          exact ⟨rfl, gb_of_below _ HB8.out, by show _ = _; rw [HTD.out]; exact HS8.out.pk, HR8⟩
        | some q =>
          have hff : f = true := by
            cases f
            · have := HF.out.2 (by rw [htd]; rfl); exact absurd this (by decide)
            · rfl
          subst hff
          rw [htd] at u0 u1
          have hq2 := HSI.out.1.told q htd
          obtain ⟨qx, qy⟩ := q
          have HTD := Lib.hid htd
          unfold saidX at u0
          unfold saidY at u1
          dsimp only at u0 u1 hq2
          have hdl := HSI.out.2
          clear htd
          have hw5 : IntKind.i64.wrap ((L.length : Int) + qy) = (L.length : Int) + qy := wrap64_id _ (by omega) (by omega)
          have hst := run_storeVar_row (P := Tryz.prog) w8 w5.heap.size 51 51 _ #[.int .i64 qx, .int .i64 ((L.length : Int) + qy)] HS8.out.pk (by kernel_rfl) rfl (by simp [Value.oneCell'])
          have hgs := gb_setRow w8 w5.heap.size #[.int .i64 qx, .int .i64 ((L.length : Int) + qy)]
          have HK9 := Lib.hid (setRow_blk (cells := #[.int .i64 qx, .int .i64 ((L.length : Int) + qy)]) HS8.out.pk)
          have HG9 := Lib.hid (gb_trans (gb_of_below (some w5.heap.size) HB8.out) hgs)
          have HR9 := Lib.hid (HR8.out.grown hgs (fun k hk => by injection hk with hk; omega))
          clear hgs
          go_wp2_with (refine wpList_storeR rfl _ _ _ rfl hst rfl rfl ?_)
          go_meet
          exact ⟨rfl, HG9, by show _ = _; rw [HTD.out, ← HLo.out]; exact HK9.out, HR9⟩
      case rest =>
      obtain ⟨rfl, HG9, HK9, HR9⟩ := hcut
      obtain ⟨w9, rfl⟩ : ∃ w0, w0 = wc := ⟨wc, rfl⟩
      clear u0 u1 HF
      have hs9 := HG9.out.size
      have HO9 := Lib.hid (ownC_grown HS.out.ro.own HG9.out (fun q hq e => by have := (ownC_lt HS.out.ro.own q hq).1; injection e with e; omega))
      go_wp2_with (at_builtin; refine held ?_)
      unfold Held
      refine wpList_appD rowsD_elem rfl rfl w6.heap.size HO9.out rfl (ownC_reads HR9.out.own) rfl (rowsAt_one HR9.out) (by unfold maxLen; omega) (by omega) (by omega) ?_
      intro v11 w11 o11 g11 n11
      have HSN := Lib.hid (HS.out.lineD (by omega) HG9.out HR9.out cols rl (by rw [← HLT.out.1, ← HLT.out.2.1, ← HLT.out.2.2]; exact HE7.out) (by rw [← HLT.out.1, ← HLT.out.2.1]; exact HK9.out) o11 g11 n11)
      clear o11 g11 n11
      go_wp2_with fail
      go_roundw
      case rel => exact ⟨LA.length + 1, L ++ L2, by omega, by go_num, by show FlS _ _ _ _ _ _; rw [HFT.out]; exact HSN.out⟩
      case measure => simp [intOf]; omega
    ·
      have hkn : k = L5.length := by omega
      subst hkn
      have d1 : decide ((L5.length : Int) < (L5.length : Int)) = false := decide_eq_false (by omega)
      have d1' : decide (L5.length < L5.length) = false := decide_eq_false (by omega)
      have HFC := Lib.hid (show (R.take L5.length).foldl (flLn cols) ⟨[], 0, 0⟩ = flRun cols place ax (A.map (·.2)) 0 [] (-1) ⟨[], 0, 0⟩ by rw [HLL.out, List.take_length]; exact HFD.out.symm)
      have HOB := Lib.hid (show ((R.take L5.length).foldl (flLn cols) ⟨[], 0, 0⟩).out.length ≤ 532120 by
        have h1 := HFI.out L5.length
        have h2 := lnTot_take R L5.length
        have h3 := HTOT.out
        have h5 : ((R.take L5.length).foldl (flLn cols) ⟨[], 0, 0⟩).out.length ≤ 0 + lnTot (R.take L5.length) := h1.2
        omega)
      generalize (R.take L5.length).foldl (flLn cols) ⟨[], 0, 0⟩ = st at *
      have HF := Lib.hid HFC.out.symm
      have HFIN := Lib.hid (flRun_i (place := place) (atx := ax) c1 g.cols (A.map (·.2)) (fun r hr => by
        obtain ⟨x, hx2, rfl⟩ := List.mem_map.1 hr
        exact HGC0.out x hx2) 0 [] (-1) ⟨[], 0, 0⟩ ⟨by simp, Int.le_refl 0, Int.le_refl 0⟩ (by simp))
      rw [HF.out] at HFIN
      have hpy : st.py < (st.out.length : Int) := HFIN.out.2 (fun e => by
        have h1 := congrArg List.length e
        rw [List.length_map, List.length_nil] at h1
        have := HNA.out.1
        omega)
      have hpy0 := HFIN.out.1.p0
      have hLs : L.length = st.out.length := by rw [← HS.out.er, List.length_map]
      have hLb : L.length ≤ 600000 := by have := HOB.out; omega
      have hsr := HS.out.gb.size
      have hs6 := HSZ6.out
      have HK6 := Lib.hid (blk_below HK5.out HB6.out (heap_lt HK5.out))
      have HRS6 := Lib.hid (blk_below HRS5.out HB6.out (heap_lt HRS5.out))
      have HBW6 := Lib.hid (HBW5.out.trans (HB6.out.mono HBW5.out.size))
      have hpk5 := heap_lt HK5.out
      have hrs5 := heap_lt HRS5.out
      have hpw : w.heap.size + 2 ≤ w5.heap.size := by omega
      have hpb5 : w5.heap.size < w6.heap.size := by omega
      generalize hpb : w5.heap.size = pb at *
      clear HFI HFC HFD HLL hlnl HL5 HE5 hpb
      go_upto_block 2 with fail
      go_cut [11] (fun vl wx => ∃ m : Nat, Hid (m ≤ L.length ∧ st.py < (m : Int)) ∧ Hid (trimR st.out.length st.out st.py = st.out.take m) ∧ Hid (RowsAt w6.heap.size wx vl (L.take m)) ∧ Hid (Below ws.heap.size ws wx))
      case first =>
        go_upto_region 12 with fail
        go_loopw [11] (fun vl wt => ∃ m : Nat, Hid (m ≤ L.length ∧ st.py < (m : Int)) ∧ Hid (trimR (st.out.take m).length (st.out.take m) st.py = trimR st.out.length st.out st.py) ∧ Hid (RowsAt w6.heap.size wt vl (L.take m)) ∧ Hid (Below ws.heap.size ws wt)) (fun vl _ => sliceLen vl)
        case atStart => exact ⟨L.length, ⟨Nat.le_refl _, by rw [hLs]; exact hpy⟩, by show _ = _; rw [hLs, List.take_length], by rw [List.take_length]; exact HS.out.ro, Below.refl _ _⟩
        case round =>
          obtain ⟨m, HM, HT, HRW, HBt⟩ := hrel
          obtain ⟨wt, rfl⟩ : ∃ wt, wt = wr := ⟨wr, rfl⟩
          have hml := HM.out.1
          have hmp := HM.out.2
          have hlm : (L.take m).length = m := by rw [List.length_take]; omega
          have hown := HRW.out.own
          rw [hlm] at hown
          obtain ⟨b, off, c, rfl, hn1, hn2⟩ := ownC_pos hown (by omega)
          have hbs := HBt.out.size
          have y1 : wt.cell? ⟨pb, 1, none⟩ = some (.int .i64 st.py) := cell_below HBt.out (blk_cell HS.out.pk 1)
          have hw5 : IntKind.i64.wrap ((m : Int) - 1) = (m : Int) - 1 := wrap64_id _ (by omega) (by omega)
          have hlo : (st.out.take m).length = m := by rw [List.length_take]; omega
          have HTS := Lib.hid (trimR_step (st.out.take m) st.py)
          rw [hlo] at HTS
          by_cases hm : st.py < (m : Int) - 1
          · have d2 : decide (st.py < (m : Int) - 1) = true := decide_eq_true hm
            have hm1 : m - 1 < L.length := by omega
            have hni : ((m - 1 : Nat) : Int) = (m : Int) - 1 := by omega
            obtain ⟨q0, q1⟩ := ownC_row2 hown (m - 1) (by rw [hlm]; omega)
            have hgx : (L.take m)[m - 1]'(by rw [hlm]; omega) = L[m - 1] := by rw [List.getElem_take]
            rw [hgx] at q0 q1
            have hix := idx_at (P := Tryz.prog) (size := 2) Tryz.underlying62 rowD_info b off m c (m - 1) (by omega)
            rw [hni] at hix
            have hsl := slice_h (P := Tryz.prog) (size := 2) Tryz.underlying62 rowD_info (some ⟨b, off, none⟩) m c (m - 1) (by omega)
            rw [hni] at hsl
            have hxm : L[m - 1] ∈ L.take m := by rw [← hgx]; exact List.getElem_mem _
            have HXC := Lib.hid (HRW.out.cells _ hxm)
            have HXO : Hid (st.out.getD (m - 1) noR = L[m - 1].2) := by
              show _ = _
              rw [← HS.out.er, List.getD_eq_getElem?_getD, List.getElem?_map, List.getElem?_eq_getElem hm1]; rfl
            have HXT : Hid ((st.out.take m).getD (m - 1) noR = L[m - 1].2) := by
              show _ = _
              rw [← HXO.out, List.getD_eq_getElem?_getD, List.getElem?_take, if_pos (by omega), ← List.getD_eq_getElem?_getD]
            have HXG := Lib.hid (show L[m - 1].2.Good cols from HFIN.out.1.good _ (by rw [← HS.out.er]; exact List.mem_map_of_mem (List.getElem_mem hm1)))
            have HPR := Lib.hid (HRW.out.pre hlm (m - 1) (by omega))
            rw [List.take_take, Nat.min_eq_left (by omega)] at HPR
            clear hown hxm hgx
            generalize L[m - 1] = x at *
            obtain ⟨xv, xr⟩ := x
            dsimp only at q0 q1
            have HXC2 := Lib.hid (show OwnC wt w6.heap.size 5 xv xr.cells.length (cvals xr.cells) from HXC.out)
            have HXG2 := Lib.hid (show xr.cells.length = cols from HXG.out.1)
            obtain ⟨xb, xo, xc, rfl, _, _⟩ := ownC_pos HXC2.out (by rw [HXG2.out]; exact c1)
            have hcl : xr.cells.length ≤ 1000000 := by have h1 : xr.cells.length = cols := HXG2.out; omega
            have HBR := Lib.hid (bareC xr)
            go_wp2_with fail
            refine (bareD_any xr.cells xr.wrap xb xo xc wt (cellsAt_own HXC2.out) hcl).mono ?_
            rintro e w8 ⟨rfl, b8⟩
            have HB8 := Lib.hid b8
            clear b8 q0 q1
            generalize hbb : (xr.cells.all isPlain && !xr.wrap) = bb at *
            have HBB := Lib.hid hbb
            clear hbb
            cases bb
            · go_wp2_with fail
              go_meet
              refine ⟨m, HM, ?_, HRW.out.below HB8.out, HBt.out.trans (HB8.out.mono hbs)⟩
              show _ = _
              rw [← HT.out, hlo, HTS.out, if_neg (fun e => by
                have h4 := e.2.2
                rw [HXT.out] at h4
                exact absurd (HBR.out.2 h4) (by decide))]
            · go_wp2_with fail
              go_roundw
              case rel =>
                refine ⟨m - 1, ⟨by omega, by omega⟩, ?_, HPR.out.below HB8.out, HBt.out.trans (HB8.out.mono hbs)⟩
                show _ = _
                rw [← HT.out, hlo, HTS.out, if_pos ⟨hm, fun e => by rw [e] at hlo; simp at hlo; omega, by rw [HXT.out]; exact HBR.out.1 (by trivial)⟩, List.take_take, Nat.min_eq_left (by omega)]
              case measure => (show m - 1 < m; omega)
          · have d2 : decide (st.py < (m : Int) - 1) = false := decide_eq_false hm
            go_wp2_with fail
            go_meet
            refine ⟨m, HM, ?_, HRW, HBt⟩
            show _ = _
            rw [← HT.out, hlo, HTS.out, if_neg (fun e => by have := e.1; omega)]
      case rest =>
      obtain ⟨m, HM, HTR, HRW, HBt⟩ := hcut
      obtain ⟨wt, rfl⟩ : ∃ wt, wt = wc := ⟨wc, rfl⟩
      have hml := HM.out.1
      have hmp := HM.out.2
      have hlm : (L.take m).length = m := by rw [List.length_take]; omega
      have hown := HRW.out.own
      rw [hlm] at hown
      obtain ⟨b, off, c, rfl, hn1, hn2⟩ := ownC_pos hown (by omega)
      have HOW := Lib.hid hown
      have hbs := HBt.out.size
      have HGT := Lib.hid (gb_below HS.out.gb HBt.out hsr)
      have y0 : wt.cell? ⟨pb, 0, none⟩ = some (.int .i64 st.px) := cell_below HBt.out (blk_cell HS.out.pk 0)
      have y1 : wt.cell? ⟨pb, 1, none⟩ = some (.int .i64 st.py) := cell_below HBt.out (blk_cell HS.out.pk 1)
      have HKT := Lib.hid (blk_grown HK6.out HGT.out (fun e => by injection e with e; omega))
      have HRT := Lib.hid (blk_grown HRS6.out HGT.out (fun e => by injection e with e; omega))
      have hw5 : IntKind.i64.wrap ((m : Int) - (rows : Int)) = (m : Int) - (rows : Int) := wrap64_id _ (by omega) (by omega)
      clear hown
      go_upto_region 17 with fail
      obtain ⟨f, hf⟩ : ∃ f : Nat, min (max 0 ((m : Int) - (rows : Int))) st.py = (f : Int) := ⟨(min (max 0 ((m : Int) - (rows : Int))) st.py).toNat, by omega⟩
      have HFF := Lib.hid hf
      have hf2 : min (max ((m : Int) - (rows : Int)) 0) st.py = (f : Int) := by omega
      rw [hf2]
      clear hf2
      have hfm : f < m := by omega
      have hfp : (f : Int) ≤ st.py := by omega
      clear hf
      have c3 : wt.cell? ⟨p, 3, none⟩ = some vo := blk_cell HKT.out 3
      have f3 : wt.frozen? ⟨p, 3, none⟩ = false := blk_free HKT.out 3
      have HGU := Lib.hid (show wt.grownBy (wt.setCell ⟨p, 3, none⟩ (.slice none 0 0)) (some p) from gb_set (gb_refl _ _) _ _)
      have HKU := Lib.hid (blk_set HKT.out 3 (.slice none 0 0))
      have hsl := slice_h (P := Tryz.prog) (size := 2) Tryz.underlying62 rowD_info (some ⟨b, off, none⟩) m c f (by omega)
      have hszu : (wt.setCell ⟨p, 3, none⟩ (.slice none 0 0)).heap.size = wt.heap.size := by simp
      have hbw : w6.heap.size ≤ b := (ownC_lt HOW.out b rfl).1
      clear y0 y1 hw5
      go_upto_region 18 with fail
      have HKU2 := Lib.hid (show (wt.setCell ⟨p, 3, none⟩ (.slice none 0 0)).heap[p]? = some (.cells #[.int .i64 g.cols, .int .i64 g.limit, vr, .slice none 0 0] 65 (0, 0)) from HKU.out)
      clear HKU c3 f3
      generalize wt.setCell ⟨p, 3, none⟩ (.slice none 0 0) = wu at *
      have HOU := Lib.hid (ownC_grown HOW.out HGU.out (fun q hq e => by injection e with e; have := (ownC_lt HOW.out q hq).1; omega))
      have HONE := Lib.hid (rowsAt_one HRW.out)
      have hlf : (L.take f).length = f := by rw [List.length_take]; omega
      have HRF := Lib.hid (show Reads wu 2 (.slice (some ⟨b, off, none⟩) f c) (L.take f).length (rowVals (L.take f)) by
        have h1 := ownC_reads (ownC_pre HOU.out f (by omega))
        rw [rowVals_take, List.take_take, Nat.min_eq_left (by omega)] at h1
        rw [hlf]; exact h1)
      have hgl : g.limit ≤ 2000 := HG0.out.wf.li
      go_wp2_with fail
      refine (keepD_any p g.cols g.limit vr (.slice none 0 0) _ ([] : List (Value × Rw)) (L.take f) wu HKU2.out (ownC_nil _ _ _) (by simp [Value.ownBlock]) HRF.out (by simp [rowVals]) (fun u hu => HONE.out u (by
        have h1 : L.take f = (L.take m).take f := by rw [List.take_take, Nat.min_eq_left (by omega)]
        rw [h1, ← rowVals_take] at hu
        exact List.mem_of_mem_take hu)) (by simp) (by omega) (by omega)).mono ?_
      rintro e wv ⟨rfl, hW, vo2, hk3, ho3, hn3⟩
      rw [List.nil_append] at ho3
      have HGV := Lib.hid (within_gb hW)
      have HK3 := Lib.hid hk3
      have HO3 := Lib.hid ho3
      have HN3 := Lib.hid (show ∀ k, vo2.ownBlock = some k → wu.heap.size ≤ k from fun k hk => by
        rcases hn3 k hk with e | e
        · simp [Value.ownBlock] at e
        · exact e)
      clear hW hk3 ho3 hn3
      have HOV := Lib.hid (ownC_grown HOU.out HGV.out (fun q hq e => by injection e with e; have := (ownC_lt HOW.out q hq).1; omega))
      have hsv := HGV.out.size
      have hw6 : IntKind.i64.wrap ((f : Int) + (rows : Int)) = (f : Int) + (rows : Int) := wrap64_id _ (by omega) (by omega)
      obtain ⟨e9, he9⟩ : ∃ e9 : Nat, min (m : Int) ((f : Int) + (rows : Int)) = (e9 : Int) := ⟨min m (f + rows), by omega⟩
      have h91 : f < e9 := by omega
      have h92 : e9 ≤ m := by omega
      have h93 : e9 ≤ f + rows := by omega
      have HE9 := Lib.hid (show e9 = m ∨ e9 = f + rows by omega)
      obtain ⟨a9, hsl9, ha9⟩ := slice_lh' (P := Tryz.prog) (size := 2) Tryz.underlying62 rowD_info b off m c f e9 (by omega) (by omega)
      have ha8 := ha9 h91
      subst ha8
      clear ha9
      have HRM := Lib.hid (reads_sub HOV.out f e9 (c - f) ⟨b, off + f * 2, none⟩ (fun _ => rfl) (by omega) h92)
      obtain ⟨d, hd⟩ : ∃ d, e9 - f = d := ⟨_, rfl⟩
      have hlM : (((L.take m).drop f).take d).length = d := by rw [List.length_take, List.length_drop, hlm]; omega
      have HRD9 := Lib.hid (show Reads wv 2 (.slice (some ⟨b, off + f * 2, none⟩) d (c - f)) d (rowVals (((L.take m).drop f).take d)) by
        have h1 := HRM.out
        rw [rowVals_drop, rowVals_take, hd] at h1
        exact h1)
      have HON9 := Lib.hid (show ∀ u ∈ rowVals (((L.take m).drop f).take d), u.oneCell' = true from fun u hu => HONE.out u (by
          rw [← rowVals_take, ← rowVals_drop] at hu
          exact List.mem_of_mem_drop (List.mem_of_mem_take hu)))
      rw [hd] at hsl9
      have HD := Lib.hid hd
      have hdb0 : d ≤ 120 := by omega
      clear hd
      have k3 : wv.cell? ⟨p, 3, none⟩ = some vo2 := blk_cell HK3.out 3
      have j2 : wv.cell? ⟨p, 2, none⟩ = some vr := blk_cell HK3.out 2
      have g2 : wv.frozen? ⟨p, 2, none⟩ = false := blk_free HK3.out 2
      have hBe := (Below.refl wv.heap.size wv).alloc (Nat.le_refl _) (.cells #[] 96)
      have HBe := Lib.hid hBe
      have hpv0 := heap_lt HK3.out
      clear hBe
      go_wp2_with (at_builtin; refine held ?_)
      unfold Held
      refine wpList_appD rowsD_elem rfl rfl wv.heap.size (own_empty wv 96 2) rfl (by
        rcases HRD9.out with ⟨h1, _⟩ | ⟨a, cc, h1, h2, h3⟩
        · exact absurd h1 (by simp)
        · refine .inr ⟨a, cc, h1, h2, fun j u hu => ?_⟩
          exact cell_below HBe.out (h3 j u hu)) rfl HON9.out (by unfold maxLen; omega) (by omega) (by simp) ?_
      rw [List.nil_append, Nat.zero_add]
      intro v10 wx ox gx nx
      obtain ⟨ra9, rc9, rfl⟩ := ownC_sl ox
      have HBX := Lib.hid (show Below wv.heap.size wv wx from HBe.out.grown gx HBe.out.size (fun q hq => by simp only [Value.ownBlock] at hq; injection hq with hq; omega))
      have HOX := Lib.hid ox
      have hkx := blk_below HK3.out HBX.out (heap_lt HK3.out)
      have j2 : wx.cell? ⟨p, 2, none⟩ = some vr := blk_cell hkx 2
      have g2 : wx.frozen? ⟨p, 2, none⟩ = false := blk_free hkx 2
      have HKX := Lib.hid hkx
      have hsx := HBX.out.size
      clear ox gx nx hkx k3 hw6 HRM
      go_upto_region 21 with fail
      have HGY := Lib.hid (show wx.grownBy (wx.setCell ⟨p, 2, none⟩ (.slice ra9 d rc9)) (some p) from gb_set (gb_refl _ _) _ _)
      have HKY := Lib.hid (show (wx.setCell ⟨p, 2, none⟩ (.slice ra9 d rc9)).heap[p]? = some (.cells #[.int .i64 g.cols, .int .i64 g.limit, .slice ra9 d rc9, vo2] 65 (0, 0)) from blk_set HKX.out 2 _)
      have hsy : (wx.setCell ⟨p, 2, none⟩ (.slice ra9 d rc9)).heap.size = wx.heap.size := by simp
      clear j2 g2 HKX
      generalize wx.setCell ⟨p, 2, none⟩ (.slice ra9 d rc9) = wy at *
      have HOY := Lib.hid (ownC_grown HOX.out HGY.out (fun q hq e => by have := (ownC_lt HOX.out q hq).1; injection e with e; omega))
      have hdr : d ≤ rows := by have := HD.out; omega
      obtain ⟨rn, hrn⟩ : ∃ rn : Nat, rn + d = rows := ⟨rows - d, by omega⟩
      have HRN := Lib.hid hrn
      have hw7 : IntKind.i64.wrap ((rows : Int) - (d : Int)) = (rn : Int) := by rw [wrap64_id _ (by omega) (by omega)]; omega
      have hrb : rn ≤ 120 := by omega
      have hdb : d ≤ 120 := by omega
      have hpv : p < wv.heap.size := by omega
      have hvy : wv.heap.size ≤ wy.heap.size := by omega
      clear hrn
      generalize hMM : ((L.take m).drop f).take d = M at *
      have HMM := Lib.hid hMM
      clear hMM
      go_cut [] (fun wz => ∃ (v9 : Value) (L4 : List (Value × Rw)), Hid (wv.grownBy wz (some p)) ∧ Hid (wz.heap[p]? = some (.cells #[.int .i64 g.cols, .int .i64 g.limit, v9, vo2] 65 (0, 0))) ∧ Hid (OwnC wz wv.heap.size 2 v9 (d + L4.length) (rowVals (M ++ L4))) ∧
        Hid (L4.map (·.2) = freshL rn cols plainS) ∧ Hid ((∀ x ∈ L4, OwnC wz wy.heap.size 5 x.1 x.2.cells.length (cvals x.2.cells) ∧ ∃ q, x.1.ownBlock = some q ∧ v9.ownBlock ≠ some q) ∧ (L4.map (·.1.ownBlock)).Nodup))
      case first =>
        have k2 : wy.cell? ⟨p, 2, none⟩ = some (.slice ra9 d rc9) := blk_cell HKY.out 2
        have g2 : wy.frozen? ⟨p, 2, none⟩ = false := blk_free HKY.out 2
        have hln := ownC_ln Tryz.underlying62 HOY.out
        refine wpL_begin (c := 18) (S := (fun bb w' => True ∧ (bb = false → w'.cell? ⟨p, 2, none⟩ = some (.slice ra9 d rc9)))) (by kernel_rfl) (⟨trivial, fun _ => k2⟩) (fun _ => ?_)
        refine wpL_tk false 0 (⟨trivial, fun _ => k2⟩) ?_
        refine wpL_tk false 1 (⟨trivial, fun _ => k2⟩) ?_
        refine wpL_tk false 2 (⟨trivial, fun _ => k2⟩) ?_
        refine wpL_tk false 3 (⟨trivial, fun _ => k2⟩) ?_
        refine wpL_td 4 (⟨trivial, fun _ => k2⟩) ?_
        refine wpL_tk false 5 (⟨trivial, fun _ => k2⟩) ?_
        refine wpL_tk false 6 (⟨trivial, fun _ => k2⟩) ?_
        refine wpL_tk false 7 (⟨trivial, fun _ => k2⟩) ?_
        refine wpL_tk false 8 (⟨trivial, fun _ => k2⟩) ?_
        refine wpL_td 9 (⟨trivial, fun _ => k2⟩) ?_
        refine wpL_tk false 10 (⟨trivial, fun _ => k2⟩) ?_
        refine wpL_tk false 11 (⟨trivial, fun _ => k2⟩) ?_
        refine wpL_tk false 12 (⟨trivial, fun _ => k2⟩) ?_
        refine wpL_on false 13 fun K hK => ?_
        refine wanted_on rfl ?_
        go_wp2_with fail
        refine (refPlain_any wy.drew).mono ?_
        rintro e wp ⟨rfl, bp⟩
        have k2p : wp.cell? ⟨p, 2, none⟩ = some (.slice ra9 d rc9) := cell_below bp k2
        have HBP := Lib.hid (show Below wy.heap.size wy wp from (Below.refl wy.heap.size wy).drew.trans bp)
        refine hK.out _ _ (⟨trivial, fun _ => k2p⟩) (fun _ => ?_)
        clear hK K bp
        try simp only [Act.put, List.setIfInBounds_toArray, List.set_cons_zero, List.set_cons_succ]
        refine wpL_on false 14 fun K hK => ?_
        refine wanted_on rfl ?_
        go_wp2_with fail
        refine (rowsD_any rn cols plainS wp (by omega) (by omega) (by omega)).mono ?_
        rintro e wq ⟨v4, L4, rfl, b4, e4, r4⟩
        have k2q : wq.cell? ⟨p, 2, none⟩ = some (.slice ra9 d rc9) := cell_below b4 k2p
        have HBQ := Lib.hid (HBP.out.trans (b4.mono HBP.out.size))
        have hl4 : L4.length = rn := by
          have h1 := congrArg List.length e4
          unfold freshL at h1
          rw [List.length_map, List.length_replicate] at h1
          exact h1
        have HL4 := Lib.hid hl4
        have HSQ := Lib.hid (show wy.heap.size ≤ wp.heap.size from HBP.out.size)
        have HE4 := Lib.hid e4
        have HR4 := Lib.hid r4
        refine hK.out _ _ (⟨trivial, fun _ => k2q⟩) (fun _ => ?_)
        clear hK K b4 e4 r4 hl4
        try simp only [Act.put, List.setIfInBounds_toArray, List.set_cons_zero, List.set_cons_succ]
        refine wpL_on false 15 fun K hK => ?_
        apply step_appS rowsD_elem
        case hgd => rfl
        case ho => rfl
        case hown => exact ownC_below HOY.out HBQ.out
        case hs => rfl
        case hr => exact src_reads Tryz.underlying62 (ownC_reads HR4.out.own) (rowsAt_one HR4.out)
        case hx => rfl
        case h63 => (have := HL4.out; unfold maxLen; omega)
        case hbytes => (have := HL4.out; omega)
        case hbase => (have := HBQ.out.size; omega)
        intro v7 w7 o7 g7 n7
        obtain ⟨a7, c7, rfl⟩ := ownC_sl o7
        have hne7 : (Value.slice ra9 d rc9).ownBlock ≠ some p := fun e => by have := (ownC_lt HOY.out _ e).1; omega
        have k27 : w7.cell? ⟨p, 2, none⟩ = some (.slice ra9 d rc9) := cell_grown g7 k2q hne7
        have f27 : w7.frozen? ⟨p, 2, none⟩ = false := frozen_grown g7 (frozen_below HBQ.out k2 g2) (cell_lt k2q) hne7
        have HO7 := Lib.hid o7
        have HG7 := Lib.hid g7
        have HN7 := Lib.hid n7
        have HNE7 := Lib.hid hne7
        refine hK.out _ _ (⟨trivial, fun _ => k27⟩) (fun _ => ?_)
        clear hK K o7 g7 n7 hne7
        try simp only [Act.put, List.setIfInBounds_toArray, List.set_cons_zero, List.set_cons_succ]
        refine wpL_tk false 16 (⟨trivial, fun _ => k27⟩) ?_
        refine wpL_tk false 17 (⟨trivial, fun _ => k27⟩) ?_
        refine wpL_on true 18 fun K hK => ?_
        refine wanted_on rfl ?_
        go_wp2_with fail
        refine hK.out _ _ (⟨trivial, fun e => by cases e⟩) (fun _ => ?_)
        clear hK K 
        try simp only [Act.put]
        refine wpL_done (by kernel_rfl) ?_ _
        have hvn : ∀ k, (Value.slice ra9 d rc9).ownBlock = some k → wv.heap.size ≤ k ∧ k < wy.heap.size := fun k hk => ownC_lt HOY.out k hk
        have hv9 : ∀ k, (Value.slice a7 (d + L4.length) c7).ownBlock = some k → (wv.heap.size ≤ k ∧ k < wy.heap.size) ∨ wq.heap.size ≤ k := fun k hk => by
          rcases HN7.out k hk with e | e
          · exact .inl (hvn k e)
          · exact .inr e
        have hqq := HBQ.out.size
        have hpq := HSQ.out
        have g8 : w7.grownBy (w7.setCell ⟨p, 2, none⟩ (.slice a7 (d + L4.length) c7)) (some p) := gb_set (gb_refl _ _) _ _
        have HGZ := Lib.hid (show wv.grownBy (w7.setCell ⟨p, 2, none⟩ (.slice a7 (d + L4.length) c7)) (some p) from
          gb_trans (gb_trans_new (gb_trans (gb_trans (gb_of_below (some p) HBX.out) HGY.out) (gb_of_below (some p) HBQ.out)) HG7.out (fun q hq => (hvn q hq).1)) g8)
        have HKZ := Lib.hid (show (w7.setCell ⟨p, 2, none⟩ (.slice a7 (d + L4.length) c7)).heap[p]? = some (.cells #[.int .i64 g.cols, .int .i64 g.limit, .slice a7 (d + L4.length) c7, vo2] 65 (0, 0)) from
          blk_set (blk_grown (blk_below HKY.out HBQ.out (by omega)) HG7.out (fun e => HNE7.out e.symm)) 2 _)
        have HOZ := Lib.hid (show OwnC (w7.setCell ⟨p, 2, none⟩ (.slice a7 (d + L4.length) c7)) wv.heap.size 2 (.slice a7 (d + L4.length) c7) (d + L4.length) (rowVals (M ++ L4)) by
          rw [rowVals_append]
          exact ownC_grown HO7.out g8 (fun k hk e => by
            injection e with e
            rcases hv9 k hk with e2 | e2
            · omega
            · omega))
        have HC4 := Lib.hid (show (∀ x ∈ L4, OwnC (w7.setCell ⟨p, 2, none⟩ (.slice a7 (d + L4.length) c7)) wy.heap.size 5 x.1 x.2.cells.length (cvals x.2.cells) ∧ ∃ q, x.1.ownBlock = some q ∧ (Value.slice a7 (d + L4.length) c7).ownBlock ≠ some q) ∧ (L4.map (·.1.ownBlock)).Nodup from ⟨fun x hx => by
            have hc := HR4.out.cells x hx
            have hcl := ownC_lt hc
            refine ⟨ownC_mono (ownC_grown (ownC_grown hc HG7.out (fun k hk e => ?_)) g8 (fun k hk e => ?_)) hpq, ?_⟩
            · have h1 := (hcl k hk).1
              have h2 := (hvn k e).2
              omega
            · have h1 := (hcl k hk).1
              injection e with e
              omega
            · obtain ⟨q, h1, _⟩ := HR4.out.ap x hx
              refine ⟨q, h1, fun e => ?_⟩
              have h3 := hcl q h1
              rcases hv9 q e with e2 | e2
              · omega
              · omega, HR4.out.nd⟩)
        clear hvn hv9 g8 k2 k2p k2q k27 f27 g2
        go_wp2_with fail
        go_meet
        exact ⟨_, L4, HGZ, HKZ, HOZ, HE4, HC4⟩
      case rest =>
        obtain ⟨v9, L4, HGZ, HKZ, HOZ, HE4, HC4⟩ := hcut
        obtain ⟨wz, rfl⟩ : ∃ wz, wz = wc := ⟨wc, rfl⟩
        have j0 : wz.cell? ⟨p, 0, none⟩ = some (.int .i64 g.cols) := blk_cell HKZ.out 0
        have g0 : wz.frozen? ⟨p, 0, none⟩ = false := blk_free HKZ.out 0
        have hgp : (wz.setCell ⟨p, 0, none⟩ (.int .i64 cols)).heap[p]? = some (.cells #[.int .i64 cols, .int .i64 g.limit, v9, vo2] 65 (0, 0)) := blk_set HKZ.out 0 _
        have HGZ2 := Lib.hid (gb_set HGZ.out 0 (.int .i64 cols))
        have HG9 := Lib.hid (show wz.grownBy (wz.setCell ⟨p, 0, none⟩ (.int .i64 cols)) (some p) from gb_set (gb_refl _ _) _ _)
        have HKF := Lib.hid hgp
        have hszz : (wz.setCell ⟨p, 0, none⟩ (.int .i64 cols)).heap.size = wz.heap.size := by simp
        clear hgp
        go_upto_region 23 with fail
        generalize wz.setCell ⟨p, 0, none⟩ (.int .i64 cols) = wf at *
        clear j0 g0
        have HGA := Lib.hid (gb_trans (gb_trans HGU.out HGV.out) HGZ2.out)
        have hpp : p ≠ pb := by omega
        have y0 : wf.cell? ⟨pb, 0, none⟩ = some (.int .i64 st.px) := cell_grown HGA.out (cell_below HBt.out (blk_cell HS.out.pk 0)) (fun e => hpp (by injection e))
        have y1 : wf.cell? ⟨pb, 1, none⟩ = some (.int .i64 st.py) := cell_grown HGA.out (cell_below HBt.out (blk_cell HS.out.pk 1)) (fun e => hpp (by injection e))
        have hpb2 : st.py ≤ 600000 := by omega
        have hw8 : IntKind.i64.wrap (st.py - (f : Int)) = st.py - (f : Int) := wrap64_id _ (by omega) (by omega)
        have hrf := blk_grown HRT.out HGA.out (fun e => by injection e with e; omega)
        have hst := run_storeVar_row (P := Tryz.prog) wf (w.heap.size + 1) 51 51 _ #[.int .i64 st.px, .int .i64 (st.py - (f : Int))] hrf (by kernel_rfl) rfl (by simp [Value.oneCell'])
        have hr2' := setRow_blk (cells := #[.int .i64 st.px, .int .i64 (st.py - (f : Int))]) hrf
        have HGE := Lib.hid (gb_setRow wf (w.heap.size + 1) #[.int .i64 st.px, .int .i64 (st.py - (f : Int))])
        clear hrf
        -- what it is
        have HFLOW := Lib.hid (show g.flow cols rows ax ay = (⟨cols, g.limit, ((st.out.take m).drop f).take rows ++ freshL (rows - (((st.out.take m).drop f).take rows).length) cols plainS, keepL g.limit ((st.out.take m).take f)⟩, st.px, st.py - (f : Int)) by
          have h1 : flRun cols ((g.old.length : Int) + ay) ax (g.old ++ g.rows) 0 [] (-1) ⟨[], 0, 0⟩ = st := by rw [← HPL.out, ← HA2.out]; exact HF.out
          have h2 : (st.out.take m).length = m := by rw [List.length_take]; omega
          unfold Gr.flow
          simp only [h1, HTR.out, h2, HFF.out, Int.toNat_natCast])
        have hom : (st.out.take m).length = m := by rw [List.length_take]; omega
        have hdm : (((st.out.take m).drop f).take rows).length = d ∧ ((st.out.take m).drop f).take rows = ((st.out.take m).drop f).take d := by
          have h1 : ((st.out.take m).drop f).length = m - f := by rw [List.length_drop, hom]
          have h2 := HD.out
          have h3 := HRN.out
          generalize (st.out.take m).drop f = R at h1 ⊢
          rcases HE9.out with e | e
          · have : d = m - f := by omega
            refine ⟨by rw [List.length_take, h1]; omega, ?_⟩
            rw [List.take_of_length_le (by rw [h1]; omega), List.take_of_length_le (by rw [h1]; omega)]
          · have : d = rows := by omega
            rw [this]
            exact ⟨by rw [List.length_take, h1]; omega, rfl⟩
        have HDM := Lib.hid hdm
        have HFIN2 := Lib.hid (show ∃ T', RM T' p (wf.setRow (w.heap.size + 1) #[.int .i64 st.px, .int .i64 (st.py - (f : Int))]) (g.flow cols rows ax ay).1 ∧ ∀ k, T' k ≠ 0 → own T w k by
          rw [HFLOW.out]
          have hall : ∀ {base size n : Nat} {v : Value} {xs : List Value}, OwnC wf base size v n xs → (∀ k, v.ownBlock = some k → w.heap.size + 2 ≤ k) → OwnC (wf.setRow (w.heap.size + 1) #[.int .i64 st.px, .int .i64 (st.py - (f : Int))]) 0 size v n xs := fun h1 h2 =>
            ownC_mono (ownC_grown h1 HGE.out (fun k hk e => by injection e with e; have := h2 k hk; omega)) (Nat.zero_le _)
          have hwz : wv.heap.size ≤ wf.heap.size := HGZ2.out.size
          have hle := HGE.out.size
          have hmt : (L.take m).take f = L.take f := by rw [List.take_take, Nat.min_eq_left (by omega)]
          refine flowD_build (L := L.take m) (L4 := L4) (f := f) (d := d) (C := wu.heap.size) (C2 := wv.heap.size) (out := st.out.take m) (v9 := v9) (vo2 := vo2) HG0.out (by omega) hsv (by omega) ?_ (fun x hx => ?_) HRW.out.nd ?_ (fun k hk => ⟨HN3.out k hk, (ownC_lt HO3.out k hk).2⟩) ?_ (fun k hk => (ownC_lt HOZ.out k hk).1) (fun x hx => ?_) HC4.out.2 (by rw [List.map_take, HS.out.er]) (by rw [HDM.out.1]; have h3 := HRN.out; rw [show rows - d = rn by omega]; exact HE4.out) HDM.out.2 ?_
          · exact blk_grown HKF.out HGE.out (fun e => by injection e with e; omega)
          · obtain ⟨q, h1, h2⟩ := HRW.out.ap x hx
            have h3 := ownC_lt (HRW.out.cells x hx) q h1
            refine ⟨hall (ownC_grown (HRW.out.cells x hx) HGA.out (fun k hk e => ?_)) (fun k hk => ?_), q, h1, by omega, by omega⟩
            · have h4 := (ownC_lt (HRW.out.cells x hx) k hk).1
              injection e with e
              omega
            · have h4 := (ownC_lt (HRW.out.cells x hx) k hk).1
              omega
          · rw [hmt]
            refine hall (ownC_grown HO3.out HGZ2.out (fun k hk e => ?_)) (fun k hk => ?_)
            · have h4 := HN3.out k hk
              injection e with e
              omega
            · have h4 := HN3.out k hk
              omega
          · rw [HMM.out]
            have h5 : (M ++ L4).length = d + L4.length := by rw [List.length_append, hlM]
            rw [h5]
            refine hall (ownC_grown HOZ.out HG9.out (fun k hk e => ?_)) (fun k hk => ?_)
            · have h4 := (ownC_lt HOZ.out k hk).1
              injection e with e
              omega
            · have h4 := (ownC_lt HOZ.out k hk).1
              omega
          · obtain ⟨h6, q, h7, h8⟩ := HC4.out.1 x hx
            refine ⟨hall (ownC_grown h6 HG9.out (fun k hk e => ?_)) (fun k hk => ?_), q, h7, ?_, h8⟩
            · have h4 := (ownC_lt h6 k hk).1
              injection e with e
              omega
            · have h4 := (ownC_lt h6 k hk).1
              omega
            · have h4 := (ownC_lt h6 q h7).1
              omega
          · exact flow_wf HG0.out.wf cols rows (st.out.take m) f c1 c2 r1 r2 (fun r hr => HFIN.out.1.good r (List.mem_of_mem_take hr)))
        have HWI := Lib.hid (show Within (own T w) w (wf.setRow (w.heap.size + 1) #[.int .i64 st.px, .int .i64 (st.py - (f : Int))]) from by
          have hp1 : own T w p := .inl (by rw [HG0.out.tp]; decide)
          exact (((Within.of_below HBW6.out).trans (Within.of_gb HGT.out (fun k hk => by injection hk with hk; subst hk; exact .inr (by omega)))).trans (Within.of_gb HGA.out (fun k hk => by injection hk with hk; subst hk; exact hp1))).trans
            (Within.of_gb HGE.out (fun k hk => by injection hk with hk; subst hk; exact .inr (by omega))))
        go_wp2_with (refine wpList_storeR rfl _ _ _ rfl hst rfl rfl ?_)
        (try simp only [Exit.inBlock, Exit.then])
        exact retRow rfl rfl rfl hr2' Tryz.underlying51 rfl (by kernel_rfl) ⟨by rw [HFLOW.out], HWI.out, HFIN2.out⟩
end Go.Proofs.YtjclgoiclbkgjaaGreatDoor
