import Derived.Test.YtjclgoiclbkgjaaGreatDoorK13
import Derived.Deep.CutBlock
/- Walks of package grid: Resize, where the rows are cut or filled. -/
namespace Go.Proofs.YtjclgoiclbkgjaaGreatDoor
open Go.RowKit
attribute [local go_sem ↓] Go.wp_at_zero Go.wp_at_succ

theorem map_step {α β : Type} (f : α → β) (F : β → β) (A B : List α) (x y : α) (l : List β) (k : Nat) (hk : A.length = k) (hm : (A ++ x :: B).map f = (l.take k).map F ++ l.drop k) (hy : f y = F (f x)) :
    f x ∈ l ∧ (A ++ y :: B).map f = (l.take (k + 1)).map F ++ l.drop (k + 1) := by
  have hl : l.length = A.length + 1 + B.length := by
    have := congrArg List.length hm
    simp at this
    omega
  have hkl : k < l.length := by omega
  have h1 : l.drop k = l[k] :: l.drop (k + 1) := List.drop_eq_getElem_cons hkl
  have h2 : l.take (k + 1) = l.take k ++ [l[k]] := List.take_succ_eq_append_getElem hkl
  rw [List.map_append, List.map_cons, h1] at hm
  have hlen : (A.map f).length = ((l.take k).map F).length := by
    rw [List.length_map, List.length_map, List.length_take]; omega
  obtain ⟨e1, e2⟩ := List.append_inj hm hlen
  injection e2 with e2 e3
  refine ⟨by rw [e2]; exact List.getElem_mem hkl, ?_⟩
  rw [List.map_append, List.map_cons, h2, List.map_append, e1, hy, e2, e3]
  simp
theorem idx_two (x y : Option Addr) (n c m d : Nat) (w : World) : (Instr.index 92 (.agg #[.slice x n c, .slice y m d]) (.int .i64 0)).run Tryz.prog w = .ok (.slice x n c) w ∧ (Instr.index 92 (.agg #[.slice x n c, .slice y m d]) (.int .i64 1)).run Tryz.prog w = .ok (.slice y m d) w := by
  have hs : (Tryz.prog.info? 57).map (·.size) = some 1 := by kernel_rfl
  have h1 : (sizeOf 57).run Tryz.prog w = .ok 1 w := run_sizeN hs w
  constructor
  · simp [Instr.index, run_underlying Tryz.underlying92, asIntOf, go_sem, h1]
  · simp [Instr.index, run_underlying Tryz.underlying92, asIntOf, go_sem, h1]
set_option maxRecDepth 100000 in
set_option maxHeartbeats 8000000 in
theorem resizeC_any {T : Nat → Nat} {p : Nat} {w : World} {g : Gr} (h : GM T p w g) (cols rows : Nat) (ax ay : Int) (c1 : 1 ≤ cols) (c2 : cols ≤ 250) (r1 : 1 ≤ rows) (r2 : rows ≤ 120) :
    Calls Tryz.prog 15 #[.pointer (some ⟨p, 0, none⟩), .int .i64 cols, .int .i64 rows, .agg #[.int .i64 ax, .int .i64 ay], .bool false] w fun e w' =>
      e = .returned (.tuple #[.agg #[.int .i64 (g.resize cols rows ax ay false).2.1, .int .i64 (g.resize cols rows ax ay false).2.2], .int .i64 0]) ∧ Within (own T w) w w' ∧ ∃ T', GM T' p w' (g.resize cols rows ax ay false).1 ∧ ∀ k, T' k ≠ 0 → own T w k := by
  have hmay : mayG (cols : Int) (rows : Int) = true := by unfold mayG; simp; omega
  obtain ⟨vr, vo, Lr, Lo, h0⟩ := h
  have hlr := (rows_len h0).1
  have wf := h0.wf
  have hr2 : Lr.length ≤ 120 := by have := wf.r2; omega
  have hr1 : 1 ≤ Lr.length := by have := wf.r1; omega
  have hg1 := wf.c1
  have hg2 := wf.c2
  have hpl := heap_lt h0.blk
  have HB1 := Lib.hid (show Below w.heap.size w ((w.alloc (.cells #[.int .i64 ax, .int .i64 ay] 51)).alloc (.cells #[.int .i64 0, .int .i64 0] 51)) from Below.alloc (Below.alloc (Below.refl w.heap.size w) (Nat.le_refl _) _) (by simp) _)
  have HAT := Lib.hid (blk_alloc (blk_new w (.cells #[.int .i64 ax, .int .i64 ay] 51)) (.cells #[.int .i64 0, .int .i64 0] 51))
  have HRS := Lib.hid (blk_new2 w (.cells #[.int .i64 ax, .int .i64 ay] 51) (.cells #[.int .i64 0, .int .i64 0] 51))
  have HG0 := Lib.hid h0
  have HLR := Lib.hid hlr
  have hsz : ((w.alloc (.cells #[.int .i64 ax, .int .i64 ay] 51)).alloc (.cells #[.int .i64 0, .int .i64 0] 51)).heap.size = w.heap.size + 2 := by simp
  clear h0 wf hlr
  go_enter Tryz.func15, Tryz.ntmps15
  go_upto_region 1 with fail
  generalize (w.alloc (.cells #[.int .i64 ax, .int .i64 ay] 51)).alloc (.cells #[.int .i64 0, .int .i64 0] 51) = wa at *
  go_wp2_with fail
  refine (may_any cols rows wa).mono ?_
  rintro e w2 ⟨rfl, hw2⟩
  subst hw2
  obtain ⟨wa, rfl⟩ : ∃ wa, wa = w2 := ⟨w2, rfl⟩
  have HG1 := Lib.hid (HG0.out.mod (.of_below HB1.out) id id id (fun _ => id))
  obtain ⟨k0, k1, k2, k3⟩ := gm_cells HG1.out
  have a0 : wa.cell? ⟨w.heap.size, 0, none⟩ = some (.int .i64 ax) := blk_cell HAT.out 0
  have z0 : wa.frozen? ⟨w.heap.size, 0, none⟩ = false := blk_free HAT.out 0
  have hwr1 : IntKind.i64.wrap ((g.cols : Int) - 1) = (g.cols : Int) - 1 := wrap64_id _ (by omega) (by omega)
  have hwr2 : IntKind.i64.wrap ((Lr.length : Int) - 1) = (Lr.length : Int) - 1 := wrap64_id _ (by omega) (by omega)
  go_upto_region 3 with fail
  refine wpL_begin (c := 10) (S := (fun bb w' => w'.cell? ⟨p, 0, none⟩ = some (.int .i64 g.cols) ∧ (bb = false → w'.cell? ⟨w.heap.size, 0, none⟩ = some (.int .i64 ax)))) (by kernel_rfl) (⟨k0, fun _ => a0⟩) (fun _ => ?_)
  refine wpL_tk false 0 (⟨k0, fun _ => a0⟩) ?_
  refine wpL_td 1 (⟨k0, fun _ => a0⟩) ?_
  refine wpL_tk false 2 (⟨k0, fun _ => a0⟩) ?_
  refine wpL_tk false 3 (⟨k0, fun _ => a0⟩) ?_
  refine wpL_tk false 4 (⟨k0, fun _ => a0⟩) ?_
  refine wpL_tk false 5 (⟨k0, fun _ => a0⟩) ?_
  refine wpL_tk false 6 (⟨k0, fun _ => a0⟩) ?_
  refine wpL_tk false 7 (⟨k0, fun _ => a0⟩) ?_
  refine wpL_tk false 8 (⟨k0, fun _ => a0⟩) ?_
  refine wpL_tk false 9 (⟨k0, fun _ => a0⟩) ?_
  refine wpL_on true 10 fun K hK => ?_
  refine wanted_on rfl ?_
  go_wp2_with fail
  refine hK.out _ _ (⟨cell_grown (gb_set (gb_refl _ _) _ _) k0 (fun e => by injection e with e; omega), fun e => by cases e⟩) (fun _ => ?_)
  clear hK K 
  try simp only [Act.put]
  refine wpL_done (by kernel_rfl) ?_ _
  have hbx : 0 ≤ max 0 (min ax ((g.cols : Int) - 1)) ∧ max 0 (min ax ((g.cols : Int) - 1)) ≤ 250 := by omega
  have HIX := Lib.hid (show into ax ((g.cols : Int) - 1) = max 0 (min ax ((g.cols : Int) - 1)) from rfl)
  generalize max 0 (min ax ((g.cols : Int) - 1)) = bx at *
  have hsb : ((wa.setCell ⟨w.heap.size, 0, none⟩ (.int .i64 bx)).drew).heap.size = wa.heap.size := by show (wa.setCell _ _).heap.size = _; simp
  have HG2 := Lib.hid (show wa.grownBy ((wa.setCell ⟨w.heap.size, 0, none⟩ (.int .i64 bx)).drew) (some w.heap.size) from gb_drew (gb_set (gb_refl _ _) _ _))
  have HAT2 := Lib.hid (show ((wa.setCell ⟨w.heap.size, 0, none⟩ (.int .i64 bx)).drew).heap[w.heap.size]? = some (.cells #[.int .i64 bx, .int .i64 ay] 51 (0, 0)) from blk_set HAT.out 0 _)
  generalize (wa.setCell ⟨w.heap.size, 0, none⟩ (.int .i64 bx)).drew = wb at *
  have HB2 := Lib.hid (HB1.out.trans (below_of_gb HG2.out (by omega) (fun q hq => by injection hq with hq; omega)))
  have HRS2 := Lib.hid (blk_grown HRS.out HG2.out (fun e => by injection e with e; omega))
  clear HAT HRS HB1 HG1 HG2 k0 k1 k2 k3 a0 z0 hwr1
  have HG1 := Lib.hid (HG0.out.mod (.of_below HB2.out) id id id (fun _ => id))
  obtain ⟨k0, k1, k2, k3⟩ := gm_cells HG1.out
  have hl1 := ownC_ln Tryz.underlying57 HG1.out.rr.own
  have a0 : wb.cell? ⟨w.heap.size, 0, none⟩ = some (.int .i64 bx) := blk_cell HAT2.out 0
  have a1 : wb.cell? ⟨w.heap.size, 1, none⟩ = some (.int .i64 ay) := blk_cell HAT2.out 1
  have z1 : wb.frozen? ⟨w.heap.size, 1, none⟩ = false := blk_free HAT2.out 1
  go_upto_region 4 with fail
  refine wpL_begin (c := 11) (S := (fun bb w' => w'.cell? ⟨p, 2, none⟩ = some vr ∧ (bb = false → w'.cell? ⟨w.heap.size, 1, none⟩ = some (.int .i64 ay)))) (by kernel_rfl) (⟨k2, fun _ => a1⟩) (fun _ => ?_)
  refine wpL_tk false 0 (⟨k2, fun _ => a1⟩) ?_
  refine wpL_td 1 (⟨k2, fun _ => a1⟩) ?_
  refine wpL_tk false 2 (⟨k2, fun _ => a1⟩) ?_
  refine wpL_tk false 3 (⟨k2, fun _ => a1⟩) ?_
  refine wpL_tk false 4 (⟨k2, fun _ => a1⟩) ?_
  refine wpL_tk false 5 (⟨k2, fun _ => a1⟩) ?_
  refine wpL_tk false 6 (⟨k2, fun _ => a1⟩) ?_
  refine wpL_tk false 7 (⟨k2, fun _ => a1⟩) ?_
  refine wpL_tk false 8 (⟨k2, fun _ => a1⟩) ?_
  refine wpL_tk false 9 (⟨k2, fun _ => a1⟩) ?_
  refine wpL_tk false 10 (⟨k2, fun _ => a1⟩) ?_
  refine wpL_on true 11 fun K hK => ?_
  refine wanted_on rfl ?_
  go_wp2_with fail
  refine hK.out _ _ (⟨cell_grown (gb_set (gb_refl _ _) _ _) k2 (fun e => by injection e with e; omega), fun e => by cases e⟩) (fun _ => ?_)
  clear hK K 
  try simp only [Act.put]
  refine wpL_done (by kernel_rfl) ?_ _
  have hby : 0 ≤ max 0 (min ay ((Lr.length : Int) - 1)) ∧ max 0 (min ay ((Lr.length : Int) - 1)) ≤ 120 := by omega
  have HIY := Lib.hid (show into ay ((g.rows.length : Int) - 1) = max 0 (min ay ((Lr.length : Int) - 1)) by rw [HLR.out]; rfl)
  generalize max 0 (min ay ((Lr.length : Int) - 1)) = yb' at *
  have hsc : ((wb.setCell ⟨w.heap.size, 1, none⟩ (.int .i64 yb')).drew).heap.size = wb.heap.size := by show (wb.setCell _ _).heap.size = _; simp
  have HG3 := Lib.hid (show wb.grownBy ((wb.setCell ⟨w.heap.size, 1, none⟩ (.int .i64 yb')).drew) (some w.heap.size) from gb_drew (gb_set (gb_refl _ _) _ _))
  have HAT3 := Lib.hid (show ((wb.setCell ⟨w.heap.size, 1, none⟩ (.int .i64 yb')).drew).heap[w.heap.size]? = some (.cells #[.int .i64 bx, .int .i64 yb'] 51 (0, 0)) from blk_set HAT2.out 1 _)
  generalize (wb.setCell ⟨w.heap.size, 1, none⟩ (.int .i64 yb')).drew = wc at *
  have HB3 := Lib.hid (HB2.out.trans (below_of_gb HG3.out (by omega) (fun q hq => by injection hq with hq; omega)))
  have HRS3 := Lib.hid (blk_grown HRS2.out HG3.out (fun e => by injection e with e; omega))
  clear HAT2 HRS2 HB2 HG1 HG3 k0 k1 k2 k3 a0 a1 z1 hwr2 hl1
  obtain ⟨xb, xo, xc, hvr, hxc, hxm⟩ := ownC_pos HG0.out.rr.own hr1
  obtain ⟨ya, yc, hvo⟩ := ownC_sl HG0.out.ro.own
  subst hvr hvo
  have hno2 : Lo.length ≤ 2000 := by have := (rows_len HG0.out).2; have := HG0.out.wf.ol; have := HG0.out.wf.li; omega
  have HNR := Lib.hid (show Lr.length = g.rows.length from (rows_len HG0.out).1)
  have HNO := Lib.hid (show Lo.length = g.old.length from (rows_len HG0.out).2)
  have HLT0 := Lib.hid HG0.out.lt
  have HTP := Lib.hid HG0.out.tp
  obtain ⟨k0, k1, k2, k3⟩ := gm_cells (HG0.out.mod (.of_below HB3.out) id id id (fun _ => id))
  go_upto_region 7 with fail
  go_quiet (fail)
  have HB4 := Lib.hid (below_drewN HB3.out nq)
  have HAT4 := Lib.hid (blk_below HAT3.out (below_drewN (Below.refl wc.heap.size wc) nq) (heap_lt HAT3.out))
  have HRS4 := Lib.hid (blk_below HRS3.out (below_drewN (Below.refl wc.heap.size wc) nq) (heap_lt HRS3.out))
  have hsd : w.heap.size + 2 ≤ (wc.drewN nq).heap.size := heap_lt HRS4.out
  clear HB3 HAT3 HRS3 k0 k1 k2 k3
  generalize wc.drewN nq = wd at *
  have HGD := Lib.hid (HG0.out.mod (.of_below HB4.out) id id id (fun _ => id))
  have HLT := Lib.hid (show ∀ k, T k ≠ 0 → k < wd.heap.size from fun k hk => by have := HLT0.out k hk; omega)
  obtain ⟨K, hK⟩ : ∃ K, K = #[Value.int .i64 g.cols, .int .i64 g.limit, .slice (some ⟨xb, xo, none⟩) Lr.length xc, .slice ya Lo.length yc] := ⟨_, rfl⟩
  have HK := Lib.hid hK
  have HZ0 := Lib.hid (show Rz T p 2 3 K wd (.slice (some ⟨xb, xo, none⟩) Lr.length xc) (.slice ya Lo.length yc) Lr Lo wd by rw [HK.out]; exact Rz.start HGD.out (Within.refl _ _) HGD.out)
  clear hK
  go_upto_block 0 with fail
  go_cut [] (fun wz => ∃ L1 L2 : List (Value × Rw), Hid (Rz T p 2 3 K wd (.slice (some ⟨xb, xo, none⟩) Lr.length xc) (.slice ya Lo.length yc) L1 L2 wz) ∧ Hid (L1.length = Lr.length ∧ L2.length = Lo.length ∧ L1.map (·.2) = g.rows.map (fun r => fitL r cols) ∧ L2.map (·.2) = g.old.map (fun r => fitL r cols)))
  case first =>
    go_upto_region 8 with fail
    go_loopw [56] (fun jv wr => ∃ (j : Nat) (L1 L2 : List (Value × Rw)), j ≤ 2 ∧ jv = .int .i64 j ∧ Hid (Rz T p 2 3 K wd (.slice (some ⟨xb, xo, none⟩) Lr.length xc) (.slice ya Lo.length yc) L1 L2 wr) ∧ Hid (L1.length = Lr.length ∧ L2.length = Lo.length ∧ L1.map (·.2) = (if 1 ≤ j then g.rows.map (fun r => fitL r cols) else g.rows) ∧ L2.map (·.2) = (if 2 ≤ j then g.old.map (fun r => fitL r cols) else g.old))) (fun jv _ => 2 - (intOf jv).toNat)
    case atStart => exact ⟨0, Lr, Lo, by decide, rfl, HZ0, ⟨rfl, rfl, by rw [HGD.out.er]; rfl, by rw [HGD.out.eo]; rfl⟩⟩
    case round =>
      obtain ⟨j, L1, L2, hj, rfl, HZ, HL⟩ := hrel
      obtain ⟨wj, rfl⟩ : ∃ wj, wj = wr := ⟨wr, rfl⟩
      have hq0 := fun wx => (idx_two (some ⟨xb, xo, none⟩) ya Lr.length xc Lo.length yc wx).1
      have hq1 := fun wx => (idx_two (some ⟨xb, xo, none⟩) ya Lr.length xc Lo.length yc wx).2
      match j, hj with
      | 0, _ =>
        go_upto_region 11 with fail
        go_loopw [61] (fun kv wi => ∃ (k : Nat) (L : List (Value × Rw)), k ≤ Lr.length ∧ kv = .int .i64 k ∧ Hid (Rz T p 2 3 K wd (.slice (some ⟨xb, xo, none⟩) Lr.length xc) (.slice ya Lo.length yc) L L2 wi) ∧ Hid (L.length = Lr.length ∧ L.map (·.2) = (g.rows.take k).map (fun r => fitL r cols) ++ g.rows.drop k)) (fun kv _ => Lr.length - (intOf kv).toNat)
        case atStart => exact ⟨0, L1, Nat.zero_le _, rfl, HZ.out, ⟨HL.out.1, by rw [HL.out.2.2.1]; simp⟩⟩
        case round =>
          obtain ⟨k, L, hk, rfl, HR, HM⟩ := hrel
          obtain ⟨wi, rfl⟩ : ∃ wi, wi = wr := ⟨wr, rfl⟩
          by_cases hlt : k < Lr.length
          · have d1 : decide ((k : Int) < (Lr.length : Int)) = true := decide_eq_true (by omega)
            have d1' : decide (k < Lr.length) = true := decide_eq_true hlt
            have hwk : IntKind.i64.wrap ((k : Int) + 1) = (k : Int) + 1 := wrap64_id _ (by omega) (by omega)
            obtain ⟨A, x, B, hAk, hLx⟩ : ∃ A x B, A.length = k ∧ L = A ++ x :: B := by
              have h1 := HM.out.1
              refine ⟨L.take k, L[k]'(by omega), L.drop (k + 1), by rw [List.length_take]; omega, ?_⟩
              rw [← List.drop_eq_getElem_cons, List.take_append_drop]
            subst hLx
            have HAK := Lib.hid hAk
            have HLN := Lib.hid HM.out.1
            clear hAk
            have hxk : (A ++ x :: B)[k]'(by rw [HLN.out]; exact hlt) = x := by
              have := HAK.out
              subst this
              simp
            have HXM := Lib.hid (map_step (fun z : Value × Rw => z.2) (fun r => fitL r cols) A B x x g.rows k HAK.out HM.out.2)
            have hxg : x.2.cells.length = g.cols := (HG0.out.wf.ce x.2 (by
              have h1 : x.2 ∈ g.rows := by
                have h3 := HM.out.2
                have h4 : ((A ++ x :: B).map (fun z : Value × Rw => z.2))[k]? = some x.2 := by
                  have := HAK.out
                  subst this
                  simp
                rw [h3, List.getElem?_append_right (by rw [List.length_map, List.length_take]; exact Nat.min_le_left _ _)] at h4
                exact List.mem_of_mem_drop (List.mem_of_getElem? h4)
              exact List.mem_append_left _ h1)).1
            obtain ⟨hxo, q, hxq, hxt⟩ := HR.out.ca x (List.mem_append_left _ (List.mem_append_right _ (List.mem_cons_self ..)))
            obtain ⟨hr0, hr1'⟩ := ownC_row2 (n := Lr.length) (by have := HR.out.rl.own; rw [HLN.out] at this; exact this) k (by rw [HLN.out]; exact hlt)
            rw [hxk] at hr0 hr1'
            obtain ⟨xv, xr⟩ := x
            dsimp only at hxo hxq hxg hr0 hr1'
            obtain ⟨cb, co, cc, e1, _, _⟩ := ownC_pos hxo (by omega)
            subst e1
            have hcq : cb = q := by simp only [Value.ownBlock] at hxq; injection hxq
            subst hcq
            have hix := idx_at (P := Tryz.prog) (size := 2) Tryz.underlying57 row_info xb xo Lr.length xc k hlt
            have HXO := Lib.hid hxo
            have HXQ := Lib.hid hxq
            have HXT := Lib.hid hxt
            have hx250 : 1 ≤ xr.cells.length ∧ xr.cells.length ≤ 1000 := by omega
            clear hxo hxq hxt hxk
            obtain ⟨cl, xw⟩ := xr
            dsimp only at hxg hr0 hr1' hx250
            generalize hnl : cl.length = nl at *
            have HNL := Lib.hid hnl
            clear hnl hxg
            go_wp2_with fail
            have HFT := Lib.hid (fitted_any ⟨cl, xw⟩ cb co cc cols wi (by show OwnC wi 0 5 (.slice _ cl.length cc) cl.length (cvals cl); rw [HNL.out]; have := HXO.out; exact this) (by show 1 ≤ cl.length ∧ cl.length ≤ 1000; rw [HNL.out]; exact hx250) ⟨c1, c2⟩)
            dsimp only at HFT
            have hft := HFT.out
            rw [HNL.out] at hft
            refine hft.mono ?_
            clear hft HFT
            rintro e w2 ⟨v', rfl, g2, hn2⟩
            have hn3 : ∃ a' n' c', v' = Value.slice a' n' c' := by
              rcases hn2 with ⟨_, e, _⟩ | ⟨_, e⟩
              · exact ⟨_, _, _, e⟩
              · obtain ⟨a', c', e⟩ := ownC_sl e
                exact ⟨_, _, _, e⟩
            obtain ⟨va, vn, vc, rfl⟩ := hn3
            have HG2 := Lib.hid g2
            have HN2 := Lib.hid hn2
            clear g2 hn2
            -- the row is stored
            have hLs : ∀ k2, (Value.slice (some ⟨xb, xo, none⟩) Lr.length xc).ownBlock = some k2 → T k2 = 2 := fun k2 h2 => HR.out.rl.tag k2 h2
            have hbL : xb ≠ cb := fun e => by
              have h1 := hLs xb rfl
              rcases HXT.out with h2 | h2
              · rw [e] at h1; omega
              · have h3 := HLT.out xb (by omega)
                omega
            have HO2 := ownC_grown HR.out.rl.own HG2.out (fun k2 h2 e => hbL (by simp only [Value.ownBlock] at h2; injection h2 with h2; injection e with e; rw [h2, e]))
            rw [HLN.out] at HO2
            have hst := store_own (P := Tryz.prog) row_info HO2 k hlt #[.slice va vn vc, .bool (fitL ⟨cl, xw⟩ cols).wrap] rfl (row_one va vn vc _)
            have hO3 := ownC_put HO2 (k * 2) (rowVals [((.slice va vn vc : Value), fitL ⟨cl, xw⟩ cols)]) (by rw [rowVals_len]; simp; omega)
            rw [← rowVals_put, putAt_mid _ _ _ _ _ HAK.out.symm] at hO3
            have g3 := gb_setCells w2 xb (xo + k * 2) (rowVals [((.slice va vn vc : Value), fitL ⟨cl, xw⟩ cols)])
            have HRZ3 := Lib.hid (HR.out.step (v' := .slice va vn vc) (r' := fitL ⟨cl, xw⟩ cols) HLT.out HTP.out (by simp) HXQ.out HG2.out (by
              rcases HN2.out with ⟨e1, e2, e3⟩ | ⟨e1, e2⟩
              · refine .inl ⟨e2, ?_, e3⟩
                unfold fitL
                rw [if_pos (by show cols = cl.length; rw [HNL.out]; exact e1)]
              · refine .inr ⟨by rw [fitL_len]; exact e2, ?_⟩
                have h1 := ownC_pos e2 (by omega)
                obtain ⟨b9, o9, c9, e9, _⟩ := h1
                exact ⟨b9, by rw [e9]; rfl⟩) g3 (by
              have hl : (A ++ ((.slice va vn vc : Value), fitL ⟨cl, xw⟩ cols) :: B).length = Lr.length := by
                have := HLN.out
                simp only [List.length_append, List.length_cons] at this ⊢
                exact this
              rw [hl]; exact hO3))
            have HMP := Lib.hid (map_step (fun z : Value × Rw => z.2) (fun r => fitL r cols) A B (.slice (some ⟨cb, co, none⟩) nl cc, ⟨cl, xw⟩) (.slice va vn vc, fitL ⟨cl, xw⟩ cols) g.rows k HAK.out HM.out.2 rfl)
            replace hst : (storeVar 77 ⟨xb, xo + k * 2, none⟩ (.agg #[.slice va vn vc, .bool (fitL ⟨cl, xw⟩ cols).wrap])).run Tryz.prog w2 = .ok () (w2.setCells xb (xo + k * 2) (rowVals [((.slice va vn vc : Value), fitL ⟨cl, xw⟩ cols)])) := hst
            clear hO3 g3 HO2 hr0 hr1'
            generalize w2.setCells xb (xo + k * 2) (rowVals [((.slice va vn vc : Value), fitL ⟨cl, xw⟩ cols)]) = w3 at *
            go_wp2_with (refine wpList_storeR rfl _ _ _ rfl hst rfl rfl ?_)
            go_roundw
            case rel => exact ⟨k + 1, _, by omega, by go_num, HRZ3, ⟨by
              have := HLN.out
              simp only [List.length_append, List.length_cons] at this ⊢
              exact this, HMP.out.2⟩⟩
            case measure => simp [intOf]; omega
          · have hkn : k = Lr.length := by omega
            have d1 : decide ((k : Int) < (Lr.length : Int)) = false := decide_eq_false (by omega)
            have d1' : decide (k < Lr.length) = false := decide_eq_false hlt
            go_wp2_with fail
            go_roundw
            case rel => exact ⟨1, L, L2, by omega, rfl, HR, ⟨HM.out.1, HL.out.2.1, by rw [HM.out.2, hkn, HNR.out, List.take_length, List.drop_length, List.append_nil]; rfl, HL.out.2.2.2⟩⟩
            case measure => decide
      | 1, _ =>
        go_upto_region 11 with fail
        go_loopw [61] (fun kv wi => ∃ (k : Nat) (L : List (Value × Rw)), k ≤ Lo.length ∧ kv = .int .i64 k ∧ Hid (Rz T p 3 2 K wd (.slice ya Lo.length yc) (.slice (some ⟨xb, xo, none⟩) Lr.length xc) L L1 wi) ∧ Hid (L.length = Lo.length ∧ L.map (·.2) = (g.old.take k).map (fun r => fitL r cols) ++ g.old.drop k)) (fun kv _ => Lo.length - (intOf kv).toNat)
        case atStart => exact ⟨0, L2, Nat.zero_le _, rfl, HZ.out.swap, ⟨HL.out.2.1, by rw [HL.out.2.2.2]; simp⟩⟩
        case round =>
          obtain ⟨k, L, hk, rfl, HR, HM⟩ := hrel
          obtain ⟨wi, rfl⟩ : ∃ wi, wi = wr := ⟨wr, rfl⟩
          by_cases hlt : k < Lo.length
          · have d1 : decide ((k : Int) < (Lo.length : Int)) = true := decide_eq_true (by omega)
            have d1' : decide (k < Lo.length) = true := decide_eq_true hlt
            have hwk : IntKind.i64.wrap ((k : Int) + 1) = (k : Int) + 1 := wrap64_id _ (by omega) (by omega)
            have hown0 := HR.out.rl.own
            rw [HM.out.1] at hown0
            obtain ⟨yb, yo, yc2, hyv, hyc, hym⟩ := ownC_pos hown0 (by omega)
            simp only [Value.slice.injEq] at hyv
            obtain ⟨hya, _, hyc2⟩ := hyv
            subst hya hyc2
            clear hown0
            obtain ⟨A, x, B, hAk, hLx⟩ : ∃ A x B, A.length = k ∧ L = A ++ x :: B := by
              have h1 := HM.out.1
              refine ⟨L.take k, L[k]'(by omega), L.drop (k + 1), by rw [List.length_take]; omega, ?_⟩
              rw [← List.drop_eq_getElem_cons, List.take_append_drop]
            subst hLx
            have HAK := Lib.hid hAk
            have HLN := Lib.hid HM.out.1
            clear hAk
            have hxk : (A ++ x :: B)[k]'(by rw [HLN.out]; exact hlt) = x := by
              have := HAK.out
              subst this
              simp
            have HXM := Lib.hid (map_step (fun z : Value × Rw => z.2) (fun r => fitL r cols) A B x x g.old k HAK.out HM.out.2)
            have hxg : x.2.cells.length = g.cols := (HG0.out.wf.ce x.2 (by
              have h1 : x.2 ∈ g.old := by
                have h3 := HM.out.2
                have h4 : ((A ++ x :: B).map (fun z : Value × Rw => z.2))[k]? = some x.2 := by
                  have := HAK.out
                  subst this
                  simp
                rw [h3, List.getElem?_append_right (by rw [List.length_map, List.length_take]; exact Nat.min_le_left _ _)] at h4
                exact List.mem_of_mem_drop (List.mem_of_getElem? h4)
              exact List.mem_append_right _ h1)).1
            obtain ⟨hxo, q, hxq, hxt⟩ := HR.out.ca x (List.mem_append_left _ (List.mem_append_right _ (List.mem_cons_self ..)))
            obtain ⟨hr0, hr1'⟩ := ownC_row2 (n := Lo.length) (by have := HR.out.rl.own; rw [HLN.out] at this; exact this) k (by rw [HLN.out]; exact hlt)
            rw [hxk] at hr0 hr1'
            obtain ⟨xv, xr⟩ := x
            dsimp only at hxo hxq hxg hr0 hr1'
            obtain ⟨cb, co, cc, e1, _, _⟩ := ownC_pos hxo (by omega)
            subst e1
            have hcq : cb = q := by simp only [Value.ownBlock] at hxq; injection hxq
            subst hcq
            have hix := idx_at (P := Tryz.prog) (size := 2) Tryz.underlying57 row_info yb yo Lo.length yc k hlt
            have HXO := Lib.hid hxo
            have HXQ := Lib.hid hxq
            have HXT := Lib.hid hxt
            have hx250 : 1 ≤ xr.cells.length ∧ xr.cells.length ≤ 1000 := by omega
            clear hxo hxq hxt hxk
            obtain ⟨cl, xw⟩ := xr
            dsimp only at hxg hr0 hr1' hx250
            generalize hnl : cl.length = nl at *
            have HNL := Lib.hid hnl
            clear hnl hxg
            go_wp2_with fail
            have HFT := Lib.hid (fitted_any ⟨cl, xw⟩ cb co cc cols wi (by show OwnC wi 0 5 (.slice _ cl.length cc) cl.length (cvals cl); rw [HNL.out]; have := HXO.out; exact this) (by show 1 ≤ cl.length ∧ cl.length ≤ 1000; rw [HNL.out]; exact hx250) ⟨c1, c2⟩)
            dsimp only at HFT
            have hft := HFT.out
            rw [HNL.out] at hft
            refine hft.mono ?_
            clear hft HFT
            rintro e w2 ⟨v', rfl, g2, hn2⟩
            have hn3 : ∃ a' n' c', v' = Value.slice a' n' c' := by
              rcases hn2 with ⟨_, e, _⟩ | ⟨_, e⟩
              · exact ⟨_, _, _, e⟩
              · obtain ⟨a', c', e⟩ := ownC_sl e
                exact ⟨_, _, _, e⟩
            obtain ⟨va, vn, vc, rfl⟩ := hn3
            have HG2 := Lib.hid g2
            have HN2 := Lib.hid hn2
            clear g2 hn2
            -- the row is stored
            have hLs : ∀ k2, (Value.slice (some ⟨yb, yo, none⟩) Lo.length yc).ownBlock = some k2 → T k2 = 3 := fun k2 h2 => HR.out.rl.tag k2 h2
            have hbL : yb ≠ cb := fun e => by
              have h1 := hLs yb rfl
              rcases HXT.out with h2 | h2
              · rw [e] at h1; omega
              · have h3 := HLT.out yb (by omega)
                omega
            have HO2 := ownC_grown HR.out.rl.own HG2.out (fun k2 h2 e => hbL (by simp only [Value.ownBlock] at h2; injection h2 with h2; injection e with e; rw [h2, e]))
            rw [HLN.out] at HO2
            have hst := store_own (P := Tryz.prog) row_info HO2 k hlt #[.slice va vn vc, .bool (fitL ⟨cl, xw⟩ cols).wrap] rfl (row_one va vn vc _)
            have hO3 := ownC_put HO2 (k * 2) (rowVals [((.slice va vn vc : Value), fitL ⟨cl, xw⟩ cols)]) (by rw [rowVals_len]; simp; omega)
            rw [← rowVals_put, putAt_mid _ _ _ _ _ HAK.out.symm] at hO3
            have g3 := gb_setCells w2 yb (yo + k * 2) (rowVals [((.slice va vn vc : Value), fitL ⟨cl, xw⟩ cols)])
            have HRZ3 := Lib.hid (HR.out.step (v' := .slice va vn vc) (r' := fitL ⟨cl, xw⟩ cols) HLT.out HTP.out (by simp) HXQ.out HG2.out (by
              rcases HN2.out with ⟨e1, e2, e3⟩ | ⟨e1, e2⟩
              · refine .inl ⟨e2, ?_, e3⟩
                unfold fitL
                rw [if_pos (by show cols = cl.length; rw [HNL.out]; exact e1)]
              · refine .inr ⟨by rw [fitL_len]; exact e2, ?_⟩
                have h1 := ownC_pos e2 (by omega)
                obtain ⟨b9, o9, c9, e9, _⟩ := h1
                exact ⟨b9, by rw [e9]; rfl⟩) g3 (by
              have hl : (A ++ ((.slice va vn vc : Value), fitL ⟨cl, xw⟩ cols) :: B).length = Lo.length := by
                have := HLN.out
                simp only [List.length_append, List.length_cons] at this ⊢
                exact this
              rw [hl]; exact hO3))
            have HMP := Lib.hid (map_step (fun z : Value × Rw => z.2) (fun r => fitL r cols) A B (.slice (some ⟨cb, co, none⟩) nl cc, ⟨cl, xw⟩) (.slice va vn vc, fitL ⟨cl, xw⟩ cols) g.old k HAK.out HM.out.2 rfl)
            replace hst : (storeVar 77 ⟨yb, yo + k * 2, none⟩ (.agg #[.slice va vn vc, .bool (fitL ⟨cl, xw⟩ cols).wrap])).run Tryz.prog w2 = .ok () (w2.setCells yb (yo + k * 2) (rowVals [((.slice va vn vc : Value), fitL ⟨cl, xw⟩ cols)])) := hst
            clear hO3 g3 HO2 hr0 hr1'
            generalize w2.setCells yb (yo + k * 2) (rowVals [((.slice va vn vc : Value), fitL ⟨cl, xw⟩ cols)]) = w3 at *
            go_wp2_with (refine wpList_storeR rfl _ _ _ rfl hst rfl rfl ?_)
            go_roundw
            case rel => exact ⟨k + 1, _, by omega, by go_num, HRZ3, ⟨by
              have := HLN.out
              simp only [List.length_append, List.length_cons] at this ⊢
              exact this, HMP.out.2⟩⟩
            case measure => simp [intOf]; omega
          · have hkn : k = Lo.length := by omega
            have d1 : decide ((k : Int) < (Lo.length : Int)) = false := decide_eq_false (by omega)
            have d1' : decide (k < Lo.length) = false := decide_eq_false hlt
            go_wp2_with fail
            go_roundw
            case rel => exact ⟨2, L1, L, by omega, rfl, HR.out.swap, ⟨HL.out.1, HM.out.1, HL.out.2.2.1, by rw [HM.out.2, hkn, HNO.out, List.take_length, List.drop_length, List.append_nil]; rfl⟩⟩
            case measure => decide
      | 2, _ =>
        go_wp2_with fail
        go_meet
        exact ⟨L1, L2, HZ, HL⟩
  case rest =>
    obtain ⟨L1, L2, HZ, HL⟩ := hcut
    obtain ⟨we, rfl⟩ : ∃ we, we = wc := ⟨wc, rfl⟩
    have HKE := Lib.hid (show we.heap[p]? = some (.cells #[.int .i64 g.cols, .int .i64 g.limit, .slice (some ⟨xb, xo, none⟩) Lr.length xc, .slice ya Lo.length yc] 61 (0, 0)) by rw [← HK.out]; exact HZ.out.blk)
    have k2 : we.cell? ⟨p, 2, none⟩ = some (.slice (some ⟨xb, xo, none⟩) Lr.length xc) := blk_cell HKE.out 2
    have g2 : we.frozen? ⟨p, 2, none⟩ = false := blk_free HKE.out 2
    have hpd : p < wd.heap.size := by omega
    go_upto_if 81 with fail
    go_cut [] (fun wz => ∃ (a9 : Option Addr) (n9 c9 : Nat) (L9 : List (Value × Rw)), Hid (wz.heap[p]? = some (.cells #[.int .i64 g.cols, .int .i64 g.limit, .slice a9 n9 c9, .slice ya Lo.length yc] 61 (0, 0))) ∧ Hid (Rs T wd (.slice a9 n9 c9) (.slice ya Lo.length yc) L9 L2 wz) ∧ Hid (L9.map (·.2) = sizedR (g.rows.map fun r => fitL r cols) cols rows))
    case first =>
      by_cases hrl : rows < Lr.length
      · have d1 : decide ((rows : Int) < (Lr.length : Int)) = true := decide_eq_true (by omega)
        have d1' : decide (rows < Lr.length) = true := decide_eq_true hrl
        have hsl := fun wx => slice_h (P := Tryz.prog) Tryz.underlying57 row_info (some ⟨xb, xo, none⟩) Lr.length xc rows (by omega) wx
        go_wp2_with fail
        go_meet
        refine ⟨_, rows, xc, L1.take rows, blk_set HKE.out 2 _, (HZ.out.cut HLT.out HL.out.1 rows (by omega)).put HTP.out hpd (gb_set (gb_refl _ _) _ _), ?_⟩
        show _ = _
        rw [List.map_take, HL.out.2.2.1]
        unfold sizedR
        rw [if_pos (by rw [List.length_map, ← HNR.out]; exact hrl)]
      · have d1 : decide ((rows : Int) < (Lr.length : Int)) = false := decide_eq_false (by omega)
        have d1' : decide (rows < Lr.length) = false := decide_eq_false hrl
        obtain ⟨rn, hrn⟩ : ∃ rn : Nat, rn + Lr.length = rows := ⟨rows - Lr.length, by omega⟩
        have hw7 : IntKind.i64.wrap ((rows : Int) - (Lr.length : Int)) = (rn : Int) := by rw [wrap64_id _ (by omega) (by omega)]; omega
        have HRN := Lib.hid hrn
        have hrb : rn ≤ 120 := by omega
        clear hrn
        have HOY := Lib.hid (show OwnC we 0 2 (.slice (some ⟨xb, xo, none⟩) Lr.length xc) Lr.length (rowVals L1) by have := HZ.out.rl.own; rw [HL.out.1] at this; exact this)
        have HXT := Lib.hid (show ∀ k, (Value.slice (some ⟨xb, xo, none⟩) Lr.length xc).ownBlock = some k → T k = 2 from fun k hk => HZ.out.rl.tag k hk)
        have hln := ownC_ln Tryz.underlying57 HOY.out
        go_upto_region 18 with fail
        refine wpL_begin (c := 18) (S := (fun bb w' => True ∧ (bb = false → w'.cell? ⟨p, 2, none⟩ = some (.slice (some ⟨xb, xo, none⟩) Lr.length xc)))) (by kernel_rfl) (⟨trivial, fun _ => k2⟩) (fun _ => ?_)
        refine wpL_tk false 0 (⟨trivial, fun _ => k2⟩) ?_
        refine wpL_tk false 1 (⟨trivial, fun _ => k2⟩) ?_
        refine wpL_tk false 2 (⟨trivial, fun _ => k2⟩) ?_
        refine wpL_tk false 3 (⟨trivial, fun _ => k2⟩) ?_
        refine wpL_td 4 (⟨trivial, fun _ => k2⟩) ?_
        refine wpL_tk false 5 (⟨trivial, fun _ => k2⟩) ?_
        refine wpL_tk false 6 (⟨trivial, fun _ => k2⟩) ?_
        refine wpL_tk false 7 (⟨trivial, fun _ => k2⟩) ?_
        refine wpL_tk false 8 (⟨trivial, fun _ => k2⟩) ?_
        refine wpL_td 9 (⟨trivial, fun _ => k2⟩) ?_
        refine wpL_tk false 10 (⟨trivial, fun _ => k2⟩) ?_
        refine wpL_tk false 11 (⟨trivial, fun _ => k2⟩) ?_
        refine wpL_tk false 12 (⟨trivial, fun _ => k2⟩) ?_
        refine wpL_on false 13 fun K hK => ?_
        refine wanted_on rfl ?_
        go_wp2_with fail
        refine (plain_any we.drew).mono ?_
        rintro e wp ⟨rfl, bp⟩
        have k2p : wp.cell? ⟨p, 2, none⟩ = some (.slice (some ⟨xb, xo, none⟩) Lr.length xc) := cell_below bp k2
        have HBP := Lib.hid (show Below we.heap.size we wp from (Below.refl we.heap.size we).drew.trans bp)
        refine hK.out _ _ (⟨trivial, fun _ => k2p⟩) (fun _ => ?_)
        clear hK K bp
        try simp only [Act.put, List.setIfInBounds_toArray, List.set_cons_zero, List.set_cons_succ]
        refine wpL_on false 14 fun K hK => ?_
        refine wanted_on rfl ?_
        go_wp2_with fail
        refine (fresh_any rn cols plainS wp (by omega) (by omega)).mono ?_
        rintro e wq ⟨v4, L4, rfl, b4, e4, r4⟩
        have k2q : wq.cell? ⟨p, 2, none⟩ = some (.slice (some ⟨xb, xo, none⟩) Lr.length xc) := cell_below b4 k2p
        have HBQ := Lib.hid (HBP.out.trans (b4.mono HBP.out.size))
        have hl4 : L4.length = rn := by
          have h1 := congrArg List.length e4
          unfold freshL at h1
          rw [List.length_map, List.length_replicate] at h1
          exact h1
        have HL4 := Lib.hid hl4
        have HE4 := Lib.hid e4
        have HR4 := Lib.hid (show RowsAt we.heap.size wq v4 L4 from ⟨ownC_mono r4.own HBP.out.size, fun x hx => ownC_mono (r4.cells x hx) HBP.out.size, r4.nd, r4.ap⟩)
        refine hK.out _ _ (⟨trivial, fun _ => k2q⟩) (fun _ => ?_)
        clear hK K b4 e4 r4 hl4
        try simp only [Act.put, List.setIfInBounds_toArray, List.set_cons_zero, List.set_cons_succ]
        refine wpL_on false 15 fun K hK => ?_
        apply step_appS rows_elem
        case hgd => rfl
        case ho => rfl
        case hown => exact ownC_below HOY.out HBQ.out
        case hs => rfl
        case hr => exact src_reads Tryz.underlying57 (ownC_reads HR4.out.own) (rowsAt_one HR4.out)
        case hx => rfl
        case h63 => (have := HL4.out; unfold maxLen; omega)
        case hbytes => (have := HL4.out; omega)
        case hbase => exact Nat.zero_le _
        intro v7 w7 o7 g7 n7
        obtain ⟨a7, c7, rfl⟩ := ownC_sl o7
        have hne7 : (Value.slice (some ⟨xb, xo, none⟩) Lr.length xc).ownBlock ≠ some p := fun e => by have := HXT.out p e; have := HTP.out; omega
        have k27 : w7.cell? ⟨p, 2, none⟩ = some (.slice (some ⟨xb, xo, none⟩) Lr.length xc) := cell_grown g7 k2q hne7
        have f27 : w7.frozen? ⟨p, 2, none⟩ = false := frozen_grown g7 (frozen_below HBQ.out k2 g2) (cell_lt k2q) hne7
        have HO7 := Lib.hid o7
        have HG7 := Lib.hid g7
        have HN7 := Lib.hid n7
        have HNE7 := Lib.hid hne7
        refine hK.out _ _ (⟨trivial, fun _ => k27⟩) (fun _ => ?_)
        clear hK K o7 g7 n7 hne7
        try simp only [Act.put, List.setIfInBounds_toArray, List.set_cons_zero, List.set_cons_succ]
        refine wpL_tk false 16 (⟨trivial, fun _ => k27⟩) ?_
        refine wpL_tk false 17 (⟨trivial, fun _ => k27⟩) ?_
        refine wpL_on true 18 fun K hK => ?_
        refine wanted_on rfl ?_
        go_wp2_with fail
        refine hK.out _ _ (⟨trivial, fun e => by cases e⟩) (fun _ => ?_)
        clear hK K 
        try simp only [Act.put]
        refine wpL_done (by kernel_rfl) ?_ _
        have g8 : w7.grownBy (w7.setCell ⟨p, 2, none⟩ (.slice a7 (Lr.length + L4.length) c7)) (some p) := gb_set (gb_refl _ _) _ _
        have HKZ := Lib.hid (show (w7.setCell ⟨p, 2, none⟩ (.slice a7 (Lr.length + L4.length) c7)).heap[p]? = some (.cells #[.int .i64 g.cols, .int .i64 g.limit, .slice a7 (Lr.length + L4.length) c7, .slice ya Lo.length yc] 61 (0, 0)) from
          blk_set (blk_grown (blk_below HKE.out HBQ.out (heap_lt HKE.out)) HG7.out (fun e => HNE7.out e.symm)) 2 _)
        have HRS9 := Lib.hid (show Rs T wd (.slice a7 (Lr.length + L4.length) c7) (.slice ya Lo.length yc) (L1 ++ L4) L2 (w7.setCell ⟨p, 2, none⟩ (.slice a7 (Lr.length + L4.length) c7)) from
          (HZ.out.grow HLT.out HBQ.out HR4.out (by rw [HL.out.1]; exact HO7.out) HG7.out HN7.out).put HTP.out hpd g8)
        have HM9 := Lib.hid (show (L1 ++ L4).map (·.2) = sizedR (g.rows.map fun r => fitL r cols) cols rows by
          rw [List.map_append, HL.out.2.2.1, HE4.out]
          unfold sizedR
          rw [if_neg (by rw [List.length_map, ← HNR.out]; exact hrl), List.length_map, ← HNR.out, show rows - Lr.length = rn by have := HRN.out; omega])
        clear g8 k2 k2p k2q k27 f27 g2
        go_wp2_with fail
        go_meet
        exact ⟨_, _, _, L1 ++ L4, HKZ, HRS9, HM9⟩
    case rest =>
      obtain ⟨a9, n9, c9, L9, HKZ, HRS9, HM9⟩ := hcut
      obtain ⟨wz, rfl⟩ : ∃ wz, wz = wc := ⟨wc, rfl⟩
      clear k2 g2
      have j0 : wz.cell? ⟨p, 0, none⟩ = some (.int .i64 g.cols) := blk_cell HKZ.out 0
      have g0 : wz.frozen? ⟨p, 0, none⟩ = false := blk_free HKZ.out 0
      have HKF := Lib.hid (show (wz.setCell ⟨p, 0, none⟩ (.int .i64 cols)).heap[p]? = some (.cells #[.int .i64 cols, .int .i64 g.limit, .slice a9 n9 c9, .slice ya Lo.length yc] 61 (0, 0)) from blk_set HKZ.out 0 _)
      have HRF := Lib.hid (HRS9.out.put HTP.out hpd (show wz.grownBy (wz.setCell ⟨p, 0, none⟩ (.int .i64 cols)) (some p) from gb_set (gb_refl _ _) _ _))
      go_upto_region 20 with fail
      generalize wz.setCell ⟨p, 0, none⟩ (.int .i64 cols) = wf at *
      clear j0 g0
      have hno : ∀ k, w.heap.size ≤ k → k < wd.heap.size → ¬ own T wd k := fun k h1 h2 e => by
        rcases e with e | e
        · have := HLT0.out k e; omega
        · omega
      have hat := (HRF.out.wi.block w.heap.size (by omega) (hno _ (Nat.le_refl _) (by omega))).trans HAT4.out
      have hrs := (HRF.out.wi.block (w.heap.size + 1) (by omega) (hno _ (by omega) (by omega))).trans HRS4.out
      have y0 : wf.cell? ⟨w.heap.size, 0, none⟩ = some (.int .i64 bx) := blk_cell hat 0
      have y1 : wf.cell? ⟨w.heap.size, 1, none⟩ = some (.int .i64 yb') := blk_cell hat 1
      have hc1 : IntKind.i64.wrap ((cols : Int) - 1) = (cols : Int) - 1 := wrap64_id _ (by omega) (by omega)
      have hr1'' : IntKind.i64.wrap ((rows : Int) - 1) = (rows : Int) - 1 := wrap64_id _ (by omega) (by omega)
      have hst := run_storeVar_row (P := Tryz.prog) wf (w.heap.size + 1) 51 51 _ #[.int .i64 (min bx ((cols : Int) - 1)), .int .i64 (min yb' ((rows : Int) - 1))] hrs (by kernel_rfl) rfl (by simp [Value.oneCell'])
      have hr2' := setRow_blk (cells := #[.int .i64 (min bx ((cols : Int) - 1)), .int .i64 (min yb' ((rows : Int) - 1))]) hrs
      have HGE := Lib.hid (gb_setRow wf (w.heap.size + 1) #[.int .i64 (min bx ((cols : Int) - 1)), .int .i64 (min yb' ((rows : Int) - 1))])
      have HRES := Lib.hid (resizeC_eq g cols rows ax ay)
      have HFIN := Lib.hid (show ∃ T', GM T' p (wf.setRow (w.heap.size + 1) #[.int .i64 (min bx ((cols : Int) - 1)), .int .i64 (min yb' ((rows : Int) - 1))]) (g.resize cols rows ax ay false).1 ∧ ∀ k, T' k ≠ 0 → own T w k from by
        have hwf2 := resizeC_wf HG0.out.wf cols rows ax ay c1 c2 r1 r2
        rw [resizeC_eq] at hwf2 ⊢
        obtain ⟨T', h1, h2⟩ := gat_build HLT.out HTP.out HRF.out.wi.size HKF.out HRF.out.rr HRF.out.ro HRF.out.tr HRF.out.tv HRF.out.ca HRF.out.nd HM9.out HL.out.2.2.2 hwf2
        refine ⟨T', h1.other (Tp := fun k => if k = w.heap.size + 1 then 1 else 0) (Within.of_gb HGE.out (fun k hk => ?_)) (fun k hk => ?_), fun k hk => ?_⟩
        · injection hk with hk
          subst hk
          exact .inl (by show (if _ then 1 else 0) ≠ 0; rw [if_pos rfl]; decide)
        · show (if _ then 1 else 0) = 0
          rw [if_neg (fun e => hno (w.heap.size + 1) (by omega) (by omega) (by rw [← e]; exact h2 k hk))]
        · rcases h2 k hk with e | e
          · exact .inl e
          · exact .inr (by omega))
      have HWI := Lib.hid (show Within (own T w) w (wf.setRow (w.heap.size + 1) #[.int .i64 (min bx ((cols : Int) - 1)), .int .i64 (min yb' ((rows : Int) - 1))]) from
        ((Within.of_below HB4.out).trans (HRF.out.wi.mono (fun k hk => by
          rcases hk with e | e
          · exact .inl e
          · exact .inr (by omega)))).trans (Within.of_gb HGE.out (fun k hk => by injection hk with hk; subst hk; exact .inr (by omega))))
      clear hat hrs
      go_wp2_with (refine wpList_storeR rfl _ _ _ rfl hst rfl rfl ?_)
      (try simp only [Exit.inBlock, Exit.then])
      exact retRow2 (x := .int .i64 0) rfl rfl rfl rfl hr2' Tryz.underlying51 rfl (by kernel_rfl) ⟨by rw [HRES.out, HIX.out, HIY.out], HWI.out, HFIN.out⟩
end Go.Proofs.YtjclgoiclbkgjaaGreatDoor
