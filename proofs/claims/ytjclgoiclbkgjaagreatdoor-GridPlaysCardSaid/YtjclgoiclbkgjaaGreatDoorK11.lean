import Derived.Test.YtjclgoiclbkgjaaGreatDoorK10
import Derived.Test.YtjclgoiclbkgjaaGreatDoorK7
import Derived.Deep.CutBlock
/- Reflow: the walk. -/
namespace Go.Proofs.YtjclgoiclbkgjaaGreatDoor
open Go.RowKit
attribute [local go_sem ↓] Go.wp_at_zero Go.wp_at_succ

theorem cloneV_any (L : List (Value × Rw)) (v : Value) (w : World) (h : OwnC w 0 2 v L.length (rowVals L)) (h1 : ∀ u ∈ rowVals L, u.oneCell' = true) (hl : L.length ≤ 100000) :
    Calls Tryz.prog 66 #[v] w fun e w' => ∃ v', e = .returned v' ∧ Below w.heap.size w w' ∧ OwnC w' w.heap.size 2 v' L.length (rowVals L) := by
  rcases h.2 with ⟨rfl, h0⟩ | ⟨b, off, cap, rfl, _⟩
  · have hL := List.eq_nil_of_length_eq_zero h0
    subst hL
    refine (cloneR_nil w).mono ?_
    rintro e w2 ⟨rfl, b⟩
    exact ⟨_, rfl, b, ownC_nil _ _ _⟩
  · exact cloneR_any L _ _ w (ownC_reads h) h1 hl
def sliceLen : Value → Nat
  | .slice _ n _ => n
  | _ => 0
theorem cellsAt_new (w : World) (c : Cel) : CellsAt (w.alloc (.cells #[.int .i32 c.rune, .int .i64 c.width, .int .i64 c.sty.fg, .int .i64 c.sty.bg, .int .i64 c.sty.attr] 38)) w.heap.size 0 [c] := fun j u hu => by
  rw [Nat.zero_add, World.cell?_alloc_new]
  simpa [cvals, Cel.vals] using hu
theorem rowsAt_one {B : Nat} {w : World} {v : Value} {L : List (Value × Rw)} (h : RowsAt B w v L) : ∀ u ∈ rowVals L, u.oneCell' = true := rowVals_one L fun x hx => by
  obtain ⟨a, c, e⟩ := ownC_sl (h.cells x hx)
  exact ⟨a, _, c, e⟩
theorem within_gb {p : Nat} {w w2 : World} (h : Within (fun k => k = p ∨ (Value.slice none 0 0).ownBlock = some k ∨ w.heap.size ≤ k) w w2) : w.grownBy w2 (some p) :=
  ⟨h.os, h.tape, h.output, h.size, fun k hk hne => h.block k hk (fun e => by
    rcases e with e | e | e
    · exact hne (by rw [e])
    · simp [Value.ownBlock] at e
    · omega)⟩
theorem gb_setRow (w : World) (g : Nat) (cs : Array Value) : w.grownBy (w.setRow g cs) (some g) := by
  refine ⟨rfl, rfl, rfl, ?_, fun k hk hne => ?_⟩
  · simp [World.setRow]
  · show (w.heap.modify g _)[k]? = _
    rw [Array.getElem?_modify, if_neg (fun e => hne (by rw [e]))]
theorem cats_ones {T : Nat → Nat} {w : World} {L : List (Value × Rw)} (h : ∀ x ∈ L, CAt T w x) : ∀ u ∈ rowVals L, u.oneCell' = true := cats_one h
set_option maxRecDepth 100000 in
set_option maxHeartbeats 8000000 in
theorem flow_any {T : Nat → Nat} {p : Nat} {w : World} {g : Gr} (h : GM T p w g) (cols rows : Nat) (ax ay : Int) (c1 : 1 ≤ cols) (c2 : cols ≤ 250) (r1 : 1 ≤ rows) (r2 : rows ≤ 120) (hx : 0 ≤ ax ∧ ax ≤ 250) (hy : 0 ≤ ay ∧ ay ≤ 120) :
    Calls Tryz.prog 56 #[.pointer (some ⟨p, 0, none⟩), .int .i64 cols, .int .i64 rows, .agg #[.int .i64 ax, .int .i64 ay]] w fun e w' =>
      e = .returned (.agg #[.int .i64 (g.flow cols rows ax ay).2.1, .int .i64 (g.flow cols rows ax ay).2.2]) ∧ Within (own T w) w w' ∧ ∃ T', GM T' p w' (g.flow cols rows ax ay).1 ∧ ∀ k, T' k ≠ 0 → own T w k := by
  have hmf : ∀ (fn : Fn) (first cap : Array Value) (w : World), (Instr.makeFunc fn first cap).run Tryz.prog w = .ok (.func fn first cap) w := fun _ _ _ _ => rfl
  obtain ⟨vr, vo, Lr, Lo, h0⟩ := h
  obtain ⟨hlr, hlo⟩ := rows_len h0
  have wf := h0.wf
  have hr2 : Lr.length ≤ 120 := by have := wf.r2; omega
  have ho2 : Lo.length ≤ 2000 := by have := wf.ol; have := wf.li; omega
  have hr1 : 1 ≤ Lr.length := by have := wf.r1; omega
  have hpl := heap_lt h0.blk
  have hBx : Below w.heap.size w ((w.alloc (.cells #[.int .i64 ax, .int .i64 ay] 51)).alloc (.cells #[.int .i64 0, .int .i64 0] 51)) := Below.alloc (Below.alloc (Below.refl w.heap.size w) (Nat.le_refl _) _) (by simp) _
  have HAT0 := Lib.hid (blk_alloc (blk_new w (.cells #[.int .i64 ax, .int .i64 ay] 51)) (.cells #[.int .i64 0, .int .i64 0] 51))
  have HRS0 := Lib.hid (blk_new2 w (.cells #[.int .i64 ax, .int .i64 ay] 51) (.cells #[.int .i64 0, .int .i64 0] 51))
  have HG0 := Lib.hid h0
  have HG1 := Lib.hid (h0.mod (.of_below hBx) id id id (fun _ => id))
  have HB1 := Lib.hid hBx
  have hsz1 : ((w.alloc (.cells #[.int .i64 ax, .int .i64 ay] 51)).alloc (.cells #[.int .i64 0, .int .i64 0] 51)).heap.size = w.heap.size + 2 := by simp
  have HGC0 := Lib.hid (show ∀ x ∈ Lo ++ Lr, x.2.Good g.cols from fun x hx => by
    refine wf.ce x.2 ?_
    rcases List.mem_append.1 hx with hx | hx
    · exact List.mem_append_right _ (by rw [← h0.eo]; exact List.mem_map_of_mem hx)
    · exact List.mem_append_left _ (by rw [← h0.er]; exact List.mem_map_of_mem hx))
  have hgc2 := wf.c2
  have HLR := Lib.hid hlr
  have HLO := Lib.hid hlo
  clear h0 wf hBx hlr hlo
  go_enter Tryz.func56, Tryz.ntmps56
  go_upto_region 1 with fail
  generalize (w.alloc (.cells #[.int .i64 ax, .int .i64 ay] 51)).alloc (.cells #[.int .i64 0, .int .i64 0] 51) = wa at *
  obtain ⟨c0, c1', c2', c3⟩ := gm_cells HG1.out
  have hl1 := ownC_ln Tryz.underlying57 HG1.out.rr.own
  have hl2 := ownC_ln Tryz.underlying57 HG1.out.ro.own
  go_region_held3 (fun w' => w'.cell? ⟨p, 2, none⟩ = some vr ∧ w'.cell? ⟨p, 3, none⟩ = some vo) (go_keep)
    (first
      | (go_at_call 66
         refine (cloneV_any Lo vo wa.drew HG1.out.ro.own (cats_ones (fun x hx => HG1.out.ca x (List.mem_append_right _ hx))) (by omega)).mono ?_
         rintro e w3 ⟨v3, rfl, b3, o3⟩
         have z2 : w3.cell? ⟨p, 2, none⟩ = some vr := cell_below b3 c2'
         have z3 : w3.cell? ⟨p, 3, none⟩ = some vo := cell_below b3 c3
         have HB3 := Lib.hid (show Below wa.heap.size wa w3 from (Below.refl wa.heap.size wa).drew.trans b3)
         have HO3 := Lib.hid (show OwnC w3 wa.heap.size 2 v3 Lo.length (rowVals Lo) from o3)
         clear b3 o3)
      | (apply step_appS rows_elem
         case hgd => rfl
         case ho => rfl
         case hown => exact HO3.out
         case hs => rfl
         case hr => exact src_reads Tryz.underlying57 (ownC_reads (ownC_below HG1.out.rr.own HB3.out)) (cats_ones (fun x hx => HG1.out.ca x (List.mem_append_left _ hx)))
         case hx => rfl
         case h63 => unfold maxLen; omega
         case hbytes => omega
         case hbase => exact HB3.out.size
         intro v4 w4 o4 g4 n4
         have y2 : w4.cell? ⟨p, 2, none⟩ = some vr := cell_grown g4 z2 (fun e => by have h1 := (ownC_lt HO3.out _ e).1; have h2 := HB1.out.size; omega)
         have y3 : w4.cell? ⟨p, 3, none⟩ = some vo := cell_grown g4 z3 (fun e => by have h1 := (ownC_lt HO3.out _ e).1; have h2 := HB1.out.size; omega)
         have HB4 := Lib.hid (HB3.out.trans (below_of_gb g4 HB3.out.size (fun q hq => (ownC_lt HO3.out q hq).1)))
         rw [← rowVals_append] at o4
         have HO4 := Lib.hid o4
         clear o4 g4 n4))
  have hAL : (Lo ++ Lr).length = Lo.length + Lr.length := List.length_append
  obtain ⟨ab, aoff, ac, rfl, hac, hacm⟩ := ownC_pos HO4.out (by omega)
  have HA2 := Lib.hid (show (Lo ++ Lr).map (·.2) = g.old ++ g.rows by rw [List.map_append, HG0.out.er, HG0.out.eo])
  have HCA := Lib.hid (show ∀ x ∈ Lo ++ Lr, CAt T w x from fun x hx => by
    rcases List.mem_append.1 hx with hx | hx
    · exact HG0.out.ca x (List.mem_append_right _ hx)
    · exact HG0.out.ca x (List.mem_append_left _ hx))
  have HOA := Lib.hid (show OwnC w4 wa.heap.size 2 (.slice (some ⟨ab, aoff, none⟩) (Lo.length + Lr.length) ac) (Lo ++ Lr).length (rowVals (Lo ++ Lr)) by rw [hAL]; exact HO4.out)
  have hal : Lo.length + Lr.length ≤ 2120 := by omega
  have hal1 : 1 ≤ Lo.length + Lr.length := by omega
  have HBW := Lib.hid (HB1.out.trans (HB4.out.mono HB1.out.size))
  have hsz4 := HB4.out.size
  have hat := blk_below HAT0.out HB4.out (by omega)
  have hrs := blk_below HRS0.out HB4.out (by omega)
  have hk4 := blk_below HG1.out.blk HB4.out (by omega)
  have x1 : w4.cell? ⟨w.heap.size, 1, none⟩ = some (.int .i64 ay) := blk_cell hat 1
  have hw1 : IntKind.i64.wrap ((Lo.length : Int) + ay) = (Lo.length : Int) + ay := wrap64_id _ (by omega) (by omega)
  have HAT := Lib.hid hat
  have HRS := Lib.hid hrs
  have HK4 := Lib.hid hk4
  clear hat hrs hk4 HB3 HO3 HO4 hl1
  go_upto_region 2 with fail
  go_region_held3 (fun w' => w'.cell? ⟨p, 3, none⟩ = some vo ∧ w'.cell? ⟨w.heap.size, 1, none⟩ = some (.int .i64 ay)) (go_keep) (fail)
  clear z2 z3 y2 y3 c0 c1' c2' c3 x1 hw1
  go_upto_region 6 with fail
  have hsz5 : ((w4.alloc (.cells #[.int .i64 0, .int .i64 0] 51)).drew).heap.size = w4.heap.size + 1 := by show (w4.alloc _).heap.size = _; simp
  have HB5 := Lib.hid (show Below w4.heap.size w4 ((w4.alloc (.cells #[.int .i64 0, .int .i64 0] 51)).drew) from (Below.alloc (Below.refl w4.heap.size w4) (Nat.le_refl _) _).drew)
  have HPB := Lib.hid (show ((w4.alloc (.cells #[.int .i64 0, .int .i64 0] 51)).drew).heap[w4.heap.size]? = some (.cells #[.int .i64 0, .int .i64 0] 51 (0, 0)) from blk_new w4 _)
  generalize (w4.alloc (.cells #[.int .i64 0, .int .i64 0] 51)).drew = w5 at *
  have HK5 := Lib.hid (blk_below HK4.out HB5.out (by omega))
  have HAT5 := Lib.hid (blk_below HAT.out HB5.out (by omega))
  have HRS5 := Lib.hid (blk_below HRS.out HB5.out (by omega))
  have HOA5 := Lib.hid (ownC_below HOA.out HB5.out)
  have HBW5 := Lib.hid (HBW.out.trans (HB5.out.mono (by omega)))
  have hab : ab < w5.heap.size ∧ ab ≠ w4.heap.size ∧ wa.heap.size ≤ ab := by
    have := ownC_lt HOA.out ab rfl
    omega
  clear HK4 HAT HRS HOA HBW HB4 HB5 HG1 HB1 HAT0 HRS0
  have HPL := Lib.hid (show ((Lo.length : Int) + ay) = (g.old.length : Int) + ay by rw [HLO.out])
  generalize hpb : w4.heap.size = pb at *
  have hpb5 : pb < w5.heap.size := by omega
  have hpw : w.heap.size + 2 ≤ pb := by omega
  clear hpb hsz4
  generalize hpl2 : (Lo.length : Int) + ay = place at *
  have hplb : 0 ≤ place ∧ place ≤ 3000 := by omega
  clear hpl2
  generalize hAA : Lo ++ Lr = A at *
  generalize hNN : Lo.length + Lr.length = N at *
  clear hNN hAA hl2 hr2 ho2 hr1
  obtain ⟨F, hF⟩ : ∃ F, flRun cols place ax (A.map (·.2)) 0 [] (-1) ⟨[], 0, 0⟩ = F := ⟨_, rfl⟩
  have HF := Lib.hid hF
  clear hF
  go_loopw [11, 13] (fun vO iv wr => ∃ (k : Nat) (L : List (Value × Rw)) (st : Fl), k ≤ N ∧ iv = .int .i64 k ∧ Hid (FlS w5 pb wr vO L st) ∧ Hid (flRun cols place ax ((A.map (·.2)).drop k) k [] (-1) st = F) ∧ Hid (FlI cols st ∧ st.out.length ≤ 251 * k)) (fun _ iv _ => N - (intOf iv).toNat)
  case atStart => exact ⟨0, [], ⟨[], 0, 0⟩, Nat.zero_le _, rfl, ⟨gb_refl _ _, HPB.out, RowsAt.nil _ _, rfl⟩, HF.out, ⟨by simp, Int.le_refl 0, Int.le_refl 0⟩, Nat.zero_le _⟩
  case round =>
    obtain ⟨k, L, st, hk, rfl, HS, HR, HI⟩ := hrel
    obtain ⟨ws, rfl⟩ : ∃ ws, ws = wr := ⟨wr, rfl⟩
    by_cases hlt : k < N
    ·
      have d1 : decide ((k : Int) < (N : Int)) = true := decide_eq_true (by omega)
      have d1' : decide (k < N) = true := decide_eq_true hlt
      have hsr := HS.out.gb.size
      go_upto_region 11 with fail
      go_loopw [13, 14, 15] (fun iv vl mv wi => ∃ (j : Nat) (line : List Cel) (mark : Int), (k ≤ j ∧ j < N) ∧ iv = .int .i64 j ∧ mv = .int .i64 mark ∧ Hid (Below ws.heap.size ws wi) ∧ Hid (OwnC wi ws.heap.size 5 vl line.length (cvals line)) ∧
        Hid (flRun cols place ax ((A.map (·.2)).drop j) j line mark st = F) ∧ Hid ((∀ c ∈ line, c.Ok) ∧ st.out.length + line.length ≤ 251 * j ∧ -1 ≤ mark)) (fun iv _ _ _ => N - (intOf iv).toNat)
      case atStart => exact ⟨k, [], -1, ⟨Nat.le_refl _, hlt⟩, rfl, rfl, Below.refl _ _, ownC_nil _ _ _, HR.out, by simp, by have := HI.out.2; simp; omega, by omega⟩
      case round =>
        obtain ⟨j, line, mark, ⟨hkj, hj⟩, rfl, rfl, HB, HO, HR2, HI2⟩ := hrel
        obtain ⟨wi, rfl⟩ : ∃ wi, wi = wr := ⟨wr, rfl⟩
        have hjA : j < A.length := by omega
        have hbi := HB.out.size
        have HOi := Lib.hid (ownC_below (ownC_grown HOA5.out HS.out.gb (fun q hq e => hab.2.1 (by injection e with e; injection hq with hq; exact hq.trans e.symm))) HB.out)
        have hoi := HOi.out
        rw [hAL] at hoi
        obtain ⟨q0, q1⟩ := ownC_row2 hoi j hjA
        have hix := idx_at (P := Tryz.prog) (size := 2) Tryz.underlying57 row_info ab aoff N ac j hj
        have HXO := Lib.hid (ownC_below (ownC_grown (ownC_below (HCA.out A[j] (List.getElem_mem hjA)).own (HBW5.out)) HS.out.gb (fun q hq e => by have := (ownC_lt (HCA.out A[j] (List.getElem_mem hjA)).own q hq).2; injection e with e; omega)) HB.out)
        have HGC := Lib.hid (HGC0.out A[j] (List.getElem_mem hjA))
        have HDR := Lib.hid (show (A.map (·.2)).drop j = A[j].2 :: (A.map (·.2)).drop (j + 1) by
          rw [← List.getElem_map (f := fun x : Value × Rw => x.2) (h := by simpa using hjA)]
          exact List.drop_eq_getElem_cons (by simpa using hjA))
        have HXJ := Lib.hid (show ∀ w2 : World, OwnC w2 0 2 (.slice (some ⟨ab, aoff, none⟩) N ac) A.length (rowVals A) → w2.cell? ⟨ab, aoff + j * 2 + 1, none⟩ = some (.bool A[j].2.wrap) from fun w2 h2 => by
          rw [hAL] at h2
          exact (ownC_row2 h2 j hjA).2)
        clear hoi
        generalize A[j] = x at *
        obtain ⟨xv, xr⟩ := x
        have HXJ := Lib.hid (show ∀ w2 : World, OwnC w2 0 2 (.slice (some ⟨ab, aoff, none⟩) N ac) A.length (rowVals A) → w2.cell? ⟨ab, aoff + j * 2 + 1, none⟩ = some (.bool xr.wrap) from HXJ.out)
        dsimp only at q0 q1
        have HXO := Lib.hid (show OwnC wi 0 5 xv xr.cells.length (cvals xr.cells) from HXO.out)
        have HGC := Lib.hid (show xr.cells.length = g.cols ∧ ∀ c ∈ xr.cells, c.Ok from HGC.out)
        obtain ⟨xa, xc, rfl⟩ := ownC_sl HXO.out
        have hxl : xr.cells.length ≤ 250 := by have h1 : xr.cells.length = g.cols := HGC.out.1; omega
        have hll : line.length ≤ 600000 := by have := HI2.out.2.1; omega
        obtain ⟨la, lc, rfl⟩ := ownC_sl HO.out
        have hlx := ownC_ln Tryz.underlying42 HO.out
        have x0 : wi.cell? ⟨w.heap.size, 0, none⟩ = some (.int .i64 ax) := cell_below HB.out (cell_grown HS.out.gb (blk_cell HAT5.out 0) (fun e => by injection e with e; omega))
        have hw1 : IntKind.i64.wrap ((line.length : Int) + ax) = (line.length : Int) + ax := wrap64_id _ (by omega) (by omega)
        go_upto_region 11 with fail
        go_cut [47] (fun vv wx => (∃ f, vv = .bool f ∧ Hid (f = decide ((j : Int) = place))) ∧ wx = wi)
        case first =>
          go_wp2_with fail
          go_meet
          refine ⟨⟨_, rfl, ?_⟩, rfl⟩
          show _ = _
          rw [beqI]
        case rest =>
        obtain ⟨⟨f, rfl, HFL⟩, rfl⟩ := hcut
        obtain ⟨wi, rfl⟩ : ∃ wi, wi = wc := ⟨wc, rfl⟩
        go_upto_if 47 with fail
        go_cut [15] (fun mv wx => (∃ mark2 : Int, mv = .int .i64 mark2 ∧ Hid (mark2 = if (j : Int) = place then (line.length : Int) + ax else mark)) ∧ wx = wi)
        case first =>
          cases f
          · have HNE := Lib.hid (show ¬ (j : Int) = place from of_decide_eq_false HFL.out.symm)
            go_wp2_with fail
            go_meet
            exact ⟨⟨mark, rfl, by show _ = _; rw [if_neg HNE.out]⟩, rfl⟩
          · have HE := Lib.hid (show (j : Int) = place from of_decide_eq_true HFL.out.symm)
            go_wp2_with fail
            go_meet
            exact ⟨⟨_, rfl, by show _ = _; rw [if_pos HE.out]⟩, rfl⟩
        case rest =>
        obtain ⟨⟨mark2, rfl, HM2⟩, rfl⟩ := hcut
        obtain ⟨wi, rfl⟩ : ∃ wi, wi = wc := ⟨wc, rfl⟩
        clear HFL x0 hw1
        go_wp2_with (at_builtin; refine held ?_)
        unfold Held
        refine wpList_appD cells_elem rfl rfl ws.heap.size HO.out rfl (ownC_reads HXO.out) rfl (cvals_one _) (by unfold maxLen; omega) (by omega) (by omega) ?_
        intro v7 w7 o7 g7 n7
        obtain ⟨a7, c7, rfl⟩ := ownC_sl o7
        have q17 : w7.cell? ⟨ab, aoff + j * 2 + 1, none⟩ = some (.bool xr.wrap) := cell_grown g7 q1 (fun e => by have := (ownC_lt HO.out _ e).1; omega)
        have HB7 := Lib.hid (HB.out.trans (below_of_gb g7 HB.out.size (fun q hq => (ownC_lt HO.out q hq).1)))
        have HO7 := Lib.hid (show OwnC w7 ws.heap.size 5 (.slice a7 (line.length + xr.cells.length) c7) (line ++ xr.cells).length (cvals (line ++ xr.cells)) by rw [cvals_append, List.length_append]; exact o7)
        have hlen7 : (line ++ xr.cells).length = line.length + xr.cells.length := List.length_append
        have HLI := Lib.hid (show (∀ c ∈ line ++ xr.cells, c.Ok) ∧ st.out.length + (line ++ xr.cells).length + 1 ≤ 251 * (j + 1) ∧ -1 ≤ mark2 from ⟨fun c hc => by
            rcases List.mem_append.1 hc with hc | hc
            · exact HI2.out.1 c hc
            · exact HGC.out.2 c hc, by have := HI2.out.2.1; omega, by
            have h1 := HM2.out
            have h2 := HI2.out.2.2
            rw [h1]
            split
            · omega
            · exact h2⟩)
        have HF2 := Lib.hid (show (if xr.wrap = false ∨ (A.map (·.2)).drop (j + 1) = [] then flRun cols place ax ((A.map (·.2)).drop (j + 1)) (j + 1) [] (-1) (flEnd cols (line ++ xr.cells) mark2 xr.wrap st) else flRun cols place ax ((A.map (·.2)).drop (j + 1)) (j + 1) (line ++ xr.cells) mark2 st) = F by
          have h1 := HR2.out
          rw [HDR.out] at h1
          have h2 := HM2.out
          subst h2
          exact h1)
        have HDN := Lib.hid (show (A.map (·.2)).drop (j + 1) = [] ↔ j + 1 = N by
          rw [List.drop_eq_nil_iff, List.length_map, hAL]; omega)
        clear o7 g7 n7 HO HR2 HI2 HDR HM2 hlx q0
        generalize line ++ xr.cells = line7 at *
        have hw2 : IntKind.i64.wrap ((N : Int) - 1) = (N : Int) - 1 := wrap64_id _ (by omega) (by omega)
        go_upto_region 14 with fail
        generalize line.length + xr.cells.length = ln at *
        subst hlen7
        go_cut [72] (fun vv wx => (∃ f, vv = .bool f ∧ Hid (f = (!xr.wrap || decide (j + 1 = N)))) ∧ wx = w7)
        case first =>
          cases hwr : xr.wrap
          · rw [hwr] at q17
            go_wp2_with fail
            go_meet
            exact ⟨⟨_, rfl, by show _ = _; rw [hwr]; rfl⟩, rfl⟩
          · rw [hwr] at q17
            go_wp2_with fail
            go_meet
            refine ⟨⟨_, rfl, ?_⟩, rfl⟩
            show _ = _
            rw [beqI, hwr, Bool.eq_iff_iff]
            simp; omega
        case rest =>
        obtain ⟨⟨f, rfl, HFL⟩, rfl⟩ := hcut
        obtain ⟨w7, rfl⟩ : ∃ w7, w7 = wc := ⟨wc, rfl⟩
        clear q17 hw2
        have hw3 : IntKind.i64.wrap ((j : Int) + 1) = (j : Int) + 1 := wrap64_id _ (by omega) (by omega)
        cases f
        · have hc := HFL.out
          have hc2 : xr.wrap = true ∧ ¬ j + 1 = N := by
            cases hwr : xr.wrap
            · rw [hwr] at hc; simp at hc
            · rw [hwr] at hc; simp at hc; exact ⟨rfl, hc⟩
          have hj1 : j + 1 < N := by omega
          have HF3 := Lib.hid (show flRun cols place ax ((A.map (·.2)).drop (j + 1)) (j + 1) line7 mark2 st = F by
            have h1 := HF2.out
            rw [if_neg (fun e => by
              rcases e with e | e
              · rw [hc2.1] at e; cases e
              · exact hc2.2 (HDN.out.1 e))] at h1
            exact h1)
          clear hc hc2
          go_wp2_with fail
          go_roundw
          case rel => exact ⟨j + 1, line7, mark2, ⟨by omega, hj1⟩, by go_num, rfl, HB7, HO7, HF3, HLI.out.1, by have := HLI.out.2.1; omega, HLI.out.2.2⟩
          case measure => simp [intOf]; omega
        · have HF3 := Lib.hid (show flRun cols place ax ((A.map (·.2)).drop (j + 1)) (j + 1) [] (-1) (flEnd cols line7 mark2 xr.wrap st) = F by
            have h1 := HF2.out
            have hc := HFL.out
            rw [if_pos (by
              cases hwr : xr.wrap
              · exact .inl rfl
              · rw [hwr] at hc
                simp at hc
                exact .inr (HDN.out.2 hc))] at h1
            exact h1)
          clear HF2 HFL HDN hw3
          go_upto_block 4 with fail
          go_cut [14] (fun vl wx => ∃ l3 : List Cel, Hid (l3 = trimM line7 mark2) ∧ Hid (OwnC wx ws.heap.size 5 vl l3.length (cvals l3)) ∧ Hid (Below ws.heap.size ws wx))
          case first =>
            go_upto_region 15 with fail
            go_loopw [14] (fun vl wt => ∃ l2 : List Cel, Hid (OwnC wt ws.heap.size 5 vl l2.length (cvals l2)) ∧ Hid (Below ws.heap.size ws wt) ∧ Hid (trimM l2 mark2 = trimM line7 mark2 ∧ l2.length ≤ line7.length)) (fun vl _ => sliceLen vl)
            case atStart => exact ⟨line7, HO7, HB7, rfl, Nat.le_refl _⟩
            case round =>
              obtain ⟨l2, HO2, HBt, HT⟩ := hrel
              obtain ⟨wt, rfl⟩ : ∃ wt, wt = wr := ⟨wr, rfl⟩
              obtain ⟨a2, lc2, rfl⟩ := ownC_sl HO2.out
              have hl2b : l2.length ≤ 600000 := by have := HT.out.2; have := HLI.out.2.1; omega
              have hw4 : IntKind.i64.wrap ((l2.length : Int) - 1) = (l2.length : Int) - 1 := wrap64_id _ (by omega) (by omega)
              by_cases hm : mark2 < (l2.length : Int) - 1
              · have d2 : decide (mark2 < (l2.length : Int) - 1) = true := decide_eq_true hm
                have hpos : 0 < l2.length := by have := HLI.out.2.2; omega
                have d3 : decide (0 < (l2.length : Int)) = true := decide_eq_true (by omega)
                have d3' : decide (0 < l2.length) = true := decide_eq_true hpos
                obtain ⟨b, off, c, e2, hn1, hn2⟩ := ownC_pos HO2.out hpos
                simp only [Value.slice.injEq] at e2
                obtain ⟨rfl, _, rfl⟩ := e2
                have hni : ((l2.length - 1 : Nat) : Int) = (l2.length : Int) - 1 := by omega
                have hix2 := idx_at (P := Tryz.prog) (size := 5) Tryz.underlying42 cell_info b off l2.length lc2 (l2.length - 1) (by omega)
                rw [hni] at hix2
                obtain ⟨q0, q1, q2, q3, q4⟩ := ownC_cel HO2.out (l2.length - 1) (by omega) rfl
                have hsl := slice_h (P := Tryz.prog) (size := 5) Tryz.underlying42 cell_info (some ⟨b, off, none⟩) l2.length lc2 (l2.length - 1) (by omega)
                rw [hni] at hsl
                have HTS := Lib.hid (trimM_step l2 mark2)
                have HPR := Lib.hid (ownC_pre HO2.out (l2.length - 1) (by omega))
                generalize l2.getD (l2.length - 1) noC = cc at *
                obtain ⟨cr, cw, ⟨cf, cb, ca⟩⟩ := cc
                dsimp only at q0 q1 q2 q3 q4
                go_wp2_with fail
                refine (isPlain_any [⟨cr, cw, ⟨cf, cb, ca⟩⟩] wt.heap.size 0 1 _ (cellsAt_new wt ⟨cr, cw, ⟨cf, cb, ca⟩⟩) (by simp)).mono ?_
                rintro e w8 ⟨rfl, b8⟩
                have HB8 := Lib.hid (show Below wt.heap.size wt w8 from (Below.alloc (Below.refl wt.heap.size wt) (Nat.le_refl _) _).trans (b8.mono (by simp)))
                have hal8 : [(⟨cr, cw, ⟨cf, cb, ca⟩⟩ : Cel)].all isPlain = isPlain ⟨cr, cw, ⟨cf, cb, ca⟩⟩ := by simp
                clear b8 q0 q1 q2 q3 q4
                generalize hbb : [(⟨cr, cw, ⟨cf, cb, ca⟩⟩ : Cel)].all isPlain = bb at *
                have HAL8 := Lib.hid hal8
                clear hal8 hbb
                cases bb
                · go_wp2_with fail
                  go_meet
                  refine ⟨l2, ?_, ownC_below HO2.out HB8.out, HBt.out.trans (HB8.out.mono HBt.out.size)⟩
                  show _ = _
                  rw [← HT.out.1, HTS.out, if_neg (fun e => by rw [← HAL8.out] at e; exact absurd e.2.2 (by decide))]
                · go_wp2_with fail
                  go_roundw
                  case rel =>
                    refine ⟨l2.take (l2.length - 1), ?_, HBt.out.trans (HB8.out.mono HBt.out.size), ?_, ?_⟩
                    · rw [List.length_take, Nat.min_eq_left (by omega), ← cvals_take]
                      exact ownC_below HPR.out HB8.out
                    · rw [← HT.out.1, HTS.out, if_pos ⟨hm, fun e => by rw [e] at hpos; exact absurd hpos (by decide), HAL8.out.symm⟩]
                    · rw [List.length_take]; have := HT.out.2; omega
                  case measure => (show l2.length - 1 < l2.length; omega)
              · have d2 : decide (mark2 < (l2.length : Int) - 1) = false := decide_eq_false hm
                have HTS := Lib.hid (trimM_step l2 mark2)
                go_wp2_with fail
                go_meet
                refine ⟨l2, ?_, HO2, HBt⟩
                show _ = _
                rw [← HT.out.1, HTS.out, if_neg (fun e => by have := e.1; omega)]
          case rest =>
          obtain ⟨l3, HL3, HO8, HB8⟩ := hcut
          obtain ⟨w8, rfl⟩ : ∃ w8, w8 = wc := ⟨wc, rfl⟩
          have HS8 := Lib.hid (HS.out.below HB8.out)
          have hb8 := HB8.out.size
          have hl3 : l3.length ≤ line7.length := by
            have h1 := HL3.out
            have h2 := trimM_len line7 mark2
            rw [← h1] at h2
            exact h2
          have hso : st.out.length ≤ 600000 := by have := HI.out.2; omega
          have hl3b : l3.length ≤ 600000 := by have := HLI.out.2.1; omega
          obtain ⟨oa, oc, rfl⟩ := ownC_sl HS.out.ro.own
          have hLs : L.length = st.out.length := by rw [← HS.out.er, List.length_map]
          have HLS := Lib.hid hLs
          have hLb : L.length ≤ 600000 := by omega
          have HWB := Lib.hid (blk_new w8 (.cells #[.int .i64 L.length] 3))
          have HB9 := Lib.hid (Below.alloc (Below.refl w8.heap.size w8) (Nat.le_refl _) (.cells #[.int .i64 L.length] 3))
          have hsz9 : (w8.alloc (.cells #[.int .i64 L.length] 3)).heap.size = w8.heap.size + 1 := by simp
          clear hLs
          go_upto_region 18 with fail
          generalize w8.alloc (.cells #[.int .i64 L.length] 3) = w9 at *
          have HS9 := Lib.hid (HS8.out.below HB9.out)
          have HPK9 := Lib.hid HS9.out.pk
          have HO9 := Lib.hid (ownC_below HO8.out HB9.out)
          go_wp2_with fail
          refine (split_any l3 cols mark2 _ w9 w8.heap.size pb st.out.length st.px st.py (ownC_mono HO9.out (Nat.zero_le _)) (fun e => by have := (ownC_lt HO9.out _ e).1; omega) (by rw [← HLS.out]; exact blk_cell HWB.out 0) (by omega) HPK9.out c1 c2 (by omega) (by omega)).mono ?_
          rintro e w10 ⟨v2, L2, rfl, g10, rl10, e10, k10⟩
          have hL2 : L2.length = (splitG l3 cols mark2).done.length + 1 := by rw [← spEnd_len cols, ← e10, List.length_map]
          have hL2b : L2.length ≤ 600001 := by
            have h1 := (splitG_i l3 cols mark2 (fun c hc => HLI.out.1 c (by rw [HL3.out] at hc; exact trimM_mem hc)) c1).2
            omega
          obtain ⟨D2, x2, rfl⟩ : ∃ D2 x2, L2 = D2 ++ [x2] := by
            rcases List.eq_nil_or_concat L2 with h1 | ⟨D2, x2, h1⟩
            · rw [h1] at hL2; simp at hL2
            · exact ⟨D2, x2, by rw [h1, List.concat_eq_append]⟩
          obtain ⟨xv2, xr2⟩ := x2
          have HG10 := Lib.hid g10
          have HRL10 := Lib.hid rl10
          have HE10 := Lib.hid e10
          have HK10 := Lib.hid k10
          have hdl : (D2 ++ [(xv2, xr2)]).length = D2.length + 1 := by simp
          have hs10 := g10.size
          clear g10 rl10 e10 k10 hL2
          rw [hdl] at hL2b
          obtain ⟨s2, sc2, rfl⟩ := ownC_sl HRL10.out.own
          have HOV := Lib.hid (ownC_grown HS9.out.ro.own HG10.out (fun q hq e => by have := (ownC_lt HS9.out.ro.own q hq).1; injection e with e; omega))
          have hs9 := HS9.out.gb.size
          have HRD := Lib.hid (show Reads w10 2 (.slice s2 (D2.length + 1) sc2) (D2.length + 1) (rowVals (D2 ++ [(xv2, xr2)])) by have h1 := ownC_reads HRL10.out.own; rw [hdl] at h1; exact h1)
          go_wp2_with (at_builtin; refine held ?_)
          unfold Held
          refine wpList_appD rows_elem rfl rfl w5.heap.size HOV.out rfl HRD.out rfl (rowsAt_one HRL10.out) (by unfold maxLen; omega) (by omega) (by omega) ?_
          intro v11 w11 o11 g11 n11
          obtain ⟨ob, oo, oc2, rfl, hn1, hn2⟩ := ownC_pos o11 (by omega)
          have hgb11 := gb_trans_new (gb_trans HS9.out.gb HG10.out) g11 (fun q hq => (ownC_lt HS9.out.ro.own q hq).1)
          have q11 := HXJ.out w11 (ownC_mono (ownC_grown HOA5.out hgb11 (fun q hq e => hab.2.1 (by injection e with e; injection hq with hq; exact hq.trans e.symm))) (Nat.zero_le _))
          obtain ⟨t1, t2⟩ := ownC_cellx o11 ((L.length + D2.length) * 2 + 1) (by omega)
          rw [List.getElem?_eq_getElem (by rw [List.length_append, rowVals_len, rowVals_len, hdl]; omega)] at t1
          rw [← Nat.add_assoc] at t1 t2
          generalize (rowVals L ++ rowVals (D2 ++ [(xv2, xr2)]))[(L.length + D2.length) * 2 + 1]'(by rw [List.length_append, rowVals_len, rowVals_len, hdl]; omega) = tv at t1
          have hixo := idx_at (P := Tryz.prog) (size := 2) Tryz.underlying57 row_info ob oo (L.length + (D2.length + 1)) oc2 (L.length + D2.length) (by omega)
          have hixa := idx_at (P := Tryz.prog) (size := 2) Tryz.underlying57 row_info ab aoff N ac j hj
          have hcast : ((L.length + (D2.length + 1) : Nat) : Int) - 1 = ((L.length + D2.length : Nat) : Int) := by omega
          have hw5 : IntKind.i64.wrap (((L.length + (D2.length + 1) : Nat) : Int) - 1) = ((L.length + D2.length : Nat) : Int) := by rw [wrap64_id _ (by omega) (by omega)]; omega
          have hw6 : IntKind.i64.wrap ((j : Int) + 1) = (j : Int) + 1 := wrap64_id _ (by omega) (by omega)
          have HSN := Lib.hid (HS9.out.line hpb5 HG10.out HRL10.out cols line7 mark2 (by rw [← HL3.out]; exact HE10.out) (by rw [← HL3.out]; exact HK10.out) (by rw [hdl]; exact o11) g11 n11 xr.wrap)
          have hll2 : (L ++ D2).length = L.length + D2.length := List.length_append
          rw [hll2] at HSN
          have HFI := Lib.hid (flEnd_i HI.out.1 line7 mark2 xr.wrap HLI.out.1 c1)
          clear g11 n11 o11 hgb11
          go_wp2_with fail
          go_roundw
          case rel =>
            refine ⟨j + 1, L ++ D2 ++ [(xv2, ⟨xr2.cells, xr.wrap⟩)], flEnd cols line7 mark2 xr.wrap st, by omega, by go_num, HSN, HF3, HFI.out.1, ?_⟩
            have h1 := HFI.out.2.1
            have h2 := HLI.out.2.1
            omega
          case measure => simp [intOf]; omega
    · have HKN := Lib.hid (show k = N by omega)
      have d1 : decide ((k : Int) < (N : Int)) = false := decide_eq_false (by omega)
      have d1' : decide (k < N) = false := decide_eq_false (by omega)
      have HFE := Lib.hid (show st = F by
        have h1 := HR.out
        rw [List.drop_eq_nil_iff.2 (by rw [List.length_map]; omega)] at h1
        exact h1)
      clear hlt
      have hst := HFE.out
      subst hst
      have HFIN := Lib.hid (flRun_i (place := place) (atx := ax) c1 g.cols (A.map (·.2)) (fun r hr => by
        obtain ⟨x, hx2, rfl⟩ := List.mem_map.1 hr
        exact HGC0.out x hx2) 0 [] (-1) ⟨[], 0, 0⟩ ⟨by simp, Int.le_refl 0, Int.le_refl 0⟩ (by simp))
      rw [HF.out] at HFIN
      have hpy : st.py < (st.out.length : Int) := HFIN.out.2 (fun e => by
        have h1 := congrArg List.length e
        rw [List.length_map, List.length_nil] at h1
        omega)
      have hpy0 := HFIN.out.1.p0
      have hLs : L.length = st.out.length := by rw [← HS.out.er, List.length_map]
      have hLb : L.length ≤ 600000 := by have := HI.out.2; omega
      have hsr := HS.out.gb.size
      clear HR HFE
      go_upto_block 6 with fail
      go_cut [11] (fun vl wx => ∃ m : Nat, Hid (m ≤ L.length ∧ st.py < (m : Int)) ∧ Hid (trimR st.out.length st.out st.py = st.out.take m) ∧ Hid (RowsAt w5.heap.size wx vl (L.take m)) ∧ Hid (Below ws.heap.size ws wx))
      case first =>
        go_upto_region 20 with fail
        go_loopw [11] (fun vl wt => ∃ m : Nat, Hid (m ≤ L.length ∧ st.py < (m : Int)) ∧ Hid (trimR (st.out.take m).length (st.out.take m) st.py = trimR st.out.length st.out st.py) ∧ Hid (RowsAt w5.heap.size wt vl (L.take m)) ∧ Hid (Below ws.heap.size ws wt)) (fun vl _ => sliceLen vl)
        case atStart => exact ⟨L.length, ⟨Nat.le_refl _, by rw [hLs]; exact hpy⟩, by show _ = _; rw [hLs, List.take_length], by rw [List.take_length]; exact HS.out.ro, Below.refl _ _⟩
        case round =>
          obtain ⟨m, HM, HT, HRW, HBt⟩ := hrel
          obtain ⟨wt, rfl⟩ : ∃ wt, wt = wr := ⟨wr, rfl⟩
          have hml := HM.out.1
          have hmp := HM.out.2
          have hlm : (L.take m).length = m := by rw [List.length_take]; omega
          have hown := HRW.out.own
          rw [hlm] at hown
          obtain ⟨b, off, c, rfl, hn1, hn2⟩ := ownC_pos hown (by omega)
          have hbs := HBt.out.size
          have y1 : wt.cell? ⟨pb, 1, none⟩ = some (.int .i64 st.py) := cell_below HBt.out (blk_cell HS.out.pk 1)
          have hw5 : IntKind.i64.wrap ((m : Int) - 1) = (m : Int) - 1 := wrap64_id _ (by omega) (by omega)
          have hlo : (st.out.take m).length = m := by rw [List.length_take]; omega
          have HTS := Lib.hid (trimR_step (st.out.take m) st.py)
          rw [hlo] at HTS
          by_cases hm : st.py < (m : Int) - 1
          · have d2 : decide (st.py < (m : Int) - 1) = true := decide_eq_true hm
            have hm1 : m - 1 < L.length := by omega
            have hni : ((m - 1 : Nat) : Int) = (m : Int) - 1 := by omega
            obtain ⟨q0, q1⟩ := ownC_row2 hown (m - 1) (by rw [hlm]; omega)
            have hgx : (L.take m)[m - 1]'(by rw [hlm]; omega) = L[m - 1] := by rw [List.getElem_take]
            rw [hgx] at q0 q1
            have hix := idx_at (P := Tryz.prog) (size := 2) Tryz.underlying57 row_info b off m c (m - 1) (by omega)
            rw [hni] at hix
            have hsl := slice_h (P := Tryz.prog) (size := 2) Tryz.underlying57 row_info (some ⟨b, off, none⟩) m c (m - 1) (by omega)
            rw [hni] at hsl
            have hxm : L[m - 1] ∈ L.take m := by rw [← hgx]; exact List.getElem_mem _
            have HXC := Lib.hid (HRW.out.cells _ hxm)
            have HXO : Hid (st.out.getD (m - 1) noR = L[m - 1].2) := by
              show _ = _
              rw [← HS.out.er, List.getD_eq_getElem?_getD, List.getElem?_map, List.getElem?_eq_getElem hm1]; rfl
            have HXT : Hid ((st.out.take m).getD (m - 1) noR = L[m - 1].2) := by
              show _ = _
              rw [← HXO.out, List.getD_eq_getElem?_getD, List.getElem?_take, if_pos (by omega), ← List.getD_eq_getElem?_getD]
            have HXG := Lib.hid (show L[m - 1].2.Good cols from HI.out.1.good _ (by rw [← HS.out.er]; exact List.mem_map_of_mem (List.getElem_mem hm1)))
            have HPR := Lib.hid (HRW.out.pre hlm (m - 1) (by omega))
            rw [List.take_take, Nat.min_eq_left (by omega)] at HPR
            clear hown hxm hgx
            generalize L[m - 1] = x at *
            obtain ⟨xv, xr⟩ := x
            dsimp only at q0 q1
            have HXC2 := Lib.hid (show OwnC wt w5.heap.size 5 xv xr.cells.length (cvals xr.cells) from HXC.out)
            have HXG2 := Lib.hid (show xr.cells.length = cols from HXG.out.1)
            obtain ⟨xb, xo, xc, rfl, _, _⟩ := ownC_pos HXC2.out (by rw [HXG2.out]; exact c1)
            have hcl : xr.cells.length ≤ 1000000 := by have h1 : xr.cells.length = cols := HXG2.out; omega
            cases hwr : xr.wrap
            · rw [hwr] at q1
              go_wp2_with fail
              refine (isPlain_any xr.cells xb xo xc wt (cellsAt_own HXC2.out) hcl).mono ?_
              rintro e w8 ⟨rfl, b8⟩
              have HB8 := Lib.hid b8
              clear b8 q0 q1
              generalize hbb : xr.cells.all isPlain = bb at *
              have HBB := Lib.hid hbb
              clear hbb
              cases bb
              · go_wp2_with fail
                go_meet
                refine ⟨m, HM, ?_, HRW.out.below HB8.out, HBt.out.trans (HB8.out.mono hbs)⟩
                show _ = _
                rw [← HT.out, hlo, HTS.out, if_neg (fun e => by
                  have h4 := e.2.2.2
                  rw [HXT.out] at h4
                  have h5 : xr.cells.all isPlain = true := h4
                  rw [HBB.out] at h5
                  cases h5)]
              · go_wp2_with fail
                go_roundw
                case rel =>
                  refine ⟨m - 1, ⟨by omega, by omega⟩, ?_, HPR.out.below HB8.out, HBt.out.trans (HB8.out.mono hbs)⟩
                  show _ = _
                  rw [← HT.out, hlo, HTS.out, if_pos ⟨hm, fun e => by rw [e] at hlo; simp at hlo; omega, by rw [HXT.out]; exact hwr, by rw [HXT.out]; exact HBB.out⟩, List.take_take, Nat.min_eq_left (by omega)]
                case measure => (show m - 1 < m; omega)
            · rw [hwr] at q1
              go_wp2_with fail
              go_meet
              refine ⟨m, HM, ?_, HRW, HBt⟩
              show _ = _
              rw [← HT.out, hlo, HTS.out, if_neg (fun e => by
                have h4 := e.2.2.1
                rw [HXT.out] at h4
                have h5 : xr.wrap = false := h4
                rw [hwr] at h5
                cases h5)]
          · have d2 : decide (st.py < (m : Int) - 1) = false := decide_eq_false hm
            go_wp2_with fail
            go_meet
            refine ⟨m, HM, ?_, HRW, HBt⟩
            show _ = _
            rw [← HT.out, hlo, HTS.out, if_neg (fun e => by have := e.1; omega)]
      case rest =>
      obtain ⟨m, HM, HTR, HRW, HBt⟩ := hcut
      obtain ⟨wt, rfl⟩ : ∃ wt, wt = wc := ⟨wc, rfl⟩
      have hml := HM.out.1
      have hmp := HM.out.2
      have hlm : (L.take m).length = m := by rw [List.length_take]; omega
      have hown := HRW.out.own
      rw [hlm] at hown
      obtain ⟨b, off, c, rfl, hn1, hn2⟩ := ownC_pos hown (by omega)
      have HOW := Lib.hid hown
      have hbs := HBt.out.size
      have HGT := Lib.hid (gb_below HS.out.gb HBt.out hsr)
      have y0 : wt.cell? ⟨pb, 0, none⟩ = some (.int .i64 st.px) := cell_below HBt.out (blk_cell HS.out.pk 0)
      have y1 : wt.cell? ⟨pb, 1, none⟩ = some (.int .i64 st.py) := cell_below HBt.out (blk_cell HS.out.pk 1)
      have HKT := Lib.hid (blk_grown HK5.out HGT.out (fun e => by injection e with e; omega))
      have HRT := Lib.hid (blk_grown HRS5.out HGT.out (fun e => by injection e with e; omega))
      have hw5 : IntKind.i64.wrap ((m : Int) - (rows : Int)) = (m : Int) - (rows : Int) := wrap64_id _ (by omega) (by omega)
      clear hown
      go_upto_region 23 with fail
      obtain ⟨f, hf⟩ : ∃ f : Nat, min (max 0 ((m : Int) - (rows : Int))) st.py = (f : Int) := ⟨(min (max 0 ((m : Int) - (rows : Int))) st.py).toNat, by omega⟩
      have HFF := Lib.hid hf
      rw [hf]
      have hfm : f < m := by omega
      have hfp : (f : Int) ≤ st.py := by omega
      clear hf
      have c3 : wt.cell? ⟨p, 3, none⟩ = some vo := blk_cell HKT.out 3
      have f3 : wt.frozen? ⟨p, 3, none⟩ = false := blk_free HKT.out 3
      have HGU := Lib.hid (show wt.grownBy (wt.setCell ⟨p, 3, none⟩ (.slice none 0 0)) (some p) from gb_set (gb_refl _ _) _ _)
      have HKU := Lib.hid (blk_set HKT.out 3 (.slice none 0 0))
      have hsl := slice_h (P := Tryz.prog) (size := 2) Tryz.underlying57 row_info (some ⟨b, off, none⟩) m c f (by omega)
      have hszu : (wt.setCell ⟨p, 3, none⟩ (.slice none 0 0)).heap.size = wt.heap.size := by simp
      have hbw : w5.heap.size ≤ b := (ownC_lt HOW.out b rfl).1
      clear y0 y1 hw5
      go_upto_region 24 with fail
      have HKU2 := Lib.hid (show (wt.setCell ⟨p, 3, none⟩ (.slice none 0 0)).heap[p]? = some (.cells #[.int .i64 g.cols, .int .i64 g.limit, vr, .slice none 0 0] 61 (0, 0)) from HKU.out)
      clear HKU c3 f3
      generalize wt.setCell ⟨p, 3, none⟩ (.slice none 0 0) = wu at *
      have HOU := Lib.hid (ownC_grown HOW.out HGU.out (fun q hq e => by injection e with e; have := (ownC_lt HOW.out q hq).1; omega))
      have HONE := Lib.hid (rowsAt_one HRW.out)
      have hlf : (L.take f).length = f := by rw [List.length_take]; omega
      have HRF := Lib.hid (show Reads wu 2 (.slice (some ⟨b, off, none⟩) f c) (L.take f).length (rowVals (L.take f)) by
        have h1 := ownC_reads (ownC_pre HOU.out f (by omega))
        rw [rowVals_take, List.take_take, Nat.min_eq_left (by omega)] at h1
        rw [hlf]; exact h1)
      have hgl : g.limit ≤ 2000 := HG0.out.wf.li
      go_wp2_with fail
      refine (keep_any p g.cols g.limit vr (.slice none 0 0) _ ([] : List (Value × Rw)) (L.take f) wu HKU2.out (ownC_nil _ _ _) (by simp [Value.ownBlock]) HRF.out (by simp [rowVals]) (fun u hu => HONE.out u (by
        have h1 : L.take f = (L.take m).take f := by rw [List.take_take, Nat.min_eq_left (by omega)]
        rw [h1, ← rowVals_take] at hu
        exact List.mem_of_mem_take hu)) (by simp) (by omega) (by omega)).mono ?_
      rintro e wv ⟨rfl, hW, vo2, hk3, ho3, hn3⟩
      rw [List.nil_append] at ho3
      have HGV := Lib.hid (within_gb hW)
      have HK3 := Lib.hid hk3
      have HO3 := Lib.hid ho3
      have HN3 := Lib.hid (show ∀ k, vo2.ownBlock = some k → wu.heap.size ≤ k from fun k hk => by
        rcases hn3 k hk with e | e
        · simp [Value.ownBlock] at e
        · exact e)
      clear hW hk3 ho3 hn3
      have HOV := Lib.hid (ownC_grown HOU.out HGV.out (fun q hq e => by injection e with e; have := (ownC_lt HOW.out q hq).1; omega))
      have hsv := HGV.out.size
      have hw6 : IntKind.i64.wrap ((f : Int) + (rows : Int)) = (f : Int) + (rows : Int) := wrap64_id _ (by omega) (by omega)
      obtain ⟨e9, he9⟩ : ∃ e9 : Nat, min (m : Int) ((f : Int) + (rows : Int)) = (e9 : Int) := ⟨min m (f + rows), by omega⟩
      have h91 : f < e9 := by omega
      have h92 : e9 ≤ m := by omega
      have h93 : e9 ≤ f + rows := by omega
      have HE9 := Lib.hid (show e9 = m ∨ e9 = f + rows by omega)
      obtain ⟨a9, hsl9, ha9⟩ := slice_lh' (P := Tryz.prog) (size := 2) Tryz.underlying57 row_info b off m c f e9 (by omega) (by omega)
      have ha8 := ha9 h91
      subst ha8
      clear ha9
      have HRM := Lib.hid (reads_sub HOV.out f e9 (c - f) ⟨b, off + f * 2, none⟩ (fun _ => rfl) (by omega) h92)
      obtain ⟨d, hd⟩ : ∃ d, e9 - f = d := ⟨_, rfl⟩
      have hlM : (((L.take m).drop f).take d).length = d := by rw [List.length_take, List.length_drop, hlm]; omega
      have HCL := Lib.hid (cloneR_any (((L.take m).drop f).take d) ⟨b, off + f * 2, none⟩ (c - f) wv (by
        have h1 := HRM.out
        rw [rowVals_drop, rowVals_take, hd] at h1
        rw [hlM]
        exact h1) (fun u hu => HONE.out u (by
          rw [← rowVals_take, ← rowVals_drop] at hu
          exact List.mem_of_mem_drop (List.mem_of_mem_take hu))) (by rw [hlM]; omega))
      rw [hlM] at HCL
      rw [hd] at hsl9
      have HD := Lib.hid hd
      clear hd
      have k3 : wv.cell? ⟨p, 3, none⟩ = some vo2 := blk_cell HK3.out 3
      go_wp2_with fail
      refine HCL.out.mono ?_
      rintro e wx ⟨vr2, rfl, bx, ox⟩
      obtain ⟨ra9, rc9, rfl⟩ := ownC_sl ox
      have HBX := Lib.hid bx
      have HOX := Lib.hid ox
      have hkx := blk_below HK3.out bx (heap_lt HK3.out)
      have j2 : wx.cell? ⟨p, 2, none⟩ = some vr := blk_cell hkx 2
      have g2 : wx.frozen? ⟨p, 2, none⟩ = false := blk_free hkx 2
      have HKX := Lib.hid hkx
      have hsx := bx.size
      clear bx ox hkx k3 hw6 HCL HRM
      go_upto_region 26 with fail
      have HGY := Lib.hid (show wx.grownBy (wx.setCell ⟨p, 2, none⟩ (.slice ra9 d rc9)) (some p) from gb_set (gb_refl _ _) _ _)
      have HKY := Lib.hid (show (wx.setCell ⟨p, 2, none⟩ (.slice ra9 d rc9)).heap[p]? = some (.cells #[.int .i64 g.cols, .int .i64 g.limit, .slice ra9 d rc9, vo2] 61 (0, 0)) from blk_set HKX.out 2 _)
      have hsy : (wx.setCell ⟨p, 2, none⟩ (.slice ra9 d rc9)).heap.size = wx.heap.size := by simp
      clear j2 g2 HKX
      generalize wx.setCell ⟨p, 2, none⟩ (.slice ra9 d rc9) = wy at *
      have HOY := Lib.hid (ownC_grown HOX.out HGY.out (fun q hq e => by have := (ownC_lt HOX.out q hq).1; injection e with e; omega))
      have hdr : d ≤ rows := by have := HD.out; omega
      obtain ⟨rn, hrn⟩ : ∃ rn : Nat, rn + d = rows := ⟨rows - d, by omega⟩
      have HRN := Lib.hid hrn
      have hw7 : IntKind.i64.wrap ((rows : Int) - (d : Int)) = (rn : Int) := by rw [wrap64_id _ (by omega) (by omega)]; omega
      have hrb : rn ≤ 120 := by omega
      have hdb : d ≤ 120 := by omega
      have hpv : p < wv.heap.size := by omega
      have hvy : wv.heap.size ≤ wy.heap.size := by omega
      clear hrn
      generalize hMM : ((L.take m).drop f).take d = M at *
      have HMM := Lib.hid hMM
      clear hMM
      go_cut [] (fun wz => ∃ (v9 : Value) (L4 : List (Value × Rw)), Hid (wv.grownBy wz (some p)) ∧ Hid (wz.heap[p]? = some (.cells #[.int .i64 g.cols, .int .i64 g.limit, v9, vo2] 61 (0, 0))) ∧ Hid (OwnC wz wv.heap.size 2 v9 (d + L4.length) (rowVals (M ++ L4))) ∧
        Hid (L4.map (·.2) = freshL rn cols plainS) ∧ Hid ((∀ x ∈ L4, OwnC wz wy.heap.size 5 x.1 x.2.cells.length (cvals x.2.cells) ∧ ∃ q, x.1.ownBlock = some q ∧ v9.ownBlock ≠ some q) ∧ (L4.map (·.1.ownBlock)).Nodup))
      case first =>
        have k2 : wy.cell? ⟨p, 2, none⟩ = some (.slice ra9 d rc9) := blk_cell HKY.out 2
        have g2 : wy.frozen? ⟨p, 2, none⟩ = false := blk_free HKY.out 2
        have hln := ownC_ln Tryz.underlying57 HOY.out
        refine wpL_begin (c := 18) (S := (fun bb w' => True ∧ (bb = false → w'.cell? ⟨p, 2, none⟩ = some (.slice ra9 d rc9)))) (by kernel_rfl) (⟨trivial, fun _ => k2⟩) (fun _ => ?_)
        refine wpL_tk false 0 (⟨trivial, fun _ => k2⟩) ?_
        refine wpL_tk false 1 (⟨trivial, fun _ => k2⟩) ?_
        refine wpL_tk false 2 (⟨trivial, fun _ => k2⟩) ?_
        refine wpL_tk false 3 (⟨trivial, fun _ => k2⟩) ?_
        refine wpL_td 4 (⟨trivial, fun _ => k2⟩) ?_
        refine wpL_tk false 5 (⟨trivial, fun _ => k2⟩) ?_
        refine wpL_tk false 6 (⟨trivial, fun _ => k2⟩) ?_
        refine wpL_tk false 7 (⟨trivial, fun _ => k2⟩) ?_
        refine wpL_tk false 8 (⟨trivial, fun _ => k2⟩) ?_
        refine wpL_td 9 (⟨trivial, fun _ => k2⟩) ?_
        refine wpL_tk false 10 (⟨trivial, fun _ => k2⟩) ?_
        refine wpL_tk false 11 (⟨trivial, fun _ => k2⟩) ?_
        refine wpL_tk false 12 (⟨trivial, fun _ => k2⟩) ?_
        refine wpL_on false 13 fun K hK => ?_
        refine wanted_on rfl ?_
        go_wp2_with fail
        refine (plain_any wy.drew).mono ?_
        rintro e wp ⟨rfl, bp⟩
        have k2p : wp.cell? ⟨p, 2, none⟩ = some (.slice ra9 d rc9) := cell_below bp k2
        have HBP := Lib.hid (show Below wy.heap.size wy wp from (Below.refl wy.heap.size wy).drew.trans bp)
        refine hK.out _ _ (⟨trivial, fun _ => k2p⟩) (fun _ => ?_)
        clear hK K bp
        try simp only [Act.put, List.setIfInBounds_toArray, List.set_cons_zero, List.set_cons_succ]
        refine wpL_on false 14 fun K hK => ?_
        refine wanted_on rfl ?_
        go_wp2_with fail
        refine (fresh_any rn cols plainS wp (by omega) (by omega)).mono ?_
        rintro e wq ⟨v4, L4, rfl, b4, e4, r4⟩
        have k2q : wq.cell? ⟨p, 2, none⟩ = some (.slice ra9 d rc9) := cell_below b4 k2p
        have HBQ := Lib.hid (HBP.out.trans (b4.mono HBP.out.size))
        have hl4 : L4.length = rn := by
          have h1 := congrArg List.length e4
          unfold freshL at h1
          rw [List.length_map, List.length_replicate] at h1
          exact h1
        have HL4 := Lib.hid hl4
        have HSQ := Lib.hid (show wy.heap.size ≤ wp.heap.size from HBP.out.size)
        have HE4 := Lib.hid e4
        have HR4 := Lib.hid r4
        refine hK.out _ _ (⟨trivial, fun _ => k2q⟩) (fun _ => ?_)
        clear hK K b4 e4 r4 hl4
        try simp only [Act.put, List.setIfInBounds_toArray, List.set_cons_zero, List.set_cons_succ]
        refine wpL_on false 15 fun K hK => ?_
        apply step_appS rows_elem
        case hgd => rfl
        case ho => rfl
        case hown => exact ownC_below HOY.out HBQ.out
        case hs => rfl
        case hr => exact src_reads Tryz.underlying57 (ownC_reads HR4.out.own) (rowsAt_one HR4.out)
        case hx => rfl
        case h63 => (have := HL4.out; unfold maxLen; omega)
        case hbytes => (have := HL4.out; omega)
        case hbase => (have := HBQ.out.size; omega)
        intro v7 w7 o7 g7 n7
        obtain ⟨a7, c7, rfl⟩ := ownC_sl o7
        have hne7 : (Value.slice ra9 d rc9).ownBlock ≠ some p := fun e => by have := (ownC_lt HOY.out _ e).1; omega
        have k27 : w7.cell? ⟨p, 2, none⟩ = some (.slice ra9 d rc9) := cell_grown g7 k2q hne7
        have f27 : w7.frozen? ⟨p, 2, none⟩ = false := frozen_grown g7 (frozen_below HBQ.out k2 g2) (cell_lt k2q) hne7
        have HO7 := Lib.hid o7
        have HG7 := Lib.hid g7
        have HN7 := Lib.hid n7
        have HNE7 := Lib.hid hne7
        refine hK.out _ _ (⟨trivial, fun _ => k27⟩) (fun _ => ?_)
        clear hK K o7 g7 n7 hne7
        try simp only [Act.put, List.setIfInBounds_toArray, List.set_cons_zero, List.set_cons_succ]
        refine wpL_tk false 16 (⟨trivial, fun _ => k27⟩) ?_
        refine wpL_tk false 17 (⟨trivial, fun _ => k27⟩) ?_
        refine wpL_on true 18 fun K hK => ?_
        refine wanted_on rfl ?_
        go_wp2_with fail
        refine hK.out _ _ (⟨trivial, fun e => by cases e⟩) (fun _ => ?_)
        clear hK K 
        try simp only [Act.put]
        refine wpL_done (by kernel_rfl) ?_ _
        have hvn : ∀ k, (Value.slice ra9 d rc9).ownBlock = some k → wv.heap.size ≤ k ∧ k < wy.heap.size := fun k hk => ownC_lt HOY.out k hk
        have hv9 : ∀ k, (Value.slice a7 (d + L4.length) c7).ownBlock = some k → (wv.heap.size ≤ k ∧ k < wy.heap.size) ∨ wq.heap.size ≤ k := fun k hk => by
          rcases HN7.out k hk with e | e
          · exact .inl (hvn k e)
          · exact .inr e
        have hqq := HBQ.out.size
        have hpq := HSQ.out
        have g8 : w7.grownBy (w7.setCell ⟨p, 2, none⟩ (.slice a7 (d + L4.length) c7)) (some p) := gb_set (gb_refl _ _) _ _
        have HGZ := Lib.hid (show wv.grownBy (w7.setCell ⟨p, 2, none⟩ (.slice a7 (d + L4.length) c7)) (some p) from
          gb_trans (gb_trans_new (gb_trans (gb_trans (gb_of_below (some p) HBX.out) HGY.out) (gb_of_below (some p) HBQ.out)) HG7.out (fun q hq => (hvn q hq).1)) g8)
        have HKZ := Lib.hid (show (w7.setCell ⟨p, 2, none⟩ (.slice a7 (d + L4.length) c7)).heap[p]? = some (.cells #[.int .i64 g.cols, .int .i64 g.limit, .slice a7 (d + L4.length) c7, vo2] 61 (0, 0)) from
          blk_set (blk_grown (blk_below HKY.out HBQ.out (by omega)) HG7.out (fun e => HNE7.out e.symm)) 2 _)
        have HOZ := Lib.hid (show OwnC (w7.setCell ⟨p, 2, none⟩ (.slice a7 (d + L4.length) c7)) wv.heap.size 2 (.slice a7 (d + L4.length) c7) (d + L4.length) (rowVals (M ++ L4)) by
          rw [rowVals_append]
          exact ownC_grown HO7.out g8 (fun k hk e => by
            injection e with e
            rcases hv9 k hk with e2 | e2
            · omega
            · omega))
        have HC4 := Lib.hid (show (∀ x ∈ L4, OwnC (w7.setCell ⟨p, 2, none⟩ (.slice a7 (d + L4.length) c7)) wy.heap.size 5 x.1 x.2.cells.length (cvals x.2.cells) ∧ ∃ q, x.1.ownBlock = some q ∧ (Value.slice a7 (d + L4.length) c7).ownBlock ≠ some q) ∧ (L4.map (·.1.ownBlock)).Nodup from ⟨fun x hx => by
            have hc := HR4.out.cells x hx
            have hcl := ownC_lt hc
            refine ⟨ownC_mono (ownC_grown (ownC_grown hc HG7.out (fun k hk e => ?_)) g8 (fun k hk e => ?_)) hpq, ?_⟩
            · have h1 := (hcl k hk).1
              have h2 := (hvn k e).2
              omega
            · have h1 := (hcl k hk).1
              injection e with e
              omega
            · obtain ⟨q, h1, _⟩ := HR4.out.ap x hx
              refine ⟨q, h1, fun e => ?_⟩
              have h3 := hcl q h1
              rcases hv9 q e with e2 | e2
              · omega
              · omega, HR4.out.nd⟩)
        clear hvn hv9 g8 k2 k2p k2q k27 f27 g2
        go_wp2_with fail
        go_meet
        exact ⟨_, L4, HGZ, HKZ, HOZ, HE4, HC4⟩
      case rest =>
        obtain ⟨v9, L4, HGZ, HKZ, HOZ, HE4, HC4⟩ := hcut
        obtain ⟨wz, rfl⟩ : ∃ wz, wz = wc := ⟨wc, rfl⟩
        have j0 : wz.cell? ⟨p, 0, none⟩ = some (.int .i64 g.cols) := blk_cell HKZ.out 0
        have g0 : wz.frozen? ⟨p, 0, none⟩ = false := blk_free HKZ.out 0
        have hgp : (wz.setCell ⟨p, 0, none⟩ (.int .i64 cols)).heap[p]? = some (.cells #[.int .i64 cols, .int .i64 g.limit, v9, vo2] 61 (0, 0)) := blk_set HKZ.out 0 _
        have HGZ2 := Lib.hid (gb_set HGZ.out 0 (.int .i64 cols))
        have HG9 := Lib.hid (show wz.grownBy (wz.setCell ⟨p, 0, none⟩ (.int .i64 cols)) (some p) from gb_set (gb_refl _ _) _ _)
        have HKF := Lib.hid hgp
        have hszz : (wz.setCell ⟨p, 0, none⟩ (.int .i64 cols)).heap.size = wz.heap.size := by simp
        clear hgp
        go_upto_region 28 with fail
        generalize wz.setCell ⟨p, 0, none⟩ (.int .i64 cols) = wf at *
        clear j0 g0
        have HGA := Lib.hid (gb_trans (gb_trans HGU.out HGV.out) HGZ2.out)
        have hpp : p ≠ pb := by omega
        have y0 : wf.cell? ⟨pb, 0, none⟩ = some (.int .i64 st.px) := cell_grown HGA.out (cell_below HBt.out (blk_cell HS.out.pk 0)) (fun e => hpp (by injection e))
        have y1 : wf.cell? ⟨pb, 1, none⟩ = some (.int .i64 st.py) := cell_grown HGA.out (cell_below HBt.out (blk_cell HS.out.pk 1)) (fun e => hpp (by injection e))
        have hpb2 : st.py ≤ 600000 := by omega
        have hw8 : IntKind.i64.wrap (st.py - (f : Int)) = st.py - (f : Int) := wrap64_id _ (by omega) (by omega)
        have hrf := blk_grown HRT.out HGA.out (fun e => by injection e with e; omega)
        have hst := run_storeVar_row (P := Tryz.prog) wf (w.heap.size + 1) 51 51 _ #[.int .i64 st.px, .int .i64 (st.py - (f : Int))] hrf (by kernel_rfl) rfl (by simp [Value.oneCell'])
        have hr2' := setRow_blk (cells := #[.int .i64 st.px, .int .i64 (st.py - (f : Int))]) hrf
        have HGE := Lib.hid (gb_setRow wf (w.heap.size + 1) #[.int .i64 st.px, .int .i64 (st.py - (f : Int))])
        clear hrf
        -- what it is
        have HFLOW := Lib.hid (show g.flow cols rows ax ay = (⟨cols, g.limit, ((st.out.take m).drop f).take rows ++ freshL (rows - (((st.out.take m).drop f).take rows).length) cols plainS, keepL g.limit ((st.out.take m).take f)⟩, st.px, st.py - (f : Int)) by
          have h1 : flRun cols ((g.old.length : Int) + ay) ax (g.old ++ g.rows) 0 [] (-1) ⟨[], 0, 0⟩ = st := by rw [← HPL.out, ← HA2.out]; exact HF.out
          have h2 : (st.out.take m).length = m := by rw [List.length_take]; omega
          unfold Gr.flow
          simp only [h1, HTR.out, h2, HFF.out, Int.toNat_natCast])
        have hom : (st.out.take m).length = m := by rw [List.length_take]; omega
        have hdm : (((st.out.take m).drop f).take rows).length = d ∧ ((st.out.take m).drop f).take rows = ((st.out.take m).drop f).take d := by
          have h1 : ((st.out.take m).drop f).length = m - f := by rw [List.length_drop, hom]
          have h2 := HD.out
          have h3 := HRN.out
          generalize (st.out.take m).drop f = R at h1 ⊢
          rcases HE9.out with e | e
          · have : d = m - f := by omega
            refine ⟨by rw [List.length_take, h1]; omega, ?_⟩
            rw [List.take_of_length_le (by rw [h1]; omega), List.take_of_length_le (by rw [h1]; omega)]
          · have : d = rows := by omega
            rw [this]
            exact ⟨by rw [List.length_take, h1]; omega, rfl⟩
        have HDM := Lib.hid hdm
        have HFIN2 := Lib.hid (show ∃ T', GM T' p (wf.setRow (w.heap.size + 1) #[.int .i64 st.px, .int .i64 (st.py - (f : Int))]) (g.flow cols rows ax ay).1 ∧ ∀ k, T' k ≠ 0 → own T w k by
          rw [HFLOW.out]
          have hall : ∀ {base size n : Nat} {v : Value} {xs : List Value}, OwnC wf base size v n xs → (∀ k, v.ownBlock = some k → w.heap.size + 2 ≤ k) → OwnC (wf.setRow (w.heap.size + 1) #[.int .i64 st.px, .int .i64 (st.py - (f : Int))]) 0 size v n xs := fun h1 h2 =>
            ownC_mono (ownC_grown h1 HGE.out (fun k hk e => by injection e with e; have := h2 k hk; omega)) (Nat.zero_le _)
          have hwz : wv.heap.size ≤ wf.heap.size := HGZ2.out.size
          have hle := HGE.out.size
          have hmt : (L.take m).take f = L.take f := by rw [List.take_take, Nat.min_eq_left (by omega)]
          refine flow_build (L := L.take m) (L4 := L4) (f := f) (d := d) (C := wu.heap.size) (C2 := wv.heap.size) (out := st.out.take m) (v9 := v9) (vo2 := vo2) HG0.out (by omega) hsv (by omega) ?_ (fun x hx => ?_) HRW.out.nd ?_ (fun k hk => ⟨HN3.out k hk, (ownC_lt HO3.out k hk).2⟩) ?_ (fun k hk => (ownC_lt HOZ.out k hk).1) (fun x hx => ?_) HC4.out.2 (by rw [List.map_take, HS.out.er]) (by rw [HDM.out.1]; have h3 := HRN.out; rw [show rows - d = rn by omega]; exact HE4.out) HDM.out.2 ?_
          · exact blk_grown HKF.out HGE.out (fun e => by injection e with e; omega)
          · obtain ⟨q, h1, h2⟩ := HRW.out.ap x hx
            have h3 := ownC_lt (HRW.out.cells x hx) q h1
            refine ⟨hall (ownC_grown (HRW.out.cells x hx) HGA.out (fun k hk e => ?_)) (fun k hk => ?_), q, h1, by omega, by omega⟩
            · have h4 := (ownC_lt (HRW.out.cells x hx) k hk).1
              injection e with e
              omega
            · have h4 := (ownC_lt (HRW.out.cells x hx) k hk).1
              omega
          · rw [hmt]
            refine hall (ownC_grown HO3.out HGZ2.out (fun k hk e => ?_)) (fun k hk => ?_)
            · have h4 := HN3.out k hk
              injection e with e
              omega
            · have h4 := HN3.out k hk
              omega
          · rw [HMM.out]
            have h5 : (M ++ L4).length = d + L4.length := by rw [List.length_append, hlM]
            rw [h5]
            refine hall (ownC_grown HOZ.out HG9.out (fun k hk e => ?_)) (fun k hk => ?_)
            · have h4 := (ownC_lt HOZ.out k hk).1
              injection e with e
              omega
            · have h4 := (ownC_lt HOZ.out k hk).1
              omega
          · obtain ⟨h6, q, h7, h8⟩ := HC4.out.1 x hx
            refine ⟨hall (ownC_grown h6 HG9.out (fun k hk e => ?_)) (fun k hk => ?_), q, h7, ?_, h8⟩
            · have h4 := (ownC_lt h6 k hk).1
              injection e with e
              omega
            · have h4 := (ownC_lt h6 k hk).1
              omega
            · have h4 := (ownC_lt h6 q h7).1
              omega
          · exact flow_wf HG0.out.wf cols rows (st.out.take m) f c1 c2 r1 r2 (fun r hr => HFIN.out.1.good r (List.mem_of_mem_take hr)))
        have HWI := Lib.hid (show Within (own T w) w (wf.setRow (w.heap.size + 1) #[.int .i64 st.px, .int .i64 (st.py - (f : Int))]) from by
          have hp1 : own T w p := .inl (by rw [HG0.out.tp]; decide)
          exact (((Within.of_below HBW5.out).trans (Within.of_gb HGT.out (fun k hk => by injection hk with hk; subst hk; exact .inr (by omega)))).trans (Within.of_gb HGA.out (fun k hk => by injection hk with hk; subst hk; exact hp1))).trans
            (Within.of_gb HGE.out (fun k hk => by injection hk with hk; subst hk; exact .inr (by omega))))
        go_wp2_with (refine wpList_storeR rfl _ _ _ rfl hst rfl rfl ?_)
        (try simp only [Exit.inBlock, Exit.then])
        exact retRow rfl rfl rfl hr2' Tryz.underlying51 rfl (by kernel_rfl) ⟨by rw [HFLOW.out], HWI.out, HFIN2.out⟩
end Go.Proofs.YtjclgoiclbkgjaaGreatDoor
