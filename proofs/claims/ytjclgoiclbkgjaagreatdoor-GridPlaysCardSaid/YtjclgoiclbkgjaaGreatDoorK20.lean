/- Package grid, texts laid together: N10 N11 N12. -/
import Derived.Test.YtjclgoiclbkgjaaGreatDoorK18
import Derived.Test.YtjclgoiclbkgjaaGreatDoorK19
import Derived.Deep.CutBlock
import Derived.Laws.Cover4
/- Walks of the document's grid: Resize, where the rows are cut or filled. -/
namespace Go.Proofs.YtjclgoiclbkgjaaGreatDoor
open Go.RowKit
attribute [local go_sem ↓] Go.wp_at_zero Go.wp_at_succ

set_option maxRecDepth 100000 in
set_option maxHeartbeats 8000000 in
theorem resizeCD_any {T : Nat → Nat} {p : Nat} {w : World} {g : Gr} (h : RM T p w g) (hwh : g.All WhR) (cols rows : Nat) (ax ay : Int) (c1 : 1 ≤ cols) (c2 : cols ≤ 250) (r1 : 1 ≤ rows) (r2 : rows ≤ 120) :
    Calls Tryz.prog 37 #[.pointer (some ⟨p, 0, none⟩), .int .i64 cols, .int .i64 rows, .agg #[.int .i64 ax, .int .i64 ay], .bool false] w fun e w' =>
      e = .returned (.tuple #[.agg #[.int .i64 (g.resize cols rows ax ay false).2.1, .int .i64 (g.resize cols rows ax ay false).2.2], .bool true]) ∧ Within (own T w) w w' ∧ ∃ T', RM T' p w' (g.resize cols rows ax ay false).1 ∧ ∀ k, T' k ≠ 0 → own T w k := by
  have hmay : mayG (cols : Int) (rows : Int) = true := by unfold mayG; simp; omega
  obtain ⟨vr, vo, Lr, Lo, h0⟩ := h
  have hlr := (rrows_len h0).1
  have wf := h0.wf
  have hr2 : Lr.length ≤ 120 := by have := wf.r2; omega
  have hr1 : 1 ≤ Lr.length := by have := wf.r1; omega
  have hg1 := wf.c1
  have hg2 := wf.c2
  have hpl := heap_lt h0.blk
  have HB1 := Lib.hid (show Below w.heap.size w ((w.alloc (.cells #[.int .i64 ax, .int .i64 ay] 51)).alloc (.cells #[.int .i64 0, .int .i64 0] 51)) from Below.alloc (Below.alloc (Below.refl w.heap.size w) (Nat.le_refl _) _) (by simp) _)
  have HAT := Lib.hid (blk_alloc (blk_new w (.cells #[.int .i64 ax, .int .i64 ay] 51)) (.cells #[.int .i64 0, .int .i64 0] 51))
  have HRS := Lib.hid (blk_new2 w (.cells #[.int .i64 ax, .int .i64 ay] 51) (.cells #[.int .i64 0, .int .i64 0] 51))
  have HG0 := Lib.hid h0
  have HLR := Lib.hid hlr
  have HWH := Lib.hid hwh
  have hsz : ((w.alloc (.cells #[.int .i64 ax, .int .i64 ay] 51)).alloc (.cells #[.int .i64 0, .int .i64 0] 51)).heap.size = w.heap.size + 2 := by simp
  clear h0 wf hlr hwh
  go_enter Tryz.func37, Tryz.ntmps37
  go_upto_region 1 with fail
  generalize (w.alloc (.cells #[.int .i64 ax, .int .i64 ay] 51)).alloc (.cells #[.int .i64 0, .int .i64 0] 51) = wa at *
  go_wp2_with fail
  refine (mayD_any cols rows wa).mono ?_
  rintro e w2 ⟨rfl, hw2⟩
  subst hw2
  obtain ⟨wa, rfl⟩ : ∃ wa, wa = w2 := ⟨w2, rfl⟩
  have HG1 := Lib.hid (HG0.out.mod (.of_below HB1.out) id id id (fun _ => id))
  obtain ⟨k0, k1, k2, k3⟩ := rm_cells HG1.out
  have hl1 := ownC_ln Tryz.underlying62 HG1.out.rr.own
  have a0 : wa.cell? ⟨w.heap.size, 0, none⟩ = some (.int .i64 ax) := blk_cell HAT.out 0
  have a1 : wa.cell? ⟨w.heap.size, 1, none⟩ = some (.int .i64 ay) := blk_cell HAT.out 1
  have hwr1 : IntKind.i64.wrap ((g.cols : Int) - 1) = (g.cols : Int) - 1 := wrap64_id _ (by omega) (by omega)
  have hwr2 : IntKind.i64.wrap ((Lr.length : Int) - 1) = (Lr.length : Int) - 1 := wrap64_id _ (by omega) (by omega)
  have hbx : 0 ≤ into ax ((g.cols : Int) - 1) ∧ into ax ((g.cols : Int) - 1) ≤ 250 := by unfold into; omega
  have hby : 0 ≤ into ay ((Lr.length : Int) - 1) ∧ into ay ((Lr.length : Int) - 1) ≤ 120 := by unfold into; omega
  have HIY := Lib.hid (show into ay ((g.rows.length : Int) - 1) = into ay ((Lr.length : Int) - 1) by rw [HLR.out])
  go_upto_region 4 with fail
  go_still_tail 18, (by kernel_rfl)
  still_call (intoD_any ax ((g.cols : Int) - 1) wa.drew)
  repeat still_step
  still_call (intoD_any ay ((Lr.length : Int) - 1) wa.drew)
  repeat still_step
  refine wpStill_nil ?_
  change wpList _ _ _ _ _ wa.drew
  have HAT1 := blk_drew HAT.out
  have hst := run_storeVar_row (P := Tryz.prog) wa.drew w.heap.size 51 51 _ #[.int .i64 (into ax ((g.cols : Int) - 1)), .int .i64 (into ay ((Lr.length : Int) - 1))] HAT1 (by kernel_rfl) rfl (by simp [Value.oneCell'])
  have HAT3 := Lib.hid (setRow_blk (cells := #[.int .i64 (into ax ((g.cols : Int) - 1)), .int .i64 (into ay ((Lr.length : Int) - 1))]) HAT1)
  have HGE0 := Lib.hid (gb_setRow wa.drew w.heap.size #[.int .i64 (into ax ((g.cols : Int) - 1)), .int .i64 (into ay ((Lr.length : Int) - 1))])
  have HB3 := Lib.hid (HB1.out.drew.grown HGE0.out (by show w.heap.size ≤ wa.heap.size; omega) (fun q hq => by injection hq with hq; omega))
  have HRS3 := Lib.hid (blk_grown (blk_drew HRS.out) HGE0.out (fun e => by injection e with e; omega))
  go_upto_block 0 with (refine wpList_storeR rfl _ _ _ rfl hst rfl rfl ?_)
  clear hst HAT HRS HB1 HG1 HAT1 HGE0 k0 k1 k2 k3 a0 a1 hwr1 hwr2 hl1
  have HIX := Lib.hid (show ∀ z, z = into ax ((g.cols : Int) - 1) → into ax ((g.cols : Int) - 1) = z from fun z hz => hz.symm)
  obtain ⟨bx, hzx⟩ : ∃ bx, bx = into ax ((g.cols : Int) - 1) := ⟨_, rfl⟩
  replace HIX := Lib.hid (HIX.out bx hzx)
  rw [← hzx] at hbx HAT3 HB3 HRS3 ⊢
  clear hzx
  generalize into ay ((Lr.length : Int) - 1) = yb' at *
  generalize wa.drew.setRow w.heap.size #[.int .i64 bx, .int .i64 yb'] = wd at *
  obtain ⟨xb, xo, xc, hvr, hxc, hxm⟩ := ownC_pos HG0.out.rr.own hr1
  obtain ⟨ya, yc, hvo⟩ := ownC_sl HG0.out.ro.own
  subst hvr hvo
  have hno2 : Lo.length ≤ 2000 := by have := (rrows_len HG0.out).2; have := HG0.out.wf.ol; have := HG0.out.wf.li; omega
  have HNR := Lib.hid (show Lr.length = g.rows.length from (rrows_len HG0.out).1)
  have HNO := Lib.hid (show Lo.length = g.old.length from (rrows_len HG0.out).2)
  have HLT0 := Lib.hid HG0.out.lt
  have HTP := Lib.hid HG0.out.tp
  have HB4 := HB3
  have HAT4 := HAT3
  have HRS4 := HRS3
  have hsd : w.heap.size + 2 ≤ wd.heap.size := heap_lt HRS4.out
  have HGD := Lib.hid (HG0.out.mod (.of_below HB4.out) id id id (fun _ => id))
  have HLT := Lib.hid (show ∀ k, T k ≠ 0 → k < wd.heap.size from fun k hk => by have := HLT0.out k hk; omega)
  obtain ⟨K, hK⟩ : ∃ K, K = #[Value.int .i64 g.cols, .int .i64 g.limit, .slice (some ⟨xb, xo, none⟩) Lr.length xc, .slice ya Lo.length yc] := ⟨_, rfl⟩
  have HK := Lib.hid hK
  have HZ0 := Lib.hid (show RzD T p 2 3 K wd (.slice (some ⟨xb, xo, none⟩) Lr.length xc) (.slice ya Lo.length yc) Lr Lo wd by rw [HK.out]; exact RzD.start HGD.out (Within.refl _ _) HGD.out)
  clear hK hr2
  have hr2 : Lr.length ≤ 120 := by have := HNR.out; have := HG0.out.wf.r2; omega
  go_cut [] (fun wz => ∃ L1 : List (Value × Rw), Hid (RzD T p 2 3 K wd (.slice (some ⟨xb, xo, none⟩) Lr.length xc) (.slice ya Lo.length yc) L1 Lo wz) ∧ Hid (L1.length = Lr.length ∧ L1.map (·.2) = g.rows.map (fun r => fitL r cols)))
  case first =>
    go_upto_region 8 with fail
    go_loopw [13] (fun kv wi => ∃ (k : Nat) (L : List (Value × Rw)), k ≤ Lr.length ∧ kv = .int .i64 k ∧ Hid (RzD T p 2 3 K wd (.slice (some ⟨xb, xo, none⟩) Lr.length xc) (.slice ya Lo.length yc) L Lo wi) ∧ Hid (L.length = Lr.length ∧ L.map (·.2) = (g.rows.take k).map (fun r => fitL r cols) ++ g.rows.drop k)) (fun kv _ => Lr.length - (intOf kv).toNat)
    case atStart => exact ⟨0, Lr, Nat.zero_le _, rfl, HZ0, ⟨rfl, by rw [HGD.out.er]; simp⟩⟩
    case round =>
      obtain ⟨k, L, hk, rfl, HR, HM⟩ := hrel
      obtain ⟨wi, rfl⟩ : ∃ wi, wi = wr := ⟨wr, rfl⟩
      have HPK := Lib.hid (show wi.heap[p]? = some (.cells #[.int .i64 g.cols, .int .i64 g.limit, .slice (some ⟨xb, xo, none⟩) Lr.length xc, .slice ya Lo.length yc] 65 (0, 0)) by rw [← HK.out]; exact HR.out.blk)
      have x2 : wi.cell? ⟨p, 2, none⟩ = some (.slice (some ⟨xb, xo, none⟩) Lr.length xc) := blk_cell HPK.out 2
      have hln := ownC_ln Tryz.underlying62 (show OwnC wi 0 2 (.slice (some ⟨xb, xo, none⟩) Lr.length xc) Lr.length (rowVals L) by have := HR.out.rl.own; rw [HM.out.1] at this; exact this)
      by_cases hlt : k < Lr.length
      · have d1 : decide ((k : Int) < (Lr.length : Int)) = true := decide_eq_true (by omega)
        have d1' : decide (k < Lr.length) = true := decide_eq_true hlt
        have hwk : IntKind.i64.wrap ((k : Int) + 1) = (k : Int) + 1 := wrap64_id _ (by omega) (by omega)
        obtain ⟨A, x, B, hAk, hLx⟩ : ∃ A x B, A.length = k ∧ L = A ++ x :: B := by
          have h1 := HM.out.1
          refine ⟨L.take k, L[k]'(by omega), L.drop (k + 1), by rw [List.length_take]; omega, ?_⟩
          rw [← List.drop_eq_getElem_cons, List.take_append_drop]
        subst hLx
        have HAK := Lib.hid hAk
        have HLN := Lib.hid HM.out.1
        clear hAk
        have hxk : (A ++ x :: B)[k]'(by rw [HLN.out]; exact hlt) = x := by
          have := HAK.out
          subst this
          simp
        have hxm : x.2 ∈ g.rows := by
          have h3 := HM.out.2
          have h4 : ((A ++ x :: B).map (fun z : Value × Rw => z.2))[k]? = some x.2 := by
            have := HAK.out
            subst this
            simp
          rw [h3, List.getElem?_append_right (by rw [List.length_map, List.length_take]; exact Nat.min_le_left _ _)] at h4
          exact List.mem_of_mem_drop (List.mem_of_getElem? h4)
        have hxg : x.2.cells.length = g.cols := (HG0.out.wf.ce x.2 (List.mem_append_left _ hxm)).1
        have HXW := Lib.hid (HWH.out x.2 (List.mem_append_right _ hxm))
        obtain ⟨hxo, q, hxq, hxt⟩ := HR.out.ca x (List.mem_append_left _ (List.mem_append_right _ (List.mem_cons_self ..)))
        obtain ⟨hr0, hr1'⟩ := ownC_row2 (n := Lr.length) (by have := HR.out.rl.own; rw [HLN.out] at this; exact this) k (by rw [HLN.out]; exact hlt)
        rw [hxk] at hr0 hr1'
        obtain ⟨xv, xr⟩ := x
        dsimp only at hxo hxq hxg hr0 hr1' HXW
        obtain ⟨cb, co, cc, e1, _, _⟩ := ownC_pos hxo (by omega)
        subst e1
        have hcq : cb = q := by simp only [Value.ownBlock] at hxq; injection hxq
        subst hcq
        have hix := idx_at (P := Tryz.prog) (size := 2) Tryz.underlying62 rowD_info xb xo Lr.length xc k hlt
        have HXO := Lib.hid hxo
        have HXQ := Lib.hid hxq
        have HXT := Lib.hid hxt
        have hx250 : 1 ≤ xr.cells.length ∧ xr.cells.length ≤ 1000 := by omega
        clear hxo hxq hxt hxk hxm
        obtain ⟨cl, xw⟩ := xr
        dsimp only at hxg hr0 hr1' hx250
        have HXW := Lib.hid (show Wh cl from HXW.out)
        generalize hnl : cl.length = nl at *
        have HNL := Lib.hid hnl
        clear hnl hxg
        have HFT := Lib.hid (fittedD_any ⟨cl, xw⟩ cb co cc cols wi.drew (by show OwnC wi.drew 0 5 (.slice _ cl.length cc) cl.length (cvals cl); rw [HNL.out]; have := HXO.out; exact this) HXW.out (by show 1 ≤ cl.length ∧ cl.length ≤ 1000; rw [HNL.out]; exact hx250) ⟨c1, c2⟩)
        dsimp only at HFT
        rw [HNL.out] at HFT
        have hbL : xb ≠ cb := fun e => by
          have h1 := HR.out.rl.tag xb rfl
          rcases HXT.out with h2 | h2
          · rw [e] at h1; omega
          · have h3 := HLT.out xb (by omega)
            omega
        go_upto_region 10 with fail
        refine wpL_begin (c := 15) (S := (fun bb w' => True ∧ (bb = false → w'.cell? ⟨p, 2, none⟩ = some (.slice (some ⟨xb, xo, none⟩) Lr.length xc) ∧ w'.cell? ⟨xb, xo + k * 2, none⟩ = some (.slice (some ⟨cb, co, none⟩) nl cc) ∧ w'.cell? ⟨xb, xo + k * 2 + 1, none⟩ = some (.bool xw)))) (by kernel_rfl) (⟨trivial, fun _ => ⟨x2, hr0, hr1'⟩⟩) (fun _ => ?_)
        refine wpL_tk false 0 (⟨trivial, fun _ => ⟨x2, hr0, hr1'⟩⟩) ?_
        refine wpL_tk false 1 (⟨trivial, fun _ => ⟨x2, hr0, hr1'⟩⟩) ?_
        refine wpL_tk false 2 (⟨trivial, fun _ => ⟨x2, hr0, hr1'⟩⟩) ?_
        refine wpL_td 3 (⟨trivial, fun _ => ⟨x2, hr0, hr1'⟩⟩) ?_
        refine wpL_tk false 4 (⟨trivial, fun _ => ⟨x2, hr0, hr1'⟩⟩) ?_
        refine wpL_tk false 5 (⟨trivial, fun _ => ⟨x2, hr0, hr1'⟩⟩) ?_
        refine wpL_tk false 6 (⟨trivial, fun _ => ⟨x2, hr0, hr1'⟩⟩) ?_
        refine wpL_tk false 7 (⟨trivial, fun _ => ⟨x2, hr0, hr1'⟩⟩) ?_
        refine wpL_td 8 (⟨trivial, fun _ => ⟨x2, hr0, hr1'⟩⟩) ?_
        refine wpL_tk false 9 (⟨trivial, fun _ => ⟨x2, hr0, hr1'⟩⟩) ?_
        refine wpL_tk false 10 (⟨trivial, fun _ => ⟨x2, hr0, hr1'⟩⟩) ?_
        refine wpL_td 11 (⟨trivial, fun _ => ⟨x2, hr0, hr1'⟩⟩) ?_
        refine wpL_tk false 12 (⟨trivial, fun _ => ⟨x2, hr0, hr1'⟩⟩) ?_
        refine wpL_on false 13 fun K hK => ?_
        refine wanted_on rfl ?_
        go_wp2_with fail
        refine HFT.out.mono ?_
        rintro e w2 ⟨v', rfl, b2, o2⟩
        obtain ⟨va, vc, rfl⟩ := ownC_sl o2
        have HB2 := Lib.hid (show Below wi.heap.size wi w2 from (Below.refl wi.heap.size wi).drew.trans b2)
        have HN2 := Lib.hid (show OwnC w2 wi.heap.size 5 (.slice va cols vc) cols (cvals (fitL ⟨cl, xw⟩ cols).cells) from o2)
        have y2 : w2.cell? ⟨p, 2, none⟩ = some (.slice (some ⟨xb, xo, none⟩) Lr.length xc) := cell_below HB2.out x2
        have yr0 : w2.cell? ⟨xb, xo + k * 2, none⟩ = some (.slice (some ⟨cb, co, none⟩) nl cc) := cell_below HB2.out hr0
        have yr1 : w2.cell? ⟨xb, xo + k * 2 + 1, none⟩ = some (.bool xw) := cell_below HB2.out hr1'
        refine hK.out _ _ (⟨trivial, fun _ => ⟨y2, yr0, yr1⟩⟩) (fun _ => ?_)
        clear hK K b2 o2
        try simp only [Act.put, List.setIfInBounds_toArray, List.set_cons_zero, List.set_cons_succ]
        refine wpL_tk false 14 (⟨trivial, fun _ => ⟨y2, yr0, yr1⟩⟩) ?_
        refine wpL_on true 15 fun K hK => ?_
        refine wanted_on rfl ?_
        have HO2 := ownC_below HR.out.rl.own HB2.out
        rw [HLN.out] at HO2
        have hst := store_own (P := Tryz.prog) rowD_info HO2 k hlt #[.slice va cols vc, .bool (fitL ⟨cl, xw⟩ cols).wrap] rfl (row_one va cols vc _)
        refine wp_storeR _ _ _ rfl hst rfl rfl ?_
        refine hK.out _ _ (⟨trivial, fun e => by cases e⟩) (fun _ => ?_)
        clear hK K 
        try simp only [Act.put]
        refine wpL_done (by kernel_rfl) ?_ _
        have hO3 := ownC_put HO2 (k * 2) (rowVals [((.slice va cols vc : Value), fitL ⟨cl, xw⟩ cols)]) (by rw [rowVals_len]; simp; omega)
        rw [← rowVals_put, putAt_mid _ _ _ _ _ HAK.out.symm] at hO3
        have g3 := gb_setCells w2 xb (xo + k * 2) (rowVals [((.slice va cols vc : Value), fitL ⟨cl, xw⟩ cols)])
        have HRZ3 := Lib.hid (HR.out.step (v' := .slice va cols vc) (r' := fitL ⟨cl, xw⟩ cols) HLT.out HTP.out (by simp) HXQ.out (gb_of_below (some cb) HB2.out) (.inr ⟨by rw [fitL_len]; exact HN2.out, by
            have h1 := ownC_pos HN2.out (by omega)
            obtain ⟨b9, o9, c9, e9, _⟩ := h1
            exact ⟨b9, by rw [e9]; rfl⟩⟩) g3 (by
          have hl : (A ++ ((.slice va cols vc : Value), fitL ⟨cl, xw⟩ cols) :: B).length = Lr.length := by
            have := HLN.out
            simp only [List.length_append, List.length_cons] at this ⊢
            exact this
          rw [hl]; exact hO3))
        have HMP := Lib.hid (map_step (fun z : Value × Rw => z.2) (fun r => fitL r cols) A B (.slice (some ⟨cb, co, none⟩) nl cc, ⟨cl, xw⟩) (.slice va cols vc, fitL ⟨cl, xw⟩ cols) g.rows k HAK.out HM.out.2 rfl)
        replace HRZ3 := Lib.hid (show RzD T p 2 3 K wd (.slice (some ⟨xb, xo, none⟩) Lr.length xc) (.slice ya Lo.length yc) (A ++ ((.slice va cols vc : Value), fitL ⟨cl, xw⟩ cols) :: B) Lo (w2.setCells xb (xo + k * 2) (#[Value.slice va cols vc, .bool (fitL ⟨cl, xw⟩ cols).wrap] : Array Value).toList) from HRZ3.out)
        clear hO3 g3 hr0 hr1' x2 y2 yr0 yr1 hst HO2
        go_wp2_with fail
        go_roundw
        case rel => exact ⟨k + 1, _, by omega, by go_num, HRZ3, ⟨by
          have := HLN.out
          simp only [List.length_append, List.length_cons] at this ⊢
          exact this, HMP.out.2⟩⟩
        case measure => simp [intOf]; omega
      · have hkn : k = Lr.length := by omega
        have d1 : decide ((k : Int) < (Lr.length : Int)) = false := decide_eq_false (by omega)
        have d1' : decide (k < Lr.length) = false := decide_eq_false hlt
        have HMK := Lib.hid (show L.map (·.2) = g.rows.map (fun r => fitL r cols) by rw [HM.out.2, hkn, HNR.out, List.take_length, List.drop_length, List.append_nil])
        clear hkn
        go_wp2_with fail
        go_meet
        exact ⟨L, HR, ⟨HM.out.1, HMK.out⟩⟩
  case rest =>
  obtain ⟨L1, HZ, HL⟩ := hcut
  obtain ⟨wq, rfl⟩ : ∃ wq, wq = wc := ⟨wc, rfl⟩
  go_upto_block 2 with fail
  go_cut [] (fun wz => ∃ L1 L2 : List (Value × Rw), Hid (RzD T p 2 3 K wd (.slice (some ⟨xb, xo, none⟩) Lr.length xc) (.slice ya Lo.length yc) L1 L2 wz) ∧ Hid (L1.length = Lr.length ∧ L2.length = Lo.length ∧ L1.map (·.2) = g.rows.map (fun r => fitL r cols) ∧ L2.map (·.2) = g.old.map (fun r => fitL r cols)))
  case first =>
    go_upto_region 12 with fail
    go_loopw [14] (fun kv wi => ∃ (k : Nat) (L : List (Value × Rw)), k ≤ Lo.length ∧ kv = .int .i64 k ∧ Hid (RzD T p 3 2 K wd (.slice ya Lo.length yc) (.slice (some ⟨xb, xo, none⟩) Lr.length xc) L L1 wi) ∧ Hid (L.length = Lo.length ∧ L.map (·.2) = (g.old.take k).map (fun r => fitL r cols) ++ g.old.drop k)) (fun kv _ => Lo.length - (intOf kv).toNat)
    case atStart => exact ⟨0, Lo, Nat.zero_le _, rfl, HZ.out.swap, ⟨rfl, by rw [HGD.out.eo]; simp⟩⟩
    case round =>
      obtain ⟨k, L, hk, rfl, HR, HM⟩ := hrel
      obtain ⟨wi, rfl⟩ : ∃ wi, wi = wr := ⟨wr, rfl⟩
      have HPK := Lib.hid (show wi.heap[p]? = some (.cells #[.int .i64 g.cols, .int .i64 g.limit, .slice (some ⟨xb, xo, none⟩) Lr.length xc, .slice ya Lo.length yc] 65 (0, 0)) by rw [← HK.out]; exact HR.out.blk)
      have x2 : wi.cell? ⟨p, 3, none⟩ = some (.slice ya Lo.length yc) := blk_cell HPK.out 3
      have hln := ownC_ln Tryz.underlying62 (show OwnC wi 0 2 (.slice ya Lo.length yc) Lo.length (rowVals L) by have := HR.out.rl.own; rw [HM.out.1] at this; exact this)
      by_cases hlt : k < Lo.length
      · have d1 : decide ((k : Int) < (Lo.length : Int)) = true := decide_eq_true (by omega)
        have d1' : decide (k < Lo.length) = true := decide_eq_true hlt
        have hwk : IntKind.i64.wrap ((k : Int) + 1) = (k : Int) + 1 := wrap64_id _ (by omega) (by omega)
        have hown0 := HR.out.rl.own
        rw [HM.out.1] at hown0
        obtain ⟨yb, yo, yc2, hyv, hyc, hym⟩ := ownC_pos hown0 (by omega)
        simp only [Value.slice.injEq] at hyv
        obtain ⟨hya, _, hyc2⟩ := hyv
        subst hya hyc2
        clear hown0
        obtain ⟨A, x, B, hAk, hLx⟩ : ∃ A x B, A.length = k ∧ L = A ++ x :: B := by
          have h1 := HM.out.1
          refine ⟨L.take k, L[k]'(by omega), L.drop (k + 1), by rw [List.length_take]; omega, ?_⟩
          rw [← List.drop_eq_getElem_cons, List.take_append_drop]
        subst hLx
        have HAK := Lib.hid hAk
        have HLN := Lib.hid HM.out.1
        clear hAk
        have hxk : (A ++ x :: B)[k]'(by rw [HLN.out]; exact hlt) = x := by
          have := HAK.out
          subst this
          simp
        have hxm : x.2 ∈ g.old := by
          have h3 := HM.out.2
          have h4 : ((A ++ x :: B).map (fun z : Value × Rw => z.2))[k]? = some x.2 := by
            have := HAK.out
            subst this
            simp
          rw [h3, List.getElem?_append_right (by rw [List.length_map, List.length_take]; exact Nat.min_le_left _ _)] at h4
          exact List.mem_of_mem_drop (List.mem_of_getElem? h4)
        have hxg : x.2.cells.length = g.cols := (HG0.out.wf.ce x.2 (List.mem_append_right _ hxm)).1
        have HXW := Lib.hid (HWH.out x.2 (List.mem_append_left _ hxm))
        obtain ⟨hxo, q, hxq, hxt⟩ := HR.out.ca x (List.mem_append_left _ (List.mem_append_right _ (List.mem_cons_self ..)))
        obtain ⟨hr0, hr1'⟩ := ownC_row2 (n := Lo.length) (by have := HR.out.rl.own; rw [HLN.out] at this; exact this) k (by rw [HLN.out]; exact hlt)
        rw [hxk] at hr0 hr1'
        obtain ⟨xv, xr⟩ := x
        dsimp only at hxo hxq hxg hr0 hr1' HXW
        obtain ⟨cb, co, cc, e1, _, _⟩ := ownC_pos hxo (by omega)
        subst e1
        have hcq : cb = q := by simp only [Value.ownBlock] at hxq; injection hxq
        subst hcq
        have hix := idx_at (P := Tryz.prog) (size := 2) Tryz.underlying62 rowD_info yb yo Lo.length yc k hlt
        have HXO := Lib.hid hxo
        have HXQ := Lib.hid hxq
        have HXT := Lib.hid hxt
        have hx250 : 1 ≤ xr.cells.length ∧ xr.cells.length ≤ 1000 := by omega
        clear hxo hxq hxt hxk hxm
        obtain ⟨cl, xw⟩ := xr
        dsimp only at hxg hr0 hr1' hx250
        have HXW := Lib.hid (show Wh cl from HXW.out)
        generalize hnl : cl.length = nl at *
        have HNL := Lib.hid hnl
        clear hnl hxg
        have HFT := Lib.hid (fittedD_any ⟨cl, xw⟩ cb co cc cols wi.drew (by show OwnC wi.drew 0 5 (.slice _ cl.length cc) cl.length (cvals cl); rw [HNL.out]; have := HXO.out; exact this) HXW.out (by show 1 ≤ cl.length ∧ cl.length ≤ 1000; rw [HNL.out]; exact hx250) ⟨c1, c2⟩)
        dsimp only at HFT
        rw [HNL.out] at HFT
        have hbL : yb ≠ cb := fun e => by
          have h1 := HR.out.rl.tag yb rfl
          rcases HXT.out with h2 | h2
          · rw [e] at h1; omega
          · have h3 := HLT.out yb (by omega)
            omega
        go_upto_region 14 with fail
        refine wpL_begin (c := 15) (S := (fun bb w' => True ∧ (bb = false → w'.cell? ⟨p, 3, none⟩ = some (.slice (some ⟨yb, yo, none⟩) Lo.length yc) ∧ w'.cell? ⟨yb, yo + k * 2, none⟩ = some (.slice (some ⟨cb, co, none⟩) nl cc) ∧ w'.cell? ⟨yb, yo + k * 2 + 1, none⟩ = some (.bool xw)))) (by kernel_rfl) (⟨trivial, fun _ => ⟨x2, hr0, hr1'⟩⟩) (fun _ => ?_)
        refine wpL_tk false 0 (⟨trivial, fun _ => ⟨x2, hr0, hr1'⟩⟩) ?_
        refine wpL_tk false 1 (⟨trivial, fun _ => ⟨x2, hr0, hr1'⟩⟩) ?_
        refine wpL_tk false 2 (⟨trivial, fun _ => ⟨x2, hr0, hr1'⟩⟩) ?_
        refine wpL_td 3 (⟨trivial, fun _ => ⟨x2, hr0, hr1'⟩⟩) ?_
        refine wpL_tk false 4 (⟨trivial, fun _ => ⟨x2, hr0, hr1'⟩⟩) ?_
        refine wpL_tk false 5 (⟨trivial, fun _ => ⟨x2, hr0, hr1'⟩⟩) ?_
        refine wpL_tk false 6 (⟨trivial, fun _ => ⟨x2, hr0, hr1'⟩⟩) ?_
        refine wpL_tk false 7 (⟨trivial, fun _ => ⟨x2, hr0, hr1'⟩⟩) ?_
        refine wpL_td 8 (⟨trivial, fun _ => ⟨x2, hr0, hr1'⟩⟩) ?_
        refine wpL_tk false 9 (⟨trivial, fun _ => ⟨x2, hr0, hr1'⟩⟩) ?_
        refine wpL_tk false 10 (⟨trivial, fun _ => ⟨x2, hr0, hr1'⟩⟩) ?_
        refine wpL_td 11 (⟨trivial, fun _ => ⟨x2, hr0, hr1'⟩⟩) ?_
        refine wpL_tk false 12 (⟨trivial, fun _ => ⟨x2, hr0, hr1'⟩⟩) ?_
        refine wpL_on false 13 fun K hK => ?_
        refine wanted_on rfl ?_
        go_wp2_with fail
        refine HFT.out.mono ?_
        rintro e w2 ⟨v', rfl, b2, o2⟩
        obtain ⟨va, vc, rfl⟩ := ownC_sl o2
        have HB2 := Lib.hid (show Below wi.heap.size wi w2 from (Below.refl wi.heap.size wi).drew.trans b2)
        have HN2 := Lib.hid (show OwnC w2 wi.heap.size 5 (.slice va cols vc) cols (cvals (fitL ⟨cl, xw⟩ cols).cells) from o2)
        have y2 : w2.cell? ⟨p, 3, none⟩ = some (.slice (some ⟨yb, yo, none⟩) Lo.length yc) := cell_below HB2.out x2
        have yr0 : w2.cell? ⟨yb, yo + k * 2, none⟩ = some (.slice (some ⟨cb, co, none⟩) nl cc) := cell_below HB2.out hr0
        have yr1 : w2.cell? ⟨yb, yo + k * 2 + 1, none⟩ = some (.bool xw) := cell_below HB2.out hr1'
        refine hK.out _ _ (⟨trivial, fun _ => ⟨y2, yr0, yr1⟩⟩) (fun _ => ?_)
        clear hK K b2 o2
        try simp only [Act.put, List.setIfInBounds_toArray, List.set_cons_zero, List.set_cons_succ]
        refine wpL_tk false 14 (⟨trivial, fun _ => ⟨y2, yr0, yr1⟩⟩) ?_
        refine wpL_on true 15 fun K hK => ?_
        refine wanted_on rfl ?_
        have HO2 := ownC_below HR.out.rl.own HB2.out
        rw [HLN.out] at HO2
        have hst := store_own (P := Tryz.prog) rowD_info HO2 k hlt #[.slice va cols vc, .bool (fitL ⟨cl, xw⟩ cols).wrap] rfl (row_one va cols vc _)
        refine wp_storeR _ _ _ rfl hst rfl rfl ?_
        refine hK.out _ _ (⟨trivial, fun e => by cases e⟩) (fun _ => ?_)
        clear hK K 
        try simp only [Act.put]
        refine wpL_done (by kernel_rfl) ?_ _
        have hO3 := ownC_put HO2 (k * 2) (rowVals [((.slice va cols vc : Value), fitL ⟨cl, xw⟩ cols)]) (by rw [rowVals_len]; simp; omega)
        rw [← rowVals_put, putAt_mid _ _ _ _ _ HAK.out.symm] at hO3
        have g3 := gb_setCells w2 yb (yo + k * 2) (rowVals [((.slice va cols vc : Value), fitL ⟨cl, xw⟩ cols)])
        have HRZ3 := Lib.hid (HR.out.step (v' := .slice va cols vc) (r' := fitL ⟨cl, xw⟩ cols) HLT.out HTP.out (by simp) HXQ.out (gb_of_below (some cb) HB2.out) (.inr ⟨by rw [fitL_len]; exact HN2.out, by
            have h1 := ownC_pos HN2.out (by omega)
            obtain ⟨b9, o9, c9, e9, _⟩ := h1
            exact ⟨b9, by rw [e9]; rfl⟩⟩) g3 (by
          have hl : (A ++ ((.slice va cols vc : Value), fitL ⟨cl, xw⟩ cols) :: B).length = Lo.length := by
            have := HLN.out
            simp only [List.length_append, List.length_cons] at this ⊢
            exact this
          rw [hl]; exact hO3))
        have HMP := Lib.hid (map_step (fun z : Value × Rw => z.2) (fun r => fitL r cols) A B (.slice (some ⟨cb, co, none⟩) nl cc, ⟨cl, xw⟩) (.slice va cols vc, fitL ⟨cl, xw⟩ cols) g.old k HAK.out HM.out.2 rfl)
        replace HRZ3 := Lib.hid (show RzD T p 3 2 K wd (.slice (some ⟨yb, yo, none⟩) Lo.length yc) (.slice (some ⟨xb, xo, none⟩) Lr.length xc) (A ++ ((.slice va cols vc : Value), fitL ⟨cl, xw⟩ cols) :: B) L1 (w2.setCells yb (yo + k * 2) (#[Value.slice va cols vc, .bool (fitL ⟨cl, xw⟩ cols).wrap] : Array Value).toList) from HRZ3.out)
        clear hO3 g3 hr0 hr1' x2 y2 yr0 yr1 hst HO2
        go_wp2_with fail
        go_roundw
        case rel => exact ⟨k + 1, _, by omega, by go_num, HRZ3, ⟨by
          have := HLN.out
          simp only [List.length_append, List.length_cons] at this ⊢
          exact this, HMP.out.2⟩⟩
        case measure => simp [intOf]; omega
      · have hkn : k = Lo.length := by omega
        have d1 : decide ((k : Int) < (Lo.length : Int)) = false := decide_eq_false (by omega)
        have d1' : decide (k < Lo.length) = false := decide_eq_false hlt
        have HMK := Lib.hid (show L.map (·.2) = g.old.map (fun r => fitL r cols) by rw [HM.out.2, hkn, HNO.out, List.take_length, List.drop_length, List.append_nil])
        clear hkn
        go_wp2_with fail
        go_meet
        exact ⟨L1, L, HR.out.swap, ⟨HL.out.1, HM.out.1, HL.out.2, HMK.out⟩⟩
  case rest =>
    obtain ⟨L1, L2, HZ, HL⟩ := hcut
    obtain ⟨we, rfl⟩ : ∃ we, we = wc := ⟨wc, rfl⟩
    have HKE := Lib.hid (show we.heap[p]? = some (.cells #[.int .i64 g.cols, .int .i64 g.limit, .slice (some ⟨xb, xo, none⟩) Lr.length xc, .slice ya Lo.length yc] 65 (0, 0)) by rw [← HK.out]; exact HZ.out.blk)
    have k2 : we.cell? ⟨p, 2, none⟩ = some (.slice (some ⟨xb, xo, none⟩) Lr.length xc) := blk_cell HKE.out 2
    have g2 : we.frozen? ⟨p, 2, none⟩ = false := blk_free HKE.out 2
    have hpd : p < wd.heap.size := by omega
    go_upto_if 99 with fail
    go_cut [] (fun wz => ∃ (a9 : Option Addr) (n9 c9 : Nat) (L9 : List (Value × Rw)), Hid (wz.heap[p]? = some (.cells #[.int .i64 g.cols, .int .i64 g.limit, .slice a9 n9 c9, .slice ya Lo.length yc] 65 (0, 0))) ∧ Hid (Rs T wd (.slice a9 n9 c9) (.slice ya Lo.length yc) L9 L2 wz) ∧ Hid (L9.map (·.2) = sizedR (g.rows.map fun r => fitL r cols) cols rows))
    case first =>
      by_cases hrl : rows < Lr.length
      · have d1 : decide ((rows : Int) < (Lr.length : Int)) = true := decide_eq_true (by omega)
        have d1' : decide (rows < Lr.length) = true := decide_eq_true hrl
        have hsl := fun wx => slice_h (P := Tryz.prog) Tryz.underlying62 rowD_info (some ⟨xb, xo, none⟩) Lr.length xc rows (by omega) wx
        go_wp2_with fail
        go_meet
        refine ⟨_, rows, xc, L1.take rows, blk_set HKE.out 2 _, (HZ.out.cut HLT.out HL.out.1 rows (by omega)).put HTP.out hpd (gb_set (gb_refl _ _) _ _), ?_⟩
        show _ = _
        rw [List.map_take, HL.out.2.2.1]
        unfold sizedR
        rw [if_pos (by rw [List.length_map, ← HNR.out]; exact hrl)]
      · have d1 : decide ((rows : Int) < (Lr.length : Int)) = false := decide_eq_false (by omega)
        have d1' : decide (rows < Lr.length) = false := decide_eq_false hrl
        obtain ⟨rn, hrn⟩ : ∃ rn : Nat, rn + Lr.length = rows := ⟨rows - Lr.length, by omega⟩
        have hw7 : IntKind.i64.wrap ((rows : Int) - (Lr.length : Int)) = (rn : Int) := by rw [wrap64_id _ (by omega) (by omega)]; omega
        have HRN := Lib.hid hrn
        have hrb : rn ≤ 120 := by omega
        clear hrn
        have HOY := Lib.hid (show OwnC we 0 2 (.slice (some ⟨xb, xo, none⟩) Lr.length xc) Lr.length (rowVals L1) by have := HZ.out.rl.own; rw [HL.out.1] at this; exact this)
        have HXT := Lib.hid (show ∀ k, (Value.slice (some ⟨xb, xo, none⟩) Lr.length xc).ownBlock = some k → T k = 2 from fun k hk => HZ.out.rl.tag k hk)
        have hln := ownC_ln Tryz.underlying62 HOY.out
        go_upto_region 17 with fail
        refine wpL_begin (c := 18) (S := (fun bb w' => True ∧ (bb = false → w'.cell? ⟨p, 2, none⟩ = some (.slice (some ⟨xb, xo, none⟩) Lr.length xc)))) (by kernel_rfl) (⟨trivial, fun _ => k2⟩) (fun _ => ?_)
        refine wpL_tk false 0 (⟨trivial, fun _ => k2⟩) ?_
        refine wpL_tk false 1 (⟨trivial, fun _ => k2⟩) ?_
        refine wpL_tk false 2 (⟨trivial, fun _ => k2⟩) ?_
        refine wpL_tk false 3 (⟨trivial, fun _ => k2⟩) ?_
        refine wpL_td 4 (⟨trivial, fun _ => k2⟩) ?_
        refine wpL_tk false 5 (⟨trivial, fun _ => k2⟩) ?_
        refine wpL_tk false 6 (⟨trivial, fun _ => k2⟩) ?_
        refine wpL_tk false 7 (⟨trivial, fun _ => k2⟩) ?_
        refine wpL_tk false 8 (⟨trivial, fun _ => k2⟩) ?_
        refine wpL_td 9 (⟨trivial, fun _ => k2⟩) ?_
        refine wpL_tk false 10 (⟨trivial, fun _ => k2⟩) ?_
        refine wpL_tk false 11 (⟨trivial, fun _ => k2⟩) ?_
        refine wpL_tk false 12 (⟨trivial, fun _ => k2⟩) ?_
        refine wpL_on false 13 fun K hK => ?_
        refine wanted_on rfl ?_
        go_wp2_with fail
        refine (refPlain_any we.drew).mono ?_
        rintro e wp ⟨rfl, bp⟩
        have k2p : wp.cell? ⟨p, 2, none⟩ = some (.slice (some ⟨xb, xo, none⟩) Lr.length xc) := cell_below bp k2
        have HBP := Lib.hid (show Below we.heap.size we wp from (Below.refl we.heap.size we).drew.trans bp)
        refine hK.out _ _ (⟨trivial, fun _ => k2p⟩) (fun _ => ?_)
        clear hK K bp
        try simp only [Act.put, List.setIfInBounds_toArray, List.set_cons_zero, List.set_cons_succ]
        refine wpL_on false 14 fun K hK => ?_
        refine wanted_on rfl ?_
        go_wp2_with fail
        refine (rowsD_any rn cols plainS wp (by omega) c1 (by omega)).mono ?_
        rintro e wq ⟨v4, L4, rfl, b4, e4, r4⟩
        have k2q : wq.cell? ⟨p, 2, none⟩ = some (.slice (some ⟨xb, xo, none⟩) Lr.length xc) := cell_below b4 k2p
        have HBQ := Lib.hid (HBP.out.trans (b4.mono HBP.out.size))
        have hl4 : L4.length = rn := by
          have h1 := congrArg List.length e4
          unfold freshL at h1
          rw [List.length_map, List.length_replicate] at h1
          exact h1
        have HL4 := Lib.hid hl4
        have HE4 := Lib.hid e4
        have HR4 := Lib.hid (show RowsAt we.heap.size wq v4 L4 from ⟨ownC_mono r4.own HBP.out.size, fun x hx => ownC_mono (r4.cells x hx) HBP.out.size, r4.nd, r4.ap⟩)
        refine hK.out _ _ (⟨trivial, fun _ => k2q⟩) (fun _ => ?_)
        clear hK K b4 e4 r4 hl4
        try simp only [Act.put, List.setIfInBounds_toArray, List.set_cons_zero, List.set_cons_succ]
        refine wpL_on false 15 fun K hK => ?_
        apply step_appS rowsD_elem
        case hgd => rfl
        case ho => rfl
        case hown => exact ownC_below HOY.out HBQ.out
        case hs => rfl
        case hr => exact src_reads Tryz.underlying62 (ownC_reads HR4.out.own) (rowsAt_one HR4.out)
        case hx => rfl
        case h63 => (have := HL4.out; unfold maxLen; omega)
        case hbytes => (have := HL4.out; omega)
        case hbase => exact Nat.zero_le _
        intro v7 w7 o7 g7 n7
        obtain ⟨a7, c7, rfl⟩ := ownC_sl o7
        have hne7 : (Value.slice (some ⟨xb, xo, none⟩) Lr.length xc).ownBlock ≠ some p := fun e => by have := HXT.out p e; have := HTP.out; omega
        have k27 : w7.cell? ⟨p, 2, none⟩ = some (.slice (some ⟨xb, xo, none⟩) Lr.length xc) := cell_grown g7 k2q hne7
        have f27 : w7.frozen? ⟨p, 2, none⟩ = false := frozen_grown g7 (frozen_below HBQ.out k2 g2) (cell_lt k2q) hne7
        have HO7 := Lib.hid o7
        have HG7 := Lib.hid g7
        have HN7 := Lib.hid n7
        have HNE7 := Lib.hid hne7
        refine hK.out _ _ (⟨trivial, fun _ => k27⟩) (fun _ => ?_)
        clear hK K o7 g7 n7 hne7
        try simp only [Act.put, List.setIfInBounds_toArray, List.set_cons_zero, List.set_cons_succ]
        refine wpL_tk false 16 (⟨trivial, fun _ => k27⟩) ?_
        refine wpL_tk false 17 (⟨trivial, fun _ => k27⟩) ?_
        refine wpL_on true 18 fun K hK => ?_
        refine wanted_on rfl ?_
        go_wp2_with fail
        refine hK.out _ _ (⟨trivial, fun e => by cases e⟩) (fun _ => ?_)
        clear hK K 
        try simp only [Act.put]
        refine wpL_done (by kernel_rfl) ?_ _
        have g8 : w7.grownBy (w7.setCell ⟨p, 2, none⟩ (.slice a7 (Lr.length + L4.length) c7)) (some p) := gb_set (gb_refl _ _) _ _
        have HKZ := Lib.hid (show (w7.setCell ⟨p, 2, none⟩ (.slice a7 (Lr.length + L4.length) c7)).heap[p]? = some (.cells #[.int .i64 g.cols, .int .i64 g.limit, .slice a7 (Lr.length + L4.length) c7, .slice ya Lo.length yc] 65 (0, 0)) from
          blk_set (blk_grown (blk_below HKE.out HBQ.out (heap_lt HKE.out)) HG7.out (fun e => HNE7.out e.symm)) 2 _)
        have HRS9 := Lib.hid (show Rs T wd (.slice a7 (Lr.length + L4.length) c7) (.slice ya Lo.length yc) (L1 ++ L4) L2 (w7.setCell ⟨p, 2, none⟩ (.slice a7 (Lr.length + L4.length) c7)) from
          (HZ.out.grow HLT.out HBQ.out HR4.out (by rw [HL.out.1]; exact HO7.out) HG7.out HN7.out).put HTP.out hpd g8)
        have HM9 := Lib.hid (show (L1 ++ L4).map (·.2) = sizedR (g.rows.map fun r => fitL r cols) cols rows by
          rw [List.map_append, HL.out.2.2.1, HE4.out]
          unfold sizedR
          rw [if_neg (by rw [List.length_map, ← HNR.out]; exact hrl), List.length_map, ← HNR.out, show rows - Lr.length = rn by have := HRN.out; omega])
        clear g8 k2 k2p k2q k27 f27 g2
        go_wp2_with fail
        go_meet
        exact ⟨_, _, _, L1 ++ L4, HKZ, HRS9, HM9⟩
    case rest =>
      obtain ⟨a9, n9, c9, L9, HKZ, HRS9, HM9⟩ := hcut
      obtain ⟨wz, rfl⟩ : ∃ wz, wz = wc := ⟨wc, rfl⟩
      clear k2 g2
      have j0 : wz.cell? ⟨p, 0, none⟩ = some (.int .i64 g.cols) := blk_cell HKZ.out 0
      have g0 : wz.frozen? ⟨p, 0, none⟩ = false := blk_free HKZ.out 0
      have HKF := Lib.hid (show (wz.setCell ⟨p, 0, none⟩ (.int .i64 cols)).heap[p]? = some (.cells #[.int .i64 cols, .int .i64 g.limit, .slice a9 n9 c9, .slice ya Lo.length yc] 65 (0, 0)) from blk_set HKZ.out 0 _)
      have HRF := Lib.hid (HRS9.out.put HTP.out hpd (show wz.grownBy (wz.setCell ⟨p, 0, none⟩ (.int .i64 cols)) (some p) from gb_set (gb_refl _ _) _ _))
      go_upto_region 19 with fail
      generalize wz.setCell ⟨p, 0, none⟩ (.int .i64 cols) = wf at *
      clear j0 g0
      have hno : ∀ k, w.heap.size ≤ k → k < wd.heap.size → ¬ own T wd k := fun k h1 h2 e => by
        rcases e with e | e
        · have := HLT0.out k e; omega
        · omega
      have hat := (HRF.out.wi.block w.heap.size (by omega) (hno _ (Nat.le_refl _) (by omega))).trans HAT4.out
      have hrs := (HRF.out.wi.block (w.heap.size + 1) (by omega) (hno _ (by omega) (by omega))).trans HRS4.out
      have y0 : wf.cell? ⟨w.heap.size, 0, none⟩ = some (.int .i64 bx) := blk_cell hat 0
      have y1 : wf.cell? ⟨w.heap.size, 1, none⟩ = some (.int .i64 yb') := blk_cell hat 1
      have hc1 : IntKind.i64.wrap ((cols : Int) - 1) = (cols : Int) - 1 := wrap64_id _ (by omega) (by omega)
      have hr1'' : IntKind.i64.wrap ((rows : Int) - 1) = (rows : Int) - 1 := wrap64_id _ (by omega) (by omega)
      have hst := run_storeVar_row (P := Tryz.prog) wf (w.heap.size + 1) 51 51 _ #[.int .i64 (min bx ((cols : Int) - 1)), .int .i64 (min yb' ((rows : Int) - 1))] hrs (by kernel_rfl) rfl (by simp [Value.oneCell'])
      have hr2' := setRow_blk (cells := #[.int .i64 (min bx ((cols : Int) - 1)), .int .i64 (min yb' ((rows : Int) - 1))]) hrs
      have HGE := Lib.hid (gb_setRow wf (w.heap.size + 1) #[.int .i64 (min bx ((cols : Int) - 1)), .int .i64 (min yb' ((rows : Int) - 1))])
      have HRES := Lib.hid (resizeC_eq g cols rows ax ay)
      have HFIN := Lib.hid (show ∃ T', RM T' p (wf.setRow (w.heap.size + 1) #[.int .i64 (min bx ((cols : Int) - 1)), .int .i64 (min yb' ((rows : Int) - 1))]) (g.resize cols rows ax ay false).1 ∧ ∀ k, T' k ≠ 0 → own T w k from by
        have hwf2 := resizeC_wf HG0.out.wf cols rows ax ay c1 c2 r1 r2
        rw [resizeC_eq] at hwf2 ⊢
        obtain ⟨T', h1, h2⟩ := rat_build HLT.out HTP.out HRF.out.wi.size HKF.out HRF.out.rr HRF.out.ro HRF.out.tr HRF.out.tv HRF.out.ca HRF.out.nd HM9.out HL.out.2.2.2 hwf2
        refine ⟨T', h1.other (Tp := fun k => if k = w.heap.size + 1 then 1 else 0) (Within.of_gb HGE.out (fun k hk => ?_)) (fun k hk => ?_), fun k hk => ?_⟩
        · injection hk with hk
          subst hk
          exact .inl (by show (if _ then 1 else 0) ≠ 0; rw [if_pos rfl]; decide)
        · show (if _ then 1 else 0) = 0
          rw [if_neg (fun e => hno (w.heap.size + 1) (by omega) (by omega) (by rw [← e]; exact h2 k hk))]
        · rcases h2 k hk with e | e
          · exact .inl e
          · exact .inr (by omega))
      have HWI := Lib.hid (show Within (own T w) w (wf.setRow (w.heap.size + 1) #[.int .i64 (min bx ((cols : Int) - 1)), .int .i64 (min yb' ((rows : Int) - 1))]) from
        ((Within.of_below HB4.out).trans (HRF.out.wi.mono (fun k hk => by
          rcases hk with e | e
          · exact .inl e
          · exact .inr (by omega)))).trans (Within.of_gb HGE.out (fun k hk => by injection hk with hk; subst hk; exact .inr (by omega))))
      clear hat hrs
      go_wp2_with (refine wpList_storeR rfl _ _ _ rfl hst rfl rfl ?_)
      (try simp only [Exit.inBlock, Exit.then])
      exact retRow2 (x := .bool true) rfl rfl rfl rfl hr2' Tryz.underlying51 rfl (by kernel_rfl) ⟨by rw [HRES.out, HIX.out, HIY.out], HWI.out, HFIN.out⟩
end Go.Proofs.YtjclgoiclbkgjaaGreatDoor

/- Walks of the document's grid: Cell, TextOf. -/
namespace Go.Proofs.YtjclgoiclbkgjaaGreatDoor
open Go.RowKit

/-- The code point that is written for a rune. -/
def cpU (r : Int) : Nat := if Utf8.valid r then r.toNat else 65533
def encU (r : Int) : List UInt8 := (Utf8.encode r).data.toList
theorem valid_iffU (r : Int) : Utf8.valid r = true ↔ (0 ≤ r ∧ r < 55296) ∨ (57344 ≤ r ∧ r ≤ 1114111) := by
  unfold Utf8.valid; simp
theorem cpU_valid (r : Int) (h : Utf8.valid r = true) : (cpU r : Int) = r := by
  unfold cpU; rw [if_pos h]; rw [valid_iffU] at h; omega
theorem encU_eq (r : Int) : encU r =
    if cpU r < 128 then [UInt8.ofNat (cpU r)]
    else if cpU r < 2048 then [UInt8.ofNat (192 + cpU r / 64), UInt8.ofNat (128 + cpU r % 64)]
    else if cpU r < 65536 then [UInt8.ofNat (224 + cpU r / 4096), UInt8.ofNat (128 + cpU r / 64 % 64), UInt8.ofNat (128 + cpU r % 64)]
    else [UInt8.ofNat (240 + cpU r / 262144), UInt8.ofNat (128 + cpU r / 4096 % 64), UInt8.ofNat (128 + cpU r / 64 % 64), UInt8.ofNat (128 + cpU r % 64)] := by
  unfold encU Utf8.encode
  have e : (if Utf8.valid r = true then r.toNat else Utf8.runeError) = cpU r := rfl
  simp only [e]
  by_cases h1 : cpU r < 128
  · rw [if_pos h1, if_pos h1]
  by_cases h2 : cpU r < 2048
  · rw [if_neg h1, if_neg h1, if_pos h2, if_pos h2]
  by_cases h3 : cpU r < 65536
  · rw [if_neg h1, if_neg h1, if_neg h2, if_neg h2, if_pos h3, if_pos h3]
  · rw [if_neg h1, if_neg h1, if_neg h2, if_neg h2, if_neg h3, if_neg h3]
theorem u8_of (n : Nat) (z : Int) (h : z = (n : Int)) : UInt8.ofNat n = z.toNat.toUInt8 := by
  subst h
  rw [Int.toNat_natCast]
theorem encode_rune (r : Int) : encU r = Lib.encodeRune r := by
  rw [encU_eq]
  unfold Lib.encodeRune
  by_cases hv : Utf8.valid r = true
  · have hc := cpU_valid r hv
    rw [valid_iffU] at hv
    generalize cpU r = n at hc
    subst hc
    by_cases h1 : n < 128
    · have e : Lib.encodeRuneZ (n : Int) = [(n : Int)] := by
        unfold Lib.encodeRuneZ; rw [if_pos ⟨by omega, by omega⟩]
      rw [if_pos h1, e]
      simp only [List.map_cons, List.map_nil]
      rw [← u8_of n _ rfl]
    by_cases h2 : n < 2048
    · have e : Lib.encodeRuneZ (n : Int) = [192 + (n : Int) / 64, 128 + (n : Int) % 64] := by
        unfold Lib.encodeRuneZ; rw [if_neg (by omega), if_pos ⟨by omega, by omega⟩]
      rw [if_neg h1, if_pos h2, e]
      simp only [List.map_cons, List.map_nil]
      rw [← u8_of (192 + n / 64) _ (by omega), ← u8_of (128 + n % 64) _ (by omega)]
    by_cases h3 : n < 65536
    · have e : Lib.encodeRuneZ (n : Int) = [224 + (n : Int) / 4096, 128 + (n : Int) / 64 % 64, 128 + (n : Int) % 64] := by
        unfold Lib.encodeRuneZ; rw [if_neg (by omega), if_neg (by omega), if_pos (by omega)]
      rw [if_neg h1, if_neg h2, if_pos h3, e]
      simp only [List.map_cons, List.map_nil]
      rw [← u8_of (224 + n / 4096) _ (by omega), ← u8_of (128 + n / 64 % 64) _ (by omega), ← u8_of (128 + n % 64) _ (by omega)]
    have e : Lib.encodeRuneZ (n : Int) = [240 + (n : Int) / 262144, 128 + (n : Int) / 4096 % 64, 128 + (n : Int) / 64 % 64, 128 + (n : Int) % 64] := by
      unfold Lib.encodeRuneZ; rw [if_neg (by omega), if_neg (by omega), if_neg (by omega), if_pos (by omega)]
    rw [if_neg h1, if_neg h2, if_neg h3, e]
    simp only [List.map_cons, List.map_nil]
    rw [← u8_of (240 + n / 262144) _ (by omega), ← u8_of (128 + n / 4096 % 64) _ (by omega), ← u8_of (128 + n / 64 % 64) _ (by omega), ← u8_of (128 + n % 64) _ (by omega)]
  · have hc : cpU r = 65533 := by unfold cpU; rw [if_neg hv]
    rw [valid_iffU] at hv
    have e : Lib.encodeRuneZ r = [239, 191, 189] := by
      unfold Lib.encodeRuneZ; rw [if_neg (by omega), if_neg (by omega), if_neg (by omega), if_neg (by omega)]
    rw [hc, e]
    decide
theorem runesBytes_enc (l : List Int) : runesBytes l = ⟨(l.flatMap Lib.encodeRune).toArray⟩ := by
  have : ∀ (l : List Int) (s : ByteArray), l.foldl (fun r n => r ++ Utf8.encode n) s = ⟨(s.data.toList ++ l.flatMap Lib.encodeRune).toArray⟩ := by
    intro l
    induction l with
    | nil => intro s; simp
    | cons r l ih =>
      intro s
      rw [List.foldl_cons, ih]
      congr 1
      rw [List.flatMap_cons, ← encode_rune]
      unfold encU
      simp
  have h := this l ByteArray.empty
  unfold runesBytes
  rw [h]
  simp
/-- The runes of a row's cells. -/
def cruns (l : List Cel) : List Int := (l.filter fun c => decide (0 < c.width)).map (·.rune)
theorem cruns_text (l : List Cel) : (cruns l).flatMap Lib.encodeRune = cellsText l := by
  induction l with
  | nil => rfl
  | cons c l ih =>
    unfold cruns cellsText at *
    rw [List.filter_cons, List.flatMap_cons]
    by_cases h : 0 < c.width
    · rw [if_pos (by simpa using h), if_pos h, List.map_cons, List.flatMap_cons, ih]
    · rw [if_neg (by simpa using h), if_neg h, ih, List.nil_append]
theorem cruns_take (l : List Cel) (k : Nat) (hk : k < l.length) : cruns (l.take (k + 1)) = cruns (l.take k) ++ if 0 < (l.getD k noC).width then [(l.getD k noC).rune] else [] := by
  unfold cruns
  rw [take_succ_getD l noC k hk, List.filter_append, List.map_append]
  congr 1
  by_cases h : 0 < (l.getD k noC).width
  · rw [if_pos h, List.filter_cons, if_pos (by simpa using h)]; rfl
  · rw [if_neg h, List.filter_cons, if_neg (by simpa using h)]; rfl
theorem cruns_len (l : List Cel) : (cruns l).length ≤ l.length := by
  unfold cruns
  rw [List.length_map]
  exact List.length_filter_le _ _
theorem ints_elem : Elem Tryz.prog 106 21 1 4 (.int .i32 0) := ⟨Tryz.underlying106, by kernel_rfl, rfl, by decide⟩
set_option maxRecDepth 100000 in
set_option maxHeartbeats 4000000 in
theorem textOf_any (l : List Cel) (v : Value) (w : World) (h : OwnC w 0 5 v l.length (cvals l)) (hl : l.length ≤ 1000) :
    Calls Tryz.prog 40 #[v] w fun e w' => e = .returned (.string ⟨(textL l).toArray⟩) ∧ Below w.heap.size w w' := by
  have HO := Lib.hid h
  have hln := ownC_ln Tryz.underlying42 h
  clear h
  go_enter Tryz.func40, Tryz.ntmps40
  go_upto_block 0 with fail
  go_cut [3] (fun nv wz => (∃ n : Nat, nv = .int .i64 n ∧ Hid (n ≤ l.length ∧ trimL l = l.take n)) ∧ wz = w)
  case first =>
    go_upto_region 2 with fail
    go_loopw [3] (fun nv wr => ∃ n : Nat, nv = .int .i64 n ∧ n ≤ l.length ∧ wr = w ∧ Hid (trimL l = trimL (l.take n))) (fun nv _ => (intOf nv).toNat)
    case atStart => exact ⟨l.length, rfl, Nat.le_refl _, rfl, by show _ = _; rw [List.take_length]⟩
    case round =>
      obtain ⟨n, rfl, hn, rfl, HT⟩ := hrel
      by_cases h0 : 0 < n
      · obtain ⟨m, hm⟩ : ∃ m, m + 1 = n := ⟨n - 1, by omega⟩
        have d1 : decide (0 < (n : Int)) = true := decide_eq_true (by omega)
        have d1' : decide (0 < n) = true := decide_eq_true h0
        have hw1 : IntKind.i64.wrap ((n : Int) - 1) = (m : Int) := by rw [wrap64_id _ (by omega) (by omega)]; omega
        obtain ⟨b, off, c, rfl, _, _⟩ := ownC_pos HO.out (by omega)
        obtain ⟨p0, _⟩ := ownC_cel HO.out m (by omega) rfl
        have hix := idx_at (P := Tryz.prog) (size := 5) Tryz.underlying42 cell_info b off l.length c m (by omega)
        have hsn : l.take n = l.take m ++ [l.getD m noC] := by rw [← hm]; exact take_succ_getD l noC m (by omega)
        have HSN := Lib.hid (show trimL (l.take n) = if (l.getD m noC).rune == 32 then trimL (l.take m) else l.take n by
          rw [hsn, trim_snoc])
        have HM := Lib.hid hm
        clear hm hsn
        generalize l.getD m noC = cl at *
        obtain ⟨cr, cw, cs⟩ := cl
        dsimp only at p0 HSN
        by_cases h32 : cr = 32
        · have d2 : (cr == 32) = true := by simp [h32]
          have HT2 := Lib.hid (show trimL l = trimL (l.take m) by rw [HT.out, HSN.out, if_pos d2])
          clear h32
          go_wp2_with fail
          go_roundw
          case rel => exact ⟨m, rfl, by have := HM.out; omega, by trivial, HT2⟩
          case measure => (have := HM.out; simp [intOf]; omega)
        · have d2 : (cr == 32) = false := by simp [h32]
          have HT2 := Lib.hid (show n ≤ l.length ∧ trimL l = l.take n from ⟨hn, by rw [HT.out, HSN.out, if_neg (by rw [d2]; decide)]⟩)
          clear h32
          go_wp2_with fail
          go_meet
          exact ⟨⟨n, rfl, HT2⟩, rfl⟩
      · have hn0 : n = 0 := by omega
        subst hn0
        have HT2 := Lib.hid (show 0 ≤ l.length ∧ trimL l = l.take 0 from ⟨Nat.zero_le _, by rw [HT.out]; rfl⟩)
        go_wp2_with fail
        go_meet
        exact ⟨⟨0, rfl, HT2⟩, rfl⟩
  case rest =>
  obtain ⟨⟨n, rfl, HT⟩, rfl⟩ := hcut
  obtain ⟨w, rfl⟩ : ∃ w0, w0 = wc := ⟨wc, rfl⟩
  have hnl := HT.out.1
  go_upto_region 6 with fail
  go_loopw [4, 5] (fun vv iv wr => ∃ (k : Nat) (ov : Value), ov = vv ∧ k ≤ n ∧ iv = .int .i64 k ∧ Hid (Below w.heap.size w wr) ∧ Hid (OwnC wr w.heap.size 1 ov (cruns (l.take k)).length ((cruns (l.take k)).map (Value.int .i32)))) (fun _ iv _ => n - (intOf iv).toNat)
  case atStart => exact ⟨0, _, rfl, Nat.zero_le _, rfl, Below.refl _ _, ownC_nil _ _ _⟩
  case round =>
    obtain ⟨k, ov, rfl, hk, rfl, HB, HQ⟩ := hrel
    obtain ⟨wo, rfl⟩ : ∃ wo, wo = wr := ⟨wr, rfl⟩
    by_cases hlt : k < n
    · have d1 : decide ((k : Int) < (n : Int)) = true := decide_eq_true (by omega)
      have d1' : decide (k < n) = true := decide_eq_true hlt
      have hwk : IntKind.i64.wrap ((k : Int) + 1) = (k : Int) + 1 := wrap64_id _ (by omega) (by omega)
      have HOi := Lib.hid (ownC_below HO.out HB.out)
      obtain ⟨b, off, c, rfl, _, _⟩ := ownC_pos HOi.out (by omega)
      obtain ⟨p0, p1, _⟩ := ownC_cel HOi.out k (by omega) rfl
      have hix := idx_at (P := Tryz.prog) (size := 5) Tryz.underlying42 cell_info b off l.length c k (by omega)
      have HC := Lib.hid (cruns_take l k (by omega))
      have hcl : (cruns (l.take k)).length ≤ 1000 := by have := cruns_len (l.take k); rw [List.length_take] at this; omega
      generalize l.getD k noC = cl at *
      obtain ⟨cr, cw, cs⟩ := cl
      dsimp only at p0 p1 HC
      by_cases hw0 : 0 < cw
      · have d2 : decide (0 < cw) = true := decide_eq_true hw0
        have HSZ := Lib.hid HB.out.size
        go_wp2_with (at_builtin; refine held ?_)
        unfold Held
        refine wpList_appD ints_elem rfl rfl w.heap.size (ownC_alloc HQ.out _) rfl (reads_one _ _ _) rfl (int_one _ _) (by unfold maxLen; omega) (by omega) (by have := HSZ.out; simp; omega) ?_
        intro v6 w6 o6 g6 n6
        have HB6 := Lib.hid ((HB.out.alloc HB.out.size _).grown g6 (by have := HB.out.size; simp; omega) (fun q hq => (ownC_lt HQ.out q hq).1))
        have HQ6 := Lib.hid (show OwnC w6 w.heap.size 1 v6 (cruns (l.take (k + 1))).length ((cruns (l.take (k + 1))).map (Value.int .i32)) by
          rw [HC.out, if_pos hw0, List.length_append, List.map_append]
          exact o6)
        clear o6 g6 n6
        go_wp2_with fail
        go_roundw
        case rel => exact ⟨k + 1, _, rfl, by omega, by go_num, HB6, HQ6⟩
        case measure => simp [intOf]; omega
      · have d2 : decide (0 < cw) = false := decide_eq_false hw0
        have HQ6 := Lib.hid (show OwnC wo w.heap.size 1 ov (cruns (l.take (k + 1))).length ((cruns (l.take (k + 1))).map (Value.int .i32)) by
          rw [HC.out, if_neg hw0, List.append_nil]
          exact HQ.out)
        go_wp2_with fail
        go_roundw
        case rel => exact ⟨k + 1, _, rfl, by omega, by go_num, HB, HQ6⟩
        case measure => simp [intOf]; omega
    · have hkn : k = n := by omega
      have d1 : decide ((k : Int) < (n : Int)) = false := decide_eq_false (by omega)
      have d1' : decide (k < n) = false := decide_eq_false hlt
      have hcv : (convert 106 9 ov).run Tryz.prog wo = .ok (.string ⟨(textL l).toArray⟩) wo := by
        have hq := HQ.out
        rw [hkn] at hq
        have ht : textL l = (cruns (l.take n)).flatMap Lib.encodeRune := by
          unfold textL
          rw [HT.out.2, cruns_text]
        rw [ht, ← runesBytes_enc]
        rcases hq.2 with ⟨rfl, h0⟩ | ⟨b, off, c, rfl, _⟩
        · have : cruns (l.take n) = [] := List.eq_nil_of_length_eq_zero h0
          rw [this]
          exact run_convert_runes_nil wo 106 9 21 0 0 Tryz.underlying106 Tryz.underlying21 Tryz.underlying9
        · have := run_convert_runes (P := Tryz.prog) wo 106 9 21 ⟨b, off, none⟩ (cruns (l.take n)).length c (cruns (l.take n)) (Nat.le_refl _) Tryz.underlying106 Tryz.underlying21 Tryz.underlying9 (fun j hj => by
            have h3 := (ownC_cellx hq j (by omega)).1
            rw [add_eq, h3, List.getElem?_map, List.getElem?_eq_getElem hj, List.getD_eq_getElem?_getD, List.getElem?_eq_getElem hj]; rfl)
          rw [List.take_length] at this
          exact this
      clear hkn
      go_wp2_with fail
      exact ret1v rfl rfl rfl ⟨rfl, HB.out⟩
end Go.Proofs.YtjclgoiclbkgjaaGreatDoor

/- Walk of the document's grid: Cell. -/
namespace Go.Proofs.YtjclgoiclbkgjaaGreatDoor
open Go.RowKit

theorem is_len {g : Gr} (h : g.WF) {y : Int} (hi : g.is y = true) : (g.row y).cells.length = g.cols := by
  have hget : ∀ (l : List Rw) (k : Nat), k < l.length → l.getD k noR ∈ l := fun l k hk => by
    rw [List.getD_eq_getElem?_getD, List.getElem?_eq_getElem hk]; exact List.getElem_mem hk
  unfold Gr.is at hi
  simp at hi
  unfold Gr.row
  by_cases h1 : 0 ≤ y ∧ y < (g.rows.length : Int)
  · rw [if_pos h1]
    exact (h.ce _ (List.mem_append_left _ (hget _ _ (by omega)))).1
  · rw [if_neg h1, if_pos (by omega)]
    exact (h.ce _ (List.mem_append_right _ (hget _ _ (by omega)))).1
set_option maxRecDepth 100000 in
set_option maxHeartbeats 2000000 in
theorem cellD_any {T : Nat → Nat} {p : Nat} {w : World} {g : Gr} (h : RM T p w g) (x y : Int) :
    Calls Tryz.prog 39 #[.pointer (some ⟨p, 0, none⟩), .int .i64 x, .int .i64 y] w fun e w' => e = .returned (g.cell x y).val ∧ Below w.heap.size w w' := by
  have hBz := Below.alloc (Below.refl w.heap.size w) (Nat.le_refl _) (.cells #[.int .i32 0, .int .i64 0, .int .i64 0, .int .i64 0, .int .i64 0] 38)
  have hbk0 := blk_new w (.cells #[.int .i32 0, .int .i64 0, .int .i64 0, .int .i64 0, .int .i64 0] 38)
  have hlen := (wf_row h.wf y).1
  have hM := h.below hBz
  have HI := Lib.hid (fun hi => is_len h.wf (y := y) hi)
  have HN := Lib.hid (fun hi => is_cells (g := g) (y := y) hi)
  have HR := Lib.hid (rowD_any hM y)
  have HC := Lib.hid (show g.cell x y = if 0 ≤ x ∧ x < ((g.row y).cells.length : Int) then (g.row y).cells.getD x.toNat noC else noC from rfl)
  have hcc : ∀ w2, Below (w.alloc (.cells #[.int .i32 0, .int .i64 0, .int .i64 0, .int .i64 0, .int .i64 0] 38)).heap.size (w.alloc (.cells #[.int .i32 0, .int .i64 0, .int .i64 0, .int .i64 0, .int .i64 0] 38)) w2 → w2.cell? ⟨p, 0, none⟩ = some (.int .i64 g.cols) := fun w2 b => by
    have hm2 := RM.below hM b
    obtain ⟨_, _, _, _, h2⟩ := hm2
    exact (rm_cells h2).1
  clear hM
  generalize g.row y = r at *
  generalize g.cell x y = cc at *
  generalize g.is y = ok at *
  unfold Cel.val
  go_enter Tryz.func39, Tryz.ntmps39
  go_wp2_with fail
  refine HR.out.mono ?_
  rintro e w2 ⟨v, rfl, b2, o2⟩
  have hbk := blk_below hbk0 b2 (by simp)
  have hBa := Below.alloc (hBz.trans (b2.mono (by simp))) (hBz.trans (b2.mono (by simp))).size (.cells #[v, .bool r.wrap] 96)
  have hbk3 := blk_below hbk (Below.alloc (Below.refl w2.heap.size w2) (Nat.le_refl _) (.cells #[v, .bool r.wrap] 96)) (heap_lt hbk)
  have o2' := ownC_below (ownC_below o2 b2) (Below.alloc (Below.refl w2.heap.size w2) (Nat.le_refl _) (.cells #[v, .bool r.wrap] 96))
  have p0 := hcc _ (Below.alloc b2 b2.size (.cells #[v, .bool r.wrap] 96))
  have HB := Lib.hid hBa
  clear b2 o2 hBz hbk0 hcc hBa hbk
  obtain ⟨va, vc, rfl⟩ := ownC_sl o2'
  have hrw := blk_cell (blk_new w2 (.cells #[.slice va r.cells.length vc, .bool r.wrap] 96)) 0
  change _ = some (Value.slice va r.cells.length vc) at hrw
  by_cases h0 : 0 ≤ x ∧ x < (r.cells.length : Int)
  · obtain ⟨k, rfl⟩ : ∃ k : Nat, x = (k : Int) := ⟨x.toNat, by omega⟩
    have hok : ok = true := by
      cases ok with
      | true => rfl
      | false => have := HN.out rfl; subst this; simp [noR] at h0; omega
    have hcl := HI.out hok
    subst hok
    have e := HC.out
    rw [if_pos h0, Int.toNat_natCast] at e
    obtain ⟨b, off, c, e2, hnc, hcm⟩ := ownC_pos o2' (by omega)
    simp only [Value.slice.injEq] at e2
    obtain ⟨rfl, _, rfl⟩ := e2
    obtain ⟨c0, c1, c2, c3, c4⟩ := ownC_cel o2' k (by omega) rfl
    have hix := idx_at (P := Tryz.prog) (size := 5) Tryz.underlying42 cell_info b off r.cells.length vc k (by omega)
    rw [← e] at c0 c1 c2 c3 c4
    obtain ⟨cr, cw, cs⟩ := cc
    dsimp only at c0 c1 c2 c3 c4 ⊢
    have d1 : decide ((k : Int) < 0) = false := decide_eq_false (by omega)
    have d2 : decide ((g.cols : Int) ≤ (k : Int)) = false := decide_eq_false (by omega)
    have d2' : decide (g.cols ≤ k) = false := decide_eq_false (by omega)
    have hst := run_storeVar_row (P := Tryz.prog) (w2.alloc (.cells #[.slice (some ⟨b, off, none⟩) r.cells.length vc, .bool r.wrap] 96)) w.heap.size 38 38 _ #[.int .i32 cr, .int .i64 cw, .int .i64 cs.fg, .int .i64 cs.bg, .int .i64 cs.attr] hbk3 cell_info rfl (by simp [Value.oneCell'])
    have hr2 := setRow_blk (cells := #[.int .i32 cr, .int .i64 cw, .int .i64 cs.fg, .int .i64 cs.bg, .int .i64 cs.attr]) hbk3
    have hB3 := Lib.hid (below_row HB.out (g := w.heap.size) (Nat.le_refl _) #[.int .i32 cr, .int .i64 cw, .int .i64 cs.fg, .int .i64 cs.bg, .int .i64 cs.attr])
    clear o2' e
    have HL := Lib.hid hcl
    clear hcl
    generalize (w2.alloc (.cells #[.slice (some ⟨b, off, none⟩) r.cells.length vc, .bool r.wrap] 96)).setRow w.heap.size #[.int .i32 cr, .int .i64 cw, .int .i64 cs.fg, .int .i64 cs.bg, .int .i64 cs.attr] = w4 at *
    go_wp2_with (refine wpList_storeR rfl _ _ _ rfl hst rfl rfl ?_)
    (try simp only [Exit.inBlock, Exit.then])
    exact retRow rfl rfl rfl hr2 Tryz.underlying38 rfl (by exact cell_info) ⟨rfl, hB3.out⟩
  · have e := HC.out
    rw [if_neg h0] at e
    subst e
    have hst := run_storeVar_row (P := Tryz.prog) (w2.alloc (.cells #[.slice va r.cells.length vc, .bool r.wrap] 96)) w.heap.size 38 38 _ #[.int .i32 0, .int .i64 0, .int .i64 0, .int .i64 0, .int .i64 0] hbk3 cell_info rfl (by simp [Value.oneCell'])
    have hr2 := setRow_blk (cells := #[.int .i32 0, .int .i64 0, .int .i64 0, .int .i64 0, .int .i64 0]) hbk3
    have hB3 := Lib.hid (below_row HB.out (g := w.heap.size) (Nat.le_refl _) #[.int .i32 0, .int .i64 0, .int .i64 0, .int .i64 0, .int .i64 0])
    clear o2'
    generalize (w2.alloc (.cells #[.slice va r.cells.length vc, .bool r.wrap] 96)).setRow w.heap.size #[.int .i32 0, .int .i64 0, .int .i64 0, .int .i64 0, .int .i64 0] = w4 at *
    cases ok with
    | false =>
      go_wp2_with (refine wpList_storeR rfl _ _ _ rfl hst rfl rfl ?_)
      (try simp only [Exit.inBlock, Exit.then])
      exact retRow rfl rfl rfl hr2 Tryz.underlying38 rfl (by exact cell_info) ⟨rfl, hB3.out⟩
    | true =>
      have HL := Lib.hid (HI.out rfl)
      by_cases h1 : x < 0
      · have d1 : decide (x < 0) = true := decide_eq_true h1
        go_wp2_with (refine wpList_storeR rfl _ _ _ rfl hst rfl rfl ?_)
        (try simp only [Exit.inBlock, Exit.then])
        exact retRow rfl rfl rfl hr2 Tryz.underlying38 rfl (by exact cell_info) ⟨rfl, hB3.out⟩
      · have d1 : decide (x < 0) = false := decide_eq_false h1
        have d2 : decide ((g.cols : Int) ≤ x) = true := decide_eq_true (by have := HL.out; omega)
        go_wp2_with (refine wpList_storeR rfl _ _ _ rfl hst rfl rfl ?_)
        (try simp only [Exit.inBlock, Exit.then])
        exact retRow rfl rfl rfl hr2 Tryz.underlying38 rfl (by exact cell_info) ⟨rfl, hB3.out⟩
end Go.Proofs.YtjclgoiclbkgjaaGreatDoor
