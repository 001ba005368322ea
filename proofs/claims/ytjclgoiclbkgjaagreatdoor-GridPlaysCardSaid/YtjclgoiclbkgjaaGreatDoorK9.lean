import Derived.Test.YtjclgoiclbkgjaaGreatDoorK8
import Derived.Test.YtjclgoiclbkgjaaGreatDoorK7
/- Walks of package grid: split. -/
namespace Go.Proofs.YtjclgoiclbkgjaaGreatDoor
open Go.RowKit
attribute [local go_sem ↓] Go.wp_at_zero Go.wp_at_succ

theorem spAt_start (w : World) : SpAt w.heap.size (w.heap.size + 1) ((w.alloc (.cells #[.slice none 0 0, .bool false] 77)).alloc (.cells #[.slice (some ⟨w.heap.size, 0, none⟩) 1 1] 57)) (.slice (some ⟨w.heap.size, 0, none⟩) 1 1) [] (.slice none 0 0) [] noR := by
  have h1 := blk_alloc (blk_new w (.cells #[.slice none 0 0, .bool false] 77)) (.cells #[.slice (some ⟨w.heap.size, 0, none⟩) 1 1] 57)
  have h2 := blk_new2 w (.cells #[.slice none 0 0, .bool false] 77) (.cells #[.slice (some ⟨w.heap.size, 0, none⟩) 1 1] 57)
  refine ⟨h2, ⟨rfl, .inr ⟨w.heap.size, 0, 1, rfl, Nat.le_refl _, by simp; omega, Nat.le_refl _, by decide, fun j hj => ?_, fun j u hu => ?_⟩⟩, ?_, rfl, fun x hx => by simp at hx, ownC_nil _ _ _, by simp, fun x hx => by simp at hx, fun q hq => by simp [Value.ownBlock] at hq⟩
  · rw [Nat.zero_add]
    refine ⟨?_, blk_free h1 j⟩
    rw [blk_cell h1 j]
    have : j = 0 ∨ j = 1 := by omega
    rcases this with rfl | rfl <;> rfl
  · rw [Nat.zero_add, blk_cell h1 j]
    have e : rowVals ([] ++ [(Value.slice none 0 0, noR)]) = [.slice none 0 0, .bool false] := rfl
    rw [e] at hu
    simpa using hu
  · simp [Value.ownBlock]
theorem blankP_any (w : World) : Calls Tryz.prog 84 #[plainS.val] w fun e w' => e = .returned (.agg #[.int .i32 32, .int .i64 1, .int .i64 (-1), .int .i64 (-1), .int .i64 0]) ∧ Below w.heap.size w w' := blank_any plainS w
theorem reads_cel (w : World) (a b c d e : Value) (T : TypeId) : Reads (w.alloc (.cells #[a, b, c, d, e] T)) 5 (.slice (some ⟨w.heap.size, 0, none⟩) 1 1) 1 [a, b, c, d, e] := by
  refine .inr ⟨⟨w.heap.size, 0, none⟩, 1, rfl, rfl, fun j u hu => ?_⟩
  rw [add_eq, Nat.zero_add, World.cell?_alloc_new]
  simpa using hu
theorem cel_one (a b c d e : Int) : ∀ u ∈ [Value.int .i32 a, .int .i64 b, .int .i64 c, .int .i64 d, .int .i64 e], u.oneCell' = true := cvals_one' ⟨a, b, ⟨c, d, e⟩⟩
theorem reads_row2 (w : World) (v : Value) (b : Bool) (T : TypeId) (n : Nat) (hn : w.heap.size = n) : Reads (w.alloc (.cells #[v, .bool b] T)) 2 (.slice (some ⟨n, 0, none⟩) 1 1) 1 [v, .bool b] := hn ▸ reads_row w v b T
theorem SpS.push {w : World} {pb : Nat} {px py was : Int} {wr w2 w3 : World} {v lv lv' : Value} {D : List (Value × Rw)} {done : List Rw} {r : Rw} {told : Option (Int × Int)} (h : SpS w pb px py was wr v D lv done r told) (hpb : pb < w.heap.size) {b off c : Nat} (hv : v = .slice (some ⟨b, off, none⟩) (D.length + 1) c) (bl : Below wr.heap.size wr w2) {x : Cel}
    (o3 : OwnC w3 (w.heap.size + 1 + 1) 5 lv' (r.cells.length + 1) (cvals r.cells ++ x.vals)) (g : w2.grownBy w3 lv.ownBlock) (hn : ∀ k, lv'.ownBlock = some k → lv.ownBlock = some k ∨ w2.heap.size ≤ k) :
    SpS w pb px py was (w3.setCell ⟨b, off + D.length * 2, none⟩ lv') v D lv' done ⟨r.cells ++ [x], r.wrap⟩ told := by
  have hvb : v.ownBlock = some b := by rw [hv]; rfl
  have hb := ownC_lt h.sp.own b hvb
  have hlv : ∀ q, lv.ownBlock = some q → w.heap.size + 1 + 1 ≤ q := fun q hq => (ownC_lt h.sp.last q hq).1
  exact ⟨gb_set_new (gb_trans_new (gb_below h.gb bl h.gb.size) g (fun q hq => by have := hlv q hq; omega)) hb.1 _ _,
    blk_set_other (blk_grown (blk_below h.pk bl (heap_lt h.pk)) g (fun e => by have := hlv pb e.symm; omega)) (by omega) _ _, h.sp.push hv bl o3 g hn⟩
/-- How many cells the row has that is being filled. -/
def curLen (wr : World) (o : Nat) : Nat := match wr.cell? ⟨o, 0, none⟩ with
  | some (.slice (some a) n _) => (match wr.cell? ⟨a.block, a.off + (n - 1) * 2, none⟩ with
    | some (.slice _ m _) => m
    | _ => 0)
  | _ => 0
theorem curLen_sp {B o : Nat} {w : World} {v lv : Value} {D : List (Value × Rw)} {done : List Rw} {r : Rw} (h : SpAt B o w v D lv done r) : curLen w o = r.cells.length := by
  obtain ⟨b, off, c, rfl, _, _, z0, _, z2, _, _, _, _, _, _⟩ := h.cellsx
  obtain ⟨a, m, rfl⟩ := ownC_sl h.last
  unfold curLen
  rw [z0]
  simp only [Nat.add_sub_cancel]
  rw [z2]
theorem beqI (a b : Int) : (a == b) = decide (a = b) := by
  rw [Bool.eq_iff_iff]; simp
set_option maxRecDepth 100000 in
set_option maxHeartbeats 8000000 in
theorem split_any (l : List Cel) (cols : Nat) (mark : Int) (lv : Value) (w : World) (wb pb was : Nat) (px py : Int) (hl : OwnC w 0 5 lv l.length (cvals l)) (hlp : lv.ownBlock ≠ some pb) (hwb : w.cell? ⟨wb, 0, none⟩ = some (.int .i64 was)) (hwp : wb ≠ pb)
    (hp : w.heap[pb]? = some (.cells #[.int .i64 px, .int .i64 py] 51 (0, 0))) (hc1 : 1 ≤ cols) (hc2 : cols ≤ 250) (hn : l.length ≤ 10000000) (hwas : was ≤ 100000000) :
    Calls Tryz.prog 82 #[lv, .int .i64 cols, .int .i64 mark, .func (.func 83) #[] #[.pointer (some ⟨wb, 0, none⟩), .pointer (some ⟨pb, 0, none⟩)]] w fun e w' => ∃ v L, e = .returned v ∧ w.grownBy w' (some pb) ∧ RowsAt w.heap.size w' v L ∧
      L.map (·.2) = spEnd cols (splitG l cols mark) ∧ w'.heap[pb]? = some (.cells #[.int .i64 (tellX (splitG l cols mark).told px), .int .i64 (tellY (splitG l cols mark).told py was)] 51 (0, 0)) := by
  have hmf : ∀ (fn : Fn) (first cap : Array Value) (w : World), (Instr.makeFunc fn first cap).run Tryz.prog w = .ok (.func fn first cap) w := fun _ _ _ _ => rfl
  have HL := Lib.hid hl
  have hpbl := heap_lt hp
  have HS0 := Lib.hid (show SpS w pb px py was ((w.alloc (.cells #[.slice none 0 0, .bool false] 77)).alloc (.cells #[.slice (some ⟨w.heap.size, 0, none⟩) 1 1] 57)) (.slice (some ⟨w.heap.size, 0, none⟩) 1 1) [] (.slice none 0 0) [] noR none from
    ⟨gb_alloc (gb_alloc (gb_refl _ _) _) _, blk_alloc (blk_alloc hp _) _, spAt_start w⟩)
  have HWB := Lib.hid hwb
  have HLP := Lib.hid hlp
  obtain ⟨la, lc, rfl⟩ := ownC_sl hl
  have hlen := ownC_ln Tryz.underlying42 hl
  clear hl hlp hp hwb
  go_enter Tryz.func82, Tryz.ntmps82
  go_upto_region 4 with fail
  go_loopw [11, 12, 18] (fun _ _ iv wr => ∃ (k : Nat) (v : Value) (D : List (Value × Rw)) (xv : Value), k ≤ l.length ∧ iv = .int .i64 k ∧
    Hid (SpS w pb px py was wr v D xv (spRun cols mark ⟨[], [], none⟩ 0 (l.take k)).done ⟨(spRun cols mark ⟨[], [], none⟩ 0 (l.take k)).cur, false⟩ (spRun cols mark ⟨[], [], none⟩ 0 (l.take k)).told) ∧
    Hid ((spRun cols mark ⟨[], [], none⟩ 0 (l.take k)).cur.length ≤ cols ∧ (spRun cols mark ⟨[], [], none⟩ 0 (l.take k)).done.length ≤ k)) (fun _ _ iv _ => l.length - (intOf iv).toNat)
  case atStart => exact ⟨0, _, [], _, Nat.zero_le _, rfl, HS0.out, Nat.zero_le _, Nat.le_refl _⟩
  case round =>
    obtain ⟨k, v, D, xv, hk, rfl, HS, HB⟩ := hrel
    by_cases hlt : k < l.length
    · have HRS := Lib.hid (spRun_snoc cols mark (l.take k) (l.getD k noC) ⟨[], [], none⟩ 0)
      have HTK := Lib.hid (take_succ_getD l noC k hlt)
      have hlk : (l.take k).length = k := by rw [List.length_take]; omega
      have HLK := Lib.hid hlk
      clear hlk
      generalize hst : spRun cols mark ⟨[], [], none⟩ 0 (l.take k) = st at *
      have HST := Lib.hid hst
      clear hst
      have ho := ownC_grown HL.out HS.out.gb (fun q hq e => HLP.out (by rw [hq, e]))
      obtain ⟨b', off', c', e2, _, _⟩ := ownC_pos ho (by omega)
      simp only [Value.slice.injEq] at e2
      obtain ⟨e3, _, e4⟩ := e2
      subst e3 e4
      obtain ⟨q0, q1, q2, q3, q4⟩ := ownC_cel ho k (by omega) rfl
      have hix := idx_at (P := Tryz.prog) (size := 5) Tryz.underlying42 cell_info b' off' l.length lc k hlt
      clear ho
      have HNX := Lib.hid (show spRun cols mark ⟨[], [], none⟩ 0 (l.take (k + 1)) = spStep cols mark st (0 + k) (l.getD k noC) by rw [HTK.out, HRS.out, HLK.out])
      clear HRS HTK
      have d1 : decide ((k : Int) < (l.length : Int)) = true := decide_eq_true (by omega)
      have d1' : decide (k < l.length) = true := decide_eq_true hlt
      generalize l.getD k noC = cc at *
      obtain ⟨cr, cw, cs⟩ := cc
      obtain ⟨cf, cb, ca⟩ := cs
      dsimp only at q0 q1 q2 q3 q4
      have HSA := Lib.hid (HS.out.below (Below.alloc (Below.refl wr.heap.size wr) (Nat.le_refl _) (.cells #[.int .i32 cr, .int .i64 cw, .int .i64 cf, .int .i64 cb, .int .i64 ca] 38)))
      have HKA := Lib.hid (blk_new wr (.cells #[.int .i32 cr, .int .i64 cw, .int .i64 cf, .int .i64 cb, .int .i64 ca] 38))
      have HBA := Lib.hid (Below.alloc (Below.refl wr.heap.size wr) (Nat.le_refl _) (.cells #[.int .i32 cr, .int .i64 cw, .int .i64 cf, .int .i64 cb, .int .i64 ca] 38))
      have hsr := HS.out.gb.size
      have hso : w.heap.size + 1 < wr.heap.size := heap_lt HS.out.sp.blk
      go_upto_region 6 with fail
      go_cut [29] (fun v wx => (∃ f, v = .bool f ∧ Hid (f = (decide (cols = 1) && !decide (cw = 1)))) ∧ wx = wr.alloc (.cells #[.int .i32 cr, .int .i64 cw, .int .i64 cf, .int .i64 cb, .int .i64 ca] 38))
      case first =>
        by_cases h1 : cols = 1
        · have HH := Lib.hid h1
          have t1 : ((cols : Int) == 1) = true := by rw [h1]; rfl
          have t2 : decide ((cols : Int) = 1) = true := decide_eq_true (by omega)
          clear h1
          by_cases h2 : cw = 1
          · have HH2 := Lib.hid h2
            have t3 : (cw == 1) = true := by rw [h2]; rfl
            have t4 : decide (cw = 1) = true := decide_eq_true h2
            clear h2
            go_wp2_with fail
            go_meet
            exact ⟨⟨_, rfl, by show _ = _; simp [HH.out, HH2.out]⟩, rfl⟩
          · have t3 : (cw == 1) = false := beq_eq_false_iff_ne.2 h2
            have t4 : decide (cw = 1) = false := decide_eq_false h2
            have HH2 := Lib.hid h2
            clear h2
            go_wp2_with fail
            go_meet
            exact ⟨⟨_, rfl, by show _ = _; simp [HH.out, HH2.out]⟩, rfl⟩
        · have HH := Lib.hid h1
          have t1 : ((cols : Int) == 1) = false := beq_eq_false_iff_ne.2 (by omega)
          have t2 : decide ((cols : Int) = 1) = false := decide_eq_false (by omega)
          clear h1
          go_wp2_with fail
          go_meet
          exact ⟨⟨_, rfl, by show _ = _; simp [HH.out]⟩, rfl⟩
      case rest =>
        obtain ⟨⟨f, rfl, HF⟩, rfl⟩ := hcut
        have hsA : (wr.alloc (.cells #[.int .i32 cr, .int .i64 cw, .int .i64 cf, .int .i64 cb, .int .i64 ca] 38)).heap.size = wr.heap.size + 1 := by simp
        clear q0 q1 q2 q3 q4 hix
        go_upto_if 29 with fail
        generalize wr.alloc (.cells #[.int .i32 cr, .int .i64 cw, .int .i64 cf, .int .i64 cb, .int .i64 ca] 38) = wa at *
        have HC0 := Lib.hid hsA
        have hcb : wr.heap.size < wa.heap.size := by omega
        clear hsA
        have HDL := Lib.hid (show D.length = st.done.length by rw [← HS.out.sp.dn, List.length_map])
        go_cut [12] (fun pv wx => pv = .pointer (some ⟨wr.heap.size, 0, none⟩) ∧ ∃ c' : Cel, Hid (spStep cols mark st (0 + k) ⟨cr, cw, ⟨cf, cb, ca⟩⟩ = spLay cols mark st k c') ∧ Hid (SpS w pb px py was wx v D xv st.done ⟨st.cur, false⟩ st.told) ∧
          Hid (wx.heap[wr.heap.size]? = some (.cells #[.int .i32 c'.rune, .int .i64 c'.width, .int .i64 c'.sty.fg, .int .i64 c'.sty.bg, .int .i64 c'.sty.attr] 38 (0, 0))))
        case first =>
          cases f
          · go_wp2_with fail
            go_meet
            refine ⟨rfl, ⟨cr, cw, ⟨cf, cb, ca⟩⟩, ?_, HSA, HKA⟩
            show spStep _ _ _ _ _ = _
            unfold spStep
            rw [if_neg (fun e => by
              have := HF.out
              rw [decide_eq_true e.1, decide_eq_false e.2] at this
              exact absurd this (by decide)), Nat.zero_add]
          · have hbo : cols = 1 ∧ cw ≠ 1 := by
              have := HF.out
              simp at this
              exact this
            have HBO := Lib.hid hbo
            clear hbo
            have a0 : wa.cell? ⟨wr.heap.size, 0, none⟩ = some (.int .i32 cr) := blk_cell HKA.out 0
            have a1 : wa.cell? ⟨wr.heap.size, 1, none⟩ = some (.int .i64 cw) := blk_cell HKA.out 1
            have a2 : wa.cell? ⟨wr.heap.size, 2, none⟩ = some (.int .i64 cf) := blk_cell HKA.out 2
            have a3 : wa.cell? ⟨wr.heap.size, 3, none⟩ = some (.int .i64 cb) := blk_cell HKA.out 3
            have a4 : wa.cell? ⟨wr.heap.size, 4, none⟩ = some (.int .i64 ca) := blk_cell HKA.out 4
            by_cases h0 : cw = 0
            · have H0 := Lib.hid h0
              have t3 : (cw == 0) = true := by rw [h0]; rfl
              have t4 : decide (cw = 0) = true := decide_eq_true h0
              clear h0
              by_cases hm : (k : Int) = mark
              · have HM := Lib.hid hm
                have t5 : ((k : Int) == mark) = true := beq_iff_eq.2 hm
                have t6 : decide ((k : Int) = mark) = true := decide_eq_true hm
                clear hm
                have HE := Lib.hid (show spStep cols mark st (0 + k) ⟨cr, cw, ⟨cf, cb, ca⟩⟩ = ⟨st.done, st.cur, some ((st.cur.length : Int) - 1, (st.done.length : Int))⟩ by
                  unfold spStep
                  rw [if_pos HBO.out, if_pos H0.out, if_pos (by rw [Nat.zero_add]; exact HM.out)])
                obtain ⟨b, off, c, rfl, hn1, hn2, z0, z1, z2, z3, z4, z5, hbl, hbo, hBb⟩ := HSA.out.sp.cellsx
                have hlst : OwnC wa (w.heap.size + 1 + 1) 5 xv st.cur.length (cvals st.cur) := HSA.out.sp.last
                obtain ⟨xa, xc, rfl⟩ := ownC_sl hlst
                have hlx := ownC_ln Tryz.underlying42 hlst
                have hlv := ownC_ln Tryz.underlying57 HSA.out.sp.own
                have hDk : D.length ≤ 100000000 := by have := HDL.out; have := HB.out.2; omega
                have hcl : st.cur.length ≤ 250 := by have := HB.out.1; omega
                have hw1 : IntKind.i64.wrap ((st.cur.length : Int) - 1) = (st.cur.length : Int) - 1 := wrap64_id _ (by omega) (by omega)
                have hw2 : IntKind.i64.wrap (((D.length + 1 : Nat) : Int) - 1) = (D.length : Int) := by rw [wrap64_id _ (by omega) (by omega)]; omega
                have hw3 : IntKind.i64.wrap ((D.length : Int) + 1 - 1) = (D.length : Int) := by rw [wrap64_id _ (by omega) (by omega)]; omega
                have hw4 : IntKind.i64.wrap (D.length : Int) = (D.length : Int) := wrap64_id _ (by omega) (by omega)
                have hwa : wa.cell? ⟨wb, 0, none⟩ = some (.int .i64 was) := cell_grown HSA.out.gb HWB.out (fun e => hwp (by injection e with e; exact e.symm))
                have HPK := Lib.hid HSA.out.pk
                have hn3 : w.heap.size + 1 ≠ pb := by omega
                have hn4 : b ≠ pb := by omega
                clear hlst
                go_upto_region 9 with fail
                go_region_held3 (fun w' => w'.cell? ⟨w.heap.size + 1, 0, none⟩ = some (.slice (some ⟨b, off, none⟩) (D.length + 1) c) ∧ w'.cell? ⟨b, off + D.length * 2, none⟩ = some (.slice xa st.cur.length xc)) (go_keep)
                  (first
                    | (go_at_call 92
                       refine (now_any (w.heap.size + 1) b off D.length c wa.drew z0 hDk).mono ?_
                       rintro e w5 ⟨rfl, rfl⟩)
                    | (go_at_call 83
                       refine (tell_any wb pb _ _ was _ _ wa.drew hwa HPK.out (by omega) (by omega)).mono ?_
                       rintro e w6 ⟨rfl, g6, k6⟩
                       have y0 := cell_grown g6 z0 (by intro e; injection e with e; exact hn3 e.symm)
                       have y2 := cell_grown g6 z2 (by intro e; injection e with e; exact hn4 e.symm)
                       have HG6 := Lib.hid g6
                       have HK6 := Lib.hid k6
                       clear g6 k6))
                have HS6 := Lib.hid (HSA.out.tell hpbl _ _ (gb_trans (gb_drew (gb_refl wa (some pb))) HG6.out) HK6.out)
                clear y0 y2 z0 z1 z2 z3 z4 z5 hwa hw1 hw2 hw3 hw4 hlx hlv
                go_wp2_with fail
                go_roundw
                case rel =>
                  refine ⟨k + 1, .slice (some ⟨b, off, none⟩) (D.length + 1) c, D, .slice xa st.cur.length xc, by omega, by go_num, ?_, ?_⟩
                  · rw [HNX.out, HE.out]
                    have := HS6.out
                    rw [HDL.out] at this
                    first | exact this | (rw [HDL.out]; exact this)
                  · rw [HNX.out, HE.out]
                    exact ⟨HB.out.1, by have := HB.out.2; show st.done.length ≤ k + 1; omega⟩
                case measure => simp [intOf]; omega
              · have HM := Lib.hid hm
                have t5 : ((k : Int) == mark) = false := beq_eq_false_iff_ne.2 hm
                have t6 : decide ((k : Int) = mark) = false := decide_eq_false hm
                clear hm
                have HE := Lib.hid (show spStep cols mark st (0 + k) ⟨cr, cw, ⟨cf, cb, ca⟩⟩ = ⟨st.done, st.cur, st.told⟩ by
                  unfold spStep
                  rw [if_pos HBO.out, if_pos H0.out, if_neg (by rw [Nat.zero_add]; exact HM.out)])
                go_wp2_with fail
                go_roundw
                case rel =>
                  refine ⟨k + 1, v, D, xv, by omega, by go_num, ?_, ?_⟩
                  · rw [HNX.out, HE.out]; exact HSA
                  · rw [HNX.out, HE.out]
                    exact ⟨HB.out.1, by have := HB.out.2; show st.done.length ≤ k + 1; omega⟩
                case measure => simp [intOf]; omega
            · have H0 := Lib.hid h0
              have t3 : (cw == 0) = false := beq_eq_false_iff_ne.2 h0
              have t4 : decide (cw = 0) = false := decide_eq_false h0
              clear h0
              go_upto_region 10 with fail
              go_wp2_with fail
              refine (blank_any ⟨cf, cb, ca⟩ wa).mono ?_
              rintro e w5 ⟨rfl, b5⟩
              have hk5 := blk_below HKA.out b5 hcb
              have hst := run_storeVar_row (P := Tryz.prog) w5 wr.heap.size 38 38 _ #[.int .i32 32, .int .i64 1, .int .i64 cf, .int .i64 cb, .int .i64 ca] hk5 cell_info rfl (by simp [Value.oneCell'])
              have HK6 := Lib.hid (setRow_blk (cells := #[.int .i32 32, .int .i64 1, .int .i64 cf, .int .i64 cb, .int .i64 ca]) hk5)
              have HS6 := Lib.hid (HS.out.below (below_row (HBA.out.trans (b5.mono (by omega))) (g := wr.heap.size) (Nat.le_refl _) #[.int .i32 32, .int .i64 1, .int .i64 cf, .int .i64 cb, .int .i64 ca]))
              clear b5 hk5
              go_wp2_with (refine wpList_storeR rfl _ _ _ rfl hst rfl rfl ?_)
              go_meet
              refine ⟨rfl, ⟨32, 1, ⟨cf, cb, ca⟩⟩, ?_, HS6, HK6⟩
              show spStep _ _ _ _ _ = _
              unfold spStep
              rw [if_pos HBO.out, if_neg H0.out, Nat.zero_add]
              rfl
        case rest =>
          obtain ⟨rfl, c', HSE, HS1, HK1⟩ := hcut
          have HNX1 := Lib.hid (HNX.out.trans HSE.out)
          have hsw := HS1.out.gb.size
          have HC1 := Lib.hid (show SpC w pb px py was wr.heap.size c' wc v D xv st.done ⟨st.cur, false⟩ st.told from ⟨HS1.out, HK1.out, fun e => by have := (ownC_lt HS.out.sp.own _ e).2; omega, fun e => by have := (ownC_lt HS.out.sp.last _ e).2; omega, hso, hpbl⟩)
          clear HSE HS1 HK1 HNX HSA HKA HBA HF HS
          have hcb0 : w.heap.size + 1 < wr.heap.size := hso
          generalize hcbb : wr.heap.size = cb at *
          clear hcbb
          obtain ⟨b, off, c, rfl, hn1, hn2, z0, z1, z2, z3, z4, z5, hbl, hbo, hBb⟩ := HC1.out.s.sp.cellsx
          have hlst : OwnC wc (w.heap.size + 1 + 1) 5 xv st.cur.length (cvals st.cur) := HC1.out.s.sp.last
          obtain ⟨xa, xc, rfl⟩ := ownC_sl hlst
          have HLST := Lib.hid hlst
          have hlx := ownC_ln Tryz.underlying42 hlst
          have hDk : D.length ≤ 100000000 := by have := HDL.out; have := HB.out.2; omega
          have hcl : st.cur.length ≤ 250 := by have := HB.out.1; omega
          have hwc1 : IntKind.i64.wrap ((cols : Int) - 1) = (cols : Int) - 1 := wrap64_id _ (by omega) (by omega)
          clear hlst
          go_upto_region 11 with fail
          go_cut [64] (fun vv wx => (∃ f, vv = .bool f ∧ Hid (f = (decide (c'.width = 2) && decide (st.cur.length = cols - 1)))) ∧ wx = wc)
          case first =>
            obtain ⟨a0, a1, a2, a3, a4⟩ := HC1.out.cellc
            by_cases h2 : c'.width = 2
            · have HH2 := Lib.hid h2
              have t3 : (c'.width == 2) = true := by rw [h2]; rfl
              have t4 : decide (c'.width = 2) = true := decide_eq_true h2
              generalize c'.width = cw' at *
              clear h2
              go_wp2_with fail
              refine (now_any (w.heap.size + 1) b off D.length c _ z0 hDk).mono ?_
              rintro e w5 ⟨rfl, rfl⟩
              go_wp2_with fail
              go_meet
              refine ⟨⟨_, rfl, ?_⟩, rfl⟩
              show _ = _
              rw [decide_eq_true HH2.out, beqI, Bool.eq_iff_iff]
              simp; omega
            · have HH2 := Lib.hid h2
              have t3 : (c'.width == 2) = false := beq_eq_false_iff_ne.2 h2
              have t4 : decide (c'.width = 2) = false := decide_eq_false h2
              generalize c'.width = cw' at *
              clear h2
              go_wp2_with fail
              go_meet
              exact ⟨⟨_, rfl, by show _ = _; rw [decide_eq_false HH2.out]; rfl⟩, rfl⟩
          case rest =>
            obtain ⟨⟨f, rfl, HF⟩, rfl⟩ := hcut
            go_upto_if 64 with fail
            go_cut [12] (fun pv wx => pv = .pointer (some ⟨cb, 0, none⟩) ∧ ∃ (v1 xv2 : Value) (cur1 : List Cel), Hid (cur1 = if c'.width = 2 ∧ st.cur.length = cols - 1 then st.cur ++ [blankC plainS] else st.cur) ∧
              Hid (SpC w pb px py was cb c' wx v1 D xv2 st.done ⟨cur1, false⟩ st.told))
            case first =>
              cases f
              · go_wp2_with fail
                go_meet
                refine ⟨rfl, _, _, st.cur, ?_, HC1⟩
                show _ = _
                rw [if_neg (fun e => by
                  have := HF.out
                  rw [decide_eq_true e.1, decide_eq_true e.2] at this
                  exact absurd this (by decide))]
              · have HE := Lib.hid (show c'.width = 2 ∧ st.cur.length = cols - 1 by
                  have := HF.out
                  simp at this
                  exact this)
                have HZ := Lib.hid HC1.out.s.sp.blk
                go_upto_region 12 with fail
                refine wpL_begin (c := 10) (S := (fun bb w' => w'.cell? ⟨w.heap.size + 1, 0, none⟩ = some (.slice (some ⟨b, off, none⟩) (D.length + 1) c) ∧ (bb = false → w'.cell? ⟨b, off + D.length * 2, none⟩ = some (.slice xa st.cur.length xc)))) (by kernel_rfl) (⟨z0, fun _ => z2⟩) (fun _ => ?_)
                refine wpL_tk false 0 (⟨z0, fun _ => z2⟩) ?_
                refine wpL_tk false 2 (⟨z0, fun _ => z2⟩) ?_
                refine wpL_on false 1 fun K hK => ?_
                refine wanted_on rfl ?_
                go_wp2_with fail
                refine (now_any (w.heap.size + 1) b off D.length c wc.drew z0 hDk).mono ?_
                rintro e w4 ⟨rfl, rfl⟩
                refine hK.out _ _ (⟨z0, fun _ => z2⟩) (fun _ => ?_)
                clear hK K 
                try simp only [Act.put, List.setIfInBounds_toArray, List.set_cons_zero, List.set_cons_succ]
                refine wpL_on false 3 fun K hK => ?_
                refine wanted_on rfl ?_
                go_wp2_with fail
                refine (now_any (w.heap.size + 1) b off D.length c wc.drew z0 hDk).mono ?_
                rintro e w4 ⟨rfl, rfl⟩
                refine hK.out _ _ (⟨z0, fun _ => z2⟩) (fun _ => ?_)
                clear hK K 
                try simp only [Act.put, List.setIfInBounds_toArray, List.set_cons_zero, List.set_cons_succ]
                refine wpL_tk false 4 (⟨z0, fun _ => z2⟩) ?_
                refine wpL_tk false 5 (⟨z0, fun _ => z2⟩) ?_
                refine wpL_td 6 (⟨z0, fun _ => z2⟩) ?_
                refine wpL_on false 7 fun K hK => ?_
                refine wanted_on rfl ?_
                go_wp2_with fail
                refine (plain_any _).mono ?_
                rintro e w5 ⟨rfl, b5⟩
                have z05 : w5.cell? ⟨w.heap.size + 1, 0, none⟩ = some (.slice (some ⟨b, off, none⟩) (D.length + 1) c) := cell_below b5 z0
                have z25 : w5.cell? ⟨b, off + D.length * 2, none⟩ = some (.slice xa st.cur.length xc) := cell_below b5 z2
                have HB5 := Lib.hid (show Below wc.heap.size wc w5 from (Below.refl wc.heap.size wc).drew.trans b5)
                refine hK.out _ _ (⟨z05, fun _ => z25⟩) (fun _ => ?_)
                clear hK K b5
                try simp only [Act.put, List.setIfInBounds_toArray, List.set_cons_zero, List.set_cons_succ]
                refine wpL_on false 8 fun K hK => ?_
                refine wanted_on rfl ?_
                go_wp2_with fail
                refine (blankP_any _).mono ?_
                rintro e w6 ⟨rfl, b6⟩
                have z06 : w6.cell? ⟨w.heap.size + 1, 0, none⟩ = some (.slice (some ⟨b, off, none⟩) (D.length + 1) c) := cell_below b6 z05
                have z26 : w6.cell? ⟨b, off + D.length * 2, none⟩ = some (.slice xa st.cur.length xc) := cell_below b6 z25
                have HB6 := Lib.hid (HB5.out.trans (b6.mono HB5.out.size))
                refine hK.out _ _ (⟨z06, fun _ => z26⟩) (fun _ => ?_)
                clear hK K b6 z05 z25
                try simp only [Act.put, List.setIfInBounds_toArray, List.set_cons_zero, List.set_cons_succ]
                refine wpL_on false 9 fun K hK => ?_
                refine wanted_on rfl ?_
                go_wp2_with fail
                refine hK.out _ _ (⟨cell_below (Below.alloc (Below.refl w6.heap.size w6) (Nat.le_refl _) _) z06, fun _ => cell_below (Below.alloc (Below.refl w6.heap.size w6) (Nat.le_refl _) _) z26⟩) (fun _ => ?_)
                clear hK K 
                try simp only [Act.put, List.setIfInBounds_toArray, List.set_cons_zero, List.set_cons_succ]
                refine wpL_on true 10 fun K hK => ?_
                apply step_appS cells_elem
                case hgd => rfl
                case ho => rfl
                case hown => exact ownC_alloc (ownC_below HLST.out HB6.out) _
                case hs => rfl
                case hr => exact src_reads Tryz.underlying42 (reads_cel _ _ _ _ _ _ _) (cel_one _ _ _ _ _)
                case hx => rfl
                case h63 => unfold maxLen; omega
                case hbytes => omega
                case hbase => (have := HB6.out.size; simp; omega)
                intro v7 w7 o7 g7 n7
                obtain ⟨a7, c7, rfl⟩ := ownC_sl o7
                have z07 : w7.cell? ⟨w.heap.size + 1, 0, none⟩ = some (.slice (some ⟨b, off, none⟩) (D.length + 1) c) := cell_grown g7 (cell_below (Below.alloc (Below.refl w6.heap.size w6) (Nat.le_refl _) _) z06) (fun e => by have := (ownC_lt HLST.out _ e).1; omega)
                have z27 : w7.cell? ⟨b, off + D.length * 2, none⟩ = some (.slice xa st.cur.length xc) := cell_grown g7 (cell_below (Below.alloc (Below.refl w6.heap.size w6) (Nat.le_refl _) _) z26) (fun e => HC1.out.s.sp.apl b e rfl)
                have f27 : w7.frozen? ⟨b, off + D.length * 2, none⟩ = false := frozen_grown g7 (frozen_below (Below.alloc HB6.out HB6.out.size _) z2 z3) (cell_lt (cell_below (Below.alloc (Below.refl w6.heap.size w6) (Nat.le_refl _) _) z26)) (fun e => HC1.out.s.sp.apl b e rfl)
                have HO7 := Lib.hid o7
                have HG7 := Lib.hid g7
                have HN7 := Lib.hid n7
                refine hK.out _ _ (⟨z07, fun e => by cases e⟩) (fun _ => ?_)
                clear hK K o7 g7 n7 z06 z26
                try simp only [Act.put, List.setIfInBounds_toArray, List.set_cons_zero, List.set_cons_succ]
                refine wpL_tk true 11 (⟨z07, fun e => by cases e⟩) ?_
                refine wpL_tk true 12 (⟨z07, fun e => by cases e⟩) ?_
                refine wpL_on true 13 fun K hK => ?_
                refine wanted_on rfl ?_
                go_wp2_with fail
                refine hK.out _ _ (⟨cell_grown (gb_set (gb_refl _ _) _ _) z07 (fun e => hbo (by injection e)), fun e => by cases e⟩) (fun _ => ?_)
                clear hK K 
                try simp only [Act.put]
                refine wpL_done (by kernel_rfl) ?_ _
                go_wp2_with fail
                go_meet
                refine ⟨rfl, _, _, st.cur ++ [blankC plainS], ?_, HC1.out.push rfl (Below.alloc HB6.out HB6.out.size _) (x := blankC plainS) HO7.out HG7.out HN7.out⟩
                show _ = _
                rw [if_pos HE.out]
            case rest =>
              obtain ⟨rfl, v1, xv2, cur1, HCU, HC2⟩ := hcut
              clear HC1 HLST z0 z1 z2 z3 z4 z5 hlx hn1 hn2 hbl hbo hBb hwc1 HF
              obtain ⟨b, off, c, rfl, hn1, hn2, z0, z1, z2, z3, z4, z5, hbl, hbo, hBb⟩ := HC2.out.s.sp.cellsx
              have hlst : OwnC wc (w.heap.size + 1 + 1) 5 xv2 cur1.length (cvals cur1) := HC2.out.s.sp.last
              obtain ⟨xa, xc, rfl⟩ := ownC_sl hlst
              have HLST := Lib.hid hlst
              have hlx := ownC_ln Tryz.underlying42 hlst
              have hcc : cur1.length ≤ cols := by
                have h1 := HCU.out
                have h2 := HB.out.1
                rw [h1]
                split
                · rw [List.length_append]; simp; omega
                · exact h2
              clear hlst
              go_upto_region 13 with fail
              go_cut [85] (fun vv wx => (∃ f, vv = .bool f ∧ Hid (f = decide (cur1.length = cols))) ∧ wx = wc)
              case first =>
                go_wp2_with fail
                refine (now_any (w.heap.size + 1) b off D.length c _ z0 hDk).mono ?_
                rintro e w5 ⟨rfl, rfl⟩
                go_wp2_with fail
                go_meet
                refine ⟨⟨_, rfl, ?_⟩, rfl⟩
                show _ = _
                rw [beqI, Bool.eq_iff_iff]
                simp; omega
              case rest =>
                obtain ⟨⟨f, rfl, HF⟩, rfl⟩ := hcut
                go_upto_if 85 with fail
                go_cut [12] (fun pv wx => pv = .pointer (some ⟨cb, 0, none⟩) ∧ ∃ (v2 : Value) (D2 : List (Value × Rw)) (xv3 : Value) (done2 : List Rw) (cur2 : List Cel), Hid (done2 = (if cur1.length = cols then st.done ++ [⟨cur1, true⟩] else st.done) ∧ cur2 = (if cur1.length = cols then [] else cur1)) ∧
                  Hid (SpC w pb px py was cb c' wx v2 D2 xv3 done2 ⟨cur2, false⟩ st.told))
                case first =>
                  cases f
                  · have hne : ¬ cur1.length = cols := of_decide_eq_false HF.out.symm
                    have HNE := Lib.hid hne
                    clear hne
                    go_wp2_with fail
                    go_meet
                    exact ⟨rfl, _, D, _, st.done, cur1, ⟨by rw [if_neg HNE.out], by rw [if_neg HNE.out]⟩, HC2⟩
                  · have HE := Lib.hid (show cur1.length = cols from of_decide_eq_true HF.out.symm)
                    obtain ⟨qb, qo, qc, eqq, _, _⟩ := ownC_pos HLST.out (by have := HE.out; omega)
                    have HQ := Lib.hid (show (Value.slice xa cur1.length xc).ownBlock = some qb by rw [eqq]; rfl)
                    clear eqq
                    have HM := Lib.hid (HC2.out.mark rfl true)
                    have gset : wc.grownBy (wc.setCell ⟨b, off + D.length * 2 + 1, none⟩ (.bool true)) (some b) := gb_set (gb_refl _ _) _ _
                    have y0 := cell_grown gset z0 (fun e => hbo (by injection e))
                    have y1 := frozen_grown gset z1 (cell_lt z0) (fun e => hbo (by injection e))
                    have HY1 := Lib.hid y1
                    have HSZ := Lib.hid gset.size
                    clear gset y1
                    go_upto_region 14 with fail
                    go_wp2_with fail
                    refine (now_any (w.heap.size + 1) b off D.length c _ z0 hDk).mono ?_
                    rintro e w4 ⟨rfl, rfl⟩
                    go_wp2_with (at_builtin; refine held ?_)
                    unfold Held
                    refine wpList_appD rows_elem rfl rfl w.heap.size (ownC_alloc HM.out.s.sp.own _) rfl (reads_row2 _ _ _ _ _ (by simp)) rfl (row_one _ _ _ _) (by unfold maxLen; omega) (by omega) (by have := HSZ.out; simp; omega) ?_
                    intro v7 w7 o7 g7 n7
                    obtain ⟨a7, c7, rfl⟩ := ownC_sl o7
                    have z07 := cell_grown g7 (cell_below (Below.alloc (Below.refl _ _) (Nat.le_refl _) _) y0) (fun e => hbo (by injection e))
                    have f07 := frozen_grown g7 (frozen_below (Below.alloc (Below.refl _ _) (Nat.le_refl _) _) y0 HY1.out) (cell_lt (cell_below (Below.alloc (Below.refl _ _) (Nat.le_refl _) _) y0)) (fun e => hbo (by injection e))
                    have HO7 := Lib.hid o7
                    have HG7 := Lib.hid g7
                    have HN7 := Lib.hid n7
                    have HF7 := Lib.hid (HM.out.snoc HQ.out (Below.alloc (Below.refl _ _) (Nat.le_refl _) (.cells #[.slice none 0 0, .bool false] 77)) HO7.out HG7.out HN7.out)
                    clear o7 g7 n7 y0 z0 z1 z2 z3 z4 z5 hlx HY1 HSZ hcc hwas hn1 hn2 hbl HO7 HG7 HN7
                    go_wp2_with fail
                    go_meet
                    exact ⟨rfl, .slice a7 (D.length + 1 + 1) c7, D ++ [(.slice xa cur1.length xc, ⟨cur1, true⟩)], .slice none 0 0, st.done ++ [⟨cur1, true⟩], [], ⟨by rw [if_pos HE.out], by rw [if_pos HE.out]⟩, HF7⟩
                case rest =>
                  obtain ⟨rfl, v2, D2, xv3, done2, cur2, HDC, HC3⟩ := hcut
                  clear HC2 HLST z0 z1 z2 z3 z4 z5 hlx hn1 hn2 hbl hbo hBb HF
                  have hcl2 : cur2.length < cols := by
                    rw [HDC.out.2]
                    split
                    · exact hc1
                    · omega
                  have hdl2 : done2.length ≤ k + 1 := by
                    have h1 := HB.out.2
                    rw [HDC.out.1]
                    split
                    · rw [List.length_append]; simp; omega
                    · omega
                  have HDL2 := Lib.hid (show D2.length = done2.length by rw [← HC3.out.s.sp.dn, List.length_map])
                  have hDk2 : D2.length ≤ 100000000 := by have := HDL2.out; omega
                  obtain ⟨b, off, c, rfl, hn1, hn2, z0, z1, z2, z3, z4, z5, hbl, hbo, hBb⟩ := HC3.out.s.sp.cellsx
                  have hlst : OwnC wc (w.heap.size + 1 + 1) 5 xv3 cur2.length (cvals cur2) := HC3.out.s.sp.last
                  obtain ⟨xa, xc, rfl⟩ := ownC_sl hlst
                  have HLST := Lib.hid hlst
                  have hlx := ownC_ln Tryz.underlying42 hlst
                  have hlv := ownC_ln Tryz.underlying57 HC3.out.s.sp.own
                  clear hlst
                  go_upto_region 16 with fail
                  go_cut [96] (fun vv wx => (∃ f, vv = .bool f ∧ Hid (f = decide ((k : Int) = mark))) ∧ wx = wc)
                  case first =>
                    go_wp2_with fail
                    go_meet
                    refine ⟨⟨_, rfl, ?_⟩, rfl⟩
                    show _ = _
                    rw [beqI]
                  case rest =>
                    obtain ⟨⟨f, rfl, HF⟩, rfl⟩ := hcut
                    go_upto_if 96 with fail
                    go_cut [12] (fun pv wx => pv = .pointer (some ⟨cb, 0, none⟩) ∧ ∃ (told4 : Option (Int × Int)), Hid (told4 = if (k : Int) = mark then some ((cur2.length : Int), (done2.length : Int)) else st.told) ∧
                      Hid (SpC w pb px py was cb c' wx (.slice (some ⟨b, off, none⟩) (D2.length + 1) c) D2 (.slice xa cur2.length xc) done2 ⟨cur2, false⟩ told4))
                    case first =>
                      cases f
                      · have HNE := Lib.hid (show ¬ (k : Int) = mark from of_decide_eq_false HF.out.symm)
                        go_wp2_with fail
                        go_meet
                        exact ⟨rfl, st.told, by show _ = _; rw [if_neg HNE.out], HC3⟩
                      · have HE := Lib.hid (show (k : Int) = mark from of_decide_eq_true HF.out.symm)
                        have hw2 : IntKind.i64.wrap (((D2.length + 1 : Nat) : Int) - 1) = (D2.length : Int) := by rw [wrap64_id _ (by omega) (by omega)]; omega
                        have hw3 : IntKind.i64.wrap ((D2.length : Int) + 1 - 1) = (D2.length : Int) := by rw [wrap64_id _ (by omega) (by omega)]; omega
                        have hw4 : IntKind.i64.wrap (D2.length : Int) = (D2.length : Int) := wrap64_id _ (by omega) (by omega)
                        have hwa : wc.cell? ⟨wb, 0, none⟩ = some (.int .i64 was) := cell_grown HC3.out.s.gb HWB.out (fun e => hwp (by injection e with e; exact e.symm))
                        have HPK := Lib.hid HC3.out.s.pk
                        have hn3 : w.heap.size + 1 ≠ pb := by omega
                        have hn4 : b ≠ pb := by omega
                        go_upto_region 17 with fail
                        go_region_held3 (fun w' => w'.cell? ⟨w.heap.size + 1, 0, none⟩ = some (.slice (some ⟨b, off, none⟩) (D2.length + 1) c) ∧ w'.cell? ⟨b, off + D2.length * 2, none⟩ = some (.slice xa cur2.length xc)) (go_keep)
                          (first
                            | (go_at_call 92
                               refine (now_any (w.heap.size + 1) b off D2.length c wc.drew z0 hDk2).mono ?_
                               rintro e w5 ⟨rfl, rfl⟩)
                            | (go_at_call 83
                               refine (tell_any wb pb _ _ was _ _ wc.drew hwa HPK.out (by omega) (by omega)).mono ?_
                               rintro e w6 ⟨rfl, g6, k6⟩
                               have y0 := cell_grown g6 z0 (by intro e; injection e with e; exact hn3 e.symm)
                               have y2 := cell_grown g6 z2 (by intro e; injection e with e; exact hn4 e.symm)
                               have HG6 := Lib.hid g6
                               have HK6 := Lib.hid k6
                               clear g6 k6))
                        have HS6 := Lib.hid (HC3.out.tell _ _ (gb_trans (gb_drew (gb_refl wc (some pb))) HG6.out) HK6.out)
                        clear y0 y2 z0 z1 z2 z3 z4 z5 hwa hw2 hw3 hw4 hlx hlv
                        go_wp2_with fail
                        go_meet
                        refine ⟨rfl, _, ?_, HS6⟩
                        show _ = _
                        rw [if_pos HE.out, HDL2.out]
                    case rest =>
                      obtain ⟨rfl, told4, HT4, HC4⟩ := hcut
                      clear HC3 HLST z0 z1 z2 z3 z4 z5 HF hlv
                      have hsp := HC4.out.s.sp
                      obtain ⟨b2, off2, c2, e2, _, _, z0, z1, z2, z3, z4, z5, _, _, _⟩ := hsp.cellsx
                      simp only [Value.slice.injEq, Option.some.injEq, Addr.mk.injEq] at e2
                      obtain ⟨⟨e3, e4, _⟩, _, e5⟩ := e2
                      subst e3 e4 e5
                      have HLST := Lib.hid hsp.last
                      clear hsp
                      obtain ⟨a0, a1, a2, a3, a4⟩ := HC4.out.cellc
                      have hcbl : cb < wc.heap.size := heap_lt HC4.out.ck
                      have hne1 : b ≠ cb := fun e => HC4.out.v1 (by rw [← e]; rfl)
                      have HX1 := Lib.hid HC4.out.x1
                      have hco : cb ≠ w.heap.size + 1 := by omega
                      go_upto_region 18 with fail
                      have HBA := Lib.hid (show ∀ o, Below wc.heap.size wc (wc.alloc o).drew from fun o => (Below.alloc (Below.refl wc.heap.size wc) (Nat.le_refl _) o).drew)
                      have HSL := Lib.hid (show spLay cols mark st k c' = ⟨done2, cur2 ++ [c'], told4⟩ by
                        obtain ⟨e1, e2⟩ := HDC.out
                        have e3 := HT4.out
                        have e4 := HCU.out
                        subst e3 e1 e2 e4
                        rfl)
                      have HD18 := Lib.hid (show wc.drew.cell? ⟨w.heap.size + 1, 0, none⟩ = some (.slice (some ⟨b, off, none⟩) (D2.length + 1) c) ∧ wc.drew.cell? ⟨cb, 0, none⟩ = some (.int .i32 c'.rune) ∧ wc.drew.cell? ⟨cb, 1, none⟩ = some (.int .i64 c'.width) ∧ wc.drew.cell? ⟨cb, 2, none⟩ = some (.int .i64 c'.sty.fg) ∧ wc.drew.cell? ⟨cb, 3, none⟩ = some (.int .i64 c'.sty.bg) ∧ wc.drew.cell? ⟨cb, 4, none⟩ = some (.int .i64 c'.sty.attr) from ⟨z0, a0, a1, a2, a3, a4⟩)
                      have HA18 := Lib.hid (show ∀ o, (wc.alloc o).drew.cell? ⟨w.heap.size + 1, 0, none⟩ = some (.slice (some ⟨b, off, none⟩) (D2.length + 1) c) ∧ (wc.alloc o).drew.cell? ⟨cb, 0, none⟩ = some (.int .i32 c'.rune) ∧ (wc.alloc o).drew.cell? ⟨cb, 1, none⟩ = some (.int .i64 c'.width) ∧ (wc.alloc o).drew.cell? ⟨cb, 2, none⟩ = some (.int .i64 c'.sty.fg) ∧ (wc.alloc o).drew.cell? ⟨cb, 3, none⟩ = some (.int .i64 c'.sty.bg) ∧ (wc.alloc o).drew.cell? ⟨cb, 4, none⟩ = some (.int .i64 c'.sty.attr) from fun o => ⟨cell_below (HBA.out o) z0, cell_below (HBA.out o) a0, cell_below (HBA.out o) a1, cell_below (HBA.out o) a2, cell_below (HBA.out o) a3, cell_below (HBA.out o) a4⟩)
                      have HZD := Lib.hid (show wc.drew.cell? ⟨b, off + D2.length * 2, none⟩ = some (.slice xa cur2.length xc) from z2)
                      have HZA := Lib.hid (show ∀ o, (wc.alloc o).drew.cell? ⟨b, off + D2.length * 2, none⟩ = some (.slice xa cur2.length xc) from fun o => cell_below (HBA.out o) z2)
                      refine wpL_begin (c := 9) (S := (fun bb w' => (w'.cell? ⟨w.heap.size + 1, 0, none⟩ = some (.slice (some ⟨b, off, none⟩) (D2.length + 1) c) ∧ w'.cell? ⟨cb, 0, none⟩ = some (.int .i32 c'.rune) ∧ w'.cell? ⟨cb, 1, none⟩ = some (.int .i64 c'.width) ∧ w'.cell? ⟨cb, 2, none⟩ = some (.int .i64 c'.sty.fg) ∧ w'.cell? ⟨cb, 3, none⟩ = some (.int .i64 c'.sty.bg) ∧ w'.cell? ⟨cb, 4, none⟩ = some (.int .i64 c'.sty.attr)) ∧ (bb = false → w'.cell? ⟨b, off + D2.length * 2, none⟩ = some (.slice xa cur2.length xc)))) (by kernel_rfl) (⟨HD18.out, fun _ => HZD.out⟩) (fun _ => ?_)
                      refine wpL_tk false 0 (⟨HD18.out, fun _ => HZD.out⟩) ?_
                      refine wpL_tk false 2 (⟨HD18.out, fun _ => HZD.out⟩) ?_
                      refine wpL_tk false 7 (⟨HD18.out, fun _ => HZD.out⟩) ?_
                      refine wpL_tw false false 1 8 ?_ ?_
                      · intro K hK
                        refine wanted_on rfl ?_
                        go_wp2_with fail
                        refine (now_any (w.heap.size + 1) b off D2.length c wc.drew HD18.out.1 hDk2).mono ?_
                        rintro e w4 ⟨rfl, rfl⟩
                        refine hK.out _ _ (⟨HD18.out, fun _ => HZD.out⟩) (fun _ => ?_)
                        clear hK K 
                        try simp only [Act.put, List.setIfInBounds_toArray, List.set_cons_zero, List.set_cons_succ]
                        refine wpL_tw false false 3 8 ?_ ?_
                        · intro K hK
                          refine wanted_on rfl ?_
                          go_wp2_with fail
                          refine (now_any (w.heap.size + 1) b off D2.length c wc.drew HD18.out.1 hDk2).mono ?_
                          rintro e w4 ⟨rfl, rfl⟩
                          refine hK.out _ _ (⟨HD18.out, fun _ => HZD.out⟩) (fun _ => ?_)
                          clear hK K 
                          try simp only [Act.put, List.setIfInBounds_toArray, List.set_cons_zero, List.set_cons_succ]
                          refine wpL_tk false 4 (⟨HD18.out, fun _ => HZD.out⟩) ?_
                          refine wpL_tk false 5 (⟨HD18.out, fun _ => HZD.out⟩) ?_
                          refine wpL_td 6 (⟨HD18.out, fun _ => HZD.out⟩) ?_
                          refine wpL_on false 8 fun K hK => ?_
                          refine wanted_on rfl ?_
                          go_wp2_with fail
                          refine hK.out _ _ (⟨HA18.out _, fun _ => HZA.out _⟩) (fun _ => ?_)
                          clear hK K 
                          try simp only [Act.put, List.setIfInBounds_toArray, List.set_cons_zero, List.set_cons_succ]
                          refine wpL_on true 9 fun K hK => ?_
                          apply step_appS cells_elem
                          case hgd => rfl
                          case ho => rfl
                          case hown => exact ownC_below HLST.out (HBA.out _)
                          case hs => rfl
                          case hr => exact src_reads Tryz.underlying42 (reads_cel _ _ _ _ _ _ _) (cel_one _ _ _ _ _)
                          case hx => rfl
                          case h63 => unfold maxLen; omega
                          case hbytes => omega
                          case hbase => (have := HC4.out.s.gb.size; simp; omega)
                          intro v7 w7 o7 g7 n7
                          obtain ⟨a7, c7, rfl⟩ := ownC_sl o7
                          have z07 := cell_grown g7 (cell_below (HBA.out _) z0) (fun e => by have := (ownC_lt HLST.out _ e).1; omega)
                          have a07 := cell_grown g7 (cell_below (HBA.out _) a0) HX1.out
                          have a17 := cell_grown g7 (cell_below (HBA.out _) a1) HX1.out
                          have a27 := cell_grown g7 (cell_below (HBA.out _) a2) HX1.out
                          have a37 := cell_grown g7 (cell_below (HBA.out _) a3) HX1.out
                          have a47 := cell_grown g7 (cell_below (HBA.out _) a4) HX1.out
                          have z27 := cell_grown g7 (cell_below (HBA.out _) z2) (fun e => HC4.out.s.sp.apl b e rfl)
                          have f27 := frozen_grown g7 (frozen_below (HBA.out _) z2 z3) (cell_lt (cell_below (HBA.out _) z2)) (fun e => HC4.out.s.sp.apl b e rfl)
                          have HF7 := Lib.hid (HC4.out.push rfl (HBA.out _) (x := c') o7 g7 n7)
                          refine hK.out _ _ (⟨⟨z07, a07, a17, a27, a37, a47⟩, fun e => by cases e⟩) (fun _ => ?_)
                          clear hK K o7 g7 n7
                          try simp only [Act.put, List.setIfInBounds_toArray, List.set_cons_zero, List.set_cons_succ]
                          refine wpL_tk true 10 (⟨⟨z07, a07, a17, a27, a37, a47⟩, fun e => by cases e⟩) ?_
                          refine wpL_tk true 11 (⟨⟨z07, a07, a17, a27, a37, a47⟩, fun e => by cases e⟩) ?_
                          refine wpL_on true 12 fun K hK => ?_
                          refine wanted_on rfl ?_
                          go_wp2_with fail
                          refine hK.out _ _ (⟨⟨cell_grown (gb_set (gb_refl _ _) _ _) z07 (fun e => hbo (by injection e)), cell_grown (gb_set (gb_refl _ _) _ _) a07 (fun e => hne1 (by injection e)), cell_grown (gb_set (gb_refl _ _) _ _) a17 (fun e => hne1 (by injection e)), cell_grown (gb_set (gb_refl _ _) _ _) a27 (fun e => hne1 (by injection e)), cell_grown (gb_set (gb_refl _ _) _ _) a37 (fun e => hne1 (by injection e)), cell_grown (gb_set (gb_refl _ _) _ _) a47 (fun e => hne1 (by injection e))⟩, fun e => by cases e⟩) (fun _ => ?_)
                          clear hK K 
                          try simp only [Act.put]
                          refine wpL_done (by kernel_rfl) ?_ _
                          clear z0 z1 z2 z3 z4 z5 a0 a1 a2 a3 a4 z07 a07 a17 a27 a37 a47 z27 f27 hlx
                          go_wp2_with fail
                          go_roundw
                          case rel =>
                            refine ⟨k + 1, .slice (some ⟨b, off, none⟩) (D2.length + 1) c, D2, .slice a7 (cur2.length + 1) c7, by omega, by go_num, ?_, ?_⟩
                            · rw [HNX1.out, HSL.out]
                              exact HF7.out.s
                            · rw [HNX1.out, HSL.out]
                              refine ⟨?_, hdl2⟩
                              show (cur2 ++ [c']).length ≤ cols
                              rw [List.length_append]
                              exact hcl2
                          case measure => simp [intOf]; omega
                        · intro K hK
                          refine wanted_on rfl ?_
                          go_wp2_with fail
                          refine hK.out _ _ (⟨HA18.out _, fun _ => HZA.out _⟩) (fun _ => ?_)
                          clear hK K 
                          try simp only [Act.put, List.setIfInBounds_toArray, List.set_cons_zero, List.set_cons_succ]
                          refine wpL_on false 3 fun K hK => ?_
                          refine wanted_on rfl ?_
                          go_wp2_with fail
                          refine (now_any (w.heap.size + 1) b off D2.length c (wc.alloc _).drew (HA18.out _).1 hDk2).mono ?_
                          rintro e w4 ⟨rfl, rfl⟩
                          refine hK.out _ _ (⟨HA18.out _, fun _ => HZA.out _⟩) (fun _ => ?_)
                          clear hK K 
                          try simp only [Act.put, List.setIfInBounds_toArray, List.set_cons_zero, List.set_cons_succ]
                          refine wpL_tk false 4 (⟨HA18.out _, fun _ => HZA.out _⟩) ?_
                          refine wpL_tk false 5 (⟨HA18.out _, fun _ => HZA.out _⟩) ?_
                          refine wpL_td 6 (⟨HA18.out _, fun _ => HZA.out _⟩) ?_
                          refine wpL_on true 9 fun K hK => ?_
                          apply step_appS cells_elem
                          case hgd => rfl
                          case ho => rfl
                          case hown => exact ownC_below HLST.out (HBA.out _)
                          case hs => rfl
                          case hr => exact src_reads Tryz.underlying42 (reads_cel _ _ _ _ _ _ _) (cel_one _ _ _ _ _)
                          case hx => rfl
                          case h63 => unfold maxLen; omega
                          case hbytes => omega
                          case hbase => (have := HC4.out.s.gb.size; simp; omega)
                          intro v7 w7 o7 g7 n7
                          obtain ⟨a7, c7, rfl⟩ := ownC_sl o7
                          have z07 := cell_grown g7 (cell_below (HBA.out _) z0) (fun e => by have := (ownC_lt HLST.out _ e).1; omega)
                          have a07 := cell_grown g7 (cell_below (HBA.out _) a0) HX1.out
                          have a17 := cell_grown g7 (cell_below (HBA.out _) a1) HX1.out
                          have a27 := cell_grown g7 (cell_below (HBA.out _) a2) HX1.out
                          have a37 := cell_grown g7 (cell_below (HBA.out _) a3) HX1.out
                          have a47 := cell_grown g7 (cell_below (HBA.out _) a4) HX1.out
                          have z27 := cell_grown g7 (cell_below (HBA.out _) z2) (fun e => HC4.out.s.sp.apl b e rfl)
                          have f27 := frozen_grown g7 (frozen_below (HBA.out _) z2 z3) (cell_lt (cell_below (HBA.out _) z2)) (fun e => HC4.out.s.sp.apl b e rfl)
                          have HF7 := Lib.hid (HC4.out.push rfl (HBA.out _) (x := c') o7 g7 n7)
                          refine hK.out _ _ (⟨⟨z07, a07, a17, a27, a37, a47⟩, fun e => by cases e⟩) (fun _ => ?_)
                          clear hK K o7 g7 n7
                          try simp only [Act.put, List.setIfInBounds_toArray, List.set_cons_zero, List.set_cons_succ]
                          refine wpL_tk true 10 (⟨⟨z07, a07, a17, a27, a37, a47⟩, fun e => by cases e⟩) ?_
                          refine wpL_tk true 11 (⟨⟨z07, a07, a17, a27, a37, a47⟩, fun e => by cases e⟩) ?_
                          refine wpL_on true 12 fun K hK => ?_
                          refine wanted_on rfl ?_
                          go_wp2_with fail
                          refine hK.out _ _ (⟨⟨cell_grown (gb_set (gb_refl _ _) _ _) z07 (fun e => hbo (by injection e)), cell_grown (gb_set (gb_refl _ _) _ _) a07 (fun e => hne1 (by injection e)), cell_grown (gb_set (gb_refl _ _) _ _) a17 (fun e => hne1 (by injection e)), cell_grown (gb_set (gb_refl _ _) _ _) a27 (fun e => hne1 (by injection e)), cell_grown (gb_set (gb_refl _ _) _ _) a37 (fun e => hne1 (by injection e)), cell_grown (gb_set (gb_refl _ _) _ _) a47 (fun e => hne1 (by injection e))⟩, fun e => by cases e⟩) (fun _ => ?_)
                          clear hK K 
                          try simp only [Act.put]
                          refine wpL_done (by kernel_rfl) ?_ _
                          clear z0 z1 z2 z3 z4 z5 a0 a1 a2 a3 a4 z07 a07 a17 a27 a37 a47 z27 f27 hlx
                          go_wp2_with fail
                          go_roundw
                          case rel =>
                            refine ⟨k + 1, .slice (some ⟨b, off, none⟩) (D2.length + 1) c, D2, .slice a7 (cur2.length + 1) c7, by omega, by go_num, ?_, ?_⟩
                            · rw [HNX1.out, HSL.out]
                              exact HF7.out.s
                            · rw [HNX1.out, HSL.out]
                              refine ⟨?_, hdl2⟩
                              show (cur2 ++ [c']).length ≤ cols
                              rw [List.length_append]
                              exact hcl2
                          case measure => simp [intOf]; omega
                      · intro K hK
                        refine wanted_on rfl ?_
                        go_wp2_with fail
                        refine hK.out _ _ (⟨HA18.out _, fun _ => HZA.out _⟩) (fun _ => ?_)
                        clear hK K 
                        try simp only [Act.put, List.setIfInBounds_toArray, List.set_cons_zero, List.set_cons_succ]
                        refine wpL_on false 1 fun K hK => ?_
                        refine wanted_on rfl ?_
                        go_wp2_with fail
                        refine (now_any (w.heap.size + 1) b off D2.length c (wc.alloc _).drew (HA18.out _).1 hDk2).mono ?_
                        rintro e w4 ⟨rfl, rfl⟩
                        refine hK.out _ _ (⟨HA18.out _, fun _ => HZA.out _⟩) (fun _ => ?_)
                        clear hK K 
                        try simp only [Act.put, List.setIfInBounds_toArray, List.set_cons_zero, List.set_cons_succ]
                        refine wpL_on false 3 fun K hK => ?_
                        refine wanted_on rfl ?_
                        go_wp2_with fail
                        refine (now_any (w.heap.size + 1) b off D2.length c (wc.alloc _).drew (HA18.out _).1 hDk2).mono ?_
                        rintro e w4 ⟨rfl, rfl⟩
                        refine hK.out _ _ (⟨HA18.out _, fun _ => HZA.out _⟩) (fun _ => ?_)
                        clear hK K 
                        try simp only [Act.put, List.setIfInBounds_toArray, List.set_cons_zero, List.set_cons_succ]
                        refine wpL_tk false 4 (⟨HA18.out _, fun _ => HZA.out _⟩) ?_
                        refine wpL_tk false 5 (⟨HA18.out _, fun _ => HZA.out _⟩) ?_
                        refine wpL_td 6 (⟨HA18.out _, fun _ => HZA.out _⟩) ?_
                        refine wpL_on true 9 fun K hK => ?_
                        apply step_appS cells_elem
                        case hgd => rfl
                        case ho => rfl
                        case hown => exact ownC_below HLST.out (HBA.out _)
                        case hs => rfl
                        case hr => exact src_reads Tryz.underlying42 (reads_cel _ _ _ _ _ _ _) (cel_one _ _ _ _ _)
                        case hx => rfl
                        case h63 => unfold maxLen; omega
                        case hbytes => omega
                        case hbase => (have := HC4.out.s.gb.size; simp; omega)
                        intro v7 w7 o7 g7 n7
                        obtain ⟨a7, c7, rfl⟩ := ownC_sl o7
                        have z07 := cell_grown g7 (cell_below (HBA.out _) z0) (fun e => by have := (ownC_lt HLST.out _ e).1; omega)
                        have a07 := cell_grown g7 (cell_below (HBA.out _) a0) HX1.out
                        have a17 := cell_grown g7 (cell_below (HBA.out _) a1) HX1.out
                        have a27 := cell_grown g7 (cell_below (HBA.out _) a2) HX1.out
                        have a37 := cell_grown g7 (cell_below (HBA.out _) a3) HX1.out
                        have a47 := cell_grown g7 (cell_below (HBA.out _) a4) HX1.out
                        have z27 := cell_grown g7 (cell_below (HBA.out _) z2) (fun e => HC4.out.s.sp.apl b e rfl)
                        have f27 := frozen_grown g7 (frozen_below (HBA.out _) z2 z3) (cell_lt (cell_below (HBA.out _) z2)) (fun e => HC4.out.s.sp.apl b e rfl)
                        have HF7 := Lib.hid (HC4.out.push rfl (HBA.out _) (x := c') o7 g7 n7)
                        refine hK.out _ _ (⟨⟨z07, a07, a17, a27, a37, a47⟩, fun e => by cases e⟩) (fun _ => ?_)
                        clear hK K o7 g7 n7
                        try simp only [Act.put, List.setIfInBounds_toArray, List.set_cons_zero, List.set_cons_succ]
                        refine wpL_tk true 10 (⟨⟨z07, a07, a17, a27, a37, a47⟩, fun e => by cases e⟩) ?_
                        refine wpL_tk true 11 (⟨⟨z07, a07, a17, a27, a37, a47⟩, fun e => by cases e⟩) ?_
                        refine wpL_on true 12 fun K hK => ?_
                        refine wanted_on rfl ?_
                        go_wp2_with fail
                        refine hK.out _ _ (⟨⟨cell_grown (gb_set (gb_refl _ _) _ _) z07 (fun e => hbo (by injection e)), cell_grown (gb_set (gb_refl _ _) _ _) a07 (fun e => hne1 (by injection e)), cell_grown (gb_set (gb_refl _ _) _ _) a17 (fun e => hne1 (by injection e)), cell_grown (gb_set (gb_refl _ _) _ _) a27 (fun e => hne1 (by injection e)), cell_grown (gb_set (gb_refl _ _) _ _) a37 (fun e => hne1 (by injection e)), cell_grown (gb_set (gb_refl _ _) _ _) a47 (fun e => hne1 (by injection e))⟩, fun e => by cases e⟩) (fun _ => ?_)
                        clear hK K 
                        try simp only [Act.put]
                        refine wpL_done (by kernel_rfl) ?_ _
                        clear z0 z1 z2 z3 z4 z5 a0 a1 a2 a3 a4 z07 a07 a17 a27 a37 a47 z27 f27 hlx
                        go_wp2_with fail
                        go_roundw
                        case rel =>
                          refine ⟨k + 1, .slice (some ⟨b, off, none⟩) (D2.length + 1) c, D2, .slice a7 (cur2.length + 1) c7, by omega, by go_num, ?_, ?_⟩
                          · rw [HNX1.out, HSL.out]
                            exact HF7.out.s
                          · rw [HNX1.out, HSL.out]
                            refine ⟨?_, hdl2⟩
                            show (cur2 ++ [c']).length ≤ cols
                            rw [List.length_append]
                            exact hcl2
                        case measure => simp [intOf]; omega
    · have hk2 : k = l.length := by omega
      subst hk2
      have d1 : decide ((l.length : Int) < (l.length : Int)) = false := decide_eq_false (by omega)
      rw [List.take_length] at HS HB
      generalize hst : spRun cols mark ⟨[], [], none⟩ 0 l = st at HS HB
      have HST := Lib.hid (show splitG l cols mark = st from hst)
      clear hst HS0 hmf
      go_upto_region 20 with fail
      go_loopw [] (fun wr => ∃ (v : Value) (D : List (Value × Rw)) (xv : Value) (cur : List Cel),
        Hid (SpS w pb px py was wr v D xv st.done ⟨cur, false⟩ st.told) ∧ Hid (cur.length ≤ cols ∧ cur ++ List.replicate (cols - cur.length) (blankC plainS) = st.cur ++ List.replicate (cols - st.cur.length) (blankC plainS))) (fun wr => cols - curLen wr (w.heap.size + 1))
      case atStart => exact ⟨v, D, xv, st.cur, HS, HB.out.1, rfl⟩
      case round =>
        have HDN := Lib.hid HB.out.2
        clear HB HS v D xv
        obtain ⟨v, D, xv, cur, HS, HB⟩ := hrel
        obtain ⟨b, off, c, rfl, hn1, hn2, z0, z1, z2, z3, z4, z5, hbl, hbo, hBb⟩ := HS.out.sp.cellsx
        have hlst : OwnC wr (w.heap.size + 1 + 1) 5 xv cur.length (cvals cur) := HS.out.sp.last
        obtain ⟨xa, xc, rfl⟩ := ownC_sl hlst
        have HLST := Lib.hid hlst
        have hlx := ownC_ln Tryz.underlying42 hlst
        have hDk : D.length ≤ 100000000 := by
          have h1 := HDN.out
          have h2 : D.length = st.done.length := by rw [← HS.out.sp.dn, List.length_map]
          omega
        have hcl := HB.out.1
        have hsw := HS.out.gb.size
        clear hlst
        by_cases hlt : cur.length < cols
        · have t1 : decide ((cur.length : Int) < (cols : Int)) = true := decide_eq_true (by omega)
          go_wp2_with fail
          refine (now_any (w.heap.size + 1) b off D.length c _ z0 hDk).mono ?_
          rintro e w5 ⟨rfl, rfl⟩
          go_upto_region 21 with fail
          refine wpL_begin (c := 10) (S := (fun bb w' => w'.cell? ⟨w.heap.size + 1, 0, none⟩ = some (.slice (some ⟨b, off, none⟩) (D.length + 1) c) ∧ (bb = false → w'.cell? ⟨b, off + D.length * 2, none⟩ = some (.slice xa cur.length xc)))) (by kernel_rfl) (⟨z0, fun _ => z2⟩) (fun _ => ?_)
          refine wpL_tk false 0 (⟨z0, fun _ => z2⟩) ?_
          refine wpL_tk false 2 (⟨z0, fun _ => z2⟩) ?_
          refine wpL_on false 1 fun K hK => ?_
          refine wanted_on rfl ?_
          go_wp2_with fail
          refine (now_any (w.heap.size + 1) b off D.length c w5.drew z0 hDk).mono ?_
          rintro e w4 ⟨rfl, rfl⟩
          refine hK.out _ _ (⟨z0, fun _ => z2⟩) (fun _ => ?_)
          clear hK K 
          try simp only [Act.put, List.setIfInBounds_toArray, List.set_cons_zero, List.set_cons_succ]
          refine wpL_on false 3 fun K hK => ?_
          refine wanted_on rfl ?_
          go_wp2_with fail
          refine (now_any (w.heap.size + 1) b off D.length c w5.drew z0 hDk).mono ?_
          rintro e w4 ⟨rfl, rfl⟩
          refine hK.out _ _ (⟨z0, fun _ => z2⟩) (fun _ => ?_)
          clear hK K 
          try simp only [Act.put, List.setIfInBounds_toArray, List.set_cons_zero, List.set_cons_succ]
          refine wpL_tk false 4 (⟨z0, fun _ => z2⟩) ?_
          refine wpL_tk false 5 (⟨z0, fun _ => z2⟩) ?_
          refine wpL_td 6 (⟨z0, fun _ => z2⟩) ?_
          refine wpL_on false 7 fun K hK => ?_
          refine wanted_on rfl ?_
          go_wp2_with fail
          refine (plain_any _).mono ?_
          rintro e wq ⟨rfl, b5⟩
          have z05 : wq.cell? ⟨w.heap.size + 1, 0, none⟩ = some (.slice (some ⟨b, off, none⟩) (D.length + 1) c) := cell_below b5 z0
          have z25 : wq.cell? ⟨b, off + D.length * 2, none⟩ = some (.slice xa cur.length xc) := cell_below b5 z2
          have HB5 := Lib.hid (show Below w5.heap.size w5 wq from (Below.refl w5.heap.size w5).drew.trans b5)
          refine hK.out _ _ (⟨z05, fun _ => z25⟩) (fun _ => ?_)
          clear hK K b5
          try simp only [Act.put, List.setIfInBounds_toArray, List.set_cons_zero, List.set_cons_succ]
          refine wpL_on false 8 fun K hK => ?_
          refine wanted_on rfl ?_
          go_wp2_with fail
          refine (blankP_any _).mono ?_
          rintro e w6 ⟨rfl, b6⟩
          have z06 : w6.cell? ⟨w.heap.size + 1, 0, none⟩ = some (.slice (some ⟨b, off, none⟩) (D.length + 1) c) := cell_below b6 z05
          have z26 : w6.cell? ⟨b, off + D.length * 2, none⟩ = some (.slice xa cur.length xc) := cell_below b6 z25
          have HB6 := Lib.hid (HB5.out.trans (b6.mono HB5.out.size))
          refine hK.out _ _ (⟨z06, fun _ => z26⟩) (fun _ => ?_)
          clear hK K b6 z05 z25
          try simp only [Act.put, List.setIfInBounds_toArray, List.set_cons_zero, List.set_cons_succ]
          refine wpL_on false 9 fun K hK => ?_
          refine wanted_on rfl ?_
          go_wp2_with fail
          refine hK.out _ _ (⟨cell_below (Below.alloc (Below.refl w6.heap.size w6) (Nat.le_refl _) _) z06, fun _ => cell_below (Below.alloc (Below.refl w6.heap.size w6) (Nat.le_refl _) _) z26⟩) (fun _ => ?_)
          clear hK K 
          try simp only [Act.put, List.setIfInBounds_toArray, List.set_cons_zero, List.set_cons_succ]
          refine wpL_on true 10 fun K hK => ?_
          apply step_appS cells_elem
          case hgd => rfl
          case ho => rfl
          case hown => exact ownC_alloc (ownC_below HLST.out HB6.out) _
          case hs => rfl
          case hr => exact src_reads Tryz.underlying42 (reads_cel _ _ _ _ _ _ _) (cel_one _ _ _ _ _)
          case hx => rfl
          case h63 => unfold maxLen; omega
          case hbytes => omega
          case hbase => (have := HB6.out.size; simp; omega)
          intro v7 w7 o7 g7 n7
          obtain ⟨a7, c7, rfl⟩ := ownC_sl o7
          have z07 : w7.cell? ⟨w.heap.size + 1, 0, none⟩ = some (.slice (some ⟨b, off, none⟩) (D.length + 1) c) := cell_grown g7 (cell_below (Below.alloc (Below.refl w6.heap.size w6) (Nat.le_refl _) _) z06) (fun e => by have := (ownC_lt HLST.out _ e).1; omega)
          have z27 : w7.cell? ⟨b, off + D.length * 2, none⟩ = some (.slice xa cur.length xc) := cell_grown g7 (cell_below (Below.alloc (Below.refl w6.heap.size w6) (Nat.le_refl _) _) z26) (fun e => HS.out.sp.apl b e rfl)
          have f27 : w7.frozen? ⟨b, off + D.length * 2, none⟩ = false := frozen_grown g7 (frozen_below (Below.alloc HB6.out HB6.out.size _) z2 z3) (cell_lt (cell_below (Below.alloc (Below.refl w6.heap.size w6) (Nat.le_refl _) _) z26)) (fun e => HS.out.sp.apl b e rfl)
          have HO7 := Lib.hid o7
          have HG7 := Lib.hid g7
          have HN7 := Lib.hid n7
          refine hK.out _ _ (⟨z07, fun e => by cases e⟩) (fun _ => ?_)
          clear hK K o7 g7 n7 z06 z26
          try simp only [Act.put, List.setIfInBounds_toArray, List.set_cons_zero, List.set_cons_succ]
          refine wpL_tk true 11 (⟨z07, fun e => by cases e⟩) ?_
          refine wpL_tk true 12 (⟨z07, fun e => by cases e⟩) ?_
          refine wpL_on true 13 fun K hK => ?_
          refine wanted_on rfl ?_
          go_wp2_with fail
          refine hK.out _ _ (⟨cell_grown (gb_set (gb_refl _ _) _ _) z07 (fun e => hbo (by injection e)), fun e => by cases e⟩) (fun _ => ?_)
          clear hK K 
          try simp only [Act.put]
          refine wpL_done (by kernel_rfl) ?_ _
          have HF7 := Lib.hid (HS.out.push hpbl rfl (Below.alloc HB6.out HB6.out.size _) (x := blankC plainS) HO7.out HG7.out HN7.out)
          clear z0 z1 z2 z3 z4 z5 z07 z27 f27 hlx
          go_wp2_with fail
          go_roundw
          case rel =>
            refine ⟨_, D, _, cur ++ [blankC plainS], HF7, ?_⟩
            have h2 := HB.out.2
            refine ⟨by rw [List.length_append]; exact hlt, ?_⟩
            rw [← h2, List.length_append, List.append_assoc]
            congr 1
            show _ :: List.replicate _ _ = _
            rw [← List.replicate_succ]
            congr 1
            simp; omega
          case measure =>
            rw [curLen_sp HF7.out.sp, curLen_sp HS.out.sp]
            simp; omega
        · have t1 : decide ((cur.length : Int) < (cols : Int)) = false := decide_eq_false (by omega)
          go_wp2_with fail
          refine (now_any (w.heap.size + 1) b off D.length c _ z0 hDk).mono ?_
          rintro e w5 ⟨rfl, rfl⟩
          obtain ⟨qb, qo, qc, eqq, _, _⟩ := ownC_pos HLST.out (by omega)
          have HQ := Lib.hid (show (Value.slice xa cur.length xc).ownBlock = some qb by rw [eqq]; rfl)
          clear eqq
          go_wp2_with fail
          refine ret1v rfl rfl rfl ⟨.slice (some ⟨b, off, none⟩) (D.length + 1) c, D ++ [(.slice xa cur.length xc, ⟨cur, false⟩)], rfl, HS.out.gb, HS.out.sp.rows HQ.out (by omega), ?_, ?_⟩
          · rw [List.map_append, HS.out.sp.dn, HST.out]
            have h2 := HB.out.2
            rw [show cols - cur.length = 0 by omega, List.replicate_zero, List.append_nil] at h2
            unfold spEnd
            rw [← h2]
            rfl
          · rw [HST.out]
            exact HS.out.pk
end Go.Proofs.YtjclgoiclbkgjaaGreatDoor
