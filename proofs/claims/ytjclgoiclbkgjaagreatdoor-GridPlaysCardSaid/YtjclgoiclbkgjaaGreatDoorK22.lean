/- Package grid, texts laid together: N15 N17. -/
import Derived.Test.YtjclgoiclbkgjaaGreatDoorK21
import Derived.Test.YtjclgoiclbkgjaaGreatDoorK9
import Derived.Test.YtjclgoiclbkgjaaGreatDoorK10
/- Walk of the document's grid: split. -/
namespace Go.Proofs.YtjclgoiclbkgjaaGreatDoor
open Go.RowKit

theorem spD_start (w : World) (lv : Value) (mk : Int) (wp : Bool) :
    SpD (((w.alloc (.cells #[lv, .int .i64 mk, .bool wp] 122)).alloc (.cells #[.int .i64 0, .int .i64 0] 51)).alloc (.cells #[.int .i64 0, .int .i64 (-1)] 51)) (w.heap.size + 2)
      (((w.alloc (.cells #[lv, .int .i64 mk, .bool wp] 122)).alloc (.cells #[.int .i64 0, .int .i64 0] 51)).alloc (.cells #[.int .i64 0, .int .i64 (-1)] 51)) (.slice none 0 0) (.slice none 0 0) [] ⟨[], [], none⟩ := by
  refine ⟨gb_refl _ _, ?_, ⟨ownC_nil _ _ _, fun x hx => by simp at hx, by simp, fun x hx => by simp at hx⟩, rfl, ownC_nil _ _ _, fun q hq => by simp [Value.ownBlock] at hq, by simp⟩
  have := blk_new ((w.alloc (.cells #[lv, .int .i64 mk, .bool wp] 122)).alloc (.cells #[.int .i64 0, .int .i64 0] 51)) (.cells #[.int .i64 0, .int .i64 (-1)] 51)
  have hz : ((w.alloc (.cells #[lv, .int .i64 mk, .bool wp] 122)).alloc (.cells #[.int .i64 0, .int .i64 0] 51)).heap.size = w.heap.size + 2 := by simp
  rw [hz] at this
  exact this
theorem spLay_parts {cols : Nat} {mk : Int} {st : Sp} {k : Nat} {c : Cel} {cur1 : List Cel} {st2 : Sp} (h1 : cur1 = if c.width = 2 ∧ st.cur.length = cols - 1 then st.cur ++ [blankC plainS] else st.cur)
    (h2 : st2 = if cur1.length = cols then ⟨st.done ++ [⟨cur1, true⟩], [], st.told⟩ else { st with cur := cur1 }) :
    spLay cols mk st k c = ⟨st2.done, st2.cur ++ [c], if (k : Int) = mk then some ((st2.cur.length : Int), (st2.done.length : Int)) else st2.told⟩ := by
  unfold spLay
  dsimp only
  rw [← h1]
  subst h2
  by_cases h : cur1.length = cols
  · simp only [if_pos h]
  · simp only [if_neg h]
theorem SpD.rerow {w : World} {pb : Nat} {wr w' : World} {vO vR v' : Value} {L : List (Value × Rw)} {st : Sp} (h : SpD w pb wr vO vR L st) (b : Below wr.heap.size wr w') (cur' : List Cel) (o : OwnC w' wr.heap.size 5 v' cur'.length (cvals cur')) :
    SpD w pb w' vO v' L { st with cur := cur' } := by
  have h2 := h.below b
  refine ⟨h2.gb, h2.pk, h2.rows, h2.lr, ownC_mono o h.gb.size, fun q hq => ⟨fun e => ?_, fun x hx e => ?_⟩, h.hpb⟩
  · have := (ownC_lt o q hq).1; have := (ownC_lt h.rows.own q e).2; omega
  · have := (ownC_lt o q hq).1; have := (ownC_lt (h.rows.cells x hx) q e).2; omega
theorem blankDP_any (w : World) : Calls Tryz.prog 64 #[plainS.val] w fun e w' => e = .returned (.agg #[.int .i32 32, .int .i64 1, .int .i64 (-1), .int .i64 (-1), .int .i64 0]) ∧ Below w.heap.size w w' := blankD_any plainS w
set_option maxRecDepth 100000 in
set_option maxHeartbeats 8000000 in
theorem splitD_any (l : List Cel) (mk : Int) (wp : Bool) (cols : Nat) (lv : Value) (w : World) (hl : OwnC w 0 5 lv l.length (cvals l)) (hc1 : 1 ≤ cols) (hc2 : cols ≤ 250) (hn : l.length ≤ 10000000) (hwd : ∀ c ∈ l, c.width = 0 ∨ c.width = 1 ∨ c.width = 2) :
    Calls Tryz.prog 87 #[.agg #[lv, .int .i64 mk, .bool wp], .int .i64 cols] w fun e w' => ∃ v L, e = .returned (.tuple #[v, .agg #[.int .i64 (saidX (splitG l cols mk).told), .int .i64 (saidY (splitG l cols mk).told)]]) ∧ Below w.heap.size w w' ∧ RowsAt w.heap.size w' v L ∧
      L.map (·.2) = wrapLast (spEnd cols (splitG l cols mk)) wp := by
  have HS0 := Lib.hid (spD_start w lv mk wp)
  have HBW := Lib.hid (((Below.alloc (Below.refl w.heap.size w) (Nat.le_refl _) (.cells #[lv, .int .i64 mk, .bool wp] 122)).alloc (by simp) (.cells #[.int .i64 0, .int .i64 0] 51)).alloc (by simp; omega) (.cells #[.int .i64 0, .int .i64 (-1)] 51))
  have HKL := Lib.hid (blk_alloc (blk_alloc (blk_new w (.cells #[lv, .int .i64 mk, .bool wp] 122)) (.cells #[.int .i64 0, .int .i64 0] 51)) (.cells #[.int .i64 0, .int .i64 (-1)] 51))
  have HKR : Hid ((((w.alloc (.cells #[lv, .int .i64 mk, .bool wp] 122)).alloc (.cells #[.int .i64 0, .int .i64 0] 51)).alloc (.cells #[.int .i64 0, .int .i64 (-1)] 51)).heap[w.heap.size + 1]? = some (.cells #[.int .i64 0, .int .i64 0] 51 (0, 0))) := by
    have h := blk_alloc (blk_new (w.alloc (.cells #[lv, .int .i64 mk, .bool wp] 122)) (.cells #[.int .i64 0, .int .i64 0] 51)) (.cells #[.int .i64 0, .int .i64 (-1)] 51)
    have hz : (w.alloc (.cells #[lv, .int .i64 mk, .bool wp] 122)).heap.size = w.heap.size + 1 := by simp
    rw [hz] at h
    exact h
  have HL := Lib.hid (ownC_below hl (HBW.out.mono (by simp)))
  have HLP := Lib.hid (fun q (hq : lv.ownBlock = some q) => (ownC_lt hl q hq).2)
  have HWD := Lib.hid hwd
  obtain ⟨la, lc, rfl⟩ := ownC_sl hl
  have hlen := ownC_ln Tryz.underlying42 hl
  clear hl hwd
  go_enter Tryz.func87, Tryz.ntmps87
  go_upto_region 4 with fail
  have hsz3 : (((w.alloc (.cells #[.slice la l.length lc, .int .i64 mk, .bool wp] 122)).alloc (.cells #[.int .i64 0, .int .i64 0] 51)).alloc (.cells #[.int .i64 0, .int .i64 (-1)] 51)).heap.size = w.heap.size + 3 := by simp
  generalize ((w.alloc (.cells #[.slice la l.length lc, .int .i64 mk, .bool wp] 122)).alloc (.cells #[.int .i64 0, .int .i64 0] 51)).alloc (.cells #[.int .i64 0, .int .i64 (-1)] 51) = w3 at *
  have HSZ := Lib.hid hsz3
  clear hsz3
  go_upto_region 5 with fail
  go_loopw [6, 7, 9] (fun vO vR iv wr => ∃ (k : Nat) (L : List (Value × Rw)), k ≤ l.length ∧ iv = .int .i64 k ∧ Hid (SpD w3 (w.heap.size + 2) wr vO vR L (spRun cols mk ⟨[], [], none⟩ 0 (l.take k))) ∧
    Hid ((spRun cols mk ⟨[], [], none⟩ 0 (l.take k)).cur.length ≤ cols ∧ (spRun cols mk ⟨[], [], none⟩ 0 (l.take k)).done.length ≤ k)) (fun _ _ iv _ => l.length - (intOf iv).toNat)
  case atStart => exact ⟨0, [], Nat.zero_le _, rfl, HS0.out, Nat.zero_le _, Nat.le_refl _⟩
  case round =>
    obtain ⟨k, L, hk, rfl, HS, HB⟩ := hrel
    have hgb := HS.out.gb
    have hkl := blk_grown HKL.out hgb (fun e => by injection e with e; omega)
    have p0 : wr.cell? ⟨w.heap.size, 0, none⟩ = some (.slice la l.length lc) := blk_cell hkl 0
    have p1 : wr.cell? ⟨w.heap.size, 1, none⟩ = some (.int .i64 mk) := blk_cell hkl 1
    have p2 : wr.cell? ⟨w.heap.size, 2, none⟩ = some (.bool wp) := blk_cell hkl 2
    have HKl := Lib.hid hkl
    clear hkl hgb
    by_cases hlt : k < l.length
    · have HRS := Lib.hid (spRun_snoc cols mk (l.take k) (l.getD k noC) ⟨[], [], none⟩ 0)
      have HTK := Lib.hid (take_succ_getD l noC k hlt)
      have HLK := Lib.hid (show (l.take k).length = k by rw [List.length_take]; omega)
      have HWK := Lib.hid (HWD.out (l.getD k noC) (by rw [List.getD_eq_getElem?_getD, List.getElem?_eq_getElem hlt]; exact List.getElem_mem _))
      generalize hst : spRun cols mk ⟨[], [], none⟩ 0 (l.take k) = st at *
      have HST := Lib.hid hst
      clear hst
      have HNX := Lib.hid (show spRun cols mk ⟨[], [], none⟩ 0 (l.take (k + 1)) = spStep cols mk st k (l.getD k noC) by rw [HTK.out, HRS.out, HLK.out, Nat.zero_add])
      have HSD := Lib.hid (spStep_doc cols mk st k (l.getD k noC) HWK.out)
      clear HRS HTK HLK HWK
      have ho := ownC_grown HL.out HS.out.gb (fun q hq e => by have := HLP.out q hq; injection e with e; omega)
      obtain ⟨b', off', c', e2, _, _⟩ := ownC_pos ho (by omega)
      simp only [Value.slice.injEq] at e2
      obtain ⟨e3, _, e4⟩ := e2
      subst e3 e4
      obtain ⟨q0, q1, q2, q3, q4⟩ := ownC_cel ho k (by omega) rfl
      have hix := idx_at (P := Tryz.prog) (size := 5) Tryz.underlying42 cell_info b' off' l.length lc k hlt
      clear ho
      have d1 : decide ((k : Int) < (l.length : Int)) = true := decide_eq_true (by omega)
      have d1' : decide (k < l.length) = true := decide_eq_true hlt
      generalize l.getD k noC = cc at *
      obtain ⟨cr, cw, cs⟩ := cc
      obtain ⟨cf, cb, ca⟩ := cs
      dsimp only at q0 q1 q2 q3 q4
      have HE := Lib.hid (SpE.start HS.out ⟨cr, cw, ⟨cf, cb, ca⟩⟩)
      have HLL := Lib.hid (show L.length = st.done.length by rw [← HS.out.lr, List.length_map])
      have HBA := Lib.hid (Below.alloc (Below.refl wr.heap.size wr) (Nat.le_refl _) (.cells #[.int .i32 cr, .int .i64 cw, .int .i64 cf, .int .i64 cb, .int .i64 ca] 38))
      have p1a := cell_below HBA.out p1
      go_upto_region 8 with fail
      clear q0 q1 q2 q3 q4 hix p0 p1 p2
      dsimp only at HE
      generalize wr.alloc (.cells #[.int .i32 cr, .int .i64 cw, .int .i64 cf, .int .i64 cb, .int .i64 ca] 38) = wa at *
      have a1 : wa.cell? ⟨wr.heap.size, 1, none⟩ = some (.int .i64 cw) := blk_cell HE.out.ck 1
      obtain ⟨xa, xc, rfl⟩ := ownC_sl HE.out.s.row
      have hlx := ownC_ln Tryz.underlying42 HE.out.s.row
      obtain ⟨ya, yc, rfl⟩ := ownC_sl HE.out.s.rows.own
      have hly := ownC_ln Tryz.underlying62 HE.out.s.rows.own
      have hcl := HB.out.1
      have hdl : L.length ≤ 10000000 := by have := HB.out.2; have := HLL.out; omega
      by_cases hA : cols = 1 ∧ cw = 0
      · have t1 : ((cols : Int) == 1) = true := by rw [hA.1]; rfl
        have t2 : decide ((cols : Int) = 1) = true := decide_eq_true (by omega)
        have t3 : (cw == 0) = true := by rw [hA.2]; rfl
        have t4 : decide (cw = 0) = true := decide_eq_true hA.2
        have HSE := Lib.hid (HSD.out.trans (if_pos hA))
        clear hA HSD
        by_cases hm : (k : Int) = mk
        · have t5 : ((k : Int) == mk) = true := beq_iff_eq.2 hm
          have t6 : decide ((k : Int) = mk) = true := decide_eq_true hm
          have HM := Lib.hid hm
          clear hm
          have hw1 : IntKind.i64.wrap ((st.cur.length : Int) - 1) = (st.cur.length : Int) - 1 := wrap64_id _ (by omega) (by omega)
          have hst := run_storeVar_row (P := Tryz.prog) wa (w.heap.size + 2) 51 51 _ #[.int .i64 ((st.cur.length : Int) - 1), .int .i64 (L.length : Int)] HE.out.s.pk (by kernel_rfl) rfl (by simp [Value.oneCell'])
          have HT := Lib.hid (HE.out.tell ((st.cur.length : Int) - 1) (L.length : Int) (gb_setRow wa (w.heap.size + 2) _) (setRow_blk HE.out.s.pk))
          generalize wa.setRow (w.heap.size + 2) #[.int .i64 ((st.cur.length : Int) - 1), .int .i64 (L.length : Int)] = wb at *
          go_wp2_with (refine wpList_storeR rfl _ _ _ rfl hst rfl rfl ?_)
          go_roundw
          case rel => exact ⟨k + 1, L, by omega, by go_num, by
            show SpD _ _ _ _ _ _ _
            rw [HNX.out, HSE.out, if_pos HM.out, ← HLL.out]
            exact HT.out.s, by
            show _ ∧ _
            rw [HNX.out, HSE.out]
            exact ⟨HB.out.1, Nat.le_succ_of_le HB.out.2⟩⟩
          case measure => simp [intOf]; omega
        · have t5 : ((k : Int) == mk) = false := beq_eq_false_iff_ne.2 hm
          have t6 : decide ((k : Int) = mk) = false := decide_eq_false hm
          have HM := Lib.hid hm
          clear hm
          go_wp2_with fail
          go_roundw
          case rel => exact ⟨k + 1, L, by omega, by go_num, by
            show SpD _ _ _ _ _ _ _
            rw [HNX.out, HSE.out, if_neg HM.out]
            exact HE.out.s, by
            show _ ∧ _
            rw [HNX.out, HSE.out]
            exact ⟨HB.out.1, Nat.le_succ_of_le HB.out.2⟩⟩
          case measure => simp [intOf]; omega
      · have HA := Lib.hid hA
        have HSE := Lib.hid (HSD.out.trans (if_neg hA))
        clear hA HSD
        go_cut [30] (fun v wx => v = .bool false ∧ wx = wa)
        case first =>
          by_cases h1 : cols = 1
          · have t1 : ((cols : Int) == 1) = true := by rw [h1]; rfl
            have t2 : decide ((cols : Int) = 1) = true := decide_eq_true (by omega)
            have h2 : cw ≠ 0 := fun e => HA.out ⟨h1, e⟩
            have t3 : (cw == 0) = false := beq_eq_false_iff_ne.2 h2
            have t4 : decide (cw = 0) = false := decide_eq_false h2
            clear h1 h2
            go_wp2_with fail
            go_meet
            exact ⟨rfl, rfl⟩
          · have t1 : ((cols : Int) == 1) = false := beq_eq_false_iff_ne.2 (by omega)
            have t2 : decide ((cols : Int) = 1) = false := decide_eq_false (by omega)
            clear h1
            go_wp2_with fail
            go_meet
            exact ⟨rfl, rfl⟩
        case rest =>
        obtain ⟨rfl, rfl⟩ := hcut
        obtain ⟨wa, rfl⟩ : ∃ w0, w0 = wc := ⟨wc, rfl⟩
        go_upto_region 11 with fail
        go_cut [47] (fun v wx => (∃ f, v = .bool f ∧ Hid (f = true ↔ (cols = 1 ∧ cw = 2))) ∧ wx = wa)
        case first =>
          by_cases h1 : cols = 1
          · have t1 : ((cols : Int) == 1) = true := by rw [h1]; rfl
            have t2 : decide ((cols : Int) = 1) = true := decide_eq_true (by omega)
            have HH := Lib.hid h1
            clear h1
            by_cases h2 : cw = 2
            · have t3 : (cw == 2) = true := by rw [h2]; rfl
              have t4 : decide (cw = 2) = true := decide_eq_true h2
              have HH2 := Lib.hid h2
              clear h2
              go_wp2_with fail
              go_meet
              exact ⟨⟨true, rfl, iff_of_true rfl ⟨HH.out, HH2.out⟩⟩, rfl⟩
            · have t3 : (cw == 2) = false := beq_eq_false_iff_ne.2 h2
              have t4 : decide (cw = 2) = false := decide_eq_false h2
              have HH2 := Lib.hid h2
              clear h2
              go_wp2_with fail
              go_meet
              exact ⟨⟨false, rfl, iff_of_false (by decide) (fun e => HH2.out e.2)⟩, rfl⟩
          · have t1 : ((cols : Int) == 1) = false := beq_eq_false_iff_ne.2 (by omega)
            have t2 : decide ((cols : Int) = 1) = false := decide_eq_false (by omega)
            have HH := Lib.hid h1
            clear h1
            go_wp2_with fail
            go_meet
            exact ⟨⟨false, rfl, iff_of_false (by decide) (fun e => HH.out e.1)⟩, rfl⟩
        case rest =>
        obtain ⟨⟨f, rfl, HF⟩, rfl⟩ := hcut
        obtain ⟨wa, rfl⟩ : ∃ w0, w0 = wc := ⟨wc, rfl⟩
        go_upto_if 47 with fail
        go_cut [10] (fun pv wx => pv = .pointer (some ⟨wr.heap.size, 0, none⟩) ∧ ∃ c2 : Cel, Hid (spStep cols mk st k ⟨cr, cw, ⟨cf, cb, ca⟩⟩ = spLay cols mk st k c2) ∧ Hid (SpE w3 (w.heap.size + 2) wr.heap.size c2 wx (.slice ya L.length yc) (.slice xa st.cur.length xc) L st))
        case first =>
          cases f
          · have HN := Lib.hid (show ¬ (cols = 1 ∧ cw = 2) from fun e => absurd (HF.out.2 e) (by decide))
            go_wp2_with fail
            go_meet
            exact ⟨rfl, _, HSE.out.trans (by rw [if_neg HN.out]), HE⟩
          · have HN := Lib.hid (HF.out.1 rfl)
            have a2 : wa.cell? ⟨wr.heap.size, 2, none⟩ = some (.int .i64 cf) := blk_cell HE.out.ck 2
            have a3 : wa.cell? ⟨wr.heap.size, 3, none⟩ = some (.int .i64 cb) := blk_cell HE.out.ck 3
            have a4 : wa.cell? ⟨wr.heap.size, 4, none⟩ = some (.int .i64 ca) := blk_cell HE.out.ck 4
            go_wp2_with fail
            refine (blankD_any ⟨cf, cb, ca⟩ wa).mono ?_
            rintro e w5 ⟨rfl, b5⟩
            have HE5 := Lib.hid (HE.out.below b5)
            clear b5
            have hst := run_storeVar_row (P := Tryz.prog) w5 wr.heap.size 38 38 _ #[.int .i32 32, .int .i64 1, .int .i64 cf, .int .i64 cb, .int .i64 ca] HE5.out.ck (by exact cell_info) rfl (by simp [Value.oneCell'])
            have HE6 := Lib.hid (HE5.out.setc (blankC ⟨cf, cb, ca⟩))
            dsimp only [blankC] at HE6
            generalize w5.setRow wr.heap.size #[.int .i32 32, .int .i64 1, .int .i64 cf, .int .i64 cb, .int .i64 ca] = w6 at *
            go_wp2_with (refine wpList_storeR rfl _ _ _ rfl hst rfl rfl ?_)
            go_meet
            exact ⟨rfl, blankC ⟨cf, cb, ca⟩, HSE.out.trans (by rw [if_pos HN.out]), HE6⟩
        case rest =>
        obtain ⟨rfl, c2, HSY, HE⟩ := hcut
        obtain ⟨wa, rfl⟩ : ∃ w0, w0 = wc := ⟨wc, rfl⟩
        clear a1 HSE HF HA p1a
        obtain ⟨cr, cw, cs⟩ := c2
        obtain ⟨cf, cb, ca⟩ := cs
        have a1 : wa.cell? ⟨wr.heap.size, 1, none⟩ = some (.int .i64 cw) := blk_cell HE.out.ck 1
        have hw1 : IntKind.i64.wrap ((cols : Int) - 1) = ((cols - 1 : Nat) : Int) := by rw [wrap64_id _ (by omega) (by omega)]; omega
        have hcE : IntKind.i64.wrap ((cols : Int) - 1) = (cols : Int) - 1 := wrap64_id _ (by omega) (by omega)
        clear hw1
        go_upto_region 13 with fail
        go_cut [60] (fun v wx => (∃ f, v = .bool f ∧ Hid (f = true ↔ (cw = 2 ∧ st.cur.length = cols - 1))) ∧ wx = wa)
        case first =>
          by_cases h1 : cw = 2
          · have t1 : (cw == 2) = true := by rw [h1]; rfl
            have t2 : decide (cw = 2) = true := decide_eq_true h1
            have HH := Lib.hid h1
            clear h1
            by_cases h2 : st.cur.length = cols - 1
            · have t3 : ((st.cur.length : Int) == (cols : Int) - 1) = true := beq_iff_eq.2 (by omega)
              have t4 : decide ((st.cur.length : Int) = (cols : Int) - 1) = true := decide_eq_true (by omega)
              have HH2 := Lib.hid h2
              clear h2
              go_wp2_with fail
              go_meet
              exact ⟨⟨true, rfl, iff_of_true rfl ⟨HH.out, HH2.out⟩⟩, rfl⟩
            · have t3 : ((st.cur.length : Int) == (cols : Int) - 1) = false := beq_eq_false_iff_ne.2 (by omega)
              have t4 : decide ((st.cur.length : Int) = (cols : Int) - 1) = false := decide_eq_false (by omega)
              have HH2 := Lib.hid h2
              clear h2
              go_wp2_with fail
              go_meet
              exact ⟨⟨false, rfl, iff_of_false (by decide) (fun e => HH2.out e.2)⟩, rfl⟩
          · have t1 : (cw == 2) = false := beq_eq_false_iff_ne.2 h1
            have t2 : decide (cw = 2) = false := decide_eq_false h1
            have HH := Lib.hid h1
            clear h1
            go_wp2_with fail
            go_meet
            exact ⟨⟨false, rfl, iff_of_false (by decide) (fun e => HH.out e.1)⟩, rfl⟩
        case rest =>
        obtain ⟨⟨f, rfl, HF⟩, rfl⟩ := hcut
        obtain ⟨wa, rfl⟩ : ∃ w0, w0 = wc := ⟨wc, rfl⟩
        go_upto_if 60 with fail
        go_cut [7] (fun vR1 wx => ∃ cur1 : List Cel, Hid (cur1 = if cw = 2 ∧ st.cur.length = cols - 1 then st.cur ++ [blankC plainS] else st.cur) ∧ Hid (SpE w3 (w.heap.size + 2) wr.heap.size ⟨cr, cw, ⟨cf, cb, ca⟩⟩ wx (.slice ya L.length yc) vR1 L { st with cur := cur1 }))
        case first =>
          cases f
          · have HN := Lib.hid (show ¬ (cw = 2 ∧ st.cur.length = cols - 1) from fun e => absurd (HF.out.2 e) (by decide))
            go_wp2_with fail
            go_meet
            exact ⟨_, by show _ = _; rw [if_neg HN.out], HE⟩
          · have HN := Lib.hid (HF.out.1 rfl)
            go_wp2_with fail
            refine (refPlain_any wa).mono ?_
            rintro e w5 ⟨rfl, b5⟩
            have HB5 := Lib.hid b5
            clear b5
            go_wp2_with fail
            refine (blankDP_any w5).mono ?_
            rintro e w6 ⟨rfl, b6⟩
            have HB6 := Lib.hid ((HB5.out.trans (b6.mono HB5.out.size)).alloc (HB5.out.trans (b6.mono HB5.out.size)).size (.cells #[.int .i32 32, .int .i64 1, .int .i64 (-1), .int .i64 (-1), .int .i64 0] 38))
            clear b6
            go_wp2_with (at_builtin; refine held ?_)
            unfold Held
            refine wpList_appD cells_elem rfl rfl w3.heap.size (HE.out.below HB6.out).s.row rfl (reads_cel w6 _ _ _ _ _ _) rfl (cel_one 32 1 (-1) (-1) 0) (by unfold maxLen; omega) (by omega) (by have := (HE.out.below HB6.out).s.gb.size; omega) ?_
            intro v7 w7 o7 g7 n7
            have HE7 := Lib.hid (HE.out.push HB6.out (x := blankC plainS) o7 g7 n7)
            clear o7 g7 n7
            go_wp2_with fail
            go_meet
            exact ⟨_, by show _ = _; rw [if_pos HN.out], HE7⟩
        case rest =>
        obtain ⟨cur1, HC1, HE⟩ := hcut
        obtain ⟨wa, rfl⟩ : ∃ w0, w0 = wc := ⟨wc, rfl⟩
        have hc1l : cur1.length ≤ cols := by
          rw [HC1.out]
          split
          · rw [List.length_append, List.length_singleton]; omega
          · exact hcl
        clear HF a1 hlx
        obtain ⟨xa, xc, rfl⟩ := ownC_sl HE.out.s.row
        have hlx := ownC_ln Tryz.underlying42 HE.out.s.row
        dsimp only at hlx
        go_upto_region 15 with fail
        go_cut [69] (fun v wx => (∃ f, v = .bool f ∧ Hid (f = true ↔ cur1.length = cols)) ∧ wx = wa)
        case first =>
          by_cases h2 : cur1.length = cols
          · have t3 : ((cur1.length : Int) == (cols : Int)) = true := beq_iff_eq.2 (by omega)
            have t4 : decide ((cur1.length : Int) = (cols : Int)) = true := decide_eq_true (by omega)
            have HH2 := Lib.hid h2
            clear h2
            go_wp2_with fail
            go_meet
            exact ⟨⟨true, rfl, iff_of_true rfl HH2.out⟩, rfl⟩
          · have t3 : ((cur1.length : Int) == (cols : Int)) = false := beq_eq_false_iff_ne.2 (by omega)
            have t4 : decide ((cur1.length : Int) = (cols : Int)) = false := decide_eq_false (by omega)
            have HH2 := Lib.hid h2
            clear h2
            go_wp2_with fail
            go_meet
            exact ⟨⟨false, rfl, iff_of_false (by decide) HH2.out⟩, rfl⟩
        case rest =>
        obtain ⟨⟨f, rfl, HF⟩, rfl⟩ := hcut
        obtain ⟨wa, rfl⟩ : ∃ w0, w0 = wc := ⟨wc, rfl⟩
        go_upto_if 69 with fail
        go_cut [6, 7] (fun vO2 vR2 wx => ∃ (L2 : List (Value × Rw)) (st2 : Sp), Hid (st2 = (if cur1.length = cols then ⟨st.done ++ [⟨cur1, true⟩], [], st.told⟩ else { st with cur := cur1 })) ∧ Hid (SpE w3 (w.heap.size + 2) wr.heap.size ⟨cr, cw, ⟨cf, cb, ca⟩⟩ wx vO2 vR2 L2 st2))
        case first =>
          cases f
          · have HN := Lib.hid (show ¬ (cur1.length = cols) from fun e => absurd (HF.out.2 e) (by decide))
            go_wp2_with fail
            go_meet
            exact ⟨L, _, by show _ = _; rw [if_neg HN.out], HE⟩
          · have HN := Lib.hid (HF.out.1 rfl)
            obtain ⟨q0, q00, _, hq0, _, _⟩ := ownC_pos HE.out.s.row (show 0 < cur1.length by have := HN.out; omega)
            have HQ := Lib.hid (show (Value.slice xa cur1.length xc).ownBlock = some q0 by rw [hq0]; rfl)
            clear hq0
            have HB6 := Lib.hid (Below.alloc (Below.refl wa.heap.size wa) (Nat.le_refl _) (.cells #[.slice xa cur1.length xc, .bool true] 96))
            go_wp2_with (at_builtin; refine held ?_)
            unfold Held
            refine wpList_appD rowsD_elem rfl rfl w3.heap.size (HE.out.below HB6.out).s.rows.own rfl (reads_row wa _ _ _) rfl (row_one _ _ _ _) (by unfold maxLen; omega) (by omega) (by have := (HE.out.below HB6.out).s.gb.size; omega) ?_
            intro v7 w7 o7 g7 n7
            have HE7 := Lib.hid (HE.out.flush HQ.out HB6.out true o7 g7 n7)
            clear o7 g7 n7
            go_wp2_with fail
            go_meet
            exact ⟨_, _, by show _ = _; rw [if_pos HN.out], HE7⟩
        case rest =>
        obtain ⟨L2, st2, HC2, HE⟩ := hcut
        obtain ⟨wa, rfl⟩ : ∃ w0, w0 = wc := ⟨wc, rfl⟩
        clear HF hlx hly
        have hb2 : st2.cur.length + 1 ≤ cols ∧ st2.done.length ≤ k + 1 := by
          have := HB.out.2
          rw [HC2.out]
          split
          · refine ⟨by show 0 + 1 ≤ cols; omega, ?_⟩
            show (st.done ++ [_]).length ≤ k + 1
            rw [List.length_append, List.length_singleton]; omega
          · exact ⟨by show cur1.length + 1 ≤ cols; omega, by show st.done.length ≤ k + 1; omega⟩
        have HLL2 := Lib.hid (show L2.length = st2.done.length by rw [← HE.out.s.lr, List.length_map])
        have hdl2 : L2.length ≤ 10000001 := by have := HLL2.out; omega
        have hcl2 : st2.cur.length ≤ 250 := by omega
        have HB2 := Lib.hid hb2
        clear hb2
        obtain ⟨xa, xc, rfl⟩ := ownC_sl HE.out.s.row
        have hlx := ownC_ln Tryz.underlying42 HE.out.s.row
        obtain ⟨ya, yc, rfl⟩ := ownC_sl HE.out.s.rows.own
        have hly := ownC_ln Tryz.underlying62 HE.out.s.rows.own
        have p1 : wa.cell? ⟨w.heap.size, 1, none⟩ = some (.int .i64 mk) := blk_cell (blk_grown HKL.out HE.out.s.gb (fun e => by injection e with e; omega)) 1
        go_upto_region 18 with fail
        go_cut [78] (fun v wx => (∃ f, v = .bool f ∧ Hid (f = true ↔ (k : Int) = mk)) ∧ wx = wa)
        case first =>
          by_cases h2 : (k : Int) = mk
          · have t3 : ((k : Int) == mk) = true := beq_iff_eq.2 h2
            have t4 : decide ((k : Int) = mk) = true := decide_eq_true h2
            have HH2 := Lib.hid h2
            clear h2
            go_wp2_with fail
            go_meet
            exact ⟨⟨true, rfl, iff_of_true rfl HH2.out⟩, rfl⟩
          · have t3 : ((k : Int) == mk) = false := beq_eq_false_iff_ne.2 h2
            have t4 : decide ((k : Int) = mk) = false := decide_eq_false h2
            have HH2 := Lib.hid h2
            clear h2
            go_wp2_with fail
            go_meet
            exact ⟨⟨false, rfl, iff_of_false (by decide) HH2.out⟩, rfl⟩
        case rest =>
        obtain ⟨⟨f, rfl, HF⟩, rfl⟩ := hcut
        obtain ⟨wa, rfl⟩ : ∃ w0, w0 = wc := ⟨wc, rfl⟩
        clear p1
        go_upto_if 78 with fail
        go_cut [10] (fun pv wx => pv = .pointer (some ⟨wr.heap.size, 0, none⟩) ∧ ∃ st3 : Sp, Hid (st3 = { st2 with told := if (k : Int) = mk then some ((st2.cur.length : Int), (st2.done.length : Int)) else st2.told }) ∧ Hid (SpE w3 (w.heap.size + 2) wr.heap.size ⟨cr, cw, ⟨cf, cb, ca⟩⟩ wx (.slice ya L2.length yc) (.slice xa st2.cur.length xc) L2 st3))
        case first =>
          cases f
          · have HN := Lib.hid (show ¬ ((k : Int) = mk) from fun e => absurd (HF.out.2 e) (by decide))
            go_wp2_with fail
            go_meet
            exact ⟨rfl, st2, by show _ = _; rw [if_neg HN.out], HE⟩
          · have HN := Lib.hid (HF.out.1 rfl)
            have hst := run_storeVar_row (P := Tryz.prog) wa (w.heap.size + 2) 51 51 _ #[.int .i64 (st2.cur.length : Int), .int .i64 (L2.length : Int)] HE.out.s.pk (by kernel_rfl) rfl (by simp [Value.oneCell'])
            have HT := Lib.hid (HE.out.tell (st2.cur.length : Int) (L2.length : Int) (gb_setRow wa (w.heap.size + 2) _) (setRow_blk HE.out.s.pk))
            generalize wa.setRow (w.heap.size + 2) #[.int .i64 (st2.cur.length : Int), .int .i64 (L2.length : Int)] = wb at *
            go_wp2_with (refine wpList_storeR rfl _ _ _ rfl hst rfl rfl ?_)
            go_meet
            exact ⟨rfl, _, by show _ = _; rw [if_pos HN.out, ← HLL2.out], HT⟩
        case rest =>
        obtain ⟨rfl, st3, HC3, HE⟩ := hcut
        obtain ⟨wa, rfl⟩ : ∃ w0, w0 = wc := ⟨wc, rfl⟩
        have HNY := Lib.hid (show spRun cols mk ⟨[], [], none⟩ 0 (l.take (k + 1)) = { st3 with cur := st3.cur ++ [⟨cr, cw, ⟨cf, cb, ca⟩⟩] } by
          rw [HNX.out, HSY.out, spLay_parts HC1.out HC2.out, HC3.out])
        have h3 : st3.cur.length = st2.cur.length ∧ st3.done.length = st2.done.length := by rw [HC3.out]; exact ⟨rfl, rfl⟩
        have H3 := Lib.hid h3
        clear h3
        have hro : OwnC wa w3.heap.size 5 (.slice xa st2.cur.length xc) st2.cur.length (cvals st3.cur) := by rw [← H3.out.1]; rw [← H3.out.1] at HE; exact HE.out.s.row
        have HRO := Lib.hid hro
        clear hro
        have a0 : wa.cell? ⟨wr.heap.size, 0, none⟩ = some (.int .i32 cr) := blk_cell HE.out.ck 0
        have a1 : wa.cell? ⟨wr.heap.size, 1, none⟩ = some (.int .i64 cw) := blk_cell HE.out.ck 1
        have a2 : wa.cell? ⟨wr.heap.size, 2, none⟩ = some (.int .i64 cf) := blk_cell HE.out.ck 2
        have a3 : wa.cell? ⟨wr.heap.size, 3, none⟩ = some (.int .i64 cb) := blk_cell HE.out.ck 3
        have a4 : wa.cell? ⟨wr.heap.size, 4, none⟩ = some (.int .i64 ca) := blk_cell HE.out.ck 4
        have HB6 := Lib.hid (Below.alloc (Below.refl wa.heap.size wa) (Nat.le_refl _) (.cells #[.int .i32 cr, .int .i64 cw, .int .i64 cf, .int .i64 cb, .int .i64 ca] 38))
        go_wp2_with (at_builtin; refine held ?_)
        unfold Held
        refine wpList_appD cells_elem rfl rfl w3.heap.size (ownC_below HRO.out HB6.out) rfl (reads_cel wa _ _ _ _ _ _) rfl (cel_one cr cw cf cb ca) (by unfold maxLen; omega) (by omega) (by have := (HE.out.below HB6.out).s.gb.size; omega) ?_
        intro v7 w7 o7 g7 n7
        have HE7 := Lib.hid (HE.out.s.push HB6.out (x := ⟨cr, cw, ⟨cf, cb, ca⟩⟩) (by rw [H3.out.1]; exact o7) g7 n7)
        clear o7 g7 n7
        go_wp2_with fail
        go_roundw
        case rel => exact ⟨k + 1, L2, by omega, by go_num, by
          show SpD _ _ _ _ _ _ _
          rw [HNY.out]
          exact HE7.out, by
          show _ ∧ _
          rw [HNY.out]
          have h3 := H3.out
          have h2 := HB2.out
          refine ⟨?_, by show st3.done.length ≤ k + 1; omega⟩
          show (st3.cur ++ [_]).length ≤ cols
          rw [List.length_append, List.length_singleton]; omega⟩
        case measure => simp [intOf]; omega
    · have hkn : k = l.length := by omega
      subst hkn
      have d1 : decide ((l.length : Int) < (l.length : Int)) = false := decide_eq_false (by omega)
      have d1' : decide (l.length < l.length) = false := decide_eq_false (by omega)
      rw [List.take_length] at HS HB
      have HSG := Lib.hid (show splitG l cols mk = spRun cols mk ⟨[], [], none⟩ 0 l from rfl)
      generalize hst : spRun cols mk ⟨[], [], none⟩ 0 l = st at *
      have HST := Lib.hid hst
      clear hst
      obtain ⟨xa, xc, rfl⟩ := ownC_sl HS.out.row
      have hlx := ownC_ln Tryz.underlying42 HS.out.row
      obtain ⟨ya, yc, rfl⟩ := ownC_sl HS.out.rows.own
      have hly := ownC_ln Tryz.underlying62 HS.out.rows.own
      have hcl := HB.out.1
      have HLL := Lib.hid (show L.length = st.done.length by rw [← HS.out.lr, List.length_map])
      have hdl : L.length ≤ 10000000 := by have := HB.out.2; have := HLL.out; omega
      have HBa := Lib.hid ((Below.refl wr.heap.size wr).alloc (Nat.le_refl _) (.cells #[] 38))
      have HEa := Lib.hid (own_empty wr 38 5)
      have HRa := Lib.hid (ownC_below HS.out.row HBa.out)
      obtain ⟨m, hm⟩ : ∃ m, m = cols - st.cur.length := ⟨_, rfl⟩
      have hwm : IntKind.i64.wrap ((cols : Int) - (st.cur.length : Int)) = (m : Int) := by rw [wrap64_id _ (by omega) (by omega)]; omega
      have HM := Lib.hid hm
      have hmb : m ≤ 250 ∧ st.cur.length + m = cols := by omega
      clear hm
      go_wp2_with (at_builtin; refine held ?_)
      unfold Held
      refine wpList_appD cells_elem rfl rfl wr.heap.size HEa.out rfl (ownC_reads HRa.out) rfl (cvals_one _) (by unfold maxLen; omega) (by omega) (by simp) ?_
      rw [List.nil_append, Nat.zero_add]
      intro v5 w5 o5 g5 n5
      have HB5 := Lib.hid (show Below wr.heap.size wr w5 from HBa.out.grown g5 HBa.out.size (fun q hq => by simp only [Value.ownBlock] at hq; injection hq with hq; omega))
      have HO5 := Lib.hid o5
      clear o5 g5 n5 HBa HEa HRa
      go_wp2_with fail
      refine (refPlain_any w5).mono ?_
      rintro e w6 ⟨rfl, b6⟩
      have HB6 := Lib.hid b6
      clear b6
      go_wp2_with fail
      refine (blanksD_any m plainS w6 (by omega)).mono ?_
      rintro e w7 ⟨v7, rfl, b7, o7⟩
      have HB7 := Lib.hid (HB6.out.trans (b7.mono HB6.out.size))
      have HO7 := Lib.hid o7
      clear b7 o7 HB6
      go_wp2_with (at_builtin; refine held ?_)
      unfold Held
      refine wpList_appD cells_elem rfl rfl wr.heap.size (ownC_below HO5.out HB7.out) rfl (ownC_reads HO7.out) rfl (cvals_one _) (by unfold maxLen; omega) (by omega) (by have := HB5.out.size; have := HB7.out.size; omega) ?_
      intro v8 w8 o8 g8 n8
      have hlt5 := ownC_lt HO5.out
      have HW8 := Lib.hid (show Below wr.heap.size wr w8 from (HB5.out.trans (HB7.out.mono HB5.out.size)).grown g8 (by have := HB5.out.size; have := HB7.out.size; omega) (fun q hq => by have := (hlt5 q hq).1; omega))
      have HS8 := Lib.hid (HS.out.rerow HW8.out (st.cur ++ List.replicate m (blankC plainS)) (by
        rw [List.length_append, List.length_replicate, cvals_append]
        exact o8))
      clear o8 g8 n8 hlt5
      have hgb8 := HS8.out.gb
      have HC8 := Lib.hid (show 0 < (st.cur ++ List.replicate m (blankC plainS)).length by rw [List.length_append, List.length_replicate]; omega)
      have HL8 := Lib.hid (show (st.cur ++ List.replicate m (blankC plainS)).length = st.cur.length + m by rw [List.length_append, List.length_replicate])
      have HKL8 := Lib.hid (blk_grown HKL.out hgb8 (fun e => by injection e with e; omega))
      have HKR8 := Lib.hid (blk_grown HKR.out hgb8 (fun e => by injection e with e; omega))
      obtain ⟨st8, hst8⟩ : ∃ s, s = ({ st with cur := st.cur ++ List.replicate m (blankC plainS) } : Sp) := ⟨_, rfl⟩
      rw [← hst8] at HS8
      have HE8 := Lib.hid hst8
      have HTD := Lib.hid (show st8.told = st.told by rw [hst8])
      have HCL8 := Lib.hid (show st8.cur.length = st.cur.length + m by rw [hst8]; exact HL8.out)
      clear hst8 hgb8 hlx hly HL8 HC8
      obtain ⟨xb, xo, xk, hv8, _, _⟩ := ownC_pos HS8.out.row (by have := HCL8.out; omega)
      subst hv8
      have HQ := Lib.hid (show (Value.slice (some ⟨xb, xo, none⟩) st8.cur.length xk).ownBlock = some xb from rfl)
      have hpk := HS8.out.pk
      have s2 : w8.drew.cell? ⟨w.heap.size, 2, none⟩ = some (.bool wp) := blk_cell HKL8.out 2
      have t0 : w8.drew.cell? ⟨w.heap.size + 2, 0, none⟩ = some (.int .i64 (saidX st8.told)) := blk_cell hpk 0
      have t1 : w8.drew.cell? ⟨w.heap.size + 2, 1, none⟩ = some (.int .i64 (saidY st8.told)) := blk_cell hpk 1
      have HSZ8 := Lib.hid (show w3.heap.size ≤ w8.heap.size from HS8.out.gb.size)
      have hpl := heap_lt HKL8.out
      have hpr := heap_lt hpk
      clear hpk
      go_upto_region 22 with fail
      refine wpL_begin (c := 9) (S := (fun bb w' => True ∧ (bb = false → w'.cell? ⟨w.heap.size, 2, none⟩ = some (.bool wp) ∧ w'.cell? ⟨w.heap.size + 2, 0, none⟩ = some (.int .i64 (saidX st8.told)) ∧ w'.cell? ⟨w.heap.size + 2, 1, none⟩ = some (.int .i64 (saidY st8.told))))) (by kernel_rfl) (⟨trivial, fun _ => ⟨s2, t0, t1⟩⟩) (fun _ => ?_)
      refine wpL_tk false 0 (⟨trivial, fun _ => ⟨s2, t0, t1⟩⟩) ?_
      refine wpL_tk false 1 (⟨trivial, fun _ => ⟨s2, t0, t1⟩⟩) ?_
      refine wpL_tk false 2 (⟨trivial, fun _ => ⟨s2, t0, t1⟩⟩) ?_
      refine wpL_td 3 (⟨trivial, fun _ => ⟨s2, t0, t1⟩⟩) ?_
      refine wpL_tk false 4 (⟨trivial, fun _ => ⟨s2, t0, t1⟩⟩) ?_
      refine wpL_td 7 (⟨trivial, fun _ => ⟨s2, t0, t1⟩⟩) ?_
      refine wpL_on false 5 fun K hK => ?_
      refine wanted_on rfl ?_
      go_wp2_with fail
      have HB9 := Lib.hid ((((Below.refl w8.heap.size w8)).alloc (Nat.le_refl _) (.cells #[.slice (some ⟨xb, xo, none⟩) st8.cur.length xk, .bool wp] 96)).drew)
      have y2 := cell_below HB9.out s2
      have y0 := cell_below HB9.out t0
      have y1 := cell_below HB9.out t1
      refine hK.out _ _ (⟨trivial, fun _ => ⟨y2, y0, y1⟩⟩) (fun _ => ?_)
      clear hK K 
      try simp only [Act.put, List.setIfInBounds_toArray, List.set_cons_zero, List.set_cons_succ]
      refine wpL_on false 6 fun K hK => ?_
      apply step_appS rowsD_elem
      case hgd => rfl
      case ho => rfl
      case hown => exact (HS8.out.below HB9.out).rows.own
      case hs => rfl
      case hr => exact src_reads Tryz.underlying62 (reads_row _ _ _ _) (row_one _ _ _ _)
      case hx => rfl
      case h63 => unfold maxLen; omega
      case hbytes => omega
      case hbase => (have := HSZ8.out; have := HB9.out.size; omega)
      intro v9 w9 o9 g9 n9
      have HF := Lib.hid (HS8.out.flush HQ.out HB9.out wp o9 g9 n9)
      obtain ⟨va9, vc9, rfl⟩ := ownC_sl o9
      have hgr := HF.out.gb
      have hk9 := blk_grown HKL.out hgr (fun e => by injection e with e; omega)
      have hr9 := blk_grown HKR.out hgr (fun e => by injection e with e; omega)
      have z2 : w9.cell? ⟨w.heap.size, 2, none⟩ = some (.bool wp) := blk_cell hk9 2
      have z0 : w9.cell? ⟨w.heap.size + 2, 0, none⟩ = some (.int .i64 (saidX st8.told)) := blk_cell HF.out.pk 0
      have z1 : w9.cell? ⟨w.heap.size + 2, 1, none⟩ = some (.int .i64 (saidY st8.told)) := blk_cell HF.out.pk 1
      have HR9 := Lib.hid hr9
      clear o9 g9 n9 hgr hk9 hr9
      refine hK.out _ _ (⟨trivial, fun _ => ⟨z2, z0, z1⟩⟩) (fun _ => ?_)
      clear hK K 
      try simp only [Act.put, List.setIfInBounds_toArray, List.set_cons_zero, List.set_cons_succ]
      refine wpL_tk false 8 (⟨trivial, fun _ => ⟨z2, z0, z1⟩⟩) ?_
      refine wpL_on true 9 fun K hK => ?_
      refine wanted_on rfl ?_
      have hst := run_storeVar_row (P := Tryz.prog) w9 (w.heap.size + 1) 51 51 _ #[.int .i64 (saidX st8.told), .int .i64 (saidY st8.told)] HR9.out (by kernel_rfl) rfl (by simp [Value.oneCell'])
      refine wp_storeR _ _ _ rfl hst rfl rfl ?_
      clear hst
      refine hK.out _ _ (⟨trivial, fun e => by cases e⟩) (fun _ => ?_)
      clear hK K 
      try simp only [Act.put]
      refine wpL_done (by kernel_rfl) ?_ _
      have hgs := gb_setRow w9 (w.heap.size + 1) #[.int .i64 (saidX st8.told), .int .i64 (saidY st8.told)]
      have hsz3 := HSZ.out
      have hsz9 := HF.out.gb.size
      have hr2' := setRow_blk (cells := #[.int .i64 (saidX st8.told), .int .i64 (saidY st8.told)]) HR9.out
      have HRW := Lib.hid (HF.out.rows.grown hgs (fun k hk => by injection hk with hk; omega))
      have HBB := Lib.hid (show Below w.heap.size w (w9.setRow (w.heap.size + 1) #[.int .i64 (saidX st8.told), .int .i64 (saidY st8.told)]) from
        (HBW.out.grown HF.out.gb (by omega) (by intro k' hk'; injection hk' with hk'; omega)).grown hgs (by omega) (by intro k' hk'; injection hk' with hk'; omega))
      have HME := Lib.hid (show st8.done ++ [⟨st8.cur, wp⟩] = wrapLast (spEnd cols (splitG l cols mk)) wp by
        rw [spEnd_wrap, HSG.out, HE8.out, HM.out])
      have HTT := Lib.hid (show (splitG l cols mk).told = st8.told by rw [HSG.out, HTD.out])
      clear s2 t0 t1 y2 y0 y1 z2 z0 z1 hgs
      go_wp2_with fail
      (try simp only [Exit.inBlock, Exit.then])
      refine retRow3 rfl rfl rfl rfl hr2' Tryz.underlying51 rfl (by kernel_rfl) ?_
      have hr1 : RowsAt w.heap.size (w9.setRow (w.heap.size + 1) #[.int .i64 (saidX st8.told), .int .i64 (saidY st8.told)]) (.slice va9 (L.length + 1) vc9) (L ++ [((Value.slice (some ⟨xb, xo, none⟩) st8.cur.length xk), (⟨st8.cur, wp⟩ : Rw))]) := ⟨ownC_mono HRW.out.own (by omega), fun x hx => ownC_mono (HRW.out.cells x hx) (by omega), HRW.out.nd, HRW.out.ap⟩
      rw [HTT.out]
      exact ⟨_, rfl, HBB.out, _, hr1, HF.out.lr.trans HME.out⟩
end Go.Proofs.YtjclgoiclbkgjaaGreatDoor

/- Walk of the document's grid: lines; the state in memory. -/
namespace Go.Proofs.YtjclgoiclbkgjaaGreatDoor
open Go.RowKit

def lnVals (L : List (Value × Ln)) : List Value := L.flatMap fun x => [x.1, .int .i64 x.2.pl, .bool x.2.wrap]
theorem lnVals_append (L M : List (Value × Ln)) : lnVals (L ++ M) = lnVals L ++ lnVals M := by unfold lnVals; rw [List.flatMap_append]
theorem lnVals_len (L : List (Value × Ln)) : (lnVals L).length = L.length * 3 := by
  induction L with
  | nil => rfl
  | cons x L ih => 
    have : lnVals (x :: L) = [x.1, .int .i64 x.2.pl, .bool x.2.wrap] ++ lnVals L := rfl
    rw [this, List.length_append, ih, List.length_cons]; simp; omega
theorem lnVals_mid (A C : List (Value × Ln)) (lv : Value) (c : Ln) : lnVals (A ++ (lv, c) :: C) = lnVals A ++ lv :: .int .i64 c.pl :: .bool c.wrap :: lnVals C := by
  rw [lnVals_append]; rfl
theorem lnVals_set0 (A C : List (Value × Ln)) (lv lv' : Value) (c c' : Ln) (h1 : c'.pl = c.pl) (h2 : c'.wrap = c.wrap) : putAt (lnVals (A ++ (lv, c) :: C)) (A.length * 3) [lv'] = lnVals (A ++ (lv', c') :: C) := by
  rw [lnVals_mid, lnVals_mid, putAt_mid _ _ _ _ _ (by rw [lnVals_len]), h1, h2]
theorem lnVals_set1 (A C : List (Value × Ln)) (lv : Value) (c : Ln) (x : Int) : putAt (lnVals (A ++ (lv, c) :: C)) (A.length * 3 + 1) [.int .i64 x] = lnVals (A ++ (lv, ⟨c.cells, x, c.wrap⟩) :: C) := by
  have e : lnVals (A ++ (lv, c) :: C) = (lnVals A ++ [lv]) ++ .int .i64 c.pl :: .bool c.wrap :: lnVals C := by rw [lnVals_mid]; simp
  rw [e, lnVals_mid, putAt_mid _ _ _ _ _ (by rw [List.length_append, lnVals_len]; rfl)]
  simp
theorem lnVals_set2 (A C : List (Value × Ln)) (lv : Value) (c : Ln) (is : Bool) : putAt (lnVals (A ++ (lv, c) :: C)) (A.length * 3 + 2) [.bool is] = lnVals (A ++ (lv, ⟨c.cells, c.pl, is⟩) :: C) := by
  have e : lnVals (A ++ (lv, c) :: C) = (lnVals A ++ [lv, .int .i64 c.pl]) ++ .bool c.wrap :: lnVals C := by rw [lnVals_mid]; simp
  rw [e, lnVals_mid, putAt_mid _ _ _ _ _ (by rw [List.length_append, lnVals_len]; rfl)]
  simp
/-- Lines in memory. -/
structure LnsAt (B : Nat) (w : World) (v : Value) (L : List (Value × Ln)) : Prop where
  own : OwnC w B 3 v L.length (lnVals L)
  cells : ∀ x ∈ L, OwnC w B 5 x.1 x.2.cells.length (cvals x.2.cells)
  nd : (L.map (·.1.ownBlock)).Nodup
  ap : ∀ x ∈ L, ∃ q, x.1.ownBlock = some q ∧ v.ownBlock ≠ some q
theorem LnsAt.below {B : Nat} {w w' : World} {v : Value} {L : List (Value × Ln)} (h : LnsAt B w v L) (b : Below w.heap.size w w') : LnsAt B w' v L :=
  ⟨ownC_below h.own b, fun x hx => ownC_below (h.cells x hx) b, h.nd, h.ap⟩
theorem lnsAt_nil (B : Nat) (w : World) : LnsAt B w (.slice none 0 0) [] := ⟨ownC_nil _ _ _, fun x hx => by simp at hx, by simp, fun x hx => by simp at hx⟩
/-- The lines D are whole, the line c (its cells are lv) is being filled. -/
structure LnAt (B : Nat) (w : World) (v : Value) (D : List (Value × Ln)) (lv : Value) (c : Ln) : Prop where
  own : OwnC w B 3 v (D.length + 1) (lnVals (D ++ [(lv, c)]))
  cells : ∀ x ∈ D, OwnC w B 5 x.1 x.2.cells.length (cvals x.2.cells)
  last : OwnC w B 5 lv c.cells.length (cvals c.cells)
  nd : (D.map (·.1.ownBlock)).Nodup
  ap : ∀ x ∈ D, ∃ q, x.1.ownBlock = some q ∧ v.ownBlock ≠ some q ∧ lv.ownBlock ≠ some q
  apl : ∀ q, lv.ownBlock = some q → v.ownBlock ≠ some q
theorem LnAt.below {B : Nat} {w w' : World} {v lv : Value} {D : List (Value × Ln)} {c : Ln} (h : LnAt B w v D lv c) (b : Below w.heap.size w w') : LnAt B w' v D lv c :=
  ⟨ownC_below h.own b, fun x hx => ownC_below (h.cells x hx) b, ownC_below h.last b, h.nd, h.ap, h.apl⟩
theorem LnAt.start {B : Nat} {w w2 w3 : World} {v v' : Value} {L : List (Value × Ln)} (h : LnsAt B w v L) (bl : Below w.heap.size w w2)
    (o3 : OwnC w3 B 3 v' (L.length + 1) (lnVals L ++ [.slice none 0 0, .int .i64 (-1), .bool false])) (g : w2.grownBy w3 v.ownBlock) (hn : ∀ k, v'.ownBlock = some k → v.ownBlock = some k ∨ w2.heap.size ≤ k) : LnAt B w3 v' L (.slice none 0 0) ln0 := by
  have h2 := h.below bl
  refine ⟨by rw [lnVals_append]; exact o3, fun x hx => ?_, ownC_nil _ _ _, h.nd, fun x hx => ?_, fun q hq => by simp [Value.ownBlock] at hq⟩
  · obtain ⟨q, e1, e2⟩ := h.ap x hx
    refine ownC_grown (h2.cells x hx) g (fun k hk e => ?_)
    rw [e1] at hk; injection hk with hk; exact e2 (by rw [e, hk])
  · obtain ⟨q, e1, e2⟩ := h.ap x hx
    refine ⟨q, e1, fun e => ?_, by simp [Value.ownBlock]⟩
    rcases hn q e with h1 | h1
    · exact e2 h1
    · have := (ownC_lt (h2.cells x hx) q e1).2; omega
theorem LnAt.lns {B q0 : Nat} {w : World} {v lv : Value} {D : List (Value × Ln)} {c : Ln} (h : LnAt B w v D lv c) (hq0 : lv.ownBlock = some q0) : LnsAt B w v (D ++ [(lv, c)]) := by
  refine ⟨by rw [List.length_append]; exact h.own, fun x hx => ?_, ?_, fun x hx => ?_⟩
  · rcases List.mem_append.1 hx with hx | hx
    · exact h.cells x hx
    · rw [List.mem_singleton] at hx; subst hx; exact h.last
  · rw [List.map_append, List.nodup_append]
    refine ⟨h.nd, by simp, fun a ha c hc e => ?_⟩
    obtain ⟨x, hx, rfl⟩ := List.mem_map.1 ha
    simp only [List.map_cons, List.map_nil, List.mem_singleton] at hc
    subst hc
    obtain ⟨q, e1, _, e3⟩ := h.ap x hx
    exact e3 (by rw [← e, e1])
  · rcases List.mem_append.1 hx with hx | hx
    · obtain ⟨q, e1, e2, _⟩ := h.ap x hx
      exact ⟨q, e1, e2⟩
    · rw [List.mem_singleton] at hx; subst hx; exact ⟨q0, hq0, h.apl q0 hq0⟩
theorem LnsAt.last {B : Nat} {w : World} {v lv : Value} {D : List (Value × Ln)} {c : Ln} (h : LnsAt B w v (D ++ [(lv, c)])) : LnAt B w v D lv c := by
  have hm : (lv, c) ∈ D ++ [(lv, c)] := List.mem_append_right _ (List.mem_singleton.2 rfl)
  have hnd := h.nd
  rw [List.map_append, List.nodup_append] at hnd
  refine ⟨by have := h.own; rw [List.length_append] at this; exact this, fun x hx => h.cells x (List.mem_append_left _ hx), h.cells _ hm, hnd.1, fun x hx => ?_, fun q hq => ?_⟩
  · obtain ⟨q, e1, e2⟩ := h.ap x (List.mem_append_left _ hx)
    exact ⟨q, e1, e2, fun e => hnd.2.2 _ (List.mem_map_of_mem hx) _ (List.mem_singleton.2 rfl) (by rw [e1]; exact e.symm)⟩
  · obtain ⟨q2, e1, e2⟩ := h.ap _ hm
    intro e
    rw [show lv.ownBlock = some q2 from e1] at hq
    injection hq with hq
    exact e2 (by rw [e, hq])
theorem LnAt.cellsx {B : Nat} {w : World} {v lv : Value} {D : List (Value × Ln)} {c : Ln} (h : LnAt B w v D lv c) : ∃ b off k, v = .slice (some ⟨b, off, none⟩) (D.length + 1) k ∧ D.length + 1 ≤ k ∧ k ≤ maxLen ∧
    w.cell? ⟨b, off + D.length * 3, none⟩ = some lv ∧ w.frozen? ⟨b, off + D.length * 3, none⟩ = false ∧ w.cell? ⟨b, off + D.length * 3 + 1, none⟩ = some (.int .i64 c.pl) ∧ w.frozen? ⟨b, off + D.length * 3 + 1, none⟩ = false ∧
    w.cell? ⟨b, off + D.length * 3 + 2, none⟩ = some (.bool c.wrap) ∧ w.frozen? ⟨b, off + D.length * 3 + 2, none⟩ = false ∧ b < w.heap.size ∧ B ≤ b := by
  obtain ⟨b, off, k, rfl, h1, h2⟩ := ownC_pos h.own (by omega)
  have hb := ownC_lt h.own b rfl
  have e1 : lnVals (D ++ [(lv, c)]) = lnVals D ++ [lv, .int .i64 c.pl, .bool c.wrap] := by rw [lnVals_append]; rfl
  have hl : (lnVals D).length = D.length * 3 := lnVals_len D
  obtain ⟨a1, a2⟩ := ownC_cellx h.own (D.length * 3) (by omega)
  obtain ⟨a3, a4⟩ := ownC_cellx h.own (D.length * 3 + 1) (by omega)
  obtain ⟨a5, a6⟩ := ownC_cellx h.own (D.length * 3 + 2) (by omega)
  rw [e1, List.getElem?_append_right (by omega), hl, Nat.sub_self] at a1
  rw [e1, List.getElem?_append_right (by omega), hl, show D.length * 3 + 1 - D.length * 3 = 1 by omega] at a3
  rw [e1, List.getElem?_append_right (by omega), hl, show D.length * 3 + 2 - D.length * 3 = 2 by omega] at a5
  exact ⟨b, off, k, rfl, h1, h2, a1, a2, a3, a4, a5, a6, hb.2, hb.1⟩
/-- A row's cells behind the line's. -/
theorem LnAt.push {B : Nat} {w w2 w3 : World} {v lv lv' : Value} {D : List (Value × Ln)} {c : Ln} (h : LnAt B w v D lv c) {b off k : Nat} (hv : v = .slice (some ⟨b, off, none⟩) (D.length + 1) k) (bl : Below w.heap.size w w2) {cs : List Cel}
    (o3 : OwnC w3 B 5 lv' (c.cells.length + cs.length) (cvals c.cells ++ cvals cs)) (g : w2.grownBy w3 lv.ownBlock) (hn : ∀ k, lv'.ownBlock = some k → lv.ownBlock = some k ∨ w2.heap.size ≤ k) :
    LnAt B (w3.setCell ⟨b, off + D.length * 3, none⟩ lv') v D lv' ⟨c.cells ++ cs, c.pl, c.wrap⟩ := by
  have hvb : v.ownBlock = some b := by rw [hv]; rfl
  have hb := ownC_lt h.own b hvb
  have hbs := bl.size
  have g4 : w3.grownBy (w3.setCell ⟨b, off + D.length * 3, none⟩ lv') (some b) := gb_set (gb_refl _ _) _ _
  have hlb : lv'.ownBlock ≠ some b := fun e => by
    rcases hn b e with h1 | h1
    · exact h.apl b h1 hvb
    · omega
  refine ⟨?_, fun y hy => ?_, ?_, h.nd, fun y hy => ?_, fun q hq e => ?_⟩
  · have h3 := ownC_grown (ownC_below h.own bl) g (fun k hk e => h.apl k e hk)
    rw [hv] at h3
    have h4 := ownC_put h3 (D.length * 3) [lv'] (by simp; omega)
    rw [lnVals_set0 D [] lv lv' c ⟨c.cells ++ cs, c.pl, c.wrap⟩ rfl rfl] at h4
    rw [hv]
    exact h4
  · obtain ⟨q, e1, e2, e3⟩ := h.ap y hy
    refine ownC_grown (ownC_grown (ownC_below (h.cells y hy) bl) g (fun k hk e => ?_)) g4 (fun k hk e => ?_)
    · rw [e1] at hk; injection hk with hk; exact e3 (by rw [e, hk])
    · rw [e1] at hk; injection hk with hk; exact e2 (by rw [hvb, e, hk])
  · show OwnC _ B 5 lv' (c.cells ++ cs).length (cvals (c.cells ++ cs))
    rw [List.length_append, cvals_append]
    exact ownC_grown o3 g4 (fun k hk e => hlb (by rw [hk, e]))
  · obtain ⟨q, e1, e2, e3⟩ := h.ap y hy
    refine ⟨q, e1, e2, fun e => ?_⟩
    rcases hn q e with h1 | h1
    · exact e3 h1
    · have := (ownC_lt (h.cells y hy) q e1).2; omega
  · rcases hn q hq with h1 | h1
    · exact h.apl q h1 e
    · have := (ownC_lt h.own q e).2; omega
theorem LnAt.set {B : Nat} {w : World} {v lv : Value} {D : List (Value × Ln)} {c c' : Ln} (h : LnAt B w v D lv c) {b off k j : Nat} {u : Value} (hv : v = .slice (some ⟨b, off, none⟩) (D.length + 1) k) (hj : j + 1 ≤ (D.length + 1) * 3) (hc : c'.cells = c.cells)
    (hp : putAt (lnVals (D ++ [(lv, c)])) j [u] = lnVals (D ++ [(lv, c')])) : LnAt B (w.setCell ⟨b, off + j, none⟩ u) v D lv c' := by
  have hvb : v.ownBlock = some b := by rw [hv]; rfl
  have g4 : w.grownBy (w.setCell ⟨b, off + j, none⟩ u) (some b) := gb_set (gb_refl _ _) _ _
  refine ⟨?_, fun y hy => ?_, by rw [hc]; exact ownC_grown h.last g4 (fun k hk e => h.apl k hk (by rw [hvb, e])), h.nd, h.ap, h.apl⟩
  · have h3 := h.own
    rw [hv] at h3
    have h4 := ownC_put h3 j [u] (by simp; omega)
    rw [hp] at h4
    rw [hv]
    exact h4
  · obtain ⟨q, e1, e2, e3⟩ := h.ap y hy
    refine ownC_grown (h.cells y hy) g4 (fun k hk e => ?_)
    rw [e1] at hk; injection hk with hk; exact e2 (by rw [hvb, e, hk])
theorem LnAt.place {B : Nat} {w : World} {v lv : Value} {D : List (Value × Ln)} {c : Ln} (h : LnAt B w v D lv c) {b off k : Nat} (hv : v = .slice (some ⟨b, off, none⟩) (D.length + 1) k) (x : Int) : LnAt B (w.setCell ⟨b, off + D.length * 3 + 1, none⟩ (.int .i64 x)) v D lv ⟨c.cells, x, c.wrap⟩ :=
  h.set (j := D.length * 3 + 1) (off := off) hv (by omega) rfl (lnVals_set1 D [] lv c x)
theorem LnAt.mark {B : Nat} {w : World} {v lv : Value} {D : List (Value × Ln)} {c : Ln} (h : LnAt B w v D lv c) {b off k : Nat} (hv : v = .slice (some ⟨b, off, none⟩) (D.length + 1) k) (is : Bool) : LnAt B (w.setCell ⟨b, off + D.length * 3 + 2, none⟩ (.bool is)) v D lv ⟨c.cells, c.pl, is⟩ :=
  h.set (j := D.length * 3 + 2) (off := off) hv (by omega) rfl (lnVals_set2 D [] lv c is)
/-- A line's end is dropped. -/
theorem LnsAt.trim {B : Nat} {w : World} {v lv lv' : Value} {A C : List (Value × Ln)} {c c' : Ln} {b off k n q : Nat} (h : LnsAt B w v (A ++ (lv, c) :: C)) (hn : n = (A ++ (lv, c) :: C).length) (hv : v = .slice (some ⟨b, off, none⟩) n k) (h1 : c'.pl = c.pl) (h2 : c'.wrap = c.wrap)
    (hq : lv.ownBlock = some q) (hq2 : lv'.ownBlock = some q) (ho : OwnC w B 5 lv' c'.cells.length (cvals c'.cells)) : LnsAt B (w.setCell ⟨b, off + A.length * 3, none⟩ lv') v (A ++ (lv', c') :: C) := by
  have hvb : v.ownBlock = some b := by rw [hv]; rfl
  have hb := ownC_lt h.own b hvb
  have g4 : w.grownBy (w.setCell ⟨b, off + A.length * 3, none⟩ lv') (some b) := gb_set (gb_refl _ _) _ _
  have hl : (A ++ (lv', c') :: C).length = (A ++ (lv, c) :: C).length := by simp
  have hm : (lv, c) ∈ A ++ (lv, c) :: C := List.mem_append_right _ (List.mem_cons_self ..)
  have hne : v.ownBlock ≠ some q := by
    obtain ⟨q2, e1, e2⟩ := h.ap _ hm
    rw [show lv.ownBlock = some q2 from e1] at hq
    injection hq with hq
    rw [← hq]; exact e2
  have hcase : ∀ x ∈ A ++ (lv', c') :: C, x ∈ A ++ (lv, c) :: C ∨ x = (lv', c') := fun x hx => by
    rcases List.mem_append.1 hx with hx | hx
    · exact .inl (List.mem_append_left _ hx)
    · rcases List.mem_cons.1 hx with hx | hx
      · exact .inr hx
      · exact .inl (List.mem_append_right _ (List.mem_cons_of_mem _ hx))
  refine ⟨?_, fun x hx => ?_, ?_, fun x hx => ?_⟩
  · rw [hl]
    have h3 := h.own
    rw [hv, hn] at h3
    have h4 := ownC_put h3 (A.length * 3) [lv'] (by simp; omega)
    rw [lnVals_set0 A C lv lv' c c' h1 h2] at h4
    rw [hv, hn]
    exact h4
  · rcases hcase x hx with hx | hx
    · obtain ⟨q2, e1, e2⟩ := h.ap x hx
      refine ownC_grown (h.cells x hx) g4 (fun k hk e => ?_)
      rw [e1] at hk; injection hk with hk; exact e2 (by rw [hvb, e, hk])
    · subst hx
      refine ownC_grown ho g4 (fun k hk e => ?_)
      rw [show lv'.ownBlock = some q from hq2] at hk
      injection hk with hk; exact hne (by rw [hvb, e, hk])
  · have := h.nd
    rw [List.map_append, List.map_cons] at this ⊢
    rw [show (lv', c').1.ownBlock = (lv, c).1.ownBlock from hq2.trans hq.symm]
    exact this
  · rcases hcase x hx with hx | hx
    · exact h.ap x hx
    · subst hx; exact ⟨q, hq2, hne⟩
end Go.Proofs.YtjclgoiclbkgjaaGreatDoor
