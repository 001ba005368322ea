/- Package grid, texts laid together: I2 J1 J2 H1. -/
import Derived.Test.YtjclgoiclbkgjaaDoorK13
/- What the law GridFlows calls: runes, sameRunes. -/
namespace Go.Proofs.YtjclgoiclbkgjaaDoor
open Go.RowKit
attribute [local go_sem ↓] Go.wp_at_zero Go.wp_at_succ

theorem take_sameI {la lb : List Int} (k : Nat) (ha : k < la.length) (hb : k < lb.length) (h : la.take k = lb.take k) (e : la.getD k 0 = lb.getD k 0) : la.take (k + 1) = lb.take (k + 1) := by
  rw [take_succ_getD la 0 k ha, take_succ_getD lb 0 k hb, h, e]
theorem ownC_i32 {w : World} {base b off n c : Nat} {l : List Int} (h : OwnC w base 1 (.slice (some ⟨b, off, none⟩) n c) n (l.map (Value.int .i32))) (k : Nat) (hk : k < l.length) (hl : l.length = n) :
    w.cell? ⟨b, off + k, none⟩ = some (.int .i32 (l.getD k 0)) := by
  rw [(ownC_cellx h k (by omega)).1, List.getElem?_map, getD_of l k hk]; rfl
set_option maxRecDepth 100000 in
set_option maxHeartbeats 2000000 in
theorem sameRunes_any (la lb : List Int) (va vb : Value) (w : World) (ha : OwnC w 0 1 va la.length (la.map (Value.int .i32))) (hb : OwnC w 0 1 vb lb.length (lb.map (Value.int .i32))) (hl : la.length ≤ 1000000) (hl2 : lb.length ≤ 1000000) (he : la = lb) :
    Calls Tryd.prog 21 #[va, vb] w fun e w' => e = .returned (.bool true) ∧ Below w.heap.size w w' := by
  have HA := Lib.hid ha
  have HB := Lib.hid hb
  have ha0 := ownC_ln Tryd.underlying35 ha
  have hb0 := ownC_ln Tryd.underlying35 hb
  subst he
  clear ha hb hl2
  go_enter Tryd.func21, Tryd.ntmps21
  go_upto_region 4 with fail
  go_loopw [5] (fun iv wr => ∃ k : Nat, k ≤ la.length ∧ iv = .int .i64 k ∧ Hid (Below w.heap.size w wr)) (fun iv _ => la.length - (intOf iv).toNat)
  case atStart => exact ⟨0, Nat.zero_le _, rfl, Below.refl _ _⟩
  case round =>
    obtain ⟨k, hk, rfl, HW⟩ := hrel
    by_cases hlt : k < la.length
    · have d1 : decide ((k : Int) < (la.length : Int)) = true := decide_eq_true (by omega)
      have d1' : decide (k < la.length) = true := decide_eq_true hlt
      have oa := ownC_below HA.out HW.out
      have ob := ownC_below HB.out HW.out
      obtain ⟨ba, fa, ca, e1, _, _⟩ := ownC_pos oa (by omega)
      obtain ⟨bb, fb, cb, e2, _, _⟩ := ownC_pos ob (by omega)
      subst e1 e2
      have p0 := ownC_i32 oa k hlt rfl
      have q0 := ownC_i32 ob k hlt rfl
      have hix1 := idx_at (P := Tryd.prog) (size := 1) Tryd.underlying35 (by kernel_rfl) ba fa la.length ca k hlt
      have hix2 := idx_at (P := Tryd.prog) (size := 1) Tryd.underlying35 (by kernel_rfl) bb fb la.length cb k hlt
      rw [Nat.mul_one] at hix1 hix2
      have hw6 : IntKind.i64.wrap ((k : Int) + 1) = (k : Int) + 1 := wrap64_id _ (by omega) (by omega)
      clear oa ob
      generalize la.getD k 0 = x at *
      have hb : (x != x) = false := by simp
      go_upto_region 6 with fail
      go_region_held3 (fun w' => w'.cell? ⟨ba, fa + k, none⟩ = some (.int .i32 x) ∧ w'.cell? ⟨bb, fb + k, none⟩ = some (.int .i32 x)) (go_keep) (fail)
      clear p0 q0
      go_wp2_with fail
      go_roundw
      case rel => exact ⟨k + 1, by omega, by go_num, HW.out.drew⟩
      case measure => simp [intOf]; omega
    · have d1 : decide ((k : Int) < (la.length : Int)) = false := decide_eq_false (by omega)
      have d1' : decide (k < la.length) = false := decide_eq_false hlt
      go_wp2_with fail
      exact ret1v rfl rfl rfl ⟨rfl, HW.out⟩
theorem runes32_elem : Elem Tryd.prog 35 21 1 4 (.int .i32 0) := ⟨Tryd.underlying35, by kernel_rfl, rfl, by decide⟩
theorem runesL_len (l : List Cel) : (runesL l).length ≤ l.length := by
  unfold runesL
  rw [List.length_map]
  exact List.length_filter_le _ _
theorem runesR_len (l : List Rw) (m : Nat) (h : ∀ r ∈ l, r.cells.length ≤ m) : (runesR l).length ≤ l.length * m := by
  induction l with
  | nil => simp [runesR]
  | cons r l ih =>
    have e : runesR (r :: l) = runesL r.cells ++ runesR l := by simp [runesR]
    have h1 := ih (fun x hx => h x (List.mem_cons_of_mem _ hx))
    have h2 := h r (List.mem_cons_self ..)
    have h3 := runesL_len r.cells
    rw [e, List.length_append, List.length_cons, Nat.add_mul]
    omega
theorem runesR_lim {g : Gr} (h : g.WF) : (runesR (g.old ++ g.rows)).length ≤ 1000000 := by
  have h1 := runesR_len (g.old ++ g.rows) 250 (fun r hr => by
    have hr : r ∈ g.rows ++ g.old := List.mem_append.2 (List.mem_append.1 hr).symm
    have := (h.ce r hr).1
    have := h.c2
    omega)
  have h2 : (g.old ++ g.rows).length ≤ 2120 := by
    have := h.ol
    have := h.li
    have := h.r2
    rw [List.length_append]; omega
  have h3 : (g.old ++ g.rows).length * 250 ≤ 2120 * 250 := Nat.mul_le_mul_right _ h2
  omega
theorem runesR_take (l : List Rw) (k : Nat) (hk : k < l.length) : runesR (l.take (k + 1)) = runesR (l.take k) ++ runesL (l.getD k noR).cells := by
  rw [take_succ_getD l noR k hk, runesR_append, runesR_one]
theorem runesL_take (l : List Cel) (k : Nat) (hk : k < l.length) : runesL (l.take (k + 1)) = runesL (l.take k) ++ if 0 < (l.getD k noC).width ∧ (l.getD k noC).rune ≠ 32 then [(l.getD k noC).rune] else [] := by
  rw [take_succ_getD l noC k hk, runesL_append]
  congr 1
  generalize l.getD k noC = c
  unfold runesL
  rw [List.filter_cons]
  by_cases h1 : 0 < c.width
  · by_cases h2 : c.rune = 32
    · simp [h2]
    · simp [h1, h2]
  · simp [h1]
set_option maxRecDepth 100000 in
set_option maxHeartbeats 4000000 in
theorem runes_any {T : Nat → Nat} {p : Nat} {w : World} {g : Gr} (h : GM T p w g) :
    Calls Tryd.prog 17 #[.pointer (some ⟨p, 0, none⟩)] w fun e w' => ∃ v, e = .returned v ∧ Below w.heap.size w w' ∧ OwnC w' w.heap.size 1 v (runesR (g.old ++ g.rows)).length ((runesR (g.old ++ g.rows)).map (Value.int .i32)) := by
  have hwf := h.wf
  have hol := hwf.ol
  have hli := hwf.li
  have hr2 := hwf.r2
  have HWF := Lib.hid hwf
  have H := Lib.hid h
  have hn2 : g.old.length + g.rows.length ≤ 2120 := by omega
  have HCL := Lib.hid (show ∀ k, (runesR ((g.old ++ g.rows).take k)).length ≤ 530000 from fun k => by
    have h1 := runesR_len ((g.old ++ g.rows).take k) 250 (fun r hr => by
      have hr := List.mem_of_mem_take hr
      have hr : r ∈ g.rows ++ g.old := by
        rcases List.mem_append.1 hr with hr | hr
        · exact List.mem_append_right _ hr
        · exact List.mem_append_left _ hr
      have := (HWF.out.ce r hr).1
      have := HWF.out.c2
      omega)
    have h2 : ((g.old ++ g.rows).take k).length ≤ 2120 := by rw [List.length_take, List.length_append]; omega
    have h3 : ((g.old ++ g.rows).take k).length * 250 ≤ 2120 * 250 := Nat.mul_le_mul_right _ h2
    omega)
  have HRA := Lib.hid (fun k hk => row_all g k hk)
  have HLE := Lib.hid (show (g.old ++ g.rows).length = g.old.length + g.rows.length from List.length_append)
  clear h hwf
  go_enter Tryd.func17, Tryd.ntmps17
  go_wp2_with fail
  refine (history_any H.out).mono ?_
  rintro e wx1 ⟨rfl, hx1⟩
  subst wx1
  have hwu : IntKind.i64.wrap (-(g.old.length : Int)) = -(g.old.length : Int) := wrap64_id _ (by omega) (by omega)
  go_upto_region 3 with fail
  clear hwu
  go_loopw [3, 4] (fun vv yv wr => ∃ (k : Nat) (ov : Value), ov = vv ∧ (k ≤ g.old.length + g.rows.length) ∧ yv = .int .i64 ((k : Int) - (g.old.length : Int)) ∧ Hid (Below w.heap.size w wr) ∧ Hid (OwnC wr w.heap.size 1 ov (runesR ((g.old ++ g.rows).take k)).length ((runesR ((g.old ++ g.rows).take k)).map (Value.int .i32)))) (fun _ yv _ => ((g.rows.length : Int) - intOf yv).toNat)
  case atStart => exact ⟨0, _, rfl, Nat.zero_le _, by go_num, Below.refl _ _, ownC_nil _ _ _⟩
  case round =>
    obtain ⟨k, ov, rfl, hk, rfl, HB, HO⟩ := hrel
    obtain ⟨wo, rfl⟩ : ∃ wo, wo = wr := ⟨wr, rfl⟩
    have HG := Lib.hid (H.out.below HB.out)
    by_cases hlt : k < g.old.length + g.rows.length
    · have d1 : decide (((k : Int) - (g.old.length : Int)) < (g.rows.length : Int)) = true := decide_eq_true (by omega)
      have hwy : IntKind.i64.wrap ((k : Int) - (g.old.length : Int) + 1) = (k : Int) - (g.old.length : Int) + 1 := wrap64_id _ (by omega) (by omega)
      have HR1 := Lib.hid (runesR_take (g.old ++ g.rows) k (by rw [HLE.out]; omega))
      have hcl1 := HCL.out (k + 1)
      have hcl0 := HCL.out k
      rw [HR1.out, List.length_append] at hcl1
      go_wp2_with fail
      refine (rowsN_any HG.out).mono ?_
      rintro e wx1 ⟨rfl, hx1⟩
      obtain ⟨wo, rfl⟩ : ∃ wo, wo = wx1 := ⟨wx1, rfl⟩
      subst hx1
      go_wp2_with fail
      refine (line_any HG.out ((k : Int) - (g.old.length : Int)) (by have := (wf_row HG.out.wf ((k : Int) - (g.old.length : Int))).1; omega)).mono ?_
      rintro e w2 ⟨lv, rfl, b2, o2⟩
      have HB2 := Lib.hid (HB.out.trans (b2.mono HB.out.size))
      have HO2 := Lib.hid (ownC_below HO.out b2)
      have hs2 := b2.size
      have HD2 := Lib.hid (show ∀ q, (0 = 0 → True) ∧ ∀ ov : Value, ov.ownBlock = some q → (OwnC wo w.heap.size 1 ov (runesR ((g.old ++ g.rows).take k)).length ((runesR ((g.old ++ g.rows).take k)).map (Value.int .i32))) → lv.ownBlock ≠ some q from fun q => ⟨fun _ => trivial, fun ov h1 h2 h3 => by
        have h4 := (ownC_lt h2 q h1).2
        have h5 := (ownC_lt o2 q h3).1
        omega⟩)
      have hll := (wf_row HG.out.wf ((k : Int) - (g.old.length : Int))).1
      have HDJ := Lib.hid (show ∀ q, ov.ownBlock = some q → lv.ownBlock ≠ some q from fun q h1 => (HD2.out q).2 ov h1 HO.out)
      rw [HRA.out k hlt] at o2 hll
      have HL2 := Lib.hid o2
      clear b2 o2 HD2
      generalize (g.old ++ g.rows).getD k noR = r at *
      generalize hbase : runesR ((g.old ++ g.rows).take k) = base at *
      clear hbase
      have hrl := fun x => runesL_len (r.cells.take x)
      have HRL := Lib.hid hrl
      clear hrl
      go_upto_region 7 with fail
      go_loopw [3, 6] (fun vv xv wi => ∃ (x : Nat) (ov : Value), ov = vv ∧ (x ≤ r.cells.length ∧ wo.heap.size ≤ wi.heap.size) ∧ xv = .int .i64 x ∧ Hid (Below w.heap.size w wi) ∧ Hid (OwnC wi w.heap.size 1 ov (base ++ runesL (r.cells.take x)).length ((base ++ runesL (r.cells.take x)).map (Value.int .i32))) ∧ Hid (OwnC wi wo.heap.size 5 lv r.cells.length (cvals r.cells)) ∧ Hid (∀ q, ov.ownBlock = some q → lv.ownBlock ≠ some q)) (fun _ xv _ => r.cells.length - (intOf xv).toNat)
      case atStart => exact ⟨0, _, rfl, ⟨Nat.zero_le _, hs2⟩, rfl, HB2, by rw [List.take_zero, show runesL [] = [] from rfl, List.append_nil]; exact HO2, HL2, HDJ⟩
      case round =>
        obtain ⟨x, ov, rfl, ⟨hx, hsi⟩, rfl, HBi, HOi, HLi, HDi⟩ := hrel
        obtain ⟨wi, rfl⟩ : ∃ wi, wi = wr := ⟨wr, rfl⟩
        have hln := ownC_ln Tryd.underlying51 HLi.out
        by_cases hxl : x < r.cells.length
        · have d2 : decide ((x : Int) < (r.cells.length : Int)) = true := decide_eq_true (by omega)
          have d2' : decide (x < r.cells.length) = true := decide_eq_true hxl
          have hw6 : IntKind.i64.wrap ((x : Int) + 1) = (x : Int) + 1 := wrap64_id _ (by omega) (by omega)
          have HT := Lib.hid (runesL_take r.cells x hxl)
          have hb3 := HRL.out x
          have hb4 : (r.cells.take x).length ≤ 250 := by rw [List.length_take]; omega
          have hbl : (base ++ runesL (r.cells.take x)).length ≤ 540000 := by rw [List.length_append]; omega
          obtain ⟨lb, lo, lc, e1, _, _⟩ := ownC_pos HLi.out (by omega)
          subst e1
          obtain ⟨p0, p1, p2, p3, p4⟩ := ownC_cel HLi.out x hxl rfl
          have hix1 := idx_at (P := Tryd.prog) (size := 5) Tryd.underlying51 cell_info lb lo r.cells.length lc x hxl
          clear p2 p3 p4
          generalize r.cells.getD x noC = cl at *
          obtain ⟨ru, wd, sy⟩ := cl
          dsimp only at p0 p1 HT
          by_cases hw0 : 0 < wd
          · have d3 : decide (0 < wd) = true := decide_eq_true hw0
            by_cases hr32 : ru = 32
            · have d4 : (ru != 32) = false := by simp [hr32]
              have d4' : (ru == 32) = true := by simp [hr32]
              have HR32 := Lib.hid hr32
              clear hr32
              go_wp2_with fail
              go_roundw
              case rel => exact ⟨x + 1, _, rfl, ⟨by omega, hsi⟩, by go_num, HBi, by
                rw [HT.out, if_neg (fun e => e.2 HR32.out), List.append_nil]; exact HOi, HLi, HDi⟩
              case measure => simp [intOf]; omega
            · have d4 : (ru != 32) = true := by simp [hr32]
              have d4' : (ru == 32) = false := by simp [hr32]
              have HS := Lib.hid HBi.out.size
              have hnq : decide (ru = 32) = false := decide_eq_false hr32
              go_wp2_with (at_builtin; refine held ?_)
              unfold Held
              refine wpList_appD runes32_elem rfl rfl w.heap.size (ownC_alloc HOi.out _) rfl (reads_one _ _ _) rfl (int_one _ _) (by unfold maxLen; omega) (by omega) (by have := HS.out; simp; omega) ?_
              intro ov6 w6 o6 g6 n6
              have hsz : (wi.alloc (.cells #[.int .i32 ru] 21)).heap.size = wi.heap.size + 1 := by simp
              have B6 := Lib.hid ((HBi.out.alloc HBi.out.size _).grown g6 (by have := HBi.out.size; simp; omega) (fun q hq => (ownC_lt HOi.out q hq).1))
              have O6 := Lib.hid o6
              have L6 := Lib.hid (ownC_grown (ownC_alloc HLi.out (.cells #[.int .i32 ru] 21)) g6 (fun q hq e => HDi.out q e hq))
              have D6 := Lib.hid (show ∀ q, ov6.ownBlock = some q → (Value.slice (some ⟨lb, lo, none⟩) r.cells.length lc).ownBlock ≠ some q from fun q h1 h2 => by
                rcases n6 q h1 with h3 | h3
                · exact HDi.out q h3 h2
                · have h4 := (ownC_lt HLi.out q h2).2
                  rw [hsz] at h3
                  omega)
              have hs6 := g6.size
              rw [hsz] at hs6
              clear o6 g6 n6 hix1 p0 p1
              go_wp2_with fail
              go_roundw
              case rel =>
                refine ⟨x + 1, _, rfl, ⟨by omega, by omega⟩, by go_num, B6, ?_, L6, D6⟩
                rw [HT.out, if_pos ⟨hw0, hr32⟩, ← List.append_assoc, List.length_append, List.map_append]
                exact O6
              case measure => simp [intOf]; omega
          · have d3 : decide (0 < wd) = false := decide_eq_false hw0
            go_wp2_with fail
            go_roundw
            case rel => exact ⟨x + 1, _, rfl, ⟨by omega, hsi⟩, by go_num, HBi, by
              rw [HT.out, if_neg (fun e => hw0 e.1), List.append_nil]; exact HOi, HLi, HDi⟩
            case measure => simp [intOf]; omega
        · have d2 : decide ((x : Int) < (r.cells.length : Int)) = false := decide_eq_false (by omega)
          have d2' : decide (x < r.cells.length) = false := decide_eq_false hxl
          have HF := Lib.hid (show r.cells.take x = r.cells from List.take_of_length_le (by omega))
          go_wp2_with fail
          go_roundw
          case rel => exact ⟨k + 1, _, rfl, by omega, by go_num, HBi, by rw [HR1.out]; rw [HF.out] at HOi; exact HOi⟩
          case measure => simp [intOf]; omega
    · have d1 : decide (((k : Int) - (g.old.length : Int)) < (g.rows.length : Int)) = false := decide_eq_false (by omega)
      have HF := Lib.hid (show (g.old ++ g.rows).take k = g.old ++ g.rows from List.take_of_length_le (by rw [HLE.out]; omega))
      go_wp2_with fail
      refine (rowsN_any HG.out).mono ?_
      rintro e wx1 ⟨rfl, hx1⟩
      obtain ⟨wo, rfl⟩ : ∃ wo, wo = wx1 := ⟨wx1, rfl⟩
      subst hx1
      go_wp2_with fail
      exact ret1v rfl rfl rfl ⟨_, rfl, HB.out, by have := HO.out; rw [HF.out] at this; exact this⟩
end Go.Proofs.YtjclgoiclbkgjaaDoor

/- The law GridBack, plain: rows that are not wrapped, laid anew in a wider and higher grid, and back. -/
namespace Go.Proofs.YtjclgoiclbkgjaaDoor
open Go.RowKit

theorem isPlain_eq {c : Cel} (h : isPlain c = true) : c = blankC plainS := by
  obtain ⟨r, w, ⟨f, b, a⟩⟩ := c
  unfold isPlain at h
  simp only [Bool.and_eq_true, beq_iff_eq] at h
  obtain ⟨rfl, rfl, rfl, rfl, rfl⟩ := h
  rfl
theorem isPlain_blank : isPlain (blankC plainS) = true := rfl
theorem trimF_pad (n : Nat) (l : List Cel) (mark : Int) : ∃ k, trimF n l mark ++ List.replicate k (blankC plainS) = l := by
  induction n generalizing l with
  | zero => exact ⟨0, by simp [trimF]⟩
  | succ n ih =>
    unfold trimF
    split
    · rename_i hc
      obtain ⟨k, e⟩ := ih (l.take (l.length - 1))
      refine ⟨k + 1, ?_⟩
      rw [List.replicate_succ', ← List.append_assoc, e]
      have h1 := take_lastC l hc.2.1
      rw [isPlain_eq hc.2.2] at h1
      exact h1.symm
    · exact ⟨0, by simp⟩
theorem trimM_pad (l : List Cel) (mark : Int) : ∃ k, trimM l mark ++ List.replicate k (blankC plainS) = l := trimF_pad _ _ _
theorem trimM_more (l : List Cel) (mark : Int) (h : mark < (l.length : Int)) : ∀ k, trimM (l ++ List.replicate k (blankC plainS)) mark = trimM l mark
  | 0 => by simp
  | k + 1 => by
    rw [List.replicate_succ', ← List.append_assoc]
    have e1 : (l ++ List.replicate k (blankC plainS) ++ [blankC plainS]).length - 1 = (l ++ List.replicate k (blankC plainS)).length := by simp
    rw [trimM_step, if_pos ⟨by simp; omega, by simp, by
      rw [e1, List.getD_eq_getElem?_getD, List.getElem?_append_right (Nat.le_refl _), Nat.sub_self]; rfl⟩, e1, List.take_left]
    exact trimM_more l mark h k
theorem trimM_idem (l : List Cel) : trimM (trimM l (-1)) (-1) = trimM l (-1) := by
  obtain ⟨k, e⟩ := trimM_pad l (-1)
  have := trimM_more (trimM l (-1)) (-1) (by omega) k
  rw [e] at this
  exact this.symm
theorem trimM_keep (l : List Cel) (mark : Int) (h : (l.length : Int) - 1 ≤ mark) : trimM l mark = l := by
  rw [trimM_step, if_neg (fun e => by omega)]
/-- Cells that one row of so many columns takes, one behind the other. -/
def Lays (cols : Nat) (l : List Cel) : Prop := l.length ≤ cols ∧ ∀ j, j < l.length → ((l.getD j noC).width = 2 → j + 1 ≠ cols) ∧ (cols = 1 → (l.getD j noC).width = 1)
theorem lays_take {cols : Nat} {l m : List Cel} (h : Lays cols (l ++ m)) : Lays cols l := by
  refine ⟨by have := h.1; rw [List.length_append] at this; omega, fun j hj => ?_⟩
  have := h.2 j (by rw [List.length_append]; omega)
  rw [List.getD_eq_getElem?_getD, List.getElem?_append_left hj, ← List.getD_eq_getElem?_getD] at this
  exact this
theorem split_short {cols : Nat} (mark : Int) (l : List Cel) : Lays cols l → splitG l cols mark = ⟨[], l, if 0 ≤ mark ∧ mark < (l.length : Int) then some (mark, 0) else none⟩ := by
  induction hn : l.length generalizing l with
  | zero =>
    intro _
    have := List.eq_nil_of_length_eq_zero hn
    subst this
    rw [if_neg (by omega)]
    rfl
  | succ n ih =>
    intro h
    obtain ⟨p, c, rfl⟩ := snoc_of l (fun e => by rw [e] at hn; simp at hn)
    have hp : p.length = n := by simpa using hn
    have ih := ih p hp (lays_take h)
    have hc := h.2 p.length (by simp)
    rw [List.getD_eq_getElem?_getD, List.getElem?_append_right (Nat.le_refl _), Nat.sub_self] at hc
    have hc : (c.width = 2 → p.length + 1 ≠ cols) ∧ (cols = 1 → c.width = 1) := hc
    have hlen := h.1
    rw [List.length_append, List.length_singleton] at hlen
    unfold splitG at ih ⊢
    rw [spRun_snocI, Nat.zero_add, ih]
    unfold spStep
    rw [if_neg (fun e => e.2 (hc.2 e.1))]
    unfold spLay
    dsimp only
    have hc1 : ¬ (c.width = 2 ∧ p.length = cols - 1) := fun e => hc.1 e.1 (by omega)
    have hc2 : ¬ p.length = cols := by omega
    rw [if_neg hc1, if_neg hc2, if_neg hc2]
    congr 1
    simp only [List.length_nil]
    by_cases h1 : (p.length : Int) = mark
    · rw [if_pos h1, if_pos (by omega), ← h1]; rfl
    · rw [if_neg h1]
      by_cases h2 : 0 ≤ mark ∧ mark < (n : Int)
      · rw [if_pos h2, if_pos (by omega)]
      · rw [if_neg h2, if_neg (by omega)]
/-- A row laid anew in so many columns. -/
def nrow (cols : Nat) (mark : Int) (r : Rw) : Rw := ⟨trimM r.cells mark ++ List.replicate (cols - (trimM r.cells mark).length) (blankC plainS), false⟩
theorem flEnd_flat {cols : Nat} (r : Rw) (mark : Int) (st : Fl) (h : Lays cols (trimM r.cells mark)) : flEnd cols r.cells mark false st =
    if 0 ≤ mark ∧ mark < ((trimM r.cells mark).length : Int) then ⟨st.out ++ [nrow cols mark r], mark, (st.out.length : Int)⟩ else ⟨st.out ++ [nrow cols mark r], st.px, st.py⟩ := by
  unfold flEnd
  rw [split_short mark _ h]
  dsimp only
  unfold spEnd
  dsimp only
  rw [List.nil_append]
  have e : wrapLast [(⟨trimM r.cells mark ++ List.replicate (cols - (trimM r.cells mark).length) (blankC plainS), false⟩ : Rw)] false = [nrow cols mark r] := by
    have := wrapLast_snocI [] (⟨trimM r.cells mark ++ List.replicate (cols - (trimM r.cells mark).length) (blankC plainS), false⟩ : Rw) false
    exact this
  rw [e]
  by_cases hm : 0 ≤ mark ∧ mark < ((trimM r.cells mark).length : Int)
  · rw [if_pos hm, if_pos hm]
    simp
  · rw [if_neg hm, if_neg hm]
theorem flRun_none {cols : Nat} {place atx : Int} (L : List Rw) (hw : ∀ r ∈ L, r.wrap = false ∧ Lays cols (trimM r.cells (-1))) : ∀ (M : List Rw) (i : Nat) (st : Fl), (∀ k, k < L.length → ((i + k : Nat) : Int) ≠ place) →
    flRun cols place atx (L ++ M) i [] (-1) st = flRun cols place atx M (i + L.length) [] (-1) ⟨st.out ++ L.map (nrow cols (-1)), st.px, st.py⟩ := by
  induction L with
  | nil => intro M i st _; simp
  | cons r L ih =>
    intro M i st hp
    have hr := hw r (List.mem_cons_self ..)
    have h0 := hp 0 (by simp)
    rw [Nat.add_zero] at h0
    have e : flRun cols place atx (r :: L ++ M) i [] (-1) st = flRun cols place atx (L ++ M) (i + 1) [] (-1) (flEnd cols r.cells (-1) false st) := by
      show (if _ then _ else _ : Fl) = _
      rw [if_pos (.inl hr.1), if_neg h0, hr.1, List.nil_append]
      rfl
    rw [e, flEnd_flat r (-1) st hr.2, if_neg (by omega), ih (fun x hx => hw x (List.mem_cons_of_mem _ hx)) M (i + 1) _ (fun k hk => by
      have := hp (k + 1) (by simp; omega)
      rw [show i + 1 + k = i + (k + 1) by omega]; exact this)]
    simp [Nat.add_comm, Nat.add_left_comm]
theorem flRun_at {cols : Nat} {atx : Int} (pre : List Rw) (r : Rw) (post : List Rw) (h1 : ∀ x ∈ pre, x.wrap = false ∧ Lays cols (trimM x.cells (-1))) (h2 : r.wrap = false ∧ Lays cols (trimM r.cells atx)) (h3 : ∀ x ∈ post, x.wrap = false ∧ Lays cols (trimM x.cells (-1)))
    (ha : 0 ≤ atx ∧ atx < ((trimM r.cells atx).length : Int)) :
    flRun cols (pre.length : Int) atx (pre ++ r :: post) 0 [] (-1) ⟨[], 0, 0⟩ = ⟨pre.map (nrow cols (-1)) ++ nrow cols atx r :: post.map (nrow cols (-1)), atx, (pre.length : Int)⟩ := by
  rw [flRun_none pre h1 _ 0 _ (fun k hk => by omega), Nat.zero_add]
  have e : flRun cols (pre.length : Int) atx (r :: post) pre.length [] (-1) ⟨[] ++ pre.map (nrow cols (-1)), 0, 0⟩ = flRun cols (pre.length : Int) atx post (pre.length + 1) [] (-1) (flEnd cols r.cells atx false ⟨[] ++ pre.map (nrow cols (-1)), 0, 0⟩) := by
    show (if _ then _ else _ : Fl) = _
    rw [if_pos (.inl h2.1), if_pos rfl, h2.1, List.nil_append]
    simp
  rw [e, flEnd_flat r atx _ h2.2, if_pos ha]
  have := flRun_none (cols := cols) (place := (pre.length : Int)) (atx := atx) post h3 [] (pre.length + 1) ⟨[] ++ pre.map (nrow cols (-1)) ++ [nrow cols atx r], atx, (([] ++ pre.map (nrow cols (-1)) : List Rw).length : Int)⟩ (fun k hk => by omega)
  rw [List.append_nil] at this
  rw [this]
  show (⟨_, _, _⟩ : Fl) = _
  simp
/-- A row that lies in c columns, and is not wrapped. -/
def Fit (c : Nat) (r : Rw) : Prop := r.wrap = false ∧ r.cells.length = c ∧ (r.cells.getD (c - 1) noC).width ≠ 2 ∧ (c = 1 → (r.cells.getD (c - 1) noC).width = 1)
theorem Fit.lays {c cols : Nat} {r : Rw} (h : Fit c r) (hc : c ≤ cols) (h1 : 1 ≤ c) (mark : Int) : Lays cols (trimM r.cells mark) := by
  obtain ⟨k, e⟩ := trimM_pad r.cells mark
  refine lays_take (m := List.replicate k (blankC plainS)) ?_
  rw [e]
  obtain ⟨_, h2, h3, h4⟩ := h
  refine ⟨by omega, fun j hj => ⟨fun e2 e3 => ?_, fun e2 => ?_⟩⟩
  · have : j = c - 1 := by omega
    subst this
    exact h3 e2
  · have h5 : j = c - 1 := by omega
    rw [h5]
    exact h4 (by omega)
theorem nrow_back {c cols : Nat} {r : Rw} (h : Fit c r) (_hc : c ≤ cols) : (nrow cols (-1) r).wrap = false ∧ trimM (nrow cols (-1) r).cells (-1) = trimM r.cells (-1) ∧ nrow c (-1) (nrow cols (-1) r) = r := by
  have e1 : trimM (nrow cols (-1) r).cells (-1) = trimM r.cells (-1) := by
    show trimM (trimM r.cells (-1) ++ List.replicate _ _) (-1) = _
    rw [trimM_more _ _ (by omega), trimM_idem]
  refine ⟨rfl, e1, ?_⟩
  unfold nrow at e1 ⊢
  rw [e1]
  obtain ⟨k, e⟩ := trimM_pad r.cells (-1)
  have hk : c - (trimM r.cells (-1)).length = k := by
    have := congrArg List.length e
    rw [List.length_append, List.length_replicate, h.2.1] at this
    omega
  rw [hk, e, ← h.1]
theorem nrow_back_at {c cols : Nat} {r : Rw} (h : Fit c r) (_hc : c ≤ cols) (_h1 : 1 ≤ c) : trimM r.cells ((c : Int) - 1) = r.cells ∧ trimM (nrow cols ((c : Int) - 1) r).cells ((c : Int) - 1) = r.cells ∧ nrow c ((c : Int) - 1) (nrow cols ((c : Int) - 1) r) = r := by
  have e0 : trimM r.cells ((c : Int) - 1) = r.cells := trimM_keep _ _ (by rw [h.2.1]; omega)
  have e1 : trimM (nrow cols ((c : Int) - 1) r).cells ((c : Int) - 1) = r.cells := by
    show trimM (trimM r.cells _ ++ List.replicate _ _) _ = _
    rw [e0, trimM_more _ _ (by rw [h.2.1]; omega), e0]
  refine ⟨e0, e1, ?_⟩
  unfold nrow at e1 ⊢
  rw [e1, h.2.1, Nat.sub_self, List.replicate_zero, List.append_nil, ← h.1]
theorem fresh_lays (c cols n : Nat) (_h1 : 1 ≤ c) : ∀ x ∈ freshL n cols plainS, x.wrap = false ∧ trimM x.cells (-1) = [] ∧ nrow c (-1) x = ⟨List.replicate c (blankC plainS), false⟩ := fun x hx => by
  unfold freshL at hx
  rw [List.eq_of_mem_replicate hx]
  have e : trimM (List.replicate cols (blankC plainS)) (-1) = [] := by
    have := trimM_more [] (-1) (by simp) cols
    rw [List.nil_append] at this
    rw [this]; rfl
  refine ⟨rfl, e, ?_⟩
  unfold nrow
  dsimp only
  rw [e]
  simp
theorem trimR_fresh (c : Nat) (L : List Rw) : ∀ (k n : Nat), k ≤ n → trimR n (L ++ List.replicate k ⟨List.replicate c (blankC plainS), false⟩) ((L.length : Int) - 1) = L
  | 0, n, _ => by
    rw [List.replicate_zero, List.append_nil]
    exact trimR_none L n
  | k + 1, 0, h => by omega
  | k + 1, n + 1, h => by
    rw [List.replicate_succ', ← List.append_assoc]
    have e1 : (L ++ List.replicate k (⟨List.replicate c (blankC plainS), false⟩ : Rw) ++ [(⟨List.replicate c (blankC plainS), false⟩ : Rw)]).length - 1 = (L ++ List.replicate k (⟨List.replicate c (blankC plainS), false⟩ : Rw)).length := by simp
    have e2 : (L ++ List.replicate k (⟨List.replicate c (blankC plainS), false⟩ : Rw) ++ [(⟨List.replicate c (blankC plainS), false⟩ : Rw)]).getD (L ++ List.replicate k (⟨List.replicate c (blankC plainS), false⟩ : Rw)).length noR = ⟨List.replicate c (blankC plainS), false⟩ := by
      rw [List.getD_eq_getElem?_getD, List.getElem?_append_right (Nat.le_refl _), Nat.sub_self]; rfl
    unfold trimR
    rw [e1, e2, if_pos ⟨by simp; omega, rfl, by
      rw [List.all_eq_true]
      intro x hx
      rw [List.eq_of_mem_replicate hx]; rfl⟩, List.take_left]
    exact trimR_fresh c L k n (by omega)
/-- All of the law's plain half. -/
theorem back_all (g : Gr) (hw : g.WF) (c n : Nat) (hc : g.cols = c) (hn : g.rows.length = n) (hf : ∀ r ∈ g.old ++ g.rows, Fit c r) (cols rows : Nat) (h2 : c ≤ cols) (h4 : n ≤ rows) :
    ∃ (g2 : Gr) (py : Nat), g.resize cols rows ((c : Int) - 1) ((n : Int) - 1) true = (g2, (c : Int) - 1, (py : Int)) ∧ g2.resize c n ((c : Int) - 1) (py : Int) true = (g, (c : Int) - 1, (n : Int) - 1) := by
  have hn1 : 1 ≤ n := by have := hw.r1; omega
  have hc1 : 1 ≤ c := by have := hw.c1; omega
  obtain ⟨rp, r, er⟩ := snoc_of g.rows (fun e => by rw [e] at hn; simp at hn; omega)
  have hrl : rp.length + 1 = n := by rw [← hn, er]; simp
  have hin1 : into ((c : Int) - 1) ((g.cols : Int) - 1) = (c : Int) - 1 := by unfold into; rw [hc]; omega
  have hin2 : into ((n : Int) - 1) ((g.rows.length : Int) - 1) = (rp.length : Int) := by unfold into; rw [hn]; omega
  have hfr : Fit c r := hf r (by rw [er]; simp)
  have hfp : ∀ x ∈ g.old ++ rp, Fit c x := fun x hx => hf x (by
    rw [er, ← List.append_assoc]
    exact List.mem_append_left _ hx)
  have hrun := flRun_at (cols := cols) (atx := (c : Int) - 1) (g.old ++ rp) r [] (fun x hx => ⟨(hfp x hx).1, (hfp x hx).lays h2 hc1 _⟩) ⟨hfr.1, hfr.lays h2 hc1 _⟩ (by simp) (by rw [(nrow_back_at hfr h2 hc1).1, hfr.2.1]; omega)
  rw [List.append_assoc, ← er, show (((g.old ++ rp).length : Nat) : Int) = (g.old.length : Int) + (rp.length : Int) by simp, List.map_nil] at hrun
  generalize hA : (g.old ++ rp).map (nrow cols (-1)) ++ [nrow cols ((c : Int) - 1) r] = A at hrun
  have hAl : A.length = g.old.length + n := by rw [← hA]; simp; omega
  have htr : trimR A.length A ((g.old.length : Int) + (rp.length : Int)) = A := by
    have := trimR_none A A.length
    rw [show (A.length : Int) - 1 = (g.old.length : Int) + (rp.length : Int) by omega] at this
    exact this
  obtain ⟨fs, hfs⟩ : ∃ fs : Nat, fs = g.old.length + n - rows := ⟨_, rfl⟩
  have hfirst : (min (max 0 ((A.length : Int) - rows)) ((g.old.length : Int) + (rp.length : Int))).toNat = fs := by omega
  have hdl : (A.drop fs).length ≤ rows := by rw [List.length_drop]; omega
  have hol := hw.ol
  have hkeep : keepL g.limit (A.take fs) = A.take fs := by
    unfold keepL
    rw [List.length_take, show min fs A.length - g.limit = 0 by omega, List.drop_zero]
  have hflow : g.resize cols rows ((c : Int) - 1) ((n : Int) - 1) true = (⟨cols, g.limit, A.drop fs ++ freshL (rows - (A.drop fs).length) cols plainS, A.take fs⟩, (c : Int) - 1, ((g.old.length + n - 1 - fs : Nat) : Int)) := by
    unfold Gr.resize
    rw [if_pos rfl, hin1, hin2]
    unfold Gr.flow
    rw [hrun]
    dsimp only
    rw [htr, hfirst, List.take_of_length_le hdl, hkeep]
    congr 2
    omega
  refine ⟨_, _, hflow, ?_⟩
  generalize hF : freshL (rows - (A.drop fs).length) cols plainS = F
  have hFm : ∀ x ∈ F, x.wrap = false ∧ trimM x.cells (-1) = [] ∧ nrow c (-1) x = ⟨List.replicate c (blankC plainS), false⟩ := by rw [← hF]; exact fresh_lays c cols _ hc1
  have hFl : (A.drop fs ++ F).length = rows := by
    rw [← hF]
    unfold freshL
    rw [List.length_append, List.length_replicate]; omega
  have hin3 : into ((c : Int) - 1) ((cols : Int) - 1) = (c : Int) - 1 := by unfold into; omega
  have hin4 : into ((g.old.length + n - 1 - fs : Nat) : Int) (((A.drop fs ++ F).length : Int) - 1) = ((g.old.length + n - 1 - fs : Nat) : Int) := by rw [hFl]; unfold into; omega
  have hall : A.take fs ++ (A.drop fs ++ F) = (g.old ++ rp).map (nrow cols (-1)) ++ nrow cols ((c : Int) - 1) r :: F := by
    rw [← List.append_assoc, List.take_append_drop, ← hA, List.append_assoc]; rfl
  have hpl : (((g.old ++ rp).map (nrow cols (-1))).length : Int) = ((A.take fs).length : Int) + ((g.old.length + n - 1 - fs : Nat) : Int) := by
    rw [List.length_map, List.length_append, List.length_take]; omega
  have hrun2 := flRun_at (cols := c) (atx := (c : Int) - 1) ((g.old ++ rp).map (nrow cols (-1))) (nrow cols ((c : Int) - 1) r) F
    (fun x hx => by
      obtain ⟨y, hy, rfl⟩ := List.mem_map.1 hx
      have hb := nrow_back (hfp y hy) h2
      exact ⟨hb.1, by rw [hb.2.1]; exact (hfp y hy).lays (Nat.le_refl _) hc1 _⟩)
    ⟨rfl, by
      rw [(nrow_back_at hfr h2 hc1).2.1]
      have := hfr.lays (Nat.le_refl _) hc1 ((c : Int) - 1)
      rw [(nrow_back_at hfr h2 hc1).1] at this
      exact this⟩
    (fun x hx => ⟨(hFm x hx).1, by rw [(hFm x hx).2.1]; exact ⟨Nat.zero_le _, fun j hj => absurd hj (by simp)⟩⟩)
    (by rw [(nrow_back_at hfr h2 hc1).2.1, hfr.2.1]; omega)
  rw [← hall, hpl] at hrun2
  have hm1 : ((g.old ++ rp).map (nrow cols (-1))).map (nrow c (-1)) = g.old ++ rp := by
    rw [List.map_map]
    have : ∀ x ∈ g.old ++ rp, (nrow c (-1) ∘ nrow cols (-1)) x = id x := fun x hx => (nrow_back (hfp x hx) h2).2.2
    rw [List.map_congr_left this, List.map_id]
  have hm2 : F.map (nrow c (-1)) = List.replicate F.length ⟨List.replicate c (blankC plainS), false⟩ := by
    refine List.eq_replicate_iff.2 ⟨List.length_map .., fun x hx => ?_⟩
    obtain ⟨y, hy, rfl⟩ := List.mem_map.1 hx
    exact (hFm y hy).2.2
  rw [hm1, hm2, (nrow_back_at hfr h2 hc1).2.2] at hrun2
  have hB : g.old ++ rp ++ r :: List.replicate F.length (⟨List.replicate c (blankC plainS), false⟩ : Rw) = (g.old ++ g.rows) ++ List.replicate F.length ⟨List.replicate c (blankC plainS), false⟩ := by
    rw [er]; simp
  rw [hB] at hrun2
  have hal : (g.old ++ g.rows).length = g.old.length + n := by rw [List.length_append, hn]
  have htr2 : trimR ((g.old ++ g.rows) ++ List.replicate F.length (⟨List.replicate c (blankC plainS), false⟩ : Rw)).length ((g.old ++ g.rows) ++ List.replicate F.length ⟨List.replicate c (blankC plainS), false⟩) (((A.take fs).length : Int) + ((g.old.length + n - 1 - fs : Nat) : Int)) = g.old ++ g.rows := by
    have := trimR_fresh c (g.old ++ g.rows) F.length ((g.old ++ g.rows) ++ List.replicate F.length (⟨List.replicate c (blankC plainS), false⟩ : Rw)).length (by rw [List.length_append, List.length_replicate]; omega)
    rw [show ((g.old ++ g.rows).length : Int) - 1 = ((A.take fs).length : Int) + ((g.old.length + n - 1 - fs : Nat) : Int) by rw [hal, List.length_take]; omega] at this
    exact this
  have hps : ((A.take fs).length : Int) + ((g.old.length + n - 1 - fs : Nat) : Int) = (g.old.length : Int) + n - 1 := by rw [List.length_take]; omega
  unfold Gr.resize
  rw [if_pos rfl]
  dsimp only
  rw [hin3, hin4]
  unfold Gr.flow
  dsimp only
  rw [hrun2]
  dsimp only
  rw [htr2, hps, hal]
  have hf2 : (min (max 0 (((g.old.length + n : Nat) : Int) - (n : Int))) ((g.old.length : Int) + n - 1)).toNat = g.old.length := by omega
  rw [hf2, List.drop_left, List.take_left, List.take_of_length_le (by omega), hn, Nat.sub_self]
  have hk : keepL g.limit g.old = g.old := by
    unfold keepL
    rw [show g.old.length - g.limit = 0 by omega, List.drop_zero]
  rw [hk, ← hc]
  obtain ⟨gc, gl, gr, go⟩ := g
  simp only [freshL, List.replicate_zero, List.append_nil]
  congr 2
  omega
end Go.Proofs.YtjclgoiclbkgjaaDoor

/- What the rows of a grid have in common: kept by New, Up and Put. -/
namespace Go.Proofs.YtjclgoiclbkgjaaDoor
open Go.RowKit

/-- All rows of a grid. -/
def Gr.All (g : Gr) (P : Rw → Prop) : Prop := ∀ x ∈ g.old ++ g.rows, P x
theorem all_new (c r l : Nat) (P : Rw → Prop) (h : P (blankR c plainS)) : (newG c r l).All P := fun x hx => by
  have hx : x ∈ freshL r c plainS := by simpa [newG] using hx
  unfold freshL at hx
  rw [List.eq_of_mem_replicate hx]
  exact h
theorem upRows_mem {rows : List Rw} {t b n c : Nat} {s : Sty} {x : Rw} (h : x ∈ upRows rows t b n c s) : x ∈ rows ∨ x = blankR c s := by
  unfold upRows freshL at h
  simp only [List.mem_append] at h
  rcases h with ((h | h) | h) | h
  · exact .inl (List.mem_of_mem_take h)
  · exact .inl (List.mem_of_mem_drop (List.mem_of_mem_take h))
  · exact .inr (List.eq_of_mem_replicate h)
  · exact .inl (List.mem_of_mem_drop h)
theorem downRows_mem {rows : List Rw} {t b n c : Nat} {s : Sty} {x : Rw} (h : x ∈ downRows rows t b n c s) : x ∈ rows ∨ x = blankR c s := by
  unfold downRows freshL at h
  simp only [List.mem_append] at h
  rcases h with ((h | h) | h) | h
  · exact .inl (List.mem_of_mem_take h)
  · exact .inr (List.eq_of_mem_replicate h)
  · exact .inl (List.mem_of_mem_drop (List.mem_of_mem_take h))
  · exact .inl (List.mem_of_mem_drop h)
theorem all_up {g : Gr} {P : Rw → Prop} (h : g.All P) (t b n : Int) (s : Sty) (k : Bool) (hb : okS s = true → P (blankR g.cols s)) : (g.up t b n s k).All P := by
  unfold Gr.up
  split
  · exact h
  · rename_i h0
    have hs : okS s = true := by
      cases hs : okS s
      · refine absurd ?_ h0
        unfold regionN
        rw [if_pos (.inr (.inr (.inr hs)))]
      · rfl
    intro x hx
    rcases List.mem_append.1 hx with hx | hx
    · dsimp only at hx
      split at hx
      · unfold keepL at hx
        rcases List.mem_append.1 (List.mem_of_mem_drop hx) with hx | hx
        · exact h x (List.mem_append_left _ hx)
        · exact h x (List.mem_append_right _ (List.mem_of_mem_drop (List.mem_of_mem_take hx)))
      · exact h x (List.mem_append_left _ hx)
    · rcases upRows_mem hx with hx | hx
      · exact h x (List.mem_append_right _ hx)
      · rw [hx]; exact hb hs
theorem all_down {g : Gr} {P : Rw → Prop} (h : g.All P) (t b n : Int) (s : Sty) (hb : okS s = true → P (blankR g.cols s)) : (g.down t b n s).All P := by
  unfold Gr.down
  split
  · exact h
  · rename_i h0
    have hs : okS s = true := by
      cases hs : okS s
      · refine absurd ?_ h0
        unfold regionN
        rw [if_pos (.inr (.inr (.inr hs)))]
      · rfl
    intro x hx
    rcases List.mem_append.1 hx with hx | hx
    · exact h x (List.mem_append_left _ hx)
    · rcases downRows_mem hx with hx | hx
      · exact h x (List.mem_append_right _ hx)
      · rw [hx]; exact hb hs
theorem all_turn {g : Gr} {P : Rw → Prop} (h : g.All P) (y : Nat) (f : List Cel → List Cel) (hy : y < g.rows.length) (hf : ∀ r, P r → P { r with cells := f r.cells }) : (g.turn y f).All P := fun x hx => by
  rcases List.mem_append.1 hx with hx | hx
  · exact h x (List.mem_append_left _ hx)
  · rcases List.mem_or_eq_of_mem_set hx with hx | hx
    · exact h x (List.mem_append_right _ hx)
    · rw [hx]
      refine hf _ (h _ (List.mem_append_right _ ?_))
      rw [List.getD_eq_getElem?_getD, List.getElem?_eq_getElem hy]
      exact List.getElem_mem _
theorem putOk_iff {g : Gr} {x y : Int} {q : Cel} (h : g.putOk x y q = true) : 0 ≤ y ∧ y < (g.rows.length : Int) ∧ 0 ≤ x ∧ okS q.sty = true ∧ 1 ≤ q.width ∧ q.width = wid q.rune ∧ x + q.width ≤ (g.cols : Int) := by
  unfold Gr.putOk Gr.onIt at h
  simp only [Bool.and_eq_true, decide_eq_true_eq, beq_iff_eq] at h
  exact ⟨h.1.1, h.1.2.1, h.1.2.2.1, h.1.2.2.2.2, h.2.1, h.2.2.1, h.2.2.2⟩
theorem all_put {g : Gr} {P : Rw → Prop} (h : g.All P) (x y : Int) (q : Cel) (hf : 0 ≤ x → okS q.sty = true → q.width = 1 ∨ q.width = 2 → x + q.width ≤ (g.cols : Int) → ∀ r, P r → P { r with cells := layL r.cells x.toNat q }) : (g.put x y q).All P := by
  unfold Gr.put
  split
  · rename_i h0
    obtain ⟨h1, h2, h3, h4, h5, h6, h7⟩ := putOk_iff h0
    have h8 := wid_le q.rune
    exact all_turn h _ _ (by omega) (hf h3 h4 (by omega) h7)
  · exact h
theorem putAt_getD {l m : List Cel} {x i : Nat} (hx : x + m.length ≤ l.length) : (putAt l x m).getD i noC = if x ≤ i ∧ i < x + m.length then m.getD (i - x) noC else l.getD i noC := by
  unfold putAt
  rw [List.getD_eq_getElem?_getD, List.getD_eq_getElem?_getD, List.getD_eq_getElem?_getD]
  have e1 : (l.take x).length = x := by rw [List.length_take]; omega
  by_cases h1 : i < x
  · rw [if_neg (by omega), List.append_assoc, List.getElem?_append_left (by omega), List.getElem?_take, if_pos h1]
  · by_cases h2 : i < x + m.length
    · rw [if_pos ⟨by omega, h2⟩, List.append_assoc, List.getElem?_append_right (by omega), e1, List.getElem?_append_left (by omega)]
    · rw [if_neg (by omega), List.getElem?_append_right (by rw [List.length_append]; omega), List.length_append, e1, List.getElem?_drop, show x + m.length + (i - (x + m.length)) = i by omega]
theorem cutL_getD (l : List Cel) (x : Int) (i : Nat) : (cutL l x).getD i noC = l.getD i noC ∨ ∃ s, (cutL l x).getD i noC = blankC s := by
  unfold cutL
  split
  · rename_i h
    unfold fillL
    rw [putAt_getD (by rw [List.length_replicate]; omega)]
    split
    · rename_i h2
      rw [List.length_replicate] at h2
      refine .inr ⟨(l.getD x.toNat noC).sty, ?_⟩
      rw [List.getD_eq_getElem?_getD, List.getElem?_replicate, if_pos (by omega)]
      rfl
    · exact .inl rfl
  · exact .inl rfl
theorem layL_getD (l : List Cel) (x : Nat) (q : Cel) (i : Nat) (hw : q.width = 1 ∨ q.width = 2) (hx : (x : Int) + q.width ≤ (l.length : Int)) :
    (layL l x q).getD i noC = if i = x then q else if q.width = 2 ∧ i = x + 1 then ⟨0, 0, q.sty⟩ else (cutL (cutL l x) ((x : Int) + q.width)).getD i noC := by
  unfold layL
  rcases hw with hw | hw
  · rw [if_neg (by omega), putAt_getD (by rw [cutL_len, cutL_len]; simp; omega)]
    by_cases h1 : i = x
    · subst h1
      rw [if_pos (by simp), if_pos rfl, Nat.sub_self]; rfl
    · rw [if_neg (by simp; omega), if_neg h1, if_neg (by omega)]
  · rw [if_pos hw, putAt_getD (by rw [cutL_len, cutL_len]; simp; omega)]
    by_cases h1 : i = x
    · subst h1
      rw [if_pos (by simp), if_pos rfl, Nat.sub_self]; rfl
    · by_cases h2 : i = x + 1
      · subst h2
        rw [if_pos (by simp), if_neg h1, if_pos ⟨hw, rfl⟩, show x + 1 - x = 1 by omega]; rfl
      · rw [if_neg (by simp; omega), if_neg h1, if_neg (fun e => h2 e.2)]
theorem layL_size (l : List Cel) (x : Nat) (q : Cel) (hw : q.width = 1 ∨ q.width = 2) (hx : (x : Int) + q.width ≤ (l.length : Int)) : (layL l x q).length = l.length := by
  unfold layL
  rw [putAt_len, cutL_len, cutL_len]
  rw [cutL_len, cutL_len]
  split
  · simp; omega
  · simp; omega
theorem fit_blank (c : Nat) (s : Sty) : Fit c (blankR c s) := by
  unfold blankR
  refine ⟨rfl, List.length_replicate, ?_, fun e => ?_⟩
  · dsimp only
    rw [List.getD_eq_getElem?_getD, List.getElem?_replicate]
    split <;> simp [blankC, noC]
  · subst e; rfl
theorem fit_put {c : Nat} {x : Int} {q : Cel} (h0 : 0 ≤ x) (hw : q.width = 1 ∨ q.width = 2) (hx : x + q.width ≤ (c : Int)) (r : Rw) (h : Fit c r) : Fit c { r with cells := layL r.cells x.toNat q } := by
  obtain ⟨h1, h2, h3, h4⟩ := h
  have hx2 : ((x.toNat : Nat) : Int) + q.width ≤ (r.cells.length : Int) := by omega
  refine ⟨h1, by rw [← h2]; exact layL_size _ _ _ hw hx2, ?_, fun e => ?_⟩
  · dsimp only
    rw [layL_getD _ _ _ _ hw hx2]
    split
    · rename_i h5
      rcases hw with hw | hw <;> omega
    · split
      · show (0 : Int) ≠ 2
        decide
      · rcases cutL_getD (cutL r.cells x.toNat) ((x.toNat : Int) + q.width) (c - 1) with e | ⟨s, e⟩
        · rw [e]
          rcases cutL_getD r.cells x.toNat (c - 1) with e | ⟨s, e⟩
          · rw [e]; exact h3
          · rw [e]; show (1 : Int) ≠ 2; decide
        · rw [e]; show (1 : Int) ≠ 2; decide
  · dsimp only
    rw [layL_getD _ _ _ _ hw hx2, if_pos (by omega)]
    omega
theorem old_up (g : Gr) (b : Int) (s : Sty) : (g.up 0 b 1 s true).old.length ≤ g.old.length + 1 := by
  unfold Gr.up
  split
  · omega
  · dsimp only
    have : regionN g 0 b 1 s ≤ 1 := by
      unfold regionN
      split
      · omega
      · omega
    split
    · unfold keepL
      rw [List.length_drop, List.length_append, List.length_take]
      omega
    · omega
theorem old_put (g : Gr) (x y : Int) (q : Cel) : (g.put x y q).old = g.old := by
  unfold Gr.put
  split <;> rfl
theorem old_setWrap (g : Gr) (y : Int) (is : Bool) : (g.setWrap y is).old = g.old := by
  unfold Gr.setWrap
  split <;> rfl
end Go.Proofs.YtjclgoiclbkgjaaDoor

/- The law GridMoves: the walk. -/
namespace Go.Proofs.YtjclgoiclbkgjaaDoor
open Go.RowKit
attribute [local go_sem ↓] Go.wp_at_zero Go.wp_at_succ

theorem row_nat (g : Gr) (y : Nat) : g.row (y : Int) = (g.rows[y]?).getD noR := by
  unfold Gr.row
  by_cases h : y < g.rows.length
  · rw [if_pos (by omega), Int.toNat_natCast, List.getD_eq_getElem?_getD]
  · rw [if_neg (by omega), if_neg (by omega), List.getElem?_eq_none (by omega)]; rfl
theorem region_in (g : Gr) (t b n : Nat) (h1 : t ≤ b) (h2 : b < g.rows.length) (h3 : n ≤ b + 1 - t) : regionN g (t : Int) (b : Int) (n : Int) plainS = n := by
  unfold regionN
  rw [if_neg (fun e => by
    rcases e with e | e | e | e
    · omega
    · omega
    · omega
    · exact absurd e (by decide))]
  omega
theorem up_row (g : Gr) (t b n : Nat) (h1 : t ≤ b) (h2 : b < g.rows.length) (h3 : n ≤ b + 1 - t) (h4 : 1 ≤ n) (y : Nat) :
    (g.up (t : Int) (b : Int) (n : Int) plainS false).row (y : Int) = if y < t then g.row y else if y + n ≤ b then g.row ((y + n : Nat) : Int) else if y ≤ b then blankR g.cols plainS else g.row y := by
  rw [row_nat, row_nat, row_nat]
  unfold Gr.up
  rw [region_in g t b n h1 h2 h3, if_neg (by omega)]
  show ((upRows g.rows (t : Int).toNat (b : Int).toNat n g.cols plainS)[y]?).getD noR = _
  rw [Int.toNat_natCast, Int.toNat_natCast, up_get h1 h2 h3]
  split
  · rfl
  · split
    · rfl
    · split
      · rfl
      · rfl
theorem down_row (g : Gr) (t b n : Nat) (h1 : t ≤ b) (h2 : b < g.rows.length) (h3 : n ≤ b + 1 - t) (h4 : 1 ≤ n) (y : Nat) :
    (g.down (t : Int) (b : Int) (n : Int) plainS).row (y : Int) = if y < t then g.row y else if y < t + n then blankR g.cols plainS else if y ≤ b then g.row ((y - n : Nat) : Int) else g.row y := by
  rw [row_nat, row_nat, row_nat]
  unfold Gr.down
  rw [region_in g t b n h1 h2 h3, if_neg (by omega)]
  show ((downRows g.rows (t : Int).toNat (b : Int).toNat n g.cols plainS)[y]?).getD noR = _
  rw [Int.toNat_natCast, Int.toNat_natCast, down_get h1 h2 h3]
  split
  · rfl
  · split
    · rfl
    · split
      · rfl
      · rfl
/-- Rows that are scrolled up, and down again. -/
theorem moved_row (g : Gr) (t b n : Nat) (h1 : t ≤ b) (h2 : b < g.rows.length) (h3 : n ≤ b + 1 - t) (h4 : 1 ≤ n) (y : Nat) :
    ((g.up (t : Int) (b : Int) (n : Int) plainS false).down (t : Int) (b : Int) (n : Int) plainS).row (y : Int) = if t ≤ y ∧ y < t + n then blankR g.cols plainS else g.row y := by
  have hd := Dim.up (g := g) ⟨rfl, rfl, rfl⟩ (t : Int) (b : Int) (n : Int) plainS false
  rw [down_row _ t b n h1 (by rw [hd.2.1]; exact h2) h3 h4, hd.1, up_row g t b n h1 h2 h3 h4, up_row g t b n h1 h2 h3 h4]
  repeat' split
  all_goals first
    | rfl
    | (exfalso; omega)
    | (rw [show y - n + n = y by omega])
theorem text_blank (n : Nat) (s : Sty) : textL (blankR n s).cells = [] := by
  unfold textL blankR
  rw [trim_blank]; rfl
theorem isVals_below {w w2 : World} {v : Value} {l : List Value} (h : IsVals w v l) (b : Below w.heap.size w w2) : IsVals w2 v l := by
  rcases h with h | ⟨a, c, e1, e2, e3, e4⟩
  · exact .inl h
  · exact .inr ⟨a, c, e1, e2, e3, fun j hj => cell_below b (e4 j hj)⟩
theorem Sh.mono {w w1 : World} {T : Nat → Nat} {p : Nat} {wi : World} {g : Gr} (h : Sh w1 T p wi g) (b : Below w.heap.size w w1) : Sh w T p wi g :=
  ⟨b.trans (h.b.mono b.size), h.gm, fun k hk => Nat.le_trans b.size (h.n k hk)⟩
/-- Two grids that lie apart. -/
structure Two (w : World) (T T2 : Nat → Nat) (q q2 : Nat) (wi : World) (g g2 : Gr) : Prop where
  a : Sh w T q wi g
  b : Sh w T2 q2 wi g2
  d : ∀ k, T2 k ≠ 0 → T k = 0
theorem Two.below {w : World} {T T2 : Nat → Nat} {q q2 : Nat} {wi wj : World} {g g2 : Gr} (h : Two w T T2 q q2 wi g g2) (b : Below wi.heap.size wi wj) : Two w T T2 q q2 wj g g2 := ⟨h.a.below b, h.b.below b, h.d⟩
theorem Two.turn {w : World} {T T' T2 : Nat → Nat} {q q2 : Nat} {wi wj : World} {g g' g2 : Gr} (h : Two w T T2 q q2 wi g g2) (hw : Within (own T wi) wi wj) (hg : GM T' q wj g') (hn : ∀ k, T' k ≠ 0 → own T wi k) : Two w T' T2 q q2 wj g' g2 :=
  ⟨h.a.turn hw hg hn, ⟨(h.a.turn hw hg hn).b, h.b.gm.other hw h.d, h.b.n⟩, fun k hk => by
    by_cases h0 : T' k = 0
    · exact h0
    · rcases hn k h0 with e | e
      · exact absurd (h.d k hk) e
      · have := h.b.gm.lt k hk; omega⟩
theorem sh_setRow {w wk : World} {T : Nat → Nat} {q pk : Nat} {g : Gr} (cells : Array Value) (h : Sh w T q wk g) (hT : T pk = 0) (hp : w.heap.size ≤ pk) : Sh w T q (wk.setRow pk cells) g :=
  ⟨h.b.trans (below_of_gb (gb_setRow wk pk cells) h.b.size (fun k hk => by injection hk with hk; omega)),
   h.gm.other (Tp := fun k => if k = pk then 1 else 0) (Within.of_gb (gb_setRow wk pk cells) (fun k hk => by
      injection hk with hk
      subst hk
      exact .inl (by show (if _ then 1 else 0) ≠ 0; rw [if_pos rfl]; decide))) (fun k hk => by
      show (if _ then 1 else 0) = 0
      rw [if_neg (fun e => hk (by rw [e]; exact hT))]), h.n⟩
theorem sh_free {w wk : World} {T : Nat → Nat} {q : Nat} {g : Gr} (h : Sh w T q wk g) {k : Nat} (hk : wk.heap.size ≤ k) : T k = 0 := h.gm.own0 hk
theorem two_setRow {w wk : World} {T T2 : Nat → Nat} {q q2 pk : Nat} {g g2 : Gr} (cells : Array Value) (h : Two w T T2 q q2 wk g g2) (hT : T pk = 0) (hT2 : T2 pk = 0) (hp : w.heap.size ≤ pk) : Two w T T2 q q2 (wk.setRow pk cells) g g2 :=
  ⟨sh_setRow cells h.a hT hp, sh_setRow cells h.b hT2 hp, h.d⟩
end Go.Proofs.YtjclgoiclbkgjaaDoor
