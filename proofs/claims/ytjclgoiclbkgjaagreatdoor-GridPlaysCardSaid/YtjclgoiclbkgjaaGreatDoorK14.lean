/- Package grid, texts laid together: N2 A11. -/
import Derived.Test.YtjclgoiclbkgjaaGreatDoorK13
import Derived.Test.YtjclgoiclbkgjaaGreatDoorK7
import Derived.Test.YtjclgoiclbkgjaaGreatDoorK9
import Derived.Test.YtjclgoiclbkgjaaGreatDoorK5
import Derived.Test.YtjclgoiclbkgjaaGreatDoorK2
import Derived.Test.YtjclgoiclbkgjaaGreatDoorK1
/- Walks of the document's grid: RightStyle, Blank, blanks, rows, may, New, cut. -/
namespace Go.Proofs.YtjclgoiclbkgjaaGreatDoor
open Go.RowKit

def CD (c : Int) (a b d e r : Bool) : Prop := decide (-1 ≤ c) = a ∧ decide (c ≤ 255) = b ∧ decide (16777216 ≤ c) = d ∧ decide (c < 33554432) = e ∧ colOk c = r
theorem cd_any (c : Int) : CD c false true false true false ∨ CD c true true false true true ∨ CD c true false false true false ∨ CD c true false true true true ∨ CD c true false true false false := by
  by_cases h1 : -1 ≤ c
  · by_cases h2 : c ≤ 255
    · refine .inr (.inl ⟨decide_eq_true h1, decide_eq_true h2, decide_eq_false (by omega), decide_eq_true (by omega), ?_⟩)
      unfold colOk; simp; omega
    · by_cases h3 : 16777216 ≤ c
      · by_cases h4 : c < 33554432
        · refine .inr (.inr (.inr (.inl ⟨decide_eq_true h1, decide_eq_false h2, decide_eq_true h3, decide_eq_true h4, ?_⟩)))
          unfold colOk; simp; omega
        · refine .inr (.inr (.inr (.inr ⟨decide_eq_true h1, decide_eq_false h2, decide_eq_true h3, decide_eq_false h4, ?_⟩)))
          unfold colOk; simp; omega
      · refine .inr (.inr (.inl ⟨decide_eq_true h1, decide_eq_false h2, decide_eq_false h3, decide_eq_true (by omega), ?_⟩))
        unfold colOk; simp; omega
  · refine .inl ⟨decide_eq_false h1, decide_eq_true (by omega), decide_eq_false (by omega), decide_eq_true (by omega), ?_⟩
    unfold colOk; simp; omega
set_option maxRecDepth 100000 in
set_option maxHeartbeats 2000000 in
theorem rightStyle_any (s : Sty) (w : World) : Calls Tryz.prog 60 #[s.val] w fun e w' => e = .returned (.bool (okS s)) ∧ Below w.heap.size w w' := by
  obtain ⟨f, b, t⟩ := s
  have HB := Lib.hid (Below.alloc (Below.refl w.heap.size w) (Nat.le_refl _) (.cells #[.int .i64 f, .int .i64 b, .int .i64 t] 36))
  have hk := blk_new w (.cells #[.int .i64 f, .int .i64 b, .int .i64 t] 36)
  have HOK := Lib.hid (show okS ⟨f, b, t⟩ = (colOk f && (colOk b && (decide (0 ≤ t) && decide (t ≤ 255)))) from rfl)
  unfold Sty.val
  go_enter Tryz.func60, Tryz.ntmps60
  go_upto_region 1 with fail
  generalize w.alloc (.cells #[.int .i64 f, .int .i64 b, .int .i64 t] 36) = w1 at *
  have k0 : w1.cell? ⟨w.heap.size, 0, none⟩ = some (.int .i64 f) := blk_cell hk 0
  have k1 : w1.cell? ⟨w.heap.size, 1, none⟩ = some (.int .i64 b) := blk_cell hk 1
  have k2 : w1.cell? ⟨w.heap.size, 2, none⟩ = some (.int .i64 t) := blk_cell hk 2
  go_cut [3] (fun v wx => (∃ r, v = .bool r ∧ Hid (r = colOk f)) ∧ wx = w1)
  case first =>
    rcases cd_any f with h | h | h | h | h <;> obtain ⟨h1, h2, h3, h4, h5⟩ := h <;> (have HR := Lib.hid h5.symm; clear h5; go_wp2_with fail; go_meet; exact ⟨⟨_, rfl, HR⟩, rfl⟩)
  case rest =>
  obtain ⟨⟨r1, rfl, HR1⟩, rfl⟩ := hcut
  obtain ⟨w1, rfl⟩ : ∃ w1, w1 = wc := ⟨wc, rfl⟩
  go_upto_region 2 with fail
  go_cut [4] (fun v wx => (∃ r, v = .bool r ∧ Hid (r = colOk b)) ∧ wx = w1)
  case first =>
    rcases cd_any b with h | h | h | h | h <;> obtain ⟨h1, h2, h3, h4, h5⟩ := h <;> (have HR := Lib.hid h5.symm; clear h5; go_wp2_with fail; go_meet; exact ⟨⟨_, rfl, HR⟩, rfl⟩)
  case rest =>
  obtain ⟨⟨r2, rfl, HR2⟩, rfl⟩ := hcut
  obtain ⟨w1, rfl⟩ : ∃ w1, w1 = wc := ⟨wc, rfl⟩
  cases r1
  · go_wp2_with fail
    exact ret1v rfl rfl rfl ⟨by rw [HOK.out, ← HR1.out]; rfl, HB.out⟩
  cases r2
  · go_wp2_with fail
    exact ret1v rfl rfl rfl ⟨by rw [HOK.out, ← HR1.out, ← HR2.out]; rfl, HB.out⟩
  by_cases h0 : 0 ≤ t
  · have d1 : decide (0 ≤ t) = true := decide_eq_true h0
    by_cases h1 : t ≤ 255
    · have d2 : decide (t ≤ 255) = true := decide_eq_true h1
      have HD := Lib.hid (show (decide (0 ≤ t) && decide (t ≤ 255)) = true by rw [d1, d2]; rfl)
      go_wp2_with fail
      exact ret1v rfl rfl rfl ⟨by rw [HOK.out, ← HR1.out, ← HR2.out, HD.out]; rfl, HB.out⟩
    · have d2 : decide (t ≤ 255) = false := decide_eq_false h1
      have HD := Lib.hid (show (decide (0 ≤ t) && decide (t ≤ 255)) = false by rw [d1, d2]; rfl)
      go_wp2_with fail
      exact ret1v rfl rfl rfl ⟨by rw [HOK.out, ← HR1.out, ← HR2.out, HD.out]; rfl, HB.out⟩
  · have d1 : decide (0 ≤ t) = false := decide_eq_false h0
    have HD := Lib.hid (show (decide (0 ≤ t) && decide (t ≤ 255)) = false by rw [d1]; rfl)
    go_wp2_with fail
    exact ret1v rfl rfl rfl ⟨by rw [HOK.out, ← HR1.out, ← HR2.out, HD.out]; rfl, HB.out⟩
theorem blankD_any (s : Sty) (w : World) : Calls Tryz.prog 64 #[s.val] w fun e w' => e = .returned (blankC s).val ∧ Below w.heap.size w w' := by
  have HB := Lib.hid (Below.alloc (Below.refl w.heap.size w) (Nat.le_refl _) (.cells #[.int .i64 s.fg, .int .i64 s.bg, .int .i64 s.attr] 36))
  have HB2 := Lib.hid (HB.out.alloc (by simp) (.cells #[.int .i32 32, .int .i64 1, .int .i64 s.fg, .int .i64 s.bg, .int .i64 s.attr] 38))
  unfold Sty.val
  go_enter Tryz.func64, Tryz.ntmps64
  go_wp2_with fail
  (try simp only [Exit.inBlock, Exit.then])
  exact retRow rfl rfl rfl (blk_new2 _ _ _) Tryz.underlying38 rfl (by exact cell_info) ⟨rfl, HB2.out⟩
set_option maxRecDepth 100000 in
set_option maxHeartbeats 2000000 in
theorem blanksD_any (n : Nat) (s : Sty) (w : World) (hn : n ≤ 100000) : Calls Tryz.prog 59 #[.int .i64 n, s.val] w fun e w' => ∃ v, e = .returned v ∧ Below w.heap.size w w' ∧ OwnC w' w.heap.size 5 v n (cvals (List.replicate n (blankC s))) := by
  have HB0 := Lib.hid (Below.alloc (Below.refl w.heap.size w) (Nat.le_refl _) (.cells #[.int .i64 s.fg, .int .i64 s.bg, .int .i64 s.attr] 36))
  have HK0 := Lib.hid (blk_new w (.cells #[.int .i64 s.fg, .int .i64 s.bg, .int .i64 s.attr] 36))
  have hs1 : (w.alloc (.cells #[.int .i64 s.fg, .int .i64 s.bg, .int .i64 s.attr] 36)).heap.size = w.heap.size + 1 := by simp
  unfold Sty.val
  go_enter Tryz.func59, Tryz.ntmps59
  go_upto_region 3 with fail
  generalize w.alloc (.cells #[.int .i64 s.fg, .int .i64 s.bg, .int .i64 s.attr] 36) = w1 at *
  go_loopw [5, 6] (fun vv iv wr => ∃ (k : Nat) (ov : Value), ov = vv ∧ k ≤ n ∧ iv = .int .i64 k ∧ Hid (Below w.heap.size w wr) ∧ Hid (wr.heap[w.heap.size]? = some (.cells #[.int .i64 s.fg, .int .i64 s.bg, .int .i64 s.attr] 36 (0, 0))) ∧ Hid (OwnC wr (w.heap.size + 1) 5 ov k (cvals (List.replicate k (blankC s))))) (fun _ iv _ => n - (intOf iv).toNat)
  case atStart => exact ⟨0, _, rfl, Nat.zero_le _, rfl, HB0, HK0, ownC_nil _ _ _⟩
  case round =>
    obtain ⟨k, ov, rfl, hk, rfl, HB, HK, HO⟩ := hrel
    obtain ⟨wo, rfl⟩ : ∃ wo, wo = wr := ⟨wr, rfl⟩
    have hso := heap_lt HK.out
    by_cases hlt : k < n
    · have d1 : decide ((k : Int) < (n : Int)) = true := decide_eq_true (by omega)
      have d1' : decide (k < n) = true := decide_eq_true hlt
      have hwk : IntKind.i64.wrap ((k : Int) + 1) = (k : Int) + 1 := wrap64_id _ (by omega) (by omega)
      have k0 : wo.cell? ⟨w.heap.size, 0, none⟩ = some (.int .i64 s.fg) := blk_cell HK.out 0
      have k1 : wo.cell? ⟨w.heap.size, 1, none⟩ = some (.int .i64 s.bg) := blk_cell HK.out 1
      have k2 : wo.cell? ⟨w.heap.size, 2, none⟩ = some (.int .i64 s.attr) := blk_cell HK.out 2
      have HBL := Lib.hid (blankD_any s wo)
      unfold Sty.val Cel.val blankC at HBL
      dsimp only at HBL
      go_wp2_with fail
      refine HBL.out.mono ?_
      rintro e w2 ⟨rfl, b2⟩
      have hs2 := b2.size
      have HB2 := Lib.hid ((HB.out.trans (b2.mono HB.out.size)).alloc (Nat.le_trans HB.out.size hs2) (.cells #[.int .i32 32, .int .i64 1, .int .i64 s.fg, .int .i64 s.bg, .int .i64 s.attr] 38))
      have HK2 := Lib.hid (blk_alloc (blk_below HK.out b2 (by omega)) (.cells #[.int .i32 32, .int .i64 1, .int .i64 s.fg, .int .i64 s.bg, .int .i64 s.attr] 38))
      have HO2 := Lib.hid (ownC_alloc (ownC_below HO.out b2) (.cells #[.int .i32 32, .int .i64 1, .int .i64 s.fg, .int .i64 s.bg, .int .i64 s.attr] 38))
      have HRD := Lib.hid (reads_cel w2 (.int .i32 32) (.int .i64 1) (.int .i64 s.fg) (.int .i64 s.bg) (.int .i64 s.attr) 38)
      have hs3 : (w2.alloc (.cells #[.int .i32 32, .int .i64 1, .int .i64 s.fg, .int .i64 s.bg, .int .i64 s.attr] 38)).heap.size = w2.heap.size + 1 := by simp
      clear b2 k0 k1 k2
      go_wp2_with (at_builtin; refine held ?_)
      unfold Held
      refine wpList_appD cells_elem rfl rfl (w.heap.size + 1) HO2.out rfl HRD.out rfl (cvals_one [blankC s]) (by unfold maxLen; omega) (by omega) (by omega) ?_
      intro v6 w6 o6 g6 n6
      have HB6 := Lib.hid (HB2.out.grown g6 (by omega) (fun q hq => by have := (ownC_lt HO2.out q hq).1; omega))
      have HK6 := Lib.hid (blk_grown HK2.out g6 (fun e => by have := (ownC_lt HO2.out _ e.symm).1; omega))
      have HO6 := Lib.hid (show OwnC w6 (w.heap.size + 1) 5 v6 (k + 1) (cvals (List.replicate (k + 1) (blankC s))) by
        rw [List.replicate_succ', cvals_append]; exact o6)
      clear o6 g6 n6
      go_wp2_with fail
      go_roundw
      case rel => exact ⟨k + 1, _, rfl, by omega, by go_num, HB6, HK6, HO6⟩
      case measure => simp [intOf]; omega
    · have hkn : k = n := by omega
      have d1 : decide ((k : Int) < (n : Int)) = false := decide_eq_false (by omega)
      have d1' : decide (k < n) = false := decide_eq_false hlt
      have HO2 := Lib.hid (show OwnC wo w.heap.size 5 ov n (cvals (List.replicate n (blankC s))) by rw [← hkn]; exact ownC_mono HO.out (by omega))
      clear hkn
      go_wp2_with fail
      exact ret1v rfl rfl rfl ⟨_, rfl, HB.out, HO2.out⟩
theorem rowsD_elem : Elem Tryz.prog 62 96 2 32 (.agg #[.slice none 0 0, .bool false]) := ⟨Tryz.underlying62, by kernel_rfl, rfl, by decide⟩
theorem rowD_info : (Tryz.prog.info? 96).map (·.size) = some 2 := by kernel_rfl
set_option maxRecDepth 100000 in
set_option maxHeartbeats 2000000 in
theorem rowsD_any (n cols : Nat) (s : Sty) (w : World) (hn : n ≤ 10000) (hc1 : 1 ≤ cols) (hc : cols ≤ 1000) : Calls Tryz.prog 22 #[.int .i64 n, .int .i64 cols, s.val] w fun e w' => ∃ v L, e = .returned v ∧ Below w.heap.size w w' ∧ L.map (·.2) = freshL n cols s ∧ RowsAt w.heap.size w' v L := by
  have HB0 := Lib.hid (Below.alloc (Below.refl w.heap.size w) (Nat.le_refl _) (.cells #[.int .i64 s.fg, .int .i64 s.bg, .int .i64 s.attr] 36))
  have HK0 := Lib.hid (blk_new w (.cells #[.int .i64 s.fg, .int .i64 s.bg, .int .i64 s.attr] 36))
  have hs1 : (w.alloc (.cells #[.int .i64 s.fg, .int .i64 s.bg, .int .i64 s.attr] 36)).heap.size = w.heap.size + 1 := by simp
  unfold Sty.val
  go_enter Tryz.func22, Tryz.ntmps22
  go_upto_region 3 with fail
  generalize w.alloc (.cells #[.int .i64 s.fg, .int .i64 s.bg, .int .i64 s.attr] 36) = w1 at *
  go_loopw [7, 8] (fun vv iv wr => ∃ (k : Nat) (ov : Value) (L : List (Value × Rw)), ov = vv ∧ k ≤ n ∧ iv = .int .i64 k ∧ Hid (Below w.heap.size w wr) ∧ Hid (wr.heap[w.heap.size]? = some (.cells #[.int .i64 s.fg, .int .i64 s.bg, .int .i64 s.attr] 36 (0, 0))) ∧ Hid (RowsAt (w.heap.size + 1) wr ov L) ∧ Hid (L.length = k ∧ L.map (·.2) = freshL k cols s)) (fun _ iv _ => n - (intOf iv).toNat)
  case atStart => exact ⟨0, _, [], rfl, Nat.zero_le _, rfl, HB0, HK0, RowsAt.nil _ _, ⟨rfl, rfl⟩⟩
  case round =>
    obtain ⟨k, ov, L, rfl, hk, rfl, HB, HK, HR, HL⟩ := hrel
    obtain ⟨wo, rfl⟩ : ∃ wo, wo = wr := ⟨wr, rfl⟩
    have hso := heap_lt HK.out
    by_cases hlt : k < n
    · have d1 : decide ((k : Int) < (n : Int)) = true := decide_eq_true (by omega)
      have d1' : decide (k < n) = true := decide_eq_true hlt
      have hwk : IntKind.i64.wrap ((k : Int) + 1) = (k : Int) + 1 := wrap64_id _ (by omega) (by omega)
      have k0 : wo.cell? ⟨w.heap.size, 0, none⟩ = some (.int .i64 s.fg) := blk_cell HK.out 0
      have k1 : wo.cell? ⟨w.heap.size, 1, none⟩ = some (.int .i64 s.bg) := blk_cell HK.out 1
      have k2 : wo.cell? ⟨w.heap.size, 2, none⟩ = some (.int .i64 s.attr) := blk_cell HK.out 2
      have HBL := Lib.hid (blanksD_any cols s wo (by omega))
      unfold Sty.val at HBL
      go_wp2_with fail
      refine HBL.out.mono ?_
      rintro e w2 ⟨v2, rfl, b2, o2⟩
      have hs2 := b2.size
      obtain ⟨qb, qo, qc, rfl, _, _⟩ := ownC_pos o2 (by omega)
      have HB2 := Lib.hid ((HB.out.trans (b2.mono HB.out.size)).alloc (Nat.le_trans HB.out.size hs2) (.cells #[.slice (some ⟨qb, qo, none⟩) cols qc, .bool false] 96))
      have HBB := Lib.hid (Below.alloc b2 hs2 (.cells #[.slice (some ⟨qb, qo, none⟩) cols qc, .bool false] 96))
      have HK2 := Lib.hid (blk_alloc (blk_below HK.out b2 (by omega)) (.cells #[.slice (some ⟨qb, qo, none⟩) cols qc, .bool false] 96))
      have HV2 := Lib.hid (ownC_alloc o2 (.cells #[.slice (some ⟨qb, qo, none⟩) cols qc, .bool false] 96))
      have HO2 := Lib.hid (show OwnC (w2.alloc (.cells #[.slice (some ⟨qb, qo, none⟩) cols qc, .bool false] 96)) (w.heap.size + 1) 2 ov k (rowVals L) by
        have := ownC_alloc (ownC_below HR.out.own b2) (.cells #[.slice (some ⟨qb, qo, none⟩) cols qc, .bool false] 96)
        rw [HL.out.1] at this
        exact this)
      have HRD := Lib.hid (reads_row w2 (.slice (some ⟨qb, qo, none⟩) cols qc) false 96)
      have hs3 : (w2.alloc (.cells #[.slice (some ⟨qb, qo, none⟩) cols qc, .bool false] 96)).heap.size = w2.heap.size + 1 := by simp
      clear b2 o2 k0 k1 k2
      go_wp2_with (at_builtin; refine held ?_)
      unfold Held
      refine wpList_appD rowsD_elem rfl rfl (w.heap.size + 1) HO2.out rfl HRD.out rfl (row_one _ _ _ _) (by unfold maxLen; omega) (by omega) (by omega) ?_
      intro v6 w6 o6 g6 n6
      have HB6 := Lib.hid (HB2.out.grown g6 (by omega) (fun q hq => by have := (ownC_lt HO2.out q hq).1; omega))
      have HK6 := Lib.hid (blk_grown HK2.out g6 (fun e => by have := (ownC_lt HO2.out _ e.symm).1; omega))
      have HR6 := Lib.hid (HR.out.snoc (xr := ⟨List.replicate cols (blankC s), false⟩) HBB.out (by rw [List.length_replicate]; exact HV2.out) rfl (by rw [HL.out.1]; exact o6) g6 n6 (by omega))
      have HL6 := Lib.hid (show (L ++ [((.slice (some ⟨qb, qo, none⟩) cols qc : Value), (⟨List.replicate cols (blankC s), false⟩ : Rw))]).length = k + 1 ∧ (L ++ [((.slice (some ⟨qb, qo, none⟩) cols qc : Value), (⟨List.replicate cols (blankC s), false⟩ : Rw))]).map (·.2) = freshL (k + 1) cols s from ⟨by rw [List.length_append, HL.out.1]; rfl, by
        rw [List.map_append, HL.out.2]
        unfold freshL
        rw [List.replicate_succ']
        rfl⟩)
      clear o6 g6 n6
      go_wp2_with fail
      go_roundw
      case rel => exact ⟨k + 1, _, _, rfl, by omega, by go_num, HB6, HK6, HR6, HL6⟩
      case measure => simp [intOf]; omega
    · have hkn : k = n := by omega
      have d1 : decide ((k : Int) < (n : Int)) = false := decide_eq_false (by omega)
      have d1' : decide (k < n) = false := decide_eq_false hlt
      have HL2 := Lib.hid (show L.map (·.2) = freshL n cols s by rw [← hkn]; exact HL.out.2)
      clear hkn
      go_wp2_with fail
      exact ret1v rfl rfl rfl ⟨_, L, rfl, HB.out, HL2.out, ⟨ownC_mono HR.out.own (by omega), fun x hx => ownC_mono (HR.out.cells x hx) (by omega), HR.out.nd, HR.out.ap⟩⟩
theorem mayD_any (x y : Int) (w : World) : Calls Tryz.prog 21 #[.int .i64 x, .int .i64 y] w fun e w' => e = .returned (.bool (mayG x y)) ∧ w' = w := by
  by_cases h1 : 1 ≤ x
  rotate_left
  · have e : decide (1 ≤ x) = false := decide_eq_false h1
    go_enter Tryz.func21, Tryz.ntmps21
    go_wp2_with fail
    go_ret
    exact ⟨ret_bool (by unfold mayG; rw [e]; rfl), rfl⟩
  have e1 : decide (1 ≤ x) = true := decide_eq_true h1
  by_cases h2 : x ≤ 250
  rotate_left
  · have e : decide (x ≤ 250) = false := decide_eq_false h2
    go_enter Tryz.func21, Tryz.ntmps21
    go_wp2_with fail
    go_ret
    exact ⟨ret_bool (by unfold mayG; rw [e, e1]; rfl), rfl⟩
  have e2 : decide (x ≤ 250) = true := decide_eq_true h2
  by_cases h3 : 1 ≤ y
  rotate_left
  · have e : decide (1 ≤ y) = false := decide_eq_false h3
    go_enter Tryz.func21, Tryz.ntmps21
    go_wp2_with fail
    go_ret
    exact ⟨ret_bool (by unfold mayG; rw [e, e1, e2]; rfl), rfl⟩
  have e3 : decide (1 ≤ y) = true := decide_eq_true h3
  cases h4 : decide (y ≤ 120)
  · go_enter Tryz.func21, Tryz.ntmps21
    go_wp2_with fail
    go_ret
    exact ⟨ret_bool (by unfold mayG; rw [e1, e2, e3, h4]; rfl), rfl⟩
  · go_enter Tryz.func21, Tryz.ntmps21
    go_wp2_with fail
    go_ret
    exact ⟨ret_bool (by unfold mayG; rw [e1, e2, e3, h4]; rfl), rfl⟩
theorem newD_no (cols rows hist : Int) (w : World) (h : mayG cols rows = false ∨ hist < 0 ∨ 2000 < hist) :
    Calls Tryz.prog 6 #[.int .i64 cols, .int .i64 rows, .int .i64 hist] w fun e w' => e = .returned (.tuple #[.pointer none, .bool false]) ∧ w' = w := by
  have HM := Lib.hid (mayD_any cols rows w)
  cases hm : mayG cols rows
  · rw [hm] at HM
    go_enter Tryz.func6, Tryz.ntmps6
    go_wp2_with fail
    refine HM.out.mono ?_
    rintro e w2 ⟨rfl, rfl⟩
    go_wp2_with fail
    refine ret2w rfl rfl rfl rfl ⟨rfl, rfl⟩
  · rw [hm] at HM h
    by_cases h0 : hist < 0
    · have e0 : decide (hist < 0) = true := decide_eq_true h0
      go_enter Tryz.func6, Tryz.ntmps6
      go_wp2_with fail
      refine HM.out.mono ?_
      rintro e w2 ⟨rfl, rfl⟩
      go_wp2_with fail
      refine ret2w rfl rfl rfl rfl ⟨rfl, rfl⟩
    · have e0 : decide (hist < 0) = false := decide_eq_false h0
      have e1 : decide (2000 < hist) = true := decide_eq_true (by simp at h; omega)
      go_enter Tryz.func6, Tryz.ntmps6
      go_wp2_with fail
      refine HM.out.mono ?_
      rintro e w2 ⟨rfl, rfl⟩
      go_wp2_with fail
      refine ret2w rfl rfl rfl rfl ⟨rfl, rfl⟩
set_option maxRecDepth 100000 in
theorem newD_any (cols rows hist : Nat) (w : World) (h1 : 1 ≤ cols) (h2 : cols ≤ 250) (h3 : 1 ≤ rows) (h4 : rows ≤ 120) (h5 : hist ≤ 2000) :
    Calls Tryz.prog 6 #[.int .i64 cols, .int .i64 rows, .int .i64 hist] w fun e w' => ∃ p T, e = .returned (.tuple #[.pointer (some ⟨p, 0, none⟩), .bool true]) ∧ Below w.heap.size w w' ∧ RM T p w' (newG cols rows hist) ∧ ∀ k, T k ≠ 0 → w.heap.size ≤ k := by
  have hm : mayG cols rows = true := by
    unfold mayG
    rw [decide_eq_true (by omega), decide_eq_true (by omega), decide_eq_true (by omega), decide_eq_true (by omega)]; rfl
  have HM := Lib.hid (mayD_any cols rows w)
  rw [hm] at HM
  have e0 : decide ((hist : Int) < 0) = false := decide_eq_false (by omega)
  have e1 : decide (2000 < (hist : Int)) = false := decide_eq_false (by omega)
  have e1' : decide (2000 < hist) = false := decide_eq_false (by omega)
  go_enter Tryz.func6, Tryz.ntmps6
  go_wp2_with fail
  refine HM.out.mono ?_
  rintro e w2 ⟨rfl, rfl⟩
  go_wp2_with fail
  refine (refPlain_any _).mono ?_
  rintro e w3 ⟨rfl, b3⟩
  have HB3 := Lib.hid b3
  clear b3
  go_wp2_with fail
  refine (rowsD_any rows cols plainS w3 (by omega) h1 (by omega)).mono ?_
  rintro e w4 ⟨v, L, rfl, b4, hL, hR⟩
  obtain ⟨va, vc, rfl⟩ := ownC_sl hR.own
  have HB4 := Lib.hid (HB3.out.trans (b4.mono HB3.out.size))
  have HR4 := Lib.hid hR
  have HL := Lib.hid hL
  have hs3 := HB3.out.size
  have hs4 := b4.size
  clear b4 hR hL
  go_wp2_with fail
  have hbk := blk_new w4 (.cells #[.int .i64 cols, .int .i64 hist, .slice va L.length vc, .slice none 0 0] 65)
  have hb5 := Below.alloc (Below.refl w4.heap.size w4) (Nat.le_refl _) (.cells #[.int .i64 cols, .int .i64 hist, .slice va L.length vc, .slice none 0 0] 65)
  have hr5 : RowsAt w3.heap.size (w4.alloc (.cells #[.int .i64 cols, .int .i64 hist, .slice va L.length vc, .slice none 0 0] 65)) (.slice va L.length vc) L :=
    ⟨ownC_below HR4.out.own hb5, fun x hx => ownC_below (HR4.out.cells x hx) hb5, HR4.out.nd, HR4.out.ap⟩
  refine ret2w rfl rfl rfl rfl ⟨w4.heap.size, _, rfl, HB4.out.trans (hb5.mono (by omega)), rat_new (g := newG cols rows hist) hr5 hbk ?_ ?_ (by omega) HL.out rfl (newG_wf h1 h2 h3 h4 h5), fun k hk => ?_⟩
  · intro e
    have := (ownC_lt HR4.out.own _ e).2
    omega
  · intro x hx e
    have := (ownC_lt (HR4.out.cells x hx) _ e).2
    omega
  · have := newT4_from (by omega) hr5.own k hk
    omega
set_option maxRecDepth 100000 in
set_option maxHeartbeats 2000000 in
theorem cutD_any (l : List Cel) (x : Int) (b off n c : Nat) (w : World) (h : OwnC w 0 5 (.slice (some ⟨b, off, none⟩) n c) n (cvals l)) (hn : l.length = n) (hm : n ≤ 1000000) (hx : -4611686018427387904 ≤ x ∧ x ≤ 4611686018427387904) (hwh : Wh l) :
    Calls Tryz.prog 62 #[.slice (some ⟨b, off, none⟩) n c, .int .i64 x] w fun e w' => e = .returned (.tuple #[]) ∧ w.grownBy w' (some b) ∧ OwnC w' 0 5 (.slice (some ⟨b, off, none⟩) n c) n (cvals (cutL l x)) := by
  have HO := Lib.hid h
  have HWH := Lib.hid hwh
  have hbl := (ownC_lt h b rfl).2
  clear h hwh
  by_cases h0 : 0 < x ∧ x < (n : Int)
  rotate_left
  · have HE := Lib.hid (show cutL l x = l by unfold cutL; rw [if_neg (by rw [hn]; omega)])
    by_cases h1 : 0 < x
    · have hd1 : decide (0 < x) = true := decide_eq_true h1
      have hd2 : decide (x < (n : Int)) = false := decide_eq_false (by omega)
      go_enter Tryz.func62, Tryz.ntmps62
      go_wp2_with fail
      go_end0
      refine ⟨rfl, gb_refl _ _, ?_⟩
      rw [HE.out]; exact HO.out
    · have hd1 : decide (0 < x) = false := decide_eq_false h1
      go_enter Tryz.func62, Tryz.ntmps62
      go_wp2_with fail
      go_end0
      refine ⟨rfl, gb_refl _ _, ?_⟩
      rw [HE.out]; exact HO.out
  · obtain ⟨h1, h2⟩ := h0
    obtain ⟨xn, rfl⟩ : ∃ k : Nat, x = (k : Int) := ⟨x.toNat, by omega⟩
    have hd1 : decide (0 < (xn : Int)) = true := decide_eq_true h1
    have hd1' : decide (0 < xn) = true := decide_eq_true (by omega)
    have hd2 : decide ((xn : Int) < (n : Int)) = true := decide_eq_true h2
    have hxn : xn < n := by omega
    have hd2' : decide (xn < n) = true := decide_eq_true hxn
    have hix := idx_at (P := Tryz.prog) (size := 5) Tryz.underlying42 cell_info b off n c xn hxn
    obtain ⟨p0, p1, p2, p3, p4⟩ := ownC_cel HO.out xn hxn hn
    by_cases hw0 : (l.getD xn noC).width = 0
    rotate_left
    · have HE := Lib.hid (show cutL l xn = l by unfold cutL; rw [if_neg (fun e => hw0 (by have := e.2.2; rw [Int.toNat_natCast] at this; exact this))])
      have d3 : ((l.getD xn noC).width == 0) = false := beq_eq_false_iff_ne.2 hw0
      generalize l.getD xn noC = cl at *
      obtain ⟨cr, cw, cs⟩ := cl
      dsimp only at p0 p1 p2 p3 p4 d3
      go_enter Tryz.func62, Tryz.ntmps62
      go_wp2_with fail
      go_end0
      refine ⟨rfl, gb_refl _ _, ?_⟩
      rw [HE.out]; exact HO.out
    · obtain ⟨y, hy⟩ : ∃ y : Nat, xn = y + 1 := ⟨xn - 1, by omega⟩
      have HY := Lib.hid hy
      have hyn : y < n := by omega
      have hsty : (l.getD xn noC).sty = (l.getD y noC).sty := by
        rcases wh_at HWH.out xn (by omega) with e | ⟨e, _⟩ | ⟨_, _, _, _, e⟩
        · omega
        · omega
        · rw [show xn - 1 = y by omega] at e; exact e
      have HE := Lib.hid (show cutL l xn = fillL l y 2 (l.getD xn noC).sty by
        unfold cutL
        rw [Int.toNat_natCast, if_pos ⟨h1, by rw [hn]; exact h2, hw0⟩, show xn - 1 = y by omega])
      have hwy : IntKind.i64.wrap ((xn : Int) - 1) = (y : Int) := by rw [wrap64_id _ (by omega) (by omega)]; omega
      have hiy := idx_at (P := Tryz.prog) (size := 5) Tryz.underlying42 cell_info b off n c y hyn
      obtain ⟨q0, q1, q2, q3, q4⟩ := ownC_cel HO.out y hyn hn
      rw [← hsty] at q2 q3 q4
      rw [hw0] at p1
      have HGX := Lib.hid (show ∀ m : List Cel, (putAt l y m).length = l.length → m.length = 1 → (putAt l y m).getD xn noC = l.getD xn noC from fun m h3 h4 => by
        rw [putAt_getD (by rw [h4]; omega), if_neg (by rw [h4]; omega)])
      clear hy hw0 hsty q0 q1
      generalize l.getD xn noC = cl at *
      obtain ⟨cr, cw, ⟨cf, cb, ca⟩⟩ := cl
      dsimp only at p0 p1 p2 p3 p4 q2 q3 q4 HE
      go_enter Tryz.func62, Tryz.ntmps62
      go_wp2_with fail
      refine (blankD_any ⟨cf, cb, ca⟩ w).mono ?_
      rintro e w2 ⟨rfl, b2⟩
      have HO2 := ownC_below HO.out b2
      have hst := store_own (P := Tryz.prog) cell_info HO2 y hyn #[.int .i32 32, .int .i64 1, .int .i64 cf, .int .i64 cb, .int .i64 ca] rfl (cvals_one' ⟨32, 1, ⟨cf, cb, ca⟩⟩)
      have HP := ownC_put HO2 (y * 5) (cvals [blankC ⟨cf, cb, ca⟩]) (by rw [cvals_len]; simp; omega)
      rw [← cvals_put] at HP
      have g3 := gb_setCells w2 b (off + y * 5) (cvals [blankC ⟨cf, cb, ca⟩])
      replace hst : (storeVar 38 ⟨b, off + y * 5, none⟩ (.agg #[.int .i32 32, .int .i64 1, .int .i64 cf, .int .i64 cb, .int .i64 ca])).run Tryz.prog w2 = .ok () (w2.setCells b (off + y * 5) (cvals [blankC ⟨cf, cb, ca⟩])) := hst
      have HG3 := Lib.hid (gb_trans (gb_of_below (some b) b2) g3)
      have hpl : (putAt l y [blankC ⟨cf, cb, ca⟩]).length = l.length := putAt_len _ _ _ (by simp; omega)
      obtain ⟨_, _, r2, r3, r4⟩ := ownC_cel HP xn hxn (by rw [hpl]; exact hn)
      rw [HGX.out _ hpl rfl] at r2 r3 r4
      have HO3 := Lib.hid HP
      clear HP g3 HO2 b2 p0 p1 p2 p3 p4 q2 q3 q4
      unfold Cel.val blankC
      generalize w2.setCells b (off + y * 5) (cvals [blankC ⟨cf, cb, ca⟩]) = w3 at *
      go_wp2_with (refine wpList_storeR rfl _ _ _ rfl hst rfl rfl ?_)
      clear hst
      refine (blankD_any ⟨cf, cb, ca⟩ w3).mono ?_
      rintro e w4 ⟨rfl, b4⟩
      have HO4 := ownC_below HO3.out b4
      have hst := store_own (P := Tryz.prog) cell_info HO4 xn hxn #[.int .i32 32, .int .i64 1, .int .i64 cf, .int .i64 cb, .int .i64 ca] rfl (cvals_one' ⟨32, 1, ⟨cf, cb, ca⟩⟩)
      have HP := ownC_put HO4 (xn * 5) (cvals [blankC ⟨cf, cb, ca⟩]) (by rw [cvals_len]; simp; omega)
      have hff : putAt (putAt l y [blankC ⟨cf, cb, ca⟩]) xn [blankC ⟨cf, cb, ca⟩] = fillL l y 2 ⟨cf, cb, ca⟩ := by
        have e1 := fill_succ l y 0 ⟨cf, cb, ca⟩ (by omega)
        rw [fill_zero, Nat.add_zero] at e1
        have e2 := fill_succ l y 1 ⟨cf, cb, ca⟩ (by have := HY.out; omega)
        rw [e1, HY.out]
        exact e2
      rw [← cvals_put, hff] at HP
      have g5 := gb_setCells w4 b (off + xn * 5) (cvals [blankC ⟨cf, cb, ca⟩])
      replace hst : (storeVar 38 ⟨b, off + xn * 5, none⟩ (.agg #[.int .i32 32, .int .i64 1, .int .i64 cf, .int .i64 cb, .int .i64 ca])).run Tryz.prog w4 = .ok () (w4.setCells b (off + xn * 5) (cvals [blankC ⟨cf, cb, ca⟩])) := hst
      have HG5 := Lib.hid (gb_trans (gb_below HG3.out b4 HG3.out.size) g5)
      have HO5 := Lib.hid HP
      clear HP g5 HO4 b4 r2 r3 r4
      unfold Cel.val blankC
      generalize w4.setCells b (off + xn * 5) (cvals [blankC ⟨cf, cb, ca⟩]) = w5 at *
      go_wp2_with (refine wpList_storeR rfl _ _ _ rfl hst rfl rfl ?_)
      go_end0
      refine ⟨rfl, HG5.out, ?_⟩
      rw [HE.out]
      exact HO5.out
end Go.Proofs.YtjclgoiclbkgjaaGreatDoor

/- The reference's Width. -/
namespace Go.Proofs.YtjclgoiclbkgjaaGreatDoor
open Go.RowKit

def flatI (l : List (Int × Int)) : List Int := l.flatMap fun x => [x.1, x.2]
theorem flatI_get : ∀ (l : List (Int × Int)) (i : Nat), i < l.length → (flatI l).getD (2 * i) 0 = (l.getD i (0, 0)).1 ∧ (flatI l).getD (2 * i + 1) 0 = (l.getD i (0, 0)).2
  | x :: l, 0, _ => by simp [flatI]
  | x :: l, i + 1, h => by
    have := flatI_get l i (by simpa using h)
    rw [show 2 * (i + 1) = 2 * i + 1 + 1 from by omega]
    simpa [flatI] using this

set_option maxHeartbeats 400000 in
theorem refIn_any (r : Int) (b n m : Nat) (l : List (Int × Int)) (w : World) (hn : n ≤ 100) (hl : l.length = n) (hm : m = 2 * n) (hI : IsInts .i32 w (.slice (some ⟨b, 0, none⟩) m m) (flatI l)) :
    Calls Tryz.prog 85 #[.int .i32 r, .slice (some ⟨b, 0, none⟩) m m] w fun e w' => e = .returned (.bool (inR r l)) ∧ w = w' := by
  subst hm
  have hc : ∀ i, i < n → w.cell? ⟨b, 2 * i, none⟩ = some (.int .i32 (l.getD i (0, 0)).1) ∧ w.cell? ⟨b, 2 * i + 1, none⟩ = some (.int .i32 (l.getD i (0, 0)).2) := by
    intro i hi
    rcases hI with ⟨h, _⟩ | ⟨b', o', c', h, _, _, _, h5⟩
    · simp at h
    · simp only [Value.slice.injEq, Option.some.injEq, Addr.mk.injEq, and_true] at h
      obtain ⟨⟨rfl, rfl⟩, h6, h7⟩ := h
      have g1 := h5 (2 * i) (by omega)
      have g2 := h5 (2 * i + 1) (by omega)
      obtain ⟨e1, e2⟩ := flatI_get l i (by omega)
      rw [e1, Nat.zero_add] at g1
      rw [e2, Nat.zero_add] at g2
      exact ⟨g1, g2⟩
  have HL := Lib.hid hl
  have HC := Lib.hid hc
  clear hl hc hI
  go_enter Tryz.func85, Tryz.ntmps85
  go_wp2
  go_loop [5] (fun i => ∃ k : Nat, k ≤ n ∧ i = .int .i64 ((2 * k : Nat) : Int) ∧ inR r (l.take k) = false) (fun i => 2 * n - (intOf i).toNat)
  case atStart => exact ⟨0, by omega, rfl, rfl⟩
  case round =>
    obtain ⟨k, hk, rfl, hno⟩ := hrel
    have HNO := Lib.hid hno
    clear hno
    by_cases hlt : k < n
    · obtain ⟨c1, c2⟩ := HC.out k hlt
      generalize hx : (l.getD k (0, 0)).1 = x at c1
      generalize hy : (l.getD k (0, 0)).2 = y at c2
      have HX := Lib.hid hx
      have HY := Lib.hid hy
      clear hx hy
      have hkl : k < l.length := by rw [HL.out]; exact hlt
      generalize hkk : 2 * k = kk at *
      have HKK := Lib.hid hkk
      have hk2 : kk + 1 < 2 * n := by omega
      clear hkk
      go_wp2
      · go_ret
        exact ⟨ret_bool (inR_hit r l k hkl (by rw [HX.out]; assumption) (by rw [HY.out]; assumption)).symm, rfl⟩
      all_goals
        refine ⟨⟨k + 1, by omega, int_eq (by have := HKK.out; omega), ?_⟩, by simp [intOf]; omega⟩
        rw [inR_succ r l k hkl, HNO.out, HX.out, HY.out]
        simp; omega
    · have hk2 : k = n := by omega
      have HK2 := Lib.hid hk2
      generalize hkk : 2 * k = kk at *
      have hk3 : 2 * n ≤ kk := by omega
      have hk4 : kk ≤ 2 * n := by omega
      clear hk2 hkk
      go_wp2
      go_ret
      refine ⟨ret_bool ?_, rfl⟩
      have := HNO.out
      rw [List.take_of_length_le (by have := HL.out; have := HK2.out; omega)] at this
      exact this.symm

def two3 : List (Int × Int) := [(4352, 4447), (11904, 12350), (12353, 13311), (13312, 19903), (19968, 40959), (40960, 42191), (44032, 55203), (63744, 64255), (65072, 65135), (65280, 65376), (65504, 65510), (127744, 128591), (129280, 129535), (131072, 262141)]
theorem two3_eq (r : Int) : inR r two3 = inR r two2 := by
  rw [Bool.eq_iff_iff]
  simp [inR, two3, two2]
  omega
theorem ctl_eq (r : Int) : inR r ctl = (decide (127 ≤ r) && decide (r ≤ 159)) := by simp [inR, ctl]

set_option maxHeartbeats 1000000 in
theorem refWidth_any (r : Int) (w : World) :
    Calls Tryz.prog 61 #[.int .i32 r] w fun e w' => e = .returned (.int .i64 (wid r)) ∧ Below w.heap.size w w' := by
  have HC := Lib.hid (ctl_eq r)
  have H2 := Lib.hid (two3_eq r)
  by_cases h1 : r < 32
  · go_enter Tryz.func61, Tryz.ntmps61
    go_wp2
    go_ret
    exact ⟨ret_int (by simp [wid, h1]), Below.refl _ _⟩
  by_cases h2 : 127 ≤ r ∧ r ≤ 159
  · obtain ⟨h2, h3⟩ := h2
    go_enter Tryz.func61, Tryz.ntmps61
    go_wp2
    go_ret
    exact ⟨ret_int (by unfold wid; rw [if_pos (.inr (.inr (by rw [HC.out]; simp [h2, h3])))]), Below.refl _ _⟩
  by_cases h4 : 1114111 < r
  · go_enter Tryz.func61, Tryz.ntmps61
    go_wp2
    all_goals
      go_ret
      exact ⟨ret_int (by unfold wid; rw [if_pos (.inr (.inl h4))]), Below.refl _ _⟩
  have HN := Lib.hid (show ¬ (r < 32 ∨ 1114111 < r ∨ inR r ctl = true) by
    rintro (h | h | h)
    · exact h1 h
    · exact h4 h
    · rw [HC.out] at h; simp at h; exact h2 h)
  have h5 : r < 127 ∨ (127 ≤ r ∧ 159 < r) := by omega
  clear h2
  rcases h5 with h5 | ⟨h5, h6⟩
  all_goals
    go_enter Tryz.func61, Tryz.ntmps61
    go_wp2_with fail
    refine (refIn_any r _ 3 6 nil0 _ (by decide) rfl rfl (isInts_lit _ _ _ _ _ _ rfl rfl (by decide) rfl)).mono ?_
    rintro e w1 ⟨rfl, rfl⟩
    go_wp2_with fail
    · go_ret
      exact ⟨ret_int (by unfold wid; rw [if_neg HN.out, if_pos ‹inR r nil0 = true›]), (Below.refl _ _).alloc (Nat.le_refl _) _⟩
    refine (refIn_any r _ 14 28 two3 _ (by decide) rfl rfl (isInts_lit _ _ _ _ _ _ (by simp) rfl (by decide) rfl)).mono ?_
    rintro e w1 ⟨rfl, rfl⟩
    go_wp2_with fail
    all_goals
      go_ret
      exact ⟨ret_int (by unfold wid; rw [if_neg HN.out, ← H2.out, if_neg (by simp only [‹inR r nil0 = false›]; decide)]; simp only [‹inR r two3 = _›]; rfl), ((Below.refl _ _).alloc (Nat.le_refl _) _).alloc (by simp) _⟩

end Go.Proofs.YtjclgoiclbkgjaaGreatDoor
