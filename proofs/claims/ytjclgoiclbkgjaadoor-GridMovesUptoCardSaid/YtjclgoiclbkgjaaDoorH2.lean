/- The law GridMoves: the walk. -/
import Derived.Test.YtjclgoiclbkgjaaDoorH1
import Derived.Deep.CutBlock
namespace Go.Proofs.YtjclgoiclbkgjaaDoor
open Go.RowKit
attribute [local go_sem ↓] Go.wp_at_zero Go.wp_at_succ

set_option maxRecDepth 100000 in
set_option maxHeartbeats 8000000 in
theorem gridMoves_walk (cols rows : Int) (tv : Value) (texts : List ByteArray) (top bottom n : Int) (w : World) (h1 : -9223372036854775808 ≤ cols ∧ cols ≤ 9223372036854775807) (h2 : -9223372036854775808 ≤ rows ∧ rows ≤ 9223372036854775807)
    (h3 : -9223372036854775808 ≤ top ∧ top ≤ 9223372036854775807) (h4 : -9223372036854775808 ≤ bottom ∧ bottom ≤ 9223372036854775807) (h5 : -9223372036854775808 ≤ n ∧ n ≤ 9223372036854775807)
    (ht : IsVals w tv (texts.map Value.string)) (hs : ∀ s ∈ texts, s.size ≤ 1000000000) (hln : texts.length ≤ 1000000000) :
    Calls Tryd.prog 4 #[.int .i64 cols, .int .i64 rows, tv, .int .i64 top, .int .i64 bottom, .int .i64 n] w fun e w' => e = .returned (.bool true) ∧ Below w.heap.size w w' := by
  have HTV := Lib.hid ht
  have HSS := Lib.hid hs
  clear ht hs
  go_enter Tryd.func4, Tryd.ntmps4
  go_wp2_with fail
  refine (shown_any w).mono ?_
  rintro e w1 ⟨rfl, b1⟩
  have HB1 := Lib.hid b1
  clear b1
  go_wp2_with fail
  refine (filled_any cols rows 0 h1 h2 (by decide) tv (.slice none 0 0) texts [] w1 (isVals_below HTV.out HB1.out) (.inl ⟨rfl, rfl⟩) HSS.out hln (by simp)).mono ?_
  rintro e w2 ⟨q, rfl, T, g, c, r, l, hsh, hd, hc, hr, hl, hl0⟩
  have hl00 := hl0 rfl
  subst hl00
  have HS2 := Lib.hid (hsh.mono HB1.out)
  have HD := Lib.hid hd
  clear hsh hd hl0 hl
  go_wp2_with fail
  refine (clone_any HS2.out.gm).mono ?_
  rintro e w3 ⟨q2, T2, rfl, b3, g3, n3⟩
  have HW3 := Lib.hid (show Two w T T2 q q2 w3 g g from ⟨HS2.out.below b3, ⟨(HS2.out.below b3).b, g3, fun k hk => Nat.le_trans HS2.out.b.size (n3 k hk)⟩, fun k hk => by
    by_cases h0 : T k = 0
    · exact h0
    · have h6 := HS2.out.gm.lt k h0
      have h7 := n3 k hk
      omega⟩)
  clear b3 g3 n3 HS2
  go_wp2_with fail
  refine (rowsN_any HW3.out.a.gm).mono ?_
  rintro e wx1 ⟨rfl, hx1⟩
  subst wx1
  rw [HD.out.2.1]
  go_wp2_with fail
  refine (pick_any top r w3 h3.1 h3.2 (by omega) (by omega)).mono ?_
  rintro e wx1 ⟨t, rfl, htr, _, hx1⟩
  subst wx1
  go_wp2_with fail
  refine (rowsN_any HW3.out.a.gm).mono ?_
  rintro e wx1 ⟨rfl, hx1⟩
  subst wx1
  rw [HD.out.2.1]
  obtain ⟨m1, hm1⟩ : ∃ m1 : Nat, m1 + t = r := ⟨r - t, by omega⟩
  have hw1 : IntKind.i64.wrap ((r : Int) - (t : Int)) = (m1 : Int) := by rw [wrap64_id _ (by omega) (by omega)]; omega
  go_wp2_with fail
  refine (pick_any bottom m1 w3 h4.1 h4.2 (by omega) (by omega)).mono ?_
  rintro e wx1 ⟨b0, rfl, hb0, _, hx1⟩
  subst wx1
  obtain ⟨bt, hbt⟩ : ∃ bt : Nat, t + b0 = bt := ⟨_, rfl⟩
  obtain ⟨b2, hb2⟩ : ∃ b2 : Nat, b0 + 1 = b2 := ⟨_, rfl⟩
  have hw2 : IntKind.i64.wrap ((t : Int) + (b0 : Int)) = (bt : Int) := by rw [wrap64_id _ (by omega) (by omega)]; omega
  have hw3 : IntKind.i64.wrap ((bt : Int) - (t : Int)) = (b0 : Int) := by rw [wrap64_id _ (by omega) (by omega)]; omega
  have hw4 : IntKind.i64.wrap ((b0 : Int) + 1) = (b2 : Int) := by rw [wrap64_id _ (by omega) (by omega)]; omega
  go_wp2_with fail
  refine (pick_any n b2 w3 h5.1 h5.2 (by omega) (by omega)).mono ?_
  rintro e wx1 ⟨n0, rfl, hn0, _, hx1⟩
  subst wx1
  obtain ⟨nn, hnn⟩ : ∃ nn : Nat, n0 + 1 = nn := ⟨_, rfl⟩
  have hw5 : IntKind.i64.wrap (1 + (n0 : Int)) = (nn : Int) := by rw [wrap64_id _ (by omega) (by omega)]; omega
  have hN := Lib.hid (show t ≤ bt ∧ bt < r ∧ nn ≤ bt + 1 - t ∧ 1 ≤ nn from by omega)
  have hbr : bt < 12 ∧ nn ≤ 12 ∧ t ≤ bt + 1 := by omega
  go_wp2_with fail
  refine (refPlain_any w3).mono ?_
  rintro e w4 ⟨rfl, b4⟩
  have HW4 := Lib.hid (HW3.out.below b4)
  clear b4 hw1 hw2 hw3 hw4 hw5 hm1 hbt hb2 hnn HW3
  go_wp2_with fail
  refine (up_any HW4.out.a.gm t bt nn plainS right_plain false).mono ?_
  rintro e w5 ⟨rfl, hw5, T3, g5, n5⟩
  have HW5 := Lib.hid (HW4.out.turn hw5 g5 n5)
  have HD5 := Lib.hid (HD.out.up t bt nn plainS false)
  have HUP := Lib.hid (fun y => up_row g t bt nn hN.out.1 (by rw [HD.out.2.1]; exact hN.out.2.1) hN.out.2.2.1 hN.out.2.2.2 y)
  have HMV := Lib.hid (fun y => moved_row g t bt nn hN.out.1 (by rw [HD.out.2.1]; exact hN.out.2.1) hN.out.2.2.1 hN.out.2.2.2 y)
  clear hw5 g5 n5 HW4
  generalize hgu : g.up t bt nn plainS false = gu at *
  clear hgu
  go_upto_block 0 with fail
  go_cut [] (fun wz => Hid (Two w T3 T2 q q2 wz gu g))
  case first =>
    go_upto_region 13 with fail
    go_loopw [16] (fun iv wr => ∃ y : Nat, (t ≤ y ∧ y ≤ bt + 1) ∧ iv = .int .i64 y ∧ Hid (Two w T3 T2 q q2 wr gu g)) (fun iv _ => bt + 1 - (intOf iv).toNat)
    case atStart => exact ⟨t, ⟨Nat.le_refl _, hbr.2.2⟩, rfl, HW5⟩
    case round =>
      obtain ⟨y, ⟨hty, hyb⟩, rfl, HW⟩ := hrel
      by_cases hlt : y ≤ bt
      · have d1 : decide ((y : Int) ≤ (bt : Int)) = true := decide_eq_true (by omega)
        have d1' : decide (y ≤ bt) = true := decide_eq_true hlt
        have hwy : IntKind.i64.wrap ((y : Int) + (nn : Int)) = ((y + nn : Nat) : Int) := by rw [wrap64_id _ (by omega) (by omega)]; omega
        have hwy1 : IntKind.i64.wrap ((y : Int) + 1) = (y : Int) + 1 := wrap64_id _ (by omega) (by omega)
        have HEM := Lib.hid (own_empty wr 38 5)
        have HW6 := Lib.hid (HW.out.below (Below.alloc (Below.refl wr.heap.size wr) (Nat.le_refl _) (.cells #[] 38)))
        by_cases hyn : y + nn ≤ bt
        · have d2 : decide (((y + nn : Nat) : Int) ≤ (bt : Int)) = true := decide_eq_true (by omega)
          have d2' : decide (y + nn ≤ bt) = true := decide_eq_true hyn
          have d3 : decide ((bt : Int) < ((y + nn : Nat) : Int)) = false := decide_eq_false (by omega)
          have d3' : decide (bt < y + nn) = false := decide_eq_false (by omega)
          have HROW := Lib.hid (show gu.row (y : Int) = g.row ((y + nn : Nat) : Int) from by
            rw [HUP.out y, if_neg (by omega), if_pos hyn])
          generalize y + nn = yn at *
          go_wp2_with fail
          refine (line_any HW6.out.b.gm yn (by have := (wf_row HW6.out.b.gm.wf (yn : Int)).1; omega)).mono ?_
          rintro e w7 ⟨v7, rfl, b7, o7⟩
          have HW7 := Lib.hid (HW6.out.below b7)
          have HO7 := Lib.hid o7
          clear b7 o7
          go_wp2_with fail
          refine (line_any HW7.out.a.gm y (by have := (wf_row HW7.out.a.gm.wf (y : Int)).1; omega)).mono ?_
          rintro e w8 ⟨v8, rfl, b8, o8⟩
          have HW8 := Lib.hid (HW7.out.below b8)
          have HO8 := Lib.hid o8
          have HO7b := Lib.hid (ownC_below HO7.out b8)
          clear b8 o8
          go_wp2_with fail
          refine (sameCells_any _ _ v8 v7 w8 (ownC_mono HO8.out (Nat.zero_le _)) (ownC_mono HO7b.out (Nat.zero_le _)) (by have := (wf_row HW8.out.a.gm.wf (y : Int)).1; omega) (by have := (wf_row HW8.out.b.gm.wf (yn : Int)).1; omega)).mono ?_
          rintro e w9 ⟨bv, rfl, hbv, b9⟩
          have hbt' : bv = true := hbv.2 (by rw [HROW.out])
          subst hbt'
          have HW9 := Lib.hid (HW8.out.below b9)
          clear b9 hbv
          go_wp2_with fail
          go_roundw
          case rel => exact ⟨y + 1, ⟨by omega, by omega⟩, by go_num, HW9⟩
          case measure => simp [intOf]; omega
        · have d2 : decide (((y + nn : Nat) : Int) ≤ (bt : Int)) = false := decide_eq_false (by omega)
          have d2' : decide (y + nn ≤ bt) = false := decide_eq_false hyn
          have d3 : decide ((bt : Int) < ((y + nn : Nat) : Int)) = true := decide_eq_true (by omega)
          have d3' : decide (bt < y + nn) = true := decide_eq_true (by omega)
          have HROW := Lib.hid (show textL (gu.row (y : Int)).cells = [] from by
            rw [HUP.out y, if_neg (by omega), if_neg hyn, if_pos hlt]
            exact text_blank _ _)
          generalize y + nn = yn at *
          have hszr : (wr.alloc (.cells #[] 38)).heap.size = wr.heap.size + 1 := by simp
          go_upto_region 18 with fail
          generalize wr.alloc (.cells #[] 38) = w7 at *
          go_wp2_with fail
          refine (line_any HW6.out.a.gm y (by have := (wf_row HW6.out.a.gm.wf (y : Int)).1; omega)).mono ?_
          rintro e w8 ⟨v8, rfl, b8, o8⟩
          have HW8 := Lib.hid (HW6.out.below b8)
          have HO8 := Lib.hid o8
          have HO7b := Lib.hid (ownC_below HEM.out b8)
          clear b8 o8
          go_wp2_with fail
          refine (sameCells_any _ [] v8 _ w8 (ownC_mono HO8.out (Nat.zero_le _)) (ownC_mono HO7b.out (Nat.zero_le _)) (by have := (wf_row HW8.out.a.gm.wf (y : Int)).1; omega) (by simp)).mono ?_
          rintro e w9 ⟨bv, rfl, hbv, b9⟩
          have HW9 := Lib.hid (HW8.out.below b9)
          clear b9 hbv
          go_wp2_with fail
          refine (text_any HW9.out.a.gm y).mono ?_
          rintro e w10 ⟨rfl, b10⟩
          have HW10 := Lib.hid (HW9.out.below b10)
          clear b10
          rw [HROW.out]
          go_wp2_with fail
          go_roundw
          case rel => exact ⟨y + 1, ⟨by omega, by omega⟩, by go_num, HW10⟩
          case measure => simp [intOf]; omega
      · have d1 : decide ((y : Int) ≤ (bt : Int)) = false := decide_eq_false (by omega)
        have d1' : decide (y ≤ bt) = false := decide_eq_false hlt
        go_wp2_with fail
        go_meet
        exact HW
  case rest =>
  have HWA := Lib.hid (Hid.out hcut)
  clear hcut
  obtain ⟨wz, rfl⟩ : ∃ wz, wz = wc := ⟨wc, rfl⟩
  go_wp2_with fail
  refine (refPlain_any wz).mono ?_
  rintro e w6 ⟨rfl, b6⟩
  have HW6 := Lib.hid (HWA.out.below b6)
  clear b6 HWA
  go_wp2_with fail
  refine (down_any HW6.out.a.gm t bt nn plainS right_plain).mono ?_
  rintro e w7 ⟨rfl, hw7, T4, g7, n7⟩
  have HW7 := Lib.hid (HW6.out.turn hw7 g7 n7)
  have HD7 := Lib.hid (HD5.out.down t bt nn plainS)
  clear hw7 g7 n7 HW6 HUP
  generalize hgd : gu.down t bt nn plainS = gd at *
  clear hgd
  have hwt : IntKind.i64.wrap ((t : Int) + (nn : Int)) = ((t + nn : Nat) : Int) := by rw [wrap64_id _ (by omega) (by omega)]; omega
  obtain ⟨tn, htn⟩ : ∃ tn : Nat, t + nn = tn := ⟨_, rfl⟩
  rw [htn] at hwt
  have HTN := Lib.hid htn
  clear htn
  go_upto_region 23 with fail
  go_loopw [19] (fun iv wr => ∃ y : Nat, y ≤ r ∧ iv = .int .i64 y ∧ Hid (Two w T4 T2 q q2 wr gd g)) (fun iv _ => r - (intOf iv).toNat)
  case atStart => exact ⟨0, Nat.zero_le _, rfl, HW7⟩
  case round =>
    obtain ⟨y, hyr, rfl, HW⟩ := hrel
    by_cases hlt : y < r
    · have d1 : decide ((y : Int) < (r : Int)) = true := decide_eq_true (by omega)
      have d1' : decide (y < r) = true := decide_eq_true hlt
      have hwy1 : IntKind.i64.wrap ((y : Int) + 1) = (y : Int) + 1 := wrap64_id _ (by omega) (by omega)
      go_wp2_with fail
      refine (rowsN_any HW.out.a.gm).mono ?_
      rintro e wx1 ⟨rfl, hx1⟩
      obtain ⟨wr, rfl⟩ : ∃ wr, wr = wx1 := ⟨wx1, rfl⟩
      subst hx1
      rw [HD7.out.2.1]
      go_wp2_with fail
      refine (line_any HW.out.a.gm y (by have := (wf_row HW.out.a.gm.wf (y : Int)).1; omega)).mono ?_
      rintro e w8 ⟨v8, rfl, b8, o8⟩
      have HW8 := Lib.hid (HW.out.below b8)
      have HO8 := Lib.hid o8
      clear b8 o8
      go_wp2_with fail
      refine (line_any HW8.out.b.gm y (by have := (wf_row HW8.out.b.gm.wf (y : Int)).1; omega)).mono ?_
      rintro e w9 ⟨v9, rfl, b9, o9⟩
      have HW9 := Lib.hid (HW8.out.below b9)
      have HO9 := Lib.hid o9
      have HO8b := Lib.hid (ownC_below HO8.out b9)
      clear b9 o9
      go_wp2_with fail
      refine (sameCells_any _ _ v8 v9 w9 (ownC_mono HO8b.out (Nat.zero_le _)) (ownC_mono HO9.out (Nat.zero_le _)) (by have := (wf_row HW9.out.a.gm.wf (y : Int)).1; omega) (by have := (wf_row HW9.out.b.gm.wf (y : Int)).1; omega)).mono ?_
      rintro e w10 ⟨bv, rfl, hbv, b10⟩
      have HW10 := Lib.hid (HW9.out.below b10)
      have HBV := Lib.hid hbv
      clear b10 hbv
      have HROW := Lib.hid (HMV.out y)
      by_cases hg1 : t ≤ y
      · have e1 : decide ((t : Int) ≤ (y : Int)) = true := decide_eq_true (by omega)
        have e1' : decide (t ≤ y) = true := decide_eq_true hg1
        by_cases hg2 : y < tn
        · have e2 : decide ((y : Int) < (tn : Int)) = true := decide_eq_true (by omega)
          have e2' : decide (y < tn) = true := decide_eq_true hg2
          have HTX := Lib.hid (show textL (gd.row (y : Int)).cells = [] from by
            rw [HROW.out, if_pos ⟨hg1, by have := HTN.out; omega⟩]
            exact text_blank _ _)
          go_wp2_with fail
          refine (text_any HW10.out.a.gm y).mono ?_
          rintro e w11 ⟨rfl, b11⟩
          have HW11 := Lib.hid (HW10.out.below b11)
          clear b11
          rw [HTX.out]
          go_wp2_with fail
          go_roundw
          case rel => exact ⟨y + 1, by omega, by go_num, HW11⟩
          case measure => simp [intOf]; omega
        · have e2 : decide ((y : Int) < (tn : Int)) = false := decide_eq_false (by omega)
          have e2' : decide (y < tn) = false := decide_eq_false hg2
          have hbt' : bv = true := HBV.out.2 (by rw [HROW.out, if_neg (fun e => by have := HTN.out; omega)])
          subst hbt'
          go_wp2_with fail
          go_roundw
          case rel => exact ⟨y + 1, by omega, by go_num, HW10⟩
          case measure => simp [intOf]; omega
      · have e1 : decide ((t : Int) ≤ (y : Int)) = false := decide_eq_false (by omega)
        have e1' : decide (t ≤ y) = false := decide_eq_false hg1
        have hbt' : bv = true := HBV.out.2 (by rw [HROW.out, if_neg (fun e => hg1 e.1)])
        subst hbt'
        go_wp2_with fail
        go_roundw
        case rel => exact ⟨y + 1, by omega, by go_num, HW10⟩
        case measure => simp [intOf]; omega
    · have d1 : decide ((y : Int) < (r : Int)) = false := decide_eq_false (by omega)
      have d1' : decide (y < r) = false := decide_eq_false hlt
      go_wp2_with fail
      refine (rowsN_any HW.out.a.gm).mono ?_
      rintro e wx1 ⟨rfl, hx1⟩
      obtain ⟨wr, rfl⟩ : ∃ wr, wr = wx1 := ⟨wx1, rfl⟩
      subst hx1
      rw [HD7.out.2.1]
      have HOL := Lib.hid (show gd.old.length = 0 from by
        have h6 := HW.out.a.gm.wf.ol
        rw [HD7.out.2.2] at h6
        omega)
      go_wp2_with fail
      refine (history_any HW.out.a.gm).mono ?_
      rintro e wx2 ⟨rfl, hx2⟩
      rw [HOL.out]
      have HBE := Lib.hid (show Below w.heap.size w wx2 from by rw [hx2]; exact HW.out.a.b)
      clear hx2
      go_wp2_with fail
      exact ret1v rfl rfl rfl ⟨rfl, HBE.out⟩
end Go.Proofs.YtjclgoiclbkgjaaDoor
