import Derived.Test.YtjclgoiclbkgjaaDoorK14
import Derived.Test.YtjclgoiclbkgjaaDoorK6
import Derived.Deep.CutBlock
/- The law GridFlows: the walk. -/
namespace Go.Proofs.YtjclgoiclbkgjaaDoor
open Go.RowKit
attribute [local go_sem ↓] Go.wp_at_zero Go.wp_at_succ

set_option maxRecDepth 100000 in
set_option maxHeartbeats 8000000 in
theorem gridFlows_walk (cols rows : Int) (tv : Value) (texts : List ByteArray) (wv : Value) (wraps : List Bool) (wi0 hi0 : Int) (w : World) (h1 : -9223372036854775808 ≤ cols ∧ cols ≤ 9223372036854775807) (h2 : -9223372036854775808 ≤ rows ∧ rows ≤ 9223372036854775807)
    (h3 : -9223372036854775808 ≤ wi0 ∧ wi0 ≤ 9223372036854775807) (h4 : -9223372036854775808 ≤ hi0 ∧ hi0 ≤ 9223372036854775807)
    (ht : IsVals w tv (texts.map Value.string)) (hs : ∀ s ∈ texts, s.size ≤ 1000000000) (hln : texts.length ≤ 1000000000) (hw : IsVals w wv (wraps.map Value.bool)) (hlw : wraps.length ≤ 1000000000) :
    Calls Tryd.prog 3 #[.int .i64 cols, .int .i64 rows, tv, wv, .int .i64 wi0, .int .i64 hi0] w fun e w' => e = .returned (.bool true) ∧ Below w.heap.size w w' := by
  have htl : ∀ ty wx, (Builtin.len_ #[22] ty #[tv]).run Tryd.prog wx = .ok (.int .i64 texts.length) wx := fun ty wx => by
    rcases ht with ⟨rfl, e⟩ | ⟨a, c, rfl, _⟩
    · have : texts = [] := by simpa using e
      subst this
      simp [Builtin.len_]
      go_simp
    · rw [List.length_map]
      go_simp
  have hwl : ∀ ty wx, (Builtin.len_ #[23] ty #[wv]).run Tryd.prog wx = .ok (.int .i64 wraps.length) wx := fun ty wx => by
    rcases hw with ⟨rfl, e⟩ | ⟨a, c, rfl, _⟩
    · have : wraps = [] := by simpa using e
      subst this
      go_simp
    · rw [List.length_map]
      go_simp
  have HTV := Lib.hid ht
  have HWV := Lib.hid hw
  have HSS := Lib.hid hs
  clear ht hw hs
  go_enter Tryd.func3, Tryd.ntmps3
  go_wp2_with fail
  refine (shown_any w).mono ?_
  rintro e w1 ⟨rfl, b1⟩
  have HB1 := Lib.hid b1
  clear b1
  go_wp2_with fail
  refine (filled_any cols rows 0 h1 h2 (by decide) (.slice none 0 0) (.slice none 0 0) [] [] w1 (.inl ⟨rfl, rfl⟩) (.inl ⟨rfl, rfl⟩) (by simp) (by simp) (by simp)).mono ?_
  rintro e w2 ⟨q0, rfl, T0, g0, c, r, l, hsh, hd, hc, hr, hl, hl0⟩
  have HS0 := Lib.hid (hsh.mono HB1.out)
  have HD0 := Lib.hid hd
  clear hsh hd hl0 hl
  go_wp2_with fail
  refine (cols_any HS0.out.gm).mono ?_
  rintro e wx1 ⟨rfl, hx1⟩
  subst wx1
  rw [HD0.out.1]
  go_wp2_with fail
  refine (rowsN_any HS0.out.gm).mono ?_
  rintro e wx1 ⟨rfl, hx1⟩
  subst wx1
  rw [HD0.out.2.1]
  go_wp2_with fail
  refine (newGrid_any c r 2000 w2 (by omega) (by omega) (by omega) (by omega) (by omega)).mono ?_
  rintro e w3 ⟨q, T, rfl, b3, g3, n3⟩
  have HS3 := Lib.hid (show Sh w T q w3 (newG c r 2000) from ⟨HS0.out.b.trans (b3.mono HS0.out.b.size), g3, fun k hk => Nat.le_trans HS0.out.b.size (n3 k hk)⟩)
  have HCR := Lib.hid (show (1 ≤ c ∧ c ≤ 20) ∧ (1 ≤ r ∧ r ≤ 12) from ⟨hc, hr⟩)
  have hr12 : 1 ≤ r ∧ r ≤ 12 := hr
  have hc20 : 1 ≤ c ∧ c ≤ 20 := hc
  clear b3 g3 n3 HS0 HD0 hc hr
  go_upto_block 0 with fail
  go_cut [] (fun wz => ∃ T g, Hid (Sh w T q wz g) ∧ Hid (Dim g c r 2000 ∧ g.old.length ≤ 20))
  case first =>
    go_upto_region 11 with fail
    go_loopw [19] (fun iv wr => ∃ (k : Nat) (T : Nat → Nat) (g : Gr), (k ≤ texts.length ∧ k ≤ 20) ∧ iv = .int .i64 k ∧ Hid (Sh w T q wr g) ∧ Hid (Dim g c r 2000 ∧ g.old.length ≤ k)) (fun iv _ => texts.length - (intOf iv).toNat)
    case atStart => exact ⟨0, T, _, ⟨Nat.zero_le _, by decide⟩, rfl, HS3, ⟨Dim.new c r 2000, Nat.le_refl _⟩⟩
    case round =>
      obtain ⟨k, T, g, ⟨hk, hk20⟩, rfl, HS, HD⟩ := hrel
      obtain ⟨wo, rfl⟩ : ∃ wo, wo = wr := ⟨wr, rfl⟩
      by_cases hlt : k < texts.length ∧ k < 20
      · obtain ⟨hlt, h60⟩ := hlt
        have d1 : decide ((k : Int) < (texts.length : Int)) = true := decide_eq_true (by omega)
        have d1' : decide (k < texts.length) = true := decide_eq_true hlt
        have d2 : decide ((k : Int) < 20) = true := decide_eq_true (by omega)
        have d2' : decide (k < 20) = true := decide_eq_true h60
        have hwy : IntKind.i64.wrap ((r : Int) - 1) = (r : Int) - 1 := wrap64_id _ (by omega) (by omega)
        go_wp2_with fail
        refine (refPlain_any wo).mono ?_
        rintro e w2 ⟨rfl, b2⟩
        have HS2 := Lib.hid (HS.out.below b2)
        clear b2
        go_wp2_with fail
        refine (up_any HS2.out.gm 0 ((r : Int) - 1) 1 plainS right_plain true).mono ?_
        rintro e w3 ⟨rfl, hw3, T2, g3, n3⟩
        have HS3 := Lib.hid (HS2.out.turn hw3 g3 n3)
        have HD3 := Lib.hid (show Dim (g.up 0 ((r : Int) - 1) 1 plainS true) c r 2000 ∧ (g.up 0 ((r : Int) - 1) 1 plainS true).old.length ≤ k + 1 from ⟨HD.out.1.up 0 ((r : Int) - 1) 1 plainS true, by
          have := old_up g ((r : Int) - 1) plainS
          have := HD.out.2
          omega⟩)
        clear hw3 g3 n3
        generalize g.up 0 ((r : Int) - 1) 1 plainS true = g2 at *
        have hst : ∃ (a : Addr) (tc : Nat), tv = .slice (some a) texts.length tc ∧ w.cell? (a.add k) = some (.string (texts.getD k ByteArray.empty)) := by
          rcases HTV.out with ⟨_, e⟩ | ⟨a, tc, e, _, _, hcc⟩
          · have : texts = [] := by simpa using e
            rw [this] at hlt
            exact absurd hlt (by simp)
          · rw [List.length_map] at e hcc
            refine ⟨a, tc, e, ?_⟩
            rw [hcc k hlt, List.getD_eq_getElem?_getD, List.getElem?_map, List.getD_eq_getElem?_getD, List.getElem?_eq_getElem hlt]
            rfl
        obtain ⟨ta, tc, htv, hcell⟩ := hst
        subst htv
        have x0 := cell_below HS3.out.b hcell
        have hix := idx_gen (P := Tryd.prog) Tryd.underlying22 (by kernel_rfl) ta texts.length tc k hlt
        have hss := HSS.out (texts.getD k ByteArray.empty) (by
          rw [List.getD_eq_getElem?_getD, List.getElem?_eq_getElem hlt]
          exact List.getElem_mem _)
        obtain ⟨rl, w5, cc, hcv, b5, h5, hc5, hr5, hl5⟩ := conv_runes (texts.getD k ByteArray.empty) hss w3
        have HS5 := Lib.hid (HS3.out.below b5)
        have HR5 := Lib.hid hr5
        have HC5 := Lib.hid hc5
        have hl5b : rl.length ≤ 1000000000 := by omega
        have HT5 := Lib.hid (show T2 w3.heap.size = 0 from by
          by_cases h0 : T2 w3.heap.size = 0
          · exact h0
          · have := HS3.out.gm.lt _ h0; omega)
        clear hr5 hc5 b5 hcell
        generalize texts.getD k ByteArray.empty = str at *
        generalize hrb : w3.heap.size = rb at *
        clear hrb
        go_upto_block 2 with fail
        clear x0 hix hcv
        go_cut [] (fun wz => ∃ g5, Hid (Sh w T2 q wz g5) ∧ Hid (Dim g5 c r 2000 ∧ g5.old.length ≤ k + 1))
        case first =>
          go_upto_region 17 with fail
          go_loopw [20, 22] (fun xv iv wi => ∃ (m x : Nat) (g5 : Gr), m ≤ rl.length ∧ iv = .int .i64 m ∧ xv = .int .i64 x ∧ (x ≤ 2 * m ∧ rb < wi.heap.size) ∧ Hid (Sh w T2 q wi g5) ∧ Hid (Dim g5 c r 2000 ∧ g5.old.length ≤ k + 1) ∧ Hid (∀ j, j < rl.length → wi.cell? ⟨rb, j, none⟩ = some (.int .i32 (rl.getD j 0)))) (fun _ iv _ => rl.length - (intOf iv).toNat)
          case atStart => exact ⟨0, 0, g2, Nat.zero_le _, rfl, rfl, ⟨Nat.le_refl _, h5⟩, HS5, HD3, HC5⟩
          case round =>
            obtain ⟨m, x, g5, hm, rfl, rfl, ⟨hx, hrb⟩, HSi, HDi, HCi⟩ := hrel
            obtain ⟨wi, rfl⟩ : ∃ wi, wi = wr := ⟨wr, rfl⟩
            by_cases hml : m < rl.length ∧ m < 60
            · obtain ⟨hml, hm60⟩ := hml
              have d3 : decide ((m : Int) < (rl.length : Int)) = true := decide_eq_true (by omega)
              have d3' : decide (m < rl.length) = true := decide_eq_true hml
              have d4 : decide ((m : Int) < 60) = true := decide_eq_true (by omega)
              have d4' : decide (m < 60) = true := decide_eq_true hm60
              have hxc := HCi.out m hml
              have hxr := HR5.out (rl.getD m 0) (by
                rw [List.getD_eq_getElem?_getD, List.getElem?_eq_getElem hml]
                exact List.getElem_mem _)
              generalize rl.getD m 0 = rv at *
              have hix := idx_at (P := Tryd.prog) (size := 1) Tryd.underlying35 (by kernel_rfl) rb 0 rl.length cc m hml
              rw [Nat.zero_add, Nat.mul_one] at hix
              have hw6 : IntKind.i64.wrap ((m : Int) + 1) = (m : Int) + 1 := wrap64_id _ (by omega) (by omega)
              go_upto_region 20 with fail
              go_cut [97] (fun vv wx => (∃ f, vv = .bool f) ∧ wx = wi)
              case first =>
                by_cases hg1 : 12352 < rv
                · have e1 : decide (12352 < rv) = true := decide_eq_true hg1
                  go_wp2_with fail
                  go_meet
                  exact ⟨⟨_, rfl⟩, rfl⟩
                · have e1 : decide (12352 < rv) = false := decide_eq_false hg1
                  go_wp2_with fail
                  go_meet
                  exact ⟨⟨_, rfl⟩, rfl⟩
              case rest =>
              obtain ⟨⟨f, rfl⟩, rfl⟩ := hcut
              go_upto_if 97 with fail
              go_cut [23] (fun vv wx => (∃ wd : Nat, vv = .int .i64 wd ∧ wd ≤ 2) ∧ wx = wc)
              case first =>
                cases f
                · go_wp2_with fail
                  go_meet
                  exact ⟨⟨1, rfl, by decide⟩, rfl⟩
                · go_wp2_with fail
                  go_meet
                  exact ⟨⟨2, rfl, by decide⟩, rfl⟩
              case rest =>
              obtain ⟨⟨wd, rfl, hwd⟩, rfl⟩ := hcut
              obtain ⟨wi, rfl⟩ : ∃ wi, wi = wc := ⟨wc, rfl⟩
              have hw7 : IntKind.i64.wrap ((x : Int) + (wd : Int)) = ((x + wd : Nat) : Int) := by rw [wrap64_id _ (by omega) (by omega)]; omega
              go_wp2_with fail
              refine (letter_any rv wd wi).mono ?_
              rintro e w6 ⟨rfl, b6⟩
              have HS6 := Lib.hid (HSi.out.below b6)
              have HC6 := Lib.hid (show ∀ j, j < rl.length → w6.cell? ⟨rb, j, none⟩ = some (.int .i32 (rl.getD j 0)) from fun j hj => cell_below b6 (HCi.out j hj))
              have hb6 := b6.size
              clear b6 hxc
              go_wp2_with fail
              refine (put_any HS6.out.gm x ((r : Int) - 1) ⟨rv, wd, plainS⟩ right_plain ⟨by show (-2147483648 : Int) ≤ rv; omega, by show rv ≤ 2147483647; omega⟩).mono ?_
              rintro e w7 ⟨rfl, hw7', h7⟩
              have HS7 := Lib.hid (HS6.out.put hw7' h7)
              have HC7 := Lib.hid (show ∀ j, j < rl.length → w7.cell? ⟨rb, j, none⟩ = some (.int .i32 (rl.getD j 0)) from fun j hj => cell_within hw7' (HC6.out j hj) (fun e => by
                rcases e with e | e
                · exact e HT5.out
                · omega))
              have hb7 := hw7'.size
              have HD7 := Lib.hid (show Dim (g5.put x ((r : Int) - 1) ⟨rv, wd, plainS⟩) c r 2000 ∧ (g5.put x ((r : Int) - 1) ⟨rv, wd, plainS⟩).old.length ≤ k + 1 from ⟨HDi.out.1.put x ((r : Int) - 1) ⟨rv, wd, plainS⟩, by rw [old_put]; exact HDi.out.2⟩)
              clear hw7' h7
              go_wp2_with fail
              go_roundw
              case rel => exact ⟨m + 1, x + wd, _, by omega, by go_num, by go_num, ⟨by omega, by omega⟩, HS7, HD7, HC7⟩
              case measure => simp [intOf]; omega
            · by_cases hml2 : m < rl.length
              · have d3 : decide ((m : Int) < (rl.length : Int)) = true := decide_eq_true (by omega)
                have d3' : decide (m < rl.length) = true := decide_eq_true hml2
                have d4 : decide ((m : Int) < 60) = false := decide_eq_false (fun e => hml ⟨hml2, by omega⟩)
                have d4' : decide (m < 60) = false := decide_eq_false (fun e => hml ⟨hml2, e⟩)
                go_wp2_with fail
                go_meet
                exact ⟨g5, HSi, HDi⟩
              · have d3 : decide ((m : Int) < (rl.length : Int)) = false := decide_eq_false (by omega)
                have d3' : decide (m < rl.length) = false := decide_eq_false hml2
                go_wp2_with fail
                go_meet
                exact ⟨g5, HSi, HDi⟩
        case rest =>
        obtain ⟨g5, HS6, HD6⟩ := hcut
        obtain ⟨w6, rfl⟩ : ∃ w6, w6 = wc := ⟨wc, rfl⟩
        have hw6 : IntKind.i64.wrap ((k : Int) + 1) = (k : Int) + 1 := wrap64_id _ (by omega) (by omega)
        by_cases hkw : k < wraps.length
        · have d5 : decide ((k : Int) < (wraps.length : Int)) = true := decide_eq_true (by omega)
          have d5' : decide (k < wraps.length) = true := decide_eq_true hkw
          have hst : ∃ (a : Addr) (tc : Nat), wv = .slice (some a) wraps.length tc ∧ w.cell? (a.add k) = some (.bool (wraps.getD k false)) := by
            rcases HWV.out with ⟨_, e⟩ | ⟨a, tc, e, _, _, hcc⟩
            · have : wraps = [] := by simpa using e
              rw [this] at hkw
              exact absurd hkw (by simp)
            · rw [List.length_map] at e hcc
              refine ⟨a, tc, e, ?_⟩
              rw [hcc k hkw, List.getD_eq_getElem?_getD, List.getElem?_map, List.getD_eq_getElem?_getD, List.getElem?_eq_getElem hkw]
              rfl
          obtain ⟨va, vc, hwv, hcell⟩ := hst
          subst hwv
          have x0 := cell_below HS6.out.b hcell
          have hix := idx_gen (P := Tryd.prog) Tryd.underlying23 (by kernel_rfl) va wraps.length vc k hkw
          generalize wraps.getD k false = wb at *
          go_wp2_with fail
          refine (wrap_any HS6.out.gm ((r : Int) - 1) wb).mono ?_
          rintro e w8 ⟨rfl, hw8, h8⟩
          have HS8 := Lib.hid (HS6.out.put hw8 h8)
          have HD8 := Lib.hid (show Dim (g5.setWrap ((r : Int) - 1) wb) c r 2000 ∧ (g5.setWrap ((r : Int) - 1) wb).old.length ≤ k + 1 from ⟨HD6.out.1.setWrap ((r : Int) - 1) wb, by rw [old_setWrap]; exact HD6.out.2⟩)
          clear hw8 h8 x0 hix
          go_wp2_with fail
          go_roundw
          case rel => exact ⟨k + 1, T2, _, ⟨by omega, by omega⟩, by go_num, HS8, HD8⟩
          case measure => simp [intOf]; omega
        · have d5 : decide ((k : Int) < (wraps.length : Int)) = false := decide_eq_false (by omega)
          have d5' : decide (k < wraps.length) = false := decide_eq_false hkw
          go_wp2_with fail
          go_roundw
          case rel => exact ⟨k + 1, T2, g5, ⟨by omega, by omega⟩, by go_num, HS6, HD6⟩
          case measure => simp [intOf]; omega
      · have HFIN := Lib.hid (show ∃ T g, Hid (Sh w T q wo g) ∧ Hid (Dim g c r 2000 ∧ g.old.length ≤ 20) from ⟨T, g, HS, ⟨HD.out.1, Nat.le_trans HD.out.2 hk20⟩⟩)
        by_cases hlt2 : k < texts.length
        · have d1 : decide ((k : Int) < (texts.length : Int)) = true := decide_eq_true (by omega)
          have d1' : decide (k < texts.length) = true := decide_eq_true hlt2
          have d2 : decide ((k : Int) < 20) = false := decide_eq_false (fun e => hlt ⟨hlt2, by omega⟩)
          have d2' : decide (k < 20) = false := decide_eq_false (fun e => hlt ⟨hlt2, e⟩)
          go_wp2_with fail
          go_meet
          exact HFIN.out
        · have d1 : decide ((k : Int) < (texts.length : Int)) = false := decide_eq_false (by omega)
          have d1' : decide (k < texts.length) = false := decide_eq_false hlt2
          go_wp2_with fail
          go_meet
          exact HFIN.out
  case rest =>
  obtain ⟨T, g, HS, HD⟩ := hcut
  obtain ⟨w4, rfl⟩ : ∃ w4, w4 = wc := ⟨wc, rfl⟩
  have hwc : IntKind.i64.wrap ((c : Int) - 1) = (c : Int) - 1 := wrap64_id _ (by omega) (by omega)
  have hwr : IntKind.i64.wrap ((r : Int) - 1) = (r : Int) - 1 := wrap64_id _ (by omega) (by omega)
  have HFL := Lib.hid (fun cols2 rows2 a1 a2 a3 => flow_all g HS.out.gm.wf c r HD.out.1.1 HD.out.1.2.1 HD.out.1.2.2 HD.out.2 hc20.2 hr12.2 cols2 rows2 a1 a2 a3)
  go_wp2_with fail
  refine (runes_any HS.out.gm).mono ?_
  rintro e w5 ⟨va, rfl, b5, o5⟩
  have HS5 := Lib.hid (HS.out.below b5)
  have HVT5 := Lib.hid (show ∀ k, va.ownBlock = some k → T k = 0 from fun k hk => sh_free HS.out (ownC_lt o5 k hk).1)
  have HV5 := Lib.hid (ownC_mono o5 (Nat.zero_le _))
  clear b5 o5 HS
  go_upto_region 28 with fail
  have hBz := Below.alloc (Below.refl w5.heap.size w5) (Nat.le_refl _) (.cells #[.int .i64 ((c : Int) - 1), .int .i64 ((r : Int) - 1)] 43)
  have HA6 := Lib.hid (blk_new w5 (.cells #[.int .i64 ((c : Int) - 1), .int .i64 ((r : Int) - 1)] 43))
  have HS6 := Lib.hid (HS5.out.below hBz)
  have HV6 := Lib.hid (ownC_below HV5.out hBz)
  have HTA := Lib.hid (sh_free HS5.out (Nat.le_refl w5.heap.size))
  clear hBz HS5 HV5
  generalize w5.alloc (.cells #[.int .i64 ((c : Int) - 1), .int .i64 ((r : Int) - 1)] 43) = w6 at *
  generalize w5.heap.size = pa at *
  have x0 : w6.cell? ⟨pa, 0, none⟩ = some (.int .i64 ((c : Int) - 1)) := blk_cell HA6.out 0
  have x1 : w6.cell? ⟨pa, 1, none⟩ = some (.int .i64 ((r : Int) - 1)) := blk_cell HA6.out 1
  go_wp2_with fail
  refine (cell_any HS6.out.gm ((c : Int) - 1) ((r : Int) - 1)).mono ?_
  rintro e w7 ⟨rfl, b7⟩
  have HS7 := Lib.hid (HS6.out.below b7)
  have HV7 := Lib.hid (ownC_below HV6.out b7)
  have HA7 := Lib.hid (blk_below HA6.out b7 (heap_lt HA6.out))
  clear b7 HS6 HV6 HA6 x0 x1
  generalize hcl : g.cell ((c : Int) - 1) ((r : Int) - 1) = cl at *
  clear hcl
  obtain ⟨cr, cw, ⟨cf, cb, ca⟩⟩ := cl
  unfold Cel.val
  dsimp only
  go_upto_region 29 with fail
  have hBz := Below.alloc (Below.refl w7.heap.size w7) (Nat.le_refl _) (.cells #[.int .i32 cr, .int .i64 cw, .int .i64 cf, .int .i64 cb, .int .i64 ca] 38)
  have HC8 := Lib.hid (blk_new w7 (.cells #[.int .i32 cr, .int .i64 cw, .int .i64 cf, .int .i64 cb, .int .i64 ca] 38))
  have HS8 := Lib.hid (HS7.out.below hBz)
  have HV8 := Lib.hid (ownC_below HV7.out hBz)
  have HA8 := Lib.hid (blk_below HA7.out hBz (heap_lt HA7.out))
  have HTC := Lib.hid (sh_free HS7.out (Nat.le_refl w7.heap.size))
  have HCN := Lib.hid (show w.heap.size ≤ w7.heap.size from HS7.out.b.size)
  clear hBz HS7 HV7 HA7
  generalize w7.alloc (.cells #[.int .i32 cr, .int .i64 cw, .int .i64 cf, .int .i64 cb, .int .i64 ca] 38) = w8 at *
  generalize w7.heap.size = pc at *
  have x0 : w8.cell? ⟨pa, 0, none⟩ = some (.int .i64 ((c : Int) - 1)) := blk_cell HA8.out 0
  have x1 : w8.cell? ⟨pa, 1, none⟩ = some (.int .i64 ((r : Int) - 1)) := blk_cell HA8.out 1
  have HBA := Lib.hid ((Below.refl w8.heap.size w8).drew.alloc (Nat.le_refl _) (.cells #[.int .i64 0, .int .i64 0] 43))
  have HBD := Lib.hid (Below.refl w8.heap.size w8).drew
  have HNA := Lib.hid (blk_new w8.drew (.cells #[.int .i64 0, .int .i64 0] 43))
  have y0 : (w8.drew.alloc (.cells #[.int .i64 0, .int .i64 0] 43)).cell? ⟨pa, 0, none⟩ = some (.int .i64 ((c : Int) - 1)) := cell_below HBA.out x0
  have y1 : (w8.drew.alloc (.cells #[.int .i64 0, .int .i64 0] 43)).cell? ⟨pa, 1, none⟩ = some (.int .i64 ((r : Int) - 1)) := cell_below HBA.out x1
  have hwa : ∀ a0 : Nat, a0 < 29 → IntKind.i64.wrap (2 + (a0 : Int)) = ((a0 + 2 : Nat) : Int) := fun a0 h0 => by rw [wrap64_id _ (by omega) (by omega)]; omega
  have hwb : ∀ b0 : Nat, b0 < 15 → IntKind.i64.wrap (1 + (b0 : Int)) = ((b0 + 1 : Nat) : Int) := fun b0 h0 => by rw [wrap64_id _ (by omega) (by omega)]; omega
  have HWA := Lib.hid hwa
  have HWB := Lib.hid hwb
  clear hwa hwb hwc hwr
  go_cut [18, 27] (fun ev pv wz => ev = .int .i64 0 ∧ ∃ (pk px py cc rr : Nat) (T2 : Nat → Nat) (g2 : Gr), pv = .pointer (some ⟨pk, 0, none⟩) ∧ Hid (Sh w T2 q wz g2) ∧ Hid (wz.heap[pk]? = some (.cells #[.int .i64 px, .int .i64 py] 43 (0, 0))) ∧
    Hid (OwnC wz 0 1 va (runesR (g2.old ++ g2.rows)).length ((runesR (g2.old ++ g2.rows)).map (Value.int .i32))) ∧ Hid (wz.heap[pc]? = some (.cells #[.int .i32 cr, .int .i64 cw, .int .i64 cf, .int .i64 cb, .int .i64 ca] 38 (0, 0))) ∧
    Hid (g2.cell px py = ⟨cr, cw, ⟨cf, cb, ca⟩⟩ ∧ g2.cols = cc ∧ g2.rows.length = rr) ∧ (px < cc ∧ py < rr ∧ cc ≤ 30 ∧ rr ≤ 15))
  case first =>
    refine wpL_begin (c := 8) (S := (fun bb w' => True ∧ (bb = false → w'.cell? ⟨pa, 0, none⟩ = some (.int .i64 ((c : Int) - 1)) ∧ w'.cell? ⟨pa, 1, none⟩ = some (.int .i64 ((r : Int) - 1))))) (by kernel_rfl) (⟨trivial, fun _ => ⟨x0, x1⟩⟩) (fun _ => ?_)
    refine wpL_take (i := 0) (oi := ?o101) (v := ?v101) ?h101 (by kernel_rfl) (by kernel_rfl) (by kernel_rfl) (by rfl) ?q101 (by rfl) (b := false) (⟨trivial, fun _ => ⟨x0, x1⟩⟩) (Or.inl ⟨?w101, ?y101⟩) ?r101
    case h101 => (simp only [List.getElem?_toArray, List.getElem?_cons_zero]; rfl)
    case q101 => exact fun _ _ _ h => h
    case w101 => rfl
    case y101 =>
      intro wS hSw
      obtain ⟨hSb, hSw, hSx⟩ := hSw
      clear hSx
      go_simp
      (try (with_reducible rfl))
    try simp only [Act.put, List.setIfInBounds_toArray, List.set_cons_zero, List.set_cons_succ]
    refine wpL_take (i := 1) (oi := ?o102) (v := ?v102) ?h102 (by kernel_rfl) (by kernel_rfl) (by kernel_rfl) (by rfl) ?q102 (by rfl) (b := false) (⟨trivial, fun _ => ⟨x0, x1⟩⟩) (Or.inl ⟨?w102, ?y102⟩) ?r102
    case h102 => (simp only [List.getElem?_toArray, List.getElem?_cons_succ, List.getElem?_cons_zero]; rfl)
    case q102 => exact fun _ _ _ h => h
    case w102 => rfl
    case y102 =>
      intro wS hSw
      obtain ⟨hSb, hSw, hSx⟩ := hSw
      clear hSx
      go_simp
      (try (with_reducible rfl))
    try simp only [Act.put, List.setIfInBounds_toArray, List.set_cons_zero, List.set_cons_succ]
    refine wpL_take (i := 4) (oi := ?o103) (v := ?v103) ?h103 (by kernel_rfl) (by kernel_rfl) (by kernel_rfl) (by rfl) ?q103 (by rfl) (b := false) (⟨trivial, fun _ => ⟨x0, x1⟩⟩) (Or.inl ⟨?w103, ?y103⟩) ?r103
    case h103 => (simp only [List.getElem?_toArray, List.getElem?_cons_succ, List.getElem?_cons_zero]; rfl)
    case q103 => exact fun _ _ _ h => h
    case w103 => rfl
    case y103 =>
      intro wS hSw
      obtain ⟨hSb, hSw, hSx⟩ := hSw
      clear hSx
      go_simp
      (try (with_reducible rfl))
    try simp only [Act.put, List.setIfInBounds_toArray, List.set_cons_zero, List.set_cons_succ]
    refine wpL_takeD (i := 7) (oi := ?o104) (oc := ?c104) (v := ?v104) ?h104 ?g104 ?d104 (by kernel_rfl) (by kernel_rfl) (by kernel_rfl) (by rfl) ?q104 (by rfl) (⟨trivial, fun _ => ⟨x0, x1⟩⟩) (Or.inl ⟨?w104, ?y104⟩) ?r104
    case h104 => (simp only [List.getElem?_toArray, List.getElem?_cons_succ, List.getElem?_cons_zero]; rfl)
    case g104 => (simp only [List.getElem?_toArray, List.getElem?_cons_succ, List.getElem?_cons_zero]; rfl)
    case d104 => kernel_rfl
    case q104 => exact fun _ _ _ h => h
    case w104 => rfl
    case y104 =>
      intro wS hSw
      obtain ⟨hSw, hSx⟩ := hSw
      have hSx := hSx rfl
      go_simp
      (try (with_reducible rfl))
    try simp only [Act.put, List.setIfInBounds_toArray, List.set_cons_zero, List.set_cons_succ]
    refine wpL_two (i := 2) (oi := ?o105) (j := 12) (oj := ?c105) (b1 := false) (b2 := false) (by kernel_rfl) ?h105 ?g105 (by rfl) (by rfl) ?k105 ?l105
    case h105 => (simp only [List.getElem?_toArray, List.getElem?_cons_succ, List.getElem?_cons_zero]; rfl)
    case g105 => (simp only [List.getElem?_toArray, List.getElem?_cons_succ, List.getElem?_cons_zero]; rfl)
    · intro K hK
      refine wanted_on rfl ?_
      go_wp2_with fail
      refine (pick_any wi0 29 _ h3.1 h3.2 (by decide) (by decide)).mono ?_
      rintro e wx1 ⟨a0, rfl, ha0, _, hx1⟩
      subst wx1
      have hwa := HWA.out a0 ha0
      refine hK.out _ _ (⟨trivial, fun _ => ⟨x0, x1⟩⟩) (fun _ => ?_)
      clear hK K 
      try simp only [Act.put, List.setIfInBounds_toArray, List.set_cons_zero, List.set_cons_succ]
      refine wpL_take (i := 3) (oi := ?o106) (v := ?v106) ?h106 (by kernel_rfl) (by kernel_rfl) (by kernel_rfl) (by rfl) ?q106 (by rfl) (b := false) (⟨trivial, fun _ => ⟨x0, x1⟩⟩) (Or.inl ⟨?w106, ?y106⟩) ?r106
      case h106 => (simp only [List.getElem?_toArray, List.getElem?_cons_succ, List.getElem?_cons_zero]; rfl)
      case q106 => exact fun _ _ _ h => h
      case w106 => rfl
      case y106 =>
        intro wS hSw
        obtain ⟨hSb, hSw, hSx⟩ := hSw
        clear hSx
        go_simp
        (try (with_reducible rfl))
      try simp only [Act.put, List.setIfInBounds_toArray, List.set_cons_zero, List.set_cons_succ]
      refine wpL_two (i := 5) (oi := ?o107) (j := 12) (oj := ?c107) (b1 := false) (b2 := false) (by kernel_rfl) ?h107 ?g107 (by rfl) (by rfl) ?k107 ?l107
      case h107 => (simp only [List.getElem?_toArray, List.getElem?_cons_succ, List.getElem?_cons_zero]; rfl)
      case g107 => (simp only [List.getElem?_toArray, List.getElem?_cons_succ, List.getElem?_cons_zero]; rfl)
      · intro K hK
        refine wanted_on rfl ?_
        go_wp2_with fail
        refine (pick_any hi0 15 _ h4.1 h4.2 (by decide) (by decide)).mono ?_
        rintro e wx1 ⟨b0, rfl, hb0, _, hx1⟩
        subst wx1
        have hwb := HWB.out b0 hb0
        refine hK.out _ _ (⟨trivial, fun _ => ⟨x0, x1⟩⟩) (fun _ => ?_)
        clear hK K 
        try simp only [Act.put, List.setIfInBounds_toArray, List.set_cons_zero, List.set_cons_succ]
        refine wpL_take (i := 6) (oi := ?o108) (v := ?v108) ?h108 (by kernel_rfl) (by kernel_rfl) (by kernel_rfl) (by rfl) ?q108 (by rfl) (b := false) (⟨trivial, fun _ => ⟨x0, x1⟩⟩) (Or.inl ⟨?w108, ?y108⟩) ?r108
        case h108 => (simp only [List.getElem?_toArray, List.getElem?_cons_succ, List.getElem?_cons_zero]; rfl)
        case q108 => exact fun _ _ _ h => h
        case w108 => rfl
        case y108 =>
          intro wS hSw
          obtain ⟨hSb, hSw, hSx⟩ := hSw
          clear hSx
          go_simp
          (try (with_reducible rfl))
        try simp only [Act.put, List.setIfInBounds_toArray, List.set_cons_zero, List.set_cons_succ]
        refine wpL_two (i := 8) (oi := ?o109) (j := 12) (oj := ?c109) (b1 := true) (b2 := false) (by kernel_rfl) ?h109 ?g109 (by rfl) (by rfl) ?k109 ?l109
        case h109 => (simp only [List.getElem?_toArray, List.getElem?_cons_succ, List.getElem?_cons_zero]; rfl)
        case g109 => (simp only [List.getElem?_toArray, List.getElem?_cons_succ, List.getElem?_cons_zero]; rfl)
        · intro K hK
          refine wanted_on rfl ?_
          go_wp2_with fail
          obtain ⟨g2, px, py, hres, hru, hce, hpx, hpy, hgc, hgr⟩ := HFL.out (a0 + 2) (b0 + 1) (by omega) (by omega) (by omega)
          have HGR := Lib.hid (show g2.cell px py = ⟨cr, cw, ⟨cf, cb, ca⟩⟩ ∧ g2.cols = a0 + 2 ∧ g2.rows.length = b0 + 1 from ⟨hce, hgc, hgr⟩)
          have HRU := Lib.hid hru
          have hsx := HS8.out.below HBD.out
          have hvx := ownC_below HV8.out HBD.out
          have hcx := blk_below HC8.out HBD.out (heap_lt HC8.out)
          have htk := sh_free HS8.out (Nat.le_refl w8.heap.size)
          clear hru hce hgc hgr
          refine (resizeF_any hsx.gm (a0 + 2) (b0 + 1) ((c : Int) - 1) ((r : Int) - 1) (by omega) (by omega) (by omega) (by omega)).mono ?_
          rintro e w9 ⟨rfl, hw9, T2, g9, n9⟩
          rw [hres] at g9 ⊢
          dsimp only at g9 ⊢
          have HS9 := Lib.hid (hsx.turn hw9 g9 n9)
          have hno : ∀ k, T k = 0 → ∀ {wq : World}, k < wq.heap.size → ¬ own T wq k := fun k h0 wq h1 e => by
            rcases e with e | e
            · exact e h0
            · omega
          have hT2 : ∀ k, T k = 0 → k < w8.heap.size → T2 k = 0 := fun k h0 h1 => by
            by_cases h2 : T2 k = 0
            · exact h2
            · rcases n9 k h2 with e | e
              · exact absurd h0 e
              · have h3 : w8.heap.size ≤ (w8.drew).heap.size := HBD.out.size
                omega
          have HV9 := Lib.hid (ownC_blocks hvx hw9.size (fun k hk => hw9.block k (ownC_lt hvx k hk).2 (hno k (HVT5.out k hk) (ownC_lt hvx k hk).2)))
          have HC9 := Lib.hid ((hw9.block pc (heap_lt hcx) (hno pc HTC.out (heap_lt hcx))).trans hcx)
          have HVL := Lib.hid (show ∀ k, va.ownBlock = some k → k < w8.heap.size from fun k hk => (ownC_lt HV8.out k hk).2)
          have HCL2 := Lib.hid (heap_lt HC8.out)
          have HW9 := Lib.hid (show w8.heap.size ≤ w9.heap.size from Nat.le_trans HBD.out.size hw9.size)
          have HNO := Lib.hid hno
          have hbs : w8.drew.heap.size = w8.heap.size := rfl
          have HTK := Lib.hid htk
          clear hw9 g9 n9 hno hT2 hvx hcx hsx htk hres
          refine hK.out _ _ (⟨trivial, fun e => by cases e⟩) (fun _ => ?_)
          clear hK K 
          try simp only [Act.put, List.setIfInBounds_toArray, List.set_cons_zero, List.set_cons_succ]
          refine wpL_take (i := 9) (oi := ?o110) (v := ?v110) ?h110 (by kernel_rfl) (by kernel_rfl) (by kernel_rfl) (by rfl) ?q110 (by rfl) (b := true) (⟨trivial, fun e => by cases e⟩) (Or.inl ⟨?w110, ?y110⟩) ?r110
          case h110 => (simp only [List.getElem?_toArray, List.getElem?_cons_succ, List.getElem?_cons_zero]; rfl)
          case q110 => exact fun _ _ _ h => h
          case w110 => rfl
          case y110 =>
            intro wS hSw
            obtain ⟨hSb, hSw, hSx⟩ := hSw
            clear hSx
            go_simp
            (try (with_reducible rfl))
          try simp only [Act.put, List.setIfInBounds_toArray, List.set_cons_zero, List.set_cons_succ]
          refine wpL_take (i := 10) (oi := ?o111) (v := ?v111) ?h111 (by kernel_rfl) (by kernel_rfl) (by kernel_rfl) (by rfl) ?q111 (by rfl) (b := true) (⟨trivial, fun e => by cases e⟩) (Or.inl ⟨?w111, ?y111⟩) ?r111
          case h111 => (simp only [List.getElem?_toArray, List.getElem?_cons_succ, List.getElem?_cons_zero]; rfl)
          case q111 => exact fun _ _ _ h => h
          case w111 => rfl
          case y111 =>
            intro wS hSw
            obtain ⟨hSb, hSw, hSx⟩ := hSw
            clear hSx
            go_simp
            (try (with_reducible rfl))
          try simp only [Act.put, List.setIfInBounds_toArray, List.set_cons_zero, List.set_cons_succ]
          refine wpL_take (i := 11) (oi := ?o112) (v := ?v112) ?h112 (by kernel_rfl) (by kernel_rfl) (by kernel_rfl) (by rfl) ?q112 (by rfl) (b := true) (⟨trivial, fun e => by cases e⟩) (Or.inl ⟨?w112, ?y112⟩) ?r112
          case h112 => (simp only [List.getElem?_toArray, List.getElem?_cons_succ, List.getElem?_cons_zero]; rfl)
          case q112 => exact fun _ _ _ h => h
          case w112 => rfl
          case y112 =>
            intro wS hSw
            obtain ⟨hSb, hSw, hSx⟩ := hSw
            clear hSx
            go_simp
            (try (with_reducible rfl))
          try simp only [Act.put, List.setIfInBounds_toArray, List.set_cons_zero, List.set_cons_succ]
          refine wpL_one (i := 12) (o := ?o113) (b := true) (by kernel_rfl) ?h113 (by rfl) ?k113
          case h113 => (simp only [List.getElem?_toArray, List.getElem?_cons_succ, List.getElem?_cons_zero]; rfl)
          intro K hK
          refine wanted_on rfl ?_
          go_wp2_with fail
          refine hK.out _ _ (⟨trivial, fun e => by cases e⟩) (fun _ => ?_)
          clear hK K 
          try simp only [Act.put, List.setIfInBounds_toArray, List.set_cons_zero, List.set_cons_succ]
          refine wpL_one (i := 13) (o := ?o114) (b := true) (by kernel_rfl) ?h114 (by rfl) ?k114
          case h114 => (simp only [List.getElem?_toArray, List.getElem?_cons_succ, List.getElem?_cons_zero]; rfl)
          intro K hK
          refine wanted_on rfl ?_
          first
            | (have hno := HNO
               have HKN := blk_new w9 (.cells #[.int .i64 0, .int .i64 0] 43)
               have hba := (Below.refl w9.heap.size w9).alloc (Nat.le_refl _) (.cells #[.int .i64 0, .int .i64 0] 43)
               have hst := run_storeVar_row (P := Tryd.prog) _ w9.heap.size 43 43 _ #[.int .i64 px, .int .i64 py] HKN (by kernel_rfl) rfl (by simp [Value.oneCell'])
               refine wp_storeR _ _ _ rfl hst rfl rfl ?_
               have hgb := gb_setRow (w9.alloc (.cells #[.int .i64 0, .int .i64 0] 43)) w9.heap.size #[.int .i64 px, .int .i64 py]
               have HK10 := Lib.hid (setRow_blk (cells := #[.int .i64 px, .int .i64 py]) HKN)
               have HS10 := Lib.hid (sh_setRow #[.int .i64 px, .int .i64 py] (HS9.out.below hba) (sh_free HS9.out (Nat.le_refl w9.heap.size)) HS9.out.b.size)
               have HV10 := Lib.hid (ownC_grown (ownC_below HV9.out hba) hgb (fun k hk e => by injection e with e; have := HVL.out k hk; have := HW9.out; omega))
               have HC10 := Lib.hid (blk_grown (blk_below HC9.out hba (heap_lt HC9.out)) hgb (fun e => by injection e with e; have := HCL2.out; have := HW9.out; omega))
               clear hno HKN hba hst hgb)
            | (have hst := run_storeVar_row (P := Tryd.prog) w9 w8.heap.size 43 43 _ #[.int .i64 px, .int .i64 py] HK9.out (by kernel_rfl) rfl (by simp [Value.oneCell'])
               refine wp_storeR _ _ _ rfl hst rfl rfl ?_
               have hgb := gb_setRow w9 w8.heap.size #[.int .i64 px, .int .i64 py]
               have HK10 := Lib.hid (setRow_blk (cells := #[.int .i64 px, .int .i64 py]) HK9.out)
               have HS10 := Lib.hid (sh_setRow #[.int .i64 px, .int .i64 py] HS9.out HTK.out HS8.out.b.size)
               have HV10 := Lib.hid (ownC_grown HV9.out hgb (fun k hk e => by injection e with e; have := HVL.out k hk; omega))
               have HC10 := Lib.hid (blk_grown HC9.out hgb (fun e => by injection e with e; have := HCL2.out; omega))
               clear hst hgb)
          refine hK.out _ _ (⟨trivial, fun e => by cases e⟩) (fun _ => ?_)
          clear hK K 
          try simp only [Act.put]
          refine wpL_take (i := 14) (oi := ?o115) (v := ?v115) ?h115 (by kernel_rfl) (by kernel_rfl) (by kernel_rfl) (by rfl) ?q115 (by rfl) (b := true) (⟨trivial, fun e => by cases e⟩) (Or.inl ⟨?w115, ?y115⟩) ?r115
          case h115 => (simp only [List.getElem?_toArray, List.getElem?_cons_succ, List.getElem?_cons_zero]; rfl)
          case q115 => exact fun _ _ _ h => h
          case w115 => rfl
          case y115 =>
            intro wS hSw
            obtain ⟨hSb, hSw, hSx⟩ := hSw
            clear hSx
            go_simp
            (try (with_reducible rfl))
          try simp only [Act.put, List.setIfInBounds_toArray, List.set_cons_zero, List.set_cons_succ]
          refine wpL_done (by kernel_rfl) ?_ _
          go_wp2_with fail
          go_meet
          exact ⟨rfl, _, px, py, a0 + 2, b0 + 1, T2, g2, rfl, HS10, HK10, by rw [HRU.out]; exact HV10, HC10, HGR, hpx, hpy, by omega, by omega⟩
        · intro K hK
          refine wanted_on rfl ?_
          go_wp2_with fail
          refine hK.out _ _ (⟨trivial, fun _ => ⟨y0, y1⟩⟩) (fun _ => ?_)
          clear hK K 
          try simp only [Act.put, List.setIfInBounds_toArray, List.set_cons_zero, List.set_cons_succ]
          refine wpL_one (i := 8) (o := ?o116) (b := true) (by kernel_rfl) ?h116 (by rfl) ?k116
          case h116 => (simp only [List.getElem?_toArray, List.getElem?_cons_succ, List.getElem?_cons_zero]; rfl)
          intro K hK
          refine wanted_on rfl ?_
          go_wp2_with fail
          obtain ⟨g2, px, py, hres, hru, hce, hpx, hpy, hgc, hgr⟩ := HFL.out (a0 + 2) (b0 + 1) (by omega) (by omega) (by omega)
          have HGR := Lib.hid (show g2.cell px py = ⟨cr, cw, ⟨cf, cb, ca⟩⟩ ∧ g2.cols = a0 + 2 ∧ g2.rows.length = b0 + 1 from ⟨hce, hgc, hgr⟩)
          have HRU := Lib.hid hru
          have hsx := HS8.out.below HBA.out
          have hvx := ownC_below HV8.out HBA.out
          have hcx := blk_below HC8.out HBA.out (heap_lt HC8.out)
          have htk := sh_free HS8.out (Nat.le_refl w8.heap.size)
          clear hru hce hgc hgr
          refine (resizeF_any hsx.gm (a0 + 2) (b0 + 1) ((c : Int) - 1) ((r : Int) - 1) (by omega) (by omega) (by omega) (by omega)).mono ?_
          rintro e w9 ⟨rfl, hw9, T2, g9, n9⟩
          rw [hres] at g9 ⊢
          dsimp only at g9 ⊢
          have HS9 := Lib.hid (hsx.turn hw9 g9 n9)
          have hno : ∀ k, T k = 0 → ∀ {wq : World}, k < wq.heap.size → ¬ own T wq k := fun k h0 wq h1 e => by
            rcases e with e | e
            · exact e h0
            · omega
          have hT2 : ∀ k, T k = 0 → k < w8.heap.size → T2 k = 0 := fun k h0 h1 => by
            by_cases h2 : T2 k = 0
            · exact h2
            · rcases n9 k h2 with e | e
              · exact absurd h0 e
              · have h3 : w8.heap.size ≤ (w8.drew.alloc (.cells #[.int .i64 0, .int .i64 0] 43)).heap.size := HBA.out.size
                omega
          have HV9 := Lib.hid (ownC_blocks hvx hw9.size (fun k hk => hw9.block k (ownC_lt hvx k hk).2 (hno k (HVT5.out k hk) (ownC_lt hvx k hk).2)))
          have HC9 := Lib.hid ((hw9.block pc (heap_lt hcx) (hno pc HTC.out (heap_lt hcx))).trans hcx)
          have HVL := Lib.hid (show ∀ k, va.ownBlock = some k → k < w8.heap.size from fun k hk => (ownC_lt HV8.out k hk).2)
          have HCL2 := Lib.hid (heap_lt HC8.out)
          have HW9 := Lib.hid (show w8.heap.size ≤ w9.heap.size from Nat.le_trans HBA.out.size hw9.size)
          have HK9 := Lib.hid ((hw9.block w8.heap.size (heap_lt HNA.out) (hno _ htk (heap_lt HNA.out))).trans HNA.out)
          have hbs : w8.drew.heap.size = w8.heap.size := rfl
          have HTK := Lib.hid (show T2 w8.heap.size = 0 from Classical.byContradiction fun h2 => (n9 _ h2).elim (fun e => e htk) (fun e => by have := heap_lt HNA.out; omega))
          clear hw9 g9 n9 hno hT2 hvx hcx hsx htk hres
          refine hK.out _ _ (⟨trivial, fun e => by cases e⟩) (fun _ => ?_)
          clear hK K 
          try simp only [Act.put, List.setIfInBounds_toArray, List.set_cons_zero, List.set_cons_succ]
          refine wpL_take (i := 9) (oi := ?o117) (v := ?v117) ?h117 (by kernel_rfl) (by kernel_rfl) (by kernel_rfl) (by rfl) ?q117 (by rfl) (b := true) (⟨trivial, fun e => by cases e⟩) (Or.inl ⟨?w117, ?y117⟩) ?r117
          case h117 => (simp only [List.getElem?_toArray, List.getElem?_cons_succ, List.getElem?_cons_zero]; rfl)
          case q117 => exact fun _ _ _ h => h
          case w117 => rfl
          case y117 =>
            intro wS hSw
            obtain ⟨hSb, hSw, hSx⟩ := hSw
            clear hSx
            go_simp
            (try (with_reducible rfl))
          try simp only [Act.put, List.setIfInBounds_toArray, List.set_cons_zero, List.set_cons_succ]
          refine wpL_take (i := 10) (oi := ?o118) (v := ?v118) ?h118 (by kernel_rfl) (by kernel_rfl) (by kernel_rfl) (by rfl) ?q118 (by rfl) (b := true) (⟨trivial, fun e => by cases e⟩) (Or.inl ⟨?w118, ?y118⟩) ?r118
          case h118 => (simp only [List.getElem?_toArray, List.getElem?_cons_succ, List.getElem?_cons_zero]; rfl)
          case q118 => exact fun _ _ _ h => h
          case w118 => rfl
          case y118 =>
            intro wS hSw
            obtain ⟨hSb, hSw, hSx⟩ := hSw
            clear hSx
            go_simp
            (try (with_reducible rfl))
          try simp only [Act.put, List.setIfInBounds_toArray, List.set_cons_zero, List.set_cons_succ]
          refine wpL_take (i := 11) (oi := ?o119) (v := ?v119) ?h119 (by kernel_rfl) (by kernel_rfl) (by kernel_rfl) (by rfl) ?q119 (by rfl) (b := true) (⟨trivial, fun e => by cases e⟩) (Or.inl ⟨?w119, ?y119⟩) ?r119
          case h119 => (simp only [List.getElem?_toArray, List.getElem?_cons_succ, List.getElem?_cons_zero]; rfl)
          case q119 => exact fun _ _ _ h => h
          case w119 => rfl
          case y119 =>
            intro wS hSw
            obtain ⟨hSb, hSw, hSx⟩ := hSw
            clear hSx
            go_simp
            (try (with_reducible rfl))
          try simp only [Act.put, List.setIfInBounds_toArray, List.set_cons_zero, List.set_cons_succ]
          refine wpL_one (i := 13) (o := ?o120) (b := true) (by kernel_rfl) ?h120 (by rfl) ?k120
          case h120 => (simp only [List.getElem?_toArray, List.getElem?_cons_succ, List.getElem?_cons_zero]; rfl)
          intro K hK
          refine wanted_on rfl ?_
          first
            | (have hno := HNO
               have HKN := blk_new w9 (.cells #[.int .i64 0, .int .i64 0] 43)
               have hba := (Below.refl w9.heap.size w9).alloc (Nat.le_refl _) (.cells #[.int .i64 0, .int .i64 0] 43)
               have hst := run_storeVar_row (P := Tryd.prog) _ w9.heap.size 43 43 _ #[.int .i64 px, .int .i64 py] HKN (by kernel_rfl) rfl (by simp [Value.oneCell'])
               refine wp_storeR _ _ _ rfl hst rfl rfl ?_
               have hgb := gb_setRow (w9.alloc (.cells #[.int .i64 0, .int .i64 0] 43)) w9.heap.size #[.int .i64 px, .int .i64 py]
               have HK10 := Lib.hid (setRow_blk (cells := #[.int .i64 px, .int .i64 py]) HKN)
               have HS10 := Lib.hid (sh_setRow #[.int .i64 px, .int .i64 py] (HS9.out.below hba) (sh_free HS9.out (Nat.le_refl w9.heap.size)) HS9.out.b.size)
               have HV10 := Lib.hid (ownC_grown (ownC_below HV9.out hba) hgb (fun k hk e => by injection e with e; have := HVL.out k hk; have := HW9.out; omega))
               have HC10 := Lib.hid (blk_grown (blk_below HC9.out hba (heap_lt HC9.out)) hgb (fun e => by injection e with e; have := HCL2.out; have := HW9.out; omega))
               clear hno HKN hba hst hgb)
            | (have hst := run_storeVar_row (P := Tryd.prog) w9 w8.heap.size 43 43 _ #[.int .i64 px, .int .i64 py] HK9.out (by kernel_rfl) rfl (by simp [Value.oneCell'])
               refine wp_storeR _ _ _ rfl hst rfl rfl ?_
               have hgb := gb_setRow w9 w8.heap.size #[.int .i64 px, .int .i64 py]
               have HK10 := Lib.hid (setRow_blk (cells := #[.int .i64 px, .int .i64 py]) HK9.out)
               have HS10 := Lib.hid (sh_setRow #[.int .i64 px, .int .i64 py] HS9.out HTK.out HS8.out.b.size)
               have HV10 := Lib.hid (ownC_grown HV9.out hgb (fun k hk e => by injection e with e; have := HVL.out k hk; omega))
               have HC10 := Lib.hid (blk_grown HC9.out hgb (fun e => by injection e with e; have := HCL2.out; omega))
               clear hst hgb)
          refine hK.out _ _ (⟨trivial, fun e => by cases e⟩) (fun _ => ?_)
          clear hK K 
          try simp only [Act.put]
          refine wpL_take (i := 14) (oi := ?o121) (v := ?v121) ?h121 (by kernel_rfl) (by kernel_rfl) (by kernel_rfl) (by rfl) ?q121 (by rfl) (b := true) (⟨trivial, fun e => by cases e⟩) (Or.inl ⟨?w121, ?y121⟩) ?r121
          case h121 => (simp only [List.getElem?_toArray, List.getElem?_cons_succ, List.getElem?_cons_zero]; rfl)
          case q121 => exact fun _ _ _ h => h
          case w121 => rfl
          case y121 =>
            intro wS hSw
            obtain ⟨hSb, hSw, hSx⟩ := hSw
            clear hSx
            go_simp
            (try (with_reducible rfl))
          try simp only [Act.put, List.setIfInBounds_toArray, List.set_cons_zero, List.set_cons_succ]
          refine wpL_done (by kernel_rfl) ?_ _
          go_wp2_with fail
          go_meet
          exact ⟨rfl, _, px, py, a0 + 2, b0 + 1, T2, g2, rfl, HS10, HK10, by rw [HRU.out]; exact HV10, HC10, HGR, hpx, hpy, by omega, by omega⟩
      · intro K hK
        refine wanted_on rfl ?_
        go_wp2_with fail
        refine hK.out _ _ (⟨trivial, fun _ => ⟨y0, y1⟩⟩) (fun _ => ?_)
        clear hK K 
        try simp only [Act.put, List.setIfInBounds_toArray, List.set_cons_zero, List.set_cons_succ]
        refine wpL_one (i := 5) (o := ?o122) (b := false) (by kernel_rfl) ?h122 (by rfl) ?k122
        case h122 => (simp only [List.getElem?_toArray, List.getElem?_cons_succ, List.getElem?_cons_zero]; rfl)
        intro K hK
        refine wanted_on rfl ?_
        go_wp2_with fail
        refine (pick_any hi0 15 _ h4.1 h4.2 (by decide) (by decide)).mono ?_
        rintro e wx1 ⟨b0, rfl, hb0, _, hx1⟩
        subst wx1
        have hwb := HWB.out b0 hb0
        refine hK.out _ _ (⟨trivial, fun _ => ⟨y0, y1⟩⟩) (fun _ => ?_)
        clear hK K 
        try simp only [Act.put, List.setIfInBounds_toArray, List.set_cons_zero, List.set_cons_succ]
        refine wpL_take (i := 6) (oi := ?o123) (v := ?v123) ?h123 (by kernel_rfl) (by kernel_rfl) (by kernel_rfl) (by rfl) ?q123 (by rfl) (b := false) (⟨trivial, fun _ => ⟨y0, y1⟩⟩) (Or.inl ⟨?w123, ?y123⟩) ?r123
        case h123 => (simp only [List.getElem?_toArray, List.getElem?_cons_succ, List.getElem?_cons_zero]; rfl)
        case q123 => exact fun _ _ _ h => h
        case w123 => rfl
        case y123 =>
          intro wS hSw
          obtain ⟨hSb, hSw, hSx⟩ := hSw
          clear hSx
          go_simp
          (try (with_reducible rfl))
        try simp only [Act.put, List.setIfInBounds_toArray, List.set_cons_zero, List.set_cons_succ]
        refine wpL_one (i := 8) (o := ?o124) (b := true) (by kernel_rfl) ?h124 (by rfl) ?k124
        case h124 => (simp only [List.getElem?_toArray, List.getElem?_cons_succ, List.getElem?_cons_zero]; rfl)
        intro K hK
        refine wanted_on rfl ?_
        go_wp2_with fail
        obtain ⟨g2, px, py, hres, hru, hce, hpx, hpy, hgc, hgr⟩ := HFL.out (a0 + 2) (b0 + 1) (by omega) (by omega) (by omega)
        have HGR := Lib.hid (show g2.cell px py = ⟨cr, cw, ⟨cf, cb, ca⟩⟩ ∧ g2.cols = a0 + 2 ∧ g2.rows.length = b0 + 1 from ⟨hce, hgc, hgr⟩)
        have HRU := Lib.hid hru
        have hsx := HS8.out.below HBA.out
        have hvx := ownC_below HV8.out HBA.out
        have hcx := blk_below HC8.out HBA.out (heap_lt HC8.out)
        have htk := sh_free HS8.out (Nat.le_refl w8.heap.size)
        clear hru hce hgc hgr
        refine (resizeF_any hsx.gm (a0 + 2) (b0 + 1) ((c : Int) - 1) ((r : Int) - 1) (by omega) (by omega) (by omega) (by omega)).mono ?_
        rintro e w9 ⟨rfl, hw9, T2, g9, n9⟩
        rw [hres] at g9 ⊢
        dsimp only at g9 ⊢
        have HS9 := Lib.hid (hsx.turn hw9 g9 n9)
        have hno : ∀ k, T k = 0 → ∀ {wq : World}, k < wq.heap.size → ¬ own T wq k := fun k h0 wq h1 e => by
          rcases e with e | e
          · exact e h0
          · omega
        have hT2 : ∀ k, T k = 0 → k < w8.heap.size → T2 k = 0 := fun k h0 h1 => by
          by_cases h2 : T2 k = 0
          · exact h2
          · rcases n9 k h2 with e | e
            · exact absurd h0 e
            · have h3 : w8.heap.size ≤ (w8.drew.alloc (.cells #[.int .i64 0, .int .i64 0] 43)).heap.size := HBA.out.size
              omega
        have HV9 := Lib.hid (ownC_blocks hvx hw9.size (fun k hk => hw9.block k (ownC_lt hvx k hk).2 (hno k (HVT5.out k hk) (ownC_lt hvx k hk).2)))
        have HC9 := Lib.hid ((hw9.block pc (heap_lt hcx) (hno pc HTC.out (heap_lt hcx))).trans hcx)
        have HVL := Lib.hid (show ∀ k, va.ownBlock = some k → k < w8.heap.size from fun k hk => (ownC_lt HV8.out k hk).2)
        have HCL2 := Lib.hid (heap_lt HC8.out)
        have HW9 := Lib.hid (show w8.heap.size ≤ w9.heap.size from Nat.le_trans HBA.out.size hw9.size)
        have HK9 := Lib.hid ((hw9.block w8.heap.size (heap_lt HNA.out) (hno _ htk (heap_lt HNA.out))).trans HNA.out)
        have hbs : w8.drew.heap.size = w8.heap.size := rfl
        have HTK := Lib.hid (show T2 w8.heap.size = 0 from Classical.byContradiction fun h2 => (n9 _ h2).elim (fun e => e htk) (fun e => by have := heap_lt HNA.out; omega))
        clear hw9 g9 n9 hno hT2 hvx hcx hsx htk hres
        refine hK.out _ _ (⟨trivial, fun e => by cases e⟩) (fun _ => ?_)
        clear hK K 
        try simp only [Act.put, List.setIfInBounds_toArray, List.set_cons_zero, List.set_cons_succ]
        refine wpL_take (i := 9) (oi := ?o125) (v := ?v125) ?h125 (by kernel_rfl) (by kernel_rfl) (by kernel_rfl) (by rfl) ?q125 (by rfl) (b := true) (⟨trivial, fun e => by cases e⟩) (Or.inl ⟨?w125, ?y125⟩) ?r125
        case h125 => (simp only [List.getElem?_toArray, List.getElem?_cons_succ, List.getElem?_cons_zero]; rfl)
        case q125 => exact fun _ _ _ h => h
        case w125 => rfl
        case y125 =>
          intro wS hSw
          obtain ⟨hSb, hSw, hSx⟩ := hSw
          clear hSx
          go_simp
          (try (with_reducible rfl))
        try simp only [Act.put, List.setIfInBounds_toArray, List.set_cons_zero, List.set_cons_succ]
        refine wpL_take (i := 10) (oi := ?o126) (v := ?v126) ?h126 (by kernel_rfl) (by kernel_rfl) (by kernel_rfl) (by rfl) ?q126 (by rfl) (b := true) (⟨trivial, fun e => by cases e⟩) (Or.inl ⟨?w126, ?y126⟩) ?r126
        case h126 => (simp only [List.getElem?_toArray, List.getElem?_cons_succ, List.getElem?_cons_zero]; rfl)
        case q126 => exact fun _ _ _ h => h
        case w126 => rfl
        case y126 =>
          intro wS hSw
          obtain ⟨hSb, hSw, hSx⟩ := hSw
          clear hSx
          go_simp
          (try (with_reducible rfl))
        try simp only [Act.put, List.setIfInBounds_toArray, List.set_cons_zero, List.set_cons_succ]
        refine wpL_take (i := 11) (oi := ?o127) (v := ?v127) ?h127 (by kernel_rfl) (by kernel_rfl) (by kernel_rfl) (by rfl) ?q127 (by rfl) (b := true) (⟨trivial, fun e => by cases e⟩) (Or.inl ⟨?w127, ?y127⟩) ?r127
        case h127 => (simp only [List.getElem?_toArray, List.getElem?_cons_succ, List.getElem?_cons_zero]; rfl)
        case q127 => exact fun _ _ _ h => h
        case w127 => rfl
        case y127 =>
          intro wS hSw
          obtain ⟨hSb, hSw, hSx⟩ := hSw
          clear hSx
          go_simp
          (try (with_reducible rfl))
        try simp only [Act.put, List.setIfInBounds_toArray, List.set_cons_zero, List.set_cons_succ]
        refine wpL_one (i := 13) (o := ?o128) (b := true) (by kernel_rfl) ?h128 (by rfl) ?k128
        case h128 => (simp only [List.getElem?_toArray, List.getElem?_cons_succ, List.getElem?_cons_zero]; rfl)
        intro K hK
        refine wanted_on rfl ?_
        first
          | (have hno := HNO
             have HKN := blk_new w9 (.cells #[.int .i64 0, .int .i64 0] 43)
             have hba := (Below.refl w9.heap.size w9).alloc (Nat.le_refl _) (.cells #[.int .i64 0, .int .i64 0] 43)
             have hst := run_storeVar_row (P := Tryd.prog) _ w9.heap.size 43 43 _ #[.int .i64 px, .int .i64 py] HKN (by kernel_rfl) rfl (by simp [Value.oneCell'])
             refine wp_storeR _ _ _ rfl hst rfl rfl ?_
             have hgb := gb_setRow (w9.alloc (.cells #[.int .i64 0, .int .i64 0] 43)) w9.heap.size #[.int .i64 px, .int .i64 py]
             have HK10 := Lib.hid (setRow_blk (cells := #[.int .i64 px, .int .i64 py]) HKN)
             have HS10 := Lib.hid (sh_setRow #[.int .i64 px, .int .i64 py] (HS9.out.below hba) (sh_free HS9.out (Nat.le_refl w9.heap.size)) HS9.out.b.size)
             have HV10 := Lib.hid (ownC_grown (ownC_below HV9.out hba) hgb (fun k hk e => by injection e with e; have := HVL.out k hk; have := HW9.out; omega))
             have HC10 := Lib.hid (blk_grown (blk_below HC9.out hba (heap_lt HC9.out)) hgb (fun e => by injection e with e; have := HCL2.out; have := HW9.out; omega))
             clear hno HKN hba hst hgb)
          | (have hst := run_storeVar_row (P := Tryd.prog) w9 w8.heap.size 43 43 _ #[.int .i64 px, .int .i64 py] HK9.out (by kernel_rfl) rfl (by simp [Value.oneCell'])
             refine wp_storeR _ _ _ rfl hst rfl rfl ?_
             have hgb := gb_setRow w9 w8.heap.size #[.int .i64 px, .int .i64 py]
             have HK10 := Lib.hid (setRow_blk (cells := #[.int .i64 px, .int .i64 py]) HK9.out)
             have HS10 := Lib.hid (sh_setRow #[.int .i64 px, .int .i64 py] HS9.out HTK.out HS8.out.b.size)
             have HV10 := Lib.hid (ownC_grown HV9.out hgb (fun k hk e => by injection e with e; have := HVL.out k hk; omega))
             have HC10 := Lib.hid (blk_grown HC9.out hgb (fun e => by injection e with e; have := HCL2.out; omega))
             clear hst hgb)
        refine hK.out _ _ (⟨trivial, fun e => by cases e⟩) (fun _ => ?_)
        clear hK K 
        try simp only [Act.put]
        refine wpL_take (i := 14) (oi := ?o129) (v := ?v129) ?h129 (by kernel_rfl) (by kernel_rfl) (by kernel_rfl) (by rfl) ?q129 (by rfl) (b := true) (⟨trivial, fun e => by cases e⟩) (Or.inl ⟨?w129, ?y129⟩) ?r129
        case h129 => (simp only [List.getElem?_toArray, List.getElem?_cons_succ, List.getElem?_cons_zero]; rfl)
        case q129 => exact fun _ _ _ h => h
        case w129 => rfl
        case y129 =>
          intro wS hSw
          obtain ⟨hSb, hSw, hSx⟩ := hSw
          clear hSx
          go_simp
          (try (with_reducible rfl))
        try simp only [Act.put, List.setIfInBounds_toArray, List.set_cons_zero, List.set_cons_succ]
        refine wpL_done (by kernel_rfl) ?_ _
        go_wp2_with fail
        go_meet
        exact ⟨rfl, _, px, py, a0 + 2, b0 + 1, T2, g2, rfl, HS10, HK10, by rw [HRU.out]; exact HV10, HC10, HGR, hpx, hpy, by omega, by omega⟩
    · intro K hK
      refine wanted_on rfl ?_
      go_wp2_with fail
      refine hK.out _ _ (⟨trivial, fun _ => ⟨y0, y1⟩⟩) (fun _ => ?_)
      clear hK K 
      try simp only [Act.put, List.setIfInBounds_toArray, List.set_cons_zero, List.set_cons_succ]
      refine wpL_one (i := 2) (o := ?o130) (b := false) (by kernel_rfl) ?h130 (by rfl) ?k130
      case h130 => (simp only [List.getElem?_toArray, List.getElem?_cons_succ, List.getElem?_cons_zero]; rfl)
      intro K hK
      refine wanted_on rfl ?_
      go_wp2_with fail
      refine (pick_any wi0 29 _ h3.1 h3.2 (by decide) (by decide)).mono ?_
      rintro e wx1 ⟨a0, rfl, ha0, _, hx1⟩
      subst wx1
      have hwa := HWA.out a0 ha0
      refine hK.out _ _ (⟨trivial, fun _ => ⟨y0, y1⟩⟩) (fun _ => ?_)
      clear hK K 
      try simp only [Act.put, List.setIfInBounds_toArray, List.set_cons_zero, List.set_cons_succ]
      refine wpL_take (i := 3) (oi := ?o131) (v := ?v131) ?h131 (by kernel_rfl) (by kernel_rfl) (by kernel_rfl) (by rfl) ?q131 (by rfl) (b := false) (⟨trivial, fun _ => ⟨y0, y1⟩⟩) (Or.inl ⟨?w131, ?y131⟩) ?r131
      case h131 => (simp only [List.getElem?_toArray, List.getElem?_cons_succ, List.getElem?_cons_zero]; rfl)
      case q131 => exact fun _ _ _ h => h
      case w131 => rfl
      case y131 =>
        intro wS hSw
        obtain ⟨hSb, hSw, hSx⟩ := hSw
        clear hSx
        go_simp
        (try (with_reducible rfl))
      try simp only [Act.put, List.setIfInBounds_toArray, List.set_cons_zero, List.set_cons_succ]
      refine wpL_one (i := 5) (o := ?o132) (b := false) (by kernel_rfl) ?h132 (by rfl) ?k132
      case h132 => (simp only [List.getElem?_toArray, List.getElem?_cons_succ, List.getElem?_cons_zero]; rfl)
      intro K hK
      refine wanted_on rfl ?_
      go_wp2_with fail
      refine (pick_any hi0 15 _ h4.1 h4.2 (by decide) (by decide)).mono ?_
      rintro e wx1 ⟨b0, rfl, hb0, _, hx1⟩
      subst wx1
      have hwb := HWB.out b0 hb0
      refine hK.out _ _ (⟨trivial, fun _ => ⟨y0, y1⟩⟩) (fun _ => ?_)
      clear hK K 
      try simp only [Act.put, List.setIfInBounds_toArray, List.set_cons_zero, List.set_cons_succ]
      refine wpL_take (i := 6) (oi := ?o133) (v := ?v133) ?h133 (by kernel_rfl) (by kernel_rfl) (by kernel_rfl) (by rfl) ?q133 (by rfl) (b := false) (⟨trivial, fun _ => ⟨y0, y1⟩⟩) (Or.inl ⟨?w133, ?y133⟩) ?r133
      case h133 => (simp only [List.getElem?_toArray, List.getElem?_cons_succ, List.getElem?_cons_zero]; rfl)
      case q133 => exact fun _ _ _ h => h
      case w133 => rfl
      case y133 =>
        intro wS hSw
        obtain ⟨hSb, hSw, hSx⟩ := hSw
        clear hSx
        go_simp
        (try (with_reducible rfl))
      try simp only [Act.put, List.setIfInBounds_toArray, List.set_cons_zero, List.set_cons_succ]
      refine wpL_one (i := 8) (o := ?o134) (b := true) (by kernel_rfl) ?h134 (by rfl) ?k134
      case h134 => (simp only [List.getElem?_toArray, List.getElem?_cons_succ, List.getElem?_cons_zero]; rfl)
      intro K hK
      refine wanted_on rfl ?_
      go_wp2_with fail
      obtain ⟨g2, px, py, hres, hru, hce, hpx, hpy, hgc, hgr⟩ := HFL.out (a0 + 2) (b0 + 1) (by omega) (by omega) (by omega)
      have HGR := Lib.hid (show g2.cell px py = ⟨cr, cw, ⟨cf, cb, ca⟩⟩ ∧ g2.cols = a0 + 2 ∧ g2.rows.length = b0 + 1 from ⟨hce, hgc, hgr⟩)
      have HRU := Lib.hid hru
      have hsx := HS8.out.below HBA.out
      have hvx := ownC_below HV8.out HBA.out
      have hcx := blk_below HC8.out HBA.out (heap_lt HC8.out)
      have htk := sh_free HS8.out (Nat.le_refl w8.heap.size)
      clear hru hce hgc hgr
      refine (resizeF_any hsx.gm (a0 + 2) (b0 + 1) ((c : Int) - 1) ((r : Int) - 1) (by omega) (by omega) (by omega) (by omega)).mono ?_
      rintro e w9 ⟨rfl, hw9, T2, g9, n9⟩
      rw [hres] at g9 ⊢
      dsimp only at g9 ⊢
      have HS9 := Lib.hid (hsx.turn hw9 g9 n9)
      have hno : ∀ k, T k = 0 → ∀ {wq : World}, k < wq.heap.size → ¬ own T wq k := fun k h0 wq h1 e => by
        rcases e with e | e
        · exact e h0
        · omega
      have hT2 : ∀ k, T k = 0 → k < w8.heap.size → T2 k = 0 := fun k h0 h1 => by
        by_cases h2 : T2 k = 0
        · exact h2
        · rcases n9 k h2 with e | e
          · exact absurd h0 e
          · have h3 : w8.heap.size ≤ (w8.drew.alloc (.cells #[.int .i64 0, .int .i64 0] 43)).heap.size := HBA.out.size
            omega
      have HV9 := Lib.hid (ownC_blocks hvx hw9.size (fun k hk => hw9.block k (ownC_lt hvx k hk).2 (hno k (HVT5.out k hk) (ownC_lt hvx k hk).2)))
      have HC9 := Lib.hid ((hw9.block pc (heap_lt hcx) (hno pc HTC.out (heap_lt hcx))).trans hcx)
      have HVL := Lib.hid (show ∀ k, va.ownBlock = some k → k < w8.heap.size from fun k hk => (ownC_lt HV8.out k hk).2)
      have HCL2 := Lib.hid (heap_lt HC8.out)
      have HW9 := Lib.hid (show w8.heap.size ≤ w9.heap.size from Nat.le_trans HBA.out.size hw9.size)
      have HK9 := Lib.hid ((hw9.block w8.heap.size (heap_lt HNA.out) (hno _ htk (heap_lt HNA.out))).trans HNA.out)
      have hbs : w8.drew.heap.size = w8.heap.size := rfl
      have HTK := Lib.hid (show T2 w8.heap.size = 0 from Classical.byContradiction fun h2 => (n9 _ h2).elim (fun e => e htk) (fun e => by have := heap_lt HNA.out; omega))
      clear hw9 g9 n9 hno hT2 hvx hcx hsx htk hres
      refine hK.out _ _ (⟨trivial, fun e => by cases e⟩) (fun _ => ?_)
      clear hK K 
      try simp only [Act.put, List.setIfInBounds_toArray, List.set_cons_zero, List.set_cons_succ]
      refine wpL_take (i := 9) (oi := ?o135) (v := ?v135) ?h135 (by kernel_rfl) (by kernel_rfl) (by kernel_rfl) (by rfl) ?q135 (by rfl) (b := true) (⟨trivial, fun e => by cases e⟩) (Or.inl ⟨?w135, ?y135⟩) ?r135
      case h135 => (simp only [List.getElem?_toArray, List.getElem?_cons_succ, List.getElem?_cons_zero]; rfl)
      case q135 => exact fun _ _ _ h => h
      case w135 => rfl
      case y135 =>
        intro wS hSw
        obtain ⟨hSb, hSw, hSx⟩ := hSw
        clear hSx
        go_simp
        (try (with_reducible rfl))
      try simp only [Act.put, List.setIfInBounds_toArray, List.set_cons_zero, List.set_cons_succ]
      refine wpL_take (i := 10) (oi := ?o136) (v := ?v136) ?h136 (by kernel_rfl) (by kernel_rfl) (by kernel_rfl) (by rfl) ?q136 (by rfl) (b := true) (⟨trivial, fun e => by cases e⟩) (Or.inl ⟨?w136, ?y136⟩) ?r136
      case h136 => (simp only [List.getElem?_toArray, List.getElem?_cons_succ, List.getElem?_cons_zero]; rfl)
      case q136 => exact fun _ _ _ h => h
      case w136 => rfl
      case y136 =>
        intro wS hSw
        obtain ⟨hSb, hSw, hSx⟩ := hSw
        clear hSx
        go_simp
        (try (with_reducible rfl))
      try simp only [Act.put, List.setIfInBounds_toArray, List.set_cons_zero, List.set_cons_succ]
      refine wpL_take (i := 11) (oi := ?o137) (v := ?v137) ?h137 (by kernel_rfl) (by kernel_rfl) (by kernel_rfl) (by rfl) ?q137 (by rfl) (b := true) (⟨trivial, fun e => by cases e⟩) (Or.inl ⟨?w137, ?y137⟩) ?r137
      case h137 => (simp only [List.getElem?_toArray, List.getElem?_cons_succ, List.getElem?_cons_zero]; rfl)
      case q137 => exact fun _ _ _ h => h
      case w137 => rfl
      case y137 =>
        intro wS hSw
        obtain ⟨hSb, hSw, hSx⟩ := hSw
        clear hSx
        go_simp
        (try (with_reducible rfl))
      try simp only [Act.put, List.setIfInBounds_toArray, List.set_cons_zero, List.set_cons_succ]
      refine wpL_one (i := 13) (o := ?o138) (b := true) (by kernel_rfl) ?h138 (by rfl) ?k138
      case h138 => (simp only [List.getElem?_toArray, List.getElem?_cons_succ, List.getElem?_cons_zero]; rfl)
      intro K hK
      refine wanted_on rfl ?_
      first
        | (have hno := HNO
           have HKN := blk_new w9 (.cells #[.int .i64 0, .int .i64 0] 43)
           have hba := (Below.refl w9.heap.size w9).alloc (Nat.le_refl _) (.cells #[.int .i64 0, .int .i64 0] 43)
           have hst := run_storeVar_row (P := Tryd.prog) _ w9.heap.size 43 43 _ #[.int .i64 px, .int .i64 py] HKN (by kernel_rfl) rfl (by simp [Value.oneCell'])
           refine wp_storeR _ _ _ rfl hst rfl rfl ?_
           have hgb := gb_setRow (w9.alloc (.cells #[.int .i64 0, .int .i64 0] 43)) w9.heap.size #[.int .i64 px, .int .i64 py]
           have HK10 := Lib.hid (setRow_blk (cells := #[.int .i64 px, .int .i64 py]) HKN)
           have HS10 := Lib.hid (sh_setRow #[.int .i64 px, .int .i64 py] (HS9.out.below hba) (sh_free HS9.out (Nat.le_refl w9.heap.size)) HS9.out.b.size)
           have HV10 := Lib.hid (ownC_grown (ownC_below HV9.out hba) hgb (fun k hk e => by injection e with e; have := HVL.out k hk; have := HW9.out; omega))
           have HC10 := Lib.hid (blk_grown (blk_below HC9.out hba (heap_lt HC9.out)) hgb (fun e => by injection e with e; have := HCL2.out; have := HW9.out; omega))
           clear hno HKN hba hst hgb)
        | (have hst := run_storeVar_row (P := Tryd.prog) w9 w8.heap.size 43 43 _ #[.int .i64 px, .int .i64 py] HK9.out (by kernel_rfl) rfl (by simp [Value.oneCell'])
           refine wp_storeR _ _ _ rfl hst rfl rfl ?_
           have hgb := gb_setRow w9 w8.heap.size #[.int .i64 px, .int .i64 py]
           have HK10 := Lib.hid (setRow_blk (cells := #[.int .i64 px, .int .i64 py]) HK9.out)
           have HS10 := Lib.hid (sh_setRow #[.int .i64 px, .int .i64 py] HS9.out HTK.out HS8.out.b.size)
           have HV10 := Lib.hid (ownC_grown HV9.out hgb (fun k hk e => by injection e with e; have := HVL.out k hk; omega))
           have HC10 := Lib.hid (blk_grown HC9.out hgb (fun e => by injection e with e; have := HCL2.out; omega))
           clear hst hgb)
      refine hK.out _ _ (⟨trivial, fun e => by cases e⟩) (fun _ => ?_)
      clear hK K 
      try simp only [Act.put]
      refine wpL_take (i := 14) (oi := ?o139) (v := ?v139) ?h139 (by kernel_rfl) (by kernel_rfl) (by kernel_rfl) (by rfl) ?q139 (by rfl) (b := true) (⟨trivial, fun e => by cases e⟩) (Or.inl ⟨?w139, ?y139⟩) ?r139
      case h139 => (simp only [List.getElem?_toArray, List.getElem?_cons_succ, List.getElem?_cons_zero]; rfl)
      case q139 => exact fun _ _ _ h => h
      case w139 => rfl
      case y139 =>
        intro wS hSw
        obtain ⟨hSb, hSw, hSx⟩ := hSw
        clear hSx
        go_simp
        (try (with_reducible rfl))
      try simp only [Act.put, List.setIfInBounds_toArray, List.set_cons_zero, List.set_cons_succ]
      refine wpL_done (by kernel_rfl) ?_ _
      go_wp2_with fail
      go_meet
      exact ⟨rfl, _, px, py, a0 + 2, b0 + 1, T2, g2, rfl, HS10, HK10, by rw [HRU.out]; exact HV10, HC10, HGR, hpx, hpy, by omega, by omega⟩
  case rest =>
  obtain ⟨rfl, pk, px, py, cc, rr, T2, g2, rfl, HS9, HK9, HV9, HC9, HGR, hpx, hpy, hcc, hrr⟩ := hcut
  obtain ⟨w9, rfl⟩ : ∃ w9, w9 = wc := ⟨wc, rfl⟩
  go_wp2_with fail
  refine (runes_any HS9.out.gm).mono ?_
  rintro e w10 ⟨vb, rfl, b10, o10⟩
  have HS10 := Lib.hid (HS9.out.below b10)
  have HK10 := Lib.hid (blk_below HK9.out b10 (heap_lt HK9.out))
  have HV10 := Lib.hid (ownC_below HV9.out b10)
  have HC10 := Lib.hid (blk_below HC9.out b10 (heap_lt HC9.out))
  have HU10 := Lib.hid (ownC_mono o10 (Nat.zero_le _))
  have HLN := Lib.hid (show (runesR (g2.old ++ g2.rows)).length ≤ 1000000 from runesR_lim HS9.out.gm.wf)
  clear b10 o10 HS9 HK9 HV9 HC9
  go_wp2_with fail
  refine (sameRunes_any _ _ va vb w10 HV10.out HU10.out HLN.out HLN.out rfl).mono ?_
  rintro e w11 ⟨rfl, b11⟩
  have HS11 := Lib.hid (HS10.out.below b11)
  have HK11 := Lib.hid (blk_below HK10.out b11 (heap_lt HK10.out))
  have HC11 := Lib.hid (blk_below HC10.out b11 (heap_lt HC10.out))
  clear b11 HS10 HK10 HC10 HV10 HU10
  have x0 : w11.cell? ⟨pk, 0, none⟩ = some (.int .i64 px) := blk_cell HK11.out 0
  have x1 : w11.cell? ⟨pk, 1, none⟩ = some (.int .i64 py) := blk_cell HK11.out 1
  have d1 : decide ((px : Int) < 0) = false := decide_eq_false (by omega)
  have d2 : decide ((py : Int) < 0) = false := decide_eq_false (by omega)
  have d3 : decide ((cc : Int) ≤ (px : Int)) = false := decide_eq_false (by omega)
  have d3' : decide (cc ≤ px) = false := decide_eq_false (by omega)
  have d4 : decide ((rr : Int) ≤ (py : Int)) = false := decide_eq_false (by omega)
  have d4' : decide (rr ≤ py) = false := decide_eq_false (by omega)
  go_upto_region 32 with fail
  go_region_held3 (fun w' => w'.cell? ⟨pk, 0, none⟩ = some (.int .i64 px) ∧ w'.cell? ⟨pk, 1, none⟩ = some (.int .i64 py)) (go_keep)
    (first
      | (go_at_call 9; refine (cols_any (HS11.out.below (Below.refl w11.heap.size w11).drew).gm).mono ?_; rintro e wx1 ⟨rfl, hx1⟩; subst hx1; rw [HGR.out.2.1])
      | (go_at_call 10; refine (rowsN_any (HS11.out.below (Below.refl w11.heap.size w11).drew).gm).mono ?_; rintro e wx1 ⟨rfl, hx1⟩; subst hx1; rw [HGR.out.2.2]))
  have hDr := (Below.refl w11.heap.size w11).drew
  have HS12 := Lib.hid (HS11.out.below hDr)
  have HK12 := Lib.hid (blk_below HK11.out hDr (heap_lt HK11.out))
  have HC12 := Lib.hid (blk_below HC11.out hDr (heap_lt HC11.out))
  clear hDr HS11 HK11 HC11 x0 x1
  generalize w11.drew = w12 at *
  go_upto_region 34 with fail
  have hcq := fun (wx : World) => eql_cel ⟨cr, cw, ⟨cf, cb, ca⟩⟩ ⟨cr, cw, ⟨cf, cb, ca⟩⟩ wx
  have hgq := fun (x y : Operand) (wx : World) => guard_cel .eql x y ⟨cr, cw, ⟨cf, cb, ca⟩⟩ ⟨cr, cw, ⟨cf, cb, ca⟩⟩ wx
  rw [show Cel.eqb ⟨cr, cw, ⟨cf, cb, ca⟩⟩ ⟨cr, cw, ⟨cf, cb, ca⟩⟩ = true from (Cel.eqb_iff _ _).2 rfl] at hcq
  unfold Cel.val at hcq hgq
  dsimp only at hcq hgq
  have x0 : w12.cell? ⟨pk, 0, none⟩ = some (.int .i64 px) := blk_cell HK12.out 0
  have x1 : w12.cell? ⟨pk, 1, none⟩ = some (.int .i64 py) := blk_cell HK12.out 1
  have z0 : w12.cell? ⟨pc, 0, none⟩ = some (.int .i32 cr) := blk_cell HC12.out 0
  have z1 : w12.cell? ⟨pc, 1, none⟩ = some (.int .i64 cw) := blk_cell HC12.out 1
  have z2 : w12.cell? ⟨pc, 2, none⟩ = some (.int .i64 cf) := blk_cell HC12.out 2
  have z3 : w12.cell? ⟨pc, 3, none⟩ = some (.int .i64 cb) := blk_cell HC12.out 3
  have z4 : w12.cell? ⟨pc, 4, none⟩ = some (.int .i64 ca) := blk_cell HC12.out 4
  go_region_held3 (fun w' => w'.cell? ⟨pc, 0, none⟩ = some (.int .i32 cr) ∧ w'.cell? ⟨pc, 1, none⟩ = some (.int .i64 cw) ∧ w'.cell? ⟨pc, 2, none⟩ = some (.int .i64 cf) ∧ w'.cell? ⟨pc, 3, none⟩ = some (.int .i64 cb) ∧ w'.cell? ⟨pc, 4, none⟩ = some (.int .i64 ca) ∧ w'.cell? ⟨pk, 0, none⟩ = some (.int .i64 px) ∧ w'.cell? ⟨pk, 1, none⟩ = some (.int .i64 py)) (go_keep)
    (first
      | (go_at_call 18; refine (cell_any (HS12.out.below (Below.refl w12.heap.size w12).drew).gm px py).mono ?_; rintro e w13 ⟨rfl, b13⟩; rw [HGR.out.1]; unfold Cel.val; dsimp only; have HB13 := Lib.hid (show Below w12.heap.size w12 w13 from (Below.refl w12.heap.size w12).drew.trans b13); have z0' : w13.cell? ⟨pc, 0, none⟩ = some (.int .i32 cr) := cell_below HB13.out z0; have z1' : w13.cell? ⟨pc, 1, none⟩ = some (.int .i64 cw) := cell_below HB13.out z1; have z2' : w13.cell? ⟨pc, 2, none⟩ = some (.int .i64 cf) := cell_below HB13.out z2; have z3' : w13.cell? ⟨pc, 3, none⟩ = some (.int .i64 cb) := cell_below HB13.out z3; have z4' : w13.cell? ⟨pc, 4, none⟩ = some (.int .i64 ca) := cell_below HB13.out z4; have x0' : w13.cell? ⟨pk, 0, none⟩ = some (.int .i64 px) := cell_below HB13.out x0; have x1' : w13.cell? ⟨pk, 1, none⟩ = some (.int .i64 py) := cell_below HB13.out x1; clear b13))
  go_wp2_with fail
  exact ret1v rfl rfl rfl ⟨rfl, HS12.out.b.trans (HB13.out.mono HS12.out.b.size)⟩
end Go.Proofs.YtjclgoiclbkgjaaDoor
