/- Package grid, texts laid together: G27 G28 Q5 I1. -/
import Derived.Test.YtjclgoiclbkgjaaDoorK12
import Derived.Deep.CutBlock
import Derived.Test.YtjclgoiclbkgjaaDoorK10
/- What the laws of package grid call: filled. -/
namespace Go.Proofs.YtjclgoiclbkgjaaDoor
open Go.RowKit
attribute [local go_sem ↓] Go.wp_at_zero Go.wp_at_succ

/-- A slice whose elements, of one cell each, hold these values. -/
def IsVals (w : World) (v : Value) (l : List Value) : Prop :=
  (v = .slice none 0 0 ∧ l = []) ∨ ∃ (a : Addr) (c : Nat), v = .slice (some a) l.length c ∧ l.length ≤ c ∧ c ≤ 9223372036854775807 ∧ ∀ j, j < l.length → w.cell? (a.add j) = some (l.getD j undef)
theorem idx_gen {P : Program} {t e : TypeId} (ht : P.underlying t = some (.slice e)) (hs : (P.info? e).map (·.size) = some 1) (a : Addr) (n c j : Nat) (hj : j < n) (wx : World) :
    (Instr.indexAt t (.slice (some a) n c) (.int .i64 j)).run P wx = .ok (.pointer (some (a.add j))) wx := by
  obtain ⟨i, hi, hi2⟩ := Option.map_eq_some_iff.1 hs
  have hj' : (0 : Int) ≤ (j : Int) ∧ (j : Int) < (n : Int) := by omega
  simp [Instr.indexAt, asIntOf, run_underlying ht, hj', sizeOf, typeInfo, hi, hi2]
  omega
theorem cell_within {G : Nat → Prop} {w w2 : World} (h : Within G w w2) {b o : Nat} {v : Value} (hc : w.cell? ⟨b, o, none⟩ = some v) (hn : ¬ G b) : w2.cell? ⟨b, o, none⟩ = some v := by
  have e := h.block b (cell_lt hc) hn
  unfold World.cell? at hc ⊢
  dsimp only at hc ⊢
  rw [e]; exact hc
def Dim (g : Gr) (c r l : Nat) : Prop := g.cols = c ∧ g.rows.length = r ∧ g.limit = l
theorem Dim.up {g : Gr} {c r l : Nat} (h : Dim g c r l) (t b n : Int) (s : Sty) (k : Bool) : Dim (g.up t b n s k) c r l := by
  unfold Gr.up
  split
  · exact h
  · rename_i h0
    refine ⟨h.1, ?_, h.2.2⟩
    have hr : regionN g t b n s ≠ 0 := h0
    unfold regionN at hr
    by_cases hc : t < 0 ∨ b < t ∨ (g.rows.length : Int) ≤ b ∨ okS s = false
    · rw [if_pos hc] at hr; exact absurd rfl hr
    · rw [if_neg hc] at hr
      have hn : regionN g t b n s = (max 0 (min n (b - t + 1))).toNat := by unfold regionN; rw [if_neg hc]
      show (upRows g.rows t.toNat b.toNat (regionN g t b n s) g.cols s).length = r
      rw [up_len (by omega) (by omega) (by rw [hn]; omega)]
      exact h.2.1
theorem Dim.down {g : Gr} {c r l : Nat} (h : Dim g c r l) (t b n : Int) (s : Sty) : Dim (g.down t b n s) c r l := by
  unfold Gr.down
  split
  · exact h
  · rename_i h0
    refine ⟨h.1, ?_, h.2.2⟩
    have hr : regionN g t b n s ≠ 0 := h0
    unfold regionN at hr
    by_cases hc : t < 0 ∨ b < t ∨ (g.rows.length : Int) ≤ b ∨ okS s = false
    · rw [if_pos hc] at hr; exact absurd rfl hr
    · rw [if_neg hc] at hr
      have hn : regionN g t b n s = (max 0 (min n (b - t + 1))).toNat := by unfold regionN; rw [if_neg hc]
      show (downRows g.rows t.toNat b.toNat (regionN g t b n s) g.cols s).length = r
      rw [down_len (by omega) (by omega) (by rw [hn]; omega)]
      exact h.2.1
theorem Dim.put {g : Gr} {c r l : Nat} (h : Dim g c r l) (x y : Int) (q : Cel) : Dim (g.put x y q) c r l := by
  unfold Gr.put
  split
  · refine ⟨h.1, ?_, h.2.2⟩
    unfold Gr.turn
    show (g.rows.set _ _).length = r
    rw [List.length_set]; exact h.2.1
  · exact h
theorem Dim.setWrap {g : Gr} {c r l : Nat} (h : Dim g c r l) (y : Int) (is : Bool) : Dim (g.setWrap y is) c r l := by
  unfold Gr.setWrap
  split
  · refine ⟨h.1, ?_, h.2.2⟩
    show (g.rows.set _ _).length = r
    rw [List.length_set]; exact h.2.1
  · exact h
theorem Dim.new (c r l : Nat) : Dim (newG c r l) c r l := ⟨rfl, by show (freshL r c plainS).length = r; unfold freshL; rw [List.length_replicate], rfl⟩
/-- What New, Up and Put keep. -/
structure Kept (I : Nat → Nat → Nat → Gr → Prop) : Prop where
  new : ∀ c r l, 1 ≤ c → I c r l (newG c r l)
  up : ∀ c r l g b, Dim g c r l → I c r l g → I c r l (g.up 0 b 1 plainS true)
  put : ∀ c r l g x y q, Dim g c r l → I c r l g → I c r l (g.put x y q)
set_option maxRecDepth 100000 in
set_option maxHeartbeats 4000000 in
theorem filled_inv (I : Nat → Nat → Nat → Gr → Prop) (K : Kept I) (cols rows hist : Int) (h1 : -9223372036854775808 ≤ cols ∧ cols ≤ 9223372036854775807) (h2 : -9223372036854775808 ≤ rows ∧ rows ≤ 9223372036854775807) (h3 : -9223372036854775808 ≤ hist ∧ hist ≤ 9223372036854775807)
    (tv wv : Value) (texts : List ByteArray) (wraps : List Bool) (w : World) (ht : IsVals w tv (texts.map Value.string)) (hw : IsVals w wv (wraps.map Value.bool)) (hs : ∀ s ∈ texts, s.size ≤ 1000000000) (hln : texts.length ≤ 1000000000) (hlw : wraps.length ≤ 1000000000) (hiw : wraps = [] ∨ ∀ c r l g y b, I c r l g → I c r l (g.setWrap y b)) :
    Calls Tryd.prog 8 #[.int .i64 cols, .int .i64 rows, .int .i64 hist, tv, wv] w fun e w' => ∃ q, e = .returned (.pointer (some ⟨q, 0, none⟩)) ∧ ∃ T g c r l, Sh w T q w' g ∧ (Dim g c r l ∧ I c r l g) ∧ (1 ≤ c ∧ c ≤ 20) ∧ (1 ≤ r ∧ r ≤ 12) ∧ l < 40 ∧ (hist = 0 → l = 0) := by
  have htl : ∀ ty wx, (Builtin.len_ #[22] ty #[tv]).run Tryd.prog wx = .ok (.int .i64 texts.length) wx := fun ty wx => by
    rcases ht with ⟨rfl, e⟩ | ⟨a, c, rfl, _⟩
    · have : texts = [] := by simpa using e
      subst this
      simp [Builtin.len_]
      go_simp
    · rw [List.length_map]
      go_simp
  have hwl : ∀ ty wx, (Builtin.len_ #[23] ty #[wv]).run Tryd.prog wx = .ok (.int .i64 wraps.length) wx := fun ty wx => by
    rcases hw with ⟨rfl, e⟩ | ⟨a, c, rfl, _⟩
    · have : wraps = [] := by simpa using e
      subst this
      go_simp
    · rw [List.length_map]
      go_simp
  have HTV := Lib.hid ht
  have HWV := Lib.hid hw
  have HSS := Lib.hid hs
  have HIW := Lib.hid hiw
  have HK := Lib.hid K
  clear ht hw hs hiw K
  go_enter Tryd.func8, Tryd.ntmps8
  go_wp2_with fail
  refine (pick_any cols 20 w h1.1 h1.2 (by decide) (by decide)).mono ?_
  rintro e wx1 ⟨c0, rfl, hc0, _, hx1⟩
  subst wx1
  obtain ⟨c, hc⟩ : ∃ c : Nat, c0 + 1 = c := ⟨_, rfl⟩
  have hwc : IntKind.i64.wrap (1 + (c0 : Int)) = (c : Int) := by rw [wrap64_id _ (by omega) (by omega)]; omega
  go_wp2_with fail
  refine (pick_any rows 12 w h2.1 h2.2 (by decide) (by decide)).mono ?_
  rintro e wx1 ⟨r0, rfl, hr0, _, hx1⟩
  subst wx1
  obtain ⟨r, hr⟩ : ∃ r : Nat, r0 + 1 = r := ⟨_, rfl⟩
  have hwr : IntKind.i64.wrap (1 + (r0 : Int)) = (r : Int) := by rw [wrap64_id _ (by omega) (by omega)]; omega
  go_wp2_with fail
  refine (pick_any hist 40 w h3.1 h3.2 (by decide) (by decide)).mono ?_
  rintro e wx1 ⟨l, rfl, hl, hl0, hx1⟩
  subst wx1
  have HL0 := Lib.hid hl0
  clear hl0
  go_wp2_with fail
  refine (newGrid_any c r l w (by omega) (by omega) (by omega) (by omega) (by omega)).mono ?_
  rintro e w1 ⟨q, T0, rfl, b1, g1, n1⟩
  have HS1 := Lib.hid (show Sh w T0 q w1 (newG c r l) from ⟨b1, g1, n1⟩)
  have HCR := Lib.hid (show (1 ≤ c ∧ c ≤ 20) ∧ (1 ≤ r ∧ r ≤ 12) from by omega)
  have hr12 : 1 ≤ r ∧ r ≤ 12 := by omega
  clear b1 g1 n1 hwc hwr hc hr
  go_upto_region 5 with fail
  go_loopw [13] (fun iv wr => ∃ (k : Nat) (T : Nat → Nat) (g : Gr), k ≤ texts.length ∧ iv = .int .i64 k ∧ Hid (Sh w T q wr g) ∧ Hid (Dim g c r l ∧ I c r l g)) (fun iv _ => texts.length - (intOf iv).toNat)
  case atStart => exact ⟨0, T0, _, Nat.zero_le _, rfl, HS1, ⟨Dim.new c r l, HK.out.new c r l HCR.out.1.1⟩⟩
  case round =>
    obtain ⟨k, T, g, hk, rfl, HS, HD⟩ := hrel
    obtain ⟨wo, rfl⟩ : ∃ wo, wo = wr := ⟨wr, rfl⟩
    by_cases hlt : k < texts.length ∧ k < 60
    · obtain ⟨hlt, h60⟩ := hlt
      have d1 : decide ((k : Int) < (texts.length : Int)) = true := decide_eq_true (by omega)
      have d1' : decide (k < texts.length) = true := decide_eq_true hlt
      have d2 : decide ((k : Int) < 60) = true := decide_eq_true (by omega)
      have d2' : decide (k < 60) = true := decide_eq_true h60
      have hwy : IntKind.i64.wrap ((r : Int) - 1) = (r : Int) - 1 := wrap64_id _ (by omega) (by omega)
      go_wp2_with fail
      refine (rowsN_any HS.out.gm).mono ?_
      rintro e wx1 ⟨rfl, hx1⟩
      subst wx1
      rw [HD.out.1.2.1]
      go_wp2_with fail
      refine (refPlain_any wo).mono ?_
      rintro e w2 ⟨rfl, b2⟩
      have HS2 := Lib.hid (HS.out.below b2)
      clear b2
      go_wp2_with fail
      refine (up_any HS2.out.gm 0 ((r : Int) - 1) 1 plainS right_plain true).mono ?_
      rintro e w3 ⟨rfl, hw3, T2, g3, n3⟩
      have HS3 := Lib.hid (HS2.out.turn hw3 g3 n3)
      have HD3 := Lib.hid (show Dim (g.up 0 ((r : Int) - 1) 1 plainS true) c r l ∧ I c r l (g.up 0 ((r : Int) - 1) 1 plainS true) from ⟨HD.out.1.up 0 ((r : Int) - 1) 1 plainS true, HK.out.up c r l g _ HD.out.1 HD.out.2⟩)
      clear hw3 g3 n3
      generalize g.up 0 ((r : Int) - 1) 1 plainS true = g2 at *
      have hst : ∃ (a : Addr) (tc : Nat), tv = .slice (some a) texts.length tc ∧ w.cell? (a.add k) = some (.string (texts.getD k ByteArray.empty)) := by
        rcases HTV.out with ⟨_, e⟩ | ⟨a, tc, e, _, _, hcc⟩
        · have : texts = [] := by simpa using e
          rw [this] at hlt
          exact absurd hlt (by simp)
        · rw [List.length_map] at e hcc
          refine ⟨a, tc, e, ?_⟩
          rw [hcc k hlt, List.getD_eq_getElem?_getD, List.getElem?_map, List.getD_eq_getElem?_getD, List.getElem?_eq_getElem hlt]
          rfl
      obtain ⟨ta, tc, htv, hcell⟩ := hst
      subst htv
      have x0 := cell_below HS3.out.b hcell
      have hix := idx_gen (P := Tryd.prog) Tryd.underlying22 (by kernel_rfl) ta texts.length tc k hlt
      have hss := HSS.out (texts.getD k ByteArray.empty) (by
        rw [List.getD_eq_getElem?_getD, List.getElem?_eq_getElem hlt]
        exact List.getElem_mem _)
      obtain ⟨rl, w5, cc, hcv, b5, h5, hc5, hr5, hl5⟩ := conv_runes (texts.getD k ByteArray.empty) hss w3
      have HS5 := Lib.hid (HS3.out.below b5)
      have HR5 := Lib.hid hr5
      have HC5 := Lib.hid hc5
      have hl5b : rl.length ≤ 1000000000 := by omega
      have HT5 := Lib.hid (show T2 w3.heap.size = 0 from by
        by_cases h0 : T2 w3.heap.size = 0
        · exact h0
        · have := HS3.out.gm.lt _ h0; omega)
      clear hr5 hc5 b5 hcell
      generalize texts.getD k ByteArray.empty = str at *
      generalize hrb : w3.heap.size = rb at *
      clear hrb
      go_upto_block 2 with fail
      clear x0 hix hcv
      go_cut [] (fun wz => ∃ g5, Hid (Sh w T2 q wz g5) ∧ Hid (Dim g5 c r l ∧ I c r l g5))
      case first =>
        go_upto_region 12 with fail
        go_loopw [15, 17] (fun xv iv wi => ∃ (m x : Nat) (g5 : Gr), m ≤ rl.length ∧ iv = .int .i64 m ∧ xv = .int .i64 x ∧ (x ≤ 2 * m ∧ rb < wi.heap.size) ∧ Hid (Sh w T2 q wi g5) ∧ Hid (Dim g5 c r l ∧ I c r l g5) ∧ Hid (∀ j, j < rl.length → wi.cell? ⟨rb, j, none⟩ = some (.int .i32 (rl.getD j 0)))) (fun _ iv _ => rl.length - (intOf iv).toNat)
        case atStart => exact ⟨0, 0, g2, Nat.zero_le _, rfl, rfl, ⟨Nat.le_refl _, h5⟩, HS5, HD3, HC5⟩
        case round =>
          obtain ⟨m, x, g5, hm, rfl, rfl, ⟨hx, hrb⟩, HSi, HDi, HCi⟩ := hrel
          obtain ⟨wi, rfl⟩ : ∃ wi, wi = wr := ⟨wr, rfl⟩
          by_cases hml : m < rl.length ∧ m < 60
          · obtain ⟨hml, hm60⟩ := hml
            have d3 : decide ((m : Int) < (rl.length : Int)) = true := decide_eq_true (by omega)
            have d3' : decide (m < rl.length) = true := decide_eq_true hml
            have d4 : decide ((m : Int) < 60) = true := decide_eq_true (by omega)
            have d4' : decide (m < 60) = true := decide_eq_true hm60
            have hxc := HCi.out m hml
            have hxr := HR5.out (rl.getD m 0) (by
              rw [List.getD_eq_getElem?_getD, List.getElem?_eq_getElem hml]
              exact List.getElem_mem _)
            generalize rl.getD m 0 = rv at *
            have hix := idx_at (P := Tryd.prog) (size := 1) Tryd.underlying35 (by kernel_rfl) rb 0 rl.length cc m hml
            rw [Nat.zero_add, Nat.mul_one] at hix
            have hw6 : IntKind.i64.wrap ((m : Int) + 1) = (m : Int) + 1 := wrap64_id _ (by omega) (by omega)
            go_upto_region 15 with fail
            go_cut [80] (fun vv wx => (∃ f, vv = .bool f) ∧ wx = wi)
            case first =>
              by_cases hg1 : 12352 < rv
              · have e1 : decide (12352 < rv) = true := decide_eq_true hg1
                go_wp2_with fail
                go_meet
                exact ⟨⟨_, rfl⟩, rfl⟩
              · have e1 : decide (12352 < rv) = false := decide_eq_false hg1
                go_wp2_with fail
                go_meet
                exact ⟨⟨_, rfl⟩, rfl⟩
            case rest =>
            obtain ⟨⟨f, rfl⟩, rfl⟩ := hcut
            go_upto_if 80 with fail
            go_cut [18] (fun vv wx => (∃ wd : Nat, vv = .int .i64 wd ∧ wd ≤ 2) ∧ wx = wc)
            case first =>
              cases f
              · go_wp2_with fail
                go_meet
                exact ⟨⟨1, rfl, by decide⟩, rfl⟩
              · go_wp2_with fail
                go_meet
                exact ⟨⟨2, rfl, by decide⟩, rfl⟩
            case rest =>
            obtain ⟨⟨wd, rfl, hwd⟩, rfl⟩ := hcut
            obtain ⟨wi, rfl⟩ : ∃ wi, wi = wc := ⟨wc, rfl⟩
            have hw7 : IntKind.i64.wrap ((x : Int) + (wd : Int)) = ((x + wd : Nat) : Int) := by rw [wrap64_id _ (by omega) (by omega)]; omega
            go_wp2_with fail
            refine (letter_any rv wd wi).mono ?_
            rintro e w6 ⟨rfl, b6⟩
            have HS6 := Lib.hid (HSi.out.below b6)
            have HC6 := Lib.hid (show ∀ j, j < rl.length → w6.cell? ⟨rb, j, none⟩ = some (.int .i32 (rl.getD j 0)) from fun j hj => cell_below b6 (HCi.out j hj))
            have hb6 := b6.size
            clear b6 hxc
            go_wp2_with fail
            refine (put_any HS6.out.gm x ((r : Int) - 1) ⟨rv, wd, plainS⟩ right_plain ⟨by show (-2147483648 : Int) ≤ rv; omega, by show rv ≤ 2147483647; omega⟩).mono ?_
            rintro e w7 ⟨rfl, hw7', h7⟩
            have HS7 := Lib.hid (HS6.out.put hw7' h7)
            have HC7 := Lib.hid (show ∀ j, j < rl.length → w7.cell? ⟨rb, j, none⟩ = some (.int .i32 (rl.getD j 0)) from fun j hj => cell_within hw7' (HC6.out j hj) (fun e => by
              rcases e with e | e
              · exact e HT5.out
              · omega))
            have hb7 := hw7'.size
            have HD7 := Lib.hid (show Dim (g5.put x ((r : Int) - 1) ⟨rv, wd, plainS⟩) c r l ∧ I c r l (g5.put x ((r : Int) - 1) ⟨rv, wd, plainS⟩) from ⟨HDi.out.1.put x ((r : Int) - 1) ⟨rv, wd, plainS⟩, HK.out.put c r l g5 _ _ _ HDi.out.1 HDi.out.2⟩)
            clear hw7' h7
            go_wp2_with fail
            go_roundw
            case rel => exact ⟨m + 1, x + wd, _, by omega, by go_num, by go_num, ⟨by omega, by omega⟩, HS7, HD7, HC7⟩
            case measure => simp [intOf]; omega
          · by_cases hml2 : m < rl.length
            · have d3 : decide ((m : Int) < (rl.length : Int)) = true := decide_eq_true (by omega)
              have d3' : decide (m < rl.length) = true := decide_eq_true hml2
              have d4 : decide ((m : Int) < 60) = false := decide_eq_false (fun e => hml ⟨hml2, by omega⟩)
              have d4' : decide (m < 60) = false := decide_eq_false (fun e => hml ⟨hml2, e⟩)
              go_wp2_with fail
              go_meet
              exact ⟨g5, HSi, HDi⟩
            · have d3 : decide ((m : Int) < (rl.length : Int)) = false := decide_eq_false (by omega)
              have d3' : decide (m < rl.length) = false := decide_eq_false hml2
              go_wp2_with fail
              go_meet
              exact ⟨g5, HSi, HDi⟩
      case rest =>
      obtain ⟨g5, HS6, HD6⟩ := hcut
      obtain ⟨w6, rfl⟩ : ∃ w6, w6 = wc := ⟨wc, rfl⟩
      have hw6 : IntKind.i64.wrap ((k : Int) + 1) = (k : Int) + 1 := wrap64_id _ (by omega) (by omega)
      by_cases hkw : k < wraps.length
      · have d5 : decide ((k : Int) < (wraps.length : Int)) = true := decide_eq_true (by omega)
        have d5' : decide (k < wraps.length) = true := decide_eq_true hkw
        have hst : ∃ (a : Addr) (tc : Nat), wv = .slice (some a) wraps.length tc ∧ w.cell? (a.add k) = some (.bool (wraps.getD k false)) := by
          rcases HWV.out with ⟨_, e⟩ | ⟨a, tc, e, _, _, hcc⟩
          · have : wraps = [] := by simpa using e
            rw [this] at hkw
            exact absurd hkw (by simp)
          · rw [List.length_map] at e hcc
            refine ⟨a, tc, e, ?_⟩
            rw [hcc k hkw, List.getD_eq_getElem?_getD, List.getElem?_map, List.getD_eq_getElem?_getD, List.getElem?_eq_getElem hkw]
            rfl
        obtain ⟨va, vc, hwv, hcell⟩ := hst
        subst hwv
        have x0 := cell_below HS6.out.b hcell
        have hix := idx_gen (P := Tryd.prog) Tryd.underlying23 (by kernel_rfl) va wraps.length vc k hkw
        generalize wraps.getD k false = wb at *
        go_wp2_with fail
        refine (wrap_any HS6.out.gm ((r : Int) - 1) wb).mono ?_
        rintro e w8 ⟨rfl, hw8, h8⟩
        have HS8 := Lib.hid (HS6.out.put hw8 h8)
        have HD8 := Lib.hid (show Dim (g5.setWrap ((r : Int) - 1) wb) c r l ∧ I c r l (g5.setWrap ((r : Int) - 1) wb) from ⟨HD6.out.1.setWrap ((r : Int) - 1) wb, by
          rcases HIW.out with e | e
          · rw [e] at hkw
            exact absurd hkw (by simp)
          · exact e c r l g5 _ _ HD6.out.2⟩)
        clear hw8 h8 x0 hix
        go_wp2_with fail
        go_roundw
        case rel => exact ⟨k + 1, T2, _, by omega, by go_num, HS8, HD8⟩
        case measure => simp [intOf]; omega
      · have d5 : decide ((k : Int) < (wraps.length : Int)) = false := decide_eq_false (by omega)
        have d5' : decide (k < wraps.length) = false := decide_eq_false hkw
        go_wp2_with fail
        go_roundw
        case rel => exact ⟨k + 1, T2, g5, by omega, by go_num, HS6, HD6⟩
        case measure => simp [intOf]; omega
    · have hfin : ∃ T g c r l, Sh w T q wo g ∧ (Dim g c r l ∧ I c r l g) ∧ (1 ≤ c ∧ c ≤ 20) ∧ (1 ≤ r ∧ r ≤ 12) ∧ l < 40 ∧ (hist = 0 → l = 0) := ⟨T, g, c, r, l, HS.out, HD.out, HCR.out.1, HCR.out.2, hl, HL0.out⟩
      have HFIN := Lib.hid hfin
      clear hfin
      by_cases hlt2 : k < texts.length
      · have d1 : decide ((k : Int) < (texts.length : Int)) = true := decide_eq_true (by omega)
        have d1' : decide (k < texts.length) = true := decide_eq_true hlt2
        have d2 : decide ((k : Int) < 60) = false := decide_eq_false (fun e => hlt ⟨hlt2, by omega⟩)
        have d2' : decide (k < 60) = false := decide_eq_false (fun e => hlt ⟨hlt2, e⟩)
        go_wp2_with fail
        exact ret1v rfl rfl rfl ⟨q, rfl, HFIN.out⟩
      · have d1 : decide ((k : Int) < (texts.length : Int)) = false := decide_eq_false (by omega)
        have d1' : decide (k < texts.length) = false := decide_eq_false hlt2
        go_wp2_with fail
        exact ret1v rfl rfl rfl ⟨q, rfl, HFIN.out⟩
theorem filled_any (cols rows hist : Int) (h1 : -9223372036854775808 ≤ cols ∧ cols ≤ 9223372036854775807) (h2 : -9223372036854775808 ≤ rows ∧ rows ≤ 9223372036854775807) (h3 : -9223372036854775808 ≤ hist ∧ hist ≤ 9223372036854775807)
    (tv wv : Value) (texts : List ByteArray) (wraps : List Bool) (w : World) (ht : IsVals w tv (texts.map Value.string)) (hw : IsVals w wv (wraps.map Value.bool)) (hs : ∀ s ∈ texts, s.size ≤ 1000000000) (hln : texts.length ≤ 1000000000) (hlw : wraps.length ≤ 1000000000) :
    Calls Tryd.prog 8 #[.int .i64 cols, .int .i64 rows, .int .i64 hist, tv, wv] w fun e w' => ∃ q, e = .returned (.pointer (some ⟨q, 0, none⟩)) ∧ ∃ T g c r l, Sh w T q w' g ∧ Dim g c r l ∧ (1 ≤ c ∧ c ≤ 20) ∧ (1 ≤ r ∧ r ≤ 12) ∧ l < 40 ∧ (hist = 0 → l = 0) := by
  refine (filled_inv (fun _ _ _ _ => True) ⟨fun _ _ _ _ => trivial, fun _ _ _ _ _ _ _ => trivial, fun _ _ _ _ _ _ _ _ _ => trivial⟩ cols rows hist h1 h2 h3 tv wv texts wraps w ht hw hs hln hlw (.inr fun _ _ _ _ _ _ _ => trivial)).mono ?_
  rintro e w' ⟨q, he, T, g, c, r, l, a, b, d⟩
  exact ⟨q, he, T, g, c, r, l, a, b.1, d⟩
end Go.Proofs.YtjclgoiclbkgjaaDoor

/- What the laws of package grid call: sameCells. -/
namespace Go.Proofs.YtjclgoiclbkgjaaDoor
open Go.RowKit
attribute [local go_sem ↓] Go.wp_at_zero Go.wp_at_succ

theorem take_same {la lb : List Cel} (k : Nat) (ha : k < la.length) (hb : k < lb.length) (h : la.take k = lb.take k) (e : la.getD k noC = lb.getD k noC) : la.take (k + 1) = lb.take (k + 1) := by
  rw [take_succ_getD la noC k ha, take_succ_getD lb noC k hb, h, e]
set_option maxRecDepth 100000 in
set_option maxHeartbeats 2000000 in
theorem sameCells_any (la lb : List Cel) (va vb : Value) (w : World) (ha : OwnC w 0 5 va la.length (cvals la)) (hb : OwnC w 0 5 vb lb.length (cvals lb)) (hl : la.length ≤ 1000000) (hl2 : lb.length ≤ 1000000) :
    Calls Tryd.prog 24 #[va, vb] w fun e w' => ∃ bv : Bool, e = .returned (.bool bv) ∧ (bv = true ↔ la = lb) ∧ Below w.heap.size w w' := by
  have HA := Lib.hid ha
  have HB := Lib.hid hb
  have ha0 := ownC_ln Tryd.underlying51 ha
  have hb0 := ownC_ln Tryd.underlying51 hb
  clear ha hb
  by_cases hne : la.length = lb.length
  rotate_left
  · have t1 : ((la.length : Int) != (lb.length : Int)) = true := by simp [bne, beq_eq_false_iff_ne.2 (show ¬ (la.length : Int) = (lb.length : Int) by omega)]
    have t2 : (la.length != lb.length) = true := by simp [bne, beq_eq_false_iff_ne.2 hne]
    have HN := Lib.hid (show ¬ la = lb from fun e => hne (by rw [e]))
    have HNE := Lib.hid hne
    clear hne
    go_enter Tryd.func24, Tryd.ntmps24
    have t3 : decide ((la.length : Int) = (lb.length : Int)) = false := decide_eq_false (by have := HNE.out; omega)
    have t4 : decide (la.length = lb.length) = false := decide_eq_false HNE.out
    go_wp2_with fail
    exact ret1v rfl rfl rfl ⟨false, rfl, ⟨fun e => (by cases e), fun e => absurd e HN.out⟩, Below.refl _ _⟩
  · have HNE := Lib.hid hne
    rw [← hne] at hb0
    clear hne
    go_enter Tryd.func24, Tryd.ntmps24
    go_upto_region 4 with fail
    go_loopw [5] (fun iv wr => ∃ k : Nat, k ≤ la.length ∧ iv = .int .i64 k ∧ Hid (Below w.heap.size w wr) ∧ Hid (la.take k = lb.take k)) (fun iv _ => la.length - (intOf iv).toNat)
    case atStart => exact ⟨0, Nat.zero_le _, rfl, Below.refl _ _, by simp [Hid]⟩
    case round =>
      obtain ⟨k, hk, rfl, HW, HT⟩ := hrel
      by_cases hlt : k < la.length
      · have d1 : decide ((k : Int) < (la.length : Int)) = true := decide_eq_true (by omega)
        have d1' : decide (k < la.length) = true := decide_eq_true hlt
        have hlb : k < lb.length := by have := HNE.out; omega
        have oa := ownC_below HA.out HW.out
        have ob := ownC_below HB.out HW.out
        obtain ⟨ba, fa, ca, e1, _, _⟩ := ownC_pos oa (by omega)
        obtain ⟨bb, fb, cb, e2, _, _⟩ := ownC_pos ob (by omega)
        subst e1 e2
        obtain ⟨p0, p1, p2, p3, p4⟩ := ownC_cel oa k (by omega) rfl
        obtain ⟨q0, q1, q2, q3, q4⟩ := ownC_cel ob k (by omega) rfl
        have hix1 := idx_at (P := Tryd.prog) (size := 5) Tryd.underlying51 cell_info ba fa la.length ca k hlt
        have hix2 := idx_at (P := Tryd.prog) (size := 5) Tryd.underlying51 cell_info bb fb lb.length cb k hlb
        have HTS := Lib.hid (fun e => take_same k hlt hlb HT.out e)
        have HGA := Lib.hid (show la.getD k noC = lb.getD k noC ∨ ¬ la = lb from by
          by_cases e : la = lb
          · exact .inl (by rw [e])
          · exact .inr e)
        have hneq := fun (wx : World) => neq_cel (la.getD k noC) (lb.getD k noC) wx
        have hgd := fun (x y : Operand) (wx : World) => guard_cel .neq x y (la.getD k noC) (lb.getD k noC) wx
        have hw6 : IntKind.i64.wrap ((k : Int) + 1) = (k : Int) + 1 := wrap64_id _ (by omega) (by omega)
        clear oa ob
        generalize la.getD k noC = xa at *
        generalize lb.getD k noC = xb at *
        obtain ⟨ar, aw, ⟨af, ag, at'⟩⟩ := xa
        obtain ⟨br, bw, ⟨bf, bg, bt⟩⟩ := xb
        unfold Cel.val at hneq hgd
        dsimp only at p0 p1 p2 p3 p4 q0 q1 q2 q3 q4 hneq hgd
        have HEQ := Lib.hid (Cel.eqb_iff ⟨ar, aw, ⟨af, ag, at'⟩⟩ ⟨br, bw, ⟨bf, bg, bt⟩⟩)
        generalize hbv : Cel.eqb ⟨ar, aw, ⟨af, ag, at'⟩⟩ ⟨br, bw, ⟨bf, bg, bt⟩⟩ = bv at *
        clear hbv
        go_upto_region 6 with fail
        go_region_held3 (fun w' => w'.cell? ⟨ba, fa + k * 5, none⟩ = some (.int .i32 ar) ∧ w'.cell? ⟨ba, fa + k * 5 + 1, none⟩ = some (.int .i64 aw) ∧ w'.cell? ⟨ba, fa + k * 5 + 2, none⟩ = some (.int .i64 af) ∧ w'.cell? ⟨ba, fa + k * 5 + 3, none⟩ = some (.int .i64 ag) ∧ w'.cell? ⟨ba, fa + k * 5 + 4, none⟩ = some (.int .i64 at') ∧
          w'.cell? ⟨bb, fb + k * 5, none⟩ = some (.int .i32 br) ∧ w'.cell? ⟨bb, fb + k * 5 + 1, none⟩ = some (.int .i64 bw) ∧ w'.cell? ⟨bb, fb + k * 5 + 2, none⟩ = some (.int .i64 bf) ∧ w'.cell? ⟨bb, fb + k * 5 + 3, none⟩ = some (.int .i64 bg) ∧ w'.cell? ⟨bb, fb + k * 5 + 4, none⟩ = some (.int .i64 bt)) (go_keep) (fail)
        clear p0 p1 p2 p3 p4 q0 q1 q2 q3 q4
        cases bv
        · go_wp2_with fail
          refine ret1v rfl rfl rfl ⟨false, rfl, ⟨fun e => (by cases e), fun e => ?_⟩, HW.out.drew⟩
          rcases HGA.out with h1 | h1
          · have h2 := HEQ.out.2 h1
            cases h2
          · exact absurd e h1
        · go_wp2_with fail
          go_roundw
          case rel => exact ⟨k + 1, by omega, by go_num, HW.out.drew, HTS.out (HEQ.out.1 rfl)⟩
          case measure => simp [intOf]; omega
      · have d1 : decide ((k : Int) < (la.length : Int)) = false := decide_eq_false (by omega)
        have d1' : decide (k < la.length) = false := decide_eq_false hlt
        have HEQ := Lib.hid (show la = lb from by
          have h1 := HT.out
          rw [List.take_of_length_le (by omega), List.take_of_length_le (by have := HNE.out; omega)] at h1
          exact h1)
        go_wp2_with fail
        exact ret1v rfl rfl rfl ⟨true, rfl, ⟨fun _ => HEQ.out, fun _ => rfl⟩, HW.out⟩
end Go.Proofs.YtjclgoiclbkgjaaDoor

/- What a reflow keeps: the runes, in their order. -/
namespace Go.Proofs.YtjclgoiclbkgjaaDoor
open Go.RowKit

/-- The runes of cells, but blanks and paddings. -/
def runesL (l : List Cel) : List Int := (l.filter fun c => decide (0 < c.width) && !(c.rune == 32)).map (·.rune)
def runesR (l : List Rw) : List Int := l.flatMap fun r => runesL r.cells
theorem runesL_append (a b : List Cel) : runesL (a ++ b) = runesL a ++ runesL b := by simp [runesL]
theorem runesR_append (a b : List Rw) : runesR (a ++ b) = runesR a ++ runesR b := by simp [runesR]
theorem runesR_one (r : Rw) : runesR [r] = runesL r.cells := by simp [runesR]
theorem runesL_blank (s : Sty) : runesL [blankC s] = [] := rfl
theorem runesL_blanks (n : Nat) (s : Sty) : runesL (List.replicate n (blankC s)) = [] := by
  induction n with
  | zero => rfl
  | succ n ih => rw [List.replicate_succ, show blankC s :: List.replicate n (blankC s) = [blankC s] ++ List.replicate n (blankC s) from rfl, runesL_append, ih, runesL_blank]; rfl
theorem spLay_runes (cols : Nat) (mark : Int) (st : Sp) (i : Nat) (c : Cel) : runesR (spLay cols mark st i c).done ++ runesL (spLay cols mark st i c).cur = runesR st.done ++ runesL st.cur ++ runesL [c] := by
  unfold spLay
  have h1 : runesL (if c.width = 2 ∧ st.cur.length = cols - 1 then st.cur ++ [blankC plainS] else st.cur) = runesL st.cur := by
    split
    · rw [runesL_append, runesL_blank, List.append_nil]
    · rfl
  generalize (if c.width = 2 ∧ st.cur.length = cols - 1 then st.cur ++ [blankC plainS] else st.cur) = cur1 at *
  dsimp only
  by_cases hf : cur1.length = cols
  · rw [if_pos hf, if_pos hf, runesR_append, runesR_one, runesL_append, h1]
    show _ ++ runesL st.cur ++ ([] ++ runesL [c]) = _
    rw [List.nil_append]
  · rw [if_neg hf, if_neg hf, runesL_append, h1, List.append_assoc]
theorem spStep_runes {cols : Nat} (h : 2 ≤ cols) (mark : Int) (st : Sp) (i : Nat) (c : Cel) : runesR (spStep cols mark st i c).done ++ runesL (spStep cols mark st i c).cur = runesR st.done ++ runesL st.cur ++ runesL [c] := by
  unfold spStep
  rw [if_neg (fun e => by omega)]
  exact spLay_runes cols mark st i c
theorem spRun_runes {cols : Nat} (h : 2 ≤ cols) (mark : Int) (l : List Cel) : ∀ (st : Sp) (i : Nat), runesR (spRun cols mark st i l).done ++ runesL (spRun cols mark st i l).cur = runesR st.done ++ runesL st.cur ++ runesL l := by
  induction l with
  | nil => intro st i; show runesR st.done ++ runesL st.cur = _ ++ []; rw [List.append_nil]
  | cons c l ih =>
    intro st i
    show runesR (spRun cols mark (spStep cols mark st i c) (i + 1) l).done ++ runesL (spRun cols mark (spStep cols mark st i c) (i + 1) l).cur = _
    rw [ih, spStep_runes h, show c :: l = [c] ++ l from rfl, runesL_append, ← List.append_assoc]
theorem spEnd_runes {cols : Nat} (h : 2 ≤ cols) (l : List Cel) (mark : Int) : runesR (spEnd cols (splitG l cols mark)) = runesL l := by
  unfold spEnd
  rw [runesR_append, runesR_one]
  show _ ++ runesL ((splitG l cols mark).cur ++ List.replicate _ _) = _
  rw [runesL_append, runesL_blanks, List.append_nil]
  have := spRun_runes h mark l ⟨[], [], none⟩ 0
  exact this
theorem plain_runes {c : Cel} (h : isPlain c = true) : runesL [c] = [] := by
  have h1 : (c.rune == 32) = true := by
    unfold isPlain at h
    exact (Bool.and_eq_true _ _ ▸ h).1
  unfold runesL
  rw [List.filter_cons, h1]
  simp
theorem take_lastC (l : List Cel) (h : l ≠ []) : l = l.take (l.length - 1) ++ [l.getD (l.length - 1) noC] := by
  have hp : 0 < l.length := List.length_pos_iff.2 h
  have := take_succ_getD l noC (l.length - 1) (by omega)
  rw [show l.length - 1 + 1 = l.length by omega, List.take_length] at this
  exact this
theorem trimF_runes (n : Nat) (l : List Cel) (mark : Int) : runesL (trimF n l mark) = runesL l := by
  induction n generalizing l with
  | zero => rfl
  | succ n ih =>
    unfold trimF
    split
    · rename_i hc
      rw [ih]
      have h1 := take_lastC l hc.2.1
      have h2 := congrArg runesL h1
      rw [runesL_append, plain_runes hc.2.2, List.append_nil] at h2
      exact h2.symm
    · rfl
theorem wrapLast_runes (l : List Rw) (is : Bool) : runesR (wrapLast l is) = runesR l := by
  rcases List.eq_nil_or_concat l with h | ⟨d, r, h⟩
  · rw [h]; rfl
  · rw [h, List.concat_eq_append]
    unfold wrapLast
    have e1 : (d ++ [r]).length - 1 = d.length := by simp
    rw [e1, List.set_append_right _ _ (Nat.le_refl _), Nat.sub_self, List.getD_eq_getElem?_getD, List.getElem?_append_right (Nat.le_refl _), Nat.sub_self, runesR_append, runesR_append]
    rfl
theorem flEnd_runes {cols : Nat} (h : 2 ≤ cols) (line : List Cel) (mark : Int) (wrap : Bool) (st : Fl) : runesR (flEnd cols line mark wrap st).out = runesR st.out ++ runesL line := by
  show runesR (st.out ++ wrapLast (spEnd cols (splitG (trimM line mark) cols mark)) wrap) = _
  rw [runesR_append, wrapLast_runes, spEnd_runes h]
  unfold trimM
  rw [trimF_runes]
theorem flRun_runes {cols : Nat} (h : 2 ≤ cols) (place atx : Int) (l : List Rw) : ∀ (i : Nat) (line : List Cel) (mark : Int) (st : Fl), (l ≠ [] ∨ line = []) → runesR (flRun cols place atx l i line mark st).out = runesR st.out ++ runesL line ++ runesR l := by
  induction l with
  | nil =>
    intro i line mark st hl
    have : line = [] := by
      rcases hl with h | h
      · exact absurd rfl h
      · exact h
    subst this
    show runesR st.out = _ ++ [] ++ []
    rw [List.append_nil, List.append_nil]
  | cons r l ih =>
    intro i line mark st _
    have hr : runesR (r :: l) = runesL r.cells ++ runesR l := rfl
    show runesR (if _ then _ else _ : Fl).out = _
    by_cases hc : r.wrap = false ∨ l = []
    · simp only [if_pos hc]
      rw [ih (i + 1) [] (-1) _ (.inr rfl), flEnd_runes h, runesL_append, hr]
      show _ ++ (_ ++ _) ++ [] ++ _ = _
      simp only [List.append_assoc, List.nil_append]
    · simp only [if_neg hc]
      rw [ih (i + 1) _ _ st (.inl (fun e => hc (.inr e))), runesL_append, hr]
      simp only [List.append_assoc]
end Go.Proofs.YtjclgoiclbkgjaaDoor

/- The law GridFlows, plain: a reflow keeps all runes, and tells where the last place's cell lies. -/
namespace Go.Proofs.YtjclgoiclbkgjaaDoor
open Go.RowKit

theorem spRun_snocI (cols : Nat) (mark : Int) (l : List Cel) (c : Cel) : ∀ (st : Sp) (i : Nat), spRun cols mark st i (l ++ [c]) = spStep cols mark (spRun cols mark st i l) (i + l.length) c := by
  induction l with
  | nil => intro st i; rfl
  | cons d l ih =>
    intro st i
    show spRun cols mark (spStep cols mark st i d) (i + 1) (l ++ [c]) = spStep cols mark (spRun cols mark (spStep cols mark st i d) (i + 1) l) _ c
    rw [ih, List.length_cons, show i + 1 + l.length = i + (l.length + 1) by omega]
theorem split_last {cols : Nat} (h : 2 ≤ cols) (l : List Cel) (c : Cel) : ∃ d u, splitG (l ++ [c]) cols (l.length : Int) = ⟨d, u ++ [c], some ((u.length : Int), (d.length : Int))⟩ := by
  unfold splitG
  rw [spRun_snocI, Nat.zero_add]
  unfold spStep
  rw [if_neg (fun e => by omega)]
  unfold spLay
  dsimp only
  rw [if_pos rfl]
  exact ⟨_, _, rfl⟩
theorem wrapLast_snocI (d : List Rw) (r : Rw) (is : Bool) : wrapLast (d ++ [r]) is = d ++ [{ r with wrap := is }] := by
  unfold wrapLast
  have e1 : (d ++ [r]).length - 1 = d.length := by simp
  rw [e1, List.set_append_right _ _ (Nat.le_refl _), Nat.sub_self, List.getD_eq_getElem?_getD, List.getElem?_append_right (Nat.le_refl _), Nat.sub_self]
  rfl
theorem trimM_all (l : List Cel) (c : Cel) : trimM (l ++ [c]) (l.length : Int) = l ++ [c] := by
  rw [trimM_step, if_neg (fun e => by
    have := e.1
    rw [List.length_append] at this
    simp at this)]
theorem flEnd_last {cols : Nat} (h : 2 ≤ cols) (l : List Cel) (c : Cel) (wrap : Bool) (st : Fl) :
    ∃ pre u b, flEnd cols (l ++ [c]) (l.length : Int) wrap st = ⟨pre ++ [⟨u ++ c :: b, wrap⟩], (u.length : Int), (pre.length : Int)⟩ := by
  obtain ⟨d, u, e⟩ := split_last h l c
  refine ⟨st.out ++ d, u, List.replicate (cols - (u ++ [c]).length) (blankC plainS), ?_⟩
  unfold flEnd
  rw [trimM_all, e]
  dsimp only
  unfold spEnd
  dsimp only
  rw [wrapLast_snocI, List.length_append, ← List.append_assoc]
  congr 1
  · simp
  · rw [List.length_append]; omega
theorem flRun_last {cols : Nat} (h : 2 ≤ cols) (pre : List Rw) (r : Rw) (m : List Cel) (c : Cel) (hr : r.cells = m ++ [c]) : ∀ (i : Nat) (line : List Cel) (mark : Int) (st : Fl),
    ∃ pre' u b wr, flRun cols ((i + pre.length : Nat) : Int) (m.length : Int) (pre ++ [r]) i line mark st = ⟨pre' ++ [⟨u ++ c :: b, wr⟩], (u.length : Int), (pre'.length : Int)⟩ := by
  induction pre with
  | nil =>
    intro i line mark st
    have e0 : flRun cols ((i + ([] : List Rw).length : Nat) : Int) (m.length : Int) ([] ++ [r]) i line mark st = flEnd cols (line ++ r.cells) (if (i : Int) = ((i + ([] : List Rw).length : Nat) : Int) then (line.length : Int) + (m.length : Int) else mark) r.wrap st := by
      show flRun cols ((i + ([] : List Rw).length : Nat) : Int) (m.length : Int) (r :: []) i line mark st = _
      unfold flRun
      dsimp only
      rw [if_pos (.inr rfl)]
      rfl
    rw [e0, if_pos (by simp), hr, ← List.append_assoc, show (line.length : Int) + (m.length : Int) = ((line ++ m).length : Int) by simp]
    obtain ⟨p, u, b, e⟩ := flEnd_last h (line ++ m) c r.wrap st
    exact ⟨p, u, b, _, e⟩
  | cons x pre ih =>
    intro i line mark st
    have hne : ¬ ((i : Int) = ((i + (x :: pre).length : Nat) : Int)) := by rw [List.length_cons]; omega
    have hi : i + (x :: pre).length = i + 1 + pre.length := by rw [List.length_cons]; omega
    rw [hi]
    have e0 : ∀ pl : Int, flRun cols pl (m.length : Int) (x :: pre ++ [r]) i line mark st =
        if x.wrap = false ∨ pre ++ [r] = [] then flRun cols pl (m.length : Int) (pre ++ [r]) (i + 1) [] (-1) (flEnd cols (line ++ x.cells) (if (i : Int) = pl then (line.length : Int) + (m.length : Int) else mark) x.wrap st)
        else flRun cols pl (m.length : Int) (pre ++ [r]) (i + 1) (line ++ x.cells) (if (i : Int) = pl then (line.length : Int) + (m.length : Int) else mark) st := fun pl => rfl
    rw [e0]
    split
    · exact ih (i + 1) _ _ _
    · exact ih (i + 1) _ _ _
/-- How many rows a reflow makes. -/
def sizeR (l : List Rw) : Nat := (l.map fun r => r.cells.length + 1).sum
theorem flRun_len {cols m : Nat} {place atx : Int} (h1 : 1 ≤ cols) (l : List Rw) (hl : ∀ r ∈ l, r.Good m) : ∀ (i : Nat) (line : List Cel) (mark : Int) (st : Fl), FlI cols st → (∀ c ∈ line, c.Ok) →
    (flRun cols place atx l i line mark st).out.length ≤ st.out.length + line.length + sizeR l := by
  induction l with
  | nil =>
    intro i line mark st _ _
    show st.out.length ≤ _
    omega
  | cons r l ih =>
    intro i line mark st h ho
    have hr := hl r (List.mem_cons_self ..)
    have ho2 : ∀ c ∈ line ++ r.cells, c.Ok := fun c hc => by
      rcases List.mem_append.1 hc with hc | hc
      · exact ho c hc
      · exact hr.2 c hc
    have ih2 := ih (fun x hx => hl x (List.mem_cons_of_mem _ hx))
    have hs : sizeR (r :: l) = r.cells.length + 1 + sizeR l := by unfold sizeR; simp
    rw [hs]
    show (if _ then _ else _ : Fl).out.length ≤ _
    split
    · obtain ⟨a, b, _, _⟩ := flEnd_i h (line ++ r.cells) (if (i : Int) = place then (line.length : Int) + atx else mark) r.wrap ho2 h1
      have := ih2 (i + 1) [] (-1) _ a (by simp)
      rw [List.length_append] at b
      rw [List.length_nil] at this
      omega
    · have := ih2 (i + 1) (line ++ r.cells) (if (i : Int) = place then (line.length : Int) + atx else mark) st h ho2
      rw [List.length_append] at this
      omega
theorem sizeR_le (m : Nat) (l : List Rw) (hl : ∀ r ∈ l, r.Good m) : sizeR l = l.length * (m + 1) := by
  induction l with
  | nil => simp [sizeR]
  | cons r l ih =>
    have hs : sizeR (r :: l) = r.cells.length + 1 + sizeR l := by unfold sizeR; simp
    rw [hs, ih (fun x hx => hl x (List.mem_cons_of_mem _ hx)), (hl r (List.mem_cons_self ..)).1, List.length_cons, Nat.add_mul]
    omega
theorem freshL_runes (n cols : Nat) (s : Sty) : runesR (freshL n cols s) = [] := by
  unfold freshL
  induction n with
  | zero => rfl
  | succ n ih =>
    rw [List.replicate_succ]
    show runesL (List.replicate cols (blankC s)) ++ runesR (List.replicate n _) = []
    rw [ih, runesL_blanks]; rfl
theorem trimR_none (l : List Rw) : ∀ n, trimR n l ((l.length : Int) - 1) = l
  | 0 => rfl
  | n + 1 => by
    unfold trimR
    rw [if_neg (fun e => by have := e.1; omega)]
theorem snoc_of {α : Type} (l : List α) (h : l ≠ []) : ∃ p x, l = p ++ [x] := by
  rcases List.eq_nil_or_concat l with e | ⟨p, x, e⟩
  · exact absurd e h
  · exact ⟨p, x, by rw [e, List.concat_eq_append]⟩
/-- All of the law's plain half. -/
theorem flow_all (g : Gr) (hw : g.WF) (c n : Nat) (hc : g.cols = c) (hn : g.rows.length = n) (hl : g.limit = 2000) (ho : g.old.length ≤ 20) (hc2 : c ≤ 20) (hn2 : n ≤ 12) (cols rows : Nat) (h2 : 2 ≤ cols) (h3 : cols ≤ 250) (h4 : 1 ≤ rows) :
    ∃ (g2 : Gr) (px py : Nat), g.resize cols rows ((c : Int) - 1) ((n : Int) - 1) true = (g2, (px : Int), (py : Int)) ∧ runesR (g2.old ++ g2.rows) = runesR (g.old ++ g.rows) ∧ g2.cell px py = g.cell ((c : Int) - 1) ((n : Int) - 1) ∧ px < cols ∧ py < rows ∧ g2.cols = cols ∧ g2.rows.length = rows := by
  have hgood : ∀ r ∈ g.old ++ g.rows, r.Good c := fun r hr => by
    have := hw.ce r (List.mem_append.2 (List.mem_append.1 hr).symm)
    rw [hc] at this
    exact this
  have hn1 : 1 ≤ n := by have := hw.r1; omega
  have hc1 : 1 ≤ c := by have := hw.c1; omega
  obtain ⟨rp, r, er⟩ := snoc_of g.rows (fun e => by rw [e] at hn; simp at hn; omega)
  have hrm : r ∈ g.old ++ g.rows := by rw [er]; simp
  obtain ⟨m, cl, em⟩ := snoc_of r.cells (fun e => by have := (hgood r hrm).1; rw [e] at this; simp at this; omega)
  have hml : m.length + 1 = c := by have := (hgood r hrm).1; rw [em] at this; simpa using this
  have hrl : rp.length + 1 = n := by rw [← hn, er]; simp
  have hcell : g.cell ((c : Int) - 1) ((n : Int) - 1) = cl := by
    have e1 : g.row ((n : Int) - 1) = r := by
      unfold Gr.row
      rw [if_pos (by omega), show ((n : Int) - 1).toNat = rp.length by omega, er, List.getD_eq_getElem?_getD, List.getElem?_append_right (Nat.le_refl _), Nat.sub_self]; rfl
    unfold Gr.cell
    rw [e1, em, if_pos (by simp; omega), show ((c : Int) - 1).toNat = m.length by omega, List.getD_eq_getElem?_getD, List.getElem?_append_right (Nat.le_refl _), Nat.sub_self]; rfl
  have hin1 : into ((c : Int) - 1) ((g.cols : Int) - 1) = (m.length : Int) := by unfold into; rw [hc]; omega
  have hin2 : into ((n : Int) - 1) ((g.rows.length : Int) - 1) = (rp.length : Int) := by unfold into; rw [hn]; omega
  have hfi : FlI cols (⟨[], 0, 0⟩ : Fl) := ⟨by simp, by simp, by simp⟩
  have hrun := flRun_last h2 (g.old ++ rp) r m cl em 0 [] (-1) ⟨[], 0, 0⟩
  rw [Nat.zero_add, List.append_assoc, ← er] at hrun
  have hplace : (((g.old ++ rp).length : Nat) : Int) = (g.old.length : Int) + (rp.length : Int) := by simp
  rw [hplace] at hrun
  have hruns := flRun_runes h2 ((g.old.length : Int) + (rp.length : Int)) (m.length : Int) (g.old ++ g.rows) 0 [] (-1) ⟨[], 0, 0⟩ (.inr rfl)
  have hlen := flRun_len (cols := cols) (place := (g.old.length : Int) + (rp.length : Int)) (atx := (m.length : Int)) (by omega) (g.old ++ g.rows) hgood 0 [] (-1) ⟨[], 0, 0⟩ hfi (by simp)
  have hinv := (flRun_i (cols := cols) (place := (g.old.length : Int) + (rp.length : Int)) (atx := (m.length : Int)) (by omega) c (g.old ++ g.rows) hgood 0 [] (-1) ⟨[], 0, 0⟩ hfi (by simp)).1
  rw [sizeR_le c _ hgood] at hlen
  obtain ⟨pre, u, b, wr, hrun⟩ := hrun
  rw [hrun] at hruns hlen hinv
  dsimp only at hruns hlen hinv
  have hout : (pre ++ [(⟨u ++ cl :: b, wr⟩ : Rw)]).length = pre.length + 1 := by simp
  have hpl : pre.length + 1 ≤ 2000 := by
    rw [hout] at hlen
    simp only [List.length_nil, List.length_append, hn] at hlen
    have h6 : (g.old.length + n) * (c + 1) ≤ 32 * 21 := Nat.mul_le_mul (by omega) (by omega)
    omega
  have hlast := hinv.good ⟨u ++ cl :: b, wr⟩ (by simp)
  have hu : u.length < cols := by
    have := hlast.1
    simp only [List.length_append, List.length_cons] at this
    omega
  obtain ⟨fs, hfs⟩ : ∃ fs : Nat, fs = pre.length + 1 - rows := ⟨_, rfl⟩
  have hfirst : (min (max 0 (((pre ++ [(⟨u ++ cl :: b, wr⟩ : Rw)]).length : Int) - rows)) (pre.length : Int)).toNat = fs := by rw [hout]; omega
  have htr : trimR (pre ++ [(⟨u ++ cl :: b, wr⟩ : Rw)]).length (pre ++ [(⟨u ++ cl :: b, wr⟩ : Rw)]) (pre.length : Int) = pre ++ [(⟨u ++ cl :: b, wr⟩ : Rw)] := by
    have := trimR_none (pre ++ [(⟨u ++ cl :: b, wr⟩ : Rw)]) (pre ++ [(⟨u ++ cl :: b, wr⟩ : Rw)]).length
    rw [show ((pre ++ [(⟨u ++ cl :: b, wr⟩ : Rw)]).length : Int) - 1 = (pre.length : Int) by rw [hout]; omega] at this
    exact this
  have hflow : g.resize cols rows ((c : Int) - 1) ((n : Int) - 1) true = (⟨cols, g.limit, ((pre ++ [(⟨u ++ cl :: b, wr⟩ : Rw)]).drop fs).take rows ++ freshL (rows - (((pre ++ [(⟨u ++ cl :: b, wr⟩ : Rw)]).drop fs).take rows).length) cols plainS, keepL g.limit ((pre ++ [(⟨u ++ cl :: b, wr⟩ : Rw)]).take fs)⟩, (u.length : Int), (pre.length : Int) - (fs : Int)) := by
    unfold Gr.resize
    rw [if_pos rfl, hin1, hin2]
    unfold Gr.flow
    rw [hrun]
    dsimp only
    rw [htr, hfirst]
  have hdl : ((pre ++ [(⟨u ++ cl :: b, wr⟩ : Rw)]).drop fs).length ≤ rows := by rw [List.length_drop, hout]; omega
  rw [List.take_of_length_le hdl] at hflow
  have hkeep : keepL g.limit ((pre ++ [(⟨u ++ cl :: b, wr⟩ : Rw)]).take fs) = (pre ++ [(⟨u ++ cl :: b, wr⟩ : Rw)]).take fs := by
    unfold keepL
    rw [List.length_take, hl, show min fs (pre ++ [(⟨u ++ cl :: b, wr⟩ : Rw)]).length - 2000 = 0 by rw [hout]; omega, List.drop_zero]
  rw [hkeep] at hflow
  have hfp : fs ≤ pre.length := by omega
  refine ⟨_, u.length, pre.length - fs, by rw [hflow, show ((pre.length - fs : Nat) : Int) = (pre.length : Int) - (fs : Int) by omega], ?_, ?_, hu, by omega, rfl, ?_⟩
  · show runesR ((pre ++ [(⟨u ++ cl :: b, wr⟩ : Rw)]).take fs ++ ((pre ++ [(⟨u ++ cl :: b, wr⟩ : Rw)]).drop fs ++ freshL _ cols plainS)) = _
    rw [← List.append_assoc, List.take_append_drop, runesR_append, freshL_runes, List.append_nil, hruns]
    show [] ++ [] ++ _ = _
    simp
  · rw [hcell]
    have hdrop : (pre ++ [(⟨u ++ cl :: b, wr⟩ : Rw)]).drop fs = pre.drop fs ++ [(⟨u ++ cl :: b, wr⟩ : Rw)] := by rw [List.drop_append_of_le_length hfp]
    rw [hdrop] at *
    have hdl2 : (pre.drop fs).length = pre.length - fs := List.length_drop
    generalize hq : freshL (rows - (pre.drop fs ++ [(⟨u ++ cl :: b, wr⟩ : Rw)]).length) cols plainS = fr
    have e1 : Gr.row (⟨cols, g.limit, pre.drop fs ++ [(⟨u ++ cl :: b, wr⟩ : Rw)] ++ fr, (pre ++ [(⟨u ++ cl :: b, wr⟩ : Rw)]).take fs⟩ : Gr) ((pre.length - fs : Nat) : Int) = ⟨u ++ cl :: b, wr⟩ := by
      unfold Gr.row
      dsimp only
      rw [if_pos (by rw [List.length_append, List.length_append, hdl2, List.length_singleton]; omega), Int.toNat_natCast, List.append_assoc, List.getD_eq_getElem?_getD, List.getElem?_append_right (by rw [hdl2]; exact Nat.le_refl _), hdl2, Nat.sub_self]; rfl
    unfold Gr.cell
    rw [e1]
    dsimp only
    rw [if_pos (by simp; omega), Int.toNat_natCast, List.getD_eq_getElem?_getD, List.getElem?_append_right (Nat.le_refl _), Nat.sub_self]; rfl
  · show ((pre ++ [(⟨u ++ cl :: b, wr⟩ : Rw)]).drop fs ++ freshL _ cols plainS).length = rows
    unfold freshL
    rw [List.length_append, List.length_replicate]; omega
/-- A row by its number among all. -/
theorem row_all (g : Gr) (k : Nat) (hk : k < g.old.length + g.rows.length) : g.row ((k : Int) - (g.old.length : Int)) = (g.old ++ g.rows).getD k noR := by
  unfold Gr.row
  by_cases h : k < g.old.length
  · rw [if_neg (by omega), if_pos (by omega), List.getD_eq_getElem?_getD (l := g.old ++ g.rows), List.getElem?_append_left h, show ((g.old.length : Int) + ((k : Int) - (g.old.length : Int))).toNat = k by omega, List.getD_eq_getElem?_getD]
  · rw [if_pos (by omega), List.getD_eq_getElem?_getD (l := g.old ++ g.rows), List.getElem?_append_right (by omega), show ((k : Int) - (g.old.length : Int)).toNat = k - g.old.length by omega, List.getD_eq_getElem?_getD]
end Go.Proofs.YtjclgoiclbkgjaaDoor
