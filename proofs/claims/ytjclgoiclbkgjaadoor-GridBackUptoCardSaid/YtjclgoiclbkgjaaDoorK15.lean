/- Package grid, texts laid together: G27 G28 J3. -/
import Derived.Test.YtjclgoiclbkgjaaDoorK14
import Derived.Deep.CutBlock
import Derived.Laws.EntriesVeiled
/- What the laws of package grid call: filled. -/
namespace Go.Proofs.YtjclgoiclbkgjaaDoor
open Go.RowKit
attribute [local go_sem ↓] Go.wp_at_zero Go.wp_at_succ

/-- A slice whose elements, of one cell each, hold these values. -/
def IsVals (w : World) (v : Value) (l : List Value) : Prop :=
  (v = .slice none 0 0 ∧ l = []) ∨ ∃ (a : Addr) (c : Nat), v = .slice (some a) l.length c ∧ l.length ≤ c ∧ c ≤ 9223372036854775807 ∧ ∀ j, j < l.length → w.cell? (a.add j) = some (l.getD j undef)
theorem idx_gen {P : Program} {t e : TypeId} (ht : P.underlying t = some (.slice e)) (hs : (P.info? e).map (·.size) = some 1) (a : Addr) (n c j : Nat) (hj : j < n) (wx : World) :
    (Instr.indexAt t (.slice (some a) n c) (.int .i64 j)).run P wx = .ok (.pointer (some (a.add j))) wx := by
  obtain ⟨i, hi, hi2⟩ := Option.map_eq_some_iff.1 hs
  have hj' : (0 : Int) ≤ (j : Int) ∧ (j : Int) < (n : Int) := by omega
  simp [Instr.indexAt, asIntOf, run_underlying ht, hj', sizeOf, typeInfo, hi, hi2]
  omega
theorem cell_within {G : Nat → Prop} {w w2 : World} (h : Within G w w2) {b o : Nat} {v : Value} (hc : w.cell? ⟨b, o, none⟩ = some v) (hn : ¬ G b) : w2.cell? ⟨b, o, none⟩ = some v := by
  have e := h.block b (cell_lt hc) hn
  unfold World.cell? at hc ⊢
  dsimp only at hc ⊢
  rw [e]; exact hc
def Dim (g : Gr) (c r l : Nat) : Prop := g.cols = c ∧ g.rows.length = r ∧ g.limit = l
theorem Dim.up {g : Gr} {c r l : Nat} (h : Dim g c r l) (t b n : Int) (s : Sty) (k : Bool) : Dim (g.up t b n s k) c r l := by
  unfold Gr.up
  split
  · exact h
  · rename_i h0
    refine ⟨h.1, ?_, h.2.2⟩
    have hr : regionN g t b n s ≠ 0 := h0
    unfold regionN at hr
    by_cases hc : t < 0 ∨ b < t ∨ (g.rows.length : Int) ≤ b ∨ okS s = false
    · rw [if_pos hc] at hr; exact absurd rfl hr
    · rw [if_neg hc] at hr
      have hn : regionN g t b n s = (max 0 (min n (b - t + 1))).toNat := by unfold regionN; rw [if_neg hc]
      show (upRows g.rows t.toNat b.toNat (regionN g t b n s) g.cols s).length = r
      rw [up_len (by omega) (by omega) (by rw [hn]; omega)]
      exact h.2.1
theorem Dim.down {g : Gr} {c r l : Nat} (h : Dim g c r l) (t b n : Int) (s : Sty) : Dim (g.down t b n s) c r l := by
  unfold Gr.down
  split
  · exact h
  · rename_i h0
    refine ⟨h.1, ?_, h.2.2⟩
    have hr : regionN g t b n s ≠ 0 := h0
    unfold regionN at hr
    by_cases hc : t < 0 ∨ b < t ∨ (g.rows.length : Int) ≤ b ∨ okS s = false
    · rw [if_pos hc] at hr; exact absurd rfl hr
    · rw [if_neg hc] at hr
      have hn : regionN g t b n s = (max 0 (min n (b - t + 1))).toNat := by unfold regionN; rw [if_neg hc]
      show (downRows g.rows t.toNat b.toNat (regionN g t b n s) g.cols s).length = r
      rw [down_len (by omega) (by omega) (by rw [hn]; omega)]
      exact h.2.1
theorem Dim.put {g : Gr} {c r l : Nat} (h : Dim g c r l) (x y : Int) (q : Cel) : Dim (g.put x y q) c r l := by
  unfold Gr.put
  split
  · refine ⟨h.1, ?_, h.2.2⟩
    unfold Gr.turn
    show (g.rows.set _ _).length = r
    rw [List.length_set]; exact h.2.1
  · exact h
theorem Dim.setWrap {g : Gr} {c r l : Nat} (h : Dim g c r l) (y : Int) (is : Bool) : Dim (g.setWrap y is) c r l := by
  unfold Gr.setWrap
  split
  · refine ⟨h.1, ?_, h.2.2⟩
    show (g.rows.set _ _).length = r
    rw [List.length_set]; exact h.2.1
  · exact h
theorem Dim.new (c r l : Nat) : Dim (newG c r l) c r l := ⟨rfl, by show (freshL r c plainS).length = r; unfold freshL; rw [List.length_replicate], rfl⟩
/-- What New, Up and Put keep. -/
structure Kept (I : Nat → Nat → Nat → Gr → Prop) : Prop where
  new : ∀ c r l, 1 ≤ c → I c r l (newG c r l)
  up : ∀ c r l g b, Dim g c r l → I c r l g → I c r l (g.up 0 b 1 plainS true)
  put : ∀ c r l g x y q, Dim g c r l → I c r l g → I c r l (g.put x y q)
set_option maxRecDepth 100000 in
set_option maxHeartbeats 4000000 in
theorem filled_inv (I : Nat → Nat → Nat → Gr → Prop) (K : Kept I) (cols rows hist : Int) (h1 : -9223372036854775808 ≤ cols ∧ cols ≤ 9223372036854775807) (h2 : -9223372036854775808 ≤ rows ∧ rows ≤ 9223372036854775807) (h3 : -9223372036854775808 ≤ hist ∧ hist ≤ 9223372036854775807)
    (tv wv : Value) (texts : List ByteArray) (wraps : List Bool) (w : World) (ht : IsVals w tv (texts.map Value.string)) (hw : IsVals w wv (wraps.map Value.bool)) (hs : ∀ s ∈ texts, s.size ≤ 1000000000) (hln : texts.length ≤ 1000000000) (hlw : wraps.length ≤ 1000000000) (hiw : wraps = [] ∨ ∀ c r l g y b, I c r l g → I c r l (g.setWrap y b)) :
    Calls Tryd.prog 8 #[.int .i64 cols, .int .i64 rows, .int .i64 hist, tv, wv] w fun e w' => ∃ q, e = .returned (.pointer (some ⟨q, 0, none⟩)) ∧ ∃ T g c r l, Sh w T q w' g ∧ (Dim g c r l ∧ I c r l g) ∧ (1 ≤ c ∧ c ≤ 20) ∧ (1 ≤ r ∧ r ≤ 12) ∧ l < 40 ∧ (hist = 0 → l = 0) := by
  have htl : ∀ ty wx, (Builtin.len_ #[22] ty #[tv]).run Tryd.prog wx = .ok (.int .i64 texts.length) wx := fun ty wx => by
    rcases ht with ⟨rfl, e⟩ | ⟨a, c, rfl, _⟩
    · have : texts = [] := by simpa using e
      subst this
      simp [Builtin.len_]
      go_simp
    · rw [List.length_map]
      go_simp
  have hwl : ∀ ty wx, (Builtin.len_ #[23] ty #[wv]).run Tryd.prog wx = .ok (.int .i64 wraps.length) wx := fun ty wx => by
    rcases hw with ⟨rfl, e⟩ | ⟨a, c, rfl, _⟩
    · have : wraps = [] := by simpa using e
      subst this
      go_simp
    · rw [List.length_map]
      go_simp
  have HTV := Lib.hid ht
  have HWV := Lib.hid hw
  have HSS := Lib.hid hs
  have HIW := Lib.hid hiw
  have HK := Lib.hid K
  clear ht hw hs hiw K
  go_enter Tryd.func8, Tryd.ntmps8
  go_wp2_with fail
  refine (pick_any cols 20 w h1.1 h1.2 (by decide) (by decide)).mono ?_
  rintro e wx1 ⟨c0, rfl, hc0, _, hx1⟩
  subst wx1
  obtain ⟨c, hc⟩ : ∃ c : Nat, c0 + 1 = c := ⟨_, rfl⟩
  have hwc : IntKind.i64.wrap (1 + (c0 : Int)) = (c : Int) := by rw [wrap64_id _ (by omega) (by omega)]; omega
  go_wp2_with fail
  refine (pick_any rows 12 w h2.1 h2.2 (by decide) (by decide)).mono ?_
  rintro e wx1 ⟨r0, rfl, hr0, _, hx1⟩
  subst wx1
  obtain ⟨r, hr⟩ : ∃ r : Nat, r0 + 1 = r := ⟨_, rfl⟩
  have hwr : IntKind.i64.wrap (1 + (r0 : Int)) = (r : Int) := by rw [wrap64_id _ (by omega) (by omega)]; omega
  go_wp2_with fail
  refine (pick_any hist 40 w h3.1 h3.2 (by decide) (by decide)).mono ?_
  rintro e wx1 ⟨l, rfl, hl, hl0, hx1⟩
  subst wx1
  have HL0 := Lib.hid hl0
  clear hl0
  go_wp2_with fail
  refine (newGrid_any c r l w (by omega) (by omega) (by omega) (by omega) (by omega)).mono ?_
  rintro e w1 ⟨q, T0, rfl, b1, g1, n1⟩
  have HS1 := Lib.hid (show Sh w T0 q w1 (newG c r l) from ⟨b1, g1, n1⟩)
  have HCR := Lib.hid (show (1 ≤ c ∧ c ≤ 20) ∧ (1 ≤ r ∧ r ≤ 12) from by omega)
  have hr12 : 1 ≤ r ∧ r ≤ 12 := by omega
  clear b1 g1 n1 hwc hwr hc hr
  go_upto_region 5 with fail
  go_loopw [13] (fun iv wr => ∃ (k : Nat) (T : Nat → Nat) (g : Gr), k ≤ texts.length ∧ iv = .int .i64 k ∧ Hid (Sh w T q wr g) ∧ Hid (Dim g c r l ∧ I c r l g)) (fun iv _ => texts.length - (intOf iv).toNat)
  case atStart => exact ⟨0, T0, _, Nat.zero_le _, rfl, HS1, ⟨Dim.new c r l, HK.out.new c r l HCR.out.1.1⟩⟩
  case round =>
    obtain ⟨k, T, g, hk, rfl, HS, HD⟩ := hrel
    obtain ⟨wo, rfl⟩ : ∃ wo, wo = wr := ⟨wr, rfl⟩
    by_cases hlt : k < texts.length ∧ k < 60
    · obtain ⟨hlt, h60⟩ := hlt
      have d1 : decide ((k : Int) < (texts.length : Int)) = true := decide_eq_true (by omega)
      have d1' : decide (k < texts.length) = true := decide_eq_true hlt
      have d2 : decide ((k : Int) < 60) = true := decide_eq_true (by omega)
      have d2' : decide (k < 60) = true := decide_eq_true h60
      have hwy : IntKind.i64.wrap ((r : Int) - 1) = (r : Int) - 1 := wrap64_id _ (by omega) (by omega)
      go_wp2_with fail
      refine (rowsN_any HS.out.gm).mono ?_
      rintro e wx1 ⟨rfl, hx1⟩
      subst wx1
      rw [HD.out.1.2.1]
      go_wp2_with fail
      refine (refPlain_any wo).mono ?_
      rintro e w2 ⟨rfl, b2⟩
      have HS2 := Lib.hid (HS.out.below b2)
      clear b2
      go_wp2_with fail
      refine (up_any HS2.out.gm 0 ((r : Int) - 1) 1 plainS right_plain true).mono ?_
      rintro e w3 ⟨rfl, hw3, T2, g3, n3⟩
      have HS3 := Lib.hid (HS2.out.turn hw3 g3 n3)
      have HD3 := Lib.hid (show Dim (g.up 0 ((r : Int) - 1) 1 plainS true) c r l ∧ I c r l (g.up 0 ((r : Int) - 1) 1 plainS true) from ⟨HD.out.1.up 0 ((r : Int) - 1) 1 plainS true, HK.out.up c r l g _ HD.out.1 HD.out.2⟩)
      clear hw3 g3 n3
      generalize g.up 0 ((r : Int) - 1) 1 plainS true = g2 at *
      have hst : ∃ (a : Addr) (tc : Nat), tv = .slice (some a) texts.length tc ∧ w.cell? (a.add k) = some (.string (texts.getD k ByteArray.empty)) := by
        rcases HTV.out with ⟨_, e⟩ | ⟨a, tc, e, _, _, hcc⟩
        · have : texts = [] := by simpa using e
          rw [this] at hlt
          exact absurd hlt (by simp)
        · rw [List.length_map] at e hcc
          refine ⟨a, tc, e, ?_⟩
          rw [hcc k hlt, List.getD_eq_getElem?_getD, List.getElem?_map, List.getD_eq_getElem?_getD, List.getElem?_eq_getElem hlt]
          rfl
      obtain ⟨ta, tc, htv, hcell⟩ := hst
      subst htv
      have x0 := cell_below HS3.out.b hcell
      have hix := idx_gen (P := Tryd.prog) Tryd.underlying22 (by kernel_rfl) ta texts.length tc k hlt
      have hss := HSS.out (texts.getD k ByteArray.empty) (by
        rw [List.getD_eq_getElem?_getD, List.getElem?_eq_getElem hlt]
        exact List.getElem_mem _)
      obtain ⟨rl, w5, cc, hcv, b5, h5, hc5, hr5, hl5⟩ := conv_runes (texts.getD k ByteArray.empty) hss w3
      have HS5 := Lib.hid (HS3.out.below b5)
      have HR5 := Lib.hid hr5
      have HC5 := Lib.hid hc5
      have hl5b : rl.length ≤ 1000000000 := by omega
      have HT5 := Lib.hid (show T2 w3.heap.size = 0 from by
        by_cases h0 : T2 w3.heap.size = 0
        · exact h0
        · have := HS3.out.gm.lt _ h0; omega)
      clear hr5 hc5 b5 hcell
      generalize texts.getD k ByteArray.empty = str at *
      generalize hrb : w3.heap.size = rb at *
      clear hrb
      go_upto_block 2 with fail
      clear x0 hix hcv
      go_cut [] (fun wz => ∃ g5, Hid (Sh w T2 q wz g5) ∧ Hid (Dim g5 c r l ∧ I c r l g5))
      case first =>
        go_upto_region 12 with fail
        go_loopw [15, 17] (fun xv iv wi => ∃ (m x : Nat) (g5 : Gr), m ≤ rl.length ∧ iv = .int .i64 m ∧ xv = .int .i64 x ∧ (x ≤ 2 * m ∧ rb < wi.heap.size) ∧ Hid (Sh w T2 q wi g5) ∧ Hid (Dim g5 c r l ∧ I c r l g5) ∧ Hid (∀ j, j < rl.length → wi.cell? ⟨rb, j, none⟩ = some (.int .i32 (rl.getD j 0)))) (fun _ iv _ => rl.length - (intOf iv).toNat)
        case atStart => exact ⟨0, 0, g2, Nat.zero_le _, rfl, rfl, ⟨Nat.le_refl _, h5⟩, HS5, HD3, HC5⟩
        case round =>
          obtain ⟨m, x, g5, hm, rfl, rfl, ⟨hx, hrb⟩, HSi, HDi, HCi⟩ := hrel
          obtain ⟨wi, rfl⟩ : ∃ wi, wi = wr := ⟨wr, rfl⟩
          by_cases hml : m < rl.length ∧ m < 60
          · obtain ⟨hml, hm60⟩ := hml
            have d3 : decide ((m : Int) < (rl.length : Int)) = true := decide_eq_true (by omega)
            have d3' : decide (m < rl.length) = true := decide_eq_true hml
            have d4 : decide ((m : Int) < 60) = true := decide_eq_true (by omega)
            have d4' : decide (m < 60) = true := decide_eq_true hm60
            have hxc := HCi.out m hml
            have hxr := HR5.out (rl.getD m 0) (by
              rw [List.getD_eq_getElem?_getD, List.getElem?_eq_getElem hml]
              exact List.getElem_mem _)
            generalize rl.getD m 0 = rv at *
            have hix := idx_at (P := Tryd.prog) (size := 1) Tryd.underlying35 (by kernel_rfl) rb 0 rl.length cc m hml
            rw [Nat.zero_add, Nat.mul_one] at hix
            have hw6 : IntKind.i64.wrap ((m : Int) + 1) = (m : Int) + 1 := wrap64_id _ (by omega) (by omega)
            go_upto_region 15 with fail
            go_cut [80] (fun vv wx => (∃ f, vv = .bool f) ∧ wx = wi)
            case first =>
              by_cases hg1 : 12352 < rv
              · have e1 : decide (12352 < rv) = true := decide_eq_true hg1
                go_wp2_with fail
                go_meet
                exact ⟨⟨_, rfl⟩, rfl⟩
              · have e1 : decide (12352 < rv) = false := decide_eq_false hg1
                go_wp2_with fail
                go_meet
                exact ⟨⟨_, rfl⟩, rfl⟩
            case rest =>
            obtain ⟨⟨f, rfl⟩, rfl⟩ := hcut
            go_upto_if 80 with fail
            go_cut [18] (fun vv wx => (∃ wd : Nat, vv = .int .i64 wd ∧ wd ≤ 2) ∧ wx = wc)
            case first =>
              cases f
              · go_wp2_with fail
                go_meet
                exact ⟨⟨1, rfl, by decide⟩, rfl⟩
              · go_wp2_with fail
                go_meet
                exact ⟨⟨2, rfl, by decide⟩, rfl⟩
            case rest =>
            obtain ⟨⟨wd, rfl, hwd⟩, rfl⟩ := hcut
            obtain ⟨wi, rfl⟩ : ∃ wi, wi = wc := ⟨wc, rfl⟩
            have hw7 : IntKind.i64.wrap ((x : Int) + (wd : Int)) = ((x + wd : Nat) : Int) := by rw [wrap64_id _ (by omega) (by omega)]; omega
            go_wp2_with fail
            refine (letter_any rv wd wi).mono ?_
            rintro e w6 ⟨rfl, b6⟩
            have HS6 := Lib.hid (HSi.out.below b6)
            have HC6 := Lib.hid (show ∀ j, j < rl.length → w6.cell? ⟨rb, j, none⟩ = some (.int .i32 (rl.getD j 0)) from fun j hj => cell_below b6 (HCi.out j hj))
            have hb6 := b6.size
            clear b6 hxc
            go_wp2_with fail
            refine (put_any HS6.out.gm x ((r : Int) - 1) ⟨rv, wd, plainS⟩ right_plain ⟨by show (-2147483648 : Int) ≤ rv; omega, by show rv ≤ 2147483647; omega⟩).mono ?_
            rintro e w7 ⟨rfl, hw7', h7⟩
            have HS7 := Lib.hid (HS6.out.put hw7' h7)
            have HC7 := Lib.hid (show ∀ j, j < rl.length → w7.cell? ⟨rb, j, none⟩ = some (.int .i32 (rl.getD j 0)) from fun j hj => cell_within hw7' (HC6.out j hj) (fun e => by
              rcases e with e | e
              · exact e HT5.out
              · omega))
            have hb7 := hw7'.size
            have HD7 := Lib.hid (show Dim (g5.put x ((r : Int) - 1) ⟨rv, wd, plainS⟩) c r l ∧ I c r l (g5.put x ((r : Int) - 1) ⟨rv, wd, plainS⟩) from ⟨HDi.out.1.put x ((r : Int) - 1) ⟨rv, wd, plainS⟩, HK.out.put c r l g5 _ _ _ HDi.out.1 HDi.out.2⟩)
            clear hw7' h7
            go_wp2_with fail
            go_roundw
            case rel => exact ⟨m + 1, x + wd, _, by omega, by go_num, by go_num, ⟨by omega, by omega⟩, HS7, HD7, HC7⟩
            case measure => simp [intOf]; omega
          · by_cases hml2 : m < rl.length
            · have d3 : decide ((m : Int) < (rl.length : Int)) = true := decide_eq_true (by omega)
              have d3' : decide (m < rl.length) = true := decide_eq_true hml2
              have d4 : decide ((m : Int) < 60) = false := decide_eq_false (fun e => hml ⟨hml2, by omega⟩)
              have d4' : decide (m < 60) = false := decide_eq_false (fun e => hml ⟨hml2, e⟩)
              go_wp2_with fail
              go_meet
              exact ⟨g5, HSi, HDi⟩
            · have d3 : decide ((m : Int) < (rl.length : Int)) = false := decide_eq_false (by omega)
              have d3' : decide (m < rl.length) = false := decide_eq_false hml2
              go_wp2_with fail
              go_meet
              exact ⟨g5, HSi, HDi⟩
      case rest =>
      obtain ⟨g5, HS6, HD6⟩ := hcut
      obtain ⟨w6, rfl⟩ : ∃ w6, w6 = wc := ⟨wc, rfl⟩
      have hw6 : IntKind.i64.wrap ((k : Int) + 1) = (k : Int) + 1 := wrap64_id _ (by omega) (by omega)
      by_cases hkw : k < wraps.length
      · have d5 : decide ((k : Int) < (wraps.length : Int)) = true := decide_eq_true (by omega)
        have d5' : decide (k < wraps.length) = true := decide_eq_true hkw
        have hst : ∃ (a : Addr) (tc : Nat), wv = .slice (some a) wraps.length tc ∧ w.cell? (a.add k) = some (.bool (wraps.getD k false)) := by
          rcases HWV.out with ⟨_, e⟩ | ⟨a, tc, e, _, _, hcc⟩
          · have : wraps = [] := by simpa using e
            rw [this] at hkw
            exact absurd hkw (by simp)
          · rw [List.length_map] at e hcc
            refine ⟨a, tc, e, ?_⟩
            rw [hcc k hkw, List.getD_eq_getElem?_getD, List.getElem?_map, List.getD_eq_getElem?_getD, List.getElem?_eq_getElem hkw]
            rfl
        obtain ⟨va, vc, hwv, hcell⟩ := hst
        subst hwv
        have x0 := cell_below HS6.out.b hcell
        have hix := idx_gen (P := Tryd.prog) Tryd.underlying23 (by kernel_rfl) va wraps.length vc k hkw
        generalize wraps.getD k false = wb at *
        go_wp2_with fail
        refine (wrap_any HS6.out.gm ((r : Int) - 1) wb).mono ?_
        rintro e w8 ⟨rfl, hw8, h8⟩
        have HS8 := Lib.hid (HS6.out.put hw8 h8)
        have HD8 := Lib.hid (show Dim (g5.setWrap ((r : Int) - 1) wb) c r l ∧ I c r l (g5.setWrap ((r : Int) - 1) wb) from ⟨HD6.out.1.setWrap ((r : Int) - 1) wb, by
          rcases HIW.out with e | e
          · rw [e] at hkw
            exact absurd hkw (by simp)
          · exact e c r l g5 _ _ HD6.out.2⟩)
        clear hw8 h8 x0 hix
        go_wp2_with fail
        go_roundw
        case rel => exact ⟨k + 1, T2, _, by omega, by go_num, HS8, HD8⟩
        case measure => simp [intOf]; omega
      · have d5 : decide ((k : Int) < (wraps.length : Int)) = false := decide_eq_false (by omega)
        have d5' : decide (k < wraps.length) = false := decide_eq_false hkw
        go_wp2_with fail
        go_roundw
        case rel => exact ⟨k + 1, T2, g5, by omega, by go_num, HS6, HD6⟩
        case measure => simp [intOf]; omega
    · have hfin : ∃ T g c r l, Sh w T q wo g ∧ (Dim g c r l ∧ I c r l g) ∧ (1 ≤ c ∧ c ≤ 20) ∧ (1 ≤ r ∧ r ≤ 12) ∧ l < 40 ∧ (hist = 0 → l = 0) := ⟨T, g, c, r, l, HS.out, HD.out, HCR.out.1, HCR.out.2, hl, HL0.out⟩
      have HFIN := Lib.hid hfin
      clear hfin
      by_cases hlt2 : k < texts.length
      · have d1 : decide ((k : Int) < (texts.length : Int)) = true := decide_eq_true (by omega)
        have d1' : decide (k < texts.length) = true := decide_eq_true hlt2
        have d2 : decide ((k : Int) < 60) = false := decide_eq_false (fun e => hlt ⟨hlt2, by omega⟩)
        have d2' : decide (k < 60) = false := decide_eq_false (fun e => hlt ⟨hlt2, e⟩)
        go_wp2_with fail
        exact ret1v rfl rfl rfl ⟨q, rfl, HFIN.out⟩
      · have d1 : decide ((k : Int) < (texts.length : Int)) = false := decide_eq_false (by omega)
        have d1' : decide (k < texts.length) = false := decide_eq_false hlt2
        go_wp2_with fail
        exact ret1v rfl rfl rfl ⟨q, rfl, HFIN.out⟩
theorem filled_any (cols rows hist : Int) (h1 : -9223372036854775808 ≤ cols ∧ cols ≤ 9223372036854775807) (h2 : -9223372036854775808 ≤ rows ∧ rows ≤ 9223372036854775807) (h3 : -9223372036854775808 ≤ hist ∧ hist ≤ 9223372036854775807)
    (tv wv : Value) (texts : List ByteArray) (wraps : List Bool) (w : World) (ht : IsVals w tv (texts.map Value.string)) (hw : IsVals w wv (wraps.map Value.bool)) (hs : ∀ s ∈ texts, s.size ≤ 1000000000) (hln : texts.length ≤ 1000000000) (hlw : wraps.length ≤ 1000000000) :
    Calls Tryd.prog 8 #[.int .i64 cols, .int .i64 rows, .int .i64 hist, tv, wv] w fun e w' => ∃ q, e = .returned (.pointer (some ⟨q, 0, none⟩)) ∧ ∃ T g c r l, Sh w T q w' g ∧ Dim g c r l ∧ (1 ≤ c ∧ c ≤ 20) ∧ (1 ≤ r ∧ r ≤ 12) ∧ l < 40 ∧ (hist = 0 → l = 0) := by
  refine (filled_inv (fun _ _ _ _ => True) ⟨fun _ _ _ _ => trivial, fun _ _ _ _ _ _ _ => trivial, fun _ _ _ _ _ _ _ _ _ => trivial⟩ cols rows hist h1 h2 h3 tv wv texts wraps w ht hw hs hln hlw (.inr fun _ _ _ _ _ _ _ => trivial)).mono ?_
  rintro e w' ⟨q, he, T, g, c, r, l, a, b, d⟩
  exact ⟨q, he, T, g, c, r, l, a, b.1, d⟩
end Go.Proofs.YtjclgoiclbkgjaaDoor

/- What the laws of package grid call: sameCells. -/
namespace Go.Proofs.YtjclgoiclbkgjaaDoor
open Go.RowKit
attribute [local go_sem ↓] Go.wp_at_zero Go.wp_at_succ

theorem take_same {la lb : List Cel} (k : Nat) (ha : k < la.length) (hb : k < lb.length) (h : la.take k = lb.take k) (e : la.getD k noC = lb.getD k noC) : la.take (k + 1) = lb.take (k + 1) := by
  rw [take_succ_getD la noC k ha, take_succ_getD lb noC k hb, h, e]
set_option maxRecDepth 100000 in
set_option maxHeartbeats 2000000 in
theorem sameCells_any (la lb : List Cel) (va vb : Value) (w : World) (ha : OwnC w 0 5 va la.length (cvals la)) (hb : OwnC w 0 5 vb lb.length (cvals lb)) (hl : la.length ≤ 1000000) (hl2 : lb.length ≤ 1000000) :
    Calls Tryd.prog 24 #[va, vb] w fun e w' => ∃ bv : Bool, e = .returned (.bool bv) ∧ (bv = true ↔ la = lb) ∧ Below w.heap.size w w' := by
  have HA := Lib.hid ha
  have HB := Lib.hid hb
  have ha0 := ownC_ln Tryd.underlying51 ha
  have hb0 := ownC_ln Tryd.underlying51 hb
  clear ha hb
  by_cases hne : la.length = lb.length
  rotate_left
  · have t1 : ((la.length : Int) != (lb.length : Int)) = true := by simp [bne, beq_eq_false_iff_ne.2 (show ¬ (la.length : Int) = (lb.length : Int) by omega)]
    have t2 : (la.length != lb.length) = true := by simp [bne, beq_eq_false_iff_ne.2 hne]
    have HN := Lib.hid (show ¬ la = lb from fun e => hne (by rw [e]))
    have HNE := Lib.hid hne
    clear hne
    go_enter Tryd.func24, Tryd.ntmps24
    have t3 : decide ((la.length : Int) = (lb.length : Int)) = false := decide_eq_false (by have := HNE.out; omega)
    have t4 : decide (la.length = lb.length) = false := decide_eq_false HNE.out
    go_wp2_with fail
    exact ret1v rfl rfl rfl ⟨false, rfl, ⟨fun e => (by cases e), fun e => absurd e HN.out⟩, Below.refl _ _⟩
  · have HNE := Lib.hid hne
    rw [← hne] at hb0
    clear hne
    go_enter Tryd.func24, Tryd.ntmps24
    go_upto_region 4 with fail
    go_loopw [5] (fun iv wr => ∃ k : Nat, k ≤ la.length ∧ iv = .int .i64 k ∧ Hid (Below w.heap.size w wr) ∧ Hid (la.take k = lb.take k)) (fun iv _ => la.length - (intOf iv).toNat)
    case atStart => exact ⟨0, Nat.zero_le _, rfl, Below.refl _ _, by simp [Hid]⟩
    case round =>
      obtain ⟨k, hk, rfl, HW, HT⟩ := hrel
      by_cases hlt : k < la.length
      · have d1 : decide ((k : Int) < (la.length : Int)) = true := decide_eq_true (by omega)
        have d1' : decide (k < la.length) = true := decide_eq_true hlt
        have hlb : k < lb.length := by have := HNE.out; omega
        have oa := ownC_below HA.out HW.out
        have ob := ownC_below HB.out HW.out
        obtain ⟨ba, fa, ca, e1, _, _⟩ := ownC_pos oa (by omega)
        obtain ⟨bb, fb, cb, e2, _, _⟩ := ownC_pos ob (by omega)
        subst e1 e2
        obtain ⟨p0, p1, p2, p3, p4⟩ := ownC_cel oa k (by omega) rfl
        obtain ⟨q0, q1, q2, q3, q4⟩ := ownC_cel ob k (by omega) rfl
        have hix1 := idx_at (P := Tryd.prog) (size := 5) Tryd.underlying51 cell_info ba fa la.length ca k hlt
        have hix2 := idx_at (P := Tryd.prog) (size := 5) Tryd.underlying51 cell_info bb fb lb.length cb k hlb
        have HTS := Lib.hid (fun e => take_same k hlt hlb HT.out e)
        have HGA := Lib.hid (show la.getD k noC = lb.getD k noC ∨ ¬ la = lb from by
          by_cases e : la = lb
          · exact .inl (by rw [e])
          · exact .inr e)
        have hneq := fun (wx : World) => neq_cel (la.getD k noC) (lb.getD k noC) wx
        have hgd := fun (x y : Operand) (wx : World) => guard_cel .neq x y (la.getD k noC) (lb.getD k noC) wx
        have hw6 : IntKind.i64.wrap ((k : Int) + 1) = (k : Int) + 1 := wrap64_id _ (by omega) (by omega)
        clear oa ob
        generalize la.getD k noC = xa at *
        generalize lb.getD k noC = xb at *
        obtain ⟨ar, aw, ⟨af, ag, at'⟩⟩ := xa
        obtain ⟨br, bw, ⟨bf, bg, bt⟩⟩ := xb
        unfold Cel.val at hneq hgd
        dsimp only at p0 p1 p2 p3 p4 q0 q1 q2 q3 q4 hneq hgd
        have HEQ := Lib.hid (Cel.eqb_iff ⟨ar, aw, ⟨af, ag, at'⟩⟩ ⟨br, bw, ⟨bf, bg, bt⟩⟩)
        generalize hbv : Cel.eqb ⟨ar, aw, ⟨af, ag, at'⟩⟩ ⟨br, bw, ⟨bf, bg, bt⟩⟩ = bv at *
        clear hbv
        go_upto_region 6 with fail
        go_region_held3 (fun w' => w'.cell? ⟨ba, fa + k * 5, none⟩ = some (.int .i32 ar) ∧ w'.cell? ⟨ba, fa + k * 5 + 1, none⟩ = some (.int .i64 aw) ∧ w'.cell? ⟨ba, fa + k * 5 + 2, none⟩ = some (.int .i64 af) ∧ w'.cell? ⟨ba, fa + k * 5 + 3, none⟩ = some (.int .i64 ag) ∧ w'.cell? ⟨ba, fa + k * 5 + 4, none⟩ = some (.int .i64 at') ∧
          w'.cell? ⟨bb, fb + k * 5, none⟩ = some (.int .i32 br) ∧ w'.cell? ⟨bb, fb + k * 5 + 1, none⟩ = some (.int .i64 bw) ∧ w'.cell? ⟨bb, fb + k * 5 + 2, none⟩ = some (.int .i64 bf) ∧ w'.cell? ⟨bb, fb + k * 5 + 3, none⟩ = some (.int .i64 bg) ∧ w'.cell? ⟨bb, fb + k * 5 + 4, none⟩ = some (.int .i64 bt)) (go_keep) (fail)
        clear p0 p1 p2 p3 p4 q0 q1 q2 q3 q4
        cases bv
        · go_wp2_with fail
          refine ret1v rfl rfl rfl ⟨false, rfl, ⟨fun e => (by cases e), fun e => ?_⟩, HW.out.drew⟩
          rcases HGA.out with h1 | h1
          · have h2 := HEQ.out.2 h1
            cases h2
          · exact absurd e h1
        · go_wp2_with fail
          go_roundw
          case rel => exact ⟨k + 1, by omega, by go_num, HW.out.drew, HTS.out (HEQ.out.1 rfl)⟩
          case measure => simp [intOf]; omega
      · have d1 : decide ((k : Int) < (la.length : Int)) = false := decide_eq_false (by omega)
        have d1' : decide (k < la.length) = false := decide_eq_false hlt
        have HEQ := Lib.hid (show la = lb from by
          have h1 := HT.out
          rw [List.take_of_length_le (by omega), List.take_of_length_le (by have := HNE.out; omega)] at h1
          exact h1)
        go_wp2_with fail
        exact ret1v rfl rfl rfl ⟨true, rfl, ⟨fun _ => HEQ.out, fun _ => rfl⟩, HW.out⟩
end Go.Proofs.YtjclgoiclbkgjaaDoor

/- Two grids of the same content compared: Same tells true. -/
namespace Go.Proofs.YtjclgoiclbkgjaaDoor
open Go.RowKit
attribute [local go_sem ↓] Go.wp_at_zero Go.wp_at_succ

set_option maxRecDepth 100000 in
set_option maxHeartbeats 2000000 in
theorem equalC_any (l : List Cel) (va vb : Value) (w : World) (ha : OwnC w 0 5 va l.length (cvals l)) (hb : OwnC w 0 5 vb l.length (cvals l)) (hl : l.length ≤ 1000000) :
    Calls Tryd.prog 51 #[va, vb] w fun e w' => e = .returned (.bool true) ∧ Below w.heap.size w w' := by
  have HA := Lib.hid ha
  have HB := Lib.hid hb
  have ha0 := ownC_ln Tryd.underlying51 ha
  have hb0 := ownC_ln Tryd.underlying51 hb
  clear ha hb
  go_enter Tryd.func51, Tryd.ntmps51
  go_upto_region 4 with fail
  go_loopw [13] (fun iv wr => ∃ k : Nat, k ≤ l.length ∧ iv = .int .i64 k ∧ Hid (Below w.heap.size w wr)) (fun iv _ => l.length - (intOf iv).toNat)
  case atStart => exact ⟨0, Nat.zero_le _, rfl, Below.refl _ _⟩
  case round =>
    obtain ⟨k, hk, rfl, HW⟩ := hrel
    by_cases hlt : k < l.length
    · have d1 : decide ((k : Int) < (l.length : Int)) = true := decide_eq_true (by omega)
      have d1' : decide (k < l.length) = true := decide_eq_true hlt
      have oa := ownC_below HA.out HW.out
      have ob := ownC_below HB.out HW.out
      obtain ⟨ba, fa, ca, e1, _, _⟩ := ownC_pos oa (by omega)
      obtain ⟨bb, fb, cb, e2, _, _⟩ := ownC_pos ob (by omega)
      subst e1 e2
      obtain ⟨p0, p1, p2, p3, p4⟩ := ownC_cel oa k (by omega) rfl
      obtain ⟨q0, q1, q2, q3, q4⟩ := ownC_cel ob k (by omega) rfl
      have hix1 := idx_at (P := Tryd.prog) (size := 5) Tryd.underlying51 cell_info ba fa l.length ca k hlt
      have hix2 := idx_at (P := Tryd.prog) (size := 5) Tryd.underlying51 cell_info bb fb l.length cb k hlt
      have hneq := fun (wx : World) => neq_cel (l.getD k noC) (l.getD k noC) wx
      have hgd := fun (x y : Operand) (wx : World) => guard_cel .neq x y (l.getD k noC) (l.getD k noC) wx
      rw [(Cel.eqb_iff (l.getD k noC) (l.getD k noC)).2 rfl] at hneq
      have hw6 : IntKind.i64.wrap ((k : Int) + 1) = (k : Int) + 1 := wrap64_id _ (by omega) (by omega)
      clear oa ob
      generalize l.getD k noC = xa at *
      obtain ⟨ar, aw, ⟨af, ag, at'⟩⟩ := xa
      unfold Cel.val at hneq hgd
      dsimp only at p0 p1 p2 p3 p4 q0 q1 q2 q3 q4 hneq hgd
      go_upto_region 6 with fail
      go_region_held3 (fun w' => w'.cell? ⟨ba, fa + k * 5, none⟩ = some (.int .i32 ar) ∧ w'.cell? ⟨ba, fa + k * 5 + 1, none⟩ = some (.int .i64 aw) ∧ w'.cell? ⟨ba, fa + k * 5 + 2, none⟩ = some (.int .i64 af) ∧ w'.cell? ⟨ba, fa + k * 5 + 3, none⟩ = some (.int .i64 ag) ∧ w'.cell? ⟨ba, fa + k * 5 + 4, none⟩ = some (.int .i64 at') ∧
        w'.cell? ⟨bb, fb + k * 5, none⟩ = some (.int .i32 ar) ∧ w'.cell? ⟨bb, fb + k * 5 + 1, none⟩ = some (.int .i64 aw) ∧ w'.cell? ⟨bb, fb + k * 5 + 2, none⟩ = some (.int .i64 af) ∧ w'.cell? ⟨bb, fb + k * 5 + 3, none⟩ = some (.int .i64 ag) ∧ w'.cell? ⟨bb, fb + k * 5 + 4, none⟩ = some (.int .i64 at')) (go_keep) (fail)
      clear p0 p1 p2 p3 p4 q0 q1 q2 q3 q4
      go_wp2_with fail
      go_roundw
      case rel => exact ⟨k + 1, by omega, by go_num, HW.out.drew⟩
      case measure => simp [intOf]; omega
    · have d1 : decide ((k : Int) < (l.length : Int)) = false := decide_eq_false (by omega)
      have d1' : decide (k < l.length) = false := decide_eq_false hlt
      go_wp2_with fail
      exact ret1v rfl rfl rfl ⟨rfl, HW.out⟩
set_option maxRecDepth 100000 in
set_option maxHeartbeats 2000000 in
theorem sameRow_any (r : Rw) (va vb : Value) (w : World) (ha : OwnC w 0 5 va r.cells.length (cvals r.cells)) (hb : OwnC w 0 5 vb r.cells.length (cvals r.cells)) (hl : r.cells.length ≤ 1000000) :
    Calls Tryd.prog 50 #[.agg #[va, .bool r.wrap], .agg #[vb, .bool r.wrap]] w fun e w' => e = .returned (.bool true) ∧ Below w.heap.size w w' := by
  obtain ⟨aa, ac, rfl⟩ := ownC_sl ha
  obtain ⟨ba, bc, rfl⟩ := ownC_sl hb
  have h1 := Below.alloc (Below.refl w.heap.size w) (Nat.le_refl _) (.cells #[.slice aa r.cells.length ac, .bool r.wrap] 76)
  have h2 := Below.alloc h1 h1.size (.cells #[.slice ba r.cells.length bc, .bool r.wrap] 76)
  have HA := Lib.hid (ownC_below ha h2)
  have HB := Lib.hid (ownC_below hb h2)
  have H2 := Lib.hid h2
  clear ha hb h1 h2
  go_enter Tryd.func50, Tryd.ntmps50
  go_wp2_with fail
  refine (equalC_any r.cells _ _ _ HA.out HB.out hl).mono ?_
  rintro e w3 ⟨rfl, b3⟩
  have H3 := Lib.hid (H2.out.trans (b3.mono H2.out.size))
  clear b3
  go_wp2_with fail
  exact ret1v rfl rfl rfl ⟨rfl, H3.out⟩
set_option maxRecDepth 100000 in
set_option maxHeartbeats 2000000 in
theorem equalF_any (L M : List (Value × Rw)) (va vb : Value) (w : World) (ha : OwnC w 0 2 va L.length (rowVals L)) (hb : OwnC w 0 2 vb M.length (rowVals M)) (he : L.map (·.2) = M.map (·.2))
    (hL : ∀ x ∈ L, OwnC w 0 5 x.1 x.2.cells.length (cvals x.2.cells)) (hM : ∀ x ∈ M, OwnC w 0 5 x.1 x.2.cells.length (cvals x.2.cells)) (hn : L.length ≤ 100000) (hc : ∀ x ∈ L, x.2.cells.length ≤ 1000) :
    Calls Tryd.prog 52 #[va, vb, .func (.func 50) #[] #[]] w fun e w' => e = .returned (.bool true) ∧ Below w.heap.size w w' := by
  have hlen : L.length = M.length := by
    have := congrArg List.length he
    simpa using this
  have HA := Lib.hid ha
  have HB := Lib.hid hb
  have ha0 := ownC_ln Tryd.underlying68 ha
  have hb0 := ownC_ln Tryd.underlying68 hb
  rw [← hlen] at hb0
  have HE := Lib.hid (show ∀ (k : Nat) (h1 : k < L.length) (h2 : k < M.length), L[k].2 = M[k].2 from fun k h1 h2 => by
    have := congrArg (fun l => l[k]?) he
    simp only [List.getElem?_map, List.getElem?_eq_getElem h1, List.getElem?_eq_getElem h2, Option.map_some] at this
    injection this)
  have HL := Lib.hid hL
  have HM := Lib.hid hM
  have HC := Lib.hid hc
  have HLN := Lib.hid hlen
  clear ha hb he hL hM hc hlen
  go_enter Tryd.func52, Tryd.ntmps52
  go_upto_region 4 with fail
  go_loopw [17] (fun iv wr => ∃ k : Nat, k ≤ L.length ∧ iv = .int .i64 k ∧ Hid (Below w.heap.size w wr)) (fun iv _ => L.length - (intOf iv).toNat)
  case atStart => exact ⟨0, Nat.zero_le _, rfl, Below.refl _ _⟩
  case round =>
    obtain ⟨k, hk, rfl, HW⟩ := hrel
    by_cases hlt : k < L.length
    · have d1 : decide ((k : Int) < (L.length : Int)) = true := decide_eq_true (by omega)
      have d1' : decide (k < L.length) = true := decide_eq_true hlt
      have hlm : k < M.length := by have := HLN.out; omega
      have oa := ownC_below HA.out HW.out
      have ob := ownC_below HB.out HW.out
      obtain ⟨ba, fa, ca, e1, _, _⟩ := ownC_pos oa (by omega)
      obtain ⟨bb, fb, cb, e2, _, _⟩ := ownC_pos ob (by omega)
      subst e1 e2
      obtain ⟨p0, p1⟩ := ownC_row2 oa k hlt
      obtain ⟨q0, q1⟩ := ownC_row2 ob k hlm
      have hix1 := idx_at (P := Tryd.prog) (size := 2) Tryd.underlying68 row_info ba fa L.length ca k hlt
      have hix2 := idx_at (P := Tryd.prog) (size := 2) Tryd.underlying68 row_info bb fb M.length cb k hlm
      have hxc := ownC_below (HL.out L[k] (List.getElem_mem hlt)) HW.out
      have hyc := ownC_below (HM.out M[k] (List.getElem_mem hlm)) HW.out
      have hxl := HC.out L[k] (List.getElem_mem hlt)
      have hee := HE.out k hlt hlm
      have hw6 : IntKind.i64.wrap ((k : Int) + 1) = (k : Int) + 1 := wrap64_id _ (by omega) (by omega)
      clear oa ob
      generalize L[k] = x at *
      generalize M[k] = y at *
      obtain ⟨xv, xr⟩ := x
      obtain ⟨yv, yr⟩ := y
      dsimp only at p0 p1 q0 q1 hxc hyc hxl hee
      subst hee
      obtain ⟨xa, xc, rfl⟩ := ownC_sl hxc
      obtain ⟨ya, yc, rfl⟩ := ownC_sl hyc
      have h1 := Below.alloc (Below.refl wr.heap.size wr) (Nat.le_refl _) (.cells #[.slice xa xr.cells.length xc, .bool xr.wrap] 76)
      have h2 := Below.alloc h1 h1.size (.cells #[.slice ya xr.cells.length yc, .bool xr.wrap] 76)
      have HX := Lib.hid (ownC_below hxc h2)
      have HY := Lib.hid (ownC_below hyc h2)
      have H2 := Lib.hid (HW.out.trans (h2.mono HW.out.size))
      have HXL := Lib.hid (show xr.cells.length ≤ 1000000 by omega)
      have q0' := cell_below h1 q0
      have q1' := cell_below h1 q1
      clear hxc hyc h1 h2 q0 q1
      go_wp2_with fail
      refine (sameRow_any xr _ _ _ HX.out HY.out HXL.out).mono ?_
      rintro e w3 ⟨rfl, b3⟩
      have H3 := Lib.hid (H2.out.trans (b3.mono H2.out.size))
      clear b3 p0 p1 q0' q1' hix1 hix2
      go_wp2_with fail
      go_roundw
      case rel => exact ⟨k + 1, by omega, by go_num, H3⟩
      case measure => simp [intOf]; omega
    · have d1 : decide ((k : Int) < (L.length : Int)) = false := decide_eq_false (by omega)
      have d1' : decide (k < L.length) = false := decide_eq_false hlt
      go_wp2_with fail
      exact ret1v rfl rfl rfl ⟨rfl, HW.out⟩
end Go.Proofs.YtjclgoiclbkgjaaDoor
