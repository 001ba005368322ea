/- Package grid, texts laid together: G27 S2 R1 R2. -/
import Derived.Test.YtjclgoiclbkgjaaDoorK14
import Derived.Deep.CutBlock
import Derived.Test.YtjclgoiclbkgjaaDoorK6
import Derived.Test.YtjclgoiclbkgjaaDoorK4
import Derived.Laws.Bits64b
import Derived.Lib.AppendIntMem
import Derived.Lib.ItoaLen
/- What the laws of package grid call: filled. -/
namespace Go.Proofs.YtjclgoiclbkgjaaDoor
open Go.RowKit
attribute [local go_sem ↓] Go.wp_at_zero Go.wp_at_succ

/-- A slice whose elements, of one cell each, hold these values. -/
def IsVals (w : World) (v : Value) (l : List Value) : Prop :=
  (v = .slice none 0 0 ∧ l = []) ∨ ∃ (a : Addr) (c : Nat), v = .slice (some a) l.length c ∧ l.length ≤ c ∧ c ≤ 9223372036854775807 ∧ ∀ j, j < l.length → w.cell? (a.add j) = some (l.getD j undef)
theorem idx_gen {P : Program} {t e : TypeId} (ht : P.underlying t = some (.slice e)) (hs : (P.info? e).map (·.size) = some 1) (a : Addr) (n c j : Nat) (hj : j < n) (wx : World) :
    (Instr.indexAt t (.slice (some a) n c) (.int .i64 j)).run P wx = .ok (.pointer (some (a.add j))) wx := by
  obtain ⟨i, hi, hi2⟩ := Option.map_eq_some_iff.1 hs
  have hj' : (0 : Int) ≤ (j : Int) ∧ (j : Int) < (n : Int) := by omega
  simp [Instr.indexAt, asIntOf, run_underlying ht, hj', sizeOf, typeInfo, hi, hi2]
  omega
theorem cell_within {G : Nat → Prop} {w w2 : World} (h : Within G w w2) {b o : Nat} {v : Value} (hc : w.cell? ⟨b, o, none⟩ = some v) (hn : ¬ G b) : w2.cell? ⟨b, o, none⟩ = some v := by
  have e := h.block b (cell_lt hc) hn
  unfold World.cell? at hc ⊢
  dsimp only at hc ⊢
  rw [e]; exact hc
def Dim (g : Gr) (c r l : Nat) : Prop := g.cols = c ∧ g.rows.length = r ∧ g.limit = l
theorem Dim.up {g : Gr} {c r l : Nat} (h : Dim g c r l) (t b n : Int) (s : Sty) (k : Bool) : Dim (g.up t b n s k) c r l := by
  unfold Gr.up
  split
  · exact h
  · rename_i h0
    refine ⟨h.1, ?_, h.2.2⟩
    have hr : regionN g t b n s ≠ 0 := h0
    unfold regionN at hr
    by_cases hc : t < 0 ∨ b < t ∨ (g.rows.length : Int) ≤ b ∨ okS s = false
    · rw [if_pos hc] at hr; exact absurd rfl hr
    · rw [if_neg hc] at hr
      have hn : regionN g t b n s = (max 0 (min n (b - t + 1))).toNat := by unfold regionN; rw [if_neg hc]
      show (upRows g.rows t.toNat b.toNat (regionN g t b n s) g.cols s).length = r
      rw [up_len (by omega) (by omega) (by rw [hn]; omega)]
      exact h.2.1
theorem Dim.down {g : Gr} {c r l : Nat} (h : Dim g c r l) (t b n : Int) (s : Sty) : Dim (g.down t b n s) c r l := by
  unfold Gr.down
  split
  · exact h
  · rename_i h0
    refine ⟨h.1, ?_, h.2.2⟩
    have hr : regionN g t b n s ≠ 0 := h0
    unfold regionN at hr
    by_cases hc : t < 0 ∨ b < t ∨ (g.rows.length : Int) ≤ b ∨ okS s = false
    · rw [if_pos hc] at hr; exact absurd rfl hr
    · rw [if_neg hc] at hr
      have hn : regionN g t b n s = (max 0 (min n (b - t + 1))).toNat := by unfold regionN; rw [if_neg hc]
      show (downRows g.rows t.toNat b.toNat (regionN g t b n s) g.cols s).length = r
      rw [down_len (by omega) (by omega) (by rw [hn]; omega)]
      exact h.2.1
theorem Dim.put {g : Gr} {c r l : Nat} (h : Dim g c r l) (x y : Int) (q : Cel) : Dim (g.put x y q) c r l := by
  unfold Gr.put
  split
  · refine ⟨h.1, ?_, h.2.2⟩
    unfold Gr.turn
    show (g.rows.set _ _).length = r
    rw [List.length_set]; exact h.2.1
  · exact h
theorem Dim.setWrap {g : Gr} {c r l : Nat} (h : Dim g c r l) (y : Int) (is : Bool) : Dim (g.setWrap y is) c r l := by
  unfold Gr.setWrap
  split
  · refine ⟨h.1, ?_, h.2.2⟩
    show (g.rows.set _ _).length = r
    rw [List.length_set]; exact h.2.1
  · exact h
theorem Dim.new (c r l : Nat) : Dim (newG c r l) c r l := ⟨rfl, by show (freshL r c plainS).length = r; unfold freshL; rw [List.length_replicate], rfl⟩
/-- What New, Up and Put keep. -/
structure Kept (I : Nat → Nat → Nat → Gr → Prop) : Prop where
  new : ∀ c r l, 1 ≤ c → I c r l (newG c r l)
  up : ∀ c r l g b, Dim g c r l → I c r l g → I c r l (g.up 0 b 1 plainS true)
  put : ∀ c r l g x y q, Dim g c r l → I c r l g → I c r l (g.put x y q)
set_option maxRecDepth 100000 in
set_option maxHeartbeats 4000000 in
theorem filled_inv (I : Nat → Nat → Nat → Gr → Prop) (K : Kept I) (cols rows hist : Int) (h1 : -9223372036854775808 ≤ cols ∧ cols ≤ 9223372036854775807) (h2 : -9223372036854775808 ≤ rows ∧ rows ≤ 9223372036854775807) (h3 : -9223372036854775808 ≤ hist ∧ hist ≤ 9223372036854775807)
    (tv wv : Value) (texts : List ByteArray) (wraps : List Bool) (w : World) (ht : IsVals w tv (texts.map Value.string)) (hw : IsVals w wv (wraps.map Value.bool)) (hs : ∀ s ∈ texts, s.size ≤ 1000000000) (hln : texts.length ≤ 1000000000) (hlw : wraps.length ≤ 1000000000) (hiw : wraps = [] ∨ ∀ c r l g y b, I c r l g → I c r l (g.setWrap y b)) :
    Calls Tryd.prog 8 #[.int .i64 cols, .int .i64 rows, .int .i64 hist, tv, wv] w fun e w' => ∃ q, e = .returned (.pointer (some ⟨q, 0, none⟩)) ∧ ∃ T g c r l, Sh w T q w' g ∧ (Dim g c r l ∧ I c r l g) ∧ (1 ≤ c ∧ c ≤ 20) ∧ (1 ≤ r ∧ r ≤ 12) ∧ l < 40 ∧ (hist = 0 → l = 0) := by
  have htl : ∀ ty wx, (Builtin.len_ #[22] ty #[tv]).run Tryd.prog wx = .ok (.int .i64 texts.length) wx := fun ty wx => by
    rcases ht with ⟨rfl, e⟩ | ⟨a, c, rfl, _⟩
    · have : texts = [] := by simpa using e
      subst this
      simp [Builtin.len_]
      go_simp
    · rw [List.length_map]
      go_simp
  have hwl : ∀ ty wx, (Builtin.len_ #[23] ty #[wv]).run Tryd.prog wx = .ok (.int .i64 wraps.length) wx := fun ty wx => by
    rcases hw with ⟨rfl, e⟩ | ⟨a, c, rfl, _⟩
    · have : wraps = [] := by simpa using e
      subst this
      go_simp
    · rw [List.length_map]
      go_simp
  have HTV := Lib.hid ht
  have HWV := Lib.hid hw
  have HSS := Lib.hid hs
  have HIW := Lib.hid hiw
  have HK := Lib.hid K
  clear ht hw hs hiw K
  go_enter Tryd.func8, Tryd.ntmps8
  go_wp2_with fail
  refine (pick_any cols 20 w h1.1 h1.2 (by decide) (by decide)).mono ?_
  rintro e wx1 ⟨c0, rfl, hc0, _, hx1⟩
  subst wx1
  obtain ⟨c, hc⟩ : ∃ c : Nat, c0 + 1 = c := ⟨_, rfl⟩
  have hwc : IntKind.i64.wrap (1 + (c0 : Int)) = (c : Int) := by rw [wrap64_id _ (by omega) (by omega)]; omega
  go_wp2_with fail
  refine (pick_any rows 12 w h2.1 h2.2 (by decide) (by decide)).mono ?_
  rintro e wx1 ⟨r0, rfl, hr0, _, hx1⟩
  subst wx1
  obtain ⟨r, hr⟩ : ∃ r : Nat, r0 + 1 = r := ⟨_, rfl⟩
  have hwr : IntKind.i64.wrap (1 + (r0 : Int)) = (r : Int) := by rw [wrap64_id _ (by omega) (by omega)]; omega
  go_wp2_with fail
  refine (pick_any hist 40 w h3.1 h3.2 (by decide) (by decide)).mono ?_
  rintro e wx1 ⟨l, rfl, hl, hl0, hx1⟩
  subst wx1
  have HL0 := Lib.hid hl0
  clear hl0
  go_wp2_with fail
  refine (newGrid_any c r l w (by omega) (by omega) (by omega) (by omega) (by omega)).mono ?_
  rintro e w1 ⟨q, T0, rfl, b1, g1, n1⟩
  have HS1 := Lib.hid (show Sh w T0 q w1 (newG c r l) from ⟨b1, g1, n1⟩)
  have HCR := Lib.hid (show (1 ≤ c ∧ c ≤ 20) ∧ (1 ≤ r ∧ r ≤ 12) from by omega)
  have hr12 : 1 ≤ r ∧ r ≤ 12 := by omega
  clear b1 g1 n1 hwc hwr hc hr
  go_upto_region 5 with fail
  go_loopw [13] (fun iv wr => ∃ (k : Nat) (T : Nat → Nat) (g : Gr), k ≤ texts.length ∧ iv = .int .i64 k ∧ Hid (Sh w T q wr g) ∧ Hid (Dim g c r l ∧ I c r l g)) (fun iv _ => texts.length - (intOf iv).toNat)
  case atStart => exact ⟨0, T0, _, Nat.zero_le _, rfl, HS1, ⟨Dim.new c r l, HK.out.new c r l HCR.out.1.1⟩⟩
  case round =>
    obtain ⟨k, T, g, hk, rfl, HS, HD⟩ := hrel
    obtain ⟨wo, rfl⟩ : ∃ wo, wo = wr := ⟨wr, rfl⟩
    by_cases hlt : k < texts.length ∧ k < 60
    · obtain ⟨hlt, h60⟩ := hlt
      have d1 : decide ((k : Int) < (texts.length : Int)) = true := decide_eq_true (by omega)
      have d1' : decide (k < texts.length) = true := decide_eq_true hlt
      have d2 : decide ((k : Int) < 60) = true := decide_eq_true (by omega)
      have d2' : decide (k < 60) = true := decide_eq_true h60
      have hwy : IntKind.i64.wrap ((r : Int) - 1) = (r : Int) - 1 := wrap64_id _ (by omega) (by omega)
      go_wp2_with fail
      refine (rowsN_any HS.out.gm).mono ?_
      rintro e wx1 ⟨rfl, hx1⟩
      subst wx1
      rw [HD.out.1.2.1]
      go_wp2_with fail
      refine (refPlain_any wo).mono ?_
      rintro e w2 ⟨rfl, b2⟩
      have HS2 := Lib.hid (HS.out.below b2)
      clear b2
      go_wp2_with fail
      refine (up_any HS2.out.gm 0 ((r : Int) - 1) 1 plainS right_plain true).mono ?_
      rintro e w3 ⟨rfl, hw3, T2, g3, n3⟩
      have HS3 := Lib.hid (HS2.out.turn hw3 g3 n3)
      have HD3 := Lib.hid (show Dim (g.up 0 ((r : Int) - 1) 1 plainS true) c r l ∧ I c r l (g.up 0 ((r : Int) - 1) 1 plainS true) from ⟨HD.out.1.up 0 ((r : Int) - 1) 1 plainS true, HK.out.up c r l g _ HD.out.1 HD.out.2⟩)
      clear hw3 g3 n3
      generalize g.up 0 ((r : Int) - 1) 1 plainS true = g2 at *
      have hst : ∃ (a : Addr) (tc : Nat), tv = .slice (some a) texts.length tc ∧ w.cell? (a.add k) = some (.string (texts.getD k ByteArray.empty)) := by
        rcases HTV.out with ⟨_, e⟩ | ⟨a, tc, e, _, _, hcc⟩
        · have : texts = [] := by simpa using e
          rw [this] at hlt
          exact absurd hlt (by simp)
        · rw [List.length_map] at e hcc
          refine ⟨a, tc, e, ?_⟩
          rw [hcc k hlt, List.getD_eq_getElem?_getD, List.getElem?_map, List.getD_eq_getElem?_getD, List.getElem?_eq_getElem hlt]
          rfl
      obtain ⟨ta, tc, htv, hcell⟩ := hst
      subst htv
      have x0 := cell_below HS3.out.b hcell
      have hix := idx_gen (P := Tryd.prog) Tryd.underlying22 (by kernel_rfl) ta texts.length tc k hlt
      have hss := HSS.out (texts.getD k ByteArray.empty) (by
        rw [List.getD_eq_getElem?_getD, List.getElem?_eq_getElem hlt]
        exact List.getElem_mem _)
      obtain ⟨rl, w5, cc, hcv, b5, h5, hc5, hr5, hl5⟩ := conv_runes (texts.getD k ByteArray.empty) hss w3
      have HS5 := Lib.hid (HS3.out.below b5)
      have HR5 := Lib.hid hr5
      have HC5 := Lib.hid hc5
      have hl5b : rl.length ≤ 1000000000 := by omega
      have HT5 := Lib.hid (show T2 w3.heap.size = 0 from by
        by_cases h0 : T2 w3.heap.size = 0
        · exact h0
        · have := HS3.out.gm.lt _ h0; omega)
      clear hr5 hc5 b5 hcell
      generalize texts.getD k ByteArray.empty = str at *
      generalize hrb : w3.heap.size = rb at *
      clear hrb
      go_upto_block 2 with fail
      clear x0 hix hcv
      go_cut [] (fun wz => ∃ g5, Hid (Sh w T2 q wz g5) ∧ Hid (Dim g5 c r l ∧ I c r l g5))
      case first =>
        go_upto_region 12 with fail
        go_loopw [15, 17] (fun xv iv wi => ∃ (m x : Nat) (g5 : Gr), m ≤ rl.length ∧ iv = .int .i64 m ∧ xv = .int .i64 x ∧ (x ≤ 2 * m ∧ rb < wi.heap.size) ∧ Hid (Sh w T2 q wi g5) ∧ Hid (Dim g5 c r l ∧ I c r l g5) ∧ Hid (∀ j, j < rl.length → wi.cell? ⟨rb, j, none⟩ = some (.int .i32 (rl.getD j 0)))) (fun _ iv _ => rl.length - (intOf iv).toNat)
        case atStart => exact ⟨0, 0, g2, Nat.zero_le _, rfl, rfl, ⟨Nat.le_refl _, h5⟩, HS5, HD3, HC5⟩
        case round =>
          obtain ⟨m, x, g5, hm, rfl, rfl, ⟨hx, hrb⟩, HSi, HDi, HCi⟩ := hrel
          obtain ⟨wi, rfl⟩ : ∃ wi, wi = wr := ⟨wr, rfl⟩
          by_cases hml : m < rl.length ∧ m < 60
          · obtain ⟨hml, hm60⟩ := hml
            have d3 : decide ((m : Int) < (rl.length : Int)) = true := decide_eq_true (by omega)
            have d3' : decide (m < rl.length) = true := decide_eq_true hml
            have d4 : decide ((m : Int) < 60) = true := decide_eq_true (by omega)
            have d4' : decide (m < 60) = true := decide_eq_true hm60
            have hxc := HCi.out m hml
            have hxr := HR5.out (rl.getD m 0) (by
              rw [List.getD_eq_getElem?_getD, List.getElem?_eq_getElem hml]
              exact List.getElem_mem _)
            generalize rl.getD m 0 = rv at *
            have hix := idx_at (P := Tryd.prog) (size := 1) Tryd.underlying35 (by kernel_rfl) rb 0 rl.length cc m hml
            rw [Nat.zero_add, Nat.mul_one] at hix
            have hw6 : IntKind.i64.wrap ((m : Int) + 1) = (m : Int) + 1 := wrap64_id _ (by omega) (by omega)
            go_upto_region 15 with fail
            go_cut [80] (fun vv wx => (∃ f, vv = .bool f) ∧ wx = wi)
            case first =>
              by_cases hg1 : 12352 < rv
              · have e1 : decide (12352 < rv) = true := decide_eq_true hg1
                go_wp2_with fail
                go_meet
                exact ⟨⟨_, rfl⟩, rfl⟩
              · have e1 : decide (12352 < rv) = false := decide_eq_false hg1
                go_wp2_with fail
                go_meet
                exact ⟨⟨_, rfl⟩, rfl⟩
            case rest =>
            obtain ⟨⟨f, rfl⟩, rfl⟩ := hcut
            go_upto_if 80 with fail
            go_cut [18] (fun vv wx => (∃ wd : Nat, vv = .int .i64 wd ∧ wd ≤ 2) ∧ wx = wc)
            case first =>
              cases f
              · go_wp2_with fail
                go_meet
                exact ⟨⟨1, rfl, by decide⟩, rfl⟩
              · go_wp2_with fail
                go_meet
                exact ⟨⟨2, rfl, by decide⟩, rfl⟩
            case rest =>
            obtain ⟨⟨wd, rfl, hwd⟩, rfl⟩ := hcut
            obtain ⟨wi, rfl⟩ : ∃ wi, wi = wc := ⟨wc, rfl⟩
            have hw7 : IntKind.i64.wrap ((x : Int) + (wd : Int)) = ((x + wd : Nat) : Int) := by rw [wrap64_id _ (by omega) (by omega)]; omega
            go_wp2_with fail
            refine (letter_any rv wd wi).mono ?_
            rintro e w6 ⟨rfl, b6⟩
            have HS6 := Lib.hid (HSi.out.below b6)
            have HC6 := Lib.hid (show ∀ j, j < rl.length → w6.cell? ⟨rb, j, none⟩ = some (.int .i32 (rl.getD j 0)) from fun j hj => cell_below b6 (HCi.out j hj))
            have hb6 := b6.size
            clear b6 hxc
            go_wp2_with fail
            refine (put_any HS6.out.gm x ((r : Int) - 1) ⟨rv, wd, plainS⟩ right_plain ⟨by show (-2147483648 : Int) ≤ rv; omega, by show rv ≤ 2147483647; omega⟩).mono ?_
            rintro e w7 ⟨rfl, hw7', h7⟩
            have HS7 := Lib.hid (HS6.out.put hw7' h7)
            have HC7 := Lib.hid (show ∀ j, j < rl.length → w7.cell? ⟨rb, j, none⟩ = some (.int .i32 (rl.getD j 0)) from fun j hj => cell_within hw7' (HC6.out j hj) (fun e => by
              rcases e with e | e
              · exact e HT5.out
              · omega))
            have hb7 := hw7'.size
            have HD7 := Lib.hid (show Dim (g5.put x ((r : Int) - 1) ⟨rv, wd, plainS⟩) c r l ∧ I c r l (g5.put x ((r : Int) - 1) ⟨rv, wd, plainS⟩) from ⟨HDi.out.1.put x ((r : Int) - 1) ⟨rv, wd, plainS⟩, HK.out.put c r l g5 _ _ _ HDi.out.1 HDi.out.2⟩)
            clear hw7' h7
            go_wp2_with fail
            go_roundw
            case rel => exact ⟨m + 1, x + wd, _, by omega, by go_num, by go_num, ⟨by omega, by omega⟩, HS7, HD7, HC7⟩
            case measure => simp [intOf]; omega
          · by_cases hml2 : m < rl.length
            · have d3 : decide ((m : Int) < (rl.length : Int)) = true := decide_eq_true (by omega)
              have d3' : decide (m < rl.length) = true := decide_eq_true hml2
              have d4 : decide ((m : Int) < 60) = false := decide_eq_false (fun e => hml ⟨hml2, by omega⟩)
              have d4' : decide (m < 60) = false := decide_eq_false (fun e => hml ⟨hml2, e⟩)
              go_wp2_with fail
              go_meet
              exact ⟨g5, HSi, HDi⟩
            · have d3 : decide ((m : Int) < (rl.length : Int)) = false := decide_eq_false (by omega)
              have d3' : decide (m < rl.length) = false := decide_eq_false hml2
              go_wp2_with fail
              go_meet
              exact ⟨g5, HSi, HDi⟩
      case rest =>
      obtain ⟨g5, HS6, HD6⟩ := hcut
      obtain ⟨w6, rfl⟩ : ∃ w6, w6 = wc := ⟨wc, rfl⟩
      have hw6 : IntKind.i64.wrap ((k : Int) + 1) = (k : Int) + 1 := wrap64_id _ (by omega) (by omega)
      by_cases hkw : k < wraps.length
      · have d5 : decide ((k : Int) < (wraps.length : Int)) = true := decide_eq_true (by omega)
        have d5' : decide (k < wraps.length) = true := decide_eq_true hkw
        have hst : ∃ (a : Addr) (tc : Nat), wv = .slice (some a) wraps.length tc ∧ w.cell? (a.add k) = some (.bool (wraps.getD k false)) := by
          rcases HWV.out with ⟨_, e⟩ | ⟨a, tc, e, _, _, hcc⟩
          · have : wraps = [] := by simpa using e
            rw [this] at hkw
            exact absurd hkw (by simp)
          · rw [List.length_map] at e hcc
            refine ⟨a, tc, e, ?_⟩
            rw [hcc k hkw, List.getD_eq_getElem?_getD, List.getElem?_map, List.getD_eq_getElem?_getD, List.getElem?_eq_getElem hkw]
            rfl
        obtain ⟨va, vc, hwv, hcell⟩ := hst
        subst hwv
        have x0 := cell_below HS6.out.b hcell
        have hix := idx_gen (P := Tryd.prog) Tryd.underlying23 (by kernel_rfl) va wraps.length vc k hkw
        generalize wraps.getD k false = wb at *
        go_wp2_with fail
        refine (wrap_any HS6.out.gm ((r : Int) - 1) wb).mono ?_
        rintro e w8 ⟨rfl, hw8, h8⟩
        have HS8 := Lib.hid (HS6.out.put hw8 h8)
        have HD8 := Lib.hid (show Dim (g5.setWrap ((r : Int) - 1) wb) c r l ∧ I c r l (g5.setWrap ((r : Int) - 1) wb) from ⟨HD6.out.1.setWrap ((r : Int) - 1) wb, by
          rcases HIW.out with e | e
          · rw [e] at hkw
            exact absurd hkw (by simp)
          · exact e c r l g5 _ _ HD6.out.2⟩)
        clear hw8 h8 x0 hix
        go_wp2_with fail
        go_roundw
        case rel => exact ⟨k + 1, T2, _, by omega, by go_num, HS8, HD8⟩
        case measure => simp [intOf]; omega
      · have d5 : decide ((k : Int) < (wraps.length : Int)) = false := decide_eq_false (by omega)
        have d5' : decide (k < wraps.length) = false := decide_eq_false hkw
        go_wp2_with fail
        go_roundw
        case rel => exact ⟨k + 1, T2, g5, by omega, by go_num, HS6, HD6⟩
        case measure => simp [intOf]; omega
    · have hfin : ∃ T g c r l, Sh w T q wo g ∧ (Dim g c r l ∧ I c r l g) ∧ (1 ≤ c ∧ c ≤ 20) ∧ (1 ≤ r ∧ r ≤ 12) ∧ l < 40 ∧ (hist = 0 → l = 0) := ⟨T, g, c, r, l, HS.out, HD.out, HCR.out.1, HCR.out.2, hl, HL0.out⟩
      have HFIN := Lib.hid hfin
      clear hfin
      by_cases hlt2 : k < texts.length
      · have d1 : decide ((k : Int) < (texts.length : Int)) = true := decide_eq_true (by omega)
        have d1' : decide (k < texts.length) = true := decide_eq_true hlt2
        have d2 : decide ((k : Int) < 60) = false := decide_eq_false (fun e => hlt ⟨hlt2, by omega⟩)
        have d2' : decide (k < 60) = false := decide_eq_false (fun e => hlt ⟨hlt2, e⟩)
        go_wp2_with fail
        exact ret1v rfl rfl rfl ⟨q, rfl, HFIN.out⟩
      · have d1 : decide ((k : Int) < (texts.length : Int)) = false := decide_eq_false (by omega)
        have d1' : decide (k < texts.length) = false := decide_eq_false hlt2
        go_wp2_with fail
        exact ret1v rfl rfl rfl ⟨q, rfl, HFIN.out⟩
theorem filled_any (cols rows hist : Int) (h1 : -9223372036854775808 ≤ cols ∧ cols ≤ 9223372036854775807) (h2 : -9223372036854775808 ≤ rows ∧ rows ≤ 9223372036854775807) (h3 : -9223372036854775808 ≤ hist ∧ hist ≤ 9223372036854775807)
    (tv wv : Value) (texts : List ByteArray) (wraps : List Bool) (w : World) (ht : IsVals w tv (texts.map Value.string)) (hw : IsVals w wv (wraps.map Value.bool)) (hs : ∀ s ∈ texts, s.size ≤ 1000000000) (hln : texts.length ≤ 1000000000) (hlw : wraps.length ≤ 1000000000) :
    Calls Tryd.prog 8 #[.int .i64 cols, .int .i64 rows, .int .i64 hist, tv, wv] w fun e w' => ∃ q, e = .returned (.pointer (some ⟨q, 0, none⟩)) ∧ ∃ T g c r l, Sh w T q w' g ∧ Dim g c r l ∧ (1 ≤ c ∧ c ≤ 20) ∧ (1 ≤ r ∧ r ≤ 12) ∧ l < 40 ∧ (hist = 0 → l = 0) := by
  refine (filled_inv (fun _ _ _ _ => True) ⟨fun _ _ _ _ => trivial, fun _ _ _ _ _ _ _ => trivial, fun _ _ _ _ _ _ _ _ _ => trivial⟩ cols rows hist h1 h2 h3 tv wv texts wraps w ht hw hs hln hlw (.inr fun _ _ _ _ _ _ _ => trivial)).mono ?_
  rintro e w' ⟨q, he, T, g, c, r, l, a, b, d⟩
  exact ⟨q, he, T, g, c, r, l, a, b.1, d⟩
end Go.Proofs.YtjclgoiclbkgjaaDoor

/- Erase, Insert, Delete on a grid, plain. -/
namespace Go.Proofs.YtjclgoiclbkgjaaDoor
open Go.RowKit

/-- How many columns from x on are meant. -/
def manyN (g : Gr) (x n : Int) : Nat := (min n ((g.cols : Int) - x)).toNat
def Gr.rowOp (g : Gr) (f : List Cel → Nat → Nat → Sty → List Cel) (x y n : Int) (s : Sty) : Gr :=
  if g.onIt x y s = true ∧ 0 < n then g.turn y.toNat (fun l => f l x.toNat (manyN g x n) s) else g
def Gr.erase (g : Gr) (x y n : Int) (s : Sty) : Gr := g.rowOp eraseL x y n s
def Gr.ins (g : Gr) (x y n : Int) (s : Sty) : Gr := g.rowOp insL x y n s
def Gr.del (g : Gr) (x y n : Int) (s : Sty) : Gr := g.rowOp delL x y n s
theorem eraseL_ok {l : List Cel} {x n : Nat} {s : Sty} (h : ∀ c ∈ l, c.Ok) : ∀ c ∈ eraseL l x n s, c.Ok := fillL_ok (cutL_ok (cutL_ok h))
theorem insL_ok {l : List Cel} {x n : Nat} {s : Sty} (h : ∀ c ∈ l, c.Ok) : ∀ c ∈ insL l x n s, c.Ok := fun c hc => by
  have hm := cutL_ok (x := ((l.length - n : Nat) : Int)) (cutL_ok (x := (x : Int)) h)
  unfold insL at hc
  rcases List.mem_append.1 hc with hc | hc
  · rcases List.mem_append.1 hc with hc | hc
    · exact hm c (List.mem_of_mem_take hc)
    · rw [List.eq_of_mem_replicate hc]; exact blank_ok s
  · exact hm c (List.mem_of_mem_drop (List.mem_of_mem_take hc))
theorem delL_ok {l : List Cel} {x n : Nat} {s : Sty} (h : ∀ c ∈ l, c.Ok) : ∀ c ∈ delL l x n s, c.Ok := fun c hc => by
  have hm := cutL_ok (x := ((x + n : Nat) : Int)) (cutL_ok (x := (x : Int)) h)
  unfold delL at hc
  rcases List.mem_append.1 hc with hc | hc
  · rcases List.mem_append.1 hc with hc | hc
    · exact hm c (List.mem_of_mem_take hc)
    · exact hm c (List.mem_of_mem_drop hc)
  · rw [List.eq_of_mem_replicate hc]; exact blank_ok s
theorem ins_eq (l : List Cel) (x n : Nat) (s : Sty) (h : x + n ≤ l.length) :
    fillL (putAt (cutL (cutL l x) ((l.length - n : Nat) : Int)) (x + n) (((cutL (cutL l x) ((l.length - n : Nat) : Int)).drop x).take (l.length - x - n))) x n s = insL l x n s := by
  unfold insL
  have hl : (cutL (cutL l x) ((l.length - n : Nat) : Int)).length = l.length := by rw [cutL_len, cutL_len]
  generalize cutL (cutL l x) ((l.length - n : Nat) : Int) = m at *
  rw [← hl] at h ⊢
  have e0 : ((m.drop x).take (m.length - x - n)).length = m.length - x - n := by rw [List.length_take, List.length_drop]; omega
  unfold fillL putAt
  rw [List.length_replicate, e0, show x + n + (m.length - x - n) = m.length by omega, List.drop_length, List.append_nil]
  have e1 : (m.take (x + n)).length = x + n := by rw [List.length_take]; omega
  rw [List.take_append_of_le_length (by omega), List.take_take, Nat.min_eq_left (by omega), List.drop_left' e1, show m.length - n - x = m.length - x - n by omega]
theorem del_eq (l : List Cel) (x n : Nat) (s : Sty) (h : x + n ≤ l.length) :
    fillL (putAt (cutL (cutL l x) ((x + n : Nat) : Int)) x ((cutL (cutL l x) ((x + n : Nat) : Int)).drop (x + n))) (l.length - n) n s = delL l x n s := by
  unfold delL
  have hl : (cutL (cutL l x) ((x + n : Nat) : Int)).length = l.length := by rw [cutL_len, cutL_len]
  generalize cutL (cutL l x) ((x + n : Nat) : Int) = m at *
  rw [← hl] at h ⊢
  have e0 : (m.drop (x + n)).length = m.length - (x + n) := List.length_drop
  have e1 : (m.take x).length = x := by rw [List.length_take]; omega
  have e2 : (m.take x ++ m.drop (x + n)).length = m.length - n := by rw [List.length_append, e0, e1]; omega
  unfold fillL putAt
  rw [List.length_replicate, e0, List.take_left' e2, show m.length - n + n = m.length by omega]
  have e3 : (m.take x ++ m.drop (x + n) ++ m.drop (x + (m.length - (x + n)))).length = m.length := by
    rw [List.length_append, e2, List.length_drop]; omega
  have e4 : (m.take x ++ m.drop (x + n) ++ m.drop (x + (m.length - (x + n)))).drop m.length = [] := List.drop_of_length_le (by rw [e3]; exact Nat.le_refl _)
  rw [e4, List.append_nil]
theorem rowOp_dim {g : Gr} {c r l : Nat} (f : List Cel → Nat → Nat → Sty → List Cel) (x y n : Int) (s : Sty) (h : Dim g c r l) : Dim (g.rowOp f x y n s) c r l := by
  unfold Gr.rowOp
  split
  · refine ⟨h.1, ?_, h.2.2⟩
    show (g.rows.set _ _).length = r
    rw [List.length_set]; exact h.2.1
  · exact h
theorem onIt_iff {g : Gr} {x y : Int} {s : Sty} (h : g.onIt x y s = true) : 0 ≤ y ∧ y < (g.rows.length : Int) ∧ 0 ≤ x ∧ x < (g.cols : Int) ∧ okS s = true := by
  unfold Gr.onIt at h
  simp only [Bool.and_eq_true, decide_eq_true_eq] at h
  exact ⟨h.1, h.2.1, h.2.2.1, h.2.2.2.1, h.2.2.2.2⟩
theorem rowOp_wh {g : Gr} (hw : g.WF) (h : g.All WhR) (f : List Cel → Nat → Nat → Sty → List Cel) (hf : ∀ (l : List Cel) (x n : Nat) (s : Sty), Wh l → x + n ≤ l.length → Wh (f l x n s)) (x y n : Int) (s : Sty) : (g.rowOp f x y n s).All WhR := by
  unfold Gr.rowOp
  split
  · rename_i h0
    obtain ⟨h1, h2, h3, h4, _⟩ := onIt_iff h0.1
    have hrow := hw.ce (g.rows.getD y.toNat noR) (List.mem_append_left _ (by
      rw [List.getD_eq_getElem?_getD, List.getElem?_eq_getElem (by omega)]
      exact List.getElem_mem _))
    intro r hr
    rcases List.mem_append.1 hr with hr | hr
    · exact h r (List.mem_append_left _ hr)
    · rcases List.mem_or_eq_of_mem_set hr with hr | hr
      · exact h r (List.mem_append_right _ hr)
      · rw [hr]
        have hm : g.rows.getD y.toNat noR ∈ g.old ++ g.rows := List.mem_append_right _ (by
          rw [List.getD_eq_getElem?_getD, List.getElem?_eq_getElem (by omega)]
          exact List.getElem_mem _)
        refine hf _ _ _ _ (h _ hm) ?_
        rw [hrow.1]
        unfold manyN
        omega
  · exact h
end Go.Proofs.YtjclgoiclbkgjaaDoor

/- strconv.FormatInt in base 16, at the numbers that a colour may be. -/
namespace Go.Proofs.YtjclgoiclbkgjaaDoor
open Go.RowKit
/-- What FormatInt reads of the table of math/bits. -/
def DbAt (B : Nat) (w : World) : Prop := ∀ w', Below B w w' → w'.cell? ⟨4, 15, none⟩ = some (.int .u8 4)
set_option maxRecDepth 100000 in
theorem tz64_any (w : World) (h : w.cell? ⟨4, 15, none⟩ = some (.int .u8 4)) :
    Calls Tryd.prog 86 #[.int .u64 16] w fun e w' => e = .returned (.int .i64 4) ∧ w' = w := by
  have hb : IntKind.u64.wrap (bits BinOp.and IntKind.u64 16 (IntKind.u64.wrap (-16)) * 285870213051353865) / 288230376151711744 = 15 := by kernel_rfl
  go_enter Tryd.func86, Tryd.ntmps86
  go_wp2_with fail
  exact ret1v rfl rfl rfl ⟨rfl, rfl⟩
set_option maxRecDepth 100000 in
theorem tz_any (w : World) (h : w.cell? ⟨4, 15, none⟩ = some (.int .u8 4)) :
    Calls Tryd.prog 84 #[.int .u64 16] w fun e w' => e = .returned (.int .i64 4) ∧ w' = w := by
  go_enter Tryd.func84, Tryd.ntmps84
  go_wp2_with fail
  refine (tz64_any w h).mono ?_
  rintro e w2 ⟨rfl, rfl⟩
  go_wp2_with fail
  exact ret1v rfl rfl rfl ⟨rfl, rfl⟩
set_option maxRecDepth 100000 in
theorem pow2_any (w : World) : Calls Tryd.prog 83 #[.int .i64 16] w fun e w' => e = .returned (.bool true) ∧ w' = w := by
  go_enter Tryd.func83, Tryd.ntmps83
  go_wp2_with fail
  exact ret1v rfl rfl rfl ⟨rfl, rfl⟩
def lo16 : Nat → Nat
  | 0 => 16777216
  | 1 => 1048576
  | 2 => 65536
  | 3 => 4096
  | 4 => 256
  | 5 => 16
  | _ => 1
theorem lo16_step {k x : Nat} (hk : k < 6) (h : lo16 k ≤ x ∧ x < 2 * lo16 k) : 16 ≤ x ∧ lo16 (k + 1) ≤ x / 16 ∧ x / 16 < 2 * lo16 (k + 1) := by
  match k, hk with
  | 0, _ => simp only [lo16] at h ⊢; omega
  | 1, _ => simp only [lo16] at h ⊢; omega
  | 2, _ => simp only [lo16] at h ⊢; omega
  | 3, _ => simp only [lo16] at h ⊢; omega
  | 4, _ => simp only [lo16] at h ⊢; omega
  | 5, _ => simp only [lo16] at h ⊢; omega
theorem byteVals_set (bs : List UInt8) (i : Nat) (b : UInt8) : (byteVals bs).toArray.setIfInBounds i (.int .u8 (b.toNat : Int)) = (byteVals (bs.set i b)).toArray := by
  unfold byteVals
  rw [List.map_set, List.setIfInBounds_toArray]
theorem and15 (x : Nat) (h : x < 18446744073709551616) : bits BinOp.and IntKind.u64 (x : Int) 15 = ((x % 16 : Nat) : Int) := by
  have := bits_and_u64_nat x 15 h (by decide)
  rw [show ((15 : Nat) : Int) = 15 from rfl] at this
  rw [this, show (15 : Nat) = 2 ^ 4 - 1 from rfl, Nat.and_two_pow_sub_one_eq_mod]
theorem ret2u {P : Program} {fn : Func} {R : Ending → World → Prop} {a : Act} {w : World} {t u : Tmp} {v1 v2 : Value} (h : fn.results = #[.tmp t, .tmp u]) (hd : a.defers = []) (h1 : a.tmps.getD t undef = v1) (h2 : a.tmps.getD u undef = v2) (hR : R (.returned (.tuple #[v1, v2])) w) :
    bodyPost P fn R .ret a w := by
  subst h1 h2; exact bodyPost_ret (results_tmp2 h _ _ _) hd hR
set_option maxRecDepth 100000 in
set_option maxHeartbeats 4000000 in
theorem bits16_any (u : Nat) (h0 : 16777216 ≤ u) (h1 : u < 33554432) (w : World) (hd : DbAt w.heap.size w) :
    Calls Tryd.prog 77 #[.slice none 0 0, .int .u64 u, .int .i64 16, .bool false, .bool false] w fun e w' => ∃ l : List UInt8, l.length = 7 ∧ e = .returned (.tuple #[.slice none 0 0, .string ⟨l.toArray⟩]) ∧ Below w.heap.size w w' := by
  go_enter Tryd.func77, Tryd.ntmps77
  go_wp2_with fail
  refine (pow2_any _).mono ?_
  rintro e w2 ⟨rfl, hw2⟩
  subst w2
  have HB1 := Lib.hid ((Below.refl w.heap.size w).alloc (Nat.le_refl _) (.cells (Array.replicate 65 (.int .u8 0)) 143))
  go_wp2_with fail
  refine (tz_any _ (hd _ HB1.out)).mono ?_
  rintro e w2 ⟨rfl, hw2⟩
  subst w2
  go_upto_region 11 with fail
  go_loopw [1, 13] (fun uv iv wr => ∃ k x : Nat, (k ≤ 6 ∧ lo16 k ≤ x ∧ x < 2 * lo16 k ∧ x < 33554432) ∧ uv = .int .u64 x ∧ iv = .int .i64 (65 - k : Nat) ∧ Hid (Below w.heap.size w wr) ∧ Hid (∃ bs : List UInt8, bs.length = 65 ∧ wr.heap[w.heap.size]? = some (.cells (byteVals bs).toArray 143 (0, 0)))) (fun _ iv _ => (intOf iv).toNat)
  case atStart => exact ⟨0, u, ⟨by decide, h0, h1, h1⟩, rfl, rfl, HB1.out, List.replicate 65 0, by simp, blk_new _ _⟩
  case round =>
    obtain ⟨k, x, ⟨hk, hlo, hhi, hxx⟩, rfl, rfl, HB, HC⟩ := hrel
    by_cases hk6 : k < 6
    · obtain ⟨s1, s2, s3⟩ := lo16_step hk6 ⟨hlo, hhi⟩
      have d1 : decide ((16 : Int) ≤ (x : Int)) = true := decide_eq_true (by omega)
      have d1' : decide (16 ≤ x) = true := decide_eq_true s1
      have ha := and15 x (by omega)
      obtain ⟨m, hm⟩ : ∃ m : Nat, m = 64 - k := ⟨_, rfl⟩
      have hw1 : IntKind.i64.wrap (((65 - k : Nat) : Int) - 1) = (m : Int) := by rw [wrap64_id _ (by omega) (by omega)]; omega
      obtain ⟨bs, hbl, hblk⟩ := HC.out
      have hm65 : (m : Int) < 65 ∧ m < 65 := by omega
      have c0 : wr.cell? ⟨w.heap.size, m, none⟩ = some (.int .u8 ((bs.getD m 0).toNat : Int)) := by
        rw [blk_cell hblk m]
        unfold byteVals
        rw [List.getElem?_toArray, List.getElem?_map, List.getD_eq_getElem?_getD, List.getElem?_eq_getElem (by omega)]
        rfl
      have z0 : wr.frozen? ⟨w.heap.size, m, none⟩ = false := blk_free hblk m
      have HBK := Lib.hid hblk
      have HBL := Lib.hid hbl
      have HM := Lib.hid hm
      clear hblk hbl hm
      go_wp2_with fail
      have hmk : m = 65 - (k + 1) := by have := HM.out; omega
      refine ⟨⟨k + 1, x / 16, ⟨by omega, s2, s3, by omega⟩, by simp, by rw [hmk], HB.out.trans (below_of_gb (gb_set (gb_refl wr (some w.heap.size)) m _) HB.out.size (fun q hq => by injection hq with hq; omega)), _, ?_, (blk_set HBK.out m _).trans (by rw [byteVals_set])⟩, ?_⟩
      · rw [List.length_set]; exact HBL.out
      · simp [intOf]; have := HM.out; omega
    · have hk : k = 6 := by omega
      subst hk
      have hx1 : x = 1 := by simp only [lo16] at hlo hhi; omega
      subst hx1
      obtain ⟨bs, hbl, hblk⟩ := HC.out
      have c0 : wr.cell? ⟨w.heap.size, 58, none⟩ = some (.int .u8 ((bs.getD 58 0).toNat : Int)) := by
        rw [blk_cell hblk 58]
        unfold byteVals
        rw [List.getElem?_toArray, List.getElem?_map, List.getD_eq_getElem?_getD, List.getElem?_eq_getElem (by omega)]
        rfl
      have z0 : wr.frozen? ⟨w.heap.size, 58, none⟩ = false := blk_free hblk 58
      have HBK := Lib.hid hblk
      have HBL := Lib.hid hbl
      clear hblk hbl
      go_upto_region 30 with fail
      have HK2 : ∃ b : UInt8, Hid ((wr.setCell ⟨w.heap.size, 58, none⟩ (.int .u8 (b.toNat : Int))).heap[w.heap.size]? = some (.cells (byteVals (bs.set 58 b)).toArray 143 (0, 0)) ∧ b = 49) := ⟨49, (blk_set HBK.out 58 _).trans (by rw [byteVals_set]), rfl⟩
      obtain ⟨b, HK2⟩ := HK2
      have HB2 := Lib.hid (HB.out.trans (below_of_gb (gb_set (gb_refl wr (some w.heap.size)) 58 (.int .u8 (b.toNat : Int))) HB.out.size (fun q hq => by injection hq with hq; omega)))
      generalize hw2 : wr.setCell ⟨w.heap.size, 58, none⟩ (.int .u8 (b.toNat : Int)) = w2 at *
      have hw3 : ∀ v, v = Value.int .u8 (b.toNat : Int) → wr.setCell ⟨w.heap.size, 58, none⟩ v = w2 := fun v hv => by rw [hv, hw2]
      rw [hw3 _ (by rw [HK2.out.2]; rfl)]
      have hbl : (bs.set 58 b).length = 65 := by rw [List.length_set]; exact HBL.out
      generalize bs.set 58 b = cs at *
      have hrd : Reads w2 1 (.slice (some ⟨w.heap.size, 58, none⟩) 7 7) (cs.drop 58).length (byteVals (cs.drop 58)) := by
        have e : (cs.drop 58).length = 7 := by rw [List.length_drop, hbl]
        rw [e]
        refine .inr ⟨_, _, rfl, by unfold byteVals; rw [List.length_map, e], fun j v hv => ?_⟩
        rw [add_eq, blk_cell HK2.out.1 (58 + j), List.getElem?_toArray]
        unfold byteVals at hv ⊢
        rw [List.map_drop, List.getElem?_drop] at hv
        exact hv
      have hcv := run_bytes_reads (P := Tryd.prog) Tryd.underlying86 Tryd.underlying5 Tryd.underlying9 hrd
      have HCL := Lib.hid (show (cs.drop 58).length = 7 by rw [List.length_drop, hbl])
      clear hrd hbl hw2 hw3 c0 z0
      generalize cs.drop 58 = ds at *
      go_wp2_with fail
      exact ret2u rfl rfl rfl rfl ⟨ds, HCL.out, rfl, HB2.out⟩
set_option maxRecDepth 100000 in
theorem format16_any (u : Nat) (h0 : 16777216 ≤ u) (h1 : u < 33554432) (w : World) (hd : DbAt w.heap.size w) :
    Calls Tryd.prog 72 #[.int .i64 u, .int .i64 16] w fun e w' => ∃ l : List UInt8, l.length = 7 ∧ e = .returned (.string ⟨l.toArray⟩) ∧ Below w.heap.size w w' := by
  have d0 : decide ((u : Int) < 0) = false := decide_eq_false (by omega)
  have HD := Lib.hid hd
  clear hd
  go_enter Tryd.func72, Tryd.ntmps72
  go_wp2_with fail
  refine (bits16_any u h0 h1 w HD.out).mono ?_
  rintro e w2 ⟨l, hl, rfl, b2⟩
  have HL := Lib.hid hl
  have HB := Lib.hid b2
  clear hl b2
  go_wp2_with fail
  exact ret1v rfl rfl rfl ⟨l, HL.out, rfl, HB.out⟩
set_option maxRecDepth 100000 in
theorem formatP_any (u : Nat) (h0 : 16777216 ≤ u) (h1 : u < 33554432) (w : World) (hd : DbAt w.heap.size w) :
    Calls Tryd.prog 68 #[.int .i64 u, .int .i64 16] w fun e w' => ∃ l : List UInt8, l.length = 7 ∧ e = .returned (.string ⟨l.toArray⟩) ∧ Below w.heap.size w w' := by
  have HD := Lib.hid hd
  clear hd
  go_enter Tryd.func68, Tryd.ntmps68
  go_wp2_with fail
  refine (format16_any u h0 h1 w HD.out).mono ?_
  rintro e w2 ⟨l, hl, rfl, b2⟩
  have HL := Lib.hid hl
  have HB := Lib.hid b2
  clear hl b2
  go_wp2_with fail
  exact ret1v rfl rfl rfl ⟨l, HL.out, rfl, HB.out⟩
end Go.Proofs.YtjclgoiclbkgjaaDoor

/- style.Name and style.Right, of any colour and any style. -/
namespace Go.Proofs.YtjclgoiclbkgjaaDoor
open Go.RowKit

/-- The package variables that style.Name reads are as the program lays them, now and behind what is made since. -/
structure Tabs (w : World) : Prop where
  sp : Lib.TabBelow Tryd.prog w.heap.size w "strings.asciiSpace" .u8 Lib.asciiSpaceTab
  pw : Tab Tryd.prog w
  db : DbAt w.heap.size w
theorem Tabs.below {w w' : World} (h : Tabs w) (b : Below w.heap.size w w') : Tabs w' :=
  ⟨fun w2 h2 => h.sp w2 (b.trans (h2.mono b.size)), tab_go h.pw b, fun w2 h2 => h.db w2 (b.trans (h2.mono b.size))⟩
def colsB : ByteArray := ⟨#[98, 108, 97, 99, 107, 32, 114, 101, 100, 32, 103, 114, 101, 101, 110, 32, 121, 101, 108, 108, 111, 119, 32, 98, 108, 117, 101, 32, 109, 97, 103, 101, 110, 116, 97, 32, 99, 121, 97, 110, 32, 119, 104, 105, 116, 101]⟩
theorem cols_fields : Lib.fields colsB.data.toList = [[98, 108, 97, 99, 107], [114, 101, 100], [103, 114, 101, 101, 110], [121, 101, 108, 108, 111, 119], [98, 108, 117, 101], [109, 97, 103, 101, 110, 116, 97], [99, 121, 97, 110], [119, 104, 105, 116, 101]] := by decide +kernel
theorem fields_cols (w : World) (h : Tabs w) : Calls Tryd.prog 66 #[.string colsB] w fun e w' =>
    e = .returned (.slice (some ⟨w.heap.size, 0, none⟩) 8 8) ∧ w' = w.alloc (.cells #[.string ⟨#[98, 108, 97, 99, 107]⟩, .string ⟨#[114, 101, 100]⟩, .string ⟨#[103, 114, 101, 101, 110]⟩, .string ⟨#[121, 101, 108, 108, 111, 119]⟩, .string ⟨#[98, 108, 117, 101]⟩, .string ⟨#[109, 97, 103, 101, 110, 116, 97]⟩, .string ⟨#[99, 121, 97, 110]⟩, .string ⟨#[119, 104, 105, 116, 101]⟩] 9) := by
  refine (Tryd.strings_Fields colsB w (by decide) (fun j b hb => ?_) h.sp.here).mono ?_
  · have hm := List.mem_of_getElem? hb
    have hall : ∀ b ∈ colsB.data.toList, b.toNat < 128 := by decide
    exact hall b hm
  · rintro e w' ⟨rfl, rfl⟩
    rw [cols_fields]
    exact ⟨rfl, rfl⟩
set_option maxRecDepth 100000 in
set_option maxHeartbeats 4000000 in
theorem name_any (c : Int) (hc : -9223372036854775808 ≤ c ∧ c ≤ 9223372036854775807) (w : World) (ht : Tabs w) :
    Calls Tryd.prog 62 #[.int .i64 c] w fun e w' => ∃ s : ByteArray, e = .returned (.string s) ∧ (s.size = 0 ↔ colOk c = false) ∧ Below w.heap.size w w' := by
  have HT := Lib.hid ht
  clear ht
  by_cases h0 : c = -1
  · subst h0
    refine (name_plain w).mono ?_
    rintro e w2 ⟨rfl, rfl⟩
    exact ⟨_, rfl, by decide, Below.refl _ _⟩
  have d0 : decide (c = -1) = false := decide_eq_false h0
  have d0' : (c == -1) = false := by simp [h0]
  by_cases h1 : 0 ≤ c
  rotate_left
  · have d1 : decide (0 ≤ c) = false := decide_eq_false h1
    have d2 : decide (8 ≤ c) = false := decide_eq_false (by omega)
    have d3 : decide (16 ≤ c) = false := decide_eq_false (by omega)
    have d4 : decide (16777216 ≤ c) = false := decide_eq_false (by omega)
    have HC := Lib.hid (show colOk c = false by unfold colOk; rw [decide_eq_false (by omega), decide_eq_false (by omega)]; rfl)
    go_enter Tryd.func62, Tryd.ntmps62
    go_wp2_with fail
    exact ret1v rfl rfl rfl ⟨_, rfl, ⟨fun _ => HC.out, fun _ => rfl⟩, Below.refl _ _⟩
  obtain ⟨n, rfl⟩ : ∃ n : Nat, c = (n : Int) := ⟨c.toNat, by omega⟩
  clear h1 h0
  by_cases h2 : n < 8
  · have HC := Lib.hid (show colOk (n : Int) = true by unfold colOk; rw [decide_eq_true (by omega)]; rfl)
    have HB := Lib.hid ((Below.refl w.heap.size w).alloc (Nat.le_refl _) (.cells #[.string ⟨#[98, 108, 97, 99, 107]⟩, .string ⟨#[114, 101, 100]⟩, .string ⟨#[103, 114, 101, 101, 110]⟩, .string ⟨#[121, 101, 108, 108, 111, 119]⟩, .string ⟨#[98, 108, 117, 101]⟩, .string ⟨#[109, 97, 103, 101, 110, 116, 97]⟩, .string ⟨#[99, 121, 97, 110]⟩, .string ⟨#[119, 104, 105, 116, 101]⟩] 9))
    rcases (show n = 0 ∨ n = 1 ∨ n = 2 ∨ n = 3 ∨ n = 4 ∨ n = 5 ∨ n = 6 ∨ n = 7 by omega) with rfl | rfl | rfl | rfl | rfl | rfl | rfl | rfl
    all_goals
      go_enter Tryd.func62, Tryd.ntmps62
      go_wp2_with fail
      refine (fields_cols w HT.out).mono ?_
      rintro e w2 ⟨rfl, hw2⟩
      subst w2
      go_wp2_with fail
      exact ret1v rfl rfl rfl ⟨_, rfl, ⟨fun e => by simp [ByteArray.size] at e, fun e => by rw [HC.out] at e; cases e⟩, HB.out⟩
  have d2 : decide ((n : Int) < 8) = false := decide_eq_false (by omega)
  have d2' : decide (n < 8) = false := decide_eq_false h2
  by_cases h3 : n < 16
  · have HC := Lib.hid (show colOk (n : Int) = true by unfold colOk; rw [decide_eq_true (by omega)]; rfl)
    have HB := Lib.hid ((Below.refl w.heap.size w).alloc (Nat.le_refl _) (.cells #[.string ⟨#[98, 108, 97, 99, 107]⟩, .string ⟨#[114, 101, 100]⟩, .string ⟨#[103, 114, 101, 101, 110]⟩, .string ⟨#[121, 101, 108, 108, 111, 119]⟩, .string ⟨#[98, 108, 117, 101]⟩, .string ⟨#[109, 97, 103, 101, 110, 116, 97]⟩, .string ⟨#[99, 121, 97, 110]⟩, .string ⟨#[119, 104, 105, 116, 101]⟩] 9))
    clear d2 d2' d0 d0'
    rcases (show n = 8 ∨ n = 9 ∨ n = 10 ∨ n = 11 ∨ n = 12 ∨ n = 13 ∨ n = 14 ∨ n = 15 by omega) with rfl | rfl | rfl | rfl | rfl | rfl | rfl | rfl
    all_goals
      go_enter Tryd.func62, Tryd.ntmps62
      go_wp2_with fail
      refine (fields_cols w HT.out).mono ?_
      rintro e w2 ⟨rfl, hw2⟩
      subst w2
      go_wp2_with fail
      exact ret1v rfl rfl rfl ⟨_, rfl, ⟨fun e => by rw [ByteArray.size_append] at e; simp [ByteArray.size] at e, fun e => by rw [HC.out] at e; cases e⟩, HB.out⟩
  have d3 : decide ((n : Int) < 16) = false := decide_eq_false (by omega)
  have d3' : decide (n < 16) = false := decide_eq_false h3
  have e0 : decide ((0 : Int) ≤ (n : Int)) = true := decide_eq_true (by omega)
  have e1 : decide ((8 : Int) ≤ (n : Int)) = true := decide_eq_true (by omega)
  have e1' : decide (8 ≤ n) = true := decide_eq_true (by omega)
  have e2 : decide ((16 : Int) ≤ (n : Int)) = true := decide_eq_true (by omega)
  have e2' : decide (16 ≤ n) = true := decide_eq_true (by omega)
  by_cases h4 : n < 256
  · have HC := Lib.hid (show colOk (n : Int) = true by unfold colOk; rw [decide_eq_true (by omega)]; rfl)
    have d4 : decide ((n : Int) < 256) = true := decide_eq_true (by omega)
    have d4' : decide (n < 256) = true := decide_eq_true h4
    go_enter Tryd.func62, Tryd.ntmps62
    go_wp2_with fail
    refine (Tryd.strconv_Itoa n (by omega) (by omega) w HT.out.pw.here).mono ?_
    rintro e w2 ⟨rfl, k, os, hw2⟩
    have HB := Lib.hid (show Below w.heap.size w w2 by rw [hw2]; exact Lib.below_grow w.heap.size w (Nat.le_refl _) k os)
    clear hw2
    have hsz : (⟨(Lib.itoa (n : Int)).toArray⟩ : ByteArray).size ≤ 21 := by
      show (Lib.itoa (n : Int)).toArray.size ≤ 21
      rw [List.size_toArray]
      exact Lib.itoa_length_le (n : Int) (by omega) (by omega)
    generalize (⟨(Lib.itoa (n : Int)).toArray⟩ : ByteArray) = str at *
    go_wp2_with fail
    refine ret1v rfl rfl rfl ⟨_, rfl, ⟨fun e => ?_, fun e => by rw [HC.out] at e; cases e⟩, HB.out⟩
    rw [ByteArray.size_append] at e
    have h9 : (⟨#[99, 111, 108, 111, 117, 114]⟩ : ByteArray).size = 6 := rfl
    omega
  have d4 : decide ((n : Int) < 256) = false := decide_eq_false (by omega)
  have d4' : decide (n < 256) = false := decide_eq_false h4
  by_cases h5 : 16777216 ≤ n ∧ n < 33554432
  · have HC := Lib.hid (show colOk (n : Int) = true by unfold colOk; rw [decide_eq_false (by omega), decide_eq_true (by omega)]; rfl)
    have d5 : decide ((16777216 : Int) ≤ (n : Int)) = true := decide_eq_true (by omega)
    have d5' : decide (16777216 ≤ n) = true := decide_eq_true h5.1
    have d6 : decide ((n : Int) < 33554432) = true := decide_eq_true (by omega)
    have d6' : decide (n < 33554432) = true := decide_eq_true h5.2
    go_enter Tryd.func62, Tryd.ntmps62
    go_wp2_with fail
    refine (formatP_any n h5.1 h5.2 w HT.out.db).mono ?_
    rintro e w2 ⟨l, hl, rfl, b2⟩
    have HB := Lib.hid b2
    have hsz : (⟨l.toArray⟩ : ByteArray).size = 7 := by show l.toArray.size = 7; simpa using hl
    clear b2 hl
    generalize (⟨l.toArray⟩ : ByteArray) = str at *
    go_wp2_with fail
    exact ret1v rfl rfl rfl ⟨_, rfl, ⟨fun e => by rw [ByteArray.size_append] at e; have h9 : (⟨#[35]⟩ : ByteArray).size = 1 := rfl; omega, fun e => by rw [HC.out] at e; cases e⟩, HB.out⟩
  · have HC := Lib.hid (show colOk (n : Int) = false by unfold colOk; rw [decide_eq_false (by omega), decide_eq_false (by omega)]; rfl)
    by_cases h6 : 16777216 ≤ n
    · have d5 : decide ((16777216 : Int) ≤ (n : Int)) = true := decide_eq_true (by omega)
      have d5' : decide (16777216 ≤ n) = true := decide_eq_true h6
      have d6 : decide ((n : Int) < 33554432) = false := decide_eq_false (by omega)
      have d6' : decide (n < 33554432) = false := decide_eq_false (by omega)
      go_enter Tryd.func62, Tryd.ntmps62
      go_wp2_with fail
      exact ret1v rfl rfl rfl ⟨_, rfl, ⟨fun _ => HC.out, fun _ => rfl⟩, Below.refl _ _⟩
    · have d5 : decide ((16777216 : Int) ≤ (n : Int)) = false := decide_eq_false (by omega)
      have d5' : decide (16777216 ≤ n) = false := decide_eq_false h6
      go_enter Tryd.func62, Tryd.ntmps62
      go_wp2_with fail
      exact ret1v rfl rfl rfl ⟨_, rfl, ⟨fun _ => HC.out, fun _ => rfl⟩, Below.refl _ _⟩
theorem ba_empty {s : ByteArray} (h : s.size = 0) : s = ⟨#[]⟩ := by
  obtain ⟨d⟩ := s
  congr 1
  exact Array.eq_empty_of_size_eq_zero h
theorem ba_ne {s : ByteArray} (h : s.size ≠ 0) : (!s.toList.isEmpty) = true := by
  rw [ByteArray.toList_eq]
  have : s.data.toList.length = s.size := by rw [Array.length_toList]; rfl
  cases hl : s.data.toList with
  | nil => rw [hl] at this; simp at this; omega
  | cons x l => rfl
set_option maxRecDepth 100000 in
set_option maxHeartbeats 2000000 in
theorem right_all (s : Sty) (w0 : World) (ht : Tabs w0) (h1 : -9223372036854775808 ≤ s.fg ∧ s.fg ≤ 9223372036854775807) (h2 : -9223372036854775808 ≤ s.bg ∧ s.bg ≤ 9223372036854775807) : RightIn w0 s := by
  intro w hbw
  obtain ⟨f, b, at'⟩ := s
  dsimp only at h1 h2
  have HB1 := Lib.hid ((Below.refl w.heap.size w).alloc (Nat.le_refl _) (.cells #[.int .i64 f, .int .i64 b, .int .i64 at'] 33))
  have HK1 := Lib.hid (blk_new w (.cells #[.int .i64 f, .int .i64 b, .int .i64 at'] 33))
  have HT1 := Lib.hid ((ht.below hbw).below HB1.out)
  unfold Sty.val
  dsimp only
  clear ht hbw
  go_enter Tryd.func54, Tryd.ntmps54
  go_wp2_with fail
  refine (name_any f h1 _ HT1.out).mono ?_
  rintro e w2 ⟨s1, rfl, hs1, b2⟩
  have HB2 := Lib.hid (HB1.out.trans (b2.mono HB1.out.size))
  have HK2 := Lib.hid (blk_below HK1.out b2 (heap_lt HK1.out))
  have HT2 := Lib.hid (HT1.out.below b2)
  clear b2
  by_cases hf : colOk f = true
  rotate_left
  · have hf' : colOk f = false := by simpa using hf
    obtain rfl := ba_empty (hs1.2 hf')
    have HE := Lib.hid (show okS ⟨f, b, at'⟩ = false by unfold okS; rw [hf']; rfl)
    clear hs1 hf hf'
    go_wp2_with fail
    go_ret
    exact ⟨by rw [HE.out]; rfl, HB2.out⟩
  have n1 := ba_ne (s := s1) (fun e => by rw [hs1.1 e] at hf; cases hf)
  have HF := Lib.hid hf
  have x1 : w2.cell? ⟨w.heap.size, 1, none⟩ = some (.int .i64 b) := blk_cell HK2.out 1
  clear hs1 hf
  go_wp2_with fail
  refine (name_any b h2 _ HT2.out).mono ?_
  rintro e w3 ⟨s2, rfl, hs2, b3⟩
  have HB3 := Lib.hid (HB2.out.trans (b3.mono HB2.out.size))
  have x2 : w3.cell? ⟨w.heap.size, 2, none⟩ = some (.int .i64 at') := blk_cell (blk_below HK2.out b3 (heap_lt HK2.out)) 2
  clear b3
  by_cases hb : colOk b = true
  rotate_left
  · have hb' : colOk b = false := by simpa using hb
    obtain rfl := ba_empty (hs2.2 hb')
    have HE := Lib.hid (show okS ⟨f, b, at'⟩ = false by unfold okS; rw [HF.out, hb']; rfl)
    clear hs2 hb hb'
    go_wp2_with fail
    go_ret
    exact ⟨by rw [HE.out]; rfl, HB3.out⟩
  have m1 := ba_ne (s := s2) (fun e => by rw [hs2.1 e] at hb; cases hb)
  have HE := Lib.hid (show okS ⟨f, b, at'⟩ = (decide (0 ≤ at') && decide (at' ≤ 255)) by unfold okS; rw [HF.out, hb]; rfl)
  clear hs2 hb
  by_cases h0 : 0 ≤ at'
  · have d1 : decide (0 ≤ at') = true := decide_eq_true h0
    by_cases h3 : at' ≤ 255
    · have d2 : decide (at' ≤ 255) = true := decide_eq_true h3
      have HE2 := Lib.hid (HE.out.trans (by rw [d1, d2]; rfl : _ = true))
      go_wp2_with fail
      go_ret
      exact ⟨by rw [HE2.out]; rfl, HB3.out⟩
    · have d2 : decide (at' ≤ 255) = false := decide_eq_false h3
      have HE2 := Lib.hid (HE.out.trans (by rw [d1, d2]; rfl : _ = false))
      go_wp2_with fail
      go_ret
      exact ⟨by rw [HE2.out]; rfl, HB3.out⟩
  · have d1 : decide (0 ≤ at') = false := decide_eq_false h0
    have HE2 := Lib.hid (HE.out.trans (by rw [d1]; rfl : _ = false))
    go_wp2_with fail
    go_ret
    exact ⟨by rw [HE2.out]; rfl, HB3.out⟩
end Go.Proofs.YtjclgoiclbkgjaaDoor
