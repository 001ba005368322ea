/- The walk of the law VtBack. -/
import Derived.Test.YtkdicejlfagaeaaDoorL4
import Derived.Test.YtkdicejlfagaeaaDoorP9
namespace Go.Proofs.YtkdicejlfagaeaaDoor
open Go.RowKit

set_option maxRecDepth 100000 in
set_option maxHeartbeats 8000000 in
theorem vtBack_walk (a0 : ByteArray) (w : World) (htab : Tab Tryd.prog w) (w0 : a0.size ≤ maxLen) :
    Calls Tryd.prog 5 #[.string a0] w fun e w' => e = .returned (.bool true) ∧ Below w.heap.size w w' := by
  have HTAB := Lib.hid htab
  clear htab
  go_enter Tryd.func5, Tryd.ntmps5
  go_wp2_with fail
  refine (shown_any _ HTAB.out).mono ?_
  rintro e w2 ⟨rfl, b2⟩
  have HB2 := Lib.hid b2
  clear b2
  go_wp2_with fail
  refine (new_any _).mono ?_
  rintro e w3 ⟨p, Tp, rfl, b3, hp3, ht3⟩
  have HB3 := Lib.hid (HB2.out.trans (b3.mono HB2.out.size))
  have HP3 := Lib.hid hp3
  have HTp := Lib.hid (show ∀ k, Tp k ≠ 0 → w.heap.size ≤ k from fun k hk => Nat.le_trans HB2.out.size (ht3 k hk))
  clear b3 hp3 ht3
  go_wp2_with fail
  refine (new_any _).mono ?_
  rintro e w4 ⟨q, Tq, rfl, b4, hq4, ht4⟩
  have HB4 := Lib.hid (HB3.out.trans (b4.mono HB3.out.size))
  have HP4 := Lib.hid (HP3.out.below b4)
  have HQ4 := Lib.hid hq4
  have HD4 := Lib.hid (show ∀ k, Tq k ≠ 0 → Tp k = 0 from fun k hk => HP3.out.own0 (ht4 k hk))
  have HTq := Lib.hid (show ∀ k, Tq k ≠ 0 → w.heap.size ≤ k from fun k hk => Nat.le_trans HB3.out.size (ht4 k hk))
  clear b4 hq4 ht4 HP3 HB3 HB2
  by_cases hs : a0.size ≤ 20000
  rotate_left
  · have hs' : decide (20000 < (a0.size : Int)) = true := decide_eq_true (by omega)
    have hs2 : decide (20000 < a0.size) = true := decide_eq_true (by omega)
    go_wp2_with fail
    go_ret
    exact ⟨rfl, HB4.out⟩
  have hs' : decide (20000 < (a0.size : Int)) = false := decide_eq_false (by omega)
  have hs2 : decide (20000 < a0.size) = false := decide_eq_false (by omega)
  obtain ⟨v5, w5, hcv5, b5, hrow5⟩ := conv_row w4 a0 w0
  have HR5 := Lib.hid (hrow5 Tp p s0 HP4.out)
  have HB5 := Lib.hid (HB4.out.trans (b5.mono HB4.out.size))
  have HP5 := Lib.hid (HP4.out.below b5)
  have HQ5 := Lib.hid (HQ4.out.below b5)
  have HF5 := Lib.hid (feed_acts v5 a0.data.toList HP5.out HR5.out (by rw [size_eq']; omega))
  clear b5 hrow5 HP4 HQ4
  go_wp2_with fail
  refine HF5.out.mono ?_
  rintro e w6 ⟨va, Tp6, La, rfl, ha6, hw6, ht6, hr6, hac6, ho6, hx6⟩
  have HB6 := Lib.hid (HB5.out.trans (own_below hw6 HB5.out.size HTp.out))
  have HQ6 := Lib.hid (rest_other HQ5.out hw6 HD4.out)
  have HA6 := Lib.hid (acts_for hac6 ho6 hx6 (own_apart HQ5.out HD4.out))
  obtain ⟨hgood, hln⟩ := told_good a0.data.toList
  rw [← ha6] at hgood hln
  rw [List.length_map, size_eq'] at hln
  have HGA := Lib.hid (show ∀ a ∈ La.map (·.1), AOk a from hgood)
  have HFIT := Lib.hid (show ∀ x ∈ La, ActFits x.1 from fun x hx => bnd_fits (hgood x.1 (List.mem_map_of_mem hx)).bnd)
  have hpl : (prL (La.map (·.1))).length ≤ 100000000 := by
    have := prL_len (La.map (·.1))
    rw [List.length_map] at this
    omega
  clear hw6 ht6 hr6 hac6 ho6 hx6 ha6 HP5 HQ5 HF5 HR5 HD4 HTp hgood
  have HPR6 := Lib.hid (print_any va La w6 HA6.out.isActs HFIT.out (by omega) (tab_go HTAB.out HB6.out))
  go_wp2_with fail
  refine HPR6.out.mono ?_
  rintro e w7 ⟨r7, rfl, o7, b7⟩
  have HB7 := Lib.hid (HB6.out.trans (b7.mono HB6.out.size))
  have HR7 := Lib.hid (show Row Tq 0 1 r7 (prL (La.map (·.1))).length (byteVals (prL (La.map (·.1)))) w7 from ⟨ownC_mono o7 (Nat.zero_le _), fun k hk => HQ6.out.own0 (ownC_lt o7 k hk).1⟩)
  have HQ7 := Lib.hid (HQ6.out.below b7)
  have HA7 := Lib.hid (HA6.out.below b7)
  have HF7 := Lib.hid (feed_acts r7 _ HQ7.out HR7.out hpl)
  clear o7 b7 HPR6 HQ6 HA6
  obtain ⟨s1, he1, hc1⟩ := run_back (La.map (·.1)) s0 HGA.out ⟨rfl, rfl⟩
  obtain ⟨s2, he2, hc2⟩ := run_back (La.map (·.1)) s1 HGA.out hc1
  rw [he1] at HF7
  have HC1 := Lib.hid hc1
  clear hc2 he1
  have HE2 := Lib.hid he2
  clear he2 hc1
  go_wp2_with fail
  refine HF7.out.mono ?_
  rintro e w8 ⟨vm, Tq8, Lm, rfl, ha8, hw8, ht8, hr8, hac8, ho8, hx8⟩
  have HB8 := Lib.hid (HB7.out.trans (own_below hw8 HB7.out.size HTq.out))
  have HQ8 := Lib.hid hr8
  have HA8 := Lib.hid (HA7.out.next hw8 ht8)
  have HTq8 := Lib.hid (own_from ht8 HB7.out.size HTq.out)
  have HM8 := Lib.hid hac8
  have HE8 := Lib.hid (show La.map (·.1) = Lm.map (·.1) from ha8.symm)
  clear hw8 ht8 hr8 hac8 ho8 hx8 ha8 HQ7 HA7 HF7 HR7 HTq
  go_wp2_with fail
  refine (all_eq va vm La Lm _ HA8.out.isActs HM8.out.isActs HE8.out).mono ?_
  rintro e w9 ⟨rfl, b9⟩
  have HB9 := Lib.hid (HB8.out.trans (b9.mono HB8.out.size))
  have HQ9 := Lib.hid (HQ8.out.below b9)
  have HA9 := Lib.hid (HA8.out.below b9)
  clear b9 HM8 HE8 HQ8 HA8
  have hst := state_any HQ9.out
  rw [HC1.out.1, show (⟨(stateName 0).toArray⟩ : ByteArray) = ⟨#[103, 114, 111, 117, 110, 100]⟩ from rfl] at hst
  have HST := Lib.hid hst
  clear hst
  go_wp2_with fail
  refine HST.out.mono ?_
  rintro e w10 ⟨rfl, g10⟩
  have HB10 := Lib.hid (HB9.out.trans ((below_gb0 g10).mono HB9.out.size))
  have HQ10 := Lib.hid (HQ9.out.below (below_gb0 g10))
  have HA10 := Lib.hid (HA9.out.below (below_gb0 g10))
  clear g10 HST HQ9 HA9
  have HPR10 := Lib.hid (print_any va La w10 HA10.out.isActs HFIT.out (by omega) (tab_go HTAB.out HB10.out))
  go_wp2_with fail
  refine HPR10.out.mono ?_
  rintro e w11 ⟨r11, rfl, o11, b11⟩
  have HB11 := Lib.hid (HB10.out.trans (b11.mono HB10.out.size))
  have HR11 := Lib.hid (show Row Tq8 0 1 r11 (prL (La.map (·.1))).length (byteVals (prL (La.map (·.1)))) w11 from ⟨ownC_mono o11 (Nat.zero_le _), fun k hk => HQ10.out.own0 (ownC_lt o11 k hk).1⟩)
  have HQ11 := Lib.hid (HQ10.out.below b11)
  have HA11 := Lib.hid (HA10.out.below b11)
  have HF11 := Lib.hid (feed_acts r11 _ HQ11.out HR11.out hpl)
  rw [HE2.out] at HF11
  clear o11 b11 HPR10 HQ10 HA10
  go_wp2_with fail
  refine HF11.out.mono ?_
  rintro e w12 ⟨vn, Tq12, Ln, rfl, ha12, hw12, ht12, hr12, hac12, ho12, hx12⟩
  have HB12 := Lib.hid (HB11.out.trans (own_below hw12 HB11.out.size HTq8.out))
  have HA12 := Lib.hid (HA11.out.next hw12 ht12)
  have HM12 := Lib.hid hac12
  have HE12 := Lib.hid (show La.map (·.1) = Ln.map (·.1) from ha12.symm)
  clear hw12 ht12 hr12 hac12 ho12 hx12 ha12 HQ11 HA11 HF11 HR11
  go_wp2_with fail
  refine (all_eq va vn La Ln _ HA12.out.isActs HM12.out.isActs HE12.out).mono ?_
  rintro e w13 ⟨rfl, b13⟩
  have HB13 := Lib.hid (HB12.out.trans (b13.mono HB12.out.size))
  clear b13
  go_wp2_with fail
  go_ret
  exact ⟨rfl, HB13.out⟩
end Go.Proofs.YtkdicejlfagaeaaDoor
