/- The walk of the law VtRecovers. -/
import Derived.Test.YtkdicejlfagaeaaDoorW14
namespace Go.Proofs.YtkdicejlfagaeaaDoor
open Go.RowKit

set_option maxRecDepth 100000 in
set_option maxHeartbeats 4000000 in
theorem vtRecovers_walk (a0 a1 : ByteArray) (w : World) (htab : Tab Tryd.prog w) (w0 : a0.size ≤ 140737488351232) (w1 : a1.size ≤ 140737488351232) :
    Calls Tryd.prog 7 #[.string a0, .string a1] w fun e w' => e = .returned (.bool true) ∧ Below w.heap.size w w' := by
  have HTAB := Lib.hid htab
  clear htab
  go_enter Tryd.func7, Tryd.ntmps7
  go_wp2_with fail
  refine (shown_any _ HTAB.out).mono ?_
  rintro e w2 ⟨rfl, b2⟩
  have HB2 := Lib.hid b2
  clear b2 HTAB
  go_wp2_with fail
  refine (new_any _).mono ?_
  rintro e w3 ⟨p, Tp, rfl, b3, hp3, ht3⟩
  have HB3 := Lib.hid (HB2.out.trans (b3.mono HB2.out.size))
  have HP3 := Lib.hid hp3
  have HTp := Lib.hid (show ∀ k, Tp k ≠ 0 → w.heap.size ≤ k from fun k hk => Nat.le_trans HB2.out.size (ht3 k hk))
  clear b3 hp3 ht3
  go_wp2_with fail
  refine (new_any _).mono ?_
  rintro e w4 ⟨q, Tq, rfl, b4, hq4, ht4⟩
  have HB4 := Lib.hid (HB3.out.trans (b4.mono HB3.out.size))
  have HP4 := Lib.hid (HP3.out.below b4)
  have HQ4 := Lib.hid hq4
  have HD4 := Lib.hid (show ∀ k, Tq k ≠ 0 → Tp k = 0 from fun k hk => HP3.out.own0 (ht4 k hk))
  have HTq := Lib.hid (show ∀ k, Tq k ≠ 0 → w.heap.size ≤ k from fun k hk => Nat.le_trans HB3.out.size (ht4 k hk))
  clear b4 hq4 ht4 HP3 HB3 HB2
  by_cases hs : a1.size + a0.size ≤ 20000
  rotate_left
  · have hs' : decide (20000 < (a1.size : Int) + (a0.size : Int)) = true := decide_eq_true (by omega)
    have hs2 : decide (20000 < a1.size + a0.size) = true := decide_eq_true (by omega)
    go_wp2_with fail
    go_ret
    exact ⟨rfl, HB4.out⟩
  have hs' : decide (20000 < (a1.size : Int) + (a0.size : Int)) = false := decide_eq_false (by omega)
  have hs2 : decide (20000 < a1.size + a0.size) = false := decide_eq_false (by omega)
  have hbig : ¬ (9223372036854775807 < a0.size + 1) := by omega
  have HC := Lib.hid (can_sim a0.data.toList)
  obtain ⟨v5, w5, hcv5, b5, hrow5⟩ := conv_row w4 (a0 ++ ⟨#[24]⟩) (by rw [ByteArray.size_append]; unfold maxLen; show a0.size + 1 ≤ _; omega)
  have hl5 : (a0 ++ ⟨#[24]⟩ : ByteArray).data.toList = a0.data.toList ++ [24] := by rw [cat_list]
  have HR5 := Lib.hid (hrow5 Tp p s0 HP4.out)
  rw [hl5] at HR5
  have HB5 := Lib.hid (HB4.out.trans (b5.mono HB4.out.size))
  have HP5 := Lib.hid (HP4.out.below b5)
  have HQ5 := Lib.hid (HQ4.out.below b5)
  have HF5 := Lib.hid (feed_acts v5 (a0.data.toList ++ [24]) HP5.out HR5.out (by rw [List.length_append, size_eq']; show a0.size + 1 ≤ _; omega))
  clear b5 hrow5 HP4 HQ4
  go_wp2_with fail
  refine HF5.out.mono ?_
  rintro e w6 ⟨vo6, Tp6, L6, rfl, _, hw6, ht6, hr6, _, _, _⟩
  have HB6 := Lib.hid (HB5.out.trans (own_below hw6 HB5.out.size HTp.out))
  have HP6 := Lib.hid hr6
  have HQ6 := Lib.hid (rest_other HQ5.out hw6 HD4.out)
  have HD6 := Lib.hid (apart_next HQ5.out HD4.out ht6)
  have HTp6 := Lib.hid (own_from ht6 HB5.out.size HTp.out)
  clear hw6 ht6 hr6 HP5 HQ5 HF5 HR5 HD4 HTp
  have hst := state_any HP6.out
  rw [HC.out.1, show (⟨(stateName 0).toArray⟩ : ByteArray) = ⟨#[103, 114, 111, 117, 110, 100]⟩ from rfl] at hst
  have HST := Lib.hid hst
  clear hst
  go_wp2_with fail
  refine HST.out.mono ?_
  rintro e w7 ⟨rfl, g7⟩
  have HB7 := Lib.hid (HB6.out.trans ((below_gb0 g7).mono HB6.out.size))
  have HP7 := Lib.hid (HP6.out.below (below_gb0 g7))
  have HQ7 := Lib.hid (HQ6.out.below (below_gb0 g7))
  clear g7 HST HP6 HQ6
  have hm1 : a1.size ≤ maxLen := by unfold maxLen; omega
  obtain ⟨v8, w8, hcv8, b8, hrow8⟩ := conv_row w7 a1 hm1
  have HR8 := Lib.hid (hrow8 Tp6 p _ HP7.out)
  have HB8 := Lib.hid (HB7.out.trans (b8.mono HB7.out.size))
  have HP8 := Lib.hid (HP7.out.below b8)
  have HQ8 := Lib.hid (HQ7.out.below b8)
  have HF8 := Lib.hid (feed_acts v8 a1.data.toList HP8.out HR8.out (by rw [size_eq']; omega))
  clear b8 hrow8 HP7 HQ7
  go_wp2_with fail
  refine HF8.out.mono ?_
  rintro e w9 ⟨va, Tp9, La, rfl, ha9, hw9, ht9, hr9, hac9, ho9, hx9⟩
  have HB9 := Lib.hid (HB8.out.trans (own_below hw9 HB8.out.size HTp6.out))
  have HP9 := Lib.hid hr9
  have HQ9 := Lib.hid (rest_other HQ8.out hw9 HD6.out)
  have HD9 := Lib.hid (apart_next HQ8.out HD6.out ht9)
  have HTp9 := Lib.hid (own_from ht9 HB8.out.size HTp6.out)
  have HA9 := Lib.hid (acts_for hac9 ho9 hx9 (own_apart HQ8.out HD6.out))
  have HLa := Lib.hid ha9
  clear hw9 ht9 hr9 hac9 ho9 hx9 ha9 HP8 HQ8 HF8 HR8 HD6 HTp6
  obtain ⟨v10, w10, hcv10, b10, hrow10⟩ := conv_row w9 a1 hm1
  have HR10 := Lib.hid (hrow10 Tq q _ HQ9.out)
  have HB10 := Lib.hid (HB9.out.trans (b10.mono HB9.out.size))
  have HP10 := Lib.hid (HP9.out.below b10)
  have HQ10 := Lib.hid (HQ9.out.below b10)
  have HA10 := Lib.hid (HA9.out.below b10)
  have HF10 := Lib.hid (feed_acts v10 a1.data.toList HQ10.out HR10.out (by rw [size_eq']; omega))
  have HDq := Lib.hid (show ∀ k, Tp9 k ≠ 0 → Tq k = 0 from fun k hk => by
    by_cases h0 : Tq k = 0
    · exact h0
    · exact absurd (HD9.out k h0) hk)
  clear b10 hrow10 HP9 HQ9 HA9
  go_wp2_with fail
  refine HF10.out.mono ?_
  rintro e w11 ⟨vb, Tq11, Lb, rfl, ha11, hw11, ht11, hr11, hac11, ho11, hx11⟩
  have HB11 := Lib.hid (HB10.out.trans (own_below hw11 HB10.out.size HTq.out))
  have HP11 := Lib.hid (rest_other HP10.out hw11 HDq.out)
  have HA11 := Lib.hid (HA10.out.next hw11 ht11)
  have HAb := Lib.hid hac11
  have HLb := Lib.hid ha11
  clear hw11 ht11 hr11 hac11 ho11 hx11 ha11 HP10 HQ10 HF10 HR10 HA10
  have HEQ := Lib.hid (show La.map (·.1) = Lb.map (·.1) by rw [HLa.out, HLb.out]; exact (run_sim a1.data.toList HC.out.2).1)
  go_wp2_with fail
  refine (all_eq va vb La Lb _ HA11.out.isActs HAb.out.isActs HEQ.out).mono ?_
  rintro e w12 ⟨rfl, b12⟩
  have HB12 := Lib.hid (HB11.out.trans (b12.mono HB11.out.size))
  have HP12 := Lib.hid (HP11.out.below b12)
  clear b12 HP11
  go_wp2_with fail
  refine (reset_any HP12.out).mono ?_
  rintro e w13 ⟨Tp13, rfl, hw13, hr13, ht13⟩
  have HB13 := Lib.hid (HB12.out.trans (own_below hw13 HB12.out.size HTp9.out))
  have HP13 := Lib.hid hr13
  clear hw13 hr13 ht13
  have hst := state_any HP13.out
  rw [show (⟨(stateName s0.state).toArray⟩ : ByteArray) = ⟨#[103, 114, 111, 117, 110, 100]⟩ from rfl] at hst
  have HST := Lib.hid hst
  clear hst
  go_wp2_with fail
  refine HST.out.mono ?_
  rintro e w14 ⟨rfl, g14⟩
  have HB14 := Lib.hid (HB13.out.trans ((below_gb0 g14).mono HB13.out.size))
  clear g14
  go_wp2_with fail
  go_ret
  exact ⟨rfl, HB14.out⟩
end Go.Proofs.YtkdicejlfagaeaaDoor
