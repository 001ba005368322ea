/- Walks of the laws' helpers: same; and of the reference's Width. -/
import Derived.Test.YthildbehkmhioaaA7
namespace Go.Proofs.Ythildbehkmhioaa
open Go.RowKit

theorem drewN_add (w : World) (a b : Nat) : (w.drewN a).drewN b = w.drewN (a + b) := by
  simp [World.drewN, Nat.add_assoc]
set_option maxHeartbeats 1000000 in
theorem same_any (v1 v2 : Value) (l1 l2 : List Int) (w : World) (h1 : IsInts .i32 w v1 l1) (h2 : IsInts .i32 w v2 l2) :
    Calls Try.prog 13 #[v1, v2] w fun e w' => e = .returned (.bool (decide (l1 = l2))) ∧ ∃ n, w' = w.drewN n := by
  by_cases hl : l1.length = l2.length
  · rcases h1 with ⟨rfl, rfl⟩ | ⟨b1, o1, c1, rfl, hb1, hc1, hm1, hcell1⟩
    · have : l2 = [] := List.eq_nil_of_length_eq_zero (by simpa using hl.symm)
      subst this
      rcases h2 with ⟨rfl, _⟩ | ⟨b2, o2, c2, rfl, _, _, _, _⟩
      all_goals
        go_enter Try.func13, Try.ntmps13
        go_wp2
        go_loop [5] (fun i => i = .int .i64 0) (fun _ => 0)
        case atStart => rfl
        case round =>
          subst hrel
          go_wp2
          go_ret
          exact ⟨ret_bool rfl, 0, rfl⟩
    · rcases h2 with ⟨rfl, rfl⟩ | ⟨b2, o2, c2, rfl, hb2, hc2, hm2, hcell2⟩
      · have : l1 = [] := List.eq_nil_of_length_eq_zero (by simpa using hl)
        subst this
        go_enter Try.func13, Try.ntmps13
        go_wp2
        go_loop [5] (fun i => i = .int .i64 0) (fun _ => 0)
        case atStart => rfl
        case round =>
          subst hrel
          go_wp2
          go_ret
          exact ⟨ret_bool rfl, 0, rfl⟩
      · have HC1 := Lib.hid hcell1
        have HC2 := Lib.hid hcell2
        have HL := Lib.hid hl
        have hne : ((l1.length : Int) != (l2.length : Int)) = false := by rw [hl]; simp
        clear hcell1 hcell2 hl
        go_enter Try.func13, Try.ntmps13
        go_wp2
        go_loopw [5] (fun i wr => ∃ k n : Nat, k ≤ l1.length ∧ i = .int .i64 k ∧ wr = w.drewN n ∧ l1.take k = l2.take k) (fun i _ => l1.length - (intOf i).toNat)
        case atStart => exact ⟨0, 0, Nat.zero_le _, rfl, rfl, rfl⟩
        case round =>
          obtain ⟨k, n, hk, rfl, rfl, heq⟩ := hrel
          have HE := Lib.hid heq
          clear heq hne
          by_cases hlt : k < l1.length
          · have hlt2 : k < l2.length := by rw [← HL.out]; exact hlt
            have hc := HC1.out k hlt
            have hd := HC2.out k hlt2
            have HX := Lib.hid (take_succ_getD l1 0 k hlt)
            have HY := Lib.hid (take_succ_getD l2 0 k hlt2)
            generalize l1.getD k 0 = x at *
            generalize l2.getD k 0 = y at *
            have hi1 : (k : Int) < (l1.length : Int) := by omega
            have hi2 : (k : Int) < (l2.length : Int) := by omega
            by_cases hxy : x = y
            · subst hxy
              have hb : (x != x) = false := by simp
              go_wp2
              go_quiet (fail)
              go_wp2
              go_roundw
              case rel => exact ⟨k + 1, _, by omega, by go_num, rfl, by rw [HX.out, HY.out, HE.out]⟩
              case measure => simp [intOf]; omega
            · have hb : (x != y) = true := by simpa using hxy
              have HF := Lib.hid (show decide (l1 = l2) = false by
                simp only [decide_eq_false_iff_not]
                intro h
                subst h
                have := HX.out.symm.trans HY.out
                simp at this
                exact hxy this)
              go_wp2
              go_quiet (fail)
              go_wp2
              go_ret
              exact ⟨ret_bool HF.out.symm, _, drewN_add _ _ _⟩
          · have HF := Lib.hid (show decide (l1 = l2) = true by
              have h := HE.out
              have hll := HL.out
              rw [List.take_of_length_le (by omega), List.take_of_length_le (by omega)] at h
              simp [h])
            go_wp2
            go_ret
            exact ⟨ret_bool HF.out.symm, _, rfl⟩
  · have HF := Lib.hid (show decide (l1 = l2) = false by
      simp only [decide_eq_false_iff_not]
      intro h; subst h; exact hl rfl)
    rcases h1 with ⟨rfl, rfl⟩ | ⟨b1, o1, c1, rfl, _⟩ <;> rcases h2 with ⟨rfl, rfl⟩ | ⟨b2, o2, c2, rfl, _⟩
    · exact absurd rfl hl
    · have hb : ((0 : Int) != (l2.length : Int)) = true := by simp at hl ⊢; omega
      clear hl
      go_enter Try.func13, Try.ntmps13
      go_wp2
      go_ret
      exact ⟨ret_bool HF.out.symm, 0, rfl⟩
    · have hb : ((l1.length : Int) != (0 : Int)) = true := by simp at hl ⊢; omega
      clear hl
      go_enter Try.func13, Try.ntmps13
      go_wp2
      go_ret
      exact ⟨ret_bool HF.out.symm, 0, rfl⟩
    · have hb : ((l1.length : Int) != (l2.length : Int)) = true := by simp; omega
      clear hl
      go_enter Try.func13, Try.ntmps13
      go_wp2
      go_ret
      exact ⟨ret_bool HF.out.symm, 0, rfl⟩

theorem same_b (v1 v2 : Value) (l1 l2 : List Int) (w : World) (h1 : IsInts .i32 w v1 l1) (h2 : IsInts .i32 w v2 l2) :
    Calls Try.prog 13 #[v1, v2] w fun e w' => e = .returned (.bool (decide (l1 = l2))) ∧ Below w.heap.size w w' :=
  (same_any v1 v2 l1 l2 w h1 h2).mono fun _ _ ⟨h, n, hw⟩ => ⟨h, by subst hw; exact below_drewN (Below.refl _ _) n⟩
end Go.Proofs.Ythildbehkmhioaa
