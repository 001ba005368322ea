/- The reference's Width; the law CellWidths' walk. -/
import Derived.Test.YthildbehkmhioaaA9
namespace Go.Proofs.Ythildbehkmhioaa
open Go.RowKit

def flatI (l : List (Int × Int)) : List Int := l.flatMap fun x => [x.1, x.2]
theorem flatI_len (l : List (Int × Int)) : (flatI l).length = 2 * l.length := by
  induction l with
  | nil => rfl
  | cons x l ih => simp [flatI] at *; omega
theorem flatI_get : ∀ (l : List (Int × Int)) (i : Nat), i < l.length → (flatI l).getD (2 * i) 0 = (l.getD i (0, 0)).1 ∧ (flatI l).getD (2 * i + 1) 0 = (l.getD i (0, 0)).2
  | x :: l, 0, _ => by simp [flatI]
  | x :: l, i + 1, h => by
    have := flatI_get l i (by simpa using h)
    rw [show 2 * (i + 1) = 2 * i + 1 + 1 from by omega]
    simpa [flatI] using this

set_option maxHeartbeats 400000 in
theorem refIn_any (r : Int) (b n m : Nat) (l : List (Int × Int)) (w : World) (hn : n ≤ 100) (hl : l.length = n) (hm : m = 2 * n) (hI : IsInts .i32 w (.slice (some ⟨b, 0, none⟩) m m) (flatI l)) :
    Calls Try.prog 30 #[.int .i32 r, .slice (some ⟨b, 0, none⟩) m m] w fun e w' => e = .returned (.bool (inR r l)) ∧ w = w' := by
  subst hm
  have hc : ∀ i, i < n → w.cell? ⟨b, 2 * i, none⟩ = some (.int .i32 (l.getD i (0, 0)).1) ∧ w.cell? ⟨b, 2 * i + 1, none⟩ = some (.int .i32 (l.getD i (0, 0)).2) := by
    intro i hi
    rcases hI with ⟨h, _⟩ | ⟨b', o', c', h, _, _, _, h5⟩
    · simp at h
    · simp only [Value.slice.injEq, Option.some.injEq, Addr.mk.injEq, and_true] at h
      obtain ⟨⟨rfl, rfl⟩, h6, h7⟩ := h
      have g1 := h5 (2 * i) (by omega)
      have g2 := h5 (2 * i + 1) (by omega)
      obtain ⟨e1, e2⟩ := flatI_get l i (by omega)
      rw [e1, Nat.zero_add] at g1
      rw [e2, Nat.zero_add] at g2
      exact ⟨g1, g2⟩
  have HL := Lib.hid hl
  have HC := Lib.hid hc
  clear hl hc hI
  go_enter Try.func30, Try.ntmps30
  go_wp2
  go_loop [5] (fun i => ∃ k : Nat, k ≤ n ∧ i = .int .i64 ((2 * k : Nat) : Int) ∧ inR r (l.take k) = false) (fun i => 2 * n - (intOf i).toNat)
  case atStart => exact ⟨0, by omega, rfl, rfl⟩
  case round =>
    obtain ⟨k, hk, rfl, hno⟩ := hrel
    have HNO := Lib.hid hno
    clear hno
    by_cases hlt : k < n
    · obtain ⟨c1, c2⟩ := HC.out k hlt
      generalize hx : (l.getD k (0, 0)).1 = x at c1
      generalize hy : (l.getD k (0, 0)).2 = y at c2
      have HX := Lib.hid hx
      have HY := Lib.hid hy
      clear hx hy
      have hkl : k < l.length := by rw [HL.out]; exact hlt
      generalize hkk : 2 * k = kk at *
      have HKK := Lib.hid hkk
      have hk2 : kk + 1 < 2 * n := by omega
      clear hkk
      go_wp2
      · go_ret
        exact ⟨ret_bool (inR_hit r l k hkl (by rw [HX.out]; assumption) (by rw [HY.out]; assumption)).symm, rfl⟩
      all_goals
        refine ⟨⟨k + 1, by omega, int_eq (by have := HKK.out; omega), ?_⟩, by simp [intOf]; omega⟩
        rw [inR_succ r l k hkl, HNO.out, HX.out, HY.out]
        simp; omega
    · have hk2 : k = n := by omega
      have HK2 := Lib.hid hk2
      generalize hkk : 2 * k = kk at *
      have hk3 : 2 * n ≤ kk := by omega
      have hk4 : kk ≤ 2 * n := by omega
      clear hk2 hkk
      go_wp2
      go_ret
      refine ⟨ret_bool ?_, rfl⟩
      have := HNO.out
      rw [List.take_of_length_le (by have := HL.out; have := HK2.out; omega)] at this
      exact this.symm

def two3 : List (Int × Int) := [(4352, 4447), (11904, 12350), (12353, 13311), (13312, 19903), (19968, 40959), (40960, 42191), (44032, 55203), (63744, 64255), (65072, 65135), (65280, 65376), (65504, 65510), (127744, 128591), (129280, 129535), (131072, 262141)]
theorem two3_eq (r : Int) : inR r two3 = inR r two2 := by
  rw [Bool.eq_iff_iff]
  simp [inR, two3, two2]
  omega
theorem ctl_eq (r : Int) : inR r ctl = (decide (127 ≤ r) && decide (r ≤ 159)) := by simp [inR, ctl]

set_option maxHeartbeats 1000000 in
theorem refWidth_any (r : Int) (w : World) :
    Calls Try.prog 11 #[.int .i32 r] w fun e w' => e = .returned (.int .i64 (wid r)) ∧ Below w.heap.size w w' := by
  have HC := Lib.hid (ctl_eq r)
  have H2 := Lib.hid (two3_eq r)
  by_cases h1 : r < 32
  · go_enter Try.func11, Try.ntmps11
    go_wp2
    go_ret
    exact ⟨ret_int (by simp [wid, h1]), Below.refl _ _⟩
  by_cases h2 : 127 ≤ r ∧ r ≤ 159
  · obtain ⟨h2, h3⟩ := h2
    go_enter Try.func11, Try.ntmps11
    go_wp2
    go_ret
    exact ⟨ret_int (by unfold wid; rw [if_pos (.inr (.inr (by rw [HC.out]; simp [h2, h3])))]), Below.refl _ _⟩
  by_cases h4 : 1114111 < r
  · go_enter Try.func11, Try.ntmps11
    go_wp2
    all_goals
      go_ret
      exact ⟨ret_int (by unfold wid; rw [if_pos (.inr (.inl h4))]), Below.refl _ _⟩
  have HN := Lib.hid (show ¬ (r < 32 ∨ 1114111 < r ∨ inR r ctl = true) by
    rintro (h | h | h)
    · exact h1 h
    · exact h4 h
    · rw [HC.out] at h; simp at h; exact h2 h)
  have h5 : r < 127 ∨ (127 ≤ r ∧ 159 < r) := by omega
  clear h2
  rcases h5 with h5 | ⟨h5, h6⟩
  all_goals
    go_enter Try.func11, Try.ntmps11
    go_wp2_with fail
    refine (refIn_any r _ 3 6 nil0 _ (by decide) rfl rfl (isInts_lit _ _ _ _ _ _ rfl rfl (by decide) rfl)).mono ?_
    rintro e w1 ⟨rfl, rfl⟩
    go_wp2_with fail
    · go_ret
      exact ⟨ret_int (by unfold wid; rw [if_neg HN.out, if_pos ‹inR r nil0 = true›]), (Below.refl _ _).alloc (Nat.le_refl _) _⟩
    refine (refIn_any r _ 14 28 two3 _ (by decide) rfl rfl (isInts_lit _ _ _ _ _ _ (by simp) rfl (by decide) rfl)).mono ?_
    rintro e w1 ⟨rfl, rfl⟩
    go_wp2_with fail
    all_goals
      go_ret
      exact ⟨ret_int (by unfold wid; rw [if_neg HN.out, ← H2.out, if_neg (by simp only [‹inR r nil0 = false›]; decide)]; simp only [‹inR r two3 = _›]; rfl), ((Below.refl _ _).alloc (Nat.le_refl _) _).alloc (by simp) _⟩

set_option maxHeartbeats 1000000 in
theorem cellWidths_walk (r : Int) (w : World) (_hr : (Lit.int .i32 r).wf = true) :
    Calls Try.prog 3 #[.int .i32 r] w fun e w' => e = .returned (.bool true) ∧ Below w.heap.size w w' := by
  go_enter Try.func3, Try.ntmps3
  go_wp2_with fail
  refine (shown_any _).mono ?_
  rintro e w1 ⟨rfl, b1⟩
  have B1 := Lib.hid b1
  clear b1
  go_wp2_with fail
  refine (width_any r _).mono ?_
  rintro e w2 ⟨rfl, b2⟩
  have B2 := Lib.hid (B1.out.trans (b2.mono B1.out.size))
  clear b2
  go_wp2_with fail
  refine (refWidth_any r _).mono ?_
  rintro e w3 ⟨rfl, b3⟩
  have B3 := Lib.hid (B2.out.trans (b3.mono B2.out.size))
  clear b3
  go_wp2_with fail
  go_ret
  exact ⟨ret_bool (by simp), B3.out⟩
end Go.Proofs.Ythildbehkmhioaa
