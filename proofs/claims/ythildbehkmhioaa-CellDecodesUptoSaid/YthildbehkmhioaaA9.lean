/- Walks of the laws' head, and of the reference's Width. -/
import Derived.Test.YthildbehkmhioaaA8
namespace Go.Proofs.Ythildbehkmhioaa
open Go.RowKit

theorem drewN_below (w : World) (B n : Nat) : Below B w (w.drewN n) := below_drewN (Below.refl _ _) n

set_option maxHeartbeats 2000000 in
theorem shown_any (w : World) :
    Calls Try.prog 9 #[] w fun e w' => e = .returned (.bool true) ∧ Below w.heap.size w w' := by
  have k1 := Lib.hid (show runes [226, 130, 65] = [65533, 65] by decide)
  have k2 := Lib.hid (show runes [237, 160, 128] = [65533, 65533, 65533] by decide)
  go_enter Try.func9, Try.ntmps9
  go_wp2_with fail
  refine (runes_any _ _ (by decide)).mono ?_
  rintro e w1 ⟨v1, rfl, h1, b1⟩
  have I1 := Lib.hid (isInts_own h1)
  have B1 := Lib.hid b1
  rw [k1.out] at I1
  clear h1 b1
  go_wp2_with fail
  refine (same_b _ _ _ [65533, 65] _ (isInts_below I1.out ((Below.refl _ _).alloc (Nat.le_refl _) _)) (isInts_lit _ _ _ _ _ _ rfl rfl (by decide) rfl)).mono ?_
  rintro e w2 ⟨rfl, b2⟩
  have B2 := Lib.hid ((B1.out.alloc B1.out.size _).trans (b2.mono (by have := B1.out.size; simp; omega)))
  clear b2
  go_wp2_with fail
  refine (runes_any _ _ (by decide)).mono ?_
  rintro e w3 ⟨v3, rfl, h3, b3⟩
  have I3 := Lib.hid (isInts_own h3)
  have B3 := Lib.hid (B2.out.trans (b3.mono B2.out.size))
  rw [k2.out] at I3
  clear h3 b3
  go_wp2_with fail
  refine (same_b _ _ _ [65533, 65533, 65533] _ (isInts_below I3.out ((Below.refl _ _).alloc (Nat.le_refl _) _)) (isInts_lit _ _ _ _ _ _ rfl rfl (by decide) rfl)).mono ?_
  rintro e w4 ⟨rfl, b4⟩
  have B4 := Lib.hid ((B3.out.alloc B3.out.size _).trans (b4.mono (by have := B3.out.size; simp; omega)))
  clear b4
  go_wp2_with fail
  refine (width_any 65 _).mono ?_
  rintro e w5 ⟨rfl, b5⟩
  have B5 := Lib.hid (B4.out.trans (b5.mono B4.out.size))
  clear b5 B4
  rw [show wid 65 = 1 from by decide]
  go_wp2_with fail
  refine (width_any 20013 _).mono ?_
  rintro e w6 ⟨rfl, b6⟩
  have B6 := Lib.hid (B5.out.trans (b6.mono B5.out.size))
  clear b6 B5
  rw [show wid 20013 = 2 from by decide]
  go_wp2_with fail
  refine (width_any 769 _).mono ?_
  rintro e w7 ⟨rfl, b7⟩
  have B7 := Lib.hid (B6.out.trans (b7.mono B6.out.size))
  clear b7 B6
  rw [show wid 769 = 0 from by decide]
  go_wp2_with fail
  refine (width_any 7 _).mono ?_
  rintro e w8 ⟨rfl, b8⟩
  have B8 := Lib.hid (B7.out.trans (b8.mono B7.out.size))
  clear b8 B7
  rw [show wid 7 = -1 from by decide]
  go_wp2_with fail
  refine (columns_any _ _ (by decide)).mono ?_
  rintro e w9 ⟨rfl, b9⟩
  have B9 := Lib.hid (B8.out.trans (b9.mono B8.out.size))
  clear b9 B8
  rw [show cols (runes [97, 228, 184, 173, 98]) = 4 from by decide]
  go_wp2_with fail
  refine (cut_any _ _ _ (by decide) (by decide)).mono ?_
  rintro e w10 ⟨rfl, b10⟩
  have B10 := Lib.hid (B9.out.trans (b10.mono B9.out.size))
  clear b10 B9
  rw [show cutT [97, 228, 184, 173, 98] 2 = ⟨#[97]⟩ from by decide]
  go_wp2_with fail
  refine (fit_any _ _ _ (by decide) (by decide) (by decide)).mono ?_
  rintro e w11 ⟨rfl, b11⟩
  have B11 := Lib.hid (B10.out.trans (b11.mono B10.out.size))
  clear b11 B10
  rw [show fitT [97] 3 = ⟨#[97, 32, 32]⟩ from by decide]
  go_wp2_with fail
  go_ret
  exact ⟨rfl, B11.out⟩
end Go.Proofs.Ythildbehkmhioaa
