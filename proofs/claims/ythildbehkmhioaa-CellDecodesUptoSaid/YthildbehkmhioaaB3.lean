/- The reference's take, Whole and Runes. -/
import Derived.Test.YthildbehkmhioaaB2
namespace Go.Proofs.Ythildbehkmhioaa
open Go.RowKit

set_option maxHeartbeats 1000000 in
theorem ranges_any (b : Int) (w : World) (h0 : 0 ≤ b) (h1 : b ≤ 255) :
    Calls Try.prog 36 #[.int .u8 b] w fun e w' => e = .returned (.tuple #[.int .u8 (rngs b).1, .int .u8 (rngs b).2.1, .int .i64 (rngs b).2.2]) ∧ w = w' := by
  by_cases c1 : 194 ≤ b ∧ b ≤ 223
  · have HR := Lib.hid (show rngs b = (128, 191, 0) by unfold rngs; rw [if_pos c1])
    obtain ⟨c1, c1'⟩ := c1
    go_enter Try.func36, Try.ntmps36
    go_wp2
    go_ret3
    exact ⟨by rw [HR.out]; rfl, rfl⟩
  have c1' : b < 194 ∨ (194 ≤ b ∧ 223 < b) := by omega
  by_cases c2 : b = 224
  · subst c2
    go_enter Try.func36, Try.ntmps36
    go_wp2
    go_ret3
    exact ⟨rfl, rfl⟩
  by_cases c3 : b = 237
  · subst c3
    go_enter Try.func36, Try.ntmps36
    go_wp2
    go_ret3
    exact ⟨rfl, rfl⟩
  by_cases c5 : b = 240
  · subst c5
    go_enter Try.func36, Try.ntmps36
    go_wp2
    go_ret3
    exact ⟨rfl, rfl⟩
  by_cases c7 : b = 244
  · subst c7
    go_enter Try.func36, Try.ntmps36
    go_wp2
    go_ret3
    exact ⟨rfl, rfl⟩
  have e2 : (b == 224) = false := by simpa using c2
  have e3 : (b == 237) = false := by simpa using c3
  have e5 : (b == 240) = false := by simpa using c5
  have e7 : (b == 244) = false := by simpa using c7
  have hc : (225 ≤ b ∧ b ≤ 239 ∧ rngs b = (128, 191, 1)) ∨ (b < 225 ∧ b < 241 ∧ rngs b = (0, 0, -1)) ∨ (225 ≤ b ∧ 239 < b ∧ 241 ≤ b ∧ b ≤ 243 ∧ rngs b = (128, 191, 2)) ∨ (225 ≤ b ∧ 239 < b ∧ 241 ≤ b ∧ 243 < b ∧ rngs b = (0, 0, -1)) := by
    unfold rngs
    rw [if_neg c1, if_neg c2, if_neg c3, if_neg c5, if_neg c7]
    by_cases c4 : 225 ≤ b ∧ b ≤ 239
    · rw [if_pos c4]; exact .inl ⟨c4.1, c4.2, rfl⟩
    rw [if_neg c4]
    by_cases c6 : 241 ≤ b ∧ b ≤ 243
    · rw [if_pos c6]; exact .inr (.inr (.inl ⟨by omega, by omega, c6.1, c6.2, rfl⟩))
    rw [if_neg c6]
    by_cases c8 : b < 225
    · exact .inr (.inl ⟨c8, by omega, rfl⟩)
    · exact .inr (.inr (.inr ⟨by omega, by omega, by omega, by omega, rfl⟩))
  clear c1 c2 c3 c5 c7
  rcases hc with ⟨d1, d2, hr⟩ | ⟨d1, d2, hr⟩ | ⟨d1, d2, d3, d4, hr⟩ | ⟨d1, d2, d3, d4, hr⟩
  all_goals
    have HR := Lib.hid hr
    clear hr
    rcases c1' with c1' | ⟨c1', c1''⟩
    all_goals
      go_enter Try.func36, Try.ntmps36
      go_wp2
      all_goals
        go_ret3
        exact ⟨by rw [HR.out]; rfl, rfl⟩

theorem rngs_cases (b : Int) (h2 : ¬ (rngs b).2.2 < 0) : (rngs b).2.2 = 0 ∨ (rngs b).2.2 = 1 ∨ (rngs b).2.2 = 2 := by
  unfold rngs at h2 ⊢
  repeat' split
  all_goals first | (exact .inl rfl) | (exact .inr (.inl rfl)) | (exact .inr (.inr rfl)) | (exfalso; simp [*] at h2; done)
theorem rngs_bd (b : Int) : 0 ≤ (rngs b).1 ∧ (rngs b).2.1 ≤ 255 := by
  unfold rngs; repeat' split
  all_goals exact ⟨by decide, by decide⟩

theorem ret_ri {a b c d : Int} (h : a = b) (h2 : c = d) : Ending.returned (.tuple #[.int .i32 a, .int .i64 c]) = .returned (.tuple #[.int .i32 b, .int .i64 d]) := by rw [h, h2]
theorem byte_list (s : ByteArray) (i : Nat) (h : i < s.size) : ∃ h' : i < s.data.toList.length, s[i] = s.data.toList[i] := ⟨by simpa using h, rfl⟩

set_option maxHeartbeats 2000000 in
theorem take_any (s : ByteArray) (w : World) (h : 0 < s.size) (hm : s.size ≤ 9223372036854775807) :
    Calls Try.prog 33 #[.string s] w fun e w' => e = .returned (.tuple #[.int .i32 (takeT s.data.toList).1, .int .i64 (takeT s.data.toList).2]) ∧ w = w' := by
  have hs : ∃ b t, s.data.toList = b :: t ∧ b = s[0] := by
    obtain ⟨h', e⟩ := byte_list s 0 h
    cases hl : s.data.toList with
    | nil => rw [hl] at h'; simp at h'
    | cons b t => exact ⟨b, t, rfl, by rw [e]; simp [hl]⟩
  obtain ⟨b, t, hbt, hb⟩ := hs
  have HT := Lib.hid (takeT_cons b t)
  have HBT := Lib.hid hbt
  rw [hb] at HT
  have hlt := byte_le s[0]
  have hb0 : (0 : Int) ≤ s[0].toNat := by omega
  have hi0 : (0 : Int) < (s.size : Int) := by omega
  by_cases h1 : (s[0].toNat : Int) < 128
  · have HF := Lib.hid (show takeT s.data.toList = ((s[0].toNat : Int), 1) by rw [HBT.out, hb, HT.out, if_pos h1])
    clear hbt hb HT
    go_enter Try.func33, Try.ntmps33
    go_wp2_with fail
    go_ret2
    exact ⟨by rw [HF.out]; rfl, rfl⟩
  by_cases h2 : (rngs s[0].toNat).2.2 < 0
  · have HF := Lib.hid (show takeT s.data.toList = (65533, 1) by rw [HBT.out, hb, HT.out, if_neg h1, if_pos h2])
    clear hbt hb HT
    go_enter Try.func33, Try.ntmps33
    go_wp2_with fail
    refine (ranges_any _ _ hb0 hlt).mono ?_
    rintro e w1 ⟨rfl, rfl⟩
    go_wp2_with fail
    go_ret2
    exact ⟨by rw [HF.out]; rfl, rfl⟩
  have hrg := rngs_cases (s[0].toNat : Int) h2
  have hlo := rngs_bd (s[0].toNat : Int)
  have HF := Lib.hid (show takeT s.data.toList = goT ((rngs s[0].toNat).2.2.toNat + 1) (lead s[0].toNat (rngs s[0].toNat).2.2) (rngs s[0].toNat).1 (rngs s[0].toNat).2.1 (s.data.toList.drop 1) 1 by
    rw [HBT.out, hb, HT.out, if_neg h1, if_neg h2]; rfl)
  obtain ⟨lo0, hi1⟩ := hlo
  clear hbt hb HT
  rcases hrg with hr | hr | hr
  all_goals
    have HR := Lib.hid hr
    rw [hr] at HF
    go_enter Try.func33, Try.ntmps33
    go_wp2_with fail
    refine (ranges_any _ _ hb0 hlt).mono ?_
    rintro e w1 ⟨rfl, rfl⟩
    rw [hr]
    go_wp2_with fail
    go_loop [4, 5, 7, 8] (fun vlo vhi vr vi => ∃ (k i : Nat) (r lo hi : Int), vlo = .int .u8 lo ∧ vhi = .int .u8 hi ∧ vr = .int .i32 r ∧ vi = .int .i64 i ∧ i ≤ s.size ∧ 1 ≤ i ∧ ((k + i : Nat) : Int) = (rngs s[0].toNat).2.2 + 2 ∧
      0 ≤ lo ∧ hi ≤ 255 ∧ 0 ≤ r ∧ (i = 1 ∧ r ≤ 31 ∨ i = 2 ∧ r ≤ 2047 ∨ i = 3 ∧ r ≤ 131071 ∨ i = 4 ∧ r ≤ 8388607) ∧ takeT s.data.toList = goT k r lo hi (s.data.toList.drop i) i) (fun _ _ _ vi => 5 - (intOf vi).toNat)
    case atStart => exact ⟨_, 1, _, _, _, rfl, rfl, rfl, rfl, by omega, by omega, by rw [HR.out]; rfl, lo0, hi1, by omega, .inl ⟨rfl, by omega⟩, HF.out⟩
    case round =>
      obtain ⟨k, i, r, lo, hi, rfl, rfl, rfl, rfl, h3, h4, h5, h6, h7, h8, h9, h10⟩ := hrel
      rw [HR.out] at h5
      have HQ := Lib.hid h10
      clear h10 HF
      cases k with
      | zero =>
        have HF := Lib.hid (show takeT s.data.toList = (r, i) by rw [HQ.out]; rfl)
        clear HQ
        go_wp2_with fail
        go_ret2
        exact ⟨ret_ri (by rw [HF.out]) (by rw [HF.out]; simp at h5 ⊢; omega), rfl⟩
      | succ k =>
        by_cases hlt : i < s.size
        · obtain ⟨hlt', hby⟩ := byte_list s i hlt
          rw [List.drop_eq_getElem_cons hlt', ← hby] at HQ
          have hbl := byte_le s[i]
          by_cases hbad : (s[i].toNat : Int) < lo ∨ hi < (s[i].toNat : Int)
          · have HF := Lib.hid (show takeT s.data.toList = (65533, i) by rw [HQ.out]; unfold goT; rw [if_pos hbad])
            have hbad2 : (s[i].toNat : Int) < lo ∨ (¬ (s[i].toNat : Int) < lo ∧ hi < (s[i].toNat : Int)) := by omega
            clear HQ hbad hby
            rcases hbad2 with hbad | ⟨hb1, hb2⟩
            all_goals
              go_wp2_with fail
              go_ret2
              exact ⟨by rw [HF.out]; rfl, rfl⟩
          · have HF := Lib.hid (show takeT s.data.toList = goT k (r * 64 + (s[i].toNat : Int) % 64) 128 191 (s.data.toList.drop (i + 1)) (i + 1) by rw [HQ.out]; rw [goT]; rw [if_neg hbad])
            have hb1 : ¬ (s[i].toNat : Int) < lo := by omega
            have hb2 : ¬ hi < (s[i].toNat : Int) := by omega
            clear HQ hbad hby
            go_wp2_with fail
            exact ⟨⟨k, i + 1, _, _, _, rfl, rfl, rfl, by go_num, by omega, by omega, by rw [HR.out]; omega, by decide, by decide, by omega, by omega, HF.out⟩, by simp [intOf]; omega⟩
        · have HF := Lib.hid (show takeT s.data.toList = (0, 0) by rw [HQ.out, List.drop_eq_nil_of_le (by simp; omega)]; rfl)
          clear HQ
          go_wp2_with fail
          go_ret2
          exact ⟨by rw [HF.out]; rfl, rfl⟩
end Go.Proofs.Ythildbehkmhioaa
