/- The reference's Sum, Columns, Cut, CutLeft, Fit. -/
import Derived.Test.YthildbehkmhioaaB4
namespace Go.Proofs.Ythildbehkmhioaa
open Go.RowKit

set_option maxHeartbeats 1000000 in
theorem sum_any (v : Value) (l : List Int) (w : World) (hI : IsInts .i32 w v l) (hl : l.length ≤ 4611686018427387903) :
    Calls Try.prog 34 #[v] w fun e w' => e = .returned (.int .i64 (cols l)) ∧ Below w.heap.size w w' := by
  have HI := Lib.hid hI
  have hlen := ints_len (P := Try.prog) Try.underlying25 hI 3
  clear hI
  go_enter Try.func34, Try.ntmps34
  go_wp2_with fail
  go_loopw [3, 4] (fun nv i wr => ∃ k : Nat, k ≤ l.length ∧ i = .int .i64 k ∧ nv = .int .i64 (cols (l.take k)) ∧ Below w.heap.size w wr) (fun _ i _ => l.length - (intOf i).toNat)
  case atStart => exact ⟨0, by omega, rfl, rfl, Below.refl _ _⟩
  case round =>
    obtain ⟨k, hk, rfl, rfl, hb⟩ := hrel
    have HB := Lib.hid hb
    clear hb
    by_cases hlt : k < l.length
    · obtain ⟨ad, hidx, hcell⟩ := ints_at (P := Try.prog) Try.underlying25 (by kernel_rfl) (isInts_below HI.out HB.out) k hlt
      have HC := Lib.hid (cols_take_succ l k hlt)
      have hc1 := cols_range (l.take k)
      have hc2 : (l.take k).length ≤ k := List.length_take_le _ _
      generalize l.getD k 0 = r at *
      have hc3 := wide0_range r
      have hw : wide0 r = max (wid r) 0 := rfl
      have HWD := Lib.hid hw
      clear hw
      generalize cols (l.take k) = c at *
      go_wp2_with fail
      refine (refWidth_any r _).mono ?_
      rintro e w2 ⟨rfl, b2⟩
      have HB2 := Lib.hid (HB.out.trans (b2.mono HB.out.size))
      clear b2
      have hx : 0 ≤ max (wid r) 0 ∧ max (wid r) 0 ≤ 2 := hc3
      go_wp2_with fail
      go_roundw
      case rel => exact ⟨k + 1, by omega, by go_num, by rw [HC.out, HWD.out], HB2.out⟩
      case measure => simp [intOf]; omega
    · have HT := Lib.hid (show cols (l.take k) = cols l by rw [List.take_of_length_le (by omega)])
      go_wp2_with fail
      go_ret
      exact ⟨ret_int HT.out, HB.out⟩

set_option maxHeartbeats 400000 in
theorem refColumns_any (s : ByteArray) (w : World) (hs : s.size ≤ 1099511627776) :
    Calls Try.prog 22 #[.string s] w fun e w' => e = .returned (.int .i64 (cols (runes s.data.toList))) ∧ Below w.heap.size w w' := by
  have hlen := runesB_len s
  go_enter Try.func22, Try.ntmps22
  go_wp2_with fail
  refine (refRunes_any s _ hs).mono ?_
  rintro e w1 ⟨v, rfl, ho, hb⟩
  have HB := Lib.hid hb
  have HI := Lib.hid (isInts_own ho)
  clear hb ho
  go_wp2_with fail
  refine (sum_any _ _ _ HI.out (by omega)).mono ?_
  rintro e w2 ⟨rfl, b2⟩
  have HB2 := Lib.hid (HB.out.trans (b2.mono HB.out.size))
  clear b2
  go_wp2_with fail
  go_ret
  exact ⟨rfl, HB2.out⟩

theorem run_runes_ints {w : World} {v : Value} {l : List Int} (h : IsInts .i32 w v l) :
    (convert 25 9 v).run Try.prog w = .ok (.string (encS l)) w := by
  rcases h with ⟨rfl, rfl⟩ | ⟨b, o, c, rfl, _, _, _, h3⟩
  · exact run_convert_runes_nil w 25 9 21 0 0 Try.underlying25 Try.underlying21 Try.underlying9
  · have := run_convert_runes (P := Try.prog) w 25 9 21 ⟨b, o, none⟩ l.length c l (Nat.le_refl _) Try.underlying25 Try.underlying21 Try.underlying9 (fun j hj => by rw [add_eq]; exact h3 j hj)
    rw [List.take_length, runesBytes_eq] at this
    exact this

set_option maxHeartbeats 2000000 in
theorem refCut_any (s : ByteArray) (n : Int) (w : World) (hs : s.size ≤ 1099511627776) :
    Calls Try.prog 24 #[.string s, .int .i64 n] w fun e w' => e = .returned (.string (cutT s.data.toList n)) ∧ Below w.heap.size w w' := by
  have hlen := runesB_len s
  have HFIN := Lib.hid (show cutT s.data.toList n = encS ((runes s.data.toList).take (cutN (runes s.data.toList) n)) from rfl)
  go_enter Try.func24, Try.ntmps24
  go_wp2_with fail
  refine (refRunes_any s _ hs).mono ?_
  rintro e w1 ⟨v, rfl, ho, hb⟩
  have HB := Lib.hid hb
  have HI := Lib.hid (isInts_own ho)
  have hlv := ints_len (P := Try.prog) Try.underlying25 (isInts_own ho) 3
  clear hb ho
  generalize runes s.data.toList = l at *
  go_wp2_with fail
  go_loopw [6, 7] (fun kv cv wr => ∃ k : Nat, k ≤ l.length ∧ kv = .int .i64 k ∧ cv = .int .i64 (cols (l.take k)) ∧ (k = 0 ∨ cols (l.take k) ≤ n) ∧ Below w1.heap.size w1 wr) (fun kv _ _ => l.length - (intOf kv).toNat)
  case atStart => exact ⟨0, by omega, rfl, rfl, .inl rfl, Below.refl _ _⟩
  case round =>
    obtain ⟨k, hk, rfl, rfl, hcn, hb⟩ := hrel
    have HB2 := Lib.hid hb
    clear hb
    obtain ⟨v', hsl, hsi⟩ := ints_take (P := Try.prog) Try.underlying25 (by kernel_rfl) (isInts_below HI.out HB2.out) k hk
    have HS := Lib.hid hsi
    clear hsi
    by_cases hlt : k < l.length
    · obtain ⟨ad, hidx, hcell⟩ := ints_at (P := Try.prog) Try.underlying25 (by kernel_rfl) (isInts_below HI.out HB2.out) k hlt
      have hadb := World.block_lt_of_cell? wr _ hcell
      have HC := Lib.hid (cols_take_succ l k hlt)
      have HST := Lib.hid (show ¬ cols (l.take k) + wide0 (l.getD k 0) ≤ n → cutN l n = k by
        intro h
        rcases hcn with h0 | h0
        · subst h0
          by_cases hneg : n < 0
          · exact cutN_neg l n hneg
          · exact cutN_stop l 0 n hlt (by simp [cols]; omega) (by simp [cols] at h ⊢; omega)
        · exact cutN_stop l k n hlt h0 (by omega))
      have hc1 := cols_range (l.take k)
      have hc2 : (l.take k).length ≤ k := List.length_take_le _ _
      generalize l.getD k 0 = r at *
      have hc3 : 0 ≤ max (wid r) 0 ∧ max (wid r) 0 ≤ 2 := wide0_range r
      rw [show wide0 r = max (wid r) 0 from rfl] at HC HST
      generalize cols (l.take k) = c at *
      go_wp2_with fail
      refine (refWidth_any r _).mono ?_
      rintro e w2 ⟨rfl, b2⟩
      have hcell2 := (b2.cell hadb).trans hcell
      have HB3 := Lib.hid (HB2.out.trans (b2.mono HB2.out.size))
      have HS2 := Lib.hid (isInts_below HS.out b2)
      clear b2
      by_cases hgo : c + max (wid r) 0 ≤ n
      · go_wp2_with fail
        refine (refWidth_any r _).mono ?_
        rintro e w3 ⟨rfl, b3⟩
        have HB4 := Lib.hid (HB3.out.trans (b3.mono HB3.out.size))
        clear b3
        go_wp2_with fail
        go_roundw
        case rel => exact ⟨k + 1, by omega, by go_num, by rw [HC.out], .inr (by rw [HC.out]; exact hgo), HB4.out⟩
        case measure => simp [intOf]; omega
      · have hcv := run_runes_ints HS2.out
        go_wp2_with fail
        go_ret
        exact ⟨ret_str (by rw [HFIN.out, HST.out hgo]), HB.out.trans (HB3.out.mono HB.out.size)⟩
    · have hcv := run_runes_ints HS.out
      have HT := Lib.hid (show cutN l n = k by
        rcases hcn with h0 | h0
        · have : l = [] := List.eq_nil_of_length_eq_zero (by omega)
          subst this; rw [h0]; rfl
        · rw [cutN_all l n (by rw [List.take_of_length_le (by omega)] at h0; exact h0)]; omega)
      go_wp2_with fail
      go_ret
      exact ⟨ret_str (by rw [HFIN.out, HT.out]), HB.out.trans (HB2.out.mono HB.out.size)⟩

set_option maxHeartbeats 2000000 in
theorem refCutLeft_any (s : ByteArray) (n : Int) (w : World) (hs : s.size ≤ 1099511627776) :
    Calls Try.prog 26 #[.string s, .int .i64 n] w fun e w' => e = .returned (.string (cutLT s.data.toList n)) ∧ Below w.heap.size w w' := by
  have hlen := runesB_len s
  have HFIN := Lib.hid (show cutLT s.data.toList n = encS ((runes s.data.toList).drop ((runes s.data.toList).length - cutN (runes s.data.toList).reverse n)) from rfl)
  go_enter Try.func26, Try.ntmps26
  go_wp2_with fail
  refine (refRunes_any s _ hs).mono ?_
  rintro e w1 ⟨v, rfl, ho, hb⟩
  have HB := Lib.hid hb
  have HI := Lib.hid (isInts_own ho)
  have hlv := ints_len (P := Try.prog) Try.underlying25 (isInts_own ho) 3
  clear hb ho
  generalize runes s.data.toList = l at *
  go_wp2_with fail
  go_loopw [6, 7] (fun kv cv wr => ∃ k j : Nat, k + j = l.length ∧ kv = .int .i64 j ∧ cv = .int .i64 (cols (l.reverse.take k)) ∧ (k = 0 ∨ cols (l.reverse.take k) ≤ n) ∧ Below w1.heap.size w1 wr) (fun kv _ _ => (intOf kv).toNat)
  case atStart => exact ⟨0, l.length, by omega, rfl, rfl, .inl rfl, Below.refl _ _⟩
  case round =>
    obtain ⟨k, j, hk, rfl, rfl, hcn, hb⟩ := hrel
    have HB2 := Lib.hid hb
    clear hb
    obtain ⟨v', hsl, hsi⟩ := ints_drop (P := Try.prog) Try.underlying25 (by kernel_rfl) (isInts_below HI.out HB2.out) j (by omega)
    have HS := Lib.hid hsi
    clear hsi
    cases j with
    | succ j =>
      have hlt : k < l.length := by omega
      have hsl2 : ∀ wx, (Instr.slice 25 v (some (.int .i64 ((j : Int) + 1))) none none).run Try.prog wx = .ok v' wx := hsl
      obtain ⟨ad, hidx, hcell⟩ := ints_at (P := Try.prog) Try.underlying25 (by kernel_rfl) (isInts_below HI.out HB2.out) j (by omega)
      have hadb := World.block_lt_of_cell? wr _ hcell
      have hrev := rev_getD l k hlt
      rw [show l.length - k - 1 = j from by omega] at hrev
      have HC := Lib.hid (cols_take_succ l.reverse k (by simpa using hlt))
      have HST := Lib.hid (show ¬ cols (l.reverse.take k) + wide0 (l.reverse.getD k 0) ≤ n → cutN l.reverse n = k by
        intro h
        rcases hcn with h0 | h0
        · subst h0
          by_cases hneg : n < 0
          · exact cutN_neg _ n hneg
          · exact cutN_stop _ 0 n (by simpa using hlt) (by simp [cols]; omega) (by simp [cols] at h ⊢; omega)
        · exact cutN_stop _ k n (by simpa using hlt) h0 (by omega))
      rw [hrev] at HC HST
      clear hrev
      have hc1 := cols_range (l.reverse.take k)
      have hc2 : (l.reverse.take k).length ≤ k := List.length_take_le _ _
      generalize l.getD j 0 = r at *
      have hc3 : 0 ≤ max (wid r) 0 ∧ max (wid r) 0 ≤ 2 := wide0_range r
      rw [show wide0 r = max (wid r) 0 from rfl] at HC HST
      generalize cols (l.reverse.take k) = c at *
      go_wp2_with fail
      refine (refWidth_any r _).mono ?_
      rintro e w2 ⟨rfl, b2⟩
      have hcell2 := (b2.cell hadb).trans hcell
      have HB3 := Lib.hid (HB2.out.trans (b2.mono HB2.out.size))
      have HS2 := Lib.hid (isInts_below HS.out b2)
      clear b2
      by_cases hgo : c + max (wid r) 0 ≤ n
      · go_wp2_with fail
        refine (refWidth_any r _).mono ?_
        rintro e w3 ⟨rfl, b3⟩
        have HB4 := Lib.hid (HB3.out.trans (b3.mono HB3.out.size))
        clear b3
        go_wp2_with fail
        go_roundw
        case rel => exact ⟨k + 1, j, by omega, by go_num, by rw [HC.out], .inr (by rw [HC.out]; exact hgo), HB4.out⟩
        case measure => simp [intOf]
      · have hcv := run_runes_ints HS2.out
        go_wp2_with fail
        go_ret
        exact ⟨ret_str (by rw [HFIN.out, HST.out hgo, show l.length - k = j + 1 from by omega]), HB.out.trans (HB3.out.mono HB.out.size)⟩
    | zero =>
      have hsl2 : ∀ wx, (Instr.slice 25 v (some (.int .i64 0)) none none).run Try.prog wx = .ok v' wx := hsl
      have hcv := run_runes_ints HS.out
      have HT := Lib.hid (show l.length - cutN l.reverse n = 0 by
        rcases hcn with h0 | h0
        · omega
        · rw [cutN_all _ n (by rw [List.take_of_length_le (by simp; omega)] at h0; exact h0)]; simp)
      rw [show ((0 : Nat) : Int) = 0 from rfl]
      go_wp2_with fail
      go_ret
      exact ⟨ret_str (by rw [HFIN.out, HT.out, List.drop_zero]), HB.out.trans (HB2.out.mono HB.out.size)⟩

theorem bytes_elem : Elem Try.prog 54 5 1 1 (.int .u8 0) := ⟨Try.underlying54, by kernel_rfl, rfl, by decide⟩

end Go.Proofs.Ythildbehkmhioaa
