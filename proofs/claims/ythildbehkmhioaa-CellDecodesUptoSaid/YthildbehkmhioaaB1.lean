/- The law CellJoins' walk. -/
import Derived.Test.YthildbehkmhioaaA10
namespace Go.Proofs.Ythildbehkmhioaa
open Go.RowKit

theorem run_runes_arg {w : World} {v : Value} {l : List Int} (h : IsArg .i32 w v l) :
    (convert 25 9 v).run Try.prog w = .ok (.string (encS l)) w := by
  rcases h with ⟨rfl, rfl⟩ | ⟨a, c, rfl, h1, h2, h3, _⟩
  · exact run_convert_runes_nil w 25 9 21 0 0 Try.underlying25 Try.underlying21 Try.underlying9
  · have := run_convert_runes (P := Try.prog) w 25 9 21 a l.length c l (Nat.le_refl _) Try.underlying25 Try.underlying21 Try.underlying9 h3
    rw [List.take_length, runesBytes_eq] at this
    exact this
theorem isArg_below {k : IntKind} {w w' : World} {v : Value} {l : List Int} (h : IsArg k w v l) (hb : Below w.heap.size w w') : IsArg k w' v l := by
  rcases h with h | ⟨a, c, h1, h2, h3, h4, h5⟩
  · exact .inl h
  · refine .inr ⟨a, c, h1, h2, h3, fun j hj => ?_, h5⟩
    have := h4 j hj
    rw [hb.cell (World.block_lt_of_cell? w _ this)]; exact this

theorem runes_join (a : List Int) (b : List UInt8) : runes (encAll a ++ b) = runes (encAll a) ++ runes b := by
  have h1 := whole_encAll a b
  have h2 := runes_encAll a
  rw [h2, runes_eq, runes_eq, runesR, runesR, h1]; simp
theorem append_list (a b : ByteArray) : (a ++ b).data.toList = a.data.toList ++ b.data.toList := by simp

set_option maxHeartbeats 2000000 in
theorem cellJoins_walk (v : Value) (a : List Int) (b : ByteArray) (w : World) (ha : IsArg .i32 w v a) (hal : a.length ≤ 1048576) (hbl : b.size ≤ 1048576) :
    Calls Try.prog 4 #[v, .string b] w fun e w' => e = .returned (.bool true) ∧ Below w.heap.size w w' := by
  have hes : (encS a).size ≤ 4194304 := by rw [encS_size]; have := (encAll_le a).1; omega
  have HJ := Lib.hid (show runes (encS a ++ b).data.toList = runes (encS a).data.toList ++ runes b.data.toList by rw [append_list]; exact runes_join a b.data.toList)
  have HJ2 := Lib.hid (show runes ((encS a).data.toList ++ b.data.toList) = runes (encS a).data.toList ++ runes b.data.toList from runes_join a b.data.toList)
  have l1 := runesB_len (encS a)
  have l2 := runesB_len b
  have HA := Lib.hid ha
  clear ha
  go_enter Try.func4, Try.ntmps4
  go_wp2_with fail
  refine (shown_any _).mono ?_
  rintro e w1 ⟨rfl, b1⟩
  have B1 := Lib.hid b1
  have hcv := run_runes_arg (isArg_below HA.out b1)
  clear b1
  go_wp2_with fail
  refine (runes_any _ _ (by omega)).mono ?_
  rintro e w2 ⟨v2, rfl, o2, b2⟩
  have O2 := Lib.hid o2
  have B2 := Lib.hid (B1.out.trans (b2.mono B1.out.size))
  clear o2 b2
  go_wp2_with fail
  refine (runes_any _ _ (by omega)).mono ?_
  rintro e w3 ⟨v3, rfl, o3, b3⟩
  have I2 := Lib.hid (isInts_below (isInts_own O2.out) b3)
  have O3 := Lib.hid o3
  have B3 := Lib.hid (B2.out.trans (b3.mono B2.out.size))
  clear o3 b3 O2
  have hcat : (encS a ++ b).size ≤ 5242880 := by rw [ByteArray.size_append]; omega
  have hcat2 : (encS a).size + b.size ≤ 5242880 := by omega
  go_wp2_with fail
  refine (runes_any _ _ (by omega)).mono ?_
  rintro e w4 ⟨v4, rfl, o4, b4⟩
  have I2' := Lib.hid (isInts_below I2.out b4)
  have I3 := Lib.hid (isInts_below (isInts_own O3.out) b4)
  have I4 := Lib.hid (isInts_own o4)
  have B4 := Lib.hid (B3.out.trans (b4.mono B3.out.size))
  clear o4 b4 O3 I2
  go_wp2_with (at_builtin; refine held ?_)
  unfold Held
  refine wpList_app runes_elem rfl rfl w4.heap.size (n := 0) (ownsRow_new #[] [] rfl (Nat.le_refl _) (by decide) rfl rfl) rfl (isInts_reads (isInts_below I2'.out ((Below.refl _ _).alloc (Nat.le_refl _) _))) rfl (ints_oneCell _ _) (by unfold maxLen; omega) (by omega) (by simp) ?_
  intro v5 w5 o5 g5
  simp only [Nat.zero_add, List.nil_append] at o5
  have B5 := Lib.hid (((Below.refl w4.heap.size w4).alloc (Nat.le_refl _) (.cells #[] 21)).grown g5 (by simp) (by intro q hq; simp [Value.ownBlock] at hq; omega))
  have O5 := Lib.hid o5
  clear o5 g5
  go_wp2_with (at_builtin; refine held ?_)
  unfold Held
  refine wpList_app runes_elem rfl rfl w4.heap.size O5.out rfl (isInts_reads (isInts_below I3.out B5.out)) rfl (ints_oneCell _ _) (by unfold maxLen; omega) (by omega) B5.out.size ?_
  intro v6 w6 o6 g6
  have B6 := Lib.hid (B5.out.grown g6 B5.out.size (fun q hq => (O5.out.lt q hq).1))
  rw [← List.length_append, ← List.map_append] at o6
  have O6 := Lib.hid (isInts_own o6)
  clear o6 g6
  go_wp2_with fail
  refine (same_b _ _ _ _ _ (isInts_below I4.out B6.out) O6.out).mono ?_
  rintro e w7 ⟨rfl, b7⟩
  have B7 := Lib.hid ((B4.out.trans (B6.out.mono B4.out.size)).trans (b7.mono (Nat.le_trans B4.out.size B6.out.size)))
  clear b7
  rw [HJ.out, decide_eq_true (rfl : runes (encS a).data.toList ++ runes b.data.toList = _)]
  go_wp2_with fail
  refine (columns_any _ _ (by omega)).mono ?_
  rintro e w8 ⟨rfl, b8⟩
  have B8 := Lib.hid (B7.out.trans (b8.mono B7.out.size))
  clear b8
  go_wp2_with fail
  refine (columns_any _ _ (by omega)).mono ?_
  rintro e w9 ⟨rfl, b9⟩
  have B9 := Lib.hid (B8.out.trans (b9.mono B8.out.size))
  clear b9
  go_wp2_with fail
  refine (columns_any _ _ (by omega)).mono ?_
  rintro e w10 ⟨rfl, b10⟩
  have B10 := Lib.hid (B9.out.trans (b10.mono B9.out.size))
  clear b10
  rw [show runes ((encS a).data.toList ++ b.data.toList) = _ from HJ2.out, cols_append]
  have r1 := cols_range (runes (encS a).data.toList)
  have r2 := cols_range (runes b.data.toList)
  go_wp2_with fail
  go_ret
  exact ⟨ret_bool (by simp), B10.out⟩
end Go.Proofs.Ythildbehkmhioaa
