/- The reference's Whole and Runes. -/
import Derived.Test.YthildbehkmhioaaB3
namespace Go.Proofs.Ythildbehkmhioaa
open Go.RowKit

theorem extract_to (s : ByteArray) (k : Nat) (_h : k ≤ s.size) : (s.extract k s.size).data.toList = s.data.toList.drop k := by
  rw [ByteArray.data_extract, Array.toList_extract]
  apply List.take_of_length_le
  have : s.data.toList.length = s.size := by rw [Array.length_toList]; rfl
  rw [List.length_drop]; omega
theorem ret2v {P : Program} {fn : Func} {R : Ending → World → Prop} {a : Act} {w : World} {t u : Tmp} {v1 v2 : Value} (h : fn.results = #[.tmp t, .tmp u]) (hd : a.defers = []) (h1 : a.tmps.getD t undef = v1) (h2 : a.tmps.getD u undef = v2) (hR : R (.returned (.tuple #[v1, v2])) w) :
    bodyPost P fn R .ret a w := by
  subst h1 h2; exact bodyPost_ret (results_tmp2 h _ _ _) hd hR
theorem empty_iff (r : ByteArray) (h : ¬ r.size = 0) : (!r.toList.isEmpty) = true := by
  rw [ByteArray.toList_eq]
  have : r.data.toList.length = r.size := by rw [Array.length_toList]; rfl
  cases hl : r.data.toList with
  | nil => rw [hl] at this; simp at this; omega
  | cons x l => rfl
theorem ret_vi {v v' : Value} {a b : Int} (h : v = v') (h2 : a = b) : Ending.returned (.tuple #[v, .int .i64 a]) = .returned (.tuple #[v', .int .i64 b]) := by rw [h, h2]

set_option maxHeartbeats 2000000 in
theorem whole_any (s : ByteArray) (w : World) (hs : s.size ≤ 1099511627776) :
    Calls Try.prog 18 #[.string s] w fun e w' => ∃ v, e = .returned (.tuple #[v, .int .i64 (whole s.data.toList).2]) ∧
      w'.ownsRow w.heap.size 21 1 v (whole s.data.toList).1.length ((whole s.data.toList).1.map (Value.int .i32)) ∧ Below w.heap.size w w' := by
  go_enter Try.func18, Try.ntmps18
  go_wp2_with fail
  go_loopw [0, 4] (fun vs lv wr => ∃ (r : ByteArray) (L : List Int), vs = .string r ∧ r.size + L.length ≤ s.size ∧ Below w.heap.size w wr ∧ wr.ownsRow w.heap.size 21 1 lv L.length (L.map (Value.int .i32)) ∧
    whole s.data.toList = (L ++ (whole r.data.toList).1, (whole r.data.toList).2)) (fun vs _ _ => match vs with | .string r => r.size | _ => 0)
  case atStart => exact ⟨s, [], rfl, by simp, Below.refl _ _, World.ownsRow_nil _ _ _ _, by simp⟩
  case round =>
    obtain ⟨r, L, rfl, hsz, hb, ho, hw⟩ := hrel
    have HB := Lib.hid hb
    have HO := Lib.hid ho
    have HW := Lib.hid hw
    clear hb ho hw
    by_cases h0 : r.size = 0
    · have hr : r.data.toList = [] := List.eq_nil_of_length_eq_zero (by simpa using h0)
      have HF := Lib.hid (show whole s.data.toList = (L, 0) by rw [HW.out, hr, whole_nil]; simp)
      have he : r = ByteArray.empty := by apply ByteArray.ext; apply Array.ext'; rw [hr]; rfl
      subst he
      clear hr HW
      go_wp2_with fail
      refine ret2v rfl rfl rfl rfl ⟨_, ret_vi rfl (by rw [HF.out]; rfl), ?_, HB.out⟩
      rw [HF.out]; exact HO.out
    · have hne := empty_iff r h0
      have hls : r.data.toList.length = r.size := by rw [Array.length_toList]; rfl
      have hnil : r.data.toList ≠ [] := by intro h; rw [h] at hls; simp at hls; omega
      have hle := takeT_le r.data.toList
      have HN := Lib.hid hnil
      clear hnil
      go_wp2_with fail
      refine (take_any r _ (by omega) (by omega)).mono ?_
      rintro e w2 ⟨rfl, rfl⟩
      have HWC := Lib.hid (whole_cons r.data.toList HN.out)
      have HWP := Lib.hid (whole_pend r.data.toList HN.out)
      generalize hT : takeT r.data.toList = T at *
      obtain ⟨x, n⟩ := T
      dsimp only at hle HWC HWP
      by_cases hn : n = 0
      · subst hn
        have HF := Lib.hid (show whole s.data.toList = (L, r.size) by rw [HW.out, HWP.out rfl, hls]; simp)
        clear HW HWC HWP hT
        go_wp2_with fail
        refine ret2v rfl rfl rfl rfl ⟨_, ret_vi rfl (by rw [HF.out]), ?_, HB.out⟩
        rw [HF.out]; exact HO.out
      · have hn2 : ((n : Int) == 0) = false := by simp; omega
        have HT := Lib.hid hT
        clear hT
        go_wp2_with (at_builtin; refine held ?_)
        unfold Held
        refine wpList_app runes_elem rfl rfl w.heap.size (own_alloc HO.out _) rfl (reads_one _ _ _) rfl (int_one _ _) (by unfold maxLen; omega) (by omega) (by have := HB.out.size; simp; omega) ?_
        intro lv w3 o3 g3
        have B3 := Lib.hid ((HB.out.alloc HB.out.size _).grown g3 (by have := HB.out.size; simp; omega) (fun q hq => (HO.out.lt q hq).1))
        have O3 := Lib.hid o3
        clear o3 g3
        go_wp2_with fail
        have hx := extract_to r n (by omega)
        have hxs : (r.extract n r.size).size = r.size - n := by
          have : (r.extract n r.size).data.toList.length = (r.extract n r.size).size := by rw [Array.length_toList]; rfl
          rw [← this, hx, List.length_drop]; omega
        refine ⟨⟨r.extract n r.size, L ++ [x], rfl, by rw [hxs, List.length_append, List.length_singleton]; omega, B3.out, ?_, ?_⟩, ?_⟩
        · rw [List.length_append, List.map_append]; exact O3.out
        · rw [HW.out, HWC.out hn, hx]; simp
        · show (r.extract n r.size).size < r.size
          omega

set_option maxHeartbeats 1000000 in
theorem refRunes_any (s : ByteArray) (w : World) (hs : s.size ≤ 1099511627776) :
    Calls Try.prog 20 #[.string s] w fun e w' => ∃ v, e = .returned v ∧
      w'.ownsRow w.heap.size 21 1 v (runes s.data.toList).length ((runes s.data.toList).map (Value.int .i32)) ∧ Below w.heap.size w w' := by
  have HR := Lib.hid (show runes s.data.toList = (whole s.data.toList).1 ++ if (whole s.data.toList).2 = 0 then [] else [65533] from runes_eq _)
  have hlen := runesB_len s
  rw [HR.out, List.length_append] at hlen
  go_enter Try.func20, Try.ntmps20
  go_wp2_with fail
  refine (whole_any s _ hs).mono ?_
  rintro e w1 ⟨v, rfl, ho, hb⟩
  have HB := Lib.hid hb
  have HO := Lib.hid ho
  clear ho hb
  generalize whole s.data.toList = W at *
  obtain ⟨L, n⟩ := W
  dsimp only at HO HR hlen
  by_cases hn : n = 0
  · subst hn
    go_wp2_with fail
    refine ret1v rfl rfl rfl ⟨_, rfl, ?_, HB.out⟩
    rw [HR.out, if_pos trivial, List.append_nil]; exact HO.out
  · have hn2 : (0 : Int) < (n : Int) := by omega
    go_wp2_with (at_builtin; refine held ?_)
    unfold Held
    refine wpList_app runes_elem rfl rfl w.heap.size (own_alloc HO.out _) rfl (reads_one _ _ _) rfl (int_one _ _) (by unfold maxLen; omega) (by omega) (by have := HB.out.size; simp; omega) ?_
    intro lv w3 o3 g3
    have B3 := Lib.hid ((HB.out.alloc HB.out.size _).grown g3 (by have := HB.out.size; simp; omega) (fun q hq => (HO.out.lt q hq).1))
    have O3 := Lib.hid o3
    clear o3 g3
    go_wp2_with fail
    refine ret1v rfl rfl rfl ⟨_, rfl, ?_, B3.out⟩
    rw [HR.out, if_neg hn, List.length_append, List.map_append]; exact O3.out
end Go.Proofs.Ythildbehkmhioaa
