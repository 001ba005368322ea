/- The law CellCuts' walk. -/
import Derived.Test.YthildbehkmhioaaB7
namespace Go.Proofs.Ythildbehkmhioaa
open Go.RowKit

theorem cut_cols : ∀ (l : List Int) (n : Int), 0 ≤ n → cols (l.take (cutN l n)) ≤ n ∧ (cutN l n = l.length ∨ n - 1 ≤ cols (l.take (cutN l n)))
  | [], n, h => by simp [cols, cutN]; exact h
  | r :: l, n, h => by
    have hr := wide0_range r
    rw [cutN]
    by_cases h1 : n < wide0 r
    · rw [if_pos h1]; simp [cols]; omega
    · rw [if_neg h1]
      have ih := cut_cols l (n - wide0 r) (by omega)
      have e : cols ((r :: l).take (cutN l (n - wide0 r) + 1)) = wide0 r + cols (l.take (cutN l (n - wide0 r))) := by simp [cols]
      rw [e]
      simp only [List.length_cons]
      omega
theorem runes_encS (l : List Int) (h : ∀ r ∈ l, Utf8.valid r = true) : runes (encS l).data.toList = l := by
  rw [encS_list, runes_encAll]; exact map_cp l h
theorem cutN_exact (l : List Int) (n : Int) (h : cols l ≤ n) : l.take (cutN l n) = l := by rw [cutN_all l n h, List.take_length]
theorem cols_reverse (l : List Int) : cols l.reverse = cols l := by
  induction l with
  | nil => rfl
  | cons x l ih => rw [List.reverse_cons, cols_append, ih]; simp [cols]; omega
theorem drop_rev (l : List Int) (k : Nat) : l.drop (l.length - k) = (l.reverse.take k).reverse := by
  rw [List.take_reverse, List.reverse_reverse]
theorem spaces_enc : ∀ k : Nat, encAll (List.replicate k 32) = List.replicate k 32
  | 0 => rfl
  | k + 1 => by rw [List.replicate_succ, encAll_cons, spaces_enc k, List.replicate_succ]; rfl
theorem cols_spaces : ∀ k : Nat, cols (List.replicate k 32) = k
  | 0 => rfl
  | k + 1 => by
    have := cols_spaces k
    have h32 : wide0 32 = 1 := by decide
    simp only [cols, List.replicate_succ, List.map_cons, List.sum_cons, h32] at *
    rw [this]; omega

/-- All that the law asks. -/
structure CutFacts (s : List UInt8) (n : Int) : Prop where
  a1 : cols (runes (cutT s n).data.toList) ≤ n
  b1 : cols (runes (cutLT s n).data.toList) ≤ n
  a2 : n ≤ cols (runes s) → n - 1 ≤ cols (runes (cutT s n).data.toList)
  b2 : n ≤ cols (runes s) → n - 1 ≤ cols (runes (cutLT s n).data.toList)
  a3 : cols (runes s) ≤ n → cols (runes (cutT s n).data.toList) = cols (runes s)
  b3 : cols (runes s) ≤ n → cols (runes (cutLT s n).data.toList) = cols (runes s)
  f1 : cols (runes (fitT s n).data.toList) = n
  f2 : ∃ k, fitT s n = cutT s n ++ spaces k
  c1 : cutT (cutT s n).data.toList n = cutT s n
  c2 : cutLT (cutLT s n).data.toList n = cutLT s n
  c3 : cutT (fitT s n).data.toList n = fitT s n
theorem cut_facts (s : List UInt8) (n : Int) (h0 : 0 ≤ n) (h1 : n ≤ 10000) : CutFacts s n := by
  have hv := runes_valid s
  have hc : cutT s n = encS ((runes s).take (cutN (runes s) n)) := rfl
  have hl : cutLT s n = encS ((runes s).drop ((runes s).length - cutN (runes s).reverse n)) := rfl
  have hf : fitT s n = cutT s n ++ spaces (n - cols (runes (cutT s n).data.toList)).toNat := by unfold fitT; rw [show min n 10000 = n from by omega]
  generalize hL : runes s = L at *
  have hlen : cutN L.reverse n ≤ L.length := by have := cutN_le L.reverse n; simpa using this
  rw [drop_rev L _] at hl
  have rc : runes (cutT s n).data.toList = L.take (cutN L n) := by rw [hc]; exact runes_encS _ (fun r hr => hv r (List.mem_of_mem_take hr))
  have rl : runes (cutLT s n).data.toList = (L.reverse.take (cutN L.reverse n)).reverse := by
    rw [hl]; exact runes_encS _ (fun r hr => hv r (by have := List.mem_of_mem_take (List.mem_reverse.1 hr); simpa using this))
  obtain ⟨p1, p2⟩ := cut_cols L n h0
  obtain ⟨q1, q2⟩ := cut_cols L.reverse n h0
  have hrev : cols L.reverse = cols L := cols_reverse L
  rw [rc] at hf
  have hk : ∃ k : Nat, (n - cols (L.take (cutN L n))).toNat = k ∧ (k : Int) = n - cols (L.take (cutN L n)) := ⟨_, rfl, by omega⟩
  obtain ⟨k, hk1, hk2⟩ := hk
  rw [hk1] at hf
  have hfe : fitT s n = encS (L.take (cutN L n) ++ List.replicate k 32) := by
    rw [hf, hc]
    apply ByteArray.ext
    apply Array.ext'
    rw [append_list, encS_list, encS_list, encAll_append, spaces_enc]
    rfl
  have rf : runes (fitT s n).data.toList = L.take (cutN L n) ++ List.replicate k 32 := by
    rw [hfe]
    refine runes_encS _ fun r hr => ?_
    rcases List.mem_append.1 hr with hr | hr
    · exact hv r (List.mem_of_mem_take hr)
    · rw [(List.mem_replicate.1 hr).2]; decide
  have fcols : cols (L.take (cutN L n) ++ List.replicate k 32) = n := by rw [cols_append, cols_spaces]; omega
  refine ⟨?_, ?_, ?_, ?_, ?_, ?_, ?_, ⟨k, hf⟩, ?_, ?_, ?_⟩
  · rw [rc]; exact p1
  · rw [rl, cols_reverse]; exact q1
  · intro h; rw [hL] at *; rw [rc]
    rcases p2 with h2 | h2
    · rw [h2, List.take_length]; omega
    · exact h2
  · intro h; rw [hL] at *; rw [rl, cols_reverse]
    rcases q2 with h2 | h2
    · rw [h2, List.take_length, hrev]; omega
    · exact h2
  · intro h; rw [hL] at *; rw [rc, cutN_exact L n h]
  · intro h; rw [hL] at *; rw [rl, cutN_exact L.reverse n (by omega), List.reverse_reverse]
  · rw [rf]; exact fcols
  · show encS ((runes (cutT s n).data.toList).take _) = _
    rw [rc, cutN_exact _ n p1, hc]
  · show encS ((runes (cutLT s n).data.toList).drop _) = _
    rw [rl, List.reverse_reverse, cutN_all _ n q1, hl, List.length_reverse, Nat.sub_self, List.drop_zero]
  · show encS ((runes (fitT s n).data.toList).take _) = _
    rw [rf, cutN_exact _ n (by rw [fcols]; exact Int.le_refl _), hfe]

theorem extract_pre (a b : ByteArray) : (a ++ b).extract 0 a.size = a := by
  apply ByteArray.ext
  apply Array.ext'
  rw [ByteArray.data_extract, Array.toList_extract, ByteArray.data_append, Array.toList_append, List.extract_eq_take_drop]
  have : a.data.toList.length = a.size := by rw [Array.length_toList]; rfl
  rw [List.drop_zero, Nat.sub_zero, ← this, List.take_left]

set_option maxRecDepth 100000 in
set_option maxHeartbeats 4000000 in
theorem cellCuts_walk (s : ByteArray) (n0 : Int) (w : World) (hs : s.size ≤ 1048576) (hw : (Lit.int .i64 n0).wf = true) :
    Calls Try.prog 8 #[.string s, .int .i64 n0] w fun e w' => e = .returned (.bool true) ∧ Below w.heap.size w w' := by
  obtain ⟨hn0, hn1⟩ := wf_i64 hw
  clear hw
  have hp := pickN_range n0 300 (by decide)
  have F := cut_facts s.data.toList (pickN n0 300) hp.1 (by omega)
  obtain ⟨k, hk⟩ := F.f2
  have hc0 := cutT_size s.data.toList (pickN n0 300)
  have hl0 : (cutLT s.data.toList (pickN n0 300)).size ≤ 4 * (runes s.data.toList).length := by
    unfold cutLT
    rw [encS_size]
    have := encAll_le ((runes s.data.toList).drop ((runes s.data.toList).length - cutN (runes s.data.toList).reverse (pickN n0 300)))
    rw [List.length_drop] at this
    omega
  have hc1 := runesB_len s
  have hf0 : (fitT s.data.toList (pickN n0 300)).size ≤ 9437184 := by
    have h1 := F.f1
    unfold fitT
    rw [ByteArray.size_append]
    have h2 : ∀ j, (spaces j).size = j := by intro j; simp [spaces, ByteArray.size]
    rw [h2, show min (pickN n0 300) 10000 = pickN n0 300 from by omega]
    have h3 := cols_range (runes (cutT s.data.toList (pickN n0 300)).data.toList)
    omega
  have HF := Lib.hid F
  have HK := Lib.hid hk
  have hn2 : 0 ≤ pickN n0 300 := hp.1
  have hn3 : pickN n0 300 < 300 := hp.2
  clear F hk hp
  go_enter Try.func8, Try.ntmps8
  go_wp2_with fail
  refine (shown_any _).mono ?_
  rintro e w1 ⟨rfl, b1⟩
  have B1 := Lib.hid b1
  clear b1
  go_wp2_with fail
  refine (pick_any n0 300 _ hn0 hn1 (by decide) (by decide)).mono ?_
  rintro e w2 ⟨rfl, rfl⟩
  generalize pickN n0 300 = n at *
  go_wp2_with fail
  refine (cut_any _ _ _ (by omega) (by omega)).mono ?_
  rintro e w2 ⟨rfl, b2⟩
  have B2 := Lib.hid (B1.out.trans (b2.mono B1.out.size))
  clear b2 B1
  go_wp2_with fail
  refine (cutLeft_any _ _ _ (by omega) (by omega) (by omega)).mono ?_
  rintro e w3 ⟨rfl, b3⟩
  have B3 := Lib.hid (B2.out.trans (b3.mono B2.out.size))
  clear b3 B2
  go_wp2_with fail
  refine (columns_any _ _ (by omega)).mono ?_
  rintro e w4 ⟨rfl, b4⟩
  have B4 := Lib.hid (B3.out.trans (b4.mono B3.out.size))
  clear b4 B3
  go_wp2_with fail
  refine (columns_any _ _ (by omega)).mono ?_
  rintro e w5 ⟨rfl, b5⟩
  have B5 := Lib.hid (B4.out.trans (b5.mono B4.out.size))
  clear b5 B4
  go_wp2_with fail
  refine (columns_any _ _ (by omega)).mono ?_
  rintro e w6 ⟨rfl, b6⟩
  have B6 := Lib.hid (B5.out.trans (b6.mono B5.out.size))
  clear b6 B5
  have fa1 := HF.out.a1
  have fb1 := HF.out.b1
  have fa2 := HF.out.a2
  have fb2 := HF.out.b2
  have fa3 := HF.out.a3
  have fb3 := HF.out.b3
  have ra := cols_range (runes (cutT s.data.toList n).data.toList)
  have rb := cols_range (runes (cutLT s.data.toList n).data.toList)
  generalize cols (runes (cutT s.data.toList n).data.toList) = a at *
  generalize cols (runes (cutLT s.data.toList n).data.toList) = b at *
  generalize cols (runes s.data.toList) = x at *
  have hcase : (x < n ∧ a = x ∧ b = x) ∨ (n ≤ x ∧ ¬ x ≤ n ∧ n - 1 ≤ a ∧ n - 1 ≤ b) ∨ (n = x ∧ n = a ∧ n = b) := by omega
  clear fa2 fb2 fa3 fb3
  rcases hcase with ⟨h1, rfl, rfl⟩ | ⟨h1, h2, h3, h4⟩ | ⟨rfl, rfl, rfl⟩
  all_goals
    have hfx := Lib.hid (show (fitT s.data.toList n).extract 0 (cutT s.data.toList n).size = cutT s.data.toList n by rw [HK.out]; exact extract_pre _ _)
    have hle : (cutT s.data.toList n).size ≤ (fitT s.data.toList n).size := by rw [HK.out, ByteArray.size_append]; omega
    have F1 := Lib.hid HF.out.f1
    have C1 := Lib.hid HF.out.c1
    have C2 := Lib.hid HF.out.c2
    have C3 := Lib.hid HF.out.c3
    clear HK HF
    go_wp2_with fail
    refine (fit_any _ _ _ (by omega) (by omega) (by omega)).mono ?_
    rintro e w7 ⟨rfl, b7⟩
    have B7 := Lib.hid (B6.out.trans (b7.mono B6.out.size))
    clear b7
    go_wp2_with fail
    refine (columns_any _ _ (by omega)).mono ?_
    rintro e w8 ⟨rfl, b8⟩
    have B8 := Lib.hid (B7.out.trans (b8.mono B7.out.size))
    clear b8
    rw [F1.out]
    have hfx2 := hfx.out
    go_wp2_with fail
    refine (cut_any _ _ _ (by omega) (by omega)).mono ?_
    rintro e w9 ⟨rfl, b9⟩
    have B9 := Lib.hid (B8.out.trans (b9.mono B8.out.size))
    clear b9
    rw [C1.out]
    go_wp2_with fail
    refine (cutLeft_any _ _ _ (by omega) (by omega) (by omega)).mono ?_
    rintro e w10 ⟨rfl, b10⟩
    have B10 := Lib.hid (B9.out.trans (b10.mono B9.out.size))
    clear b10
    rw [C2.out]
    go_wp2_with fail
    refine (cut_any _ _ _ (by omega) (by omega)).mono ?_
    rintro e w11 ⟨rfl, b11⟩
    have B11 := Lib.hid (B10.out.trans (b11.mono B10.out.size))
    clear b11
    rw [C3.out]
    go_wp2_with fail
    go_ret
    exact ⟨ret_bool (by simp), B11.out⟩
end Go.Proofs.Ythildbehkmhioaa
