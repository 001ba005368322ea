/- Walks of package cell: Cut, CutLeft. -/
import Derived.Test.YthildbehkmhioaaA5
namespace Go.Proofs.Ythildbehkmhioaa
open Go.RowKit

/-- How many runes from the front have at most n columns. -/
def cutN : List Int → Int → Nat
  | [], _ => 0
  | r :: l, n => if n < wide0 r then 0 else cutN l (n - wide0 r) + 1
theorem cutN_le : ∀ (l : List Int) (n : Int), cutN l n ≤ l.length
  | [], _ => Nat.le_refl _
  | r :: l, n => by
    unfold cutN; split
    · exact Nat.zero_le _
    · have := cutN_le l (n - wide0 r); simp only [List.length_cons]; omega
theorem cutN_neg (l : List Int) (n : Int) (h : n < 0) : cutN l n = 0 := by
  cases l with
  | nil => rfl
  | cons r l => have := wide0_range r; unfold cutN; rw [if_pos (by omega)]
/-- A step: k runes are taken, m columns are left. -/
theorem cutN_at : ∀ (l : List Int) (k : Nat) (n : Int), k ≤ l.length → cols (l.take k) ≤ n →
    cutN l n = k + cutN (l.drop k) (n - cols (l.take k))
  | l, 0, n, _, _ => by simp [cols]
  | [], k + 1, _, h, _ => by simp at h
  | r :: l, k + 1, n, h, hn => by
    have h1 := cols_range (l.take k)
    have e : cols ((r :: l).take (k + 1)) = wide0 r + cols (l.take k) := by simp [cols]
    rw [e] at hn ⊢
    rw [cutN, if_neg (by omega), List.drop_succ_cons, cutN_at l k (n - wide0 r) (by simpa using h) (by omega)]
    rw [show n - wide0 r - cols (l.take k) = n - (wide0 r + cols (l.take k)) from by omega]; omega
theorem drop_getD (l : List Int) (k : Nat) (hk : k < l.length) : l.drop k = l.getD k 0 :: l.drop (k + 1) := by
  rw [List.drop_eq_getElem_cons hk, List.getD_eq_getElem?_getD, List.getElem?_eq_getElem hk]; rfl
theorem cutN_stop (l : List Int) (k : Nat) (n : Int) (hk : k < l.length) (hn : cols (l.take k) ≤ n) (hs : n - cols (l.take k) < wide0 (l.getD k 0)) : cutN l n = k := by
  rw [cutN_at l k n (by omega) hn, drop_getD l k hk, cutN, if_pos hs]; rfl
theorem cutN_all (l : List Int) (n : Int) (hn : cols l ≤ n) : cutN l n = l.length := by
  rw [cutN_at l l.length n (Nat.le_refl _) (by rw [List.take_length]; exact hn), List.drop_length]; rfl

theorem extract_enc (l : List Int) (k : Nat) : (encS l).extract 0 (offE l k) = encS (l.take k) := by
  apply ByteArray.ext
  apply Array.ext'
  rw [ByteArray.data_extract, Array.toList_extract]
  show ((encAll l).drop 0).take (offE l k - 0) = encAll (l.take k)
  have h2 : encAll l = encAll (l.take k) ++ encAll (l.drop k) := by rw [← encAll_append, List.take_append_drop]
  rw [List.drop_zero, Nat.sub_zero, h2]; unfold offE; rw [List.take_left]
theorem offE_le (l : List Int) (k : Nat) : offE l k ≤ (encS l).size := by
  have h2 : encAll l = encAll (l.take k) ++ encAll (l.drop k) := by rw [← encAll_append, List.take_append_drop]
  rw [encS_size, h2, List.length_append]; unfold offE; omega
/-- cell.Cut. -/
def cutT (l : List UInt8) (n : Int) : ByteArray := encS ((runes l).take (cutN (runes l) n))
theorem ret_str {a b : ByteArray} (h : a = b) : Ending.returned (.string a) = .returned (.string b) := by rw [h]

set_option maxHeartbeats 1000000 in
theorem cut_any (s : ByteArray) (n : Int) (w : World) (hs : s.size ≤ 1099511627776) (hn : n ≤ 9223372036854775807) :
    Calls Try.prog 23 #[.string s, .int .i64 n] w fun e w' => e = .returned (.string (cutT s.data.toList n)) ∧ Below w.heap.size w w' := by
  by_cases h0 : n < 0
  · go_enter Try.func23, Try.ntmps23
    go_wp2_with fail
    go_ret
    exact ⟨ret_str (by unfold cutT; rw [cutN_neg _ _ h0]; rfl), Below.refl _ _⟩
  go_enter Try.func23, Try.ntmps23
  go_wp2_with fail
  refine (runes_any s _ hs).mono ?_
  rintro e w1 ⟨v, rfl, hown, hb⟩
  have hlen := runesB_len s
  have HV := Lib.hid (fun k hk => cp_valid _ (runes_valid s.data.toList _ (getD_mem _ k hk)))
  have hconv := run_runes_own hown
  have HL := Lib.hid (show ∃ l, l = runes s.data.toList from ⟨_, rfl⟩)
  obtain ⟨l, hl⟩ := HL.out
  rw [← hl] at hlen HV hconv hown
  have HLE := Lib.hid hl
  clear hl HL
  have HB := Lib.hid hb
  clear hb hown
  rw [show (⟨(encAll l).toArray⟩ : ByteArray) = encS l from rfl] at hconv
  go_wp2_with fail
  go_loopg [1] l.length (fun g v wr => ∃ k : Nat, k + g = l.length ∧ wr.heap[w1.heap.size]? = some (.stringIter (encS l) (offE l k)) ∧ v = .int .i64 (n - cols (l.take k)) ∧ cols (l.take k) ≤ n ∧ Below w.heap.size w wr)
  case atStart => exact ⟨0, by omega, World.iter_heap _ _ _, by simp [cols], by simp [cols]; omega, (HB.out.alloc HB.out.size _)⟩
  case round =>
    obtain ⟨k, hk, hit, rfl, hcn, hbw⟩ := hrel
    have HB2 := Lib.hid hbw
    clear hbw
    have hsz := HB.out.size
    by_cases hlt : k < l.length
    · have hnx := run_next_enc (P := Try.prog) wr w1.heap.size l k hit hlt (HV.out k hlt)
      have HI := Lib.hid (Lib.iterAt_heap wr w1.heap.size (encS l) (offE l k) (offE l (k + 1)) hit)
      have HB3 := Lib.hid (Lib.below_iterAt HB2.out (k := w1.heap.size) hsz (encS l) (offE l (k + 1)))
      have HC := Lib.hid (cols_take_succ l k hlt)
      have HS := Lib.hid (cutN_stop l k n hlt hcn)
      have hc1 := cols_range (l.take k)
      have hc2 := List.length_take_le k l
      have hc3 := wide0_range (l.getD k 0)
      have hoff := offE_le l k
      have HX := Lib.hid (extract_enc l k)
      generalize wr.iterAt w1.heap.size (encS l) (offE l (k + 1)) = W at *
      generalize l.getD k 0 = r at *
      generalize cols (l.take k) = c at *
      have hgk : gk = (gk - 1) + 1 := by omega
      generalize gk - 1 = g' at hgk
      subst hgk
      clear hit
      go_wp2_with fail
      refine (wide_any r _).mono ?_
      rintro e w2 ⟨rfl, hb2⟩
      have HB4 := Lib.hid hb2
      clear hb2
      by_cases hneg : n - c - wide0 r < 0
      · go_wp2_with fail
        go_ret
        refine ⟨ret_str ?_, HB3.out.trans (HB4.out.mono HB3.out.size)⟩
        unfold cutT
        rw [← HLE.out, HS.out (by omega)]
        exact HX.out
      · go_wp2_with fail
        go_roundg g'
        case measure => omega
        case rel =>
          refine ⟨k + 1, by omega, ?_, by rw [HC.out]; exact int_eq (by omega), by rw [HC.out]; omega, HB3.out.trans (HB4.out.mono HB3.out.size)⟩
          rw [HB4.out.block _ (heap_lt HI.out)]; exact HI.out
    · have hnx := run_next_end (P := Try.prog) wr w1.heap.size l k hit (by omega)
      have hk2 : l.take k = l := List.take_of_length_le (by omega)
      have HT := Lib.hid (cutN_all l n (by rw [← hk2]; exact hcn))
      clear hk2
      go_wp2_with fail
      go_ret
      refine ⟨ret_str ?_, HB2.out⟩
      unfold cutT
      rw [← HLE.out, HT.out, List.take_length]

/-- cell.CutLeft. -/
def cutLT (l : List UInt8) (n : Int) : ByteArray := encS ((runes l).drop ((runes l).length - cutN (runes l).reverse n))

theorem rev_getD (l : List Int) (k : Nat) (hk : k < l.length) : l.reverse.getD k 0 = l.getD (l.length - k - 1) 0 := by
  rw [List.getD_eq_getElem?_getD, List.getD_eq_getElem?_getD, List.getElem?_reverse hk]
  congr 2; omega
set_option maxHeartbeats 1000000 in
theorem cutLeft_any (s : ByteArray) (n : Int) (w : World) (hs : s.size ≤ 1099511627776) (hn0 : -9223372036854775808 ≤ n) (hn : n ≤ 9223372036854775807) :
    Calls Try.prog 25 #[.string s, .int .i64 n] w fun e w' => e = .returned (.string (cutLT s.data.toList n)) ∧ Below w.heap.size w w' := by
  go_enter Try.func25, Try.ntmps25
  go_wp2_with fail
  refine (runes_any s _ hs).mono ?_
  rintro e w1 ⟨v, rfl, hown, hb⟩
  have hlen := runesB_len s
  have HL := Lib.hid (show ∃ l, l = runes s.data.toList from ⟨_, rfl⟩)
  obtain ⟨l, hl⟩ := HL.out
  rw [← hl] at hlen hown
  have HLE := Lib.hid hl
  clear hl HL
  have HB := Lib.hid hb
  have HO := Lib.hid hown
  clear hb hown
  have hval : v = .slice none 0 0 ∧ l = [] ∨ ∃ g cap, v = .slice (some ⟨g, 0, none⟩) l.length cap ∧ l.length ≤ cap ∧ cap ≤ 9223372036854775807 ∧ g < w1.heap.size := by
    obtain ⟨h1, h2⟩ := HO.out
    rcases h2 with ⟨hv, h0⟩ | ⟨g, cap, cur, hv, _, hg, h3, h4, _⟩
    · exact .inl ⟨hv, List.eq_nil_of_length_eq_zero h0⟩
    · exact .inr ⟨g, cap, hv, h3, by unfold maxLen at h4; exact h4, heap_lt hg⟩
  rcases hval with ⟨rfl, rfl⟩ | ⟨g, cap, rfl, hcap, hcap2, hg⟩
  · go_wp2_with fail
    go_loopw [1, 6] (fun v a wr => v = .int .i64 n ∧ a = .int .i64 0 ∧ wr = w1) (fun _ _ _ => 0)
    case atStart => exact ⟨rfl, rfl, rfl⟩
    case round =>
      obtain ⟨rfl, rfl, rfl⟩ := hrel
      have hc := run_convert_runes_nil (P := Try.prog) wr 25 9 21 0 0 Try.underlying25 Try.underlying21 Try.underlying9
      go_wp2_with fail
      go_ret
      exact ⟨ret_str (by unfold cutLT; rw [← HLE.out]; rfl), HB.out⟩
  · have HC := Lib.hid (fun j (hj : j < l.length) => HO.out.cells (g := g) rfl j (.int .i32 (l.getD j 0)) (by
      rw [List.getElem?_map, List.getElem?_eq_getElem hj, List.getD_eq_getElem?_getD, List.getElem?_eq_getElem hj]; rfl))
    go_wp2_with fail
    go_loopw [1, 6] (fun v a wr => ∃ k : Nat, k ≤ l.length ∧ a = .int .i64 ((l.length - k : Nat) : Int) ∧ v = .int .i64 (n - cols (l.reverse.take k)) ∧ (k = 0 ∨ cols (l.reverse.take k) ≤ n) ∧ Below w.heap.size w wr ∧ Below w1.heap.size w1 wr) (fun _ a _ => (intOf a).toNat)
    case atStart => exact ⟨0, by omega, by simp, by simp [cols], .inl rfl, HB.out, Below.refl _ _⟩
    case round =>
      obtain ⟨k, hk, rfl, rfl, hcn, hb1, hb2⟩ := hrel
      have HB2 := Lib.hid hb1
      have HB3 := Lib.hid hb2
      clear hb1 hb2
      have hc1 := cols_range (l.reverse.take k)
      have hc2 : (l.reverse.take k).length ≤ k := List.length_take_le _ _
      have HEQ := Lib.hid (show n - cols (l.reverse.take k) ≤ n by omega)
      have hlow : -9223372036854775808 ≤ n - cols (l.reverse.take k) := by
        rcases hcn with h | h
        · subst h; simp [cols]; omega
        · omega
      have hend : ∀ wx, Below w1.heap.size w1 wx → ∀ j cc, (convert 25 9 (.slice (some ⟨g, j, none⟩) (l.length - j) cc)).run Try.prog wx = .ok (.string (encS (l.drop j))) wx := by
        intro wx hwx j cc
        have := run_convert_runes (P := Try.prog) wx 25 9 21 ⟨g, j, none⟩ (l.length - j) cc (l.drop j) (by simp) Try.underlying25 Try.underlying21 Try.underlying9 (fun i hi => by
          have h1 := HC.out (j + i) (by simp at hi; omega)
          have e1 : (⟨g, 0, none⟩ : Addr).add (j + i) = (⟨g, j, none⟩ : Addr).add i := by
            unfold Addr.add
            by_cases hi0 : i = 0
            · subst hi0
              by_cases hj0 : j = 0
              · subst hj0; simp
              · simp [hj0]
            · rw [if_neg (by omega), if_neg hi0]; simp
          rw [e1] at h1
          have hblk : ((⟨g, j, none⟩ : Addr).add i).block = g := by unfold Addr.add; split <;> rfl
          rw [hwx.cell (by rw [hblk]; exact hg), h1, List.getD_eq_getElem?_getD, List.getD_eq_getElem?_getD, List.getElem?_drop])
        rw [this, List.take_of_length_le (by simp), runesBytes_eq]; rfl
      have hend0 : ∀ wx, ∀ j cc, (convert 25 9 (.slice (some ⟨g, j, none⟩) 0 cc)).run Try.prog wx = .ok (.string (encS [])) wx := by
        intro wx j cc
        have := run_convert_runes (P := Try.prog) wx 25 9 21 ⟨g, j, none⟩ 0 cc [] (Nat.le_refl _) Try.underlying25 Try.underlying21 Try.underlying9 (fun i hi => by simp at hi)
        rw [this, runesBytes_eq]; rfl
      have HE0 := Lib.hid hend0
      clear hend0
      have HE := Lib.hid hend
      clear hend
      by_cases hlt : k < l.length
      · obtain ⟨at1, hat⟩ : ∃ at1, l.length - k = at1 + 1 := ⟨l.length - k - 1, by omega⟩
        have HR := Lib.hid (rev_getD l k hlt)
        have HCS := Lib.hid (cols_take_succ l.reverse k (by simpa using hlt))
        have hcell := HC.out at1 (by omega)
        rw [show (⟨g, 0, none⟩ : Addr).add at1 = ⟨g, at1, none⟩ from by unfold Addr.add; split <;> simp_all] at hcell
        rw [← HB3.out.cell (p := ⟨g, at1, none⟩) hg] at hcell
        rw [show l.length - k - 1 = at1 from by omega] at HR
        have HSTOP : Hid ((k = 0 ∨ (cols (l.reverse.take k) ≤ n ∧ True)) → n - cols (l.reverse.take k) < wide0 (l.getD at1 0) → cutN l.reverse n = k) := by
          intro h1 h2
          rw [← HR.out] at h2
          by_cases hcc : cols (l.reverse.take k) ≤ n
          · exact cutN_stop _ _ _ (by simpa using hlt) hcc h2
          · rcases h1 with h | ⟨h, _⟩
            · subst h
              exact cutN_neg _ _ (by simp [cols] at hcc; omega)
            · exact absurd h hcc
        generalize l.getD at1 0 = r at *
        rw [hat]
        generalize cols (l.reverse.take k) = c at *
        have hc3 := wide0_range r
        have HAT := Lib.hid hat
        clear hat
        have hatl : at1 < l.length := by have := HAT.out; omega
        go_wp2_with fail
        refine (wide_any r _).mono ?_
        rintro e w2 ⟨rfl, hb4⟩
        have HB4 := Lib.hid (HB2.out.trans (hb4.mono HB2.out.size))
        have HB5 := Lib.hid (HB3.out.trans (hb4.mono HB3.out.size))
        clear hb4
        have hcell2 : w2.cell? ⟨g, at1, none⟩ = some (.int .i32 r) := by
          rw [HB5.out.cell (p := ⟨g, at1, none⟩) hg, ← HB3.out.cell (p := ⟨g, at1, none⟩) hg]; exact hcell
        by_cases hgo : wide0 r ≤ n - c
        · go_wp2_with fail
          refine (wide_any r _).mono ?_
          rintro e w3 ⟨rfl, hb6⟩
          have HB6 := Lib.hid (HB4.out.trans (hb6.mono HB4.out.size))
          have HB7 := Lib.hid (HB5.out.trans (hb6.mono HB5.out.size))
          clear hb6
          go_wp2_with fail
          go_roundw
          case rel => exact ⟨k + 1, by omega, int_eq (by have := HAT.out; omega), by rw [HCS.out, HR.out]; exact int_eq (by omega), .inr (by rw [HCS.out, HR.out]; omega), HB6.out, HB7.out⟩
          case measure => simp [intOf]
        · have hx1 := HE.out w2 HB5.out (at1 + 1) (cap - (at1 + 1))
          have hx2 : cap = at1 + 1 → (convert 25 9 (.slice (some ⟨g, 0, none⟩) (l.length - (at1 + 1)) 0)).run Try.prog w2 = .ok (.string (encS (l.drop (at1 + 1)))) w2 := by
            intro hc
            have := HE0.out w2 0 0
            rw [show l.length - (at1 + 1) = 0 from by omega, this, List.drop_eq_nil_of_le (by omega)]
          have HFIN := Lib.hid (show cutLT s.data.toList n = encS (l.drop (at1 + 1)) by
            unfold cutLT
            rw [← HLE.out, ← HAT.out]
            congr 2
            rw [HSTOP.out (by
              rcases hcn with h | h
              · exact .inl h
              · exact .inr ⟨h, trivial⟩) (by omega)])
          go_wp2_with fail
          all_goals
            go_ret
            exact ⟨ret_str HFIN.out.symm, HB4.out⟩
      · have hk2 : l.length - k = 0 := by omega
        rw [hk2]
        have hx := HE.out wr HB3.out 0 cap
        simp only [Nat.sub_zero] at hx
        have HFIN := Lib.hid (show cutLT s.data.toList n = encS (l.drop 0) by
          unfold cutLT
          rw [← HLE.out]
          congr 2
          have hkl : k = l.length := by omega
          rcases hcn with h | h
          · omega
          · rw [cutN_all _ _ (by rw [List.take_of_length_le (by simp; omega)] at h; exact h)]; simp)
        go_wp2_with fail
        go_ret
        exact ⟨ret_str HFIN.out.symm, HB2.out⟩
end Go.Proofs.Ythildbehkmhioaa
