/- Walks of package cell: Runes. -/
import Derived.Test.YthildbehkmhioaaA3
namespace Go.Proofs.Ythildbehkmhioaa
open Go.RowKit

theorem beginD_ok (d : Dec) (b : Int) (hr : 0 ≤ d.r) (hh : d.hav = 0) (hm : 0 ≤ d.more) (hm4 : d.more ≤ 4) : (beginD d b).1.ok := by
  unfold beginD
  split
  · exact ⟨by simp [hh], by simp [hh]; omega, hm, hr, fun h => absurd hh h, fun h => absurd hh h, fun h => absurd hh h, fun h => absurd hh h⟩
  split
  · exact ⟨by simp, by simp, by simp, by simp; omega, fun _ => by simp; omega, fun _ => by simp, fun _ => by simp, fun _ => by simp⟩
  split
  · exact ⟨by simp, by simp, by simp, by simp; omega, fun _ => by simp; omega, fun _ => by simp, fun _ => by simp only []; split <;> omega, fun _ => by simp only []; split <;> omega⟩
  split
  · exact ⟨by simp, by simp, by simp, by simp; omega, fun _ => by simp; omega, fun _ => by simp, fun _ => by simp only []; split <;> omega, fun _ => by simp only []; split <;> omega⟩
  · exact ⟨by simp [hh], by simp [hh]; omega, hm, hr, fun h => absurd hh h, fun h => absurd hh h, fun h => absurd hh h, fun h => absurd hh h⟩

theorem feedD_ok (d : Dec) (b : Int) (h0 : 0 ≤ b) (h1 : b ≤ 255) (hok : d.ok) : (feedD d b).1.ok := by
  have _ := h0; have _ := h1
  have k0 := hok.h0; have k1 := hok.h1; have k2 := hok.m0; have k3 := hok.r0
  unfold feedD
  split
  · rename_i h; exact beginD_ok d b k3 h k2 (by omega)
  rename_i hh
  have k4 := hok.r1 hh; have k5 := hok.m1 hh; have k6 := hok.lo hh; have k7 := hok.hi hh
  split
  · exact beginD_ok _ b k3 rfl k2 (by simp only []; omega)
  rename_i hb
  split
  · rename_i hm
    refine ⟨by simp only []; omega, by simp only []; omega, by simp only []; omega, by simp only []; omega, fun _ => ?_, fun _ => by simp only []; omega, fun _ => by simp, fun _ => by simp⟩
    simp only []
    have e : d.more.toNat = (d.more - 1).toNat + 1 := by omega
    rw [e, Int.pow_succ] at k4
    have hcase : (d.more - 1).toNat = 1 ∨ (d.more - 1).toNat = 2 := by omega
    rcases hcase with h | h <;> rw [h] at k4 ⊢ <;> omega
  · exact ⟨by simp, by simp only []; omega, by simp only []; omega, by simp only []; omega, fun h => absurd rfl h, fun h => absurd rfl h, fun h => absurd rfl h, fun h => absurd rfl h⟩

theorem byte_le (b : UInt8) : (b.toNat : Int) ≤ 255 := by have := b.toNat_lt; omega
theorem runD_ok : ∀ (l : List UInt8) (d : Dec), d.ok → (runD d l).1.ok
  | [], _, h => h
  | b :: l, d, h => runD_ok l _ (feedD_ok d _ (by omega) (byte_le b) h)
theorem feedD_len (d : Dec) (b : Int) : (feedD d b).2.length ≤ 2 := by
  unfold feedD
  repeat' split
  · have := beginD_len d b; omega
  · have := beginD_len { d with hav := 0 } b; simp; omega
  · simp
  · simp
theorem runD_len : ∀ (l : List UInt8) (d : Dec), (runD d l).2.length ≤ 2 * l.length
  | [], _ => by simp [runD]
  | b :: l, d => by
    have := runD_len l (feedD d b.toNat).1
    have := feedD_len d b.toNat
    simp [runD]; omega
theorem endD_len (d : Dec) : (endD d).2.length ≤ 1 := by unfold endD; split <;> simp
theorem runesB_len (s : ByteArray) : (runes s.data.toList).length ≤ 2 * s.size + 1 := by
  have h1 := runD_len s.data.toList dec0
  have h2 := endD_len (runD dec0 s.data.toList).1
  have h3 : s.data.toList.length = s.size := by simp
  unfold runes; rw [List.length_append]; omega

set_option maxHeartbeats 1000000 in
theorem runes_any (s : ByteArray) (w : World) (hs : s.size ≤ 1099511627776) :
    Calls Try.prog 12 #[.string s] w fun e w' => ∃ v, e = .returned v ∧
      w'.ownsRow w.heap.size 21 1 v (runes s.data.toList).length ((runes s.data.toList).map (Value.int .i32)) ∧ Below w.heap.size w w' := by
  go_enter Try.func12, Try.ntmps12
  go_wp2_with fail
  refine (newDec_any _).mono ?_
  rintro e w1 ⟨rfl, rfl⟩
  go_wp2_with fail
  go_loopw [3, 9] (fun v i wr => ∃ k : Nat, k ≤ s.size ∧ i = .int .i64 k ∧ Below w.heap.size w wr ∧ w.heap.size < wr.heap.size ∧ DecAt wr w.heap.size (runD dec0 (s.data.toList.take k)).1 ∧
    wr.ownsRow (w.heap.size + 1) 21 1 v (runD dec0 (s.data.toList.take k)).2.length ((runD dec0 (s.data.toList.take k)).2.map (Value.int .i32))) (fun _ i _ => s.size - (intOf i).toNat)
  case atStart => exact ⟨0, by omega, rfl, (Below.refl _ _).alloc (Nat.le_refl _) _, by simp, heap_alloc_new _ _, World.ownsRow_nil _ _ _ _⟩
  case round =>
    obtain ⟨k, hk, rfl, hb, hsz, hd, hown⟩ := hrel
    have HB := Lib.hid hb
    have HD := Lib.hid hd
    have HO := Lib.hid hown
    clear hb hd hown
    by_cases hlt : k < s.size
    · have hlt' : k < s.data.toList.length := by simpa using hlt
      have hsnoc := take_succ_getD s.data.toList 0 k hlt'
      have Hrun := Lib.hid (runD_snoc (s.data.toList.take k) (s.data.toList.getD k 0) dec0)
      rw [← hsnoc] at Hrun
      clear hsnoc
      have hok := Lib.hid (runD_ok (s.data.toList.take k) dec0 dec0_ok)
      have hlen := runD_len (s.data.toList.take k) dec0
      have hbyte : s.data.toList.getD k 0 = s[k] := by
        rw [List.getD_eq_getElem?_getD, List.getElem?_eq_getElem hlt']; rfl
      rw [hbyte] at Hrun
      clear hbyte
      generalize runD dec0 (s.data.toList.take k) = D at *
      obtain ⟨D, out⟩ := D
      dsimp only at HD HO hok hlen Hrun
      go_wp2_with fail
      refine (feed_any _ D s[k].toNat _ HD.out (by omega) (byte_le _) hok.out).mono ?_
      rintro e w2 ⟨v2, rfl, h2, h3, h4⟩
      have H2 := Lib.hid h2
      have H3 := Lib.hid h3
      have H4 := Lib.hid h4
      clear h2 h3 h4
      go_wp2_with (at_builtin; refine held ?_)
      unfold Held
      have h5 := H3.out.size
      have h6 := feedD_len D s[k].toNat
      have h7 : (List.take k s.data.toList).length ≤ k := List.length_take_le _ _
      have HO2 := Lib.hid (HO.out.kept H3.out (by
        rcases HO.out.2 with ⟨hv, _⟩ | ⟨g, cap, cur, hv, hg, _⟩
        · left; rw [hv]; rfl
        · right; rw [hv]; simp only [Value.ownBlock, ne_eq, Option.some.injEq]; omega))
      refine wpList_app runes_elem rfl rfl (w.heap.size + 1) HO2.out rfl (reads_own H2.out) rfl (ints_oneCell _ _) (by unfold maxLen; omega) (by omega) (by omega) ?_
      intro v' w3 g1 g2
      have hv := HO2.out.lt
      have G1 := Lib.hid g1
      have G2 := Lib.hid g2
      have HV := Lib.hid hv
      clear g1 g2 hv
      go_wp2_with fail
      go_roundw
      case rel =>
        have gsz := G2.out.size
        refine ⟨k + 1, by omega, by go_num, ?_, by omega, ?_, ?_⟩
        · exact (HB.out.trans (below_of_gb H3.out (by omega) (by intro q hq; injection hq; omega))).trans (below_of_gb G2.out (by omega) (fun q hq => by have := (HV.out q hq).1; omega))
        · rw [Hrun.out]
          exact blk_grown (o := .cells _ 49 (0, 0)) H4.out G2.out (fun e => by have := (HV.out _ e.symm).1; omega)
        · rw [Hrun.out, List.length_append, List.map_append]
          exact G1.out
      case measure => simp [intOf]; omega
    · have hk' : k = s.size := by omega
      have Hk := Lib.hid (show List.take k s.data.toList = s.data.toList by rw [hk', List.take_of_length_le (by simp)])
      have hlen := runD_len (s.data.toList.take k) dec0
      rw [Hk.out] at HD HO hlen
      clear Hk hk'
      have Hrun := Lib.hid (show runes s.data.toList = (runD dec0 s.data.toList).2 ++ (endD (runD dec0 s.data.toList).1).2 from rfl)
      generalize runD dec0 s.data.toList = D at *
      obtain ⟨D, out⟩ := D
      dsimp only at HD HO hlen Hrun
      go_wp2_with fail
      refine (end_any _ D _ HD.out).mono ?_
      rintro e w2 ⟨v2, rfl, h2, h3, h4⟩
      have H2 := Lib.hid h2
      have H3 := Lib.hid h3
      clear h2 h3 h4
      go_wp2_with (at_builtin; refine held ?_)
      unfold Held
      have h5 := H3.out.size
      have h6 := endD_len D
      have h7 : s.data.toList.length = s.size := by simp
      have HO2 := Lib.hid (HO.out.kept H3.out (by
        rcases HO.out.2 with ⟨hv, _⟩ | ⟨g, cap, cur, hv, hg, _⟩
        · left; rw [hv]; rfl
        · right; rw [hv]; simp only [Value.ownBlock, ne_eq, Option.some.injEq]; omega))
      refine wpList_app runes_elem rfl rfl (w.heap.size + 1) HO2.out rfl (reads_own H2.out) rfl (ints_oneCell _ _) (by unfold maxLen; omega) (by omega) (by omega) ?_
      intro v' w3 g1 g2
      have hv := HO2.out.lt
      have G1 := Lib.hid g1
      have G2 := Lib.hid g2
      have HV := Lib.hid hv
      clear g1 g2 hv h7
      go_wp2_with fail
      refine ret1v rfl rfl rfl ⟨v', rfl, ?_, ?_⟩
      · rw [Hrun.out, List.length_append, List.map_append]
        exact own_mono G1.out (by omega)
      · exact (HB.out.trans (below_of_gb H3.out (by omega) (by intro q hq; injection hq; omega))).trans (below_of_gb G2.out (by omega) (fun q hq => by have := (HV.out q hq).1; omega))
end Go.Proofs.Ythildbehkmhioaa
