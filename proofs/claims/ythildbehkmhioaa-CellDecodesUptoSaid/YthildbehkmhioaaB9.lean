/- The law CellDecodes' walk. -/
import Derived.Test.YthildbehkmhioaaB4
import Derived.Test.YthildbehkmhioaaOwn2
namespace Go.Proofs.Ythildbehkmhioaa
open Go.RowKit

/-- One text, from a decoder with nothing pending: what the law's loop over it does is 'runD'. -/
theorem whole_of (l : List UInt8) (d : Dec) (h : d.hav = 0) : (runD d l).2 = (whole l).1 ∧ (runD d l).1.hav = (whole l).2 := runs_whole l d h
theorem endD_0 (d : Dec) (h : d.hav = 0) : endD d = (d, []) := by unfold endD; rw [if_pos h]
theorem endD_1 (d : Dec) (h : ¬ d.hav = 0) : endD d = ({ d with hav := 0 }, [65533]) := by unfold endD; rw [if_neg h]
theorem endD_ok (d : Dec) (h : d.ok) : (endD d).1.ok := by
  unfold endD; split
  · exact h
  · have h1 := h.h1; have h0 := h.h0; have m0 := h.m0
    exact ⟨by simp, by simp only []; omega, h.m0, h.r0, fun x => absurd rfl x, fun x => absurd rfl x, fun x => absurd rfl x, fun x => absurd rfl x⟩
theorem endD_hav (d : Dec) : (endD d).1.hav = 0 := by
  unfold endD; split
  · assumption
  · rfl


/-- What stands at the head of the law's outer loop. -/
structure DecHead (w w1 wr : World) (s0 s1 : ByteArray) (d : Dec) : Prop where
  below : Below w.heap.size w wr
  size : w1.heap.size + 1 < wr.heap.size
  low : w.heap.size ≤ w1.heap.size
  dec : DecAt wr w1.heap.size d
  ok : d.ok
  texts : wr.heap[w1.heap.size + 1]? = some (.cells #[.string s0, .string s1] 9 (0, 0))

theorem DecHead.step {w w1 wr wx : World} {s0 s1 : ByteArray} {d d' : Dec} (h : DecHead w w1 wr s0 s1 d) (g : wr.grownBy wx (some w1.heap.size)) (hd : DecAt wx w1.heap.size d') (hok : d'.ok) : DecHead w w1 wx s0 s1 d' :=
  ⟨h.below.grown g h.below.size (by intro q hq; injection hq with hq; have := h.low; omega), Nat.lt_of_lt_of_le h.size g.size, h.low, hd, hok, blk_grown h.texts g (by simp)⟩
theorem DecHead.new {w w1 wr wx : World} {s0 s1 : ByteArray} {d : Dec} (h : DecHead w w1 wr s0 s1 d) {row : Option Nat} (g : wr.grownBy wx row) (hr : ∀ q, row = some q → w1.heap.size + 2 ≤ q) : DecHead w w1 wx s0 s1 d :=
  ⟨h.below.grown g h.below.size (fun q hq => by have := hr q hq; have := h.low; omega), Nat.lt_of_lt_of_le h.size g.size, h.low, blk_grown (o := .cells _ _ _) h.dec g (fun e => by have := hr _ e.symm; omega), h.ok, blk_grown h.texts g (fun e => by have := hr _ e.symm; omega)⟩
theorem DecHead.belowH {w w1 wr wx : World} {s0 s1 : ByteArray} {d : Dec} (h : DecHead w w1 wr s0 s1 d) (g : Below wr.heap.size wr wx) : DecHead w w1 wx s0 s1 d :=
  h.new (gb_of_below none g) (by intro q hq; simp at hq)

set_option maxRecDepth 100000 in
set_option maxHeartbeats 8000000 in
theorem cellDecodes_walk (s0 s1 : ByteArray) (w : World) (hs0 : s0.size ≤ 1048576) (hs1 : s1.size ≤ 1048576) :
    Calls Try.prog 5 #[.string s0, .string s1] w fun e w' => e = .returned (.bool true) ∧ Below w.heap.size w w' := by
  have hdec0 : (dec0.hav != 0) = false := rfl
  go_enter Try.func5, Try.ntmps5
  go_wp2_with fail
  refine (shown_any _).mono ?_
  rintro e w1 ⟨rfl, b1⟩
  have B1 := Lib.hid b1
  clear b1
  go_wp2_with fail
  refine (newDec_any _).mono ?_
  rintro e w2 ⟨rfl, rfl⟩
  go_wp2_with fail
  refine (pending_any _ dec0 _ (heap_alloc_new _ _)).mono ?_
  rintro e w3 ⟨rfl, rfl⟩
  have hsz := B1.out.size
  go_wp2_with fail
  go_loopw [8] (fun kv wr => ∃ (k : Nat) (d : Dec), k ≤ 2 ∧ kv = .int .i64 k ∧ d.hav = 0 ∧ DecHead w w1 wr s0 s1 d) (fun kv _ => 2 - (intOf kv).toNat)
  case atStart =>
    refine ⟨0, dec0, by omega, rfl, rfl, ⟨(B1.out.alloc B1.out.size _).alloc (by simp; omega) _, by simp, hsz, ?_, dec0_ok, ?_⟩⟩
    · exact blk_alloc (heap_alloc_new _ _) _
    · have := heap_alloc_new (w1.alloc (.cells dec0.cells 49)) (.cells #[.string s0, .string s1] 9)
      rw [World.size_alloc] at this; exact this
  case round =>
    obtain ⟨k, d, hk, rfl, hd0, hH⟩ := hrel
    have HD0 := Lib.hid hd0
    have HH := Lib.hid hH
    clear hd0 hH
    have hk3 : k = 2 ∨ k = 0 ∨ k = 1 := by omega
    rcases hk3 with rfl | hk3
    · go_wp2_with fail
      go_ret
      exact ⟨rfl, HH.out.below⟩
    have htx : ∃ t : ByteArray, t.size ≤ 1048576 ∧ wr.cell? ⟨w1.heap.size + 1, k, none⟩ = some (.string t) := by
      rcases hk3 with rfl | rfl
      · exact ⟨s0, hs0, by rw [blk_cell HH.out.texts]; rfl⟩
      · exact ⟨s1, hs1, by rw [blk_cell HH.out.texts]; rfl⟩
    obtain ⟨t, htl, htc⟩ := htx
    have hk4 : k < 2 := by omega
    have hk5 : decide ((k : Int) < 2) = true := by simp; omega
    clear hk3 hk
    go_wp2_with fail
    have htn : t.data.toList.length = t.size := by rw [Array.length_toList]; rfl
    have HTN := Lib.hid htn
    clear htn htc
    obtain ⟨wo, rfl⟩ : ∃ wo : World, wo = wr := ⟨_, rfl⟩
    go_loopw [9, 11] (fun ov iv wr => ∃ i : Nat, i ≤ t.size ∧ iv = .int .i64 i ∧ DecHead w w1 wr s0 s1 (runD d (t.data.toList.take i)).1 ∧
      OwnC wr (w1.heap.size + 2) 1 ov (runD d (t.data.toList.take i)).2.length ((runD d (t.data.toList.take i)).2.map (Value.int .i32))) (fun _ iv _ => t.size - (intOf iv).toNat)
    case atStart => exact ⟨0, by omega, rfl, HH.out, ownC_nil _ _ _⟩
    case round =>
      obtain ⟨i, hi, rfl, hH, hO⟩ := hrel
      have HH2 := Lib.hid hH
      have HO := Lib.hid hO
      clear hH hO HH
      by_cases hlt : i < t.size
      · have hlt' : i < t.data.toList.length := by rw [HTN.out]; exact hlt
        have Hrun := Lib.hid (runD_snoc (t.data.toList.take i) (t.data.toList.getD i 0) d)
        rw [← take_succ_getD t.data.toList 0 i hlt'] at Hrun
        have hbyte : t.data.toList.getD i 0 = t[i] := by
          rw [List.getD_eq_getElem?_getD, List.getElem?_eq_getElem hlt']; rfl
        rw [hbyte] at Hrun
        have hlen := runD_len (t.data.toList.take i) d
        have hlen2 : (t.data.toList.take i).length ≤ i := List.length_take_le _ _
        clear hbyte
        generalize runD d (t.data.toList.take i) = D at *
        obtain ⟨D, out⟩ := D
        dsimp only at HH2 HO hlen Hrun
        have hok2 := feedD_ok D t[i].toNat (by omega) (byte_le _) HH2.out.ok
        have HOK := Lib.hid hok2
        clear hok2
        have h6 := feedD_len D t[i].toNat
        go_wp2_with fail
        refine (feed_any _ D t[i].toNat _ HH2.out.dec (by omega) (byte_le _) HH2.out.ok).mono ?_
        rintro e w5 ⟨v5, rfl, h2, h3, h4⟩
        have G2 := Lib.hid h2
        have HH5 := Lib.hid (HH2.out.step h3 h4 HOK.out)
        have HO5 := Lib.hid (ownC_grown HO.out h3 (by intro q hq e; have := (ownC_lt HO.out q hq).1; injection e; omega))
        have h5 := h3.size
        have hol := ownC_lt HO.out
        have HOL := Lib.hid hol
        clear h2 h3 h4 hol
        generalize feedD D t[i].toNat = R at *
        obtain ⟨R, l⟩ := R
        dsimp only at G2 HH5 Hrun h6 HOK
        have hv5 : v5 = .slice none 0 0 ∧ l = [] ∨ ∃ g cap, v5 = .slice (some ⟨g, 0, none⟩) l.length cap ∧ wr.heap.size ≤ g ∧ g < w5.heap.size := by
          rcases G2.out.2 with ⟨hv, hn⟩ | ⟨g, cap, cur, hv, hg, hgg, _⟩
          · exact .inl ⟨hv, List.eq_nil_of_length_eq_zero hn⟩
          · exact .inr ⟨g, cap, hv, hg, heap_lt hgg⟩
        have hbig : ¬ (2 : Int) < (l.length : Int) := by omega
        have hsz5 := HH2.out.size
        rcases hv5 with ⟨rfl, rfl⟩ | ⟨g, cap, rfl, hg1, hg2⟩
        · go_wp2_with (at_builtin; refine held ?_)
          unfold Held
          refine wpList_appD runes_elem rfl rfl (w1.heap.size + 2) HO5.out rfl (reads_own G2.out) rfl (ints_oneCell _ _) (by unfold maxLen; simp; omega) (by simp; omega) (by omega) ?_
          intro ov w6 o6 g6 _
          have HH6 := Lib.hid (HH5.out.new g6 (fun q hq => (ownC_lt HO5.out q hq).1))
          have O6 := Lib.hid o6
          clear o6 g6
          go_wp2_with fail
          go_loopw [13] (fun jv wx => jv = .int .i64 0 ∧ wx = w6) (fun _ _ => 0)
          case atStart => exact ⟨rfl, rfl⟩
          case round =>
            obtain ⟨rfl, rfl⟩ := hrel
            go_wp2_with fail
            go_roundw
            case rel =>
              refine ⟨i + 1, by omega, by go_num, ?_, ?_⟩
              · rw [Hrun.out]; exact HH6.out
              · rw [Hrun.out, List.length_append, List.map_append]; exact O6.out
            case measure => simp [intOf]; omega
        · go_wp2_with (at_builtin; refine held ?_)
          unfold Held
          refine wpList_appD runes_elem rfl rfl (w1.heap.size + 2) HO5.out rfl (reads_own G2.out) rfl (ints_oneCell _ _) (by unfold maxLen; omega) (by omega) (by omega) ?_
          intro ov w6 o6 g6 k6
          have HH6 := Lib.hid (HH5.out.new g6 (fun q hq => (ownC_lt HO5.out q hq).1))
          have hne : ∀ q, ov.ownBlock = some q → q ≠ g := by
            intro q hq
            rcases k6 q hq with h | h
            · have := (HOL.out q h).2; omega
            · omega
          have HNE := Lib.hid hne
          have hG6 : w6.ownsRow g 21 1 (.slice (some ⟨g, 0, none⟩) l.length cap) l.length (l.map (Value.int .i32)) := by
            have := G2.out.kept g6 (by
              right; intro e
              have := (HOL.out g (by rw [← e]; rfl)).2
              omega)
            refine ⟨this.1, ?_⟩
            rcases this.2 with h | ⟨g', cap', cur, hv, _, r⟩
            · simp at h
            · refine .inr ⟨g', cap', cur, hv, ?_, r⟩
              simp at hv; omega
          have O6 := Lib.hid o6
          have HG6 := Lib.hid hG6
          have hs6 := g6.size
          clear o6 g6 k6 hne hG6 G2
          go_wp2_with fail
          go_loopw [13] (fun jv wx => ∃ (j : Nat) (ys : List Value), j ≤ l.length ∧ jv = .int .i64 j ∧ w6.grownBy wx (some g) ∧ wx.ownsRow g 21 1 (.slice (some ⟨g, 0, none⟩) l.length cap) l.length ys) (fun jv _ => l.length - (intOf jv).toNat)
          case atStart => exact ⟨0, _, by omega, rfl, gb_refl _ _, HG6.out⟩
          case round =>
            obtain ⟨j, ys, hj, rfl, hgw, hys⟩ := hrel
            have HGW := Lib.hid hgw
            have HYS := Lib.hid hys
            have hylen : ys.length = l.length := by have := hys.1; omega
            clear hgw hys
            by_cases hjl : j < l.length
            · have hc := HYS.out.cellAt j (by omega)
              rw [List.getElem?_eq_getElem (by omega)] at hc
              have hf := HYS.out.frozenAt j
              obtain ⟨st1, st2⟩ := HYS.out.stored j (.int .i32 120)
              have ST1 := Lib.hid st1
              have ST2 := Lib.hid st2
              clear st1 st2
              generalize ys[j] = y at hc
              have hjl2 : (j : Int) < (l.length : Int) := by omega
              go_wp2_with fail
              go_roundw
              case rel => exact ⟨j + 1, _, by omega, by go_num, gb_trans HGW.out ST2.out, ST1.out⟩
              case measure => simp [intOf]; omega
            · go_wp2_with fail
              go_roundw
              case rel =>
                refine ⟨i + 1, by omega, by go_num, ?_, ?_⟩
                · rw [Hrun.out]
                  exact HH6.out.new HGW.out (by intro q hq; injection hq; omega)
                · rw [Hrun.out, List.length_append, List.map_append]
                  exact ownC_grown O6.out HGW.out (by intro q hq e; injection e with e; exact HNE.out q hq e.symm)
              case measure => simp [intOf]; omega
      · have ht : t.data.toList.take i = t.data.toList := List.take_of_length_le (by have := HTN.out; omega)
        have HT := Lib.hid ht
        rw [HT.out] at HH2 HO
        clear ht
        have hwr := whole_of t.data.toList d HD0.out
        have hwl : (whole t.data.toList).1.length ≤ 2 * t.size := by
          have := runD_len t.data.toList d
          rw [hwr.1] at this
          have := HTN.out; omega
        obtain ⟨hw1, hw2⟩ := hwr
        rw [hw1] at HO
        have HW2 := Lib.hid hw2
        clear hw1 hw2
        generalize (runD d t.data.toList).1 = D at *
        have hRR : ∃ L left, whole t.data.toList = (L, left) := ⟨_, _, rfl⟩
        obtain ⟨L, left, hRR⟩ := hRR
        rw [hRR] at HO HW2 hwl
        have HWE := Lib.hid hRR
        clear hRR
        dsimp only at HO HW2 hwl
        go_wp2_with fail
        refine (whole_any t _ (by omega)).mono ?_
        rintro e w5 ⟨v5, rfl, h5, b5⟩
        rw [HWE.out] at h5
        rw [HWE.out]
        have I5 := Lib.hid (isInts_own h5)
        have IO := Lib.hid (isInts_below (ownC_ints HO.out) b5)
        have HH5 := Lib.hid (HH2.out.belowH b5)
        clear h5 b5 HO HH2
        go_wp2_with fail
        refine (same_b _ _ _ _ _ IO.out I5.out).mono ?_
        rintro e w6 ⟨rfl, b6⟩
        have HH6 := Lib.hid (HH5.out.belowH b6)
        clear b6 IO I5 HH5
        rw [decide_eq_true (rfl : L = L)]
        go_wp2_with fail
        refine (pending_any _ D _ HH6.out.dec).mono ?_
        rintro e w7 ⟨rfl, rfl⟩
        rw [HW2.out]
        go_wp2_with fail
        refine (end_any _ D _ HH6.out.dec).mono ?_
        rintro e w8 ⟨v8, rfl, h8, g8, d8⟩
        have HH8 := Lib.hid (HH6.out.step g8 d8 (endD_ok D HH6.out.ok))
        have HV := Lib.hid (endD_hav D)
        have HE := Lib.hid (show (endD D).2 = if left = 0 then [] else [65533] by
          by_cases h0 : left = 0
          · rw [if_pos h0, endD_0 D (by rw [HW2.out, h0]; rfl)]
          · rw [if_neg h0, endD_1 D (by rw [HW2.out]; omega)])
        have H8 := Lib.hid h8
        clear h8 g8 d8 HH6
        rw [HE.out] at H8
        generalize (endD D).1 = D2 at *
        have hcase : (left = 0 ∧ (v8 = .slice none 0 0 ∨ ∃ a c, v8 = .slice (some a) 0 c)) ∨ (0 < left ∧ ∃ g c, v8 = .slice (some ⟨g, 0, none⟩) 1 c ∧ w8.cell? ⟨g, 0, none⟩ = some (.int .i32 65533)) := by
          by_cases h0 : left = 0
          · left
            have := H8.out
            rw [if_pos h0] at this
            rcases this.2 with ⟨h, _⟩ | ⟨g, cap, cur, h, _⟩
            · exact ⟨h0, .inl h⟩
            · exact ⟨h0, .inr ⟨_, _, h⟩⟩
          · right
            have h := H8.out
            rw [if_neg h0] at h
            have h' := h
            rcases h.2 with ⟨_, hn⟩ | ⟨g, cap, cur, hv, _⟩
            · simp at hn
            · refine ⟨by omega, g, cap, hv, ?_⟩
              subst hv
              have := h'.cellAt 0 (by simp)
              simpa using this
        clear H8 HE
        rcases hcase with ⟨rfl, rfl | ⟨ae, ce, rfl⟩⟩ | ⟨hl0, ge, ce, rfl, hce⟩
        all_goals
          go_wp2_with fail
          refine (pending_any _ D2 _ HH8.out.dec).mono ?_
          rintro e w9 ⟨rfl, rfl⟩
          rw [HV.out]
          go_wp2_with fail
          refine (runes_any t _ (by omega)).mono ?_
          rintro e w9 ⟨v9, rfl, h9, b9⟩
          have I9 := Lib.hid (isInts_own h9)
          have HH9 := Lib.hid (HH8.out.belowH b9)
          clear h9 b9
          go_wp2_with fail
          refine (refRunes_any t _ (by omega)).mono ?_
          rintro e w10 ⟨v10, rfl, h10, b10⟩
          have J9 := Lib.hid (isInts_below I9.out b10)
          have J10 := Lib.hid (isInts_own h10)
          have HH10 := Lib.hid (HH9.out.belowH b10)
          clear h10 b10
          go_wp2_with fail
          refine (same_b _ _ _ _ _ J9.out J10.out).mono ?_
          rintro e w11 ⟨rfl, b11⟩
          have HH11 := Lib.hid (HH10.out.belowH b11)
          clear b11
          rw [decide_eq_true (rfl : runes t.data.toList = runes t.data.toList)]
          go_wp2_with fail
          go_roundw
          case rel => exact ⟨k + 1, D2, by omega, by go_num, HV.out, HH11.out⟩
          case measure => simp [intOf]; omega
end Go.Proofs.Ythildbehkmhioaa
