/- The law CellBack's walk. -/
import Derived.Test.YthildbehkmhioaaB1
import Derived.Test.YthildbehkmhioaaOpq
namespace Go.Proofs.Ythildbehkmhioaa
open Go.RowKit

def pickN (c n : Int) : Int := (if c < 0 then -(c + 1) else c) % n
theorem pickN_range (c n : Int) (h : 0 < n) : 0 ≤ pickN c n ∧ pickN c n < n := ⟨Int.emod_nonneg _ (by omega), Int.emod_lt_of_pos _ h⟩
set_option maxHeartbeats 400000 in
theorem pick_any (c n : Int) (w : World) (h0 : -9223372036854775808 ≤ c) (h1 : c ≤ 9223372036854775807) (hn : 0 < n) (hn2 : n ≤ 9223372036854775807) :
    Calls Try.prog 21 #[.int .i64 c, .int .i64 n] w fun e w' => e = .returned (.int .i64 (pickN c n)) ∧ w = w' := by
  by_cases h : c < 0
  all_goals
    go_enter Try.func21, Try.ntmps21
    go_wp2
    go_ret
  · exact ⟨ret_int (by unfold pickN; rw [if_pos h, ← Int.neg_tmod, Int.tmod_eq_emod_of_nonneg (by omega)]), rfl⟩
  · exact ⟨ret_int (by unfold pickN; rw [if_neg (by omega)]), rfl⟩

/-- A rune that can be written, of a raw number. -/
def backR (x : Int) : Int := if 55296 ≤ pickN x 1112064 then pickN x 1112064 + 2048 else pickN x 1112064
theorem backR_valid (x : Int) : Utf8.valid (backR x) = true := by
  have := pickN_range x 1112064 (by decide)
  rw [valid_iff]; unfold backR; split <;> omega
def backL (l : List Int) : List Int := (l.take 300).map backR
theorem backL_cp (l : List Int) : (backL l).map (fun r => (cp r : Int)) = backL l := by
  apply map_cp
  intro r hr
  obtain ⟨x, _, rfl⟩ := List.mem_map.1 hr
  exact backR_valid x
theorem map_take_succ (l : List Int) (f : Int → Int) (k : Nat) (h : k < l.length) : (l.take (k + 1)).map f = (l.take k).map f ++ [f (l.getD k 0)] := by
  rw [take_succ_getD l 0 k h]; simp
theorem runD_back (l : List Int) : (runD dec0 (encAll (backL l))).2 = backL l ∧ (runD dec0 (encAll (backL l))).1.hav = 0 := by
  have h := runs_whole (encAll (backL l)) dec0 rfl
  have h2 := whole_encAll (backL l) []
  rw [List.append_nil, whole_nil] at h2
  rw [h.1, h.2, h2]
  exact ⟨by rw [List.append_nil]; exact backL_cp l, rfl⟩
theorem runes_back (l : List Int) : runes (encAll (backL l)) = backL l := by rw [runes_encAll, backL_cp]

set_option maxRecDepth 100000 in
set_option maxHeartbeats 2000000 in
theorem cellBack_walk (v : Value) (raw : List Int) (w : World) (ha : IsArg .i64 w v raw) :
    Calls Try.prog 6 #[v] w fun e w' => e = .returned (.bool true) ∧ Below w.heap.size w w' := by
  have hal : raw.length ≤ 9223372036854775807 := by
    rcases ha with ⟨_, h⟩ | ⟨_, c, _, h1, h2, _⟩
    · subst h; decide
    · omega
  have hwf : ∀ j, j < raw.length → -9223372036854775808 ≤ raw.getD j 0 ∧ raw.getD j 0 ≤ 9223372036854775807 := by
    intro j hj
    rcases ha with ⟨_, h2⟩ | ⟨_, _, _, _, _, _, h5⟩
    · subst h2; simp at hj
    · have := h5 _ (getD_mem raw j hj)
      simpa [Lit.wf, IntKind.min, IntKind.max, IntKind.signed, IntKind.bits] using this
  have hlen := arg_len (P := Try.prog) Try.underlying39 ha 3
  have HA := Lib.hid ha
  have HW := Lib.hid hwf
  clear ha hwf
  go_enter Try.func6, Try.ntmps6
  go_wp2_with fail
  refine (shown_any _).mono ?_
  rintro e w1 ⟨rfl, b1⟩
  have B1 := Lib.hid b1
  clear b1
  go_wp2_with fail
  go_loopw [4, 5] (fun lv i wr => ∃ k : Nat, k ≤ raw.length ∧ k ≤ 300 ∧ i = .int .i64 k ∧ Below w.heap.size w wr ∧ wr.ownsRow w.heap.size 21 1 lv ((raw.take k).map backR).length (((raw.take k).map backR).map (Value.int .i32))) (fun _ i _ => raw.length - (intOf i).toNat)
  case atStart => exact ⟨0, by omega, by omega, rfl, B1.out, World.ownsRow_nil _ _ _ _⟩
  case round =>
    obtain ⟨k, hk, hk3, rfl, hb, hown⟩ := hrel
    have HB := Lib.hid hb
    have HO := Lib.hid hown
    clear hb hown
    by_cases hlt : k < raw.length ∧ k < 300
    · obtain ⟨hlt, hlt3⟩ := hlt
      obtain ⟨ad, hidx, hcell⟩ := arg_at (P := Try.prog) Try.underlying39 (by kernel_rfl) (isArg_below HA.out HB.out) k hlt
      obtain ⟨hx1, hx2⟩ := HW.out k hlt
      have HS := Lib.hid (map_take_succ raw backR k hlt)
      have hp := pickN_range (raw.getD k 0) 1112064 (by decide)
      obtain ⟨hp1, hp2⟩ := hp
      have HR : Hid (backR (raw.getD k 0) = if 55296 ≤ pickN (raw.getD k 0) 1112064 then pickN (raw.getD k 0) 1112064 + 2048 else pickN (raw.getD k 0) 1112064) := rfl
      have hln : ((raw.take k).map backR).length = k := by rw [List.length_map, List.length_take]; omega
      have HLN := Lib.hid hln
      clear hln
      generalize raw.getD k 0 = x at *
      generalize hpx : pickN x 1112064 = px at *
      have HPX := Lib.hid hpx
      clear hpx
      go_wp2_with fail
      refine (pick_any x 1112064 _ hx1 hx2 (by decide) (by decide)).mono ?_
      rintro e w2 ⟨rfl, rfl⟩
      rw [HPX.out]
      by_cases hbig : 55296 ≤ px
      all_goals
        go_wp2_with (at_builtin; refine held ?_)
        unfold Held
        refine wpList_app runes_elem rfl rfl w.heap.size (own_alloc HO.out _) rfl (reads_one _ _ _) rfl (int_one _ _) (by have := HLN.out; unfold maxLen; omega) (by have := HLN.out; omega) (by have := HB.out.size; simp; omega) ?_
        intro lv w3 o3 g3
        have B3 := Lib.hid ((HB.out.alloc HB.out.size _).grown g3 (by have := HB.out.size; simp; omega) (fun q hq => (HO.out.lt q hq).1))
        have O3 := Lib.hid o3
        clear o3 g3
        go_wp2_with fail
        go_roundw
        case rel =>
          refine ⟨k + 1, by omega, by omega, by go_num, B3.out, ?_⟩
          rw [HS.out, HR.out]
          first | rw [if_pos hbig] | rw [if_neg (by omega)]
          rw [List.length_append, List.map_append]
          exact O3.out
        case measure => simp [intOf]; omega
    · have HD := Lib.hid (show (raw.take k).map backR = backL raw by
        unfold backL
        congr 1
        by_cases h : k = 300
        · rw [h]
        · rw [List.take_of_length_le (by omega), List.take_of_length_le (by omega)])
      rw [HD.out] at HO
      have hcv := run_runes_own HO.out
      have hnot : k < raw.length → ¬ k < 300 := fun h1 h2 => hlt ⟨h1, h2⟩
      have hln : (backL raw).length ≤ 300 := by unfold backL; rw [List.length_map, List.length_take]; omega
      have RB1 := Lib.hid (runD_back raw)
      have RB2 := Lib.hid (runes_back raw)
      have hes := encAll_le (backL raw)
      obtain ⟨hes, _⟩ := hes
      have hsz := encS_size (backL raw)
      generalize backL raw = L at *
      rw [show (⟨(encAll L).toArray⟩ : ByteArray) = encS L from rfl] at hcv
      have HSZ := Lib.hid hsz
      have hsz2 : (encS L).size ≤ 1200 := by omega
      clear hsz hes
      have hk4 : k < raw.length ∧ 300 ≤ k ∨ ¬ k < raw.length := by omega
      have HIL := Lib.hid (isInts_own HO.out)
      clear hlt hnot
      rcases hk4 with ⟨hk4, hk5⟩ | hk4
      all_goals
        go_wp2_with fail
        refine (newDec_any _).mono ?_
        rintro e w4 ⟨rfl, rfl⟩
        go_wp2_with fail
        obtain ⟨wo, rfl⟩ : ∃ wo : World, wo = wr := ⟨_, rfl⟩
        go_loopw [9, 10] (fun lv i wx => ∃ j : Nat, j ≤ (encS L).size ∧ i = .int .i64 j ∧ Below wo.heap.size wo wx ∧ wo.heap.size < wx.heap.size ∧ DecAt wx wo.heap.size (runD dec0 ((encAll L).take j)).1 ∧
          wx.ownsRow (wo.heap.size + 1) 21 1 lv (runD dec0 ((encAll L).take j)).2.length ((runD dec0 ((encAll L).take j)).2.map (Value.int .i32))) (fun _ i _ => (encS L).size - (intOf i).toNat)
        case atStart => exact ⟨0, by omega, rfl, (Below.refl _ _).alloc (Nat.le_refl _) _, by simp, heap_alloc_new _ _, World.ownsRow_nil _ _ _ _⟩
        case round =>
          obtain ⟨j, hj, rfl, hb2, hsz3, hd, hown2⟩ := hrel
          have HB2 := Lib.hid hb2
          have HD2 := Lib.hid hd
          have HO2 := Lib.hid hown2
          clear hb2 hd hown2
          by_cases hlt : j < (encS L).size
          · have hlt' : j < (encAll L).length := by rw [← HSZ.out]; exact hlt
            have Hrun := Lib.hid (runD_snoc ((encAll L).take j) ((encAll L).getD j 0) dec0)
            rw [← take_succ_getD (encAll L) 0 j hlt'] at Hrun
            have hok := Lib.hid (runD_ok ((encAll L).take j) dec0 dec0_ok)
            have hlen := runD_len ((encAll L).take j) dec0
            have hlen2 : ((encAll L).take j).length ≤ j := List.length_take_le _ _
            have hbyte : (encAll L).getD j 0 = (encS L)[j] := by
              rw [List.getD_eq_getElem?_getD, List.getElem?_eq_getElem hlt']; rfl
            rw [hbyte] at Hrun
            clear hbyte
            generalize runD dec0 ((encAll L).take j) = D at *
            obtain ⟨D, out⟩ := D
            dsimp only at HD2 HO2 hok hlen Hrun
            go_wp2_with fail
            refine (feed_any _ D (encS L)[j].toNat _ HD2.out (by omega) (byte_le _) hok.out).mono ?_
            rintro e w5 ⟨v5, rfl, h2, h3, h4⟩
            have G2 := Lib.hid h2
            have G3 := Lib.hid h3
            have G4 := Lib.hid h4
            clear h2 h3 h4
            go_wp2_with (at_builtin; refine held ?_)
            unfold Held
            have h5 := G3.out.size
            have h6 := feedD_len D (encS L)[j].toNat
            have HO3 := Lib.hid (own_kept HO2.out G3.out (by omega))
            refine wpList_app runes_elem rfl rfl (wo.heap.size + 1) HO3.out rfl (reads_own G2.out) rfl (ints_oneCell _ _) (by unfold maxLen; omega) (by omega) (by omega) ?_
            intro lv w6 g1 g2
            have HV := Lib.hid HO3.out.lt
            have K1 := Lib.hid g1
            have K2 := Lib.hid g2
            clear g1 g2
            go_wp2_with fail
            go_roundw
            case rel =>
              have gsz := K2.out.size
              refine ⟨j + 1, by omega, by go_num, ?_, by omega, ?_, ?_⟩
              · exact (HB2.out.trans (below_of_gb G3.out (by omega) (by intro q hq; injection hq; omega))).trans (below_of_gb K2.out (by omega) (fun q hq => by have := (HV.out q hq).1; omega))
              · rw [Hrun.out]
                exact blk_grown (o := .cells _ 49 (0, 0)) G4.out K2.out (fun e => by have := (HV.out _ e.symm).1; omega)
              · rw [Hrun.out, List.length_append, List.map_append]
                exact K1.out
            case measure => simp [intOf]; omega
          · have ht : (encAll L).take j = encAll L := List.take_of_length_le (by have := HSZ.out; omega)
            have HT := Lib.hid ht
            rw [HT.out] at HD2 HO2
            clear ht
            obtain ⟨r1, r2⟩ := RB1.out
            have R2 := Lib.hid r2
            rw [r1] at HO2
            clear r1 r2
            have r3 : runes (encS L).data.toList = L := RB2.out
            have R3 := Lib.hid r3
            clear r3
            generalize (runD dec0 (encAll L)).1 = D at *
            go_wp2_with fail
            refine (same_b _ _ _ _ _ (isInts_own HO2.out) (isInts_below HIL.out HB2.out)).mono ?_
            rintro e w5 ⟨rfl, b5⟩
            have B5 := Lib.hid b5
            rw [decide_eq_true (rfl : L = L)]
            clear b5
            go_wp2_with fail
            refine (runes_any _ _ (by omega)).mono ?_
            rintro e w6 ⟨v6, rfl, h6, b6⟩
            have B6 := Lib.hid (B5.out.trans (b6.mono B5.out.size))
            have I6 := Lib.hid (isInts_own h6)
            rw [R3.out] at I6
            clear h6 b6
            go_wp2_with fail
            refine (same_b _ _ _ _ _ I6.out (isInts_below (isInts_below HIL.out HB2.out) B6.out)).mono ?_
            rintro e w7 ⟨rfl, b7⟩
            have B7 := Lib.hid (B6.out.trans (b7.mono B6.out.size))
            rw [decide_eq_true (rfl : L = L)]
            clear b7
            have HD7 := Lib.hid (blk_below (o := .cells _ 49 (0, 0)) HD2.out B7.out hsz3)
            go_wp2_with fail
            refine (pending_any _ D _ HD7.out).mono ?_
            rintro e w8 ⟨rfl, rfl⟩
            rw [R2.out]
            go_wp2_with fail
            refine (end_any _ D _ HD7.out).mono ?_
            rintro e w8 ⟨v8, rfl, h8, g8, _⟩
            have he : endD D = (D, []) := by unfold endD; rw [if_pos R2.out]
            rw [he] at h8
            have hv8 : v8 = .slice none 0 0 ∨ ∃ a c, v8 = .slice (some a) 0 c := by
              rcases h8.2 with ⟨h, _⟩ | ⟨g, cap, cur, h, _⟩
              · exact .inl h
              · exact .inr ⟨_, _, h⟩
            have G8 := Lib.hid g8
            clear h8 g8 he
            rcases hv8 with rfl | ⟨a8, c8, rfl⟩
            all_goals
              go_wp2_with fail
              go_ret
              refine ⟨rfl, ?_⟩
              have hs := HB.out.size
              have hs2 := HB2.out.size
              have hs7 := B7.out.size
              exact (HB.out.trans (HB2.out.mono hs)).trans ((B7.out.mono (by omega)).trans (below_of_gb G8.out (by omega) (by intro q hq; injection hq; omega)))
end Go.Proofs.Ythildbehkmhioaa
