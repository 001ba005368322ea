/- Walks of mullionref5: head. -/
import Derived.Test.YtkdicejlfagaeaaDoorV5
import Derived.Deep.DeepCutAuto
namespace Go.Proofs.YtkdicejlfagaeaaDoor
open Go.RowKit

theorem take_one (s : ByteArray) (h : 0 < s.size) : (s.extract 0 1).data.toList = [s[0]] := by
  rw [ByteArray.data_extract, Array.toList_extract, List.extract_eq_take_drop]
  rw [toList_cons s h]
  rfl
theorem size_eq (s : ByteArray) : s.data.toList.length = s.size := by rw [Array.length_toList]; rfl
set_option maxRecDepth 100000 in
set_option maxHeartbeats 1000000 in
theorem refHead_any (a : VAct) (vp : Value) (w : World) (hs : a.inter.size ≤ 1099511627776) (hp : IsRd .i64 w vp a.params) :
    Calls Tryd.prog 30 #[a.val vp] w fun e w' => e = .returned (.tuple #[.string ⟨(cond (headOk a) (headL a) []).toArray⟩, .bool (headOk a)]) ∧ Below w.heap.size w w' := by
  obtain ⟨kind, rune, byte, params, inter, text⟩ := a
  unfold VAct.val
  dsimp only at hs hp ⊢
  have HP := Lib.hid hp
  have HOK := Lib.hid (show headOk ⟨kind, rune, byte, params, inter, text⟩ = (preOk (markL inter.data.toList).2 byte params && params.all parOk) from rfl)
  have HL := Lib.hid (show headL ⟨kind, rune, byte, params, inter, text⟩ = (markL inter.data.toList).1 ++ parsL false params ++ (markL inter.data.toList).2 ++ [byte] from rfl)
  clear hp
  generalize headOk ⟨kind, rune, byte, params, inter, text⟩ = ok at *
  generalize headL ⟨kind, rune, byte, params, inter, text⟩ = out at *
  go_enter Tryd.func30, Tryd.ntmps30
  have HM := Lib.hid (markD inter)
  go_upto_region 3 with fail
  go_cut [24] (fun v wx => v = .bool (isMark inter) ∧ wx = w.alloc (.cells #[.int .i64 kind, .int .i32 rune, .int .u8 (byte.toNat : Int), vp, .string inter, .string text] 37))
  case first =>
    by_cases h0 : inter.size = 0
    · have hem : inter = ByteArray.empty := by apply ByteArray.ext; apply Array.ext'; exact List.eq_nil_of_length_eq_zero (by simpa using h0)
      subst hem
      go_wp2_with fail
      go_meet
      exact ⟨rfl, rfl⟩
    · have hpos : 0 < inter.size := by omega
      have hpos' : decide (0 < inter.size) = true := decide_eq_true hpos
      have Hm := Lib.hid (isMark_eq inter hpos)
      by_cases h1 : 60 ≤ (inter[0].toNat : Int)
      · by_cases h2 : (inter[0].toNat : Int) ≤ 63
        · replace Hm := Lib.hid (show isMark inter = true by rw [Hm.out, decide_eq_true h1, decide_eq_true h2]; rfl)
          go_wp2_with fail
          go_meet
          rw [Hm.out]
          exact ⟨rfl, rfl⟩
        · replace Hm := Lib.hid (show isMark inter = false by rw [Hm.out, decide_eq_true h1, decide_eq_false h2]; rfl)
          go_wp2_with fail
          go_meet
          rw [Hm.out]
          exact ⟨rfl, rfl⟩
      · replace Hm := Lib.hid (show isMark inter = false by rw [Hm.out, decide_eq_false h1]; rfl)
        go_wp2_with fail
        go_meet
        rw [Hm.out]
        exact ⟨rfl, rfl⟩
  case rest =>
    obtain ⟨rfl, rfl⟩ := hcut
    go_upto_if 24 with fail
    go_cut [4, 5] (fun mv rv wx => ∃ ms rs : ByteArray, mv = .string ms ∧ rv = .string rs ∧ rs.size ≤ 1099511627776 ∧ Hid (rs.data.toList = (markL inter.data.toList).2) ∧ Hid (ms.data.toList = (markL inter.data.toList).1) ∧ ms.size ≤ 1 ∧
      wx = w.alloc (.cells #[.int .i64 kind, .int .i32 rune, .int .u8 (byte.toNat : Int), vp, .string inter, .string text] 37))
    case first =>
      cases hmk : isMark inter
      · have HM2 := Lib.hid (HM.out.2 hmk)
        clear HM
        go_wp2_with fail
        go_meet
        rw [HM2.out]
        exact ⟨ByteArray.empty, inter, rfl, rfl, hs, rfl, rfl, by decide, rfl⟩
      · obtain ⟨hpos, hm2⟩ := HM.out.1 hmk
        have HM2 := Lib.hid hm2
        clear HM hm2
        have h1s : (1 : Int) ≤ (inter.size : Int) := by omega
        go_wp2_with fail
        go_meet
        rw [HM2.out]
        refine ⟨inter.extract 0 1, inter.extract 1 inter.size, rfl, rfl, ?_, extract_to inter 1 (by omega), take_one inter hpos, ?_, rfl⟩
        · rw [ByteArray.size_extract]; omega
        · rw [ByteArray.size_extract]; omega
    case rest =>
      obtain ⟨ms, rs, rfl, rfl, hrs, HRS, HMS, hms, rfl⟩ := hcut
      have HBW := Lib.hid ((Below.refl w.heap.size w).alloc (Nat.le_refl _) (.cells #[.int .i64 kind, .int .i32 rune, .int .u8 (byte.toNat : Int), vp, .string inter, .string text] 37))
      have HPc := Lib.hid (isRd_below HP.out HBW.out)
      have hlen := rd_len Tryd.underlying28 HPc.out
      rw [← HRS.out] at HOK HL
      rw [← HMS.out] at HL
      clear HM
      have HPRE := Lib.hid (show preOk rs.data.toList byte params = ((decide (rs.size ≤ 2) && onlyL rs.data.toList 32 47) && (decide (64 ≤ (byte.toNat : Int)) && (decide ((byte.toNat : Int) ≤ 126) && (decide (params.length ≤ 32) && !(decide (params = [-1])))))) by unfold preOk betweensL; rw [size_eq])
      go_wp2_with fail
      refine (onlyR_any rs 32 47 _ (by omega)).mono ?_
      rintro e w2 ⟨rfl, rfl⟩
      go_upto_region 8 with fail
      go_cut [6, 30, 65] (fun _ _ v wx => v = .bool (!preOk rs.data.toList byte params) ∧ wx = w.alloc (.cells #[.int .i64 kind, .int .i32 rune, .int .u8 (byte.toNat : Int), vp, .string inter, .string text] 37))
      case first =>
        cases hbt : onlyL rs.data.toList 32 47
        · rw [hbt, Bool.and_false] at HPRE
          go_wp2_with fail
          go_meet
          rw [HPRE.out]
          exact ⟨rfl, rfl⟩
        rw [hbt, Bool.and_true] at HPRE
        by_cases h0 : rs.size ≤ 2
        rotate_left
        · rw [decide_eq_false h0] at HPRE
          have h0' : decide (2 < (rs.size : Int)) = true := decide_eq_true (by omega)
          have h0'' : decide (2 < rs.size) = true := decide_eq_true (by omega)
          go_wp2_with fail
          go_meet
          rw [HPRE.out]
          exact ⟨rfl, rfl⟩
        rw [decide_eq_true h0] at HPRE
        have h0' : decide (2 < (rs.size : Int)) = false := decide_eq_false (by omega)
        have h0'' : decide (2 < rs.size) = false := decide_eq_false (by omega)
        by_cases h1 : 64 ≤ (byte.toNat : Int)
        rotate_left
        · rw [decide_eq_false h1] at HPRE
          have h1' : decide ((byte.toNat : Int) < 64) = true := decide_eq_true (by omega)
          go_wp2_with fail
          go_meet
          rw [HPRE.out]
          exact ⟨rfl, rfl⟩
        rw [decide_eq_true h1] at HPRE
        have h1' : decide ((byte.toNat : Int) < 64) = false := decide_eq_false (by omega)
        by_cases h2 : (byte.toNat : Int) ≤ 126
        rotate_left
        · rw [decide_eq_false h2] at HPRE
          have h2' : decide (126 < (byte.toNat : Int)) = true := decide_eq_true (by omega)
          go_wp2_with fail
          go_meet
          rw [HPRE.out]
          exact ⟨rfl, rfl⟩
        rw [decide_eq_true h2] at HPRE
        have h2' : decide (126 < (byte.toNat : Int)) = false := decide_eq_false (by omega)
        by_cases h3 : params.length ≤ 32
        rotate_left
        · rw [decide_eq_false h3] at HPRE
          have h3' : decide (32 < (params.length : Int)) = true := decide_eq_true (by omega)
          go_wp2_with fail
          go_meet
          rw [HPRE.out]
          exact ⟨rfl, rfl⟩
        rw [decide_eq_true h3] at HPRE
        have h3' : decide (32 < (params.length : Int)) = false := decide_eq_false (by omega)
        by_cases h4 : params.length = 1
        rotate_left
        · rw [decide_eq_false (show ¬ params = [-1] from fun h => h4 (by rw [h]; rfl))] at HPRE
          go_wp2_with fail
          go_meet
          rw [HPRE.out]
          exact ⟨rfl, rfl⟩
        obtain ⟨ad, had, hcell⟩ := rd_at Tryd.underlying28 (by kernel_rfl) HPc.out 0 (by omega)
        replace had : ∀ wx, (Instr.indexAt 28 vp (.int .i64 0)).run Tryd.prog wx = .ok (.pointer (some ad)) wx := had
        have hsingle : params = [params.getD 0 0] := by
          match params, h4 with
          | [x], _ => rfl
        have HS := Lib.hid hsingle
        have h4' : ((params.length : Int) == 1) = true := by simp; omega
        clear hsingle h4
        by_cases h5 : params.getD 0 0 = -1
        · rw [decide_eq_true (show params = [-1] by rw [HS.out, h5])] at HPRE
          rw [h5] at hcell
          go_wp2_with fail
          go_meet
          rw [HPRE.out]
          exact ⟨rfl, rfl⟩
        · rw [decide_eq_false (show ¬ params = [-1] from fun h => h5 (by rw [h]; rfl))] at HPRE
          have h5' : (params.getD 0 0 == -1) = false := beq_eq_false_iff_ne.2 h5
          generalize params.getD 0 0 = x0 at *
          go_wp2_with fail
          go_meet
          rw [HPRE.out]
          exact ⟨rfl, rfl⟩
      case rest =>
        obtain ⟨rfl, rfl⟩ := hcut
        cases hpre : preOk rs.data.toList byte params
        · have HOK2 := Lib.hid (show ok = false by rw [HOK.out, hpre]; rfl)
          clear HPRE
          go_wp2_with fail
          refine ret2v rfl rfl rfl rfl ⟨?_, HBW.out⟩
          rw [HOK2.out]
          rfl
        have HOK2 := Lib.hid (show ok = params.all parOk by rw [HOK.out, hpre]; simp)
        have HPR2 := Lib.hid hpre
        go_wp2_with fail
        have h32 : params.length ≤ 32 := preOk_len HPR2.out
        go_loopw [8, 9] (fun sv iv wr => ∃ k : Nat, k ≤ params.length ∧ iv = .int .i64 k ∧ Hid ((params.take k).all parOk = true) ∧ Below (w.heap.size + 1) (w.alloc (.cells #[.int .i64 kind, .int .i32 rune, .int .u8 (byte.toNat : Int), vp, .string inter, .string text] 37)) wr ∧
          ∃ st : ByteArray, sv = .string st ∧ Hid (st.data.toList = ms.data.toList ++ parsL false (params.take k)) ∧ st.size ≤ 1 + 22 * k) (fun _ iv _ => params.length - (intOf iv).toNat)
        case atStart => exact ⟨0, by omega, rfl, rfl, Below.refl _ _, ms, rfl, (by show _ = _; simp [parsL]), by omega⟩
        case round =>
          obtain ⟨k, hk, rfl, HA, hb2, st, rfl, HST, hst⟩ := hrel
          have HB2 := Lib.hid hb2
          clear hb2
          have HBr := Lib.hid (HBW.out.trans (HB2.out.mono (by omega)))
          have HPr := Lib.hid (isRd_below HP.out HBr.out)
          have hsz := HBr.out.size
          have hsz1 := HB2.out.size
          simp at hsz1
          have d2 : wr.cell? ⟨w.heap.size, 2, none⟩ = some (.int .u8 (byte.toNat : Int)) := below_cell HB2.out (by omega) (by rw [World.cell?_alloc_new]; rfl)
          have d3 : wr.cell? ⟨w.heap.size, 3, none⟩ = some vp := below_cell HB2.out (by omega) (by rw [World.cell?_alloc_new]; rfl)
          by_cases hlt : k < params.length
          · have HAS := Lib.hid (all_step params k hlt)
            have HPS := Lib.hid (parsL_step params k hlt)
            have HHT := Lib.hid (all_hit params k hlt)
            obtain ⟨ad, had, hcell⟩ := rd_at Tryd.underlying28 (by kernel_rfl) HPr.out k hlt
            generalize params.getD k 0 = x at *
            by_cases hx1 : x < -1
            · have HOK3 := Lib.hid (show ok = false by rw [HOK2.out]; exact HHT.out (by unfold parOk; rw [decide_eq_false (by omega)]; rfl))
              have hx1' : decide (x < -1) = true := decide_eq_true hx1
              go_wp2_with fail
              refine ret2v rfl rfl rfl rfl ⟨?_, HBr.out⟩
              rw [HOK3.out]
              rfl
            have hx1' : decide (x < -1) = false := decide_eq_false hx1
            by_cases hx2 : 9999 < x
            · have HOK3 := Lib.hid (show ok = false by rw [HOK2.out]; exact HHT.out (by unfold parOk; rw [decide_eq_false (show ¬ x ≤ 9999 by omega), Bool.and_false]))
              have hx2' : decide (9999 < x) = true := decide_eq_true hx2
              go_wp2_with fail
              refine ret2v rfl rfl rfl rfl ⟨?_, HBr.out⟩
              rw [HOK3.out]
              rfl
            have hx2' : decide (9999 < x) = false := decide_eq_false hx2
            have HAS2 := Lib.hid (show (params.take (k + 1)).all parOk = true by
              rw [HAS.out, HA.out]; unfold parOk; rw [decide_eq_true (show -1 ≤ x by omega), decide_eq_true (show x ≤ 9999 by omega)]; rfl)
            go_upto_if 87 with fail
            go_cut [8] (fun sv wx => wx = wr ∧ ∃ st2 : ByteArray, sv = .string st2 ∧ Hid (st2.data.toList = ms.data.toList ++ parsL false (params.take k) ++ (if decide (0 < k) then [59] else [])) ∧ st2.size ≤ 2 + 22 * k)
            case first =>
              by_cases hk0 : 0 < k
              · have hk0' : decide (0 < (k : Int)) = true := decide_eq_true (by omega)
                have hk0'' : decide (0 < k) = true := decide_eq_true (by omega)
                have hbig : ¬ (9223372036854775807 < st.size + 1) := by omega
                go_wp2_with fail
                go_meet
                refine ⟨rfl, st ++ ⟨#[59]⟩, rfl, ?_, ?_⟩
                · show (st ++ ⟨#[59]⟩ : ByteArray).data.toList = _
                  rw [cat_list, HST.out, hk0'']; rfl
                · rw [ByteArray.size_append]; show st.size + 1 ≤ _; omega
              · have hk0' : decide (0 < (k : Int)) = false := decide_eq_false (by omega)
                have hk0'' : decide (0 < k) = false := decide_eq_false (by omega)
                go_wp2_with fail
                go_meet
                refine ⟨rfl, st, rfl, ?_, by omega⟩
                show st.data.toList = _
                rw [HST.out, hk0'']; simp
            case rest =>
              obtain ⟨rfl, st2, rfl, HST2, hst2⟩ := hcut
              have HST3 := Lib.hid (show st2.data.toList ++ (if 0 ≤ x then Lib.itoa x else []) = ms.data.toList ++ parsL false (params.take (k + 1)) by
                rw [HST2.out, HPS.out]
                unfold parL
                simp only [List.append_assoc])
              by_cases hx : 0 ≤ x
              · rw [if_pos hx] at HST3
                have hx' : decide (0 ≤ x) = true := decide_eq_true hx
                have hil := Lib.itoa_length_le x (by omega) (by omega)
                go_wp2_with fail
                refine (digits_any x _ hx (by omega)).mono ?_
                rintro e w6 ⟨rfl, b6⟩
                have B6 := Lib.hid (HB2.out.trans (b6.mono (by omega)))
                clear b6
                have hsi : (⟨(Lib.itoa x).toArray⟩ : ByteArray).size ≤ 21 := by show (Lib.itoa x).toArray.size ≤ 21; simpa using hil
                have hsl : (⟨(Lib.itoa x).toArray⟩ : ByteArray).data.toList = Lib.itoa x := rfl
                generalize (⟨(Lib.itoa x).toArray⟩ : ByteArray) = di at *
                have hbig : ¬ (9223372036854775807 < st2.size + di.size) := by omega
                rw [← hsl] at HST3
                clear hsl
                go_wp2_with fail
                go_roundw
                case rel =>
                  repeat apply Exists.intro
                  refine ⟨⟨k + 1, by omega, rfl, HAS2.out, B6.out, st2 ++ di, rfl, ?_, ?_⟩, rfl⟩
                  · show (st2 ++ di).data.toList = _
                    rw [cat_list]; exact HST3.out
                  · rw [ByteArray.size_append]; omega
                case measure => simp [intOf]; omega
              · rw [if_neg hx, List.append_nil] at HST3
                have hx' : decide (0 ≤ x) = false := decide_eq_false hx
                go_wp2_with fail
                go_roundw
                case rel =>
                  refine ⟨k + 1, by omega, by go_num, HAS2.out, HB2.out, st2, rfl, HST3, by omega⟩
                case measure => simp [intOf]; omega
          · have hk2 : k = params.length := by omega
            have HOK3 := Lib.hid (show true = ok by rw [HOK2.out]; have := HA.out; rw [hk2, List.take_length] at this; rw [this])
            have HO3 := Lib.hid (show out = st.data.toList ++ rs.data.toList ++ [byte] by rw [HL.out, HST.out, hk2, List.take_length])
            clear hk2
            have hbw : rs.size ≤ 2 := by have := preOk_btw HPR2.out; rw [size_eq] at this; exact this
            have hbig : ¬ (9223372036854775807 < st.size + rs.size) := by omega
            have hbig2 : ¬ (9223372036854775807 < st.size + rs.size + 1) := by omega
            have hcb := conv_one wr byte _ rfl
            go_wp2_with fail
            refine ret2v rfl rfl rfl rfl ⟨?_, HBr.out.alloc hsz _⟩
            have hst3 : (st ++ rs ++ ⟨#[byte]⟩ : ByteArray) = ⟨out.toArray⟩ := str_of (by rw [cat_list, cat_list, HO3.out])
            rw [← HOK3.out]
            show Ending.returned (.tuple #[.string (st ++ rs ++ ⟨#[byte]⟩ : ByteArray), .bool true]) = Ending.returned (.tuple #[.string ⟨out.toArray⟩, .bool true])
            rw [hst3]
end Go.Proofs.YtkdicejlfagaeaaDoor
