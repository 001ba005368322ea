/- Walks of mullionref5: One and Print, whole. -/
import Derived.Test.YtkdicejlfagaeaaDoorV7
import Derived.Laws.Cover4
namespace Go.Proofs.YtkdicejlfagaeaaDoor
open Go.RowKit

theorem conv_rune (w : World) (r : Int) : (convert 55 9 (.slice (some ⟨w.heap.size, 0, none⟩) 1 1)).run Tryd.prog (w.alloc (.cells #[.int .i32 r] 21)) = .ok (.string ⟨(encL r).toArray⟩) (w.alloc (.cells #[.int .i32 r] 21)) := by
  have := run_convert_runes (P := Tryd.prog) (w.alloc (.cells #[.int .i32 r] 21)) 55 9 21 ⟨w.heap.size, 0, none⟩ 1 1 [r] (Nat.le_refl _) Tryd.underlying55 Tryd.underlying21 Tryd.underlying9 (fun j hj => by
    have : j = 0 := by simp at hj; omega
    subst this
    rw [add_eq, World.cell?_alloc_new]
    rfl)
  rw [this, runesBytes_eq]
  simp [encAll]
section
variable (kind rune : Int) (byte : UInt8) (params : List Int) (inter text : ByteArray) (vp : Value) (w : World)
set_option maxRecDepth 100000 in
theorem one_print :
    Calls Tryd.prog 17 #[VAct.val ⟨1, rune, byte, params, inter, text⟩ vp] w fun e w' => e = .returned (.string ⟨(cond (prOk rune) (encL rune) []).toArray⟩) ∧ Below w.heap.size w w' := by
  unfold VAct.val
  have HOK := Lib.hid (show prOk rune = (decide (32 ≤ rune) && (!(rune == 127) && Lib.validRune rune)) from rfl)
  have HB := Lib.hid ((Below.refl w.heap.size w).alloc (Nat.le_refl _) (.cells #[.int .i64 1, .int .i32 rune, .int .u8 (byte.toNat : Int), vp, .string inter, .string text] 37))
  have hcb := conv_rune (w.alloc (.cells #[.int .i64 1, .int .i32 rune, .int .u8 (byte.toNat : Int), vp, .string inter, .string text] 37)) rune
  simp only [World.size_alloc] at hcb
  generalize prOk rune = ok at *
  by_cases h2 : rune = 127
  · subst h2
    clear hcb
    go_enter Tryd.func17, Tryd.ntmps17
    go_wp2_with fail
    refine ret1v rfl rfl rfl ⟨?_, HB.out⟩
    rw [HOK.out]; rfl
  have h2' : (rune == 127) = false := beq_eq_false_iff_ne.2 h2
  rw [h2'] at HOK
  by_cases h1 : 32 ≤ rune
  rotate_left
  · rw [decide_eq_false h1] at HOK
    have h1' : decide (rune < 32) = true := decide_eq_true (by omega)
    clear hcb
    go_enter Tryd.func17, Tryd.ntmps17
    go_wp2_with fail
    refine ret1v rfl rfl rfl ⟨?_, HB.out⟩
    rw [HOK.out]; rfl
  rw [decide_eq_true h1] at HOK
  have h1' : decide (rune < 32) = false := decide_eq_false (by omega)
  by_cases h3 : 1114111 < rune
  · have HOK2 := Lib.hid (show ok = false by rw [HOK.out]; unfold Lib.validRune; rw [decide_eq_false (show ¬ ((0 ≤ rune ∧ rune < 0xD800) ∨ (0xDFFF < rune ∧ rune ≤ 0x10FFFF)) by omega)]; rfl)
    have h3' : decide (1114111 < rune) = true := decide_eq_true h3
    clear hcb
    go_enter Tryd.func17, Tryd.ntmps17
    go_wp2_with fail
    refine ret1v rfl rfl rfl ⟨?_, HB.out⟩
    rw [HOK2.out]; rfl
  have h3' : decide (1114111 < rune) = false := decide_eq_false h3
  by_cases h4 : 55296 ≤ rune
  · have h4' : decide (55296 ≤ rune) = true := decide_eq_true h4
    by_cases h5 : rune ≤ 57343
    · have HOK2 := Lib.hid (show ok = false by rw [HOK.out]; unfold Lib.validRune; rw [decide_eq_false (show ¬ ((0 ≤ rune ∧ rune < 0xD800) ∨ (0xDFFF < rune ∧ rune ≤ 0x10FFFF)) by omega)]; rfl)
      have h5' : decide (rune ≤ 57343) = true := decide_eq_true h5
      clear hcb
      go_enter Tryd.func17, Tryd.ntmps17
      go_wp2_with fail
      refine ret1v rfl rfl rfl ⟨?_, HB.out⟩
      rw [HOK2.out]; rfl
    · have HOK2 := Lib.hid (show ok = true by rw [HOK.out]; unfold Lib.validRune; rw [decide_eq_true (show ((0 ≤ rune ∧ rune < 0xD800) ∨ (0xDFFF < rune ∧ rune ≤ 0x10FFFF)) by omega)]; rfl)
      have h5' : decide (rune ≤ 57343) = false := decide_eq_false h5
      go_enter Tryd.func17, Tryd.ntmps17
      go_wp2_with fail
      refine ret1v (v := .string ⟨(encL rune).toArray⟩) rfl rfl rfl ⟨?_, HB.out.alloc (by simp) _⟩
      rw [HOK2.out]; rfl
  · have h4' : decide (55296 ≤ rune) = false := decide_eq_false h4
    have HOK2 := Lib.hid (show ok = true by rw [HOK.out]; unfold Lib.validRune; rw [decide_eq_true (show ((0 ≤ rune ∧ rune < 0xD800) ∨ (0xDFFF < rune ∧ rune ≤ 0x10FFFF)) by omega)]; rfl)
    go_enter Tryd.func17, Tryd.ntmps17
    go_wp2_with fail
    refine ret1v (v := .string ⟨(encL rune).toArray⟩) rfl rfl rfl ⟨?_, HB.out.alloc (by simp) _⟩
    rw [HOK2.out]; rfl
set_option maxRecDepth 100000 in
theorem one_esc (hi : inter.size ≤ 1099511627776) :
    Calls Tryd.prog 17 #[VAct.val ⟨3, rune, byte, params, inter, text⟩ vp] w fun e w' => e = .returned (.string ⟨(cond (escOk inter.data.toList byte) (27 :: inter.data.toList ++ [byte]) []).toArray⟩) ∧ Below w.heap.size w w' := by
  unfold VAct.val
  have HB := Lib.hid ((Below.refl w.heap.size w).alloc (Nat.le_refl _) (.cells #[.int .i64 3, .int .i32 rune, .int .u8 (byte.toNat : Int), vp, .string inter, .string text] 37))
  have HOK := Lib.hid (show escOk inter.data.toList byte = ((decide (inter.size ≤ 2) && onlyL inter.data.toList 32 47) && (decide (48 ≤ (byte.toNat : Int)) && (decide ((byte.toNat : Int) ≤ 126) && (!inter.data.toList.isEmpty || !beginsL byte.toNat)))) by unfold escOk betweensL; rw [size_eq])
  have hcb := conv_one (w.alloc (.cells #[.int .i64 3, .int .i32 rune, .int .u8 (byte.toNat : Int), vp, .string inter, .string text] 37)) byte _ rfl
  simp only [World.size_alloc] at hcb
  generalize escOk inter.data.toList byte = ok at *
  have HBG := Lib.hid (show beginsL byte.toNat = ((byte.toNat : Int) == 91 || (byte.toNat : Int) == 93 || (byte.toNat : Int) == 80 || (byte.toNat : Int) == 88 || (byte.toNat : Int) == 94 || (byte.toNat : Int) == 95) from rfl)
  go_enter Tryd.func17, Tryd.ntmps17
  go_wp2_with fail
  refine (onlyR_any inter 32 47 _ (by omega)).mono ?_
  rintro e w2 ⟨rfl, rfl⟩
  go_upto_region 12 with fail
  go_cut [5] (fun v wx => v = .bool (beginsL byte.toNat) ∧ wx = w.alloc (.cells #[.int .i64 3, .int .i32 rune, .int .u8 (byte.toNat : Int), vp, .string inter, .string text] 37))
  case first =>
    cases hb0 : ((byte.toNat : Int) == 91)
    rotate_left
    · go_wp2_with fail
      go_meet
      refine ⟨?_, rfl⟩
      rw [HBG.out, hb0]
      rfl
    cases hb1 : ((byte.toNat : Int) == 93)
    rotate_left
    · go_wp2_with fail
      go_meet
      refine ⟨?_, rfl⟩
      rw [HBG.out, hb0, hb1]
      rfl
    cases hb2 : ((byte.toNat : Int) == 80)
    rotate_left
    · go_wp2_with fail
      go_meet
      refine ⟨?_, rfl⟩
      rw [HBG.out, hb0, hb1, hb2]
      rfl
    cases hb3 : ((byte.toNat : Int) == 88)
    rotate_left
    · go_wp2_with fail
      go_meet
      refine ⟨?_, rfl⟩
      rw [HBG.out, hb0, hb1, hb2, hb3]
      rfl
    cases hb4 : ((byte.toNat : Int) == 94)
    rotate_left
    · go_wp2_with fail
      go_meet
      refine ⟨?_, rfl⟩
      rw [HBG.out, hb0, hb1, hb2, hb3, hb4]
      rfl
    cases hb5 : ((byte.toNat : Int) == 95)
    rotate_left
    · go_wp2_with fail
      go_meet
      refine ⟨?_, rfl⟩
      rw [HBG.out, hb0, hb1, hb2, hb3, hb4, hb5]
      rfl
    go_wp2_with fail
    go_meet
    refine ⟨?_, rfl⟩
    rw [HBG.out, hb0, hb1, hb2, hb3, hb4, hb5]
    rfl
  case rest =>
    obtain ⟨rfl, rfl⟩ := hcut
    clear HBG
    generalize beginsL byte.toNat = bg at *
    have HB2 := Lib.hid (show True from trivial)
    go_upto_region 13 with fail
    go_cut [4, 28, 119] (fun _ _ v wx => v = .bool ok ∧ (ok = true → inter.size ≤ 2) ∧ wx = w.alloc (.cells #[.int .i64 3, .int .i32 rune, .int .u8 (byte.toNat : Int), vp, .string inter, .string text] 37))
    case first =>
      cases hbt : onlyL inter.data.toList 32 47
      · rw [hbt, Bool.and_false] at HOK
        go_wp2_with fail
        go_meet
        rw [HOK.out]
        exact ⟨rfl, by simp, rfl⟩
      rw [hbt, Bool.and_true] at HOK
      by_cases h0 : inter.size ≤ 2
      rotate_left
      · rw [decide_eq_false h0] at HOK
        have h0' : decide ((inter.size : Int) ≤ 2) = false := decide_eq_false (by omega)
        have h0'' : decide (inter.size ≤ 2) = false := decide_eq_false (by omega)
        go_wp2_with fail
        go_meet
        rw [HOK.out]
        exact ⟨rfl, by simp, rfl⟩
      rw [decide_eq_true h0] at HOK
      have h0' : decide ((inter.size : Int) ≤ 2) = true := decide_eq_true (by omega)
      have h0'' : decide (inter.size ≤ 2) = true := decide_eq_true (by omega)
      have H0 := Lib.hid h0
      by_cases h1 : 48 ≤ (byte.toNat : Int)
      rotate_left
      · rw [decide_eq_false h1] at HOK
        have h1' : decide (48 ≤ (byte.toNat : Int)) = false := decide_eq_false h1
        go_wp2_with fail
        go_meet
        rw [HOK.out]
        exact ⟨rfl, fun _ => H0.out, rfl⟩
      rw [decide_eq_true h1] at HOK
      have h1' : decide (48 ≤ (byte.toNat : Int)) = true := decide_eq_true h1
      by_cases h2 : (byte.toNat : Int) ≤ 126
      rotate_left
      · rw [decide_eq_false h2] at HOK
        have h2' : decide ((byte.toNat : Int) ≤ 126) = false := decide_eq_false h2
        go_wp2_with fail
        go_meet
        rw [HOK.out]
        exact ⟨rfl, fun _ => H0.out, rfl⟩
      rw [decide_eq_true h2] at HOK
      have h2' : decide ((byte.toNat : Int) ≤ 126) = true := decide_eq_true h2
      have hie : inter.toList.isEmpty = inter.data.toList.isEmpty := by rw [ByteArray.toList_eq]
      cases hiv : inter.data.toList.isEmpty
      · rw [hiv] at HOK hie
        go_wp2_with fail
        go_meet
        rw [HOK.out]
        exact ⟨by simp, fun _ => H0.out, rfl⟩
      · rw [hiv] at HOK hie
        cases bg
        · go_wp2_with fail
          go_meet
          rw [HOK.out]
          exact ⟨by simp, fun _ => H0.out, rfl⟩
        · go_wp2_with fail
          go_meet
          rw [HOK.out]
          exact ⟨by simp, fun _ => H0.out, rfl⟩
    case rest =>
      obtain ⟨rfl, hsz, rfl⟩ := hcut
      cases ok
      · go_wp2_with fail
        refine ret1v rfl rfl rfl ⟨rfl, HB.out⟩
      · have h2 := hsz rfl
        have hbig : ¬ (9223372036854775807 < 1 + inter.size) := by omega
        have hbig2 : ¬ (9223372036854775807 < 1 + inter.size + 1) := by omega
        go_wp2_with fail
        refine ret1v (v := .string (⟨#[27]⟩ ++ inter ++ ⟨#[byte]⟩)) rfl rfl rfl ⟨?_, HB.out.alloc (by simp) _⟩
        rw [str_of (show (⟨#[27]⟩ ++ inter ++ ⟨#[byte]⟩ : ByteArray).data.toList = 27 :: inter.data.toList ++ [byte] by rw [cat_list, cat_list]; rfl)]
        rfl
end
theorem one_any (a : VAct) (vp : Value) (w : World) (hi : a.inter.size ≤ 1099511627776) (ht : a.text.size ≤ 1099511627776) (hp : IsRd .i64 w vp a.params) :
    Calls Tryd.prog 17 #[a.val vp] w fun e w' => e = .returned (.string ⟨(wrL a).toArray⟩) ∧ Below w.heap.size w w' := by
  obtain ⟨kind, rune, byte, params, inter, text⟩ := a
  dsimp only at hi ht hp
  by_cases h1 : kind = 1
  · subst h1; exact one_print rune byte params inter text vp w
  by_cases h2 : kind = 2
  · subst h2; exact one_control rune byte params inter text vp w
  by_cases h3 : kind = 3
  · subst h3; exact one_esc rune byte params inter text vp w hi
  by_cases h4 : kind = 4
  · subst h4; exact one_csi rune byte params inter text vp w hi hp
  by_cases h5 : kind = 5
  · subst h5; exact one_osc rune byte params inter text vp w ht
  by_cases h6 : kind = 6
  · subst h6; exact one_dcs rune byte params inter text vp w hi ht hp
  have e : wrL ⟨kind, rune, byte, params, inter, text⟩ = [] := by unfold wrL; simp [h1, h2, h3, h4, h5, h6]
  rw [e]
  exact one_none rune byte params inter text vp w kind (by omega)
set_option maxRecDepth 100000 in
theorem refPrint_any (v : Value) (l : List (VAct × Value)) (w : World) (hv : IsActs w v l) (hf : ∀ x ∈ l, ActFits x.1) (hl : l.length ≤ 8388608) :
    Calls Tryd.prog 10 #[v] w fun e w' => e = .returned (.string ⟨(prL (l.map (·.1))).toArray⟩) ∧ Below w.heap.size w w' := by
  go_enter Tryd.func10, Tryd.ntmps10
  obtain ⟨⟨rfl, rfl⟩ | ⟨a, c, rfl, hc1, hc2, hcells⟩, hrd⟩ := hv
  · go_wp2_with fail
    go_loopw [3, 4] (fun bv iv wr => bv = .slice none 0 0 ∧ iv = .int .i64 0 ∧ wr = w) (fun _ _ _ => 0)
    case atStart => exact ⟨rfl, rfl, rfl⟩
    case round =>
      obtain ⟨rfl, rfl, rfl⟩ := hrel
      have hcv := run_bytes_reads (P := Tryd.prog) (l := []) Tryd.underlying24 Tryd.underlying5 Tryd.underlying9 (reads_nil wr 1)
      go_wp2_with fail
      exact ret1v rfl rfl rfl ⟨rfl, Below.refl _ _⟩
  · have HC := Lib.hid hcells
    have HR := Lib.hid hrd
    have HF := Lib.hid hf
    clear hcells hrd hf
    go_wp2_with fail
    go_loopw [3, 4] (fun bv iv wr => ∃ k : Nat, k ≤ l.length ∧ iv = .int .i64 k ∧ Below w.heap.size w wr ∧ OwnC wr w.heap.size 1 bv (prL ((l.take k).map (·.1))).length (byteVals (prL ((l.take k).map (·.1))))) (fun _ iv _ => l.length - (intOf iv).toNat)
    case atStart => exact ⟨0, by omega, rfl, Below.refl _ _, ownC_nil _ _ _⟩
    case round =>
      obtain ⟨k, hk, rfl, hb, ho⟩ := hrel
      have HB := Lib.hid hb
      have HO := Lib.hid ho
      clear hb ho
      have hbs := HB.out.size
      by_cases hlt : k < l.length
      · obtain ⟨q0, q1, q2, q3, q4, q5⟩ := HC.out k hlt
        have HP := Lib.hid (prL_snoc l k hlt)
        have hpl := prL_len ((l.take k).map (·.1))
        have hpl2 : ((l.take k).map (·.1)).length ≤ k := by rw [List.length_map]; exact List.length_take_le _ _
        have hm : l[k] ∈ l := List.getElem_mem hlt
        have hfits := HF.out _ hm
        have hrdk := HR.out _ hm
        have hwl := wrL_len l[k].1
        generalize l[k] = x at *
        obtain ⟨⟨kind, rune, byte, params, inter, text⟩, vp⟩ := x
        obtain ⟨f1, f2, f3, f4⟩ := hfits
        dsimp only at q0 q1 q2 q3 q4 q5 f1 f2 f3 f4 hrdk HP hwl
        have p0 := cell_below HB.out q0
        have p1 := cell_below HB.out q1
        have p2 := cell_below HB.out q2
        have p3 := cell_below HB.out q3
        have p4 := cell_below HB.out q4
        have p5 := cell_below HB.out q5
        clear q0 q1 q2 q3 q4 q5
        have HW := Lib.hid (one_any ⟨kind, rune, byte, params, inter, text⟩ vp wr f3 f4 (isRd_below hrdk HB.out))
        unfold VAct.val at HW
        dsimp only at HW
        clear hrdk
        generalize wrL ⟨kind, rune, byte, params, inter, text⟩ = wl at *
        generalize prL ((l.take k).map (·.1)) = pl at *
        go_wp2_with fail
        refine HW.out.mono ?_
        rintro e w2 ⟨rfl, b2⟩
        have hs2 := b2.size
        have HB3 := Lib.hid (HB.out.trans (b2.mono (by omega)))
        have HO2 := Lib.hid (ownC_below HO.out b2)
        have HSR := Lib.hid (src_str w2 Tryd.underlying9 ⟨wl.toArray⟩)
        have hsl : (⟨wl.toArray⟩ : ByteArray).data.toList = wl := rfl
        rw [hsl] at HSR
        clear b2 hsl
        generalize (⟨wl.toArray⟩ : ByteArray) = ws at *
        go_wp2_with (at_builtin; refine held ?_)
        unfold Held
        refine wpList_appS bytes_elem rfl rfl w.heap.size HO2.out rfl HSR.out rfl (by unfold maxLen; omega) (by omega) (by omega) ?_
        intro v6 w6 o6 g6 n6
        have lt5 := ownC_lt HO2.out
        have O6 := Lib.hid o6
        have HB6 := Lib.hid (HB3.out.grown g6 (by omega) (by intro q hq; exact (lt5 q hq).1))
        clear o6 g6 lt5 n6
        go_wp2_with fail
        go_roundw
        case rel =>
          refine ⟨k + 1, by omega, by go_num, HB6.out, ?_⟩
          rw [HP.out, byteVals_append, List.length_append]
          exact O6.out
        case measure => simp [intOf]; omega
      · have hk2 : k = l.length := by omega
        have hcv := run_bytes_reads (P := Tryd.prog) Tryd.underlying24 Tryd.underlying5 Tryd.underlying9 (ownC_reads HO.out)
        have HE := Lib.hid (show prL ((l.take k).map (·.1)) = prL (l.map (·.1)) by rw [hk2, List.take_length])
        rw [HE.out] at hcv
        clear HE
        generalize hout : prL (l.map (·.1)) = out at *
        replace hout := Lib.hid hout
        go_wp2_with fail
        refine ret1v (v := .string ⟨out.toArray⟩) rfl rfl rfl ⟨?_, HB.out⟩
        rw [hout.out]
end Go.Proofs.YtkdicejlfagaeaaDoor
