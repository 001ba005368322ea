/- Walks of mullionref5: One, Print. -/
import Derived.Test.YtkdicejlfagaeaaDoorV6
import Derived.Lib.ItoaLen
namespace Go.Proofs.YtkdicejlfagaeaaDoor
open Go.RowKit

theorem cond_bool {α : Type} {b : Bool} {x y : α} : (b = true → x = y) → cond b x y = y := by
  cases b
  · intro _; rfl
  · intro h; exact h rfl
section
variable (kind rune : Int) (byte : UInt8) (params : List Int) (inter text : ByteArray) (vp : Value) (w : World)
set_option maxRecDepth 100000 in
theorem one_none (kind : Int) (hk : kind < 1 ∨ 6 < kind) :
    Calls Tryd.prog 17 #[VAct.val ⟨kind, rune, byte, params, inter, text⟩ vp] w fun e w' => e = .returned (.string ⟨([] : List UInt8).toArray⟩) ∧ Below w.heap.size w w' := by
  unfold VAct.val
  have HB := Lib.hid ((Below.refl w.heap.size w).alloc (Nat.le_refl _) (.cells #[.int .i64 kind, .int .i32 rune, .int .u8 (byte.toNat : Int), vp, .string inter, .string text] 37))
  have h1 : (kind == 1) = false := by simp; omega
  have h2 : (kind == 2) = false := by simp; omega
  have h3 : (kind == 3) = false := by simp; omega
  have h4 : (kind == 4) = false := by simp; omega
  have h5 : (kind == 5) = false := by simp; omega
  have h6 : (kind == 6) = false := by simp; omega
  clear hk
  go_enter Tryd.func17, Tryd.ntmps17
  go_wp2_with fail
  exact ret1v rfl rfl rfl ⟨rfl, HB.out⟩
set_option maxRecDepth 100000 in
theorem one_control :
    Calls Tryd.prog 17 #[VAct.val ⟨2, rune, byte, params, inter, text⟩ vp] w fun e w' => e = .returned (.string ⟨(cond (ctlOk byte) [byte] []).toArray⟩) ∧ Below w.heap.size w w' := by
  unfold VAct.val
  have HOK := Lib.hid (show ctlOk byte = (decide ((byte.toNat : Int) < 32) && (!((byte.toNat : Int) == 24) && (!((byte.toNat : Int) == 26) && !((byte.toNat : Int) == 27)))) from rfl)
  have HB := Lib.hid ((Below.refl w.heap.size w).alloc (Nat.le_refl _) (.cells #[.int .i64 2, .int .i32 rune, .int .u8 (byte.toNat : Int), vp, .string inter, .string text] 37))
  have hcb := conv_one (w.alloc (.cells #[.int .i64 2, .int .i32 rune, .int .u8 (byte.toNat : Int), vp, .string inter, .string text] 37)) byte _ rfl
  simp only [World.size_alloc] at hcb
  generalize ctlOk byte = ok at *
  by_cases h1 : (byte.toNat : Int) < 32 ∧ ¬ (byte.toNat : Int) = 24 ∧ ¬ (byte.toNat : Int) = 26 ∧ ¬ (byte.toNat : Int) = 27
  · obtain ⟨h1, h2, h3, h4⟩ := h1
    have HOK2 := Lib.hid (show ok = true by rw [HOK.out]; simp [h1, h2, h3, h4])
    have h1' : decide ((byte.toNat : Int) < 32) = true := decide_eq_true h1
    have h2' : ((byte.toNat : Int) != 24) = true := by simpa using h2
    have h3' : ((byte.toNat : Int) != 26) = true := by simpa using h3
    have h4' : ((byte.toNat : Int) != 27) = true := by simpa using h4
    generalize hbb : (byte.toNat : Int) = bb at *
    replace hbb := Lib.hid hbb
    go_enter Tryd.func17, Tryd.ntmps17
    go_wp2_with fail
    refine ret1v (v := .string ⟨#[byte]⟩) rfl rfl rfl ⟨?_, HB.out.alloc (by simp) _⟩
    rw [HOK2.out]; rfl
  · have HOK2 := Lib.hid (show ok = false by rw [HOK.out]; simp only [Bool.and_eq_false_iff, Bool.not_eq_false', decide_eq_false_iff_not, beq_iff_eq]; omega)
    have hc : 32 ≤ (byte.toNat : Int) ∨ (byte.toNat : Int) = 24 ∨ (byte.toNat : Int) = 26 ∨ (byte.toNat : Int) = 27 := by omega
    clear h1 hcb
    rcases hc with h1 | h1 | h1 | h1
    · have h1' : decide ((byte.toNat : Int) < 32) = false := decide_eq_false (by omega)
      go_enter Tryd.func17, Tryd.ntmps17
      go_wp2_with fail
      refine ret1v rfl rfl rfl ⟨?_, HB.out⟩
      rw [HOK2.out]; rfl
    all_goals
      generalize (byte.toNat : Int) = bb at *
      subst h1
      go_enter Tryd.func17, Tryd.ntmps17
      go_wp2_with fail
      refine ret1v rfl rfl rfl ⟨?_, HB.out⟩
      rw [HOK2.out]; rfl
set_option maxRecDepth 100000 in
theorem one_csi (hi : inter.size ≤ 1099511627776) (hp : IsRd .i64 w vp params) :
    Calls Tryd.prog 17 #[VAct.val ⟨4, rune, byte, params, inter, text⟩ vp] w fun e w' => e = .returned (.string ⟨(cond (headOk ⟨4, rune, byte, params, inter, text⟩) ([27, 91] ++ headL ⟨4, rune, byte, params, inter, text⟩) []).toArray⟩) ∧ Below w.heap.size w w' := by
  have hb0 := (Below.refl w.heap.size w).alloc (Nat.le_refl _) (.cells #[.int .i64 4, .int .i32 rune, .int .u8 (byte.toNat : Int), vp, .string inter, .string text] 37)
  have HH := Lib.hid (refHead_any ⟨4, rune, byte, params, inter, text⟩ vp (w.alloc (.cells #[.int .i64 4, .int .i32 rune, .int .u8 (byte.toNat : Int), vp, .string inter, .string text] 37)) hi (isRd_below hp hb0))
  have hll0 := headL_len ⟨4, rune, byte, params, inter, text⟩
  unfold VAct.val at HH ⊢
  dsimp only at HH
  have HB := Lib.hid hb0
  clear hb0 hp
  generalize headOk ⟨4, rune, byte, params, inter, text⟩ = ok at *
  generalize headL ⟨4, rune, byte, params, inter, text⟩ = hd at *
  go_enter Tryd.func17, Tryd.ntmps17
  go_wp2_with fail
  refine HH.out.mono ?_
  rintro e w2 ⟨rfl, b2⟩
  have HB2 := Lib.hid (HB.out.trans (b2.mono (by simp)))
  clear b2
  cases ok
  · go_wp2_with fail
    exact ret1v rfl rfl rfl ⟨rfl, HB2.out⟩
  · have hll := hll0 rfl
    have hsz : (⟨(cond true hd []).toArray⟩ : ByteArray).size ≤ 1000 := hll
    have HS := Lib.hid (show (⟨(cond true hd []).toArray⟩ : ByteArray).data.toList = hd from rfl)
    generalize (⟨(cond true hd []).toArray⟩ : ByteArray) = hs at *
    have hbig : ¬ (9223372036854775807 < 2 + hs.size) := by omega
    go_wp2_with fail
    refine ret1v (v := .string (⟨#[27, 91]⟩ ++ hs)) rfl rfl rfl ⟨?_, HB2.out⟩
    rw [str_of (show (⟨#[27, 91]⟩ ++ hs : ByteArray).data.toList = [27, 91] ++ hd by rw [cat_list, HS.out])]
    rfl
set_option maxRecDepth 100000 in
theorem one_osc (ht : text.size ≤ 1099511627776) :
    Calls Tryd.prog 17 #[VAct.val ⟨5, rune, byte, params, inter, text⟩ vp] w fun e w' => e = .returned (.string ⟨(cond (txtOk text.data.toList) ([27, 93] ++ text.data.toList ++ [7]) []).toArray⟩) ∧ Below w.heap.size w w' := by
  unfold VAct.val
  have HOK := Lib.hid (show txtOk text.data.toList = (onlyL text.data.toList 32 255 && decide (text.size ≤ 1024)) by unfold txtOk; rw [size_eq])
  have HB := Lib.hid ((Below.refl w.heap.size w).alloc (Nat.le_refl _) (.cells #[.int .i64 5, .int .i32 rune, .int .u8 (byte.toNat : Int), vp, .string inter, .string text] 37))
  generalize txtOk text.data.toList = ok at *
  cases ho : onlyL text.data.toList 32 255
  · rw [ho] at HOK
    go_enter Tryd.func17, Tryd.ntmps17
    go_wp2_with fail
    refine (onlyR_any text 32 255 _ (by omega)).mono ?_
    rintro e w2 ⟨rfl, rfl⟩
    go_wp2_with fail
    refine ret1v rfl rfl rfl ⟨?_, HB.out⟩
    rw [HOK.out]; rfl
  rw [ho] at HOK
  by_cases h2 : text.size ≤ 1024
  rotate_left
  · rw [decide_eq_false h2] at HOK
    have h2' : decide ((text.size : Int) ≤ 1024) = false := decide_eq_false (by omega)
    go_enter Tryd.func17, Tryd.ntmps17
    go_wp2_with fail
    refine (onlyR_any text 32 255 _ (by omega)).mono ?_
    rintro e w2 ⟨rfl, rfl⟩
    go_wp2_with fail
    refine ret1v rfl rfl rfl ⟨?_, HB.out⟩
    rw [HOK.out]; rfl
  rw [decide_eq_true h2] at HOK
  have h2' : decide ((text.size : Int) ≤ 1024) = true := decide_eq_true (by omega)
  have HOK2 := Lib.hid (show ok = true by rw [HOK.out]; rfl)
  go_enter Tryd.func17, Tryd.ntmps17
  go_wp2_with fail
  refine (onlyR_any text 32 255 _ (by omega)).mono ?_
  rintro e w2 ⟨rfl, rfl⟩
  go_wp2_with fail
  refine ret1v (v := .string (⟨#[27, 93]⟩ ++ text ++ ⟨#[7]⟩)) rfl rfl rfl ⟨?_, HB.out⟩
  rw [HOK2.out, str_of (show (⟨#[27, 93]⟩ ++ text ++ ⟨#[7]⟩ : ByteArray).data.toList = [27, 93] ++ text.data.toList ++ [7] by rw [cat_list, cat_list])]
  rfl
set_option maxRecDepth 100000 in
theorem one_dcs (hi : inter.size ≤ 1099511627776) (ht : text.size ≤ 1099511627776) (hp : IsRd .i64 w vp params) :
    Calls Tryd.prog 17 #[VAct.val ⟨6, rune, byte, params, inter, text⟩ vp] w fun e w' => e = .returned (.string ⟨(cond (headOk ⟨6, rune, byte, params, inter, text⟩ && txtOk text.data.toList) ([27, 80] ++ headL ⟨6, rune, byte, params, inter, text⟩ ++ text.data.toList ++ [27, 92]) []).toArray⟩) ∧ Below w.heap.size w w' := by
  have hb0 := (Below.refl w.heap.size w).alloc (Nat.le_refl _) (.cells #[.int .i64 6, .int .i32 rune, .int .u8 (byte.toNat : Int), vp, .string inter, .string text] 37)
  have HH := Lib.hid (refHead_any ⟨6, rune, byte, params, inter, text⟩ vp (w.alloc (.cells #[.int .i64 6, .int .i32 rune, .int .u8 (byte.toNat : Int), vp, .string inter, .string text] 37)) hi (isRd_below hp hb0))
  have hll0 := headL_len ⟨6, rune, byte, params, inter, text⟩
  have HOK := Lib.hid (show txtOk text.data.toList = (onlyL text.data.toList 32 255 && decide (text.size ≤ 1024)) by unfold txtOk; rw [size_eq])
  unfold VAct.val at HH ⊢
  dsimp only at HH
  have HB := Lib.hid hb0
  clear hb0 hp
  generalize headOk ⟨6, rune, byte, params, inter, text⟩ = ok at *
  generalize headL ⟨6, rune, byte, params, inter, text⟩ = hd at *
  generalize txtOk text.data.toList = tok at *
  go_enter Tryd.func17, Tryd.ntmps17
  go_wp2_with fail
  refine HH.out.mono ?_
  rintro e w2 ⟨rfl, b2⟩
  have hs2 := b2.size
  simp at hs2
  have HB2 := Lib.hid (HB.out.trans (b2.mono (by simp)))
  have a5 : w2.cell? ⟨w.heap.size, 5, none⟩ = some (.string text) := below_cell b2 (by simp) (by rw [World.cell?_alloc_new]; rfl)
  clear b2
  cases ok
  · go_wp2_with fail
    refine (onlyR_any text 32 255 _ (by omega)).mono ?_
    rintro e w3 ⟨rfl, rfl⟩
    generalize onlyL text.data.toList 32 255 = oo at *
    go_wp2_with fail
    all_goals exact ret1v rfl rfl rfl ⟨rfl, HB2.out⟩
  · have hll := hll0 rfl
    have hsz : (⟨(cond true hd []).toArray⟩ : ByteArray).size ≤ 1000 := hll
    have HS := Lib.hid (show (⟨(cond true hd []).toArray⟩ : ByteArray).data.toList = hd from rfl)
    generalize (⟨(cond true hd []).toArray⟩ : ByteArray) = hs at *
    cases ho : onlyL text.data.toList 32 255
    · rw [ho] at HOK
      go_wp2_with fail
      refine (onlyR_any text 32 255 _ (by omega)).mono ?_
      rintro e w3 ⟨rfl, rfl⟩
      go_wp2_with fail
      refine ret1v rfl rfl rfl ⟨?_, HB2.out⟩
      rw [HOK.out]; rfl
    rw [ho] at HOK
    by_cases h2 : text.size ≤ 1024
    rotate_left
    · rw [decide_eq_false h2] at HOK
      have h2' : decide ((text.size : Int) ≤ 1024) = false := decide_eq_false (by omega)
      go_wp2_with fail
      refine (onlyR_any text 32 255 _ (by omega)).mono ?_
      rintro e w3 ⟨rfl, rfl⟩
      go_wp2_with fail
      refine ret1v rfl rfl rfl ⟨?_, HB2.out⟩
      rw [HOK.out]; rfl
    rw [decide_eq_true h2] at HOK
    have h2' : decide ((text.size : Int) ≤ 1024) = true := decide_eq_true (by omega)
    have HOK2 := Lib.hid (show tok = true by rw [HOK.out]; rfl)
    have hbig : ¬ (9223372036854775807 < 2 + hs.size) := by omega
    have hbig2 : ¬ (9223372036854775807 < 2 + hs.size + text.size) := by omega
    have hbig3 : ¬ (9223372036854775807 < 2 + hs.size + text.size + 2) := by omega
    go_wp2_with fail
    refine (onlyR_any text 32 255 _ (by omega)).mono ?_
    rintro e w3 ⟨rfl, rfl⟩
    go_wp2_with fail
    refine ret1v (v := .string (⟨#[27, 80]⟩ ++ hs ++ text ++ ⟨#[27, 92]⟩)) rfl rfl rfl ⟨?_, HB2.out⟩
    rw [HOK2.out, str_of (show (⟨#[27, 80]⟩ ++ hs ++ text ++ ⟨#[27, 92]⟩ : ByteArray).data.toList = [27, 80] ++ hd ++ text.data.toList ++ [27, 92] by rw [cat_list, cat_list, cat_list, HS.out])]
    rfl
end
end Go.Proofs.YtkdicejlfagaeaaDoor
