/- Package grid, texts laid together: K31 K32 P5 P6 P7 V5 P8. -/
import Derived.Test.YtlfdgkiliegaiaaGreatDoorY20
import Derived.Test.YtlfdgkiliegaiaaGreatDoorY19
import Derived.Test.YtlfdgkiliegaiaaGreatDoorY11
import Derived.Test.YtlfdgkiliegaiaaGreatDoorY8
/- Walks of package screen: what is asked. -/
namespace Go.Proofs.YtlfdgkiliegaiaaGreatDoor
open Go.RowKit
set_option maxRecDepth 100000

theorem dr2 {l : List UInt8} {str : ByteArray} (h : str.data.toList = l) : (str.extract 2 str.size).data.toList = l.drop 2 := by
  rw [ByteArray.data_extract, Array.toList_extract]
  show (str.data.toList.drop 2).take (str.size - 2) = _
  rw [h, List.take_of_length_le (by
    rw [List.length_drop, ← h, Array.length_toList]
    show str.data.size - 2 ≤ str.data.size - 2
    omega)]
set_option maxHeartbeats 4000000 in
theorem askedS_any {B : World} {C : Nat → Nat} {p c r : Nat} {w : World} {s : Scr} {ps : PSt} (h : SR B C p w s ps) (hok : s.Ok c r) (a : VAct) (v : Value) (hv : Apart C w v a.params) (ho : s.out.length ≤ 100000) :
    Calls Tryz.prog 113 #[.pointer (some ⟨p, 0, none⟩), a.val v] w fun e w' => e = .returned (.tuple #[]) ∧ Does B C p w w' (s.asked a.byte a.inter.data.toList a.text.data.toList) ps := by
  have hbx := boxed_new h hv
  have hbb := (Below.refl w.heap.size w).alloc (Nat.le_refl _) (.cells (a.cells v).toArray 75)
  unfold VAct.cells at hbb
  have HR := Lib.hid (h.below hbb)
  have HP := Lib.hid ((Pre.refl C w).below hbb)
  have HBX := Lib.hid hbx
  have HN := Lib.hid (h.nums hok)
  have HPO := Lib.hid hok.now.pen
  have HOL := Lib.hid (show s.out.length ≤ 1000000 by omega)
  clear hbx hbb hv h hok ho
  unfold VAct.val
  obtain ⟨A, hA⟩ : ∃ A, A = w.heap.size := ⟨_, rfl⟩
  rw [← hA] at HBX
  have HB := Lib.hid (show Boxed a v A C (w.alloc (.cells #[.int .i64 a.kind, .int .i32 a.rune, .int .u8 (a.byte.toNat : Int), v, .string a.inter, .string a.text] 75)) from HBX.out)
  clear HBX
  have a0 : (w.alloc (.cells #[.int .i64 a.kind, .int .i32 a.rune, .int .u8 (a.byte.toNat : Int), v, .string a.inter, .string a.text] 75)).cell? ⟨A, 0, none⟩ = some (.int .i64 a.kind) := blk_cell HB.out.blk 0
  have a1 : (w.alloc (.cells #[.int .i64 a.kind, .int .i32 a.rune, .int .u8 (a.byte.toNat : Int), v, .string a.inter, .string a.text] 75)).cell? ⟨A, 1, none⟩ = some (.int .i32 a.rune) := blk_cell HB.out.blk 1
  have a2 : (w.alloc (.cells #[.int .i64 a.kind, .int .i32 a.rune, .int .u8 (a.byte.toNat : Int), v, .string a.inter, .string a.text] 75)).cell? ⟨A, 2, none⟩ = some (.int .u8 (a.byte.toNat : Int)) := blk_cell HB.out.blk 2
  have a3 : (w.alloc (.cells #[.int .i64 a.kind, .int .i32 a.rune, .int .u8 (a.byte.toNat : Int), v, .string a.inter, .string a.text] 75)).cell? ⟨A, 3, none⟩ = some (v) := blk_cell HB.out.blk 3
  have a4 : (w.alloc (.cells #[.int .i64 a.kind, .int .i32 a.rune, .int .u8 (a.byte.toNat : Int), v, .string a.inter, .string a.text] 75)).cell? ⟨A, 4, none⟩ = some (.string a.inter) := blk_cell HB.out.blk 4
  have a5 : (w.alloc (.cells #[.int .i64 a.kind, .int .i32 a.rune, .int .u8 (a.byte.toNat : Int), v, .string a.inter, .string a.text] 75)).cell? ⟨A, 5, none⟩ = some (.string a.text) := blk_cell HB.out.blk 5
  rw [hA] at a0 a1 a2 a3 a4 a5
  by_cases hq : (a.byte.toNat : Int) = 113
  rotate_left
  · have e113 : ((a.byte.toNat : Int) == 113) = false := beq_eq_false_iff_ne.2 hq
    have n113 : ((a.byte.toNat : Int) != 113) = true := by unfold bne; rw [e113]; rfl
    have HE := Lib.hid (show s.asked a.byte a.inter.data.toList a.text.data.toList = s by unfold Scr.asked; rw [if_neg (fun e => hq e.1)])
    clear hq
    go_enter Tryz.func113, Tryz.ntmps113
    go_wp2_with fail
    refine ret0 rfl rfl ?_
    refine ⟨rfl, ?_⟩
    rw [HE.out]
    exact ⟨_, HR.out, HP.out⟩
  have e113 : ((a.byte.toNat : Int) == 113) = true := beq_iff_eq.2 hq
  have n113 : ((a.byte.toNat : Int) != 113) = false := by unfold bne; rw [e113]; rfl
  have H113 := Lib.hid hq
  clear hq
  by_cases hi : a.inter = ⟨#[36]⟩
  rotate_left
  · have e36 := ba_eqF [36] hi
    have n36 : (a.inter.toList != [36]) = true := by unfold bne; rw [e36]; rfl
    have HE := Lib.hid (show s.asked a.byte a.inter.data.toList a.text.data.toList = s by unfold Scr.asked; rw [if_neg (fun e => ba_neL [36] hi e.2)])
    clear hi
    go_enter Tryz.func113, Tryz.ntmps113
    go_wp2_with fail
    refine ret0 rfl rfl ?_
    refine ⟨rfl, ?_⟩
    rw [HE.out]
    exact ⟨_, HR.out, HP.out⟩
  have HCD := Lib.hid (show (a.byte.toNat : Int) = 113 ∧ a.inter.data.toList = [36] by rw [hi]; exact ⟨H113.out, rfl⟩)
  rw [hi] at a0 a1 a2 a3 a4 a5 HR HP HB
  rw [hi]
  have HI := Lib.hid hi
  clear hi
  go_enter Tryz.func113, Tryz.ntmps113
  go_upto_region 2 with fail
  rw [← hA]
  rw [← hA] at a0 a1 a2 a3 a4 a5
  clear hA
  generalize (w.alloc (.cells #[.int .i64 a.kind, .int .i32 a.rune, .int .u8 (a.byte.toNat : Int), v, .string ⟨#[36]⟩, .string a.text] 75)) = w1 at *
  by_cases hm : a.text = ⟨#[109]⟩
  · have HE0 := Lib.hid (show s.asked a.byte a.inter.data.toList a.text.data.toList = s.say ([27, 80, 49, 36, 114] ++ (if sgrL plainS s.now.pen = [] then [27, 91, 48, 109] else sgrL plainS s.now.pen).drop 2 ++ [27, 92]) by
      unfold Scr.asked
      rw [if_pos HCD.out, if_pos (by rw [hm])])
    rw [hm] at a5
    clear hm
    have HSG := Lib.hid (fun wx hx => sgr_any plainS s.now.pen wx hx (by decide) HPO.out)
    have HPL := Lib.hid plain_any
    unfold Sty.val plainS at HSG HPL
    have c3 : w1.cell? ⟨p, 3, none⟩ = some (.int .i64 s.now.pen.fg) := HR.out.at_ 3 _
    have c4 : w1.cell? ⟨p, 4, none⟩ = some (.int .i64 s.now.pen.bg) := HR.out.at_ 4 _
    have c5 : w1.cell? ⟨p, 5, none⟩ = some (.int .i64 s.now.pen.attr) := HR.out.at_ 5 _
    go_upto_region 5 with fail
    go_region_held3 (fun w' => w'.cell? ⟨p, 3, none⟩ = some (.int .i64 s.now.pen.fg) ∧ w'.cell? ⟨p, 4, none⟩ = some (.int .i64 s.now.pen.bg) ∧ w'.cell? ⟨p, 5, none⟩ = some (.int .i64 s.now.pen.attr)) (first | exact ⟨c3, c4, c5⟩ | exact ⟨z3, z4, z5⟩)
      (first
        | (go_at_call 21; refine (HPL.out w1.drew).mono ?_; rintro e w4 ⟨rfl, b4⟩; have HB4 := Lib.hid ((Below.refl w1.heap.size w1).drew.trans b4); have z3 := cell_below b4 c3; have z4 := cell_below b4 c4; have z5 := cell_below b4 c5; clear b4)
        | (go_at_call 20; refine (HSG.out w4 (HR.out.below HB4.out).tabs').mono ?_; rintro e w6 ⟨str, rfl, es, hz6, b6⟩; have HES := Lib.hid es; have HB6 := Lib.hid (HB4.out.trans (b6.mono HB4.out.size)); have z3 := cell_below b6 z3; have z4 := cell_below b6 z4; have z5 := cell_below b6 z5; clear b6 es))
    clear a0 a1 a2 a3 a4 a5 c3 c4 c5 z3 z4 z5
    have HR6 := Lib.hid (HR.out.below HB6.out)
    have HP6 := Lib.hid (HP.out.below HB6.out)
    have HES2 := Lib.hid (show str.data.toList = sgrL plainS s.now.pen from HES.out)
    have hend : ∀ l : List UInt8, Hid (s.asked a.byte a.inter.data.toList a.text.data.toList = s.say l) → ∀ C7 w7, SR B C7 p w7 (s.say l) ps → Pre C w C7 w7 → Does B C p w w7 (s.asked a.byte a.inter.data.toList a.text.data.toList) ps := fun l h C7 w7 h7 p7 => by rw [h.out]; exact ⟨C7, h7, p7⟩
    rw [HI.out] at hend
    have HEND := Lib.hid hend
    clear hend
    by_cases hs0 : str = ⟨#[]⟩
    · have HE := Lib.hid (show s.asked a.byte a.inter.data.toList a.text.data.toList = s.say ((⟨#[27, 80, 49, 36, 114]⟩ : ByteArray) ++ (⟨#[27, 91, 48, 109]⟩ : ByteArray).extract 2 4 ++ ⟨#[27, 92]⟩).data.toList by
        rw [HE0.out, if_pos (by rw [← HES2.out, hs0])]; rfl)
      rw [HI.out] at HE
      subst hs0
      go_wp2_with fail
      refine (sayS_any HR6.out _ HOL.out (by decide)).mono ?_
      rintro e w7 ⟨rfl, C7, h7, p7⟩
      have HD := Lib.hid (HEND.out _ HE C7 w7 h7 (HP6.out.trans p7))
      clear h7 p7
      go_wp2_with fail
      go_end0
      exact ⟨rfl, HD.out⟩
    · have hne : ¬ sgrL plainS s.now.pen = [] := by
        rw [← HES2.out]
        exact ba_neL [] hs0
      have HE := Lib.hid (show s.asked a.byte a.inter.data.toList a.text.data.toList = s.say ([27, 80, 49, 36, 114] ++ (sgrL plainS s.now.pen).drop 2 ++ [27, 92]) by
        rw [HE0.out, if_neg hne])
      rw [HI.out] at HE
      have h2 : 2 ≤ str.size := by
        have e : str.size = (sgrL plainS s.now.pen).length := by rw [← HES2.out, Array.length_toList]; rfl
        rw [e]
        unfold sgrL at hne ⊢
        split
        · rename_i h; rw [if_pos h] at hne; exact absurd rfl hne
        · simp
      have e0 := ba_eqF [] hs0
      have e0' : str.toList.isEmpty = false := by rw [← List.beq_nil_eq]; exact e0
      have HX := Lib.hid (dr2 HES2.out)
      clear hs0 hne
      have h2' : (2 : Int) ≤ (str.size : Int) := by omega
      go_wp2_with fail
      refine (sayS_any HR6.out _ HOL.out (by rw [ba_app, ba_app, List.length_append, List.length_append, ba_len (str.extract 2 str.size)]; show 5 + _ + 2 ≤ _; rw [ByteArray.size_extract]; omega)).mono ?_
      rintro e w7 ⟨rfl, C7, h7, p7⟩
      have HD := Lib.hid (HEND.out _ HE C7 w7 (by rw [ba_app, ba_app, HX.out] at h7; exact h7) (HP6.out.trans p7))
      clear h7 p7
      go_wp2_with fail
      go_end0
      exact ⟨rfl, HD.out⟩
  have em := ba_eqF [109] hm
  by_cases hr : a.text = ⟨#[114]⟩
  rotate_left
  · have er := ba_eqF [114] hr
    have HE := Lib.hid (show s.asked a.byte a.inter.data.toList a.text.data.toList = s.say [27, 80, 48, 36, 114, 27, 92] by
      unfold Scr.asked
      rw [if_pos HCD.out, if_neg (ba_neL [109] hm), if_neg (ba_neL [114] hr)])
    rw [HI.out] at HE
    clear hr hm
    go_wp2_with fail
    refine (sayS_any HR.out ⟨#[27, 80, 48, 36, 114, 27, 92]⟩ HOL.out (by decide)).mono ?_
    rintro e w7 ⟨rfl, C7, h7, p7⟩
    have HD := Lib.hid (show Does B C p w w7 (s.asked a.byte [36] a.text.data.toList) ps from by
      have := HE.out
      rw [show s.asked a.byte [36] a.text.data.toList = _ from this]
      exact ⟨C7, h7, HP.out.trans p7⟩)
    clear h7 p7
    go_wp2_with fail
    go_end0
    exact ⟨rfl, HD.out⟩
  have HE := Lib.hid (show s.asked a.byte a.inter.data.toList a.text.data.toList = s.say ([27, 80, 49, 36, 114] ++ Lib.itoa (s.top + 1) ++ [59] ++ Lib.itoa (s.bottom + 1) ++ [114, 27, 92]) by
    unfold Scr.asked
    rw [if_pos HCD.out, if_neg (ba_neL [109] hm), if_pos (by rw [hr])])
  rw [HI.out] at HE
  rw [hr] at a5
  clear em hm
  have HRT := Lib.hid hr
  clear hr
  have hnu := HN.out
  have t0 := hnu.t0
  have tb := hnu.tb
  have b1 := hnu.b1
  have r2 := hnu.r2
  have hw1 : IntKind.i64.wrap (s.top + 1) = s.top + 1 := wrap64_id _ (by omega) (by omega)
  have hw2 : IntKind.i64.wrap (s.bottom + 1) = s.bottom + 1 := wrap64_id _ (by omega) (by omega)
  have HYB := Lib.hid (show 0 ≤ s.top + 1 ∧ s.top + 1 ≤ 1000 by omega)
  have HXB := Lib.hid (show 0 ≤ s.bottom + 1 ∧ s.bottom + 1 ≤ 1000 by omega)
  have c33 : w1.cell? ⟨p, 33, none⟩ = some (.int .i64 s.top) := HR.out.at_ 33 _
  have c34 : w1.cell? ⟨p, 34, none⟩ = some (.int .i64 s.bottom) := HR.out.at_ 34 _
  clear hnu t0 tb b1 r2
  go_upto_region 10 with fail
  clear a0 a1 a2 a3 a4 a5
  refine wpL_begin (c := 17) (S := (fun bb w' => (w'.cell? ⟨p, 33, none⟩ = some (.int .i64 s.top) ∧ w'.cell? ⟨p, 34, none⟩ = some (.int .i64 s.bottom)) ∧ (bb = false → True))) (by kernel_rfl) (⟨⟨c33, c34⟩, fun _ => trivial⟩) (fun _ => ?_)
  refine wpL_tk false 0 (⟨⟨c33, c34⟩, fun _ => trivial⟩) ?_
  refine wpL_tk false 1 (⟨⟨c33, c34⟩, fun _ => trivial⟩) ?_
  refine wpL_tk false 2 (⟨⟨c33, c34⟩, fun _ => trivial⟩) ?_
  refine wpL_tk false 3 (⟨⟨c33, c34⟩, fun _ => trivial⟩) ?_
  refine wpL_tk false 4 (⟨⟨c33, c34⟩, fun _ => trivial⟩) ?_
  refine wpL_tk false 5 (⟨⟨c33, c34⟩, fun _ => trivial⟩) ?_
  refine wpL_tk false 9 (⟨⟨c33, c34⟩, fun _ => trivial⟩) ?_
  refine wpL_tk false 10 (⟨⟨c33, c34⟩, fun _ => trivial⟩) ?_
  refine wpL_tk false 11 (⟨⟨c33, c34⟩, fun _ => trivial⟩) ?_
  refine wpL_tk false 12 (⟨⟨c33, c34⟩, fun _ => trivial⟩) ?_
  refine wpL_tk false 13 (⟨⟨c33, c34⟩, fun _ => trivial⟩) ?_
  refine wpL_on false 6 fun K hK => ?_
  refine wanted_on rfl ?_
  go_wp2_with fail
  refine (itoaS_any (s.top + 1) (by have := HYB.out; omega) (by have := HYB.out; omega) w1.drew (HR.out.below (Below.refl _ _).drew).tabs').mono ?_
  rintro e w5 ⟨s5, rfl, hs5, hz5, b5⟩
  have HS5 := Lib.hid hs5
  have HB5 := Lib.hid ((Below.refl w1.heap.size w1).drew.trans b5)
  have z5 := cell_below b5 c33
  have y5 := cell_below b5 c34
  refine hK.out _ _ (⟨⟨z5, y5⟩, fun _ => trivial⟩) (fun _ => ?_)
  clear hK K hs5 b5
  try simp only [Act.put, List.setIfInBounds_toArray, List.set_cons_zero, List.set_cons_succ]
  refine wpL_tw false false 7 14 ?_ ?_
  · intro K hK
    refine wanted_on rfl ?_
    go_wp2_with fail
    refine hK.out _ _ (⟨⟨z5, y5⟩, fun _ => trivial⟩) (fun _ => ?_)
    clear hK K 
    try simp only [Act.put, List.setIfInBounds_toArray, List.set_cons_zero, List.set_cons_succ]
    refine wpL_tw false false 8 14 ?_ ?_
    · intro K hK
      refine wanted_on rfl ?_
      go_wp2_with fail
      refine hK.out _ _ (⟨⟨z5, y5⟩, fun _ => trivial⟩) (fun _ => ?_)
      clear hK K 
      try simp only [Act.put, List.setIfInBounds_toArray, List.set_cons_zero, List.set_cons_succ]
      refine wpL_on false 14 fun K hK => ?_
      refine wanted_on rfl ?_
      go_wp2_with fail
      refine (itoaS_any (s.bottom + 1) (by have := HXB.out; omega) (by have := HXB.out; omega) w5 (HR.out.below HB5.out).tabs').mono ?_
      rintro e w6 ⟨s6, rfl, hs6, hz6, b6⟩
      have HS6 := Lib.hid hs6
      have HB6 := Lib.hid (HB5.out.trans (b6.mono HB5.out.size))
      have z6 := cell_below b6 z5
      have y6 := cell_below b6 y5
      refine hK.out _ _ (⟨⟨z6, y6⟩, fun _ => trivial⟩) (fun _ => ?_)
      clear hK K hs6 b6
      try simp only [Act.put, List.setIfInBounds_toArray, List.set_cons_zero, List.set_cons_succ]
      refine wpL_on false 15 fun K hK => ?_
      refine wanted_on rfl ?_
      go_wp2_with fail
      refine hK.out _ _ (⟨⟨z6, y6⟩, fun _ => trivial⟩) (fun _ => ?_)
      clear hK K 
      try simp only [Act.put, List.setIfInBounds_toArray, List.set_cons_zero, List.set_cons_succ]
      refine wpL_on false 16 fun K hK => ?_
      refine wanted_on rfl ?_
      go_wp2_with fail
      refine hK.out _ _ (⟨⟨z6, y6⟩, fun _ => trivial⟩) (fun _ => ?_)
      clear hK K 
      try simp only [Act.put, List.setIfInBounds_toArray, List.set_cons_zero, List.set_cons_succ]
      refine wpL_on true 17 fun K hK => ?_
      refine wanted_on rfl ?_
      go_wp2_with fail
      have q4 := cat_le (cat_le (cat_le (cat_le (a := ⟨#[27, 80, 49, 36, 114]⟩) (n := 5) (Nat.le_refl _) hz5) (b := ⟨#[59]⟩) (m := 1) (Nat.le_refl _)) hz6) (b := ⟨#[114, 27, 92]⟩) (m := 3) (Nat.le_refl _)
      refine (sayS_any (HR.out.below HB6.out) _ HOL.out (by rw [ba_len]; omega)).mono ?_
      rintro e w7 ⟨rfl, C7, h7, p7⟩
      have z7 := h7.at_ 33 (.int .i64 s.top)
      have y7 := h7.at_ 34 (.int .i64 s.bottom)
      have H7 := Lib.hid h7
      have P7 := Lib.hid ((HP.out.below HB6.out).trans p7)
      refine hK.out _ _ (⟨⟨z7, y7⟩, fun e => by cases e⟩) (fun _ => ?_)
      clear hK K h7 p7 q4
      try simp only [Act.put, List.setIfInBounds_toArray, List.set_cons_zero, List.set_cons_succ]
      refine wpL_done (by kernel_rfl) ?_ _
      have HEE := Lib.hid (show s.asked a.byte [36] a.text.data.toList = s.say (((((⟨#[27, 80, 49, 36, 114]⟩ : ByteArray) ++ s5) ++ ⟨#[59]⟩) ++ s6) ++ ⟨#[114, 27, 92]⟩).data.toList by
        have := HE.out
        rw [show s.asked a.byte [36] a.text.data.toList = _ from this, ba_app, ba_app, ba_app, ba_app, HS5.out, HS6.out])
      go_wp2_with fail
      go_end0
      refine ⟨rfl, ?_⟩
      rw [HEE.out]
      exact ⟨_, H7.out, P7.out⟩
    · intro K hK
      refine wanted_on rfl ?_
      go_wp2_with fail
      refine (itoaS_any (s.bottom + 1) (by have := HXB.out; omega) (by have := HXB.out; omega) w5 (HR.out.below HB5.out).tabs').mono ?_
      rintro e w6 ⟨s6, rfl, hs6, hz6, b6⟩
      have HS6 := Lib.hid hs6
      have HB6 := Lib.hid (HB5.out.trans (b6.mono HB5.out.size))
      have z6 := cell_below b6 z5
      have y6 := cell_below b6 y5
      refine hK.out _ _ (⟨⟨z6, y6⟩, fun _ => trivial⟩) (fun _ => ?_)
      clear hK K hs6 b6
      try simp only [Act.put, List.setIfInBounds_toArray, List.set_cons_zero, List.set_cons_succ]
      refine wpL_on false 8 fun K hK => ?_
      refine wanted_on rfl ?_
      go_wp2_with fail
      refine hK.out _ _ (⟨⟨z6, y6⟩, fun _ => trivial⟩) (fun _ => ?_)
      clear hK K 
      try simp only [Act.put, List.setIfInBounds_toArray, List.set_cons_zero, List.set_cons_succ]
      refine wpL_on false 15 fun K hK => ?_
      refine wanted_on rfl ?_
      go_wp2_with fail
      refine hK.out _ _ (⟨⟨z6, y6⟩, fun _ => trivial⟩) (fun _ => ?_)
      clear hK K 
      try simp only [Act.put, List.setIfInBounds_toArray, List.set_cons_zero, List.set_cons_succ]
      refine wpL_on false 16 fun K hK => ?_
      refine wanted_on rfl ?_
      go_wp2_with fail
      refine hK.out _ _ (⟨⟨z6, y6⟩, fun _ => trivial⟩) (fun _ => ?_)
      clear hK K 
      try simp only [Act.put, List.setIfInBounds_toArray, List.set_cons_zero, List.set_cons_succ]
      refine wpL_on true 17 fun K hK => ?_
      refine wanted_on rfl ?_
      go_wp2_with fail
      have q4 := cat_le (cat_le (cat_le (cat_le (a := ⟨#[27, 80, 49, 36, 114]⟩) (n := 5) (Nat.le_refl _) hz5) (b := ⟨#[59]⟩) (m := 1) (Nat.le_refl _)) hz6) (b := ⟨#[114, 27, 92]⟩) (m := 3) (Nat.le_refl _)
      refine (sayS_any (HR.out.below HB6.out) _ HOL.out (by rw [ba_len]; omega)).mono ?_
      rintro e w7 ⟨rfl, C7, h7, p7⟩
      have z7 := h7.at_ 33 (.int .i64 s.top)
      have y7 := h7.at_ 34 (.int .i64 s.bottom)
      have H7 := Lib.hid h7
      have P7 := Lib.hid ((HP.out.below HB6.out).trans p7)
      refine hK.out _ _ (⟨⟨z7, y7⟩, fun e => by cases e⟩) (fun _ => ?_)
      clear hK K h7 p7 q4
      try simp only [Act.put, List.setIfInBounds_toArray, List.set_cons_zero, List.set_cons_succ]
      refine wpL_done (by kernel_rfl) ?_ _
      have HEE := Lib.hid (show s.asked a.byte [36] a.text.data.toList = s.say (((((⟨#[27, 80, 49, 36, 114]⟩ : ByteArray) ++ s5) ++ ⟨#[59]⟩) ++ s6) ++ ⟨#[114, 27, 92]⟩).data.toList by
        have := HE.out
        rw [show s.asked a.byte [36] a.text.data.toList = _ from this, ba_app, ba_app, ba_app, ba_app, HS5.out, HS6.out])
      go_wp2_with fail
      go_end0
      refine ⟨rfl, ?_⟩
      rw [HEE.out]
      exact ⟨_, H7.out, P7.out⟩
  · intro K hK
    refine wanted_on rfl ?_
    go_wp2_with fail
    refine (itoaS_any (s.bottom + 1) (by have := HXB.out; omega) (by have := HXB.out; omega) w5 (HR.out.below HB5.out).tabs').mono ?_
    rintro e w6 ⟨s6, rfl, hs6, hz6, b6⟩
    have HS6 := Lib.hid hs6
    have HB6 := Lib.hid (HB5.out.trans (b6.mono HB5.out.size))
    have z6 := cell_below b6 z5
    have y6 := cell_below b6 y5
    refine hK.out _ _ (⟨⟨z6, y6⟩, fun _ => trivial⟩) (fun _ => ?_)
    clear hK K hs6 b6
    try simp only [Act.put, List.setIfInBounds_toArray, List.set_cons_zero, List.set_cons_succ]
    refine wpL_on false 7 fun K hK => ?_
    refine wanted_on rfl ?_
    go_wp2_with fail
    refine hK.out _ _ (⟨⟨z6, y6⟩, fun _ => trivial⟩) (fun _ => ?_)
    clear hK K 
    try simp only [Act.put, List.setIfInBounds_toArray, List.set_cons_zero, List.set_cons_succ]
    refine wpL_on false 8 fun K hK => ?_
    refine wanted_on rfl ?_
    go_wp2_with fail
    refine hK.out _ _ (⟨⟨z6, y6⟩, fun _ => trivial⟩) (fun _ => ?_)
    clear hK K 
    try simp only [Act.put, List.setIfInBounds_toArray, List.set_cons_zero, List.set_cons_succ]
    refine wpL_on false 15 fun K hK => ?_
    refine wanted_on rfl ?_
    go_wp2_with fail
    refine hK.out _ _ (⟨⟨z6, y6⟩, fun _ => trivial⟩) (fun _ => ?_)
    clear hK K 
    try simp only [Act.put, List.setIfInBounds_toArray, List.set_cons_zero, List.set_cons_succ]
    refine wpL_on false 16 fun K hK => ?_
    refine wanted_on rfl ?_
    go_wp2_with fail
    refine hK.out _ _ (⟨⟨z6, y6⟩, fun _ => trivial⟩) (fun _ => ?_)
    clear hK K 
    try simp only [Act.put, List.setIfInBounds_toArray, List.set_cons_zero, List.set_cons_succ]
    refine wpL_on true 17 fun K hK => ?_
    refine wanted_on rfl ?_
    go_wp2_with fail
    have q4 := cat_le (cat_le (cat_le (cat_le (a := ⟨#[27, 80, 49, 36, 114]⟩) (n := 5) (Nat.le_refl _) hz5) (b := ⟨#[59]⟩) (m := 1) (Nat.le_refl _)) hz6) (b := ⟨#[114, 27, 92]⟩) (m := 3) (Nat.le_refl _)
    refine (sayS_any (HR.out.below HB6.out) _ HOL.out (by rw [ba_len]; omega)).mono ?_
    rintro e w7 ⟨rfl, C7, h7, p7⟩
    have z7 := h7.at_ 33 (.int .i64 s.top)
    have y7 := h7.at_ 34 (.int .i64 s.bottom)
    have H7 := Lib.hid h7
    have P7 := Lib.hid ((HP.out.below HB6.out).trans p7)
    refine hK.out _ _ (⟨⟨z7, y7⟩, fun e => by cases e⟩) (fun _ => ?_)
    clear hK K h7 p7 q4
    try simp only [Act.put, List.setIfInBounds_toArray, List.set_cons_zero, List.set_cons_succ]
    refine wpL_done (by kernel_rfl) ?_ _
    have HEE := Lib.hid (show s.asked a.byte [36] a.text.data.toList = s.say (((((⟨#[27, 80, 49, 36, 114]⟩ : ByteArray) ++ s5) ++ ⟨#[59]⟩) ++ s6) ++ ⟨#[114, 27, 92]⟩).data.toList by
      have := HE.out
      rw [show s.asked a.byte [36] a.text.data.toList = _ from this, ba_app, ba_app, ba_app, ba_app, HS5.out, HS6.out])
    go_wp2_with fail
    go_end0
    refine ⟨rfl, ?_⟩
    rw [HEE.out]
    exact ⟨_, H7.out, P7.out⟩
end Go.Proofs.YtlfdgkiliegaiaaGreatDoor

/- Walks of package screen: an action done. -/
namespace Go.Proofs.YtlfdgkiliegaiaaGreatDoor
open Go.RowKit
set_option maxRecDepth 100000

def Scr.quiet (s : Scr) : Scr := { s with out := [] }
theorem Scr.Ok.quiet {c r : Nat} {s : Scr} (h : s.Ok c r) : s.quiet.Ok c r := ⟨h.main, h.other, h.now, h.k0, h.k1, h.t0, h.tb, h.b1, h.tl, h.md⟩
def VAct.behind (a : VAct) (ps : PSt) : PSt := if a.ris then s0 else ps
theorem ris_par (a : VAct) (ps : PSt) (hk : a.kind = 3) : escPar a.byte a.inter.data.toList ps = a.behind ps := by
  unfold escPar barePar VAct.behind VAct.ris
  rw [hk]
  by_cases hi : a.inter.data.toList = []
  · rw [if_pos hi, hi]
    by_cases hb : a.byte = 99
    · rw [hb]; rfl
    · have e : ¬ (a.byte.toNat : Int) = 99 := fun e => hb (by
        apply UInt8.toNat.inj
        show a.byte.toNat = 99
        omega)
      rw [if_neg e, beq_eq_false_iff_ne.2 hb]
      rfl
  · rw [if_neg hi, beq_eq_false_iff_ne.2 hi]
    simp
theorem ris_no (a : VAct) (ps : PSt) (hk : ¬ a.kind = 3) : a.behind ps = ps := by
  unfold VAct.behind VAct.ris
  rw [beq_eq_false_iff_ne.2 hk]
  rfl
/-- What an action's doing hands over. -/
def Done (B : World) (C : Nat → Nat) (p : Nat) (w : World) (s : Scr) (ps : PSt) (e : Ending) (w' : World) : Prop :=
  ∃ vo C', e = .returned vo ∧ SR B C' p w' s ps ∧ Pre C w C' w' ∧ OwnC w' 0 1 vo s.out.length (byteVals s.out) ∧ ∀ k, vo.ownBlock = some k → C' k ≠ 0
set_option maxHeartbeats 4000000 in
theorem doS_any {B : World} {C : Nat → Nat} {p c r : Nat} {w : World} {s : Scr} {ps : PSt} (h : SR B C p w s ps) (hok : s.Ok c r) (a : VAct) (v : Value) (hv : Apart C w v a.params) (hr : -2147483648 ≤ a.rune ∧ a.rune ≤ 2147483647) (ht : a.text.size ≤ 1000000) (hlast : -2147483648 ≤ s.last ∧ s.last ≤ 2147483647) :
    Calls Tryz.prog 61 #[.pointer (some ⟨p, 0, none⟩), a.val v] w (Done B C p w (s.act a) (a.behind ps)) := by
  have hbx := boxed_new h hv
  have hbb := (Below.refl w.heap.size w).alloc (Nat.le_refl _) (.cells (a.cells v).toArray 75)
  unfold VAct.cells at hbb
  have HR0 := Lib.hid (h.below hbb)
  have HP0 := Lib.hid ((Pre.refl C w).below hbb)
  have HBX := Lib.hid hbx
  have HOK := Lib.hid hok.quiet
  have HRU := Lib.hid hr
  have HTE := Lib.hid ht
  have HLA := Lib.hid (show -2147483648 ≤ s.quiet.last ∧ s.quiet.last ≤ 2147483647 from hlast)
  clear hbx hbb hv h hok hr ht hlast
  unfold VAct.val
  obtain ⟨A, hA⟩ : ∃ A, A = w.heap.size := ⟨_, rfl⟩
  rw [← hA] at HBX
  have HBX2 := Lib.hid (show Boxed a v A C (w.alloc (.cells #[.int .i64 a.kind, .int .i32 a.rune, .int .u8 (a.byte.toNat : Int), v, .string a.inter, .string a.text] 75)) from HBX.out)
  clear HBX
  have hou := HR0.out.outs
  obtain ⟨vo, c40, _, _, hk40⟩ := hou
  have f40 := HR0.out.fz 40
  obtain ⟨C1, h1, p1⟩ := hk40 _ _ (.slice none 0 0) [] (gb_refl _ none) (gb_refl _ _) (ownC_nil _ _ _) (fun k e => by simp [Value.ownBlock] at e)
  have HR := Lib.hid (show SR B C1 p _ s.quiet ps from h1)
  have HP := Lib.hid (HP0.out.trans p1)
  have HB := Lib.hid (HBX2.out.next p1)
  clear hk40 h1 p1 HR0 HP0
  go_enter Tryz.func61, Tryz.ntmps61
  go_upto_region 2 with fail
  rw [← hA] at *
  clear hA c40 f40
  generalize World.setCell (w.alloc (.cells #[.int .i64 a.kind, .int .i32 a.rune, .int .u8 (a.byte.toNat : Int), v, .string a.inter, .string a.text] 75)) ⟨p, 40, none⟩ (.slice none 0 0) = w1 at *
  have a0 : w1.cell? ⟨A, 0, none⟩ = some (.int .i64 a.kind) := blk_cell HB.out.blk 0
  have a1 : w1.cell? ⟨A, 1, none⟩ = some (.int .i32 a.rune) := blk_cell HB.out.blk 1
  have a2 : w1.cell? ⟨A, 2, none⟩ = some (.int .u8 (a.byte.toNat : Int)) := blk_cell HB.out.blk 2
  have a3 : w1.cell? ⟨A, 3, none⟩ = some (v) := blk_cell HB.out.blk 3
  have a4 : w1.cell? ⟨A, 4, none⟩ = some (.string a.inter) := blk_cell HB.out.blk 4
  have a5 : w1.cell? ⟨A, 5, none⟩ = some (.string a.text) := blk_cell HB.out.blk 5
  by_cases hk : a.kind = 1
  · have e1 : (a.kind == 1) = true := beq_iff_eq.2 hk
    have HE := Lib.hid (show s.act a = s.quiet.print a.rune by
      unfold Scr.act
      dsimp only
      rw [if_pos hk]
      rfl)
    have HPA := Lib.hid (ris_no a ps (by omega))
    clear hk
    go_wp2_with fail
    refine (printS_any HR.out HOK.out a.rune HRU.out).mono ?_
    rintro e w7 ⟨rfl, C7, h7, p7⟩
    rw [← HE.out] at h7
    rw [← HPA.out] at h7
    have H7 := Lib.hid h7
    have P7 := Lib.hid (HP.out.trans p7)
    clear h7 p7 a0 a1 a2 a3 a4 a5
    obtain ⟨vo7, c40, oo, tv, _⟩ := H7.out.outs
    have HO := Lib.hid oo
    have HT := Lib.hid tv
    clear oo tv
    go_wp2_with fail
    exact ret1v rfl rfl rfl ⟨_, C7, rfl, H7.out, P7.out, HO.out, fun k e => by rw [(HT.out k e).1]; decide⟩
  have HK1 := Lib.hid hk
  have n1 := hk
  clear hk
  by_cases hk : a.kind = 2
  · have e1 : (a.kind == 1) = false := beq_eq_false_iff_ne.2 (by omega)
    have e2 : (a.kind == 2) = true := beq_iff_eq.2 hk
    have HE := Lib.hid (show s.act a = s.quiet.control a.byte by
      unfold Scr.act
      dsimp only
      rw [if_neg HK1.out, if_pos hk]
      rfl)
    have HPA := Lib.hid (ris_no a ps (by omega))
    clear hk
    go_wp2_with fail
    refine (controlS_any HR.out HOK.out a.byte).mono ?_
    rintro e w7 ⟨rfl, C7, h7, p7⟩
    rw [← HE.out] at h7
    rw [← HPA.out] at h7
    have H7 := Lib.hid h7
    have P7 := Lib.hid (HP.out.trans p7)
    clear h7 p7 a0 a1 a2 a3 a4 a5
    obtain ⟨vo7, c40, oo, tv, _⟩ := H7.out.outs
    have HO := Lib.hid oo
    have HT := Lib.hid tv
    clear oo tv
    go_wp2_with fail
    exact ret1v rfl rfl rfl ⟨_, C7, rfl, H7.out, P7.out, HO.out, fun k e => by rw [(HT.out k e).1]; decide⟩
  have HK2 := Lib.hid hk
  have n2 := hk
  clear hk
  by_cases hk : a.kind = 3
  · have e1 : (a.kind == 1) = false := beq_eq_false_iff_ne.2 (by omega)
    have e2 : (a.kind == 2) = false := beq_eq_false_iff_ne.2 (by omega)
    have e3 : (a.kind == 3) = true := beq_iff_eq.2 hk
    have HE := Lib.hid (show s.act a = s.quiet.escape a.byte a.inter.data.toList by
      unfold Scr.act
      dsimp only
      rw [if_neg HK1.out, if_neg HK2.out, if_pos hk]
      rfl)
    have HPA := Lib.hid (ris_par a ps hk)
    have HCO := Lib.hid (escapeS_any HR.out HOK.out a v (show s.quiet.out.length ≤ 100000 from Nat.zero_le _))
    unfold VAct.val at HCO
    clear hk
    go_wp2_with fail
    refine (HCO.out).mono ?_
    rintro e w7 ⟨rfl, C7, h7, p7⟩
    rw [← HE.out] at h7
    rw [HPA.out] at h7
    have H7 := Lib.hid h7
    have P7 := Lib.hid (HP.out.trans p7)
    clear h7 p7 a0 a1 a2 a3 a4 a5
    obtain ⟨vo7, c40, oo, tv, _⟩ := H7.out.outs
    have HO := Lib.hid oo
    have HT := Lib.hid tv
    clear oo tv
    go_wp2_with fail
    exact ret1v rfl rfl rfl ⟨_, C7, rfl, H7.out, P7.out, HO.out, fun k e => by rw [(HT.out k e).1]; decide⟩
  have HK3 := Lib.hid hk
  have n3 := hk
  clear hk
  by_cases hk : a.kind = 4
  · have e1 : (a.kind == 1) = false := beq_eq_false_iff_ne.2 (by omega)
    have e2 : (a.kind == 2) = false := beq_eq_false_iff_ne.2 (by omega)
    have e3 : (a.kind == 3) = false := beq_eq_false_iff_ne.2 (by omega)
    have e4 : (a.kind == 4) = true := beq_iff_eq.2 hk
    have HE := Lib.hid (show s.act a = s.quiet.csi a.byte a.params a.inter.data.toList by
      unfold Scr.act
      dsimp only
      rw [if_neg HK1.out, if_neg HK2.out, if_neg HK3.out, if_pos hk]
      rfl)
    have HPA := Lib.hid (ris_no a ps (by omega))
    have HCO := Lib.hid (csiS_any HR.out HOK.out a v HB.out.ap (show s.quiet.out.length ≤ 100000 from Nat.zero_le _) HLA.out)
    unfold VAct.val at HCO
    clear hk
    go_wp2_with fail
    refine (HCO.out).mono ?_
    rintro e w7 ⟨rfl, C7, h7, p7⟩
    rw [← HE.out] at h7
    rw [← HPA.out] at h7
    have H7 := Lib.hid h7
    have P7 := Lib.hid (HP.out.trans p7)
    clear h7 p7 a0 a1 a2 a3 a4 a5
    obtain ⟨vo7, c40, oo, tv, _⟩ := H7.out.outs
    have HO := Lib.hid oo
    have HT := Lib.hid tv
    clear oo tv
    go_wp2_with fail
    exact ret1v rfl rfl rfl ⟨_, C7, rfl, H7.out, P7.out, HO.out, fun k e => by rw [(HT.out k e).1]; decide⟩
  have HK4 := Lib.hid hk
  have n4 := hk
  clear hk
  by_cases hk : a.kind = 5
  · have e1 : (a.kind == 1) = false := beq_eq_false_iff_ne.2 (by omega)
    have e2 : (a.kind == 2) = false := beq_eq_false_iff_ne.2 (by omega)
    have e3 : (a.kind == 3) = false := beq_eq_false_iff_ne.2 (by omega)
    have e4 : (a.kind == 4) = false := beq_eq_false_iff_ne.2 (by omega)
    have e5 : (a.kind == 5) = true := beq_iff_eq.2 hk
    have HE := Lib.hid (show s.act a = s.quiet.named a.text.data.toList by
      unfold Scr.act
      dsimp only
      rw [if_neg HK1.out, if_neg HK2.out, if_neg HK3.out, if_neg HK4.out, if_pos hk]
      rfl)
    have HPA := Lib.hid (ris_no a ps (by omega))
    clear hk
    go_wp2_with fail
    refine (namedS_any HR.out a.text HTE.out).mono ?_
    rintro e w7 ⟨rfl, C7, h7, p7⟩
    rw [← HE.out] at h7
    rw [← HPA.out] at h7
    have H7 := Lib.hid h7
    have P7 := Lib.hid (HP.out.trans p7)
    clear h7 p7 a0 a1 a2 a3 a4 a5
    obtain ⟨vo7, c40, oo, tv, _⟩ := H7.out.outs
    have HO := Lib.hid oo
    have HT := Lib.hid tv
    clear oo tv
    go_wp2_with fail
    exact ret1v rfl rfl rfl ⟨_, C7, rfl, H7.out, P7.out, HO.out, fun k e => by rw [(HT.out k e).1]; decide⟩
  have HK5 := Lib.hid hk
  have n5 := hk
  clear hk
  by_cases hk : a.kind = 6
  · have e1 : (a.kind == 1) = false := beq_eq_false_iff_ne.2 (by omega)
    have e2 : (a.kind == 2) = false := beq_eq_false_iff_ne.2 (by omega)
    have e3 : (a.kind == 3) = false := beq_eq_false_iff_ne.2 (by omega)
    have e4 : (a.kind == 4) = false := beq_eq_false_iff_ne.2 (by omega)
    have e5 : (a.kind == 5) = false := beq_eq_false_iff_ne.2 (by omega)
    have e6 : (a.kind == 6) = true := beq_iff_eq.2 hk
    have HE := Lib.hid (show s.act a = s.quiet.asked a.byte a.inter.data.toList a.text.data.toList by
      unfold Scr.act
      dsimp only
      rw [if_neg HK1.out, if_neg HK2.out, if_neg HK3.out, if_neg HK4.out, if_neg HK5.out, if_pos hk]
      rfl)
    have HPA := Lib.hid (ris_no a ps (by omega))
    have HCO := Lib.hid (askedS_any HR.out HOK.out a v HB.out.ap (show s.quiet.out.length ≤ 100000 from Nat.zero_le _))
    unfold VAct.val at HCO
    clear hk
    go_wp2_with fail
    refine (HCO.out).mono ?_
    rintro e w7 ⟨rfl, C7, h7, p7⟩
    rw [← HE.out] at h7
    rw [← HPA.out] at h7
    have H7 := Lib.hid h7
    have P7 := Lib.hid (HP.out.trans p7)
    clear h7 p7 a0 a1 a2 a3 a4 a5
    obtain ⟨vo7, c40, oo, tv, _⟩ := H7.out.outs
    have HO := Lib.hid oo
    have HT := Lib.hid tv
    clear oo tv
    go_wp2_with fail
    exact ret1v rfl rfl rfl ⟨_, C7, rfl, H7.out, P7.out, HO.out, fun k e => by rw [(HT.out k e).1]; decide⟩
  have HK6 := Lib.hid hk
  have n6 := hk
  clear hk
  have e1 : (a.kind == 1) = false := beq_eq_false_iff_ne.2 n1
  have e2 : (a.kind == 2) = false := beq_eq_false_iff_ne.2 n2
  have e3 : (a.kind == 3) = false := beq_eq_false_iff_ne.2 n3
  have e4 : (a.kind == 4) = false := beq_eq_false_iff_ne.2 n4
  have e5 : (a.kind == 5) = false := beq_eq_false_iff_ne.2 n5
  have e6 : (a.kind == 6) = false := beq_eq_false_iff_ne.2 n6
  have HE := Lib.hid (show s.act a = s.quiet by
    unfold Scr.act
    dsimp only
    rw [if_neg n1, if_neg n2, if_neg n3, if_neg n4, if_neg n5, if_neg n6]
    rfl)
  have HPA := Lib.hid (ris_no a ps n3)
  clear n1 n2 n3 n4 n5 n6
  have h7 := HR.out
  rw [← HE.out] at h7
  rw [← HPA.out] at h7
  have H7 := Lib.hid h7
  clear h7
  obtain ⟨vo7, c40, oo, tv, _⟩ := H7.out.outs
  have HO := Lib.hid oo
  have HT := Lib.hid tv
  clear oo tv
  go_wp2_with fail
  exact ret1v rfl rfl rfl ⟨_, C1, rfl, H7.out, HP.out, HO.out, fun k e => by rw [(HT.out k e).1]; decide⟩
end Go.Proofs.YtlfdgkiliegaiaaGreatDoor

/- Package vtparse, plain: what is told keeps its limits, and can be written. -/
namespace Go.Proofs.YtlfdgkiliegaiaaGreatDoor
open Go.RowKit

/-- What has begun in a decoder can become a rune. -/
def DGood (d : Dec) : Prop := d.hav ≠ 0 → 128 ≤ d.lo ∧ d.hi ≤ 191 ∧
  ((d.more = 1 ∧ 2 ≤ d.r ∧ d.r ≤ 17407 ∧ (d.r < 864 ∨ 895 < d.r)) ∨ (d.more = 2 ∧ 0 ≤ d.r ∧ d.r ≤ 271 ∧ (d.r = 0 → 160 ≤ d.lo) ∧ (d.r = 13 → d.hi ≤ 159)) ∨
    (d.more = 3 ∧ 0 ≤ d.r ∧ d.r ≤ 4 ∧ (d.r = 0 → 144 ≤ d.lo) ∧ (d.r = 4 → d.hi ≤ 143)))
theorem prOk_of {r : Int} (h1 : 32 ≤ r) (h2 : r ≠ 127) (h3 : (0 ≤ r ∧ r < 55296) ∨ (57343 < r ∧ r ≤ 1114111)) : prOk r = true := by
  unfold prOk Lib.validRune
  rw [decide_eq_true h1, beq_eq_false_iff_ne.2 h2, decide_eq_true (show (0 ≤ r ∧ r < 0xD800) ∨ (0xDFFF < r ∧ r ≤ 0x10FFFF) from h3)]
  rfl
theorem prOk_bad : prOk 65533 = true := prOk_of (by decide) (by decide) (by omega)
theorem begin_good (d : Dec) (b : Int) (hd : d.hav = 0) (h0 : 0 ≤ b) (h1 : b ≤ 255) :
    DGood (beginD d b).1 ∧ (32 ≤ b → b ≠ 127 → ∀ r ∈ (beginD d b).2, prOk r = true) ∧ (beginD d b).2.length + (if (beginD d b).1.hav = 0 then 0 else 1) = 1 := by
  unfold beginD
  split
  · rename_i hb
    refine ⟨fun h => absurd hd h, fun h2 h3 r hr => ?_, by simp⟩
    simp at hr; subst hr
    exact prOk_of h2 h3 (by omega)
  split
  · exact ⟨fun _ => ⟨by simp, by simp, .inl ⟨rfl, by simp only []; omega, by simp only []; omega, by simp only []; omega⟩⟩, fun _ _ r hr => by simp at hr, by simp⟩
  split
  · refine ⟨fun _ => ⟨?_, ?_, .inr (.inl ⟨rfl, ?_, ?_, ?_, ?_⟩)⟩, fun _ _ r hr => by simp at hr, by simp⟩
    · simp only []; split <;> omega
    · simp only []; split <;> omega
    · simp only []; omega
    · simp only []; omega
    · simp only []; intro h; rw [if_pos (by omega)]; omega
    · simp only []; intro h; rw [if_pos (by omega)]; omega
  split
  · refine ⟨fun _ => ⟨?_, ?_, .inr (.inr ⟨rfl, ?_, ?_, ?_, ?_⟩)⟩, fun _ _ r hr => by simp at hr, by simp⟩
    · simp only []; split <;> omega
    · simp only []; split <;> omega
    · simp only []; omega
    · simp only []; omega
    · simp only []; intro h; rw [if_pos (by omega)]; omega
    · simp only []; intro h; rw [if_pos (by omega)]; omega
  · refine ⟨fun h => absurd hd h, fun _ _ r hr => ?_, by simp⟩
    simp at hr; subst hr
    exact prOk_bad
theorem feed_good (d : Dec) (b : Int) (hd : DGood d) (h0 : 0 ≤ b) (h1 : b ≤ 255) :
    DGood (feedD d b).1 ∧ (32 ≤ b → b ≠ 127 → ∀ r ∈ (feedD d b).2, prOk r = true) ∧ (feedD d b).2.length + (if (feedD d b).1.hav = 0 then 0 else 1) ≤ 1 + (if d.hav = 0 then 0 else 1) := by
  unfold feedD
  by_cases hh : d.hav = 0
  · rw [if_pos hh, if_pos hh]
    obtain ⟨g1, g2, g3⟩ := begin_good d b hh h0 h1
    exact ⟨g1, g2, by omega⟩
  rw [if_neg hh, if_neg hh]
  by_cases hb : b < d.lo ∨ d.hi < b
  · rw [if_pos hb]
    obtain ⟨g1, g2, g3⟩ := begin_good { d with hav := 0 } b rfl h0 h1
    refine ⟨g1, fun k1 k2 r hr => ?_, ?_⟩
    · rcases List.mem_cons.1 hr with rfl | hr
      · exact prOk_bad
      · exact g2 k1 k2 r hr
    · simp only [List.length_cons]; omega
  rw [if_neg hb]
  obtain ⟨k1, k2, k3⟩ := hd hh
  by_cases hm : 1 < d.more
  · rw [if_pos hm]
    refine ⟨fun _ => ⟨by simp, by simp, ?_⟩, fun _ _ r hr => by simp at hr, by simp only [List.length_nil]; split <;> omega⟩
    simp only []
    rcases k3 with ⟨m1, _⟩ | ⟨m2, r0, r1, r2, r3⟩ | ⟨m3, r0, r1, r2, r3⟩
    · omega
    · left
      refine ⟨by omega, ?_, ?_, ?_⟩
      · by_cases h : d.r = 0
        · have := r2 h; omega
        · omega
      · omega
      · by_cases h : d.r = 13
        · have := r3 h; omega
        · omega
    · right; left
      refine ⟨by omega, ?_, ?_, ?_, ?_⟩
      · omega
      · by_cases h : d.r = 4
        · have := r3 h; omega
        · omega
      · intro h
        by_cases h' : d.r = 0
        · have := r2 h'; omega
        · omega
      · intro h
        by_cases h' : d.r = 0
        · have := r2 h'; omega
        · omega
  · rw [if_neg hm]
    refine ⟨fun h => absurd rfl h, fun _ _ r hr => ?_, by simp⟩
    simp at hr; subst hr
    rcases k3 with ⟨m1, r0, r1, r2⟩ | ⟨m2, _⟩ | ⟨m3, _⟩
    · exact prOk_of (by omega) (by omega) (by omega)
    · omega
    · omega
theorem end_good (d : Dec) (hd : DGood d) : DGood (endD d).1 ∧ (∀ r ∈ (endD d).2, prOk r = true) ∧ (endD d).1.hav = 0 ∧ (endD d).2.length = (if d.hav = 0 then 0 else 1) := by
  unfold endD
  by_cases h : d.hav = 0
  · rw [if_pos h, if_pos h]
    exact ⟨hd, fun r hr => by simp at hr, h, rfl⟩
  · rw [if_neg h, if_neg h]
    exact ⟨fun h => absurd rfl h, fun r hr => by simp at hr; subst hr; exact prOk_bad, rfl, rfl⟩

structure ABnd (a : VAct) : Prop where
  k : 1 ≤ a.kind ∧ a.kind ≤ 6
  pl : a.params.length ≤ 32
  tl : a.text.size ≤ 1024
  il : a.inter.size ≤ 3
  pr : ∀ x ∈ a.params, -1 ≤ x ∧ x ≤ 9999
  wr : 0 < (wrL a).length
  rn : 0 ≤ a.rune ∧ a.rune ≤ 1114111
structure PSt.Good (s : PSt) : Prop where
  fine : s.Fine
  np : s.params ≠ [-1]
  tx : ∀ b ∈ s.text, 32 ≤ (b.toNat : Int)
  i1 : s.state = 1 → onlyL s.inter 32 47 = true
  i2 : s.state = 2 ∨ s.state = 5 ∨ s.state = 6 → betweensL (markL s.inter).2 = true
  f6 : s.state = 6 → 64 ≤ (s.final.toNat : Int) ∧ (s.final.toNat : Int) ≤ 126 ∧ s.params.length ≤ 32
  dg : DGood s.dec
  dh : s.dec.hav ≠ 0 → s.state = 0
theorem s0_good : s0.Good := ⟨s0_fine, by decide, fun b hb => by simp [s0] at hb, fun h => absurd h (by decide), fun h => absurd h (by decide), fun h => absurd h (by decide), fun h => absurd rfl h, fun h => absurd rfl h⟩
theorem begun_good {s : PSt} {n : Int} (hn : 0 ≤ n ∧ n ≤ 7) (h6 : n ≠ 6) (hd : DGood s.dec) (hh : s.dec.hav ≠ 0 → n = 0) : (s.begun n).Good :=
  ⟨begun_fine hn, by simp [PSt.begun], fun b hb => by simp [PSt.begun] at hb, fun _ => rfl, fun _ => rfl, fun h => absurd h h6, hd, hh⟩
theorem pr_bnd {r : Int} (h : prOk r = true) : ABnd (prAct r) :=
  ⟨by show 1 ≤ (1 : Int) ∧ (1 : Int) ≤ 6; decide, by show 0 ≤ 32; decide, by show 0 ≤ 1024; decide, by show 0 ≤ 3; decide, fun x hx => by simp [prAct] at hx, by
    have e : wrL (prAct r) = encL r := by unfold wrL; simp [prAct, h]
    rw [e]; exact (encL_pos r).1, by
    unfold prOk Lib.validRune at h
    simp only [Bool.and_eq_true, decide_eq_true_eq] at h
    show 0 ≤ r ∧ r ≤ 1114111
    omega⟩
theorem ctl_bnd {b : UInt8} (h : ctlOk b = true) : ABnd (ctlAct b) :=
  ⟨by show 1 ≤ (2 : Int) ∧ (2 : Int) ≤ 6; decide, by show 0 ≤ 32; decide, by show 0 ≤ 1024; decide, by show 0 ≤ 3; decide, fun x hx => by simp [ctlAct] at hx, by
    have e : wrL (ctlAct b) = [b] := by unfold wrL; simp [ctlAct, h]
    rw [e]; simp, by show 0 ≤ (0 : Int) ∧ (0 : Int) ≤ 1114111; decide⟩
theorem esc_bnd {b : UInt8} {inter : List UInt8} (hi : inter.length ≤ 2) (h : escOk inter b = true) : ABnd (escAct b inter) :=
  ⟨by show 1 ≤ (3 : Int) ∧ (3 : Int) ≤ 6; decide, by show 0 ≤ 32; decide, by show 0 ≤ 1024; decide, by show inter.length ≤ 3; omega, fun x hx => by simp [escAct] at hx, by
    have e : wrL (escAct b inter) = 27 :: inter ++ [b] := by unfold wrL; simp [escAct, h]
    rw [e]; simp, by show 0 ≤ (0 : Int) ∧ (0 : Int) ≤ 1114111; decide⟩
theorem csi_bnd {b : UInt8} {params : List Int} {inter : List UInt8} (hp : params.length ≤ 32) (hi : inter.length ≤ 3) (hr : ∀ x ∈ params, -1 ≤ x ∧ x ≤ 9999) (h : headOk (csiAct b params inter) = true) : ABnd (csiAct b params inter) :=
  ⟨by show 1 ≤ (4 : Int) ∧ (4 : Int) ≤ 6; decide, hp, by show 0 ≤ 1024; decide, hi, hr, by
    have e : wrL (csiAct b params inter) = [27, 91] ++ headL (csiAct b params inter) := by unfold wrL; rw [h]; simp [csiAct]
    rw [e]; simp, by show 0 ≤ (0 : Int) ∧ (0 : Int) ≤ 1114111; decide⟩
theorem txt_ok {t : List UInt8} (hl : t.length ≤ 1024) (h : ∀ b ∈ t, 32 ≤ (b.toNat : Int)) : txtOk t = true := by
  unfold txtOk onlyL
  rw [decide_eq_true hl, Bool.and_true, List.all_eq_true]
  intro b hb
  rw [decide_eq_true (h b hb), decide_eq_true (byte_le b)]
  rfl
theorem osc_bnd {t : List UInt8} (hl : t.length ≤ 1024) (h : ∀ b ∈ t, 32 ≤ (b.toNat : Int)) : ABnd (oscAct t) :=
  ⟨by show 1 ≤ (5 : Int) ∧ (5 : Int) ≤ 6; decide, by show 0 ≤ 32; decide, hl, by show 0 ≤ 3; decide, fun x hx => by simp [oscAct] at hx, by
    have e : wrL (oscAct t) = [27, 93] ++ t ++ [7] := by unfold wrL; simp [oscAct, txt_ok hl h]
    rw [e]; simp, by show 0 ≤ (0 : Int) ∧ (0 : Int) ≤ 1114111; decide⟩
theorem dcs_bnd {b : UInt8} {params : List Int} {inter t : List UInt8} (hp : params.length ≤ 32) (hi : inter.length ≤ 3) (hr : ∀ x ∈ params, -1 ≤ x ∧ x ≤ 9999) (hl : t.length ≤ 1024) (ht : ∀ b ∈ t, 32 ≤ (b.toNat : Int)) (h : headOk (dcsAct b params inter t) = true) : ABnd (dcsAct b params inter t) :=
  ⟨by show 1 ≤ (6 : Int) ∧ (6 : Int) ≤ 6; decide, hp, hl, hi, hr, by
    have e : wrL (dcsAct b params inter t) = [27, 80] ++ headL (dcsAct b params inter t) ++ t ++ [27, 92] := by unfold wrL; rw [h]; simp [dcsAct, txt_ok hl ht]
    rw [e]; simp, by show 0 ≤ (0 : Int) ∧ (0 : Int) ≤ 1114111; decide⟩
theorem headOk_of {b : UInt8} {params : List Int} {inter : List UInt8} (hb : 64 ≤ (b.toNat : Int) ∧ (b.toNat : Int) ≤ 126) (hp : params.length ≤ 32) (hn : params ≠ [-1]) (hr : ∀ x ∈ params, -1 ≤ x ∧ x ≤ 9999) (hi : betweensL (markL inter).2 = true) (k r : Int) (t : ByteArray) :
    headOk ⟨k, r, b, params, ⟨inter.toArray⟩, t⟩ = true := by
  unfold headOk preOk
  show ((betweensL (markL inter).2 && (decide (64 ≤ (b.toNat : Int)) && (decide ((b.toNat : Int) ≤ 126) && (decide (params.length ≤ 32) && !(decide (params = [-1])))))) && params.all parOk) = true
  rw [hi, decide_eq_true hb.1, decide_eq_true hb.2, decide_eq_true hp, decide_eq_false hn]
  simp only [Bool.not_false, Bool.and_self, Bool.true_and, List.all_eq_true]
  intro x hx
  have := hr x hx
  unfold parOk
  rw [decide_eq_true this.1, decide_eq_true this.2]
  rfl
/-- What can be told. -/
inductive AOk : VAct → Prop
  | pr {r : Int} : prOk r = true → AOk (prAct r)
  | ctl {b : UInt8} : ctlOk b = true → AOk (ctlAct b)
  | esc {b : UInt8} {inter : List UInt8} : inter.length ≤ 2 → escOk inter b = true → AOk (escAct b inter)
  | csi {b : UInt8} {params : List Int} {inter : List UInt8} : params.length ≤ 32 → inter.length ≤ 3 → (∀ x ∈ params, -1 ≤ x ∧ x ≤ 9999) → headOk (csiAct b params inter) = true → AOk (csiAct b params inter)
  | osc {t : List UInt8} : t.length ≤ 1024 → (∀ b ∈ t, 32 ≤ (b.toNat : Int)) → AOk (oscAct t)
  | dcs {b : UInt8} {params : List Int} {inter t : List UInt8} : params.length ≤ 32 → inter.length ≤ 3 → (∀ x ∈ params, -1 ≤ x ∧ x ≤ 9999) → t.length ≤ 1024 → (∀ b ∈ t, 32 ≤ (b.toNat : Int)) → headOk (dcsAct b params inter t) = true → AOk (dcsAct b params inter t)
theorem AOk.bnd {a : VAct} (h : AOk a) : ABnd a := by
  cases h with
  | pr h => exact pr_bnd h
  | ctl h => exact ctl_bnd h
  | esc h1 h2 => exact esc_bnd h1 h2
  | csi h1 h2 h3 h4 => exact csi_bnd h1 h2 h3 h4
  | osc h1 h2 => exact osc_bnd h1 h2
  | dcs h1 h2 h3 h4 h5 h6 => exact dcs_bnd h1 h2 h3 h4 h5 h6
theorem pr_ok {r : Int} (h : prOk r = true) : AOk (prAct r) := .pr h
theorem ctl_ok {b : UInt8} (h : ctlOk b = true) : AOk (ctlAct b) := .ctl h
theorem esc_ok {b : UInt8} {inter : List UInt8} (hi : inter.length ≤ 2) (h : escOk inter b = true) : AOk (escAct b inter) := .esc hi h
theorem csi_ok {b : UInt8} {params : List Int} {inter : List UInt8} (hp : params.length ≤ 32) (hi : inter.length ≤ 3) (hr : ∀ x ∈ params, -1 ≤ x ∧ x ≤ 9999) (h : headOk (csiAct b params inter) = true) : AOk (csiAct b params inter) := .csi hp hi hr h
theorem osc_ok {t : List UInt8} (hl : t.length ≤ 1024) (h : ∀ b ∈ t, 32 ≤ (b.toNat : Int)) : AOk (oscAct t) := .osc hl h
theorem dcs_ok {b : UInt8} {params : List Int} {inter t : List UInt8} (hp : params.length ≤ 32) (hi : inter.length ≤ 3) (hr : ∀ x ∈ params, -1 ≤ x ∧ x ≤ 9999) (hl : t.length ≤ 1024) (ht : ∀ b ∈ t, 32 ≤ (b.toNat : Int)) (h : headOk (dcsAct b params inter t) = true) : AOk (dcsAct b params inter t) := .dcs hp hi hr hl ht h
theorem ends_good {s : PSt} (h : s.Good) : ∀ a ∈ s.endActs, AOk a := by
  intro a ha
  unfold PSt.endActs at ha
  split at ha
  · simp at ha; subst ha
    exact osc_ok h.fine.tl h.tx
  split at ha
  · rename_i h6
    simp at ha; subst ha
    have hf := h.f6 h6
    exact dcs_ok hf.2.2 h.fine.il h.fine.pr h.fine.tl h.tx (headOk_of ⟨hf.1, hf.2.1⟩ hf.2.2 h.np h.fine.pr (h.i2 (.inr (.inr h6))) 6 0 _)
  · simp at ha
theorem ends_len (s : PSt) : s.endActs.length = if s.state = 4 ∨ s.state = 6 then 1 else 0 := by
  unfold PSt.endActs
  by_cases h4 : s.state = 4
  · rw [if_pos h4, if_pos (.inl h4)]; rfl
  · by_cases h6 : s.state = 6
    · rw [if_neg h4, if_pos h6, if_pos (.inr h6)]; rfl
    · rw [if_neg h4, if_neg h6, if_neg (fun h => h.elim h4 h6)]; rfl
end Go.Proofs.YtlfdgkiliegaiaaGreatDoor

/- Package vtparse, plain: each byte tells what keeps its limits; how many are told. -/
namespace Go.Proofs.YtlfdgkiliegaiaaGreatDoor
open Go.RowKit

/-- What may yet be told of what came. -/
def PSt.owes (s : PSt) : Nat := (if s.dec.hav = 0 then 0 else 1) + (if s.state = 4 ∨ s.state = 6 then 1 else 0)
theorem texts_iff (s : PSt) : s.texts = true ↔ s.state = 4 ∨ s.state = 6 ∨ s.state = 7 := by
  unfold PSt.texts
  simp [or_assoc]
theorem texts_no {s : PSt} (h : s.texts = false) : ¬ s.state = 4 ∧ ¬ s.state = 6 ∧ ¬ s.state = 7 := by
  have : ¬ (s.state = 4 ∨ s.state = 6 ∨ s.state = 7) := fun e => by rw [(texts_iff s).2 e] at h; simp at h
  exact ⟨fun e => this (.inl e), fun e => this (.inr (.inl e)), fun e => this (.inr (.inr e))⟩
theorem good_dec {s : PSt} (h : s.Good) (D : Dec) (hd : DGood D) (hh : D.hav ≠ 0 → s.state = 0) : ({ s with dec := D } : PSt).Good :=
  ⟨⟨h.fine.il, h.fine.pne, h.fine.pl, h.fine.pr, h.fine.tl, h.fine.st, h.fine.e1⟩, h.np, h.tx, h.i1, h.i2, h.f6, hd, hh⟩
theorem any1_good {s : PSt} (b : UInt8) (h : s.Good) :
    (s.any1 b).2.1.Good ∧ (∀ a ∈ (s.any1 b).2.2, AOk a) ∧ ((s.any1 b).1 = true → (s.any1 b).2.2.length + (s.any1 b).2.1.owes ≤ 1 + s.owes) ∧
      ((s.any1 b).1 = false → (s.any1 b).2.2 = [] ∧ (s.any1 b).2.1.owes ≤ s.owes ∧ 32 ≤ (b.toNat : Int) ∧ ((s.any1 b).2.1.texts = false → (b.toNat : Int) ≠ 127 ∧ (127 < (b.toNat : Int) → (s.any1 b).2.1.state = 0))) := by
  obtain ⟨e1, e2, e3, e4⟩ := end_good s.dec h.dg
  have hends := ends_good h
  have hel := ends_len s
  unfold PSt.any1
  split
  · refine ⟨begun_good (s := { s with dec := dec0 }) (by decide) (by decide) (fun h => absurd rfl h) (fun _ => rfl), fun a ha => by simp at ha, fun _ => ?_, fun h => by simp at h⟩
    show 0 + (0 + 0) ≤ _; omega
  split
  · have g := begun_good (s := { s with dec := (endD s.dec).1 }) (n := 1) (by decide) (by decide) e1 (fun h => absurd e3 h)
    refine ⟨⟨⟨g.fine.il, g.fine.pne, g.fine.pl, g.fine.pr, g.fine.tl, g.fine.st, g.fine.e1⟩, g.np, g.tx, g.i1, g.i2, g.f6, g.dg, g.dh⟩, fun a ha => ?_, fun _ => ?_, fun h => by simp at h⟩
    · rcases List.mem_append.1 ha with ha | ha
      · obtain ⟨r, hr, rfl⟩ := List.mem_map.1 ha
        exact pr_ok (e2 r hr)
      · exact hends a ha
    · simp only [List.length_append, List.length_map, e4, hel, PSt.owes]
      show _ + ((if (endD s.dec).1.hav = 0 then 0 else 1) + 0) ≤ _
      rw [if_pos e3]
      omega
  split
  · rename_i h7
    refine ⟨begun_good (by decide) (by decide) h.dg (fun _ => rfl), hends, fun _ => ?_, fun h => by simp at h⟩
    have hh : s.dec.hav = 0 := by
      by_cases h0 : s.dec.hav = 0
      · exact h0
      · have := h.dh h0; omega
    simp only [hel, PSt.owes]
    show _ + ((if s.dec.hav = 0 then 0 else 1) + 0) ≤ _
    rw [if_pos hh, if_pos (show s.state = 4 ∨ s.state = 6 from .inl h7.2)]
    omega
  split
  · exact ⟨h, fun a ha => by simp at ha, fun _ => by simp, fun h => by simp at h⟩
  rename_i n24 n27 n7 nq
  split
  · rename_i h32
    have htx : s.texts = false := by
      cases ht : s.texts
      · rfl
      · exact absurd (.inr ⟨h32, ht⟩) nq
    obtain ⟨t4, t6, t7⟩ := texts_no htx
    refine ⟨good_dec h _ e1 (fun h => absurd e3 h), fun a ha => ?_, fun _ => ?_, fun h => by simp at h⟩
    · rcases List.mem_append.1 ha with ha | ha
      · obtain ⟨r, hr, rfl⟩ := List.mem_map.1 ha
        exact pr_ok (e2 r hr)
      · simp at ha; subst ha
        refine ctl_ok ?_
        unfold ctlOk
        rw [decide_eq_true h32, beq_eq_false_iff_ne.2 (fun e => n24 (.inl e)), beq_eq_false_iff_ne.2 (fun e => n24 (.inr e)), beq_eq_false_iff_ne.2 n27]
        rfl
    · simp only [List.length_append, List.length_map, List.length_singleton, e4, PSt.owes]
      rw [if_pos e3]
      omega
  rename_i n32
  split
  · rename_i h127
    by_cases h0 : s.state = 0
    · rw [if_pos h0]
      exact ⟨h, fun a ha => by simp at ha, fun h => by simp at h, fun _ => ⟨rfl, Nat.le_refl _, by omega, fun _ => ⟨by omega, fun _ => h0⟩⟩⟩
    · rw [if_neg h0]
      have hh : s.dec.hav = 0 := by
        by_cases hv : s.dec.hav = 0
        · exact hv
        · exact absurd (h.dh hv) h0
      refine ⟨begun_good (by decide) (by decide) h.dg (fun _ => rfl), fun a ha => by simp at ha, fun h => by simp at h, fun _ => ⟨rfl, ?_, by omega, fun _ => ⟨by omega, fun _ => rfl⟩⟩⟩
      simp only [PSt.owes]
      show (if s.dec.hav = 0 then 0 else 1) + 0 ≤ _
      omega
  · rename_i n127
    refine ⟨h, fun a ha => by simp at ha, fun h => by simp at h, fun _ => ⟨rfl, Nat.le_refl _, by omega, fun ht => ?_⟩⟩
    have ht' : s.texts = false := ht
    refine ⟨fun e => nq (.inl ⟨e, ht'⟩), fun hg => absurd ⟨hg, ht'⟩ n127⟩
theorem only_snoc (l : List UInt8) (b : UInt8) (lo hi : Int) : onlyL (l ++ [b]) lo hi = (onlyL l lo hi && (decide (lo ≤ (b.toNat : Int)) && decide ((b.toNat : Int) ≤ hi))) := by
  unfold onlyL; simp
theorem esced_good {s : PSt} (b : UInt8) (h : s.Good) (h1 : s.state = 1) (hb : 32 ≤ (b.toNat : Int) ∧ (b.toNat : Int) ≤ 126) :
    (s.esced b).1.Good ∧ (∀ a ∈ (s.esced b).2, AOk a) ∧ (s.esced b).2.length + (s.esced b).1.owes ≤ 1 + s.owes := by
  have hi := h.fine.e1 h1
  have hon := h.i1 h1
  have hh : s.dec.hav = 0 := by
    by_cases h0 : s.dec.hav = 0
    · exact h0
    · have := h.dh h0; omega
  have ho : ∀ n, (s.begun n).owes = if n = 4 ∨ n = 6 then 1 else 0 := fun n => by
    unfold PSt.owes
    show (if s.dec.hav = 0 then 0 else 1) + _ = _
    rw [if_pos hh, Nat.zero_add]
    rfl
  have hbg : ∀ n, 0 ≤ n ∧ n ≤ 7 → n ≠ 6 → (s.begun n).Good := fun n hn h6 => begun_good hn h6 h.dg (fun e => absurd hh e)
  unfold PSt.esced
  split
  · rename_i hbt
    split
    · refine ⟨?_, fun a ha => by simp at ha, ?_⟩
      · exact begun_good (s := { s with frm := s.state }) (by decide) (by decide) h.dg (fun e => absurd hh e)
      · show 0 + ((if s.dec.hav = 0 then 0 else 1) + 0) ≤ _
        rw [if_pos hh]; omega
    · rename_i h2
      have hk : (s.inter ++ [b]).length ≤ 2 := by rw [List.length_append, List.length_singleton]; omega
      refine ⟨⟨⟨by show (s.inter ++ [b]).length ≤ 3; omega, h.fine.pne, h.fine.pl, h.fine.pr, h.fine.tl, h.fine.st, fun _ => hk⟩, h.np, h.tx, fun _ => ?_, fun e => ?_, h.f6, h.dg, h.dh⟩, fun a ha => by simp at ha, ?_⟩
      · show onlyL (s.inter ++ [b]) 32 47 = true
        rw [only_snoc, hon]
        unfold betweenL at hbt
        rw [hbt]; rfl
      · have e' : s.state = 2 ∨ s.state = 5 ∨ s.state = 6 := e
        omega
      · simp only [List.length_nil, PSt.owes]; omega
  rename_i hbt
  have hb48 : 48 ≤ (b.toNat : Int) := by
    unfold betweenL at hbt
    rw [Bool.and_eq_true, decide_eq_true_eq, decide_eq_true_eq] at hbt
    omega
  have hesc : ∀ (hc : s.inter.length ≠ 0 ∨ beginsL b.toNat = false), AOk (escAct b s.inter) := fun hc => by
    refine esc_ok hi ?_
    unfold escOk betweensL
    rw [decide_eq_true hi, hon, decide_eq_true hb48, decide_eq_true hb.2]
    rcases hc with hc | hc
    · have : s.inter.isEmpty = false := by cases hs : s.inter with
        | nil => rw [hs] at hc; simp at hc
        | cons c r => rfl
      rw [this]; rfl
    · rw [hc]; simp
  have tellok : ∀ (hc : s.inter.length ≠ 0 ∨ beginsL b.toNat = false), (s.begun 0).Good ∧ (∀ a ∈ [escAct b s.inter], AOk a) ∧ [escAct b s.inter].length + (s.begun 0).owes ≤ 1 + s.owes := fun hc => by
    refine ⟨hbg 0 (by decide) (by decide), fun a ha => ?_, ?_⟩
    · rw [List.mem_singleton] at ha; subst ha; exact hesc hc
    · rw [ho 0]; simp
  have beg : ∀ n, 0 ≤ n ∧ n ≤ 7 → n ≠ 6 → (s.begun n).Good ∧ (∀ a ∈ ([] : List VAct), AOk a) ∧ ([] : List VAct).length + (s.begun n).owes ≤ 1 + s.owes := fun n hn h6 => by
    refine ⟨hbg n hn h6, fun a ha => by simp at ha, ?_⟩
    rw [ho n]; simp only [List.length_nil]; split <;> omega
  split
  · rename_i h0
    split
    · exact beg 2 (by decide) (by decide)
    split
    · exact beg 4 (by decide) (by decide)
    split
    · exact beg 5 (by decide) (by decide)
    split
    · exact beg 7 (by decide) (by decide)
    rename_i n1 n2 n3 n4
    split
    · exact beg 0 (by decide) (by decide)
    · refine tellok (.inr ?_)
      unfold beginsL
      simp only [Bool.or_eq_false_iff, beq_eq_false_iff_ne]
      omega
  · rename_i h0
    exact tellok (.inl h0)
end Go.Proofs.YtlfdgkiliegaiaaGreatDoor

/- Package vtparse, plain: each byte tells what keeps its limits; of all bytes no more actions than bytes. -/
namespace Go.Proofs.YtlfdgkiliegaiaaGreatDoor
open Go.RowKit

theorem mark_cons (c : UInt8) (r : List UInt8) : markL (c :: r) = if 60 ≤ (c.toNat : Int) ∧ (c.toNat : Int) ≤ 63 then ([c], r) else ([], c :: r) := rfl
theorem btw_cons {s : PSt} {c : UInt8} {r : List UInt8} (hs : s.inter = c :: r) : s.btw = if 60 ≤ (c.toNat : Int) then r.length else r.length + 1 := by
  unfold PSt.btw PSt.marked
  rw [hs]
  by_cases h : 60 ≤ (c.toNat : Int)
  · simp [h]
  · simp [h]
theorem btw_eq {s : PSt} (h : betweensL (markL s.inter).2 = true) : s.btw = (markL s.inter).2.length := by
  cases hs : s.inter with
  | nil => unfold PSt.btw PSt.marked; rw [hs]; rfl
  | cons c r =>
    rw [hs, mark_cons] at h
    rw [btw_cons hs, mark_cons]
    by_cases hc : 60 ≤ (c.toNat : Int) ∧ (c.toNat : Int) ≤ 63
    · rw [if_pos hc, if_pos hc.1]
    · rw [if_neg hc] at h ⊢
      have hn : ¬ 60 ≤ (c.toNat : Int) := fun h60 => by
        unfold betweensL onlyL at h
        simp only [Bool.and_eq_true, List.all_cons, decide_eq_true_eq] at h
        omega
      rw [if_neg hn]; rfl
theorem mark_snoc (l : List UInt8) (b : UInt8) (hb : (b.toNat : Int) ≤ 47) : (markL (l ++ [b])).2 = (markL l).2 ++ [b] := by
  cases l with
  | nil =>
    show (markL [b]).2 = [b]
    rw [mark_cons, if_neg (by omega)]
  | cons c r =>
    show (markL (c :: (r ++ [b]))).2 = _
    rw [mark_cons, mark_cons]
    split <;> rfl
theorem betweens_snoc (l : List UInt8) (b : UInt8) (h : betweensL l = true) (hl : l.length < 2) (hb : betweenL (b.toNat : Int) = true) : betweensL (l ++ [b]) = true := by
  unfold betweensL at h ⊢
  rw [Bool.and_eq_true, decide_eq_true_eq] at h
  unfold betweenL at hb
  rw [only_snoc, h.2, hb, decide_eq_true (by rw [List.length_append, List.length_singleton]; omega)]
  rfl
theorem digit_np {s : PSt} (d : Int) (h : s.Good) : (s.digit d).params ≠ [-1] := by
  have hs : s.started.params ≠ [] ∧ (s.any = true → s.started.params = s.params) ∧ (s.any = false → s.started.params = [-1]) := by
    unfold PSt.started
    cases ha : s.any
    · exact ⟨by simp, by simp, by simp⟩
    · exact ⟨h.fine.pne ha, fun _ => rfl, by simp⟩
  unfold PSt.digit
  split
  · rename_i hd
    show setLast s.started.params d ≠ [-1]
    intro e
    have hc := clamp_range (s.started.params.getD (s.started.params.length - 1) 0) d hd
    have hlen : s.started.params.length = 1 := by
      have := congrArg List.length e
      unfold setLast at this
      simpa using this
    have hx : clamp (s.started.params.getD (s.started.params.length - 1) 0) d = -1 := by
      have := congrArg (fun l => l.getD 0 0) e
      unfold setLast at this
      rw [hlen] at this ⊢
      cases hp : s.started.params with
      | nil => rw [hp] at hlen; simp at hlen
      | cons x r => rw [hp] at this; simpa using this
    unfold clamp at hx
    omega
  · split
    · show s.started.params ++ [-1] ≠ [-1]
      intro e
      have := congrArg List.length e
      simp at this
      exact hs.1 this
    · rename_i hl
      show s.started.params ≠ [-1]
      intro e
      rw [e] at hl
      simp at hl
theorem digit_good {s : PSt} (d : Int) (h : s.Good) (h1 : s.state = 2 ∨ s.state = 5) : (s.digit d).Good ∧ (s.digit d).owes = s.owes := by
  have e : (s.digit d).inter = s.inter ∧ (s.digit d).text = s.text ∧ (s.digit d).state = s.state ∧ (s.digit d).dec = s.dec := by
    have e0 : s.started.inter = s.inter ∧ s.started.text = s.text ∧ s.started.state = s.state ∧ s.started.dec = s.dec := by
      unfold PSt.started; split <;> exact ⟨rfl, rfl, rfl, rfl⟩
    unfold PSt.digit
    split
    · exact e0
    split
    · exact e0
    · exact e0
  obtain ⟨e1, e2, e3, e4⟩ := e
  refine ⟨⟨digit_fine d h.fine, digit_np d h, by rw [e2]; exact h.tx, by rw [e3, e1]; exact h.i1, by rw [e3, e1]; exact h.i2, fun h6 => by rw [e3] at h6; omega, by rw [e4]; exact h.dg, by rw [e3, e4]; exact h.dh⟩, ?_⟩
  unfold PSt.owes
  rw [e3, e4]
theorem seqd_good {s : PSt} (b : UInt8) (h : s.Good) (h1 : s.state = 2 ∨ s.state = 5) (hb : 32 ≤ (b.toNat : Int) ∧ (b.toNat : Int) ≤ 126) :
    (s.seqd b).1.Good ∧ (∀ a ∈ (s.seqd b).2, AOk a) ∧ (s.seqd b).2.length + (s.seqd b).1.owes ≤ 1 + s.owes := by
  have hi2 := h.i2 (h1.elim .inl (fun e => .inr (.inl e)))
  have hbt := btw_eq hi2
  have hh : s.dec.hav = 0 := by
    by_cases h0 : s.dec.hav = 0
    · exact h0
    · have := h.dh h0; omega
  have hne1 : ¬ s.state = 1 := by omega
  have hfi := seqd_fine b h.fine hne1
  have hnil : ∀ a ∈ ([] : List VAct), AOk a := fun a ha => by simp at ha
  have h32 : (s.params.take 32) ≠ [-1] := by
    intro e
    have hl := congrArg List.length e
    rw [List.length_take, List.length_singleton] at hl
    rw [List.take_of_length_le (by omega)] at e
    exact h.np e
  have hpr32 : ∀ x ∈ s.params.take 32, -1 ≤ x ∧ x ≤ 9999 := fun x hx => h.fine.pr x (List.mem_of_mem_take hx)
  have hl32 : (s.params.take 32).length ≤ 32 := by rw [List.length_take]; omega
  revert hfi
  unfold PSt.seqd
  split
  · rename_i h64
    split
    · intro hfi
      refine ⟨begun_good (s := s.cut) (by decide) (by decide) h.dg (fun e => absurd hh e), fun a ha => ?_, ?_⟩
      · rw [List.mem_singleton] at ha; subst ha
        exact csi_ok hl32 h.fine.il hpr32 (headOk_of ⟨h64, hb.2⟩ hl32 h32 hpr32 hi2 4 0 _)
      · show 1 + ((if s.dec.hav = 0 then 0 else 1) + 0) ≤ _
        rw [if_pos hh]; omega
    · intro hfi
      refine ⟨⟨hfi, h32, h.tx, fun e => ?_, fun _ => hi2, fun _ => ⟨h64, hb.2, hl32⟩, h.dg, fun e => absurd hh e⟩, hnil, ?_⟩
      · have e' : (6 : Int) = 1 := e; omega
      · show 0 + ((if s.dec.hav = 0 then 0 else 1) + 1) ≤ _
        rw [if_pos hh]; omega
  rename_i n64
  split
  · rename_i hbe
    intro hfi
    have hb47 : (b.toNat : Int) ≤ 47 := by
      have := hbe.1
      unfold betweenL at this
      rw [Bool.and_eq_true, decide_eq_true_eq, decide_eq_true_eq] at this
      omega
    refine ⟨⟨hfi, h.np, h.tx, fun e => absurd e hne1, fun _ => ?_, fun e => ?_, h.dg, h.dh⟩, hnil, ?_⟩
    · show betweensL (markL (s.inter ++ [b])).2 = true
      rw [mark_snoc _ _ hb47]
      exact betweens_snoc _ _ hi2 (by omega) hbe.1
    · have e' : s.state = 6 := e; omega
    · show 0 + s.owes ≤ _; omega
  split
  · intro _
    obtain ⟨g1, g2⟩ := digit_good ((b.toNat : Int) - 48) h h1
    exact ⟨g1, hnil, by rw [g2]; simp only [List.length_nil]; omega⟩
  split
  · intro _
    obtain ⟨g1, g2⟩ := digit_good (-1) h h1
    exact ⟨g1, hnil, by rw [g2]; simp only [List.length_nil]; omega⟩
  split
  · rename_i hm
    intro hfi
    refine ⟨⟨hfi, h.np, h.tx, fun e => absurd e hne1, fun _ => ?_, fun e => ?_, h.dg, h.dh⟩, hnil, ?_⟩
    · show betweensL (markL (s.inter ++ [b])).2 = true
      rw [List.length_eq_zero_iff.1 hm.2.1]
      show betweensL (markL [b]).2 = true
      rw [mark_cons, if_pos ⟨hm.1, by omega⟩]
      rfl
    · have e' : s.state = 6 := e; omega
    · show 0 + s.owes ≤ _; omega
  · intro _
    refine ⟨begun_good (s := { s with frm := s.state }) (by decide) (by decide) h.dg (fun e => absurd hh e), hnil, ?_⟩
    show 0 + ((if s.dec.hav = 0 then 0 else 1) + 0) ≤ _
    rw [if_pos hh]; omega
theorem took_good {s : PSt} (b : UInt8) (h : s.Good) (h32 : 32 ≤ (b.toNat : Int)) (hb : s.texts = false → (b.toNat : Int) ≠ 127 ∧ (127 < (b.toNat : Int) → s.state = 0)) :
    (s.took b).1.Good ∧ (∀ a ∈ (s.took b).2, AOk a) ∧ (s.took b).2.length + (s.took b).1.owes ≤ 1 + s.owes := by
  have hnil : ∀ a ∈ ([] : List VAct), AOk a := fun a ha => by simp at ha
  have htx : ¬ s.state = 4 → ¬ s.state = 6 → ¬ s.state = 7 → s.texts = false := fun a1 a2 a3 => by
    cases ht : s.texts
    · rfl
    · have := (texts_iff s).1 ht; omega
  have hdz : ¬ s.state = 0 → s.dec.hav = 0 := fun e => by
    by_cases h0 : s.dec.hav = 0
    · exact h0
    · exact absurd (h.dh h0) e
  unfold PSt.took
  split
  · rename_i h1
    have hx := hb (htx (by omega) (by omega) (by omega))
    refine esced_good b h h1 ⟨h32, ?_⟩
    by_cases hc : 127 < (b.toNat : Int)
    · have := hx.2 hc; omega
    · have := hx.1; omega
  rename_i n1
  split
  · rename_i h1
    have hx := hb (htx (by omega) (by omega) (by omega))
    refine seqd_good b h h1 ⟨h32, ?_⟩
    by_cases hc : 127 < (b.toNat : Int)
    · have := hx.2 hc; omega
    · have := hx.1; omega
  rename_i n2
  split
  · rename_i h3
    have hh := hdz (by omega)
    split
    · refine ⟨?_, hnil, ?_⟩
      · split
        · exact begun_good (by decide) (by decide) h.dg (fun e => absurd hh e)
        · exact begun_good (by decide) (by decide) h.dg (fun e => absurd hh e)
      · split
        · show 0 + ((if s.dec.hav = 0 then 0 else 1) + 0) ≤ _
          rw [if_pos hh]; omega
        · show 0 + ((if s.dec.hav = 0 then 0 else 1) + 0) ≤ _
          rw [if_pos hh]; omega
    · exact ⟨h, hnil, by simp only [List.length_nil]; omega⟩
  rename_i n3
  split
  · rename_i h4
    split
    · rename_i hl
      refine ⟨⟨⟨h.fine.il, h.fine.pne, h.fine.pl, h.fine.pr, by show (s.text ++ [b]).length ≤ 1024; rw [List.length_append, List.length_singleton]; omega, h.fine.st, h.fine.e1⟩, h.np, fun c hc => ?_, h.i1, h.i2, h.f6, h.dg, h.dh⟩, hnil, ?_⟩
      · have hc' : c ∈ s.text ++ [b] := hc
        rcases List.mem_append.1 hc' with hc | hc
        · exact h.tx c hc
        · rw [List.mem_singleton] at hc; subst hc; exact h32
      · show 0 + s.owes ≤ _; omega
    · exact ⟨h, hnil, by simp only [List.length_nil]; omega⟩
  rename_i n4
  split
  · exact ⟨h, hnil, by simp only [List.length_nil]; omega⟩
  rename_i n7
  have h0 : s.state = 0 := by have := h.fine.st; omega
  have hx := hb (htx (by omega) (by omega) (by omega))
  obtain ⟨g1, g2, g3⟩ := feed_good s.dec (b.toNat : Int) h.dg (by omega) (byte_le b)
  unfold PSt.fed
  refine ⟨good_dec h _ g1 (fun _ => h0), fun a ha => ?_, ?_⟩
  · obtain ⟨r, hr, rfl⟩ := List.mem_map.1 ha
    exact pr_ok (g2 h32 hx.1 r hr)
  · simp only [List.length_map, PSt.owes]
    rw [if_neg (show ¬ (s.state = 4 ∨ s.state = 6) by omega)]
    omega
theorem step_good {s : PSt} (b : UInt8) (h : s.Good) : (s.step b).1.Good ∧ (∀ a ∈ (s.step b).2, AOk a) ∧ (s.step b).2.length + (s.step b).1.owes ≤ 1 + s.owes := by
  obtain ⟨g1, g2, g3, g4⟩ := any1_good b h
  unfold PSt.step
  split
  · rename_i ht
    exact ⟨g1, g2, g3 ht⟩
  · rename_i hf
    obtain ⟨k1, k2, k3, k4⟩ := g4 (by simpa using hf)
    obtain ⟨t1, t2, t3⟩ := took_good b g1 k3 k4
    rw [k1, List.nil_append]
    exact ⟨t1, t2, by dsimp only; omega⟩
end Go.Proofs.YtlfdgkiliegaiaaGreatDoor

/- Walks of mullionref5: digits, head, One, Print. -/
namespace Go.Proofs.YtlfdgkiliegaiaaGreatDoor
open Go.RowKit

/-- The reference's digits. -/
theorem itoa_of (n : Nat) : Lib.itoa (n : Int) = Lib.decDigits n := Lib.itoa_nonneg n
theorem dec_step (n : Nat) (h : ¬ n < 10) : Lib.decDigits n = Lib.decDigits (n / 10) ++ [UInt8.ofNat (48 + n % 10)] := by
  rw [Lib.decDigits, dif_neg h]
end Go.Proofs.YtlfdgkiliegaiaaGreatDoor

/- Package vtparse, plain: what is told, written down, tells itself again. -/
namespace Go.Proofs.YtlfdgkiliegaiaaGreatDoor
open Go.RowKit

theorem step_took {s : PSt} {b : UInt8} (h32 : 32 ≤ (b.toNat : Int)) (hx : s.texts = true ∨ (b.toNat : Int) < 127 ∨ (s.state = 0 ∧ (b.toNat : Int) ≠ 127)) : s.step b = s.took b := by
  have e : s.any1 b = (false, s, []) := by
    unfold PSt.any1
    rw [if_neg (by omega), if_neg (by omega), if_neg (by omega)]
    rw [if_neg (by
      rintro (⟨h1, h2⟩ | ⟨h1, h2⟩)
      · rcases hx with hx | hx | hx
        · rw [h2] at hx; simp at hx
        · omega
        · omega
      · omega)]
    rw [if_neg (by omega)]
    split
    · rename_i h
      rcases hx with hx | hx | hx
      · rw [h.2] at hx; simp at hx
      · omega
      · rw [if_pos hx.1]
    · rfl
  unfold PSt.step
  rw [e]
  simp
theorem run_cons {s s1 : PSt} {b : UInt8} {l : List UInt8} {A : List VAct} (h : s.step b = (s1, A)) : s.run (b :: l) = ((s1.run l).1, A ++ (s1.run l).2) := by
  show (((s.step b).1.run l).1, (s.step b).2 ++ ((s.step b).1.run l).2) = _
  rw [h]
theorem run_then {s s1 : PSt} {l m : List UInt8} {A : List VAct} (h : s.run l = (s1, A)) : s.run (l ++ m) = ((s1.run m).1, A ++ (s1.run m).2) := by
  rw [run_append, h]
/-- Nothing has begun. -/
def PSt.Clear (s : PSt) : Prop := s.state = 0 ∧ s.dec.hav = 0
/-- ESC, from a state in which nothing is told by it. -/
theorem esc_first {s : PSt} (hs : s.Clear) : ∃ s1, s.step 27 = (s1, []) ∧ s1.state = 1 ∧ s1.inter = [] ∧ s1.params = [] ∧ s1.any = false ∧ s1.text = [] ∧ s1.ended = false ∧ s1.dec.hav = 0 := by
  have ht : s.texts = false := by unfold PSt.texts; rw [hs.1]; rfl
  have hd : endD s.dec = (s.dec, []) := by unfold endD; rw [if_pos hs.2]
  have hend : s.endActs = [] := by unfold PSt.endActs; rw [hs.1]; rfl
  have ea : s.any1 27 = (true, { ({ s with dec := s.dec } : PSt).begun 1 with ended := s.texts }, []) := by
    unfold PSt.any1
    rw [if_neg (by decide), if_pos (by decide), hd, hend]
    rfl
  refine ⟨{ ({ s with dec := s.dec } : PSt).begun 1 with ended := s.texts }, ?_, rfl, rfl, rfl, rfl, rfl, ht, hs.2⟩
  unfold PSt.step
  rw [ea]; rfl
theorem btwn {b : UInt8} : betweenL (b.toNat : Int) = true ↔ 32 ≤ (b.toNat : Int) ∧ (b.toNat : Int) ≤ 47 := by
  unfold betweenL; simp
theorem btwn_not {b : UInt8} (h : 48 ≤ (b.toNat : Int)) : betweenL (b.toNat : Int) = false := by
  unfold betweenL; simp; omega
end Go.Proofs.YtlfdgkiliegaiaaGreatDoor
