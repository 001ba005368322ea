/- Package grid, texts laid together: K25 K26 A4 A5 K27 Z10 Z11 K29. -/
import Derived.Test.YtlfdgkiliegaiaaGreatDoorY18
import Derived.Test.YtlfdgkiliegaiaaGreatDoorY7
import Derived.Test.YtlfdgkiliegaiaaGreatDoorY2
import Derived.Laws.Cover4
import Derived.Lib.OthersKept
import Derived.Deep.LoopGhost
import Derived.Test.YtlfdgkiliegaiaaGreatDoorY1
import Derived.Test.YtlfdgkiliegaiaaGreatDoorY5
import Derived.Test.YtlfdgkiliegaiaaGreatDoorY14
/- Walks of package screen: control sequences with a sign between. -/
namespace Go.Proofs.YtlfdgkiliegaiaaGreatDoor
open Go.RowKit
set_option maxRecDepth 100000

set_option maxHeartbeats 4000000 in
theorem csi33_any {B : World} {C : Nat → Nat} {p c r : Nat} {w : World} {s : Scr} {ps : PSt} (h : SR B C p w s ps) (hok : s.Ok c r) (a : VAct) (v : Value) (hv : Apart C w v a.params) (ho : s.out.length ≤ 100000) (hi : a.inter = ⟨#[33]⟩) (hlast : -2147483648 ≤ s.last ∧ s.last ≤ 2147483647) :
    Calls Tryz.prog 111 #[.pointer (some ⟨p, 0, none⟩), a.val v] w fun e w' => e = .returned (.tuple #[]) ∧ Does B C p w w' (s.csi a.byte a.params [33]) ps := by
  have hbx := boxed_new h hv
  have hbb := (Below.refl w.heap.size w).alloc (Nat.le_refl _) (.cells (a.cells v).toArray 75)
  unfold VAct.cells at hbb
  have HR := Lib.hid (h.below hbb)
  have HP := Lib.hid ((Pre.refl C w).below hbb)
  have HBX := Lib.hid hbx
  have HOK := Lib.hid hok
  have HOL := Lib.hid (show s.out.length ≤ 1000000 by omega)
  have HOS := Lib.hid ho
  have HLA := Lib.hid hlast
  clear hbx hbb hv h hok ho hlast
  unfold VAct.val
  obtain ⟨A, hA⟩ : ∃ A, A = w.heap.size := ⟨_, rfl⟩
  rw [← hA] at HBX
  have HB := Lib.hid (show Boxed a v A C (w.alloc (.cells #[.int .i64 a.kind, .int .i32 a.rune, .int .u8 (a.byte.toNat : Int), v, .string a.inter, .string a.text] 75)) from HBX.out)
  clear HBX
  have a0 : (w.alloc (.cells #[.int .i64 a.kind, .int .i32 a.rune, .int .u8 (a.byte.toNat : Int), v, .string a.inter, .string a.text] 75)).cell? ⟨A, 0, none⟩ = some (.int .i64 a.kind) := blk_cell HB.out.blk 0
  have a1 : (w.alloc (.cells #[.int .i64 a.kind, .int .i32 a.rune, .int .u8 (a.byte.toNat : Int), v, .string a.inter, .string a.text] 75)).cell? ⟨A, 1, none⟩ = some (.int .i32 a.rune) := blk_cell HB.out.blk 1
  have a2 : (w.alloc (.cells #[.int .i64 a.kind, .int .i32 a.rune, .int .u8 (a.byte.toNat : Int), v, .string a.inter, .string a.text] 75)).cell? ⟨A, 2, none⟩ = some (.int .u8 (a.byte.toNat : Int)) := blk_cell HB.out.blk 2
  have a3 : (w.alloc (.cells #[.int .i64 a.kind, .int .i32 a.rune, .int .u8 (a.byte.toNat : Int), v, .string a.inter, .string a.text] 75)).cell? ⟨A, 3, none⟩ = some (v) := blk_cell HB.out.blk 3
  have a4 : (w.alloc (.cells #[.int .i64 a.kind, .int .i32 a.rune, .int .u8 (a.byte.toNat : Int), v, .string a.inter, .string a.text] 75)).cell? ⟨A, 4, none⟩ = some (.string a.inter) := blk_cell HB.out.blk 4
  have a5 : (w.alloc (.cells #[.int .i64 a.kind, .int .i32 a.rune, .int .u8 (a.byte.toNat : Int), v, .string a.inter, .string a.text] 75)).cell? ⟨A, 5, none⟩ = some (.string a.text) := blk_cell HB.out.blk 5
  rw [hA] at a0 a1 a2 a3 a4 a5
  rw [hi] at a0 a1 a2 a3 a4 a5 HR HP HB
  rw [hi]
  have HI := Lib.hid hi
  clear hi
  go_enter Tryz.func111, Tryz.ntmps111
  go_upto_if 65 with fail
  rw [← hA]
  rw [← hA] at a0 a1 a2 a3 a4 a5
  clear hA
  generalize (w.alloc (.cells #[.int .i64 a.kind, .int .i32 a.rune, .int .u8 (a.byte.toNat : Int), v, .string ⟨#[33]⟩, .string a.text] 75)) = w1 at *
  by_cases h112 : (a.byte.toNat : Int) = 112
  · have e112 : ((a.byte.toNat : Int) == 112) = true := beq_iff_eq.2 h112
    have HE := Lib.hid (show s.csi a.byte a.params [33] = s.soft by unfold Scr.csi; dsimp only; rw [h112]; rfl)
    clear h112
    go_wp2_with fail
    refine (softS_any HR.out).mono ?_
    rintro e wc1 ⟨rfl, Cc1, hc1, pc1⟩
    have Hc1 := Lib.hid hc1
    have Pc1 := Lib.hid (HP.out.trans pc1)
    clear hc1 pc1
    go_wp2_with fail
    go_end0
    refine ⟨rfl, ?_⟩
    rw [HE.out]
    exact ⟨_, Hc1.out, Pc1.out⟩
  · have e112 : ((a.byte.toNat : Int) == 112) = false := beq_eq_false_iff_ne.2 h112
    have HE := Lib.hid (show s.csi a.byte a.params [33] = s by unfold Scr.csi; dsimp only; rw [if_neg (by decide), if_neg (by decide), if_pos rfl, if_neg h112])
    clear h112
    go_wp2_with fail
    go_end0
    refine ⟨rfl, ?_⟩
    rw [HE.out]
    exact ⟨_, HR.out, HP.out⟩
set_option maxHeartbeats 4000000 in
theorem csi63_any {B : World} {C : Nat → Nat} {p c r : Nat} {w : World} {s : Scr} {ps : PSt} (h : SR B C p w s ps) (hok : s.Ok c r) (a : VAct) (v : Value) (hv : Apart C w v a.params) (ho : s.out.length ≤ 100000) (hi : a.inter = ⟨#[63]⟩) (hlast : -2147483648 ≤ s.last ∧ s.last ≤ 2147483647) :
    Calls Tryz.prog 111 #[.pointer (some ⟨p, 0, none⟩), a.val v] w fun e w' => e = .returned (.tuple #[]) ∧ Does B C p w w' (s.csi a.byte a.params [63]) ps := by
  have hbx := boxed_new h hv
  have hbb := (Below.refl w.heap.size w).alloc (Nat.le_refl _) (.cells (a.cells v).toArray 75)
  unfold VAct.cells at hbb
  have HR := Lib.hid (h.below hbb)
  have HP := Lib.hid ((Pre.refl C w).below hbb)
  have HBX := Lib.hid hbx
  have HOK := Lib.hid hok
  have HOL := Lib.hid (show s.out.length ≤ 1000000 by omega)
  have HOS := Lib.hid ho
  have HLA := Lib.hid hlast
  clear hbx hbb hv h hok ho hlast
  unfold VAct.val
  obtain ⟨A, hA⟩ : ∃ A, A = w.heap.size := ⟨_, rfl⟩
  rw [← hA] at HBX
  have HB := Lib.hid (show Boxed a v A C (w.alloc (.cells #[.int .i64 a.kind, .int .i32 a.rune, .int .u8 (a.byte.toNat : Int), v, .string a.inter, .string a.text] 75)) from HBX.out)
  clear HBX
  have a0 : (w.alloc (.cells #[.int .i64 a.kind, .int .i32 a.rune, .int .u8 (a.byte.toNat : Int), v, .string a.inter, .string a.text] 75)).cell? ⟨A, 0, none⟩ = some (.int .i64 a.kind) := blk_cell HB.out.blk 0
  have a1 : (w.alloc (.cells #[.int .i64 a.kind, .int .i32 a.rune, .int .u8 (a.byte.toNat : Int), v, .string a.inter, .string a.text] 75)).cell? ⟨A, 1, none⟩ = some (.int .i32 a.rune) := blk_cell HB.out.blk 1
  have a2 : (w.alloc (.cells #[.int .i64 a.kind, .int .i32 a.rune, .int .u8 (a.byte.toNat : Int), v, .string a.inter, .string a.text] 75)).cell? ⟨A, 2, none⟩ = some (.int .u8 (a.byte.toNat : Int)) := blk_cell HB.out.blk 2
  have a3 : (w.alloc (.cells #[.int .i64 a.kind, .int .i32 a.rune, .int .u8 (a.byte.toNat : Int), v, .string a.inter, .string a.text] 75)).cell? ⟨A, 3, none⟩ = some (v) := blk_cell HB.out.blk 3
  have a4 : (w.alloc (.cells #[.int .i64 a.kind, .int .i32 a.rune, .int .u8 (a.byte.toNat : Int), v, .string a.inter, .string a.text] 75)).cell? ⟨A, 4, none⟩ = some (.string a.inter) := blk_cell HB.out.blk 4
  have a5 : (w.alloc (.cells #[.int .i64 a.kind, .int .i32 a.rune, .int .u8 (a.byte.toNat : Int), v, .string a.inter, .string a.text] 75)).cell? ⟨A, 5, none⟩ = some (.string a.text) := blk_cell HB.out.blk 5
  rw [hA] at a0 a1 a2 a3 a4 a5
  rw [hi] at a0 a1 a2 a3 a4 a5 HR HP HB
  rw [hi]
  have HI := Lib.hid hi
  clear hi
  go_enter Tryz.func111, Tryz.ntmps111
  go_upto_region 11 with fail
  rw [← hA]
  rw [← hA] at a0 a1 a2 a3 a4 a5
  clear hA
  generalize (w.alloc (.cells #[.int .i64 a.kind, .int .i32 a.rune, .int .u8 (a.byte.toNat : Int), v, .string ⟨#[63]⟩, .string a.text] 75)) = w1 at *
  have HNU := HR.out.nums HOK.out
  have HCR := Lib.hid (show 1 ≤ c ∧ 1 ≤ r from ⟨by rw [(HNU.ok HOK.out).1]; exact HNU.c1, by rw [(HNU.ok HOK.out).2]; exact HNU.r1⟩)
  clear HNU
  by_cases h104 : (a.byte.toNat : Int) = 104
  · have e104 : ((a.byte.toNat : Int) == 104) = true := beq_iff_eq.2 h104
    have e108 : ((a.byte.toNat : Int) == 108) = false := beq_eq_false_iff_ne.2 (by omega)
    have HE := Lib.hid (show s.csi a.byte a.params [63] = (List.range a.params.length).foldl (fun t i => t.private (par a.params i 0) true) s by
      unfold Scr.csi
      dsimp only
      rw [if_neg (by decide), if_pos rfl, if_pos (show (a.byte.toNat : Int) = 104 ∨ (a.byte.toNat : Int) = 108 by omega), show ((a.byte.toNat : Int) == 104) = true from beq_iff_eq.2 h104])
    obtain ⟨L, hL⟩ : ∃ L, L = a.params.length := ⟨_, rfl⟩
    have hlen := rd_len Tryz.underlying63 HB.out.ap.rd
    rw [← hL] at HE hlen
    have HL := Lib.hid hL
    have hsm := Lib.hid (rd_small HB.out.ap.rd)
    clear hL
    clear h104
    go_wp2_with fail
    go_loopw [49] (fun iv wr => ∃ (i : Nat) (C2 : Nat → Nat) (t : Scr), iv = .int .i64 i ∧ i ≤ L ∧ Hid (t = (List.range i).foldl (fun t i => t.private (par a.params i 0) true) s) ∧ Hid (SR B C2 p wr t ps) ∧ Hid (t.Ok c r) ∧ Hid (Boxed a v A C2 wr) ∧ Hid (Pre C w C2 wr)) (fun iv _ => L - (intOf iv).toNat)
    case atStart => exact ⟨0, C, s, rfl, Nat.zero_le _, Lib.hid rfl, HR, HOK, HB, HP⟩
    case round =>
      obtain ⟨i, C2, t, rfl, hi, HT, H2, HO2, HB2, P2⟩ := hrel
      clear a0 a1 a2 a3 a4 a5
      have a0 : wr.cell? ⟨A, 0, none⟩ = some (.int .i64 a.kind) := blk_cell HB2.out.blk 0
      have a1 : wr.cell? ⟨A, 1, none⟩ = some (.int .i32 a.rune) := blk_cell HB2.out.blk 1
      have a2 : wr.cell? ⟨A, 2, none⟩ = some (.int .u8 (a.byte.toNat : Int)) := blk_cell HB2.out.blk 2
      have a3 : wr.cell? ⟨A, 3, none⟩ = some (v) := blk_cell HB2.out.blk 3
      have a4 : wr.cell? ⟨A, 4, none⟩ = some (.string a.inter) := blk_cell HB2.out.blk 4
      have a5 : wr.cell? ⟨A, 5, none⟩ = some (.string a.text) := blk_cell HB2.out.blk 5
      rw [HI.out] at a4
      by_cases hlt : i < L
      rotate_left
      · obtain rfl : i = L := by omega
        have HD := Lib.hid (show Does B C p w wr (s.csi a.byte a.params [63]) ps by rw [HE.out, ← HT.out]; exact ⟨C2, H2.out, P2.out⟩)
        go_wp2_with fail
        go_end0
        exact ⟨rfl, HD.out⟩
      have HFS := Lib.hid (show (List.range (i + 1)).foldl (fun t i => t.private (par a.params i 0) true) s = t.private (par a.params i 0) true by rw [List.range_succ, List.foldl_append, HT.out]; rfl)
      have hw1 : IntKind.i64.wrap ((i : Int) + 1) = (i : Int) + 1 := by have := hsm.out; have := HL.out; exact wrap64_id _ (by omega) (by omega)
      have HI4 := Lib.hid (show (some (Value.string a.inter)) = some (.string ⟨#[63]⟩) by rw [HI.out])
      have HPA := Lib.hid (param_any a v wr.drew (HB2.out.below (Below.refl _ _).drew).ap.rd i 0)
      unfold VAct.val at HPA
      rw [HI.out] at HPA
      go_upto_region 15 with fail
      refine wpL_begin (c := 7) (S := (fun bb w' => (w'.cell? ⟨A, 0, none⟩ = some (.int .i64 a.kind) ∧ w'.cell? ⟨A, 1, none⟩ = some (.int .i32 a.rune) ∧ w'.cell? ⟨A, 2, none⟩ = some (.int .u8 (a.byte.toNat : Int)) ∧ w'.cell? ⟨A, 3, none⟩ = some (v) ∧ w'.cell? ⟨A, 4, none⟩ = some (.string ⟨#[63]⟩) ∧ w'.cell? ⟨A, 5, none⟩ = some (.string a.text)) ∧ (bb = false → True))) (by kernel_rfl) (⟨⟨a0, a1, a2, a3, a4, a5⟩, fun _ => trivial⟩) (fun _ => ?_)
      refine wpL_tk false 0 (⟨⟨a0, a1, a2, a3, a4, a5⟩, fun _ => trivial⟩) ?_
      refine wpL_tk false 1 (⟨⟨a0, a1, a2, a3, a4, a5⟩, fun _ => trivial⟩) ?_
      refine wpL_tk false 2 (⟨⟨a0, a1, a2, a3, a4, a5⟩, fun _ => trivial⟩) ?_
      refine wpL_tk false 4 (⟨⟨a0, a1, a2, a3, a4, a5⟩, fun _ => trivial⟩) ?_
      refine wpL_tk false 5 (⟨⟨a0, a1, a2, a3, a4, a5⟩, fun _ => trivial⟩) ?_
      refine wpL_tk false 6 (⟨⟨a0, a1, a2, a3, a4, a5⟩, fun _ => trivial⟩) ?_
      refine wpL_on false 3 fun K hK => ?_
      refine wanted_on rfl ?_
      go_wp2_with fail
      refine HPA.out.mono ?_
      rintro e w4 ⟨rfl, b4⟩
      have HR4 := Lib.hid ((H2.out.below (Below.refl _ _).drew).below b4)
      have HB4 := Lib.hid ((HB2.out.below (Below.refl _ _).drew).below b4)
      have HP4 := Lib.hid ((P2.out.below (Below.refl _ _).drew).below b4)
      refine hK.out _ _ (⟨⟨blk_cell HB4.out.blk 0, blk_cell HB4.out.blk 1, blk_cell HB4.out.blk 2, blk_cell HB4.out.blk 3, (blk_cell HB4.out.blk 4).trans HI4.out, blk_cell HB4.out.blk 5⟩, fun _ => trivial⟩) (fun _ => ?_)
      clear hK K b4
      try simp only [Act.put, List.setIfInBounds_toArray, List.set_cons_zero, List.set_cons_succ]
      refine wpL_on true 7 fun K hK => ?_
      refine wanted_on rfl ?_
      go_wp2_with fail
      refine (privateS_any HR4.out HO2.out (par a.params i 0) true).mono ?_
      rintro e w7 ⟨rfl, C7, h7, p7⟩
      have HB7 := Lib.hid (HB4.out.next p7)
      have HR7 := Lib.hid h7
      have HP7 := Lib.hid (HP4.out.trans p7)
      refine hK.out _ _ (⟨⟨blk_cell HB7.out.blk 0, blk_cell HB7.out.blk 1, blk_cell HB7.out.blk 2, blk_cell HB7.out.blk 3, (blk_cell HB7.out.blk 4).trans HI4.out, blk_cell HB7.out.blk 5⟩, fun e => by cases e⟩) (fun _ => ?_)
      clear hK K h7 p7
      try simp only [Act.put, List.setIfInBounds_toArray, List.set_cons_zero, List.set_cons_succ]
      refine wpL_done (by kernel_rfl) ?_ _
      go_wp2_with fail
      go_roundw
      case rel => exact ⟨i + 1, C7, t.private (par a.params i 0) true, by go_num, by omega, Lib.hid HFS.out.symm, HR7, Lib.hid (HO2.out.private HCR.out.1 HCR.out.2 _ _), HB7, HP7⟩
      case measure => simp [intOf]; omega
  by_cases h108 : (a.byte.toNat : Int) = 108
  · have e104 : ((a.byte.toNat : Int) == 104) = false := beq_eq_false_iff_ne.2 (by omega)
    have e108 : ((a.byte.toNat : Int) == 108) = true := beq_iff_eq.2 h108
    have HE := Lib.hid (show s.csi a.byte a.params [63] = (List.range a.params.length).foldl (fun t i => t.private (par a.params i 0) false) s by
      unfold Scr.csi
      dsimp only
      rw [if_neg (by decide), if_pos rfl, if_pos (show (a.byte.toNat : Int) = 104 ∨ (a.byte.toNat : Int) = 108 by omega), show ((a.byte.toNat : Int) == 104) = false from beq_eq_false_iff_ne.2 h104])
    obtain ⟨L, hL⟩ : ∃ L, L = a.params.length := ⟨_, rfl⟩
    have hlen := rd_len Tryz.underlying63 HB.out.ap.rd
    rw [← hL] at HE hlen
    have HL := Lib.hid hL
    have hsm := Lib.hid (rd_small HB.out.ap.rd)
    clear hL
    clear h104 h108
    go_wp2_with fail
    go_loopw [49] (fun iv wr => ∃ (i : Nat) (C2 : Nat → Nat) (t : Scr), iv = .int .i64 i ∧ i ≤ L ∧ Hid (t = (List.range i).foldl (fun t i => t.private (par a.params i 0) false) s) ∧ Hid (SR B C2 p wr t ps) ∧ Hid (t.Ok c r) ∧ Hid (Boxed a v A C2 wr) ∧ Hid (Pre C w C2 wr)) (fun iv _ => L - (intOf iv).toNat)
    case atStart => exact ⟨0, C, s, rfl, Nat.zero_le _, Lib.hid rfl, HR, HOK, HB, HP⟩
    case round =>
      obtain ⟨i, C2, t, rfl, hi, HT, H2, HO2, HB2, P2⟩ := hrel
      clear a0 a1 a2 a3 a4 a5
      have a0 : wr.cell? ⟨A, 0, none⟩ = some (.int .i64 a.kind) := blk_cell HB2.out.blk 0
      have a1 : wr.cell? ⟨A, 1, none⟩ = some (.int .i32 a.rune) := blk_cell HB2.out.blk 1
      have a2 : wr.cell? ⟨A, 2, none⟩ = some (.int .u8 (a.byte.toNat : Int)) := blk_cell HB2.out.blk 2
      have a3 : wr.cell? ⟨A, 3, none⟩ = some (v) := blk_cell HB2.out.blk 3
      have a4 : wr.cell? ⟨A, 4, none⟩ = some (.string a.inter) := blk_cell HB2.out.blk 4
      have a5 : wr.cell? ⟨A, 5, none⟩ = some (.string a.text) := blk_cell HB2.out.blk 5
      rw [HI.out] at a4
      by_cases hlt : i < L
      rotate_left
      · obtain rfl : i = L := by omega
        have HD := Lib.hid (show Does B C p w wr (s.csi a.byte a.params [63]) ps by rw [HE.out, ← HT.out]; exact ⟨C2, H2.out, P2.out⟩)
        go_wp2_with fail
        go_end0
        exact ⟨rfl, HD.out⟩
      have HFS := Lib.hid (show (List.range (i + 1)).foldl (fun t i => t.private (par a.params i 0) false) s = t.private (par a.params i 0) false by rw [List.range_succ, List.foldl_append, HT.out]; rfl)
      have hw1 : IntKind.i64.wrap ((i : Int) + 1) = (i : Int) + 1 := by have := hsm.out; have := HL.out; exact wrap64_id _ (by omega) (by omega)
      have HI4 := Lib.hid (show (some (Value.string a.inter)) = some (.string ⟨#[63]⟩) by rw [HI.out])
      have HPA := Lib.hid (param_any a v wr.drew (HB2.out.below (Below.refl _ _).drew).ap.rd i 0)
      unfold VAct.val at HPA
      rw [HI.out] at HPA
      go_upto_region 15 with fail
      refine wpL_begin (c := 7) (S := (fun bb w' => (w'.cell? ⟨A, 0, none⟩ = some (.int .i64 a.kind) ∧ w'.cell? ⟨A, 1, none⟩ = some (.int .i32 a.rune) ∧ w'.cell? ⟨A, 2, none⟩ = some (.int .u8 (a.byte.toNat : Int)) ∧ w'.cell? ⟨A, 3, none⟩ = some (v) ∧ w'.cell? ⟨A, 4, none⟩ = some (.string ⟨#[63]⟩) ∧ w'.cell? ⟨A, 5, none⟩ = some (.string a.text)) ∧ (bb = false → True))) (by kernel_rfl) (⟨⟨a0, a1, a2, a3, a4, a5⟩, fun _ => trivial⟩) (fun _ => ?_)
      refine wpL_tk false 0 (⟨⟨a0, a1, a2, a3, a4, a5⟩, fun _ => trivial⟩) ?_
      refine wpL_tk false 1 (⟨⟨a0, a1, a2, a3, a4, a5⟩, fun _ => trivial⟩) ?_
      refine wpL_tk false 2 (⟨⟨a0, a1, a2, a3, a4, a5⟩, fun _ => trivial⟩) ?_
      refine wpL_tk false 4 (⟨⟨a0, a1, a2, a3, a4, a5⟩, fun _ => trivial⟩) ?_
      refine wpL_tk false 5 (⟨⟨a0, a1, a2, a3, a4, a5⟩, fun _ => trivial⟩) ?_
      refine wpL_tk false 6 (⟨⟨a0, a1, a2, a3, a4, a5⟩, fun _ => trivial⟩) ?_
      refine wpL_on false 3 fun K hK => ?_
      refine wanted_on rfl ?_
      go_wp2_with fail
      refine HPA.out.mono ?_
      rintro e w4 ⟨rfl, b4⟩
      have HR4 := Lib.hid ((H2.out.below (Below.refl _ _).drew).below b4)
      have HB4 := Lib.hid ((HB2.out.below (Below.refl _ _).drew).below b4)
      have HP4 := Lib.hid ((P2.out.below (Below.refl _ _).drew).below b4)
      refine hK.out _ _ (⟨⟨blk_cell HB4.out.blk 0, blk_cell HB4.out.blk 1, blk_cell HB4.out.blk 2, blk_cell HB4.out.blk 3, (blk_cell HB4.out.blk 4).trans HI4.out, blk_cell HB4.out.blk 5⟩, fun _ => trivial⟩) (fun _ => ?_)
      clear hK K b4
      try simp only [Act.put, List.setIfInBounds_toArray, List.set_cons_zero, List.set_cons_succ]
      refine wpL_on true 7 fun K hK => ?_
      refine wanted_on rfl ?_
      go_wp2_with fail
      refine (privateS_any HR4.out HO2.out (par a.params i 0) false).mono ?_
      rintro e w7 ⟨rfl, C7, h7, p7⟩
      have HB7 := Lib.hid (HB4.out.next p7)
      have HR7 := Lib.hid h7
      have HP7 := Lib.hid (HP4.out.trans p7)
      refine hK.out _ _ (⟨⟨blk_cell HB7.out.blk 0, blk_cell HB7.out.blk 1, blk_cell HB7.out.blk 2, blk_cell HB7.out.blk 3, (blk_cell HB7.out.blk 4).trans HI4.out, blk_cell HB7.out.blk 5⟩, fun e => by cases e⟩) (fun _ => ?_)
      clear hK K h7 p7
      try simp only [Act.put, List.setIfInBounds_toArray, List.set_cons_zero, List.set_cons_succ]
      refine wpL_done (by kernel_rfl) ?_ _
      go_wp2_with fail
      go_roundw
      case rel => exact ⟨i + 1, C7, t.private (par a.params i 0) false, by go_num, by omega, Lib.hid HFS.out.symm, HR7, Lib.hid (HO2.out.private HCR.out.1 HCR.out.2 _ _), HB7, HP7⟩
      case measure => simp [intOf]; omega
  have e104 : ((a.byte.toNat : Int) == 104) = false := beq_eq_false_iff_ne.2 h104
  have e108 : ((a.byte.toNat : Int) == 108) = false := beq_eq_false_iff_ne.2 h108
  have HE := Lib.hid (show s.csi a.byte a.params [63] = s by unfold Scr.csi; dsimp only; rw [if_neg (by decide), if_pos rfl, if_neg (by omega)])
  clear h104 h108
  go_wp2_with fail
  go_end0
  refine ⟨rfl, ?_⟩
  rw [HE.out]
  exact ⟨_, HR.out, HP.out⟩
end Go.Proofs.YtlfdgkiliegaiaaGreatDoor

/- Walks of package screen: any control sequence. -/
namespace Go.Proofs.YtlfdgkiliegaiaaGreatDoor
open Go.RowKit
set_option maxRecDepth 100000

set_option maxHeartbeats 4000000 in
theorem csi62_any {B : World} {C : Nat → Nat} {p c r : Nat} {w : World} {s : Scr} {ps : PSt} (h : SR B C p w s ps) (hok : s.Ok c r) (a : VAct) (v : Value) (hv : Apart C w v a.params) (ho : s.out.length ≤ 100000) (hi : a.inter = ⟨#[62]⟩) (hlast : -2147483648 ≤ s.last ∧ s.last ≤ 2147483647) :
    Calls Tryz.prog 111 #[.pointer (some ⟨p, 0, none⟩), a.val v] w fun e w' => e = .returned (.tuple #[]) ∧ Does B C p w w' (s.csi a.byte a.params [62]) ps := by
  have hbx := boxed_new h hv
  have hbb := (Below.refl w.heap.size w).alloc (Nat.le_refl _) (.cells (a.cells v).toArray 75)
  unfold VAct.cells at hbb
  have HR := Lib.hid (h.below hbb)
  have HP := Lib.hid ((Pre.refl C w).below hbb)
  have HBX := Lib.hid hbx
  have HOK := Lib.hid hok
  have HOL := Lib.hid (show s.out.length ≤ 1000000 by omega)
  have HOS := Lib.hid ho
  have HLA := Lib.hid hlast
  clear hbx hbb hv h hok ho hlast
  unfold VAct.val
  obtain ⟨A, hA⟩ : ∃ A, A = w.heap.size := ⟨_, rfl⟩
  rw [← hA] at HBX
  have HB := Lib.hid (show Boxed a v A C (w.alloc (.cells #[.int .i64 a.kind, .int .i32 a.rune, .int .u8 (a.byte.toNat : Int), v, .string a.inter, .string a.text] 75)) from HBX.out)
  clear HBX
  have a0 : (w.alloc (.cells #[.int .i64 a.kind, .int .i32 a.rune, .int .u8 (a.byte.toNat : Int), v, .string a.inter, .string a.text] 75)).cell? ⟨A, 0, none⟩ = some (.int .i64 a.kind) := blk_cell HB.out.blk 0
  have a1 : (w.alloc (.cells #[.int .i64 a.kind, .int .i32 a.rune, .int .u8 (a.byte.toNat : Int), v, .string a.inter, .string a.text] 75)).cell? ⟨A, 1, none⟩ = some (.int .i32 a.rune) := blk_cell HB.out.blk 1
  have a2 : (w.alloc (.cells #[.int .i64 a.kind, .int .i32 a.rune, .int .u8 (a.byte.toNat : Int), v, .string a.inter, .string a.text] 75)).cell? ⟨A, 2, none⟩ = some (.int .u8 (a.byte.toNat : Int)) := blk_cell HB.out.blk 2
  have a3 : (w.alloc (.cells #[.int .i64 a.kind, .int .i32 a.rune, .int .u8 (a.byte.toNat : Int), v, .string a.inter, .string a.text] 75)).cell? ⟨A, 3, none⟩ = some (v) := blk_cell HB.out.blk 3
  have a4 : (w.alloc (.cells #[.int .i64 a.kind, .int .i32 a.rune, .int .u8 (a.byte.toNat : Int), v, .string a.inter, .string a.text] 75)).cell? ⟨A, 4, none⟩ = some (.string a.inter) := blk_cell HB.out.blk 4
  have a5 : (w.alloc (.cells #[.int .i64 a.kind, .int .i32 a.rune, .int .u8 (a.byte.toNat : Int), v, .string a.inter, .string a.text] 75)).cell? ⟨A, 5, none⟩ = some (.string a.text) := blk_cell HB.out.blk 5
  rw [hA] at a0 a1 a2 a3 a4 a5
  rw [hi] at a0 a1 a2 a3 a4 a5 HR HP HB
  rw [hi]
  have HI := Lib.hid hi
  clear hi
  go_enter Tryz.func111, Tryz.ntmps111
  go_upto_if 68 with fail
  rw [← hA]
  rw [← hA] at a0 a1 a2 a3 a4 a5
  clear hA
  generalize (w.alloc (.cells #[.int .i64 a.kind, .int .i32 a.rune, .int .u8 (a.byte.toNat : Int), v, .string ⟨#[62]⟩, .string a.text] 75)) = w1 at *
  by_cases h99 : (a.byte.toNat : Int) = 99
  rotate_left
  · have e99 : ((a.byte.toNat : Int) == 99) = false := beq_eq_false_iff_ne.2 h99
    have HE := Lib.hid (show s.csi a.byte a.params [62] = s by unfold Scr.csi; dsimp only; rw [if_neg (by decide), if_neg (by decide), if_neg (by decide), if_pos rfl, if_neg (fun e => h99 e.1)])
    clear h99
    go_wp2_with fail
    go_end0
    refine ⟨rfl, ?_⟩
    rw [HE.out]
    exact ⟨_, HR.out, HP.out⟩
  have e99 : ((a.byte.toNat : Int) == 99) = true := beq_iff_eq.2 h99
  have H99 := Lib.hid h99
  clear h99
  have HPA := Lib.hid (param_any a v w1 HB.out.ap.rd 0 0)
  unfold VAct.val at HPA
  rw [HI.out] at HPA
  go_wp2_with fail
  refine HPA.out.mono ?_
  rintro e w3 ⟨rfl, b3⟩
  have HR3 := Lib.hid (HR.out.below b3)
  have HP3 := Lib.hid (HP.out.below b3)
  clear b3 a0 a1 a2 a3 a4 a5
  by_cases hz : par a.params 0 0 = 0
  · have ez : (par a.params 0 0 == 0) = true := beq_iff_eq.2 hz
    have HE := Lib.hid (show s.csi a.byte a.params [62] = s.say [27, 91, 62, 48, 59, 49, 48, 59, 48, 99] by unfold Scr.csi; dsimp only; rw [if_neg (by decide), if_neg (by decide), if_neg (by decide), if_pos rfl, if_pos ⟨H99.out, hz⟩])
    clear hz
    go_wp2_with fail
    refine (sayS_any HR3.out ⟨#[27, 91, 62, 48, 59, 49, 48, 59, 48, 99]⟩ HOL.out (by decide)).mono ?_
    rintro e wc1 ⟨rfl, Cc1, hc1, pc1⟩
    have Hc1 := Lib.hid hc1
    have Pc1 := Lib.hid (HP3.out.trans pc1)
    clear hc1 pc1
    go_wp2_with fail
    go_end0
    refine ⟨rfl, ?_⟩
    rw [HE.out]
    exact ⟨_, Hc1.out, Pc1.out⟩
  · have ez : (par a.params 0 0 == 0) = false := beq_eq_false_iff_ne.2 hz
    have HE := Lib.hid (show s.csi a.byte a.params [62] = s by unfold Scr.csi; dsimp only; rw [if_neg (by decide), if_neg (by decide), if_neg (by decide), if_pos rfl, if_neg (fun e => hz e.2)])
    clear hz
    go_wp2_with fail
    go_end0
    refine ⟨rfl, ?_⟩
    rw [HE.out]
    exact ⟨_, HR3.out, HP3.out⟩
set_option maxHeartbeats 4000000 in
theorem csiS_any {B : World} {C : Nat → Nat} {p c r : Nat} {w : World} {s : Scr} {ps : PSt} (h : SR B C p w s ps) (hok : s.Ok c r) (a : VAct) (v : Value) (hv : Apart C w v a.params) (ho : s.out.length ≤ 100000) (hlast : -2147483648 ≤ s.last ∧ s.last ≤ 2147483647) :
    Calls Tryz.prog 111 #[.pointer (some ⟨p, 0, none⟩), a.val v] w fun e w' => e = .returned (.tuple #[]) ∧ Does B C p w w' (s.csi a.byte a.params a.inter.data.toList) ps := by
  by_cases hi0 : a.inter = ⟨#[]⟩
  · have := csi0_any h hok a v hv ho hi0 hlast
    rw [hi0]
    exact this
  by_cases hi63 : a.inter = ⟨#[63]⟩
  · have := csi63_any h hok a v hv ho hi63 hlast
    rw [hi63]
    exact this
  by_cases hi33 : a.inter = ⟨#[33]⟩
  · have := csi33_any h hok a v hv ho hi33 hlast
    rw [hi33]
    exact this
  by_cases hi62 : a.inter = ⟨#[62]⟩
  · have := csi62_any h hok a v hv ho hi62 hlast
    rw [hi62]
    exact this
  have hbb := (Below.refl w.heap.size w).alloc (Nat.le_refl _) (.cells (a.cells v).toArray 75)
  have hbx := blk_new w (.cells (a.cells v).toArray 75)
  unfold VAct.cells at hbb hbx
  have HR := Lib.hid (h.below hbb)
  have HP := Lib.hid ((Pre.refl C w).below hbb)
  have HE := Lib.hid (show s.csi a.byte a.params a.inter.data.toList = s by
    unfold Scr.csi
    dsimp only
    rw [if_neg (ba_neL [] hi0), if_neg (ba_neL [63] hi63), if_neg (ba_neL [33] hi33), if_neg (ba_neL [62] hi62)])
  have a4 : (w.alloc (.cells #[.int .i64 a.kind, .int .i32 a.rune, .int .u8 (a.byte.toNat : Int), v, .string a.inter, .string a.text] 75)).cell? ⟨w.heap.size, 4, none⟩ = some (.string a.inter) := blk_cell hbx 4
  have g63 := ba_eqF [63] hi63
  have g33 := ba_eqF [33] hi33
  have g62 := ba_eqF [62] hi62
  have g0 := ba_eqF [] hi0
  have g0' : a.inter.toList.isEmpty = false := by rw [← List.beq_nil_eq]; exact g0
  clear hbb hbx h hok hv ho hlast hi0 hi63 hi33 hi62
  unfold VAct.val
  go_enter Tryz.func111, Tryz.ntmps111
  go_wp2_with fail
  go_end0
  refine ⟨rfl, ?_⟩
  rw [HE.out]
  exact ⟨_, HR.out, HP.out⟩
end Go.Proofs.YtlfdgkiliegaiaaGreatDoor

/- Walks of package cell: Runes. -/
namespace Go.Proofs.YtlfdgkiliegaiaaGreatDoor
open Go.RowKit

set_option maxHeartbeats 1000000 in
theorem runes_any (s : ByteArray) (w : World) (hs : s.size ≤ 1099511627776) :
    Calls Tryz.prog 169 #[.string s] w fun e w' => ∃ v, e = .returned v ∧
      w'.ownsRow w.heap.size 21 1 v (runes s.data.toList).length ((runes s.data.toList).map (Value.int .i32)) ∧ Below w.heap.size w w' := by
  go_enter Tryz.func169, Tryz.ntmps169
  go_wp2_with fail
  refine (newDec_any _).mono ?_
  rintro e w1 ⟨rfl, rfl⟩
  go_wp2_with fail
  go_loopw [3, 9] (fun v i wr => ∃ k : Nat, k ≤ s.size ∧ i = .int .i64 k ∧ Below w.heap.size w wr ∧ w.heap.size < wr.heap.size ∧ DecAt wr w.heap.size (runD dec0 (s.data.toList.take k)).1 ∧
    wr.ownsRow (w.heap.size + 1) 21 1 v (runD dec0 (s.data.toList.take k)).2.length ((runD dec0 (s.data.toList.take k)).2.map (Value.int .i32))) (fun _ i _ => s.size - (intOf i).toNat)
  case atStart => exact ⟨0, by omega, rfl, (Below.refl _ _).alloc (Nat.le_refl _) _, by simp, heap_alloc_new _ _, World.ownsRow_nil _ _ _ _⟩
  case round =>
    obtain ⟨k, hk, rfl, hb, hsz, hd, hown⟩ := hrel
    have HB := Lib.hid hb
    have HD := Lib.hid hd
    have HO := Lib.hid hown
    clear hb hd hown
    by_cases hlt : k < s.size
    · have hlt' : k < s.data.toList.length := by simpa using hlt
      have hsnoc := take_succ_getD s.data.toList 0 k hlt'
      have Hrun := Lib.hid (runD_snoc (s.data.toList.take k) (s.data.toList.getD k 0) dec0)
      rw [← hsnoc] at Hrun
      clear hsnoc
      have hok := Lib.hid (runD_ok (s.data.toList.take k) dec0 dec0_ok)
      have hlen := runD_len (s.data.toList.take k) dec0
      have hbyte : s.data.toList.getD k 0 = s[k] := by
        rw [List.getD_eq_getElem?_getD, List.getElem?_eq_getElem hlt']; rfl
      rw [hbyte] at Hrun
      clear hbyte
      generalize runD dec0 (s.data.toList.take k) = D at *
      obtain ⟨D, out⟩ := D
      dsimp only at HD HO hok hlen Hrun
      go_wp2_with fail
      refine (feed_any _ D s[k].toNat _ HD.out (by omega) (byte_le _) hok.out).mono ?_
      rintro e w2 ⟨v2, rfl, h2, h3, h4⟩
      have H2 := Lib.hid h2
      have H3 := Lib.hid h3
      have H4 := Lib.hid h4
      clear h2 h3 h4
      go_wp2_with (at_builtin; refine held ?_)
      unfold Held
      have h5 := H3.out.size
      have h6 := feedD_len D s[k].toNat
      have h7 : (List.take k s.data.toList).length ≤ k := List.length_take_le _ _
      have HO2 := Lib.hid (HO.out.kept H3.out (by
        rcases HO.out.2 with ⟨hv, _⟩ | ⟨g, cap, cur, hv, hg, _⟩
        · left; rw [hv]; rfl
        · right; rw [hv]; simp only [Value.ownBlock, ne_eq, Option.some.injEq]; omega))
      refine wpList_app runes_elem rfl rfl (w.heap.size + 1) HO2.out rfl (reads_own H2.out) rfl (ints_oneCell _ _) (by unfold maxLen; omega) (by omega) (by omega) ?_
      intro v' w3 g1 g2
      have hv := HO2.out.lt
      have G1 := Lib.hid g1
      have G2 := Lib.hid g2
      have HV := Lib.hid hv
      clear g1 g2 hv
      go_wp2_with fail
      go_roundw
      case rel =>
        have gsz := G2.out.size
        refine ⟨k + 1, by omega, by go_num, ?_, by omega, ?_, ?_⟩
        · exact (HB.out.trans (below_of_gb H3.out (by omega) (by intro q hq; injection hq; omega))).trans (below_of_gb G2.out (by omega) (fun q hq => by have := (HV.out q hq).1; omega))
        · rw [Hrun.out]
          exact blk_grown (o := .cells _ 214 (0, 0)) H4.out G2.out (fun e => by have := (HV.out _ e.symm).1; omega)
        · rw [Hrun.out, List.length_append, List.map_append]
          exact G1.out
      case measure => simp [intOf]; omega
    · have hk' : k = s.size := by omega
      have Hk := Lib.hid (show List.take k s.data.toList = s.data.toList by rw [hk', List.take_of_length_le (by simp)])
      have hlen := runD_len (s.data.toList.take k) dec0
      rw [Hk.out] at HD HO hlen
      clear Hk hk'
      have Hrun := Lib.hid (show runes s.data.toList = (runD dec0 s.data.toList).2 ++ (endD (runD dec0 s.data.toList).1).2 from rfl)
      generalize runD dec0 s.data.toList = D at *
      obtain ⟨D, out⟩ := D
      dsimp only at HD HO hlen Hrun
      go_wp2_with fail
      refine (end_any _ D _ HD.out).mono ?_
      rintro e w2 ⟨v2, rfl, h2, h3, h4⟩
      have H2 := Lib.hid h2
      have H3 := Lib.hid h3
      clear h2 h3 h4
      go_wp2_with (at_builtin; refine held ?_)
      unfold Held
      have h5 := H3.out.size
      have h6 := endD_len D
      have h7 : s.data.toList.length = s.size := by simp
      have HO2 := Lib.hid (HO.out.kept H3.out (by
        rcases HO.out.2 with ⟨hv, _⟩ | ⟨g, cap, cur, hv, hg, _⟩
        · left; rw [hv]; rfl
        · right; rw [hv]; simp only [Value.ownBlock, ne_eq, Option.some.injEq]; omega))
      refine wpList_app runes_elem rfl rfl (w.heap.size + 1) HO2.out rfl (reads_own H2.out) rfl (ints_oneCell _ _) (by unfold maxLen; omega) (by omega) (by omega) ?_
      intro v' w3 g1 g2
      have hv := HO2.out.lt
      have G1 := Lib.hid g1
      have G2 := Lib.hid g2
      have HV := Lib.hid hv
      clear g1 g2 hv h7
      go_wp2_with fail
      refine ret1v rfl rfl rfl ⟨v', rfl, ?_, ?_⟩
      · rw [Hrun.out, List.length_append, List.map_append]
        exact own_mono G1.out (by omega)
      · exact (HB.out.trans (below_of_gb H3.out (by omega) (by intro q hq; injection hq; omega))).trans (below_of_gb G2.out (by omega) (fun q hq => by have := (HV.out q hq).1; omega))
end Go.Proofs.YtlfdgkiliegaiaaGreatDoor

/- Walks of package cell: Columns, Cut, CutLeft. -/
namespace Go.Proofs.YtlfdgkiliegaiaaGreatDoor
open Go.RowKit

/-- The columns of runes. -/
def cols (l : List Int) : Int := (l.map wide0).sum
theorem wid_range (r : Int) : -1 ≤ wid r ∧ wid r ≤ 2 := by unfold wid; repeat' split
                                                           all_goals omega
theorem getD_mem (l : List Int) (k : Nat) (hk : k < l.length) : l.getD k 0 ∈ l := by
  rw [List.getD_eq_getElem?_getD, List.getElem?_eq_getElem hk]; exact List.getElem_mem hk

end Go.Proofs.YtlfdgkiliegaiaaGreatDoor

/- Walks of package screen: a title. -/
namespace Go.Proofs.YtlfdgkiliegaiaaGreatDoor
open Go.RowKit
set_option maxRecDepth 100000

theorem run_runes_c {w : World} {base : Nat} {v : Value} {l : List Int} (h : OwnC w base 1 v l.length (l.map (Value.int .i32))) :
    (convert 191 9 v).run Tryz.prog w = .ok (.string ⟨(encAll l).toArray⟩) w := by
  rcases h.2 with ⟨rfl, h0⟩ | ⟨b, off, cap, rfl, _⟩
  · have : l = [] := List.eq_nil_of_length_eq_zero h0
    subst this
    exact run_convert_runes_nil w 191 9 21 0 0 Tryz.underlying191 Tryz.underlying21 Tryz.underlying9
  · have := run_convert_runes (P := Tryz.prog) w 191 9 21 ⟨b, off, none⟩ l.length cap l (Nat.le_refl _) Tryz.underlying191 Tryz.underlying21 Tryz.underlying9 (fun j hj => by
      have := (ownC_cellx h j (by omega)).1
      rw [List.getElem?_map, getD_of l j hj] at this
      rw [add_eq]
      exact this)
    rw [List.take_length, runesBytes_eq] at this
    exact this
theorem c_i32 {w : World} {base b off n c : Nat} {l : List Int} (h : OwnC w base 1 (.slice (some ⟨b, off, none⟩) n c) n (l.map (Value.int .i32))) (k : Nat) (hk : k < l.length) (hl : l.length = n) :
    w.cell? ⟨b, off + k, none⟩ = some (.int .i32 (l.getD k 0)) := by
  rw [(ownC_cellx h k (by omega)).1, List.getElem?_map, getD_of l k hk]; rfl
theorem pre2 (t : ByteArray) (a b : UInt8) : (Lib.hasPrefix t.data.toList [a, b] = true ↔ t.data.toList.take 2 = [a, b]) ∧ (Lib.hasPrefix t.data.toList [a, b] = true → 2 ≤ t.size) := by
  have e : t.size = t.data.toList.length := (Array.length_toList).symm
  rw [e]
  generalize t.data.toList = l
  unfold Lib.hasPrefix
  match l with
  | [] => exact ⟨⟨fun e => (Bool.noConfusion e), fun e => by cases e⟩, fun e => Bool.noConfusion e⟩
  | [x] =>
    have e0 : List.isPrefixOf [a, b] [x] = false := by
      show (a == x && false) = false
      rw [Bool.and_false]
    rw [e0]
    exact ⟨⟨fun e => (Bool.noConfusion e), fun e => by cases e⟩, fun e => Bool.noConfusion e⟩
  | x :: y :: m =>
    have e0 : List.isPrefixOf [a, b] (x :: y :: m) = (a == x && (b == y && true)) := rfl
    rw [e0, show (x :: y :: m).take 2 = [x, y] from rfl, Bool.and_true, Bool.and_eq_true, beq_iff_eq, beq_iff_eq]
    refine ⟨⟨fun e => by rw [e.1, e.2], fun e => ?_⟩, fun _ => by rw [List.length_cons, List.length_cons]; omega⟩
    injection e with e1 e2
    injection e2 with e2
    exact ⟨e1.symm, e2.symm⟩
theorem drop_k (l : List Int) (k : Nat) (hk : k < l.length) : l.drop k = l.getD k 0 :: l.drop (k + 1) := by
  rw [List.drop_eq_getElem_cons hk, List.getD_eq_getElem?_getD, List.getElem?_eq_getElem hk]; rfl
theorem titleF_step (n : Int) (l : List Int) (k : Nat) (hk : k < l.length) : titleF n (l.drop k) = if wid (l.getD k 0) < 1 then titleF n (l.drop (k + 1)) else if 64 < n + wid (l.getD k 0) then [] else l.getD k 0 :: titleF (n + wid (l.getD k 0)) (l.drop (k + 1)) := by
  rw [drop_k l k hk]
  rfl
set_option maxHeartbeats 4000000 in
theorem namedS_any {B : World} {C : Nat → Nat} {p : Nat} {w : World} {s : Scr} {ps : PSt} (h : SR B C p w s ps) (t : ByteArray) (hl : t.size ≤ 1000000) :
    Calls Tryz.prog 112 #[.pointer (some ⟨p, 0, none⟩), .string t] w fun e w' => e = .returned (.tuple #[]) ∧ Does B C p w w' (s.named t.data.toList) ps := by
  have HR := Lib.hid h
  have HL := Lib.hid hl
  obtain ⟨pa1, pa2⟩ := pre2 t 48 59
  obtain ⟨pb1, pb2⟩ := pre2 t 50 59
  by_cases hp : Lib.hasPrefix t.data.toList [48, 59] = true ∨ Lib.hasPrefix t.data.toList [50, 59] = true
  rotate_left
  · have ea : Lib.hasPrefix t.data.toList [48, 59] = false := by
      cases e : Lib.hasPrefix t.data.toList [48, 59] with
      | false => rfl
      | true => exact absurd (.inl e) hp
    have eb : Lib.hasPrefix t.data.toList [50, 59] = false := by
      cases e : Lib.hasPrefix t.data.toList [50, 59] with
      | false => rfl
      | true => exact absurd (.inr e) hp
    have HE := Lib.hid (show s.named t.data.toList = s by
      unfold Scr.named
      rw [if_neg (fun e => hp (e.elim (fun e => .inl (pa1.2 e)) (fun e => .inr (pb1.2 e))))])
    clear hp pa1 pa2 pb1 pb2 hl h
    go_enter Tryz.func112, Tryz.ntmps112
    go_wp2_with fail
    refine (Tryz.strings_HasPrefix t ⟨#[48, 59]⟩ _).mono ?_
    rintro e wx ⟨rfl, rfl⟩
    rw [show Lib.hasPrefix t.data.toList (⟨#[48, 59]⟩ : ByteArray).data.toList = false from ea]
    go_wp2_with fail
    refine (Tryz.strings_HasPrefix t ⟨#[50, 59]⟩ _).mono ?_
    rintro e wx ⟨rfl, rfl⟩
    rw [show Lib.hasPrefix t.data.toList (⟨#[50, 59]⟩ : ByteArray).data.toList = false from eb]
    go_wp2_with fail
    refine ret0 rfl rfl ?_
    refine ⟨rfl, ?_⟩
    rw [HE.out]
    exact Does.refl HR.out
  have h2 : 2 ≤ t.size := hp.elim pa2 pb2
  have HE0 := Lib.hid (show s.named t.data.toList = { s with title := encAll (titleF 0 (runes (t.data.toList.drop 2))) } by
    unfold Scr.named
    rw [if_pos (hp.imp pa1.1 pb1.1)]
    rfl)
  have HX := Lib.hid (show (t.extract 2 t.size).data.toList = t.data.toList.drop 2 by
    rw [ByteArray.data_extract, Array.toList_extract]
    show (t.data.toList.drop 2).take (t.size - 2) = _
    rw [List.take_of_length_le (by rw [List.length_drop]; show t.data.toList.length - 2 ≤ t.data.size - 2; rw [Array.length_toList]; omega)])
  have hp' : Lib.hasPrefix t.data.toList [48, 59] = true ∨ (Lib.hasPrefix t.data.toList [48, 59] = false ∧ Lib.hasPrefix t.data.toList [50, 59] = true) := by
    cases e : Lib.hasPrefix t.data.toList [48, 59] with
    | true => exact .inl rfl
    | false => exact .inr ⟨rfl, hp.resolve_left (by rw [e]; decide)⟩
  clear hp pa1 pa2 pb1 pb2
  have hsz : (t.extract 2 t.size).size ≤ 1000000 := by simp; omega
  have HRU := Lib.hid (fun wx => runes_any (t.extract 2 t.size) wx (by omega))
  have HLEN := Lib.hid (show (runes (t.extract 2 t.size).data.toList).length ≤ 2000001 by have := runesB_len (t.extract 2 t.size); omega)
  rw [HX.out] at HRU HLEN
  clear h hl hsz HX
  go_enter Tryz.func112, Tryz.ntmps112
  go_upto_region 0 with fail
  go_cut [16] (fun v wz => v = .bool false ∧ wz = w)
  case first =>
    go_wp2_with fail
    refine (Tryz.strings_HasPrefix t ⟨#[48, 59]⟩ _).mono ?_
    rintro e wx ⟨rfl, hx⟩
    subst wx
    rcases hp' with e1 | ⟨e1, e2⟩
    · rw [show Lib.hasPrefix t.data.toList (⟨#[48, 59]⟩ : ByteArray).data.toList = true from e1]
      clear e1
      go_wp2_with fail
      go_meet
      exact ⟨rfl, rfl⟩
    · rw [show Lib.hasPrefix t.data.toList (⟨#[48, 59]⟩ : ByteArray).data.toList = false from e1]
      clear e1
      go_wp2_with fail
      refine (Tryz.strings_HasPrefix t ⟨#[50, 59]⟩ _).mono ?_
      rintro e wx ⟨rfl, hx⟩
      subst wx
      rw [show Lib.hasPrefix t.data.toList (⟨#[50, 59]⟩ : ByteArray).data.toList = true from e2]
      clear e2
      go_wp2_with fail
      go_meet
      exact ⟨rfl, rfl⟩
  case rest =>
  obtain ⟨rfl, hwc⟩ := hcut
  subst wc
  have h2' : (2 : Int) ≤ (t.size : Int) := by omega
  go_wp2_with fail
  refine (HRU.out w).mono ?_
  rintro e w2 ⟨lv, rfl, ol, b2⟩
  have HB2 := Lib.hid b2
  have hv := fun k hk => runes_valid (t.data.toList.drop 2) _ (getD_mem _ k hk)
  have HRL := Lib.hid (ownC_own ol)
  have hlen := HLEN.out
  generalize hL : runes (t.data.toList.drop 2) = L at *
  clear hL ol b2 hv HRU HLEN
  have hln := ownC_ln Tryz.underlying191 HRL.out
  go_wp2_with fail
  clear hln
  go_loopw [4, 5, 21] (fun vv nv iv wr => ∃ (k n : Nat) (o : List Int) (ov : Value), ov = vv ∧ nv = .int .i64 n ∧ iv = .int .i64 k ∧ k ≤ L.length ∧ n ≤ 64 ∧ o.length ≤ n ∧ Hid (titleF 0 L = o ++ titleF n (L.drop k)) ∧ Hid (Below w.heap.size w wr) ∧ Hid (OwnC wr w.heap.size 1 ov o.length (o.map (Value.int .i32))) ∧ Hid (OwnC wr w.heap.size 1 lv L.length (L.map (Value.int .i32))) ∧ Hid (∀ q, ov.ownBlock = some q → lv.ownBlock ≠ some q)) (fun _ _ iv _ => L.length - (intOf iv).toNat)
  case atStart => exact ⟨0, 0, [], _, rfl, rfl, rfl, Nat.zero_le _, by omega, Nat.le_refl _, Lib.hid rfl, HB2, Lib.hid (ownC_nil _ _ _), HRL, Lib.hid (fun q h => by simp [Value.ownBlock] at h)⟩
  case round =>
    obtain ⟨k, n, o, ov, rfl, rfl, rfl, hk, hn, ho, HT, HB, HO, HLi, HD⟩ := hrel
    obtain ⟨wi, rfl⟩ : ∃ wi, wi = wr := ⟨wr, rfl⟩
    by_cases hlt : k < L.length
    rotate_left
    · have hkl : k = L.length := by omega
      have HE := Lib.hid (show s.named t.data.toList = { s with title := encAll o } by
        rw [HE0.out, HT.out, hkl, List.drop_length]
        show ({ s with title := encAll (o ++ titleF n []) } : Scr) = _
        rw [show titleF n [] = [] from rfl, List.append_nil])
      have d1 : decide ((k : Int) < (L.length : Int)) = false := decide_eq_false (by omega)
      have d1' : decide (k < L.length) = false := decide_eq_false hlt
      have hcv := run_runes_c HO.out
      have HBX := Lib.hid (HR.out.below HB.out)
      have HPX := Lib.hid ((Pre.refl C w).below HB.out)
      clear hkl hlt
      obtain ⟨h9, g9⟩ := HBX.out.set 36 (.string ⟨(encAll o).toArray⟩) { s with title := encAll o }
      have H9 := Lib.hid h9
      have P9 := Lib.hid (HPX.out.trans g9)
      clear h9 g9
      have f36 := HBX.out.fz 36
      have c36 := HBX.out.at_ 36 (.string ⟨s.title.toArray⟩)
      go_wp2_with fail
      go_end0
      refine ⟨rfl, ?_⟩
      rw [HE.out]
      exact ⟨_, H9.out, P9.out⟩
    have d1 : decide ((k : Int) < (L.length : Int)) = true := decide_eq_true (by omega)
    have d1' : decide (k < L.length) = true := decide_eq_true hlt
    obtain ⟨lb, lo, lc, e1, _, _⟩ := ownC_pos HLi.out (by omega)
    subst e1
    have p0 := c_i32 HLi.out k hlt rfl
    have hix := idx_at (P := Tryz.prog) (size := 1) Tryz.underlying191 (by kernel_rfl) lb lo L.length lc k hlt
    rw [Nat.mul_one] at hix
    have HS := Lib.hid (titleF_step n L k hlt)
    have hwk : IntKind.i64.wrap ((k : Int) + 1) = (k : Int) + 1 := wrap64_id _ (by omega) (by omega)
    generalize L.getD k 0 = r at *
    go_wp2_with fail
    refine (width_any r _).mono ?_
    rintro e w3 ⟨rfl, b3⟩
    have HB3 := Lib.hid (HB.out.trans (b3.mono HB.out.size))
    have HO3 := Lib.hid (ownC_below HO.out b3)
    have HL3 := Lib.hid (ownC_below HLi.out b3)
    have hwr := wid_range r
    obtain ⟨m, hm⟩ : ∃ m, m = wid r := ⟨_, rfl⟩
    rw [← hm] at HS hwr
    rw [← hm]
    clear hm b3 p0 hix
    by_cases hm1 : m < 1
    · have HT1 := Lib.hid (show titleF 0 L = o ++ titleF n (L.drop (k + 1)) by rw [HT.out, HS.out, if_pos hm1])
      have d2 : decide (m < 1) = true := decide_eq_true hm1
      go_wp2_with fail
      go_roundw
      case rel => exact ⟨k + 1, n, o, ov, rfl, rfl, by go_num, by omega, hn, ho, HT1, HB3, HO3, HL3, HD⟩
      case measure => simp [intOf]; omega
    have d2 : decide (m < 1) = false := decide_eq_false hm1
    obtain ⟨n2, hn2⟩ : ∃ n2 : Nat, (n2 : Int) = n + m := ⟨((n : Int) + m).toNat, by omega⟩
    have hwn : IntKind.i64.wrap ((n : Int) + m) = (n2 : Int) := by rw [hn2]; exact wrap64_id _ (by omega) (by omega)
    by_cases h64 : (64 : Int) < n + m
    · have HE := Lib.hid (show s.named t.data.toList = { s with title := encAll o } by
        rw [HE0.out, HT.out, HS.out, if_neg hm1, if_pos h64, List.append_nil])
      have d3 : decide ((64 : Int) < (n2 : Int)) = true := decide_eq_true (by omega)
      have d3' : decide (64 < n2) = true := decide_eq_true (by omega)
      have hcv := run_runes_c HO3.out
      have HBX := Lib.hid (HR.out.below HB3.out)
      have HPX := Lib.hid ((Pre.refl C w).below HB3.out)
      clear hm1 h64 hn2
      obtain ⟨h9, g9⟩ := HBX.out.set 36 (.string ⟨(encAll o).toArray⟩) { s with title := encAll o }
      have H9 := Lib.hid h9
      have P9 := Lib.hid (HPX.out.trans g9)
      clear h9 g9
      have f36 := HBX.out.fz 36
      have c36 := HBX.out.at_ 36 (.string ⟨s.title.toArray⟩)
      go_wp2_with fail
      go_end0
      refine ⟨rfl, ?_⟩
      rw [HE.out]
      exact ⟨_, H9.out, P9.out⟩
    have HT1 := Lib.hid (show titleF 0 L = (o ++ [r]) ++ titleF n2 (L.drop (k + 1)) by rw [HT.out, HS.out, if_neg hm1, if_neg h64, hn2, List.append_assoc]; rfl)
    have hN := Lib.hid (show n2 ≤ 64 ∧ o.length + 1 ≤ n2 ∧ o.length ≤ 64 by omega)
    have d3 : decide ((64 : Int) < (n2 : Int)) = false := decide_eq_false (by omega)
    have d3' : decide (64 < n2) = false := decide_eq_false (by omega)
    clear hm1 h64 hn2 HS hwr
    go_wp2_with (at_builtin; refine held ?_)
    unfold Held
    refine wpList_appD runes_elem rfl rfl w.heap.size (ownC_alloc HO3.out _) rfl (reads_one _ _ _) rfl (int_one _ _) (by have := hN.out; unfold maxLen; omega) (by have := hN.out; omega) (by have := HB3.out.size; simp; omega) ?_
    intro ov6 w6 o6 g6 n6
    have hsz : (w3.alloc (.cells #[.int .i32 r] 21)).heap.size = w3.heap.size + 1 := by simp
    have B6 := Lib.hid ((HB3.out.alloc HB3.out.size _).grown g6 (by have := HB3.out.size; simp; omega) (fun q hq => (ownC_lt HO3.out q hq).1))
    have O6 := Lib.hid o6
    have L6 := Lib.hid (ownC_grown (ownC_alloc HL3.out (.cells #[.int .i32 r] 21)) g6 (fun q hq e => HD.out q e hq))
    have D6 := Lib.hid (show ∀ q, ov6.ownBlock = some q → (Value.slice (some ⟨lb, lo, none⟩) L.length lc).ownBlock ≠ some q from fun q h1 h2 => by
      rcases n6 q h1 with h3 | h3
      · exact HD.out q h3 h2
      · have h4 := (ownC_lt HL3.out q h2).2
        rw [hsz] at h3
        omega)
    clear o6 g6 n6
    go_wp2_with fail
    go_roundw
    case rel => exact ⟨k + 1, n2, o ++ [r], _, rfl, rfl, by go_num, by omega, hN.out.1, by rw [List.length_append]; exact hN.out.2.1, HT1, B6, Lib.hid (by rw [List.length_append, List.map_append]; exact O6.out), L6, D6⟩
    case measure => simp [intOf]; omega
end Go.Proofs.YtlfdgkiliegaiaaGreatDoor

/- The escape from one look to another one, plain. -/
namespace Go.Proofs.YtlfdgkiliegaiaaGreatDoor
open Go.RowKit

theorem wrap_small {x : Nat} (h : x < 2 ^ 63) : IntKind.i64.wrap ((x : Nat) : Int) = x := wrap64_id _ (by omega) (by omega)
theorem testBit_n {a i : Nat} (h : a < 1024) (hi : 10 ≤ i) : a.testBit i = false := by
  refine Nat.testBit_lt_two_pow (Nat.lt_of_lt_of_le h ?_)
  show 2 ^ 10 ≤ 2 ^ i
  exact Nat.pow_le_pow_right (by decide) hi
theorem bOr_n {a b : Nat} (ha : a < 1024) (hb : b < 1024) : bOr a b = ((a ||| b : Nat) : Int) := by
  unfold bOr
  rw [BitVec.ofInt_natCast, BitVec.ofInt_natCast, BitVec.toNat_or, BitVec.toNat_ofNat, BitVec.toNat_ofNat, Nat.mod_eq_of_lt (by omega), Nat.mod_eq_of_lt (by omega)]
  exact wrap_small (Nat.lt_of_lt_of_le (Nat.or_lt_two_pow (n := 10) ha hb) (by decide))
theorem bAnd_n {a b : Nat} (ha : a < 1024) (hb : b < 1024) : bAnd a b = ((a &&& b : Nat) : Int) := by
  unfold bAnd
  rw [BitVec.ofInt_natCast, BitVec.ofInt_natCast, BitVec.toNat_and, BitVec.toNat_ofNat, BitVec.toNat_ofNat, Nat.mod_eq_of_lt (by omega), Nat.mod_eq_of_lt (by omega)]
  exact wrap_small (Nat.lt_of_lt_of_le (Nat.and_lt_two_pow (n := 10) a hb) (by decide))
theorem bNot_n {a b : Nat} (ha : a < 1024) : ∃ n : Nat, bNot a b = n ∧ n ≤ a ∧ ∀ i, n.testBit i = (a.testBit i && !b.testBit i) := by
  have hlt : (BitVec.ofNat 64 a &&& ~~~ BitVec.ofNat 64 b).toNat ≤ a := by
    rw [BitVec.toNat_and, BitVec.toNat_ofNat, Nat.mod_eq_of_lt (by omega)]
    exact Nat.and_le_left
  refine ⟨_, ?_, hlt, fun i => ?_⟩
  · unfold bNot
    rw [BitVec.ofInt_natCast, BitVec.ofInt_natCast]
    exact wrap_small (Nat.lt_of_le_of_lt hlt (Nat.lt_of_lt_of_le ha (by decide)))
  · rw [BitVec.testBit_toNat, BitVec.getLsbD_and, BitVec.getLsbD_not, BitVec.getLsbD_ofNat, BitVec.getLsbD_ofNat]
    by_cases hi : i < 64
    · simp [hi]
    · rw [testBit_n ha (by omega)]
      simp
/-! Looks, number by number. -/
def Runs (l : List Int) (p q : Sty) : Prop := ∀ ps f i rest, ps.drop i = l ++ rest → l.length ≤ f → ∃ f', f ≤ f' + l.length ∧ looksF ps f i p = looksF ps f' (i + l.length) q
theorem Runs.nil (p : Sty) : Runs [] p p := fun _ f _ _ _ _ => ⟨f, Nat.le_refl _, rfl⟩
theorem Runs.app {l m : List Int} {p q r : Sty} (h1 : Runs l p q) (h2 : Runs m q r) : Runs (l ++ m) p r := fun ps f i rest hd hf => by
  rw [List.length_append] at hf
  obtain ⟨f1, hf1, e1⟩ := h1 ps f i (m ++ rest) (by rw [hd, List.append_assoc]) (by omega)
  obtain ⟨f2, hf2, e2⟩ := h2 ps f1 (i + l.length) rest (by rw [← List.drop_drop, hd, List.append_assoc, List.drop_left]) (by omega)
  exact ⟨f2, by rw [List.length_append]; omega, by rw [e1, e2, List.length_append, Nat.add_assoc]⟩
theorem Runs.all {l : List Int} {p q : Sty} (h : Runs l p q) (hl : l ≠ []) : looksL l p = q := by
  unfold looksL
  rw [if_neg hl]
  obtain ⟨f, _, e⟩ := h l l.length 0 [] (by rw [List.drop_zero, List.append_nil]) (Nat.le_refl _)
  rw [e, Nat.zero_add]
  cases f with
  | zero => rfl
  | succ f => unfold looksF; rw [if_neg (by omega)]
theorem par_at {ps : List Int} {i : Nat} {n : Int} {rest : List Int} (h : ps.drop i = n :: rest) (h0 : 0 ≤ n) (h1 : n ≤ 9999) (d : Int) : par ps i d = n ∧ i < ps.length ∧ ps.drop (i + 1) = rest := by
  have hi : i < ps.length := by
    have := congrArg List.length h
    rw [List.length_drop, List.length_cons] at this
    omega
  have hg : ps.getD i (-1) = n := by
    rw [List.getD_eq_getElem?_getD, List.getElem?_eq_getElem hi]
    have := List.drop_eq_getElem_cons hi
    rw [h] at this
    exact (List.cons.inj this).1.symm
  refine ⟨?_, hi, ?_⟩
  · unfold par
    rw [hg, if_pos ⟨hi, h0⟩]
    omega
  · rw [← List.drop_drop, h]; rfl
theorem runs_one {n : Int} (p : Sty) (h0 : 0 ≤ n) (h1 : n ≤ 9999) (h2 : n ≠ 38) (h3 : n ≠ 48) : Runs [n] p (look1 p n) := fun ps f i rest hd hf => by
  obtain ⟨f, rfl⟩ : ∃ g, f = g + 1 := ⟨f - 1, by simp at hf; omega⟩
  obtain ⟨e1, e2, _⟩ := par_at (by rw [hd]; rfl) h0 h1 0
  refine ⟨f, by simp, ?_⟩
  conv => lhs; unfold looksF
  rw [if_pos e2, e1, if_neg (by omega)]
  rfl
theorem colour_5 {ps : List Int} {i : Nat} {c : Int} {rest : List Int} (h : ps.drop i = 5 :: c :: rest) (h0 : 0 ≤ c) (h1 : c ≤ 255) : colourP ps i = (c, 2) := by
  obtain ⟨e1, _, d1⟩ := par_at h (by decide) (by decide) 0
  obtain ⟨e2, l2, _⟩ := par_at d1 h0 (by omega) 0
  unfold colourP
  rw [e1, e2, if_pos ⟨by omega, rfl, h1⟩]
theorem colour_2 {ps : List Int} {i : Nat} {r g b : Int} {rest : List Int} (h : ps.drop i = 2 :: r :: g :: b :: rest) (hr : 0 ≤ r ∧ r ≤ 255) (hg : 0 ≤ g ∧ g ≤ 255) (hb : 0 ≤ b ∧ b ≤ 255) :
    colourP ps i = (16777216 + r * 65536 + g * 256 + b, 4) := by
  obtain ⟨e1, _, d1⟩ := par_at h (by decide) (by decide) 0
  obtain ⟨e2, _, d2⟩ := par_at d1 hr.1 (by omega) 0
  obtain ⟨e3, _, d3⟩ := par_at d2 hg.1 (by omega) 0
  obtain ⟨e4, l4, _⟩ := par_at d3 hb.1 (by omega) 0
  have e3' : par ps (i + 2) 0 = g := e3
  have e4' : par ps (i + 3) 0 = b := e4
  unfold colourP
  rw [e1, e2, e3', e4', if_neg (by omega), if_pos ⟨by omega, rfl, by omega⟩]
theorem runs_col {l : List Int} {c : Int} (p : Sty) (n : Int) (hn : n = 38 ∨ n = 48) (hl : l.length ≠ 0) (h : ∀ ps i rest, ps.drop i = l ++ rest → colourP ps i = (c, l.length)) :
    Runs (n :: l) p (if n = 38 then { p with fg := c } else { p with bg := c }) := fun ps f i rest hd hf => by
  obtain ⟨f, rfl⟩ : ∃ g, f = g + 1 := ⟨f - 1, by simp at hf; omega⟩
  obtain ⟨e1, e2, d⟩ := par_at (by rw [hd]; rfl) (by omega) (by omega) 0
  refine ⟨f, by simp, ?_⟩
  conv => lhs; unfold looksF
  rw [if_pos e2, e1, if_pos hn, h ps (i + 1) rest d]
  dsimp only
  rw [if_neg hl, List.length_cons, show i + 1 + l.length = i + (l.length + 1) by omega]
def numP (c d : Int) : List Int :=
  if c < 0 then [39 + d] else if c < 8 then [30 + d + c] else if c < 16 then [82 + d + c] else if c < 256 then [38 + d, 5, c] else [38 + d, 2, c / 65536 % 256, c / 256 % 256, c % 256]
theorem look1_fg (p : Sty) {n : Int} (h : 30 ≤ n ∧ n ≤ 37) : look1 p n = { p with fg := n - 30 } := by unfold look1; rw [if_neg (by omega), if_neg (by omega), if_pos h]
theorem look1_39 (p : Sty) : look1 p 39 = { p with fg := -1 } := rfl
theorem look1_bg (p : Sty) {n : Int} (h : 40 ≤ n ∧ n ≤ 47) : look1 p n = { p with bg := n - 40 } := by unfold look1; rw [if_neg (by omega), if_neg (by omega), if_neg (by omega), if_neg (by omega), if_pos h]
theorem look1_49 (p : Sty) : look1 p 49 = { p with bg := -1 } := rfl
theorem look1_fg2 (p : Sty) {n : Int} (h : 90 ≤ n ∧ n ≤ 97) : look1 p n = { p with fg := n - 82 } := by unfold look1; rw [if_neg (by omega), if_neg (by omega), if_neg (by omega), if_neg (by omega), if_neg (by omega), if_neg (by omega), if_pos h]
theorem look1_bg2 (p : Sty) {n : Int} (h : 100 ≤ n ∧ n ≤ 107) : look1 p n = { p with bg := n - 92 } := by unfold look1; rw [if_neg (by omega), if_neg (by omega), if_neg (by omega), if_neg (by omega), if_neg (by omega), if_neg (by omega), if_neg (by omega), if_pos h]
theorem colOk_cases {c : Int} (h : colOk c = true) : (-1 ≤ c ∧ c ≤ 255) ∨ (16777216 ≤ c ∧ c < 33554432) := by
  unfold colOk at h
  simpa using h
theorem runs_fg (p : Sty) {c : Int} (h : colOk c = true) : Runs (numP c 0) p { p with fg := c } := by
  have hc := colOk_cases h
  unfold numP
  by_cases h1 : c < 0
  · rw [if_pos h1]
    have := runs_one (n := 39) p (by decide) (by decide) (by decide) (by decide)
    rw [look1_39] at this
    rw [show c = -1 by omega]
    exact this
  rw [if_neg h1]
  by_cases h2 : c < 8
  · rw [if_pos h2]
    have := runs_one (n := 30 + 0 + c) p (by omega) (by omega) (by omega) (by omega)
    rw [look1_fg p (by omega), show 30 + 0 + c - 30 = c by omega] at this
    exact this
  rw [if_neg h2]
  by_cases h3 : c < 16
  · rw [if_pos h3]
    have := runs_one (n := 82 + 0 + c) p (by omega) (by omega) (by omega) (by omega)
    rw [look1_fg2 p (by omega), show 82 + 0 + c - 82 = c by omega] at this
    exact this
  rw [if_neg h3]
  by_cases h4 : c < 256
  · rw [if_pos h4]
    exact runs_col (l := [5, c]) (c := c) p 38 (.inl rfl) (by simp) (fun ps i rest hd => colour_5 hd (by omega) (by omega))
  rw [if_neg h4]
  have := runs_col (l := [2, c / 65536 % 256, c / 256 % 256, c % 256]) (c := 16777216 + c / 65536 % 256 * 65536 + c / 256 % 256 * 256 + c % 256) p 38 (.inl rfl) (by simp)
    (fun ps i rest hd => colour_2 hd (by omega) (by omega) (by omega))
  rw [show 16777216 + c / 65536 % 256 * 65536 + c / 256 % 256 * 256 + c % 256 = c by omega] at this
  exact this
theorem runs_bg (p : Sty) {c : Int} (h : colOk c = true) : Runs (numP c 10) p { p with bg := c } := by
  have hc := colOk_cases h
  unfold numP
  by_cases h1 : c < 0
  · rw [if_pos h1]
    have := runs_one (n := 49) p (by decide) (by decide) (by decide) (by decide)
    rw [look1_49] at this
    rw [show c = -1 by omega]
    exact this
  rw [if_neg h1]
  by_cases h2 : c < 8
  · rw [if_pos h2]
    have := runs_one (n := 30 + 10 + c) p (by omega) (by omega) (by omega) (by omega)
    rw [look1_bg p (by omega), show 30 + 10 + c - 40 = c by omega] at this
    exact this
  rw [if_neg h2]
  by_cases h3 : c < 16
  · rw [if_pos h3]
    have := runs_one (n := 82 + 10 + c) p (by omega) (by omega) (by omega) (by omega)
    rw [look1_bg2 p (by omega), show 82 + 10 + c - 92 = c by omega] at this
    exact this
  rw [if_neg h3]
  by_cases h4 : c < 256
  · rw [if_pos h4]
    exact runs_col (l := [5, c]) (c := c) p 48 (.inr rfl) (by simp) (fun ps i rest hd => colour_5 hd (by omega) (by omega))
  rw [if_neg h4]
  have := runs_col (l := [2, c / 65536 % 256, c / 256 % 256, c % 256]) (c := 16777216 + c / 65536 % 256 * 65536 + c / 256 % 256 * 256 + c % 256) p 48 (.inr rfl) (by simp)
    (fun ps i rest hd => colour_2 hd (by omega) (by omega) (by omega))
  rw [show 16777216 + c / 65536 % 256 * 65536 + c / 256 % 256 * 256 + c % 256 = c by omega] at this
  exact this
end Go.Proofs.YtlfdgkiliegaiaaGreatDoor

/- The escape from one look to another one, plain: it says that look. -/
namespace Go.Proofs.YtlfdgkiliegaiaaGreatDoor
open Go.RowKit

def bitsK : List (Nat × Int) := [(0, 1), (1, 2), (2, 3), (3, 4), (4, 5), (5, 7), (6, 8), (7, 9)]
def sgrA (f t : Int) : List Int := (bitsK.filter fun kc => bAnd (bNot t f) ((2 ^ kc.1 : Nat) : Int) != 0).map (·.2)
def sgrF (f t : Sty) : Sty := if bNot f.attr t.attr ≠ 0 then plainS else f
def sgrP (f t : Sty) : List Int :=
  (if bNot f.attr t.attr ≠ 0 then [0] else []) ++ sgrA (sgrF f t).attr t.attr ++ (if t.fg ≠ (sgrF f t).fg then numP t.fg 0 else []) ++ (if t.bg ≠ (sgrF f t).bg then numP t.bg 10 else [])
theorem and_bit {n k : Nat} : (n &&& 2 ^ k ≠ 0) ↔ n.testBit k = true := by
  constructor
  · intro h
    cases hb : n.testBit k with
    | true => rfl
    | false =>
      refine absurd (Nat.eq_of_testBit_eq fun i => ?_) h
      rw [Nat.testBit_and, Nat.testBit_two_pow, Nat.zero_testBit]
      by_cases e : k = i
      · rw [← e, hb]; rfl
      · simp [e]
  · intro h e
    have := congrArg (Nat.testBit · k) e
    simp [Nat.testBit_and, h] at this
theorem pow_lt_256 {kc : Nat × Int} (h : kc ∈ bitsK) : 2 ^ kc.1 < 256 := by
  have : ∀ kc ∈ bitsK, 2 ^ kc.1 < 256 := by decide
  exact this kc h
theorem look1_bit (p : Sty) {kc : Nat × Int} (h : kc ∈ bitsK) : look1 p kc.2 = { p with attr := bOr p.attr ((2 ^ kc.1 : Nat) : Int) } ∧ 0 ≤ kc.2 ∧ kc.2 ≤ 9 := by
  unfold bitsK at h
  simp only [List.mem_cons, List.not_mem_nil, or_false] at h
  rcases h with h | h | h | h | h | h | h | h <;> subst h <;> exact ⟨rfl, by decide, by decide⟩
theorem runs_bits (g : Nat × Int → Bool) : ∀ (L : List (Nat × Int)) (p : Sty) (x : Nat), (∀ kc ∈ L, kc ∈ bitsK) → x < 256 →
    ∃ y : Nat, y < 256 ∧ Runs ((L.filter g).map (·.2)) { p with attr := x } { p with attr := y } ∧ ∀ i, y.testBit i = (x.testBit i || L.any fun kc => g kc && decide (kc.1 = i))
  | [], p, x, _, hx => ⟨x, hx, Runs.nil _, fun i => by simp⟩
  | kc :: L, p, x, hL, hx => by
    have hk := hL kc (List.mem_cons_self ..)
    have hL2 : ∀ kc ∈ L, kc ∈ bitsK := fun q hq => hL q (List.mem_cons_of_mem _ hq)
    by_cases hg : g kc = true
    · have hp := pow_lt_256 hk
      obtain ⟨e, e0, e9⟩ := look1_bit { p with attr := (x : Int) } hk
      obtain ⟨y, hy, hr, ht⟩ := runs_bits g L p (x ||| 2 ^ kc.1) hL2 (Nat.or_lt_two_pow (n := 8) hx hp)
      have h1 := runs_one (n := kc.2) { p with attr := (x : Int) } e0 (by omega) (by omega) (by omega)
      rw [e] at h1
      dsimp only at h1
      rw [bOr_n (Nat.lt_trans hx (by decide)) (Nat.lt_trans hp (by decide))] at h1
      refine ⟨y, hy, ?_, fun i => ?_⟩
      · rw [List.filter_cons, if_pos hg, List.map_cons]
        exact h1.app hr
      · rw [ht i, Nat.testBit_or, Nat.testBit_two_pow, List.any_cons, hg, Bool.true_and, Bool.or_assoc]
    · obtain ⟨y, hy, hr, ht⟩ := runs_bits g L p x hL2 hx
      refine ⟨y, hy, ?_, fun i => ?_⟩
      · rw [List.filter_cons, if_neg hg]
        exact hr
      · rw [ht i, List.any_cons, Bool.eq_false_iff.2 hg, Bool.false_and, Bool.false_or]
theorem any_bits (g : Nat → Bool) (i : Nat) : (bitsK.any fun kc => g kc.1 && decide (kc.1 = i)) = (decide (i < 8) && g i) := by
  unfold bitsK
  simp only [List.any_cons, List.any_nil, Bool.or_false]
  by_cases h : i < 8
  · have : i = 0 ∨ i = 1 ∨ i = 2 ∨ i = 3 ∨ i = 4 ∨ i = 5 ∨ i = 6 ∨ i = 7 := by omega
    rcases this with h | h | h | h | h | h | h | h <;> subst h <;> simp
  · rw [decide_eq_false h]
    simp
    omega
theorem testBit_8 {a i : Nat} (h : a < 256) (hi : ¬ i < 8) : a.testBit i = false := by
  refine Nat.testBit_lt_two_pow (Nat.lt_of_lt_of_le h ?_)
  show 2 ^ 8 ≤ 2 ^ i
  exact Nat.pow_le_pow_right (by decide) (by omega)
/-- The looks that are turned on. -/
theorem runs_sgrA (p : Sty) {f t : Nat} (hf : f < 256) (ht : t < 256) (hs : ∀ i, f.testBit i = true → t.testBit i = true) : Runs (sgrA f t) { p with attr := f } { p with attr := t } := by
  obtain ⟨m, hm, hm8, hb⟩ := bNot_n (a := t) (b := f) (Nat.lt_trans ht (by decide))
  have hg : ∀ kc ∈ bitsK, (bAnd (bNot t f) ((2 ^ kc.1 : Nat) : Int) != 0) = m.testBit kc.1 := fun kc hk => by
    rw [hm, bAnd_n (by omega) (Nat.lt_trans (pow_lt_256 hk) (by decide)), Bool.eq_iff_iff, bne_iff_ne, ← and_bit]
    omega
  have e : sgrA f t = (bitsK.filter fun kc => m.testBit kc.1).map (·.2) := by
    unfold sgrA
    rw [List.filter_congr hg]
  obtain ⟨y, hy, hr, hyb⟩ := runs_bits (fun kc => m.testBit kc.1) bitsK p f (fun _ h => h) hf
  have hyt : y = t := Nat.eq_of_testBit_eq fun i => by
    rw [hyb i, any_bits (fun k => m.testBit k) i, hb i]
    by_cases hi : i < 8
    · rw [decide_eq_true hi]
      have := hs i
      cases h1 : f.testBit i <;> cases h2 : t.testBit i <;> simp_all
    · rw [testBit_8 hf hi, testBit_8 ht hi]; simp
  rw [e, ← hyt]
  exact hr
theorem okS_nat {s : Sty} (h : okS s = true) : ∃ a : Nat, s.attr = a ∧ a < 256 ∧ colOk s.fg = true ∧ colOk s.bg = true := by
  unfold okS at h
  simp only [Bool.and_eq_true, decide_eq_true_eq] at h
  exact ⟨s.attr.toNat, by omega, by omega, h.1, h.2.1⟩
theorem runs_if {b : Prop} [Decidable b] {l : List Int} {p q : Sty} (h1 : b → Runs l p q) (h2 : ¬ b → p = q) : Runs (if b then l else []) p q := by
  split
  · next h => exact h1 h
  · next h => rw [h2 h]; exact Runs.nil _
theorem runs_sgr {f t : Sty} (hf : okS f = true) (ht : okS t = true) : Runs (sgrP f t) f t := by
  obtain ⟨af, e1, l1, cf, cb⟩ := okS_nat hf
  obtain ⟨at', e2, l2, tf, tb⟩ := okS_nat ht
  obtain ⟨m, hm, _, hb⟩ := bNot_n (a := af) (b := at') (Nat.lt_trans l1 (by decide))
  have hA : Runs (if bNot f.attr t.attr ≠ 0 then [0] else []) f (sgrF f t) := by
    unfold sgrF
    by_cases h : bNot f.attr t.attr ≠ 0
    · rw [if_pos h, if_pos h]
      exact runs_one (n := 0) f (by decide) (by decide) (by decide) (by decide)
    · rw [if_neg h, if_neg h]
      exact Runs.nil _
  have hF : ∃ a : Nat, (sgrF f t).attr = a ∧ a < 256 ∧ ∀ i, a.testBit i = true → at'.testBit i = true := by
    unfold sgrF
    by_cases h : bNot f.attr t.attr ≠ 0
    · rw [if_pos h]
      exact ⟨0, rfl, by decide, fun i hi => by simp at hi⟩
    · rw [if_neg h]
      refine ⟨af, e1, l1, fun i hi => ?_⟩
      have h0 : m = 0 := by
        rw [e1, e2, hm] at h
        omega
      have := hb i
      rw [h0, Nat.zero_testBit, hi] at this
      simpa using this
  obtain ⟨a, ea, la, hs⟩ := hF
  unfold sgrP
  generalize sgrF f t = g at hA ea ⊢
  have hB := runs_sgrA g la l2 hs
  rw [← ea, ← e2] at hB
  have hB' : Runs (sgrA g.attr t.attr) g { g with attr := t.attr } := hB
  have hC : Runs (if t.fg ≠ g.fg then numP t.fg 0 else []) { g with attr := t.attr } { g with attr := t.attr, fg := t.fg } :=
    runs_if (fun _ => runs_fg _ tf) (fun h => by rw [Classical.not_not.1 h])
  have hD : Runs (if t.bg ≠ g.bg then numP t.bg 10 else []) { g with attr := t.attr, fg := t.fg } t :=
    runs_if (fun _ => runs_bg _ tb) (fun h => by rw [← Classical.not_not.1 h])
  exact ((hA.app hB').app hC).app hD
theorem Runs.nil_eq {p q : Sty} (h : Runs [] p q) : p = q := by
  obtain ⟨f, hf, e⟩ := h [] 1 0 [] rfl (by decide)
  have hx : ∀ f (s : Sty), looksF [] f 0 s = s := fun f s => by cases f <;> rfl
  rw [hx] at e
  exact e.trans (hx _ _)
theorem sgr_ne {f t : Sty} (hf : okS f = true) (ht : okS t = true) (h : f ≠ t) : sgrP f t ≠ [] := fun e => by
  have hr := runs_sgr hf ht
  rw [e] at hr
  exact h hr.nil_eq
/-- The escape from one look to another one says that look. -/
theorem looks_sgr {f t : Sty} (hf : okS f = true) (ht : okS t = true) (h : f ≠ t) : looksL (sgrP f t) f = t := (runs_sgr hf ht).all (sgr_ne hf ht h)
end Go.Proofs.YtlfdgkiliegaiaaGreatDoor

/- Package style: the numbers of a colour. -/
namespace Go.Proofs.YtlfdgkiliegaiaaGreatDoor
open Go.RowKit
set_option maxRecDepth 100000

theorem bAnd_255 (n : Nat) (h : n < 33554432) : bAnd (n : Int) 255 = (n : Int) % 256 := by
  have e : n &&& 255 = n % 256 := Nat.and_two_pow_sub_one_eq_mod n 8
  unfold bAnd
  rw [show (255 : Int) = ((255 : Nat) : Int) from rfl, BitVec.ofInt_natCast, BitVec.ofInt_natCast, BitVec.toNat_and, BitVec.toNat_ofNat, BitVec.toNat_ofNat, Nat.mod_eq_of_lt (by omega), Nat.mod_eq_of_lt (by omega), e]
  rw [wrap64_id _ (by omega) (by omega)]
  omega
theorem bits_255 (x : Int) (h0 : 0 ≤ x) (h1 : x < 33554432) : bits BinOp.and IntKind.i64 x 255 = x % 256 := by
  obtain ⟨n, rfl⟩ := Int.eq_ofNat_of_zero_le h0
  exact bAnd_255 n (by omega)
set_option maxHeartbeats 2000000 in
theorem numbers_any (c d : Int) (w : World) (hc : -1 ≤ c ∧ c < 33554432) (hd : d = 0 ∨ d = 10) :
    Calls Tryz.prog 62 #[.int .i64 c, .int .i64 d] w fun e w' => ∃ v, e = .returned v ∧ Below w.heap.size w w' ∧ Reads w' 1 v (numP c d).length ((numP c d).map (Value.int .i64)) := by
  have hd2 : 0 ≤ d ∧ d ≤ 10 := by omega
  clear hd
  by_cases h0 : c < 0
  · have hx : numP c d = [39 + d] := by unfold numP; rw [if_pos h0]
    have HX := Lib.hid hx
    have d1 : decide (c < 0) = true := decide_eq_true h0
    have hw : IntKind.i64.wrap (39 + d) = 39 + d := wrap64_id _ (by omega) (by omega)
    clear hx h0 hc hd2
    go_enter Tryz.func62, Tryz.ntmps62
    go_wp2_with fail
    refine ret1v rfl rfl rfl ⟨_, rfl, ?_⟩
    rw [HX.out]
    exact ⟨(Below.refl _ _).alloc (Nat.le_refl _) _, reads_one _ _ _⟩
  by_cases h8 : c < 8
  · have hx : numP c d = [30 + d + c] := by unfold numP; rw [if_neg h0, if_pos h8]
    have HX := Lib.hid hx
    have d0 : decide (c < 0) = false := decide_eq_false h0
    have d8 : decide (c < 8) = true := decide_eq_true h8
    have hw : IntKind.i64.wrap (30 + d) = 30 + d := wrap64_id _ (by omega) (by omega)
    have hw2 : IntKind.i64.wrap (30 + d + c) = 30 + d + c := wrap64_id _ (by omega) (by omega)
    clear hx h0 h8 hc hd2
    go_enter Tryz.func62, Tryz.ntmps62
    go_wp2_with fail
    refine ret1v rfl rfl rfl ⟨_, rfl, ?_⟩
    rw [HX.out]
    exact ⟨(Below.refl _ _).alloc (Nat.le_refl _) _, reads_one _ _ _⟩
  by_cases h16 : c < 16
  · have hx : numP c d = [82 + d + c] := by unfold numP; rw [if_neg h0, if_neg h8, if_pos h16]
    have HX := Lib.hid hx
    have d0 : decide (c < 0) = false := decide_eq_false h0
    have d8 : decide (c < 8) = false := decide_eq_false h8
    have d16 : decide (c < 16) = true := decide_eq_true h16
    have hw : IntKind.i64.wrap (82 + d) = 82 + d := wrap64_id _ (by omega) (by omega)
    have hw2 : IntKind.i64.wrap (82 + d + c) = 82 + d + c := wrap64_id _ (by omega) (by omega)
    clear hx h0 h8 h16 hc hd2
    go_enter Tryz.func62, Tryz.ntmps62
    go_wp2_with fail
    refine ret1v rfl rfl rfl ⟨_, rfl, ?_⟩
    rw [HX.out]
    exact ⟨(Below.refl _ _).alloc (Nat.le_refl _) _, reads_one _ _ _⟩
  by_cases h256 : c < 256
  · have hx : numP c d = [38 + d, 5, c] := by unfold numP; rw [if_neg h0, if_neg h8, if_neg h16, if_pos h256]
    have HX := Lib.hid hx
    have d0 : decide (c < 0) = false := decide_eq_false h0
    have d8 : decide (c < 8) = false := decide_eq_false h8
    have d16 : decide (c < 16) = false := decide_eq_false h16
    have d256 : decide (c < 256) = true := decide_eq_true h256
    have hw : IntKind.i64.wrap (38 + d) = 38 + d := wrap64_id _ (by omega) (by omega)
    clear hx h0 h8 h16 h256 hc hd2
    go_enter Tryz.func62, Tryz.ntmps62
    go_wp2_with fail
    refine ret1v rfl rfl rfl ⟨_, rfl, ?_⟩
    rw [HX.out]
    exact ⟨(Below.refl _ _).alloc (Nat.le_refl _) _, ownC_reads (ownC_own (ownsRow_new (base := 0) _ _ rfl (by omega) (by decide) rfl rfl))⟩
  have d0 : decide (c < 0) = false := decide_eq_false h0
  have d8 : decide (c < 8) = false := decide_eq_false h8
  have d16 : decide (c < 16) = false := decide_eq_false h16
  have d256 : decide (c < 256) = false := decide_eq_false h256
  have hw : IntKind.i64.wrap (38 + d) = 38 + d := wrap64_id _ (by omega) (by omega)
  have HX := Lib.hid (show numP c d = [38 + d, 2, c / 65536 % 256, c / 256 % 256, c % 256] by unfold numP; rw [if_neg h0, if_neg h8, if_neg h16, if_neg h256])
  go_enter Tryz.func62, Tryz.ntmps62
  go_wp2_with fail
  refine ret1v rfl rfl rfl ⟨_, rfl, ?_⟩
  rw [HX.out, bits_255 _ (by omega) (by omega), bits_255 _ (by omega) (by omega), bits_255 _ (by omega) (by omega)]
  exact ⟨(Below.refl _ _).alloc (Nat.le_refl _) _, ownC_reads (ownC_own (ownsRow_new (base := 0) _ _ rfl (by omega) (by decide) rfl rfl))⟩
end Go.Proofs.YtlfdgkiliegaiaaGreatDoor
