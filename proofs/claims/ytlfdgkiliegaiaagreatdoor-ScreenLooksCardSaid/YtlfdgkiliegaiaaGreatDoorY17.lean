import Derived.Test.YtlfdgkiliegaiaaGreatDoorY16
import Derived.Test.YtlfdgkiliegaiaaGreatDoorY15
import Derived.Test.YtlfdgkiliegaiaaGreatDoorY5
/- Walks of package screen: other control sequences. -/
namespace Go.Proofs.YtlfdgkiliegaiaaGreatDoor
open Go.RowKit
set_option maxRecDepth 100000

theorem zero_bools (n : Nat) : (Builtin.zeroCells (Value.bool false).cells n).toList = (List.replicate n false).map Value.bool := by
  apply List.ext_getElem
  · simp [Builtin.zeroCells, Value.cells]
  · intro i h1 h2
    simp [Builtin.zeroCells, Value.cells, Nat.mod_one]
set_option maxHeartbeats 4000000 in
theorem othersS_any {B : World} {C : Nat → Nat} {p c r : Nat} {w : World} {s : Scr} {ps : PSt} (h : SR B C p w s ps) (hok : s.Ok c r) (a : VAct) (v : Value) (hv : Apart C w v a.params) (ho : s.out.length ≤ 100000) :
    Calls Tryz.prog 164 #[.pointer (some ⟨p, 0, none⟩), a.val v] w fun e w' => e = .returned (.tuple #[]) ∧ Does B C p w w' (s.others (a.byte.toNat : Int) a.params) ps := by
  have hbx := boxed_new h hv
  have hbb := (Below.refl w.heap.size w).alloc (Nat.le_refl _) (.cells (a.cells v).toArray 75)
  unfold VAct.cells at hbb
  have HR0 := Lib.hid (h.below hbb)
  have HP0 := Lib.hid ((Pre.refl C w).below hbb)
  have HBX := Lib.hid hbx
  have HOK := Lib.hid hok
  have HN := Lib.hid (h.nums hok)
  have HOL := Lib.hid (show s.out.length ≤ 1000000 by omega)
  have HOS := Lib.hid ho
  clear hbx hbb hv h hok ho
  unfold VAct.val
  obtain ⟨A, hA⟩ : ∃ A, A = w.heap.size := ⟨_, rfl⟩
  rw [← hA] at HBX
  have HBX2 := Lib.hid (show Boxed a v A C (w.alloc (.cells #[.int .i64 a.kind, .int .i32 a.rune, .int .u8 (a.byte.toNat : Int), v, .string a.inter, .string a.text] 75)) from HBX.out)
  clear HBX
  have a0 : (w.alloc (.cells #[.int .i64 a.kind, .int .i32 a.rune, .int .u8 (a.byte.toNat : Int), v, .string a.inter, .string a.text] 75)).cell? ⟨A, 0, none⟩ = some (.int .i64 a.kind) := blk_cell HBX2.out.blk 0
  have a1 : (w.alloc (.cells #[.int .i64 a.kind, .int .i32 a.rune, .int .u8 (a.byte.toNat : Int), v, .string a.inter, .string a.text] 75)).cell? ⟨A, 1, none⟩ = some (.int .i32 a.rune) := blk_cell HBX2.out.blk 1
  have a2 : (w.alloc (.cells #[.int .i64 a.kind, .int .i32 a.rune, .int .u8 (a.byte.toNat : Int), v, .string a.inter, .string a.text] 75)).cell? ⟨A, 2, none⟩ = some (.int .u8 (a.byte.toNat : Int)) := blk_cell HBX2.out.blk 2
  have a3 : (w.alloc (.cells #[.int .i64 a.kind, .int .i32 a.rune, .int .u8 (a.byte.toNat : Int), v, .string a.inter, .string a.text] 75)).cell? ⟨A, 3, none⟩ = some (v) := blk_cell HBX2.out.blk 3
  have a4 : (w.alloc (.cells #[.int .i64 a.kind, .int .i32 a.rune, .int .u8 (a.byte.toNat : Int), v, .string a.inter, .string a.text] 75)).cell? ⟨A, 4, none⟩ = some (.string a.inter) := blk_cell HBX2.out.blk 4
  have a5 : (w.alloc (.cells #[.int .i64 a.kind, .int .i32 a.rune, .int .u8 (a.byte.toNat : Int), v, .string a.inter, .string a.text] 75)).cell? ⟨A, 5, none⟩ = some (.string a.text) := blk_cell HBX2.out.blk 5
  rw [hA] at a0 a1 a2 a3 a4 a5
  go_enter Tryz.func164, Tryz.ntmps164
  go_wp2_with fail
  rw [← hA]
  rw [← hA] at a0 a1 a2 a3 a4 a5
  clear hA
  generalize (w.alloc (.cells #[.int .i64 a.kind, .int .i32 a.rune, .int .u8 (a.byte.toNat : Int), v, .string a.inter, .string a.text] 75)) = w1 at *
  refine (param_any a v w1 HBX2.out.ap.rd 0 0).mono ?_
  rintro e w2 ⟨rfl, b2⟩
  have HR := Lib.hid (HR0.out.below b2)
  have HB := Lib.hid (HBX2.out.below b2)
  have HP := Lib.hid (HP0.out.below b2)
  clear b2 a0 a1 a2 a3 a4 a5 HR0 HP0 HBX2
  have HRG := Lib.hid (par_range a.params 0 0 (by decide) (by decide))
  obtain ⟨n, hn⟩ : ∃ n, n = par a.params 0 0 := ⟨_, rfl⟩
  rw [← hn] at HRG ⊢
  have HNP := Lib.hid hn
  clear hn
  have a0 : w2.cell? ⟨A, 0, none⟩ = some (.int .i64 a.kind) := blk_cell HB.out.blk 0
  have a1 : w2.cell? ⟨A, 1, none⟩ = some (.int .i32 a.rune) := blk_cell HB.out.blk 1
  have a2 : w2.cell? ⟨A, 2, none⟩ = some (.int .u8 (a.byte.toNat : Int)) := blk_cell HB.out.blk 2
  have a3 : w2.cell? ⟨A, 3, none⟩ = some (v) := blk_cell HB.out.blk 3
  have a4 : w2.cell? ⟨A, 4, none⟩ = some (.string a.inter) := blk_cell HB.out.blk 4
  have a5 : w2.cell? ⟨A, 5, none⟩ = some (.string a.text) := blk_cell HB.out.blk 5
  by_cases hc72 : (a.byte.toNat : Int) = 72
  · have HE := Lib.hid (show s.others (a.byte.toNat : Int) a.params = s.place (max 1 (par a.params 1 1) - 1) (s.line (max 1 (par a.params 0 1) - 1)) by rw [hc72]; first | rfl | (rw [HNP.out]; rfl))
    have e72 : ((a.byte.toNat : Int) == 72) = true := beq_iff_eq.2 hc72
    have e102 : ((a.byte.toNat : Int) == 102) = false := beq_eq_false_iff_ne.2 (by omega)
    have e74 : ((a.byte.toNat : Int) == 74) = false := beq_eq_false_iff_ne.2 (by omega)
    have e75 : ((a.byte.toNat : Int) == 75) = false := beq_eq_false_iff_ne.2 (by omega)
    have e99 : ((a.byte.toNat : Int) == 99) = false := beq_eq_false_iff_ne.2 (by omega)
    have e110 : ((a.byte.toNat : Int) == 110) = false := beq_eq_false_iff_ne.2 (by omega)
    have e103 : ((a.byte.toNat : Int) == 103) = false := beq_eq_false_iff_ne.2 (by omega)
    have e104 : ((a.byte.toNat : Int) == 104) = false := beq_eq_false_iff_ne.2 (by omega)
    have e108 : ((a.byte.toNat : Int) == 108) = false := beq_eq_false_iff_ne.2 (by omega)
    have e109 : ((a.byte.toNat : Int) == 109) = false := beq_eq_false_iff_ne.2 (by omega)
    have e114 : ((a.byte.toNat : Int) == 114) = false := beq_eq_false_iff_ne.2 (by omega)
    have e115 : ((a.byte.toNat : Int) == 115) = false := beq_eq_false_iff_ne.2 (by omega)
    have e117 : ((a.byte.toNat : Int) == 117) = false := beq_eq_false_iff_ne.2 (by omega)
    clear hc72
    have HP1 := Lib.hid (par_range a.params 1 1 (by decide) (by decide))
    have HP2 := Lib.hid (par_range a.params 0 1 (by decide) (by decide))
    have hw1 : IntKind.i64.wrap (max 1 (par a.params 1 1) - 1) = max 1 (par a.params 1 1) - 1 := by have := HP1.out; exact wrap64_id _ (by omega) (by omega)
    have hw2 : IntKind.i64.wrap (max 1 (par a.params 0 1) - 1) = max 1 (par a.params 0 1) - 1 := by have := HP2.out; exact wrap64_id _ (by omega) (by omega)
    go_upto_region 5 with fail
    refine wpL_begin (c := 11) (S := (fun bb w' => (w'.cell? ⟨A, 0, none⟩ = some (.int .i64 a.kind) ∧ w'.cell? ⟨A, 1, none⟩ = some (.int .i32 a.rune) ∧ w'.cell? ⟨A, 2, none⟩ = some (.int .u8 (a.byte.toNat : Int)) ∧ w'.cell? ⟨A, 3, none⟩ = some (v) ∧ w'.cell? ⟨A, 4, none⟩ = some (.string a.inter) ∧ w'.cell? ⟨A, 5, none⟩ = some (.string a.text)) ∧ (bb = false → True))) (by kernel_rfl) (⟨⟨a0, a1, a2, a3, a4, a5⟩, fun _ => trivial⟩) (fun _ => ?_)
    refine wpL_tk false 0 (⟨⟨a0, a1, a2, a3, a4, a5⟩, fun _ => trivial⟩) ?_
    refine wpL_tk false 1 (⟨⟨a0, a1, a2, a3, a4, a5⟩, fun _ => trivial⟩) ?_
    refine wpL_tk false 5 (⟨⟨a0, a1, a2, a3, a4, a5⟩, fun _ => trivial⟩) ?_
    refine wpL_tk false 6 (⟨⟨a0, a1, a2, a3, a4, a5⟩, fun _ => trivial⟩) ?_
    refine wpL_on false 2 fun K hK => ?_
    refine wanted_on rfl ?_
    go_wp2_with fail
    refine (param_any a v w2.drew (HB.out.below (Below.refl _ _).drew).ap.rd 1 1).mono ?_
    rintro e w4 ⟨rfl, b4⟩
    have HR4 := Lib.hid ((HR.out.below (Below.refl _ _).drew).below b4)
    have HB4 := Lib.hid ((HB.out.below (Below.refl _ _).drew).below b4)
    have HP4 := Lib.hid ((HP.out.below (Below.refl _ _).drew).below b4)
    refine hK.out _ _ (⟨⟨blk_cell HB4.out.blk 0, blk_cell HB4.out.blk 1, blk_cell HB4.out.blk 2, blk_cell HB4.out.blk 3, blk_cell HB4.out.blk 4, blk_cell HB4.out.blk 5⟩, fun _ => trivial⟩) (fun _ => ?_)
    clear hK K b4
    try simp only [Act.put, List.setIfInBounds_toArray, List.set_cons_zero, List.set_cons_succ]
    refine wpL_tk false 3 (⟨⟨blk_cell HB4.out.blk 0, blk_cell HB4.out.blk 1, blk_cell HB4.out.blk 2, blk_cell HB4.out.blk 3, blk_cell HB4.out.blk 4, blk_cell HB4.out.blk 5⟩, fun _ => trivial⟩) ?_
    refine wpL_tk false 4 (⟨⟨blk_cell HB4.out.blk 0, blk_cell HB4.out.blk 1, blk_cell HB4.out.blk 2, blk_cell HB4.out.blk 3, blk_cell HB4.out.blk 4, blk_cell HB4.out.blk 5⟩, fun _ => trivial⟩) ?_
    refine wpL_on false 7 fun K hK => ?_
    refine wanted_on rfl ?_
    go_wp2_with fail
    refine (param_any a v w4 HB4.out.ap.rd 0 1).mono ?_
    rintro e w5 ⟨rfl, b5⟩
    have HR5 := Lib.hid (HR4.out.below b5)
    have HB5 := Lib.hid (HB4.out.below b5)
    have HP5 := Lib.hid (HP4.out.below b5)
    refine hK.out _ _ (⟨⟨blk_cell HB5.out.blk 0, blk_cell HB5.out.blk 1, blk_cell HB5.out.blk 2, blk_cell HB5.out.blk 3, blk_cell HB5.out.blk 4, blk_cell HB5.out.blk 5⟩, fun _ => trivial⟩) (fun _ => ?_)
    clear hK K b5
    try simp only [Act.put, List.setIfInBounds_toArray, List.set_cons_zero, List.set_cons_succ]
    refine wpL_tk false 8 (⟨⟨blk_cell HB5.out.blk 0, blk_cell HB5.out.blk 1, blk_cell HB5.out.blk 2, blk_cell HB5.out.blk 3, blk_cell HB5.out.blk 4, blk_cell HB5.out.blk 5⟩, fun _ => trivial⟩) ?_
    refine wpL_tk false 9 (⟨⟨blk_cell HB5.out.blk 0, blk_cell HB5.out.blk 1, blk_cell HB5.out.blk 2, blk_cell HB5.out.blk 3, blk_cell HB5.out.blk 4, blk_cell HB5.out.blk 5⟩, fun _ => trivial⟩) ?_
    refine wpL_on false 10 fun K hK => ?_
    refine wanted_on rfl ?_
    go_wp2_with fail
    refine (lineS_any HR5.out (max 1 (par a.params 0 1) - 1) (by have := HP2.out; omega) (by have h1 := HN.out.t0; have h2 := HN.out.tb; have h3 := HN.out.b1; have h4 := HN.out.r2; omega)).mono ?_
    rintro e w6 ⟨rfl, m, hw6⟩
    have b6 : Below w5.heap.size w5 w6 := hw6 ▸ below_drewN (Below.refl _ _) m
    have HR6 := Lib.hid (HR5.out.below b6)
    have HB6 := Lib.hid (HB5.out.below b6)
    have HP6 := Lib.hid (HP5.out.below b6)
    refine hK.out _ _ (⟨⟨blk_cell HB6.out.blk 0, blk_cell HB6.out.blk 1, blk_cell HB6.out.blk 2, blk_cell HB6.out.blk 3, blk_cell HB6.out.blk 4, blk_cell HB6.out.blk 5⟩, fun _ => trivial⟩) (fun _ => ?_)
    clear hK K b6 hw6
    try simp only [Act.put, List.setIfInBounds_toArray, List.set_cons_zero, List.set_cons_succ]
    refine wpL_on true 11 fun K hK => ?_
    refine wanted_on rfl ?_
    go_wp2_with fail
    refine (placeS_any HR6.out _ _).mono ?_
    rintro e w7 ⟨rfl, C7, h7, p7⟩
    have HB7 := Lib.hid (HB6.out.next p7)
    have HR7 := Lib.hid h7
    have HP7 := Lib.hid (HP6.out.trans p7)
    refine hK.out _ _ (⟨⟨blk_cell HB7.out.blk 0, blk_cell HB7.out.blk 1, blk_cell HB7.out.blk 2, blk_cell HB7.out.blk 3, blk_cell HB7.out.blk 4, blk_cell HB7.out.blk 5⟩, fun e => by cases e⟩) (fun _ => ?_)
    clear hK K h7 p7
    try simp only [Act.put, List.setIfInBounds_toArray, List.set_cons_zero, List.set_cons_succ]
    refine wpL_done (by kernel_rfl) ?_ _
    go_wp2_with fail
    go_end0
    refine ⟨rfl, ?_⟩
    rw [HE.out]
    exact ⟨_, HR7.out, HP7.out⟩
  by_cases hc102 : (a.byte.toNat : Int) = 102
  · have HE := Lib.hid (show s.others (a.byte.toNat : Int) a.params = s.place (max 1 (par a.params 1 1) - 1) (s.line (max 1 (par a.params 0 1) - 1)) by rw [hc102]; first | rfl | (rw [HNP.out]; rfl))
    have e72 : ((a.byte.toNat : Int) == 72) = false := beq_eq_false_iff_ne.2 (by omega)
    have e102 : ((a.byte.toNat : Int) == 102) = true := beq_iff_eq.2 hc102
    have e74 : ((a.byte.toNat : Int) == 74) = false := beq_eq_false_iff_ne.2 (by omega)
    have e75 : ((a.byte.toNat : Int) == 75) = false := beq_eq_false_iff_ne.2 (by omega)
    have e99 : ((a.byte.toNat : Int) == 99) = false := beq_eq_false_iff_ne.2 (by omega)
    have e110 : ((a.byte.toNat : Int) == 110) = false := beq_eq_false_iff_ne.2 (by omega)
    have e103 : ((a.byte.toNat : Int) == 103) = false := beq_eq_false_iff_ne.2 (by omega)
    have e104 : ((a.byte.toNat : Int) == 104) = false := beq_eq_false_iff_ne.2 (by omega)
    have e108 : ((a.byte.toNat : Int) == 108) = false := beq_eq_false_iff_ne.2 (by omega)
    have e109 : ((a.byte.toNat : Int) == 109) = false := beq_eq_false_iff_ne.2 (by omega)
    have e114 : ((a.byte.toNat : Int) == 114) = false := beq_eq_false_iff_ne.2 (by omega)
    have e115 : ((a.byte.toNat : Int) == 115) = false := beq_eq_false_iff_ne.2 (by omega)
    have e117 : ((a.byte.toNat : Int) == 117) = false := beq_eq_false_iff_ne.2 (by omega)
    clear hc72 hc102
    have HP1 := Lib.hid (par_range a.params 1 1 (by decide) (by decide))
    have HP2 := Lib.hid (par_range a.params 0 1 (by decide) (by decide))
    have hw1 : IntKind.i64.wrap (max 1 (par a.params 1 1) - 1) = max 1 (par a.params 1 1) - 1 := by have := HP1.out; exact wrap64_id _ (by omega) (by omega)
    have hw2 : IntKind.i64.wrap (max 1 (par a.params 0 1) - 1) = max 1 (par a.params 0 1) - 1 := by have := HP2.out; exact wrap64_id _ (by omega) (by omega)
    go_upto_region 5 with fail
    refine wpL_begin (c := 11) (S := (fun bb w' => (w'.cell? ⟨A, 0, none⟩ = some (.int .i64 a.kind) ∧ w'.cell? ⟨A, 1, none⟩ = some (.int .i32 a.rune) ∧ w'.cell? ⟨A, 2, none⟩ = some (.int .u8 (a.byte.toNat : Int)) ∧ w'.cell? ⟨A, 3, none⟩ = some (v) ∧ w'.cell? ⟨A, 4, none⟩ = some (.string a.inter) ∧ w'.cell? ⟨A, 5, none⟩ = some (.string a.text)) ∧ (bb = false → True))) (by kernel_rfl) (⟨⟨a0, a1, a2, a3, a4, a5⟩, fun _ => trivial⟩) (fun _ => ?_)
    refine wpL_tk false 0 (⟨⟨a0, a1, a2, a3, a4, a5⟩, fun _ => trivial⟩) ?_
    refine wpL_tk false 1 (⟨⟨a0, a1, a2, a3, a4, a5⟩, fun _ => trivial⟩) ?_
    refine wpL_tk false 5 (⟨⟨a0, a1, a2, a3, a4, a5⟩, fun _ => trivial⟩) ?_
    refine wpL_tk false 6 (⟨⟨a0, a1, a2, a3, a4, a5⟩, fun _ => trivial⟩) ?_
    refine wpL_on false 2 fun K hK => ?_
    refine wanted_on rfl ?_
    go_wp2_with fail
    refine (param_any a v w2.drew (HB.out.below (Below.refl _ _).drew).ap.rd 1 1).mono ?_
    rintro e w4 ⟨rfl, b4⟩
    have HR4 := Lib.hid ((HR.out.below (Below.refl _ _).drew).below b4)
    have HB4 := Lib.hid ((HB.out.below (Below.refl _ _).drew).below b4)
    have HP4 := Lib.hid ((HP.out.below (Below.refl _ _).drew).below b4)
    refine hK.out _ _ (⟨⟨blk_cell HB4.out.blk 0, blk_cell HB4.out.blk 1, blk_cell HB4.out.blk 2, blk_cell HB4.out.blk 3, blk_cell HB4.out.blk 4, blk_cell HB4.out.blk 5⟩, fun _ => trivial⟩) (fun _ => ?_)
    clear hK K b4
    try simp only [Act.put, List.setIfInBounds_toArray, List.set_cons_zero, List.set_cons_succ]
    refine wpL_tk false 3 (⟨⟨blk_cell HB4.out.blk 0, blk_cell HB4.out.blk 1, blk_cell HB4.out.blk 2, blk_cell HB4.out.blk 3, blk_cell HB4.out.blk 4, blk_cell HB4.out.blk 5⟩, fun _ => trivial⟩) ?_
    refine wpL_tk false 4 (⟨⟨blk_cell HB4.out.blk 0, blk_cell HB4.out.blk 1, blk_cell HB4.out.blk 2, blk_cell HB4.out.blk 3, blk_cell HB4.out.blk 4, blk_cell HB4.out.blk 5⟩, fun _ => trivial⟩) ?_
    refine wpL_on false 7 fun K hK => ?_
    refine wanted_on rfl ?_
    go_wp2_with fail
    refine (param_any a v w4 HB4.out.ap.rd 0 1).mono ?_
    rintro e w5 ⟨rfl, b5⟩
    have HR5 := Lib.hid (HR4.out.below b5)
    have HB5 := Lib.hid (HB4.out.below b5)
    have HP5 := Lib.hid (HP4.out.below b5)
    refine hK.out _ _ (⟨⟨blk_cell HB5.out.blk 0, blk_cell HB5.out.blk 1, blk_cell HB5.out.blk 2, blk_cell HB5.out.blk 3, blk_cell HB5.out.blk 4, blk_cell HB5.out.blk 5⟩, fun _ => trivial⟩) (fun _ => ?_)
    clear hK K b5
    try simp only [Act.put, List.setIfInBounds_toArray, List.set_cons_zero, List.set_cons_succ]
    refine wpL_tk false 8 (⟨⟨blk_cell HB5.out.blk 0, blk_cell HB5.out.blk 1, blk_cell HB5.out.blk 2, blk_cell HB5.out.blk 3, blk_cell HB5.out.blk 4, blk_cell HB5.out.blk 5⟩, fun _ => trivial⟩) ?_
    refine wpL_tk false 9 (⟨⟨blk_cell HB5.out.blk 0, blk_cell HB5.out.blk 1, blk_cell HB5.out.blk 2, blk_cell HB5.out.blk 3, blk_cell HB5.out.blk 4, blk_cell HB5.out.blk 5⟩, fun _ => trivial⟩) ?_
    refine wpL_on false 10 fun K hK => ?_
    refine wanted_on rfl ?_
    go_wp2_with fail
    refine (lineS_any HR5.out (max 1 (par a.params 0 1) - 1) (by have := HP2.out; omega) (by have h1 := HN.out.t0; have h2 := HN.out.tb; have h3 := HN.out.b1; have h4 := HN.out.r2; omega)).mono ?_
    rintro e w6 ⟨rfl, m, hw6⟩
    have b6 : Below w5.heap.size w5 w6 := hw6 ▸ below_drewN (Below.refl _ _) m
    have HR6 := Lib.hid (HR5.out.below b6)
    have HB6 := Lib.hid (HB5.out.below b6)
    have HP6 := Lib.hid (HP5.out.below b6)
    refine hK.out _ _ (⟨⟨blk_cell HB6.out.blk 0, blk_cell HB6.out.blk 1, blk_cell HB6.out.blk 2, blk_cell HB6.out.blk 3, blk_cell HB6.out.blk 4, blk_cell HB6.out.blk 5⟩, fun _ => trivial⟩) (fun _ => ?_)
    clear hK K b6 hw6
    try simp only [Act.put, List.setIfInBounds_toArray, List.set_cons_zero, List.set_cons_succ]
    refine wpL_on true 11 fun K hK => ?_
    refine wanted_on rfl ?_
    go_wp2_with fail
    refine (placeS_any HR6.out _ _).mono ?_
    rintro e w7 ⟨rfl, C7, h7, p7⟩
    have HB7 := Lib.hid (HB6.out.next p7)
    have HR7 := Lib.hid h7
    have HP7 := Lib.hid (HP6.out.trans p7)
    refine hK.out _ _ (⟨⟨blk_cell HB7.out.blk 0, blk_cell HB7.out.blk 1, blk_cell HB7.out.blk 2, blk_cell HB7.out.blk 3, blk_cell HB7.out.blk 4, blk_cell HB7.out.blk 5⟩, fun e => by cases e⟩) (fun _ => ?_)
    clear hK K h7 p7
    try simp only [Act.put, List.setIfInBounds_toArray, List.set_cons_zero, List.set_cons_succ]
    refine wpL_done (by kernel_rfl) ?_ _
    go_wp2_with fail
    go_end0
    refine ⟨rfl, ?_⟩
    rw [HE.out]
    exact ⟨_, HR7.out, HP7.out⟩
  by_cases hc74 : (a.byte.toNat : Int) = 74
  · have HE := Lib.hid (show s.others (a.byte.toNat : Int) a.params = s.inAll n by rw [hc74]; first | rfl | (rw [HNP.out]; rfl))
    have e72 : ((a.byte.toNat : Int) == 72) = false := beq_eq_false_iff_ne.2 (by omega)
    have e102 : ((a.byte.toNat : Int) == 102) = false := beq_eq_false_iff_ne.2 (by omega)
    have e74 : ((a.byte.toNat : Int) == 74) = true := beq_iff_eq.2 hc74
    have e75 : ((a.byte.toNat : Int) == 75) = false := beq_eq_false_iff_ne.2 (by omega)
    have e99 : ((a.byte.toNat : Int) == 99) = false := beq_eq_false_iff_ne.2 (by omega)
    have e110 : ((a.byte.toNat : Int) == 110) = false := beq_eq_false_iff_ne.2 (by omega)
    have e103 : ((a.byte.toNat : Int) == 103) = false := beq_eq_false_iff_ne.2 (by omega)
    have e104 : ((a.byte.toNat : Int) == 104) = false := beq_eq_false_iff_ne.2 (by omega)
    have e108 : ((a.byte.toNat : Int) == 108) = false := beq_eq_false_iff_ne.2 (by omega)
    have e109 : ((a.byte.toNat : Int) == 109) = false := beq_eq_false_iff_ne.2 (by omega)
    have e114 : ((a.byte.toNat : Int) == 114) = false := beq_eq_false_iff_ne.2 (by omega)
    have e115 : ((a.byte.toNat : Int) == 115) = false := beq_eq_false_iff_ne.2 (by omega)
    have e117 : ((a.byte.toNat : Int) == 117) = false := beq_eq_false_iff_ne.2 (by omega)
    clear hc72 hc102 hc74
    go_wp2_with fail
    refine (inAllS_any HR.out HOK.out n).mono ?_
    rintro e wc1 ⟨rfl, Cc1, hc1, pc1⟩
    have Hc1 := Lib.hid hc1
    have Pc1 := Lib.hid (HP.out.trans pc1)
    clear hc1 pc1
    go_wp2_with fail
    go_end0
    refine ⟨rfl, ?_⟩
    rw [HE.out]
    exact ⟨_, Hc1.out, Pc1.out⟩
  by_cases hc75 : (a.byte.toNat : Int) = 75
  · have HE := Lib.hid (show s.others (a.byte.toNat : Int) a.params = s.inRow n by rw [hc75]; first | rfl | (rw [HNP.out]; rfl))
    have e72 : ((a.byte.toNat : Int) == 72) = false := beq_eq_false_iff_ne.2 (by omega)
    have e102 : ((a.byte.toNat : Int) == 102) = false := beq_eq_false_iff_ne.2 (by omega)
    have e74 : ((a.byte.toNat : Int) == 74) = false := beq_eq_false_iff_ne.2 (by omega)
    have e75 : ((a.byte.toNat : Int) == 75) = true := beq_iff_eq.2 hc75
    have e99 : ((a.byte.toNat : Int) == 99) = false := beq_eq_false_iff_ne.2 (by omega)
    have e110 : ((a.byte.toNat : Int) == 110) = false := beq_eq_false_iff_ne.2 (by omega)
    have e103 : ((a.byte.toNat : Int) == 103) = false := beq_eq_false_iff_ne.2 (by omega)
    have e104 : ((a.byte.toNat : Int) == 104) = false := beq_eq_false_iff_ne.2 (by omega)
    have e108 : ((a.byte.toNat : Int) == 108) = false := beq_eq_false_iff_ne.2 (by omega)
    have e109 : ((a.byte.toNat : Int) == 109) = false := beq_eq_false_iff_ne.2 (by omega)
    have e114 : ((a.byte.toNat : Int) == 114) = false := beq_eq_false_iff_ne.2 (by omega)
    have e115 : ((a.byte.toNat : Int) == 115) = false := beq_eq_false_iff_ne.2 (by omega)
    have e117 : ((a.byte.toNat : Int) == 117) = false := beq_eq_false_iff_ne.2 (by omega)
    clear hc72 hc102 hc74 hc75
    go_wp2_with fail
    refine (inRowS_any HR.out HOK.out n).mono ?_
    rintro e wc1 ⟨rfl, Cc1, hc1, pc1⟩
    have Hc1 := Lib.hid hc1
    have Pc1 := Lib.hid (HP.out.trans pc1)
    clear hc1 pc1
    go_wp2_with fail
    go_end0
    refine ⟨rfl, ?_⟩
    rw [HE.out]
    exact ⟨_, Hc1.out, Pc1.out⟩
  by_cases hc99 : (a.byte.toNat : Int) = 99
  · have HE := Lib.hid (show s.others (a.byte.toNat : Int) a.params = if n = 0 then s.say da1 else s by rw [hc99]; first | rfl | (rw [HNP.out]; rfl))
    have e72 : ((a.byte.toNat : Int) == 72) = false := beq_eq_false_iff_ne.2 (by omega)
    have e102 : ((a.byte.toNat : Int) == 102) = false := beq_eq_false_iff_ne.2 (by omega)
    have e74 : ((a.byte.toNat : Int) == 74) = false := beq_eq_false_iff_ne.2 (by omega)
    have e75 : ((a.byte.toNat : Int) == 75) = false := beq_eq_false_iff_ne.2 (by omega)
    have e99 : ((a.byte.toNat : Int) == 99) = true := beq_iff_eq.2 hc99
    have e110 : ((a.byte.toNat : Int) == 110) = false := beq_eq_false_iff_ne.2 (by omega)
    have e103 : ((a.byte.toNat : Int) == 103) = false := beq_eq_false_iff_ne.2 (by omega)
    have e104 : ((a.byte.toNat : Int) == 104) = false := beq_eq_false_iff_ne.2 (by omega)
    have e108 : ((a.byte.toNat : Int) == 108) = false := beq_eq_false_iff_ne.2 (by omega)
    have e109 : ((a.byte.toNat : Int) == 109) = false := beq_eq_false_iff_ne.2 (by omega)
    have e114 : ((a.byte.toNat : Int) == 114) = false := beq_eq_false_iff_ne.2 (by omega)
    have e115 : ((a.byte.toNat : Int) == 115) = false := beq_eq_false_iff_ne.2 (by omega)
    have e117 : ((a.byte.toNat : Int) == 117) = false := beq_eq_false_iff_ne.2 (by omega)
    clear hc72 hc102 hc74 hc75 hc99
    by_cases hz : n = 0
    · have ez : (n == 0) = true := beq_iff_eq.2 hz
      have HE := Lib.hid (show s.others (a.byte.toNat : Int) a.params = s.say da1 by rw [HE.out, if_pos hz])
      clear hz
      go_wp2_with fail
      refine (sayS_any HR.out ⟨#[27, 91, 63, 54, 50, 59, 99]⟩ HOL.out (by decide)).mono ?_
      rintro e wc1 ⟨rfl, Cc1, hc1, pc1⟩
      have Hc1 := Lib.hid hc1
      have Pc1 := Lib.hid (HP.out.trans pc1)
      clear hc1 pc1
      go_wp2_with fail
      go_end0
      refine ⟨rfl, ?_⟩
      rw [HE.out]
      exact ⟨_, Hc1.out, Pc1.out⟩
    · have ez : (n == 0) = false := beq_eq_false_iff_ne.2 hz
      have HE := Lib.hid (show s.others (a.byte.toNat : Int) a.params = s by rw [HE.out, if_neg hz])
      clear hz
      go_wp2_with fail
      go_end0
      refine ⟨rfl, ?_⟩
      rw [HE.out]
      exact ⟨_, HR.out, HP.out⟩
  by_cases hc110 : (a.byte.toNat : Int) = 110
  · have HE := Lib.hid (show s.others (a.byte.toNat : Int) a.params = s.report n by rw [hc110]; first | rfl | (rw [HNP.out]; rfl))
    have e72 : ((a.byte.toNat : Int) == 72) = false := beq_eq_false_iff_ne.2 (by omega)
    have e102 : ((a.byte.toNat : Int) == 102) = false := beq_eq_false_iff_ne.2 (by omega)
    have e74 : ((a.byte.toNat : Int) == 74) = false := beq_eq_false_iff_ne.2 (by omega)
    have e75 : ((a.byte.toNat : Int) == 75) = false := beq_eq_false_iff_ne.2 (by omega)
    have e99 : ((a.byte.toNat : Int) == 99) = false := beq_eq_false_iff_ne.2 (by omega)
    have e110 : ((a.byte.toNat : Int) == 110) = true := beq_iff_eq.2 hc110
    have e103 : ((a.byte.toNat : Int) == 103) = false := beq_eq_false_iff_ne.2 (by omega)
    have e104 : ((a.byte.toNat : Int) == 104) = false := beq_eq_false_iff_ne.2 (by omega)
    have e108 : ((a.byte.toNat : Int) == 108) = false := beq_eq_false_iff_ne.2 (by omega)
    have e109 : ((a.byte.toNat : Int) == 109) = false := beq_eq_false_iff_ne.2 (by omega)
    have e114 : ((a.byte.toNat : Int) == 114) = false := beq_eq_false_iff_ne.2 (by omega)
    have e115 : ((a.byte.toNat : Int) == 115) = false := beq_eq_false_iff_ne.2 (by omega)
    have e117 : ((a.byte.toNat : Int) == 117) = false := beq_eq_false_iff_ne.2 (by omega)
    clear hc72 hc102 hc74 hc75 hc99 hc110
    go_wp2_with fail
    refine (reportS_any HR.out HOK.out n HOS.out).mono ?_
    rintro e wc1 ⟨rfl, Cc1, hc1, pc1⟩
    have Hc1 := Lib.hid hc1
    have Pc1 := Lib.hid (HP.out.trans pc1)
    clear hc1 pc1
    go_wp2_with fail
    go_end0
    refine ⟨rfl, ?_⟩
    rw [HE.out]
    exact ⟨_, Hc1.out, Pc1.out⟩
  by_cases hc103 : (a.byte.toNat : Int) = 103
  · have HE := Lib.hid (show s.others (a.byte.toNat : Int) a.params = if n = 0 then { s with tabs := s.tabs.set s.now.x.toNat false } else if n = 3 then { s with tabs := List.replicate s.tabs.length false } else s by rw [hc103]; first | rfl | (rw [HNP.out]; rfl))
    have e72 : ((a.byte.toNat : Int) == 72) = false := beq_eq_false_iff_ne.2 (by omega)
    have e102 : ((a.byte.toNat : Int) == 102) = false := beq_eq_false_iff_ne.2 (by omega)
    have e74 : ((a.byte.toNat : Int) == 74) = false := beq_eq_false_iff_ne.2 (by omega)
    have e75 : ((a.byte.toNat : Int) == 75) = false := beq_eq_false_iff_ne.2 (by omega)
    have e99 : ((a.byte.toNat : Int) == 99) = false := beq_eq_false_iff_ne.2 (by omega)
    have e110 : ((a.byte.toNat : Int) == 110) = false := beq_eq_false_iff_ne.2 (by omega)
    have e103 : ((a.byte.toNat : Int) == 103) = true := beq_iff_eq.2 hc103
    have e104 : ((a.byte.toNat : Int) == 104) = false := beq_eq_false_iff_ne.2 (by omega)
    have e108 : ((a.byte.toNat : Int) == 108) = false := beq_eq_false_iff_ne.2 (by omega)
    have e109 : ((a.byte.toNat : Int) == 109) = false := beq_eq_false_iff_ne.2 (by omega)
    have e114 : ((a.byte.toNat : Int) == 114) = false := beq_eq_false_iff_ne.2 (by omega)
    have e115 : ((a.byte.toNat : Int) == 115) = false := beq_eq_false_iff_ne.2 (by omega)
    have e117 : ((a.byte.toNat : Int) == 117) = false := beq_eq_false_iff_ne.2 (by omega)
    clear hc72 hc102 hc74 hc75 hc99 hc110 hc103
    by_cases hz : n = 0
    · have ez : (n == 0) = true := beq_iff_eq.2 hz
      have HE := Lib.hid (show s.others (a.byte.toNat : Int) a.params = { s with tabs := s.tabs.set s.now.x.toNat false } by rw [HE.out, if_pos hz])
      clear hz
      have hnu := HN.out
      obtain ⟨x, hx⟩ : ∃ x : Nat, s.now.x = x := ⟨s.now.x.toNat, by have := hnu.x0; omega⟩
      obtain ⟨bb, off, cc, ct, hi, hc, hf, hd⟩ := tabs_store (HR.out.below (Below.refl w2.heap.size w2).drew) x (by have := hnu.x1; have := hnu.tl; omega) false
      have HD := Lib.hid (Does.after (HP.out.below (Below.refl w2.heap.size w2).drew) hd)
      have HXE := Lib.hid (show s.now.x.toNat = x by rw [hx, Int.toNat_natCast])
      have c0 : w2.cell? ⟨p, 0, none⟩ = some (.int .i64 x) := by rw [← hx]; exact HR.out.at_ 0 _
      have ct2 : w2.cell? ⟨p, 35, none⟩ = some (.slice (some ⟨bb, off, none⟩) s.tabs.length cc) := ct
      have hc2 : w2.cell? ⟨bb, off + x, none⟩ = some (.bool (s.tabs.getD x false)) := hc
      have hf2 : w2.frozen? ⟨bb, off + x, none⟩ = false := hf
      clear hnu hx hd
      go_upto_region 18 with fail
      go_still_tail 10, (by kernel_rfl)
      change wpList _ _ _ _ _ w2.drew
      go_wp2_with fail
      go_end0
      refine ⟨rfl, ?_⟩
      rw [HE.out, HXE.out]
      exact HD.out
    have ez : (n == 0) = false := beq_eq_false_iff_ne.2 hz
    by_cases h3 : n = 3
    · have e3 : (n == 3) = true := beq_iff_eq.2 h3
      have HE := Lib.hid (show s.others (a.byte.toNat : Int) a.params = { s with tabs := List.replicate s.tabs.length false } by rw [HE.out, if_neg hz, if_pos h3])
      clear hz h3
      obtain ⟨vt, ct, ot, _, _⟩ := HR.out.tabs
      have hn1 := HN.out.c1
      have hn2 := HN.out.tl
      obtain ⟨bb, off, cc, hvt, hnc, hcm⟩ := ownC_pos ot (by omega)
      subst hvt
      have hcl := clear_own' (P := Tryz.prog) (z := .bool false) Tryz.underlying87 (fun w => by kernel_rfl) rfl (by simp [Value.cells, Value.oneCell']) ot 0 s.tabs.length cc (by omega) (by omega)
      have hput := ownC_put ot 0 (Builtin.zeroCells (Value.bool false).cells s.tabs.length).toList (by simp [Builtin.zeroCells, Value.cells])
      have hz1 : (Builtin.zeroCells (Value.bool false).cells s.tabs.length).toList = (List.replicate s.tabs.length false).map Value.bool := zero_bools _
      rw [hz1] at hcl hput
      have hput2 : OwnC (w2.setCells bb off ((List.replicate s.tabs.length false).map Value.bool)) 0 1 (.slice (some ⟨bb, off, none⟩) s.tabs.length cc) s.tabs.length ((List.replicate s.tabs.length false).map Value.bool) := by
        have := hput
        unfold putAt at this
        rw [List.take_zero, List.nil_append, Nat.zero_add, List.drop_eq_nil_of_le (by rw [List.length_map, List.length_map, List.length_replicate]; exact Nat.le_refl _), List.append_nil, Nat.add_zero] at this
        exact this
      have hcl2 : ∀ ty, (Builtin.clear_ #[87] ty #[.slice (some ⟨bb, off, none⟩) s.tabs.length cc]).run Tryz.prog w2 = .ok (.tuple #[]) (w2.setCells bb off ((List.replicate s.tabs.length false).map Value.bool)) := fun ty => by
        have := hcl ty
        simpa using this
      have hd := HR.out.tabsIn ct (x := List.replicate s.tabs.length false) (by rw [List.length_replicate]) (gb_setCells' w2 bb _ off) hput2
      have HD := Lib.hid (Does.after HP.out hd)
      clear hput hput2 hcl hz1 hd ot hn1 hn2
      go_wp2_with fail
      go_end0
      refine ⟨rfl, ?_⟩
      rw [HE.out]
      have hd2 := HD.out
      rw [List.map_replicate] at hd2
      exact hd2
    have e3 : (n == 3) = false := beq_eq_false_iff_ne.2 h3
    have HE := Lib.hid (show s.others (a.byte.toNat : Int) a.params = s by rw [HE.out, if_neg hz, if_neg h3])
    clear hz h3
    go_wp2_with fail
    go_end0
    refine ⟨rfl, ?_⟩
    rw [HE.out]
    exact ⟨_, HR.out, HP.out⟩
  by_cases hc104 : (a.byte.toNat : Int) = 104
  · have HE := Lib.hid (show s.others (a.byte.toNat : Int) a.params = (List.range a.params.length).foldl (fun t i => t.setMode1 (par a.params i 0) true) s by rw [hc104]; first | rfl | (rw [HNP.out]; rfl))
    have e72 : ((a.byte.toNat : Int) == 72) = false := beq_eq_false_iff_ne.2 (by omega)
    have e102 : ((a.byte.toNat : Int) == 102) = false := beq_eq_false_iff_ne.2 (by omega)
    have e74 : ((a.byte.toNat : Int) == 74) = false := beq_eq_false_iff_ne.2 (by omega)
    have e75 : ((a.byte.toNat : Int) == 75) = false := beq_eq_false_iff_ne.2 (by omega)
    have e99 : ((a.byte.toNat : Int) == 99) = false := beq_eq_false_iff_ne.2 (by omega)
    have e110 : ((a.byte.toNat : Int) == 110) = false := beq_eq_false_iff_ne.2 (by omega)
    have e103 : ((a.byte.toNat : Int) == 103) = false := beq_eq_false_iff_ne.2 (by omega)
    have e104 : ((a.byte.toNat : Int) == 104) = true := beq_iff_eq.2 hc104
    have e108 : ((a.byte.toNat : Int) == 108) = false := beq_eq_false_iff_ne.2 (by omega)
    have e109 : ((a.byte.toNat : Int) == 109) = false := beq_eq_false_iff_ne.2 (by omega)
    have e114 : ((a.byte.toNat : Int) == 114) = false := beq_eq_false_iff_ne.2 (by omega)
    have e115 : ((a.byte.toNat : Int) == 115) = false := beq_eq_false_iff_ne.2 (by omega)
    have e117 : ((a.byte.toNat : Int) == 117) = false := beq_eq_false_iff_ne.2 (by omega)
    clear hc72 hc102 hc74 hc75 hc99 hc110 hc103 hc104
    have HE := Lib.hid (show s.others (a.byte.toNat : Int) a.params = (List.range a.params.length).foldl (fun t i => t.setMode1 (par a.params i 0) true) s from HE.out)
    obtain ⟨L, hL⟩ : ∃ L, L = a.params.length := ⟨_, rfl⟩
    have hlen := rd_len Tryz.underlying63 HB.out.ap.rd
    rw [← hL] at HE hlen
    have HL := Lib.hid hL
    have hsm := Lib.hid (rd_small HB.out.ap.rd)
    clear hL
    go_wp2_with fail
    go_loopw [75] (fun iv wr => ∃ (i : Nat) (C2 : Nat → Nat), iv = .int .i64 i ∧ i ≤ L ∧ Hid (SR B C2 p wr ((List.range i).foldl (fun t i => t.setMode1 (par a.params i 0) true) s) ps) ∧ Hid (Boxed a v A C2 wr) ∧ Hid (Pre C w C2 wr)) (fun iv _ => L - (intOf iv).toNat)
    case atStart => exact ⟨0, C, rfl, Nat.zero_le _, HR, HB, HP⟩
    case round =>
      obtain ⟨i, C2, rfl, hi, H2, HB2, P2⟩ := hrel
      clear a0 a1 a2 a3 a4 a5
      have a0 : wr.cell? ⟨A, 0, none⟩ = some (.int .i64 a.kind) := blk_cell HB2.out.blk 0
      have a1 : wr.cell? ⟨A, 1, none⟩ = some (.int .i32 a.rune) := blk_cell HB2.out.blk 1
      have a2 : wr.cell? ⟨A, 2, none⟩ = some (.int .u8 (a.byte.toNat : Int)) := blk_cell HB2.out.blk 2
      have a3 : wr.cell? ⟨A, 3, none⟩ = some (v) := blk_cell HB2.out.blk 3
      have a4 : wr.cell? ⟨A, 4, none⟩ = some (.string a.inter) := blk_cell HB2.out.blk 4
      have a5 : wr.cell? ⟨A, 5, none⟩ = some (.string a.text) := blk_cell HB2.out.blk 5
      by_cases hlt : i < L
      rotate_left
      · obtain rfl : i = L := by omega
        have HD := Lib.hid (show Does B C p w wr (s.others (a.byte.toNat : Int) a.params) ps by rw [HE.out]; exact ⟨C2, H2.out, P2.out⟩)
        go_wp2_with fail
        go_end0
        exact ⟨rfl, HD.out⟩
      have HFS := Lib.hid (show (List.range (i + 1)).foldl (fun t i => t.setMode1 (par a.params i 0) true) s = ((List.range i).foldl (fun t i => t.setMode1 (par a.params i 0) true) s).setMode1 (par a.params i 0) true by rw [List.range_succ, List.foldl_append]; rfl)
      have hw1 : IntKind.i64.wrap ((i : Int) + 1) = (i : Int) + 1 := by have := hsm.out; have := HL.out; exact wrap64_id _ (by omega) (by omega)
      generalize (List.range i).foldl (fun t i => t.setMode1 (par a.params i 0) true) s = t at *
      have HPA := Lib.hid (param_any a v wr HB2.out.ap.rd i 0)
      unfold VAct.val at HPA
      go_wp2_with fail
      refine HPA.out.mono ?_
      rintro e w3 ⟨rfl, b3⟩
      have H3 := Lib.hid (H2.out.below b3)
      have HB3 := Lib.hid (HB2.out.below b3)
      have P3 := Lib.hid (P2.out.below b3)
      clear b3 a0 a1 a2 a3 a4 a5
      have a0 : w3.cell? ⟨A, 0, none⟩ = some (.int .i64 a.kind) := blk_cell HB3.out.blk 0
      have a1 : w3.cell? ⟨A, 1, none⟩ = some (.int .i32 a.rune) := blk_cell HB3.out.blk 1
      have a2 : w3.cell? ⟨A, 2, none⟩ = some (.int .u8 (a.byte.toNat : Int)) := blk_cell HB3.out.blk 2
      have a3 : w3.cell? ⟨A, 3, none⟩ = some (v) := blk_cell HB3.out.blk 3
      have a4 : w3.cell? ⟨A, 4, none⟩ = some (.string a.inter) := blk_cell HB3.out.blk 4
      have a5 : w3.cell? ⟨A, 5, none⟩ = some (.string a.text) := blk_cell HB3.out.blk 5
      generalize par a.params i 0 = m at *
      by_cases h4 : m = 4
      · have e4 : (m == 4) = true := beq_iff_eq.2 h4
        have HS := Lib.hid (show t.setMode1 m true = t.mode 2 true by rw [h4]; rfl)
        clear h4
        go_wp2_with fail
        refine (modeS_any H3.out 2 true).mono ?_
        rintro e w4 ⟨rfl, C4, h4, p4⟩
        have H4 := Lib.hid h4
        have HB4 := Lib.hid (HB3.out.next p4)
        have P4 := Lib.hid (P3.out.trans p4)
        clear h4 p4
        go_wp2_with fail
        go_roundw
        case rel => exact ⟨i + 1, C4, by go_num, by omega, Lib.hid (by rw [HFS.out, HS.out]; exact H4.out), HB4, P4⟩
        case measure => simp [intOf]; omega
      have e4 : (m == 4) = false := beq_eq_false_iff_ne.2 h4
      by_cases h20 : m = 20
      · have e20 : (m == 20) = true := beq_iff_eq.2 h20
        have HS := Lib.hid (show t.setMode1 m true = t.mode 512 true by rw [h20]; rfl)
        clear h4 h20
        go_wp2_with fail
        refine (modeS_any H3.out 512 true).mono ?_
        rintro e w4 ⟨rfl, C4, h4, p4⟩
        have H4 := Lib.hid h4
        have HB4 := Lib.hid (HB3.out.next p4)
        have P4 := Lib.hid (P3.out.trans p4)
        clear h4 p4
        go_wp2_with fail
        go_roundw
        case rel => exact ⟨i + 1, C4, by go_num, by omega, Lib.hid (by rw [HFS.out, HS.out]; exact H4.out), HB4, P4⟩
        case measure => simp [intOf]; omega
      · have e20 : (m == 20) = false := beq_eq_false_iff_ne.2 h20
        have HS := Lib.hid (show t.setMode1 m true = t by unfold Scr.setMode1; rw [if_neg h4, if_neg h20])
        clear h4 h20
        go_wp2_with fail
        go_roundw
        case rel => exact ⟨i + 1, C2, by go_num, by omega, Lib.hid (by rw [HFS.out, HS.out]; exact H3.out), HB3, P3⟩
        case measure => simp [intOf]; omega
  by_cases hc108 : (a.byte.toNat : Int) = 108
  · have HE := Lib.hid (show s.others (a.byte.toNat : Int) a.params = (List.range a.params.length).foldl (fun t i => t.setMode1 (par a.params i 0) false) s by rw [hc108]; first | rfl | (rw [HNP.out]; rfl))
    have e72 : ((a.byte.toNat : Int) == 72) = false := beq_eq_false_iff_ne.2 (by omega)
    have e102 : ((a.byte.toNat : Int) == 102) = false := beq_eq_false_iff_ne.2 (by omega)
    have e74 : ((a.byte.toNat : Int) == 74) = false := beq_eq_false_iff_ne.2 (by omega)
    have e75 : ((a.byte.toNat : Int) == 75) = false := beq_eq_false_iff_ne.2 (by omega)
    have e99 : ((a.byte.toNat : Int) == 99) = false := beq_eq_false_iff_ne.2 (by omega)
    have e110 : ((a.byte.toNat : Int) == 110) = false := beq_eq_false_iff_ne.2 (by omega)
    have e103 : ((a.byte.toNat : Int) == 103) = false := beq_eq_false_iff_ne.2 (by omega)
    have e104 : ((a.byte.toNat : Int) == 104) = false := beq_eq_false_iff_ne.2 (by omega)
    have e108 : ((a.byte.toNat : Int) == 108) = true := beq_iff_eq.2 hc108
    have e109 : ((a.byte.toNat : Int) == 109) = false := beq_eq_false_iff_ne.2 (by omega)
    have e114 : ((a.byte.toNat : Int) == 114) = false := beq_eq_false_iff_ne.2 (by omega)
    have e115 : ((a.byte.toNat : Int) == 115) = false := beq_eq_false_iff_ne.2 (by omega)
    have e117 : ((a.byte.toNat : Int) == 117) = false := beq_eq_false_iff_ne.2 (by omega)
    clear hc72 hc102 hc74 hc75 hc99 hc110 hc103 hc104 hc108
    have HE := Lib.hid (show s.others (a.byte.toNat : Int) a.params = (List.range a.params.length).foldl (fun t i => t.setMode1 (par a.params i 0) false) s from HE.out)
    obtain ⟨L, hL⟩ : ∃ L, L = a.params.length := ⟨_, rfl⟩
    have hlen := rd_len Tryz.underlying63 HB.out.ap.rd
    rw [← hL] at HE hlen
    have HL := Lib.hid hL
    have hsm := Lib.hid (rd_small HB.out.ap.rd)
    clear hL
    go_wp2_with fail
    go_loopw [75] (fun iv wr => ∃ (i : Nat) (C2 : Nat → Nat), iv = .int .i64 i ∧ i ≤ L ∧ Hid (SR B C2 p wr ((List.range i).foldl (fun t i => t.setMode1 (par a.params i 0) false) s) ps) ∧ Hid (Boxed a v A C2 wr) ∧ Hid (Pre C w C2 wr)) (fun iv _ => L - (intOf iv).toNat)
    case atStart => exact ⟨0, C, rfl, Nat.zero_le _, HR, HB, HP⟩
    case round =>
      obtain ⟨i, C2, rfl, hi, H2, HB2, P2⟩ := hrel
      clear a0 a1 a2 a3 a4 a5
      have a0 : wr.cell? ⟨A, 0, none⟩ = some (.int .i64 a.kind) := blk_cell HB2.out.blk 0
      have a1 : wr.cell? ⟨A, 1, none⟩ = some (.int .i32 a.rune) := blk_cell HB2.out.blk 1
      have a2 : wr.cell? ⟨A, 2, none⟩ = some (.int .u8 (a.byte.toNat : Int)) := blk_cell HB2.out.blk 2
      have a3 : wr.cell? ⟨A, 3, none⟩ = some (v) := blk_cell HB2.out.blk 3
      have a4 : wr.cell? ⟨A, 4, none⟩ = some (.string a.inter) := blk_cell HB2.out.blk 4
      have a5 : wr.cell? ⟨A, 5, none⟩ = some (.string a.text) := blk_cell HB2.out.blk 5
      by_cases hlt : i < L
      rotate_left
      · obtain rfl : i = L := by omega
        have HD := Lib.hid (show Does B C p w wr (s.others (a.byte.toNat : Int) a.params) ps by rw [HE.out]; exact ⟨C2, H2.out, P2.out⟩)
        go_wp2_with fail
        go_end0
        exact ⟨rfl, HD.out⟩
      have HFS := Lib.hid (show (List.range (i + 1)).foldl (fun t i => t.setMode1 (par a.params i 0) false) s = ((List.range i).foldl (fun t i => t.setMode1 (par a.params i 0) false) s).setMode1 (par a.params i 0) false by rw [List.range_succ, List.foldl_append]; rfl)
      have hw1 : IntKind.i64.wrap ((i : Int) + 1) = (i : Int) + 1 := by have := hsm.out; have := HL.out; exact wrap64_id _ (by omega) (by omega)
      generalize (List.range i).foldl (fun t i => t.setMode1 (par a.params i 0) false) s = t at *
      have HPA := Lib.hid (param_any a v wr HB2.out.ap.rd i 0)
      unfold VAct.val at HPA
      go_wp2_with fail
      refine HPA.out.mono ?_
      rintro e w3 ⟨rfl, b3⟩
      have H3 := Lib.hid (H2.out.below b3)
      have HB3 := Lib.hid (HB2.out.below b3)
      have P3 := Lib.hid (P2.out.below b3)
      clear b3 a0 a1 a2 a3 a4 a5
      have a0 : w3.cell? ⟨A, 0, none⟩ = some (.int .i64 a.kind) := blk_cell HB3.out.blk 0
      have a1 : w3.cell? ⟨A, 1, none⟩ = some (.int .i32 a.rune) := blk_cell HB3.out.blk 1
      have a2 : w3.cell? ⟨A, 2, none⟩ = some (.int .u8 (a.byte.toNat : Int)) := blk_cell HB3.out.blk 2
      have a3 : w3.cell? ⟨A, 3, none⟩ = some (v) := blk_cell HB3.out.blk 3
      have a4 : w3.cell? ⟨A, 4, none⟩ = some (.string a.inter) := blk_cell HB3.out.blk 4
      have a5 : w3.cell? ⟨A, 5, none⟩ = some (.string a.text) := blk_cell HB3.out.blk 5
      generalize par a.params i 0 = m at *
      by_cases h4 : m = 4
      · have e4 : (m == 4) = true := beq_iff_eq.2 h4
        have HS := Lib.hid (show t.setMode1 m false = t.mode 2 false by rw [h4]; rfl)
        clear h4
        go_wp2_with fail
        refine (modeS_any H3.out 2 false).mono ?_
        rintro e w4 ⟨rfl, C4, h4, p4⟩
        have H4 := Lib.hid h4
        have HB4 := Lib.hid (HB3.out.next p4)
        have P4 := Lib.hid (P3.out.trans p4)
        clear h4 p4
        go_wp2_with fail
        go_roundw
        case rel => exact ⟨i + 1, C4, by go_num, by omega, Lib.hid (by rw [HFS.out, HS.out]; exact H4.out), HB4, P4⟩
        case measure => simp [intOf]; omega
      have e4 : (m == 4) = false := beq_eq_false_iff_ne.2 h4
      by_cases h20 : m = 20
      · have e20 : (m == 20) = true := beq_iff_eq.2 h20
        have HS := Lib.hid (show t.setMode1 m false = t.mode 512 false by rw [h20]; rfl)
        clear h4 h20
        go_wp2_with fail
        refine (modeS_any H3.out 512 false).mono ?_
        rintro e w4 ⟨rfl, C4, h4, p4⟩
        have H4 := Lib.hid h4
        have HB4 := Lib.hid (HB3.out.next p4)
        have P4 := Lib.hid (P3.out.trans p4)
        clear h4 p4
        go_wp2_with fail
        go_roundw
        case rel => exact ⟨i + 1, C4, by go_num, by omega, Lib.hid (by rw [HFS.out, HS.out]; exact H4.out), HB4, P4⟩
        case measure => simp [intOf]; omega
      · have e20 : (m == 20) = false := beq_eq_false_iff_ne.2 h20
        have HS := Lib.hid (show t.setMode1 m false = t by unfold Scr.setMode1; rw [if_neg h4, if_neg h20])
        clear h4 h20
        go_wp2_with fail
        go_roundw
        case rel => exact ⟨i + 1, C2, by go_num, by omega, Lib.hid (by rw [HFS.out, HS.out]; exact H3.out), HB3, P3⟩
        case measure => simp [intOf]; omega
  by_cases hc109 : (a.byte.toNat : Int) = 109
  · have HE := Lib.hid (show s.others (a.byte.toNat : Int) a.params = s.looks a.params by rw [hc109]; first | rfl | (rw [HNP.out]; rfl))
    have e72 : ((a.byte.toNat : Int) == 72) = false := beq_eq_false_iff_ne.2 (by omega)
    have e102 : ((a.byte.toNat : Int) == 102) = false := beq_eq_false_iff_ne.2 (by omega)
    have e74 : ((a.byte.toNat : Int) == 74) = false := beq_eq_false_iff_ne.2 (by omega)
    have e75 : ((a.byte.toNat : Int) == 75) = false := beq_eq_false_iff_ne.2 (by omega)
    have e99 : ((a.byte.toNat : Int) == 99) = false := beq_eq_false_iff_ne.2 (by omega)
    have e110 : ((a.byte.toNat : Int) == 110) = false := beq_eq_false_iff_ne.2 (by omega)
    have e103 : ((a.byte.toNat : Int) == 103) = false := beq_eq_false_iff_ne.2 (by omega)
    have e104 : ((a.byte.toNat : Int) == 104) = false := beq_eq_false_iff_ne.2 (by omega)
    have e108 : ((a.byte.toNat : Int) == 108) = false := beq_eq_false_iff_ne.2 (by omega)
    have e109 : ((a.byte.toNat : Int) == 109) = true := beq_iff_eq.2 hc109
    have e114 : ((a.byte.toNat : Int) == 114) = false := beq_eq_false_iff_ne.2 (by omega)
    have e115 : ((a.byte.toNat : Int) == 115) = false := beq_eq_false_iff_ne.2 (by omega)
    have e117 : ((a.byte.toNat : Int) == 117) = false := beq_eq_false_iff_ne.2 (by omega)
    clear hc72 hc102 hc74 hc75 hc99 hc110 hc103 hc104 hc108 hc109
    go_wp2_with fail
    refine (looksS_any HR.out a v HB.out.ap).mono ?_
    rintro e wc1 ⟨rfl, Cc1, hc1, pc1⟩
    have Hc1 := Lib.hid hc1
    have Pc1 := Lib.hid (HP.out.trans pc1)
    clear hc1 pc1
    go_wp2_with fail
    go_end0
    refine ⟨rfl, ?_⟩
    rw [HE.out]
    exact ⟨_, Hc1.out, Pc1.out⟩
  by_cases hc114 : (a.byte.toNat : Int) = 114
  · have HE := Lib.hid (show s.others (a.byte.toNat : Int) a.params = s.region a.params by rw [hc114]; first | rfl | (rw [HNP.out]; rfl))
    have e72 : ((a.byte.toNat : Int) == 72) = false := beq_eq_false_iff_ne.2 (by omega)
    have e102 : ((a.byte.toNat : Int) == 102) = false := beq_eq_false_iff_ne.2 (by omega)
    have e74 : ((a.byte.toNat : Int) == 74) = false := beq_eq_false_iff_ne.2 (by omega)
    have e75 : ((a.byte.toNat : Int) == 75) = false := beq_eq_false_iff_ne.2 (by omega)
    have e99 : ((a.byte.toNat : Int) == 99) = false := beq_eq_false_iff_ne.2 (by omega)
    have e110 : ((a.byte.toNat : Int) == 110) = false := beq_eq_false_iff_ne.2 (by omega)
    have e103 : ((a.byte.toNat : Int) == 103) = false := beq_eq_false_iff_ne.2 (by omega)
    have e104 : ((a.byte.toNat : Int) == 104) = false := beq_eq_false_iff_ne.2 (by omega)
    have e108 : ((a.byte.toNat : Int) == 108) = false := beq_eq_false_iff_ne.2 (by omega)
    have e109 : ((a.byte.toNat : Int) == 109) = false := beq_eq_false_iff_ne.2 (by omega)
    have e114 : ((a.byte.toNat : Int) == 114) = true := beq_iff_eq.2 hc114
    have e115 : ((a.byte.toNat : Int) == 115) = false := beq_eq_false_iff_ne.2 (by omega)
    have e117 : ((a.byte.toNat : Int) == 117) = false := beq_eq_false_iff_ne.2 (by omega)
    clear hc72 hc102 hc74 hc75 hc99 hc110 hc103 hc104 hc108 hc109 hc114
    have hnu := HN.out
    have hr1 := hnu.r1
    have hr2 := hnu.r2
    have HR120 := Lib.hid (show (1 : Int) ≤ s.main.rows.length ∧ (s.main.rows.length : Int) ≤ 120 by omega)
    clear hnu hr1 hr2
    go_upto_region 35 with fail
    refine wpL_begin (c := 6) (S := (fun bb w' => (w'.cell? ⟨A, 0, none⟩ = some (.int .i64 a.kind) ∧ w'.cell? ⟨A, 1, none⟩ = some (.int .i32 a.rune) ∧ w'.cell? ⟨A, 2, none⟩ = some (.int .u8 (a.byte.toNat : Int)) ∧ w'.cell? ⟨A, 3, none⟩ = some (v) ∧ w'.cell? ⟨A, 4, none⟩ = some (.string a.inter) ∧ w'.cell? ⟨A, 5, none⟩ = some (.string a.text)) ∧ (bb = false → True))) (by kernel_rfl) (⟨⟨a0, a1, a2, a3, a4, a5⟩, fun _ => trivial⟩) (fun _ => ?_)
    refine wpL_tk false 0 (⟨⟨a0, a1, a2, a3, a4, a5⟩, fun _ => trivial⟩) ?_
    refine wpL_tk false 3 (⟨⟨a0, a1, a2, a3, a4, a5⟩, fun _ => trivial⟩) ?_
    refine wpL_tk false 4 (⟨⟨a0, a1, a2, a3, a4, a5⟩, fun _ => trivial⟩) ?_
    refine wpL_on false 1 fun K hK => ?_
    refine wanted_on rfl ?_
    go_wp2_with fail
    refine (param_any a v w2.drew (HB.out.below (Below.refl _ _).drew).ap.rd 0 1).mono ?_
    rintro e w4 ⟨rfl, b4⟩
    have HR4 := Lib.hid ((HR.out.below (Below.refl _ _).drew).below b4)
    have HB4 := Lib.hid ((HB.out.below (Below.refl _ _).drew).below b4)
    have HP4 := Lib.hid ((HP.out.below (Below.refl _ _).drew).below b4)
    refine hK.out _ _ (⟨⟨blk_cell HB4.out.blk 0, blk_cell HB4.out.blk 1, blk_cell HB4.out.blk 2, blk_cell HB4.out.blk 3, blk_cell HB4.out.blk 4, blk_cell HB4.out.blk 5⟩, fun _ => trivial⟩) (fun _ => ?_)
    clear hK K b4
    try simp only [Act.put, List.setIfInBounds_toArray, List.set_cons_zero, List.set_cons_succ]
    refine wpL_tk false 2 (⟨⟨blk_cell HB4.out.blk 0, blk_cell HB4.out.blk 1, blk_cell HB4.out.blk 2, blk_cell HB4.out.blk 3, blk_cell HB4.out.blk 4, blk_cell HB4.out.blk 5⟩, fun _ => trivial⟩) ?_
    refine wpL_on false 5 fun K hK => ?_
    refine wanted_on rfl ?_
    go_wp2_with fail
    refine (rowsS_any HR4.out).mono ?_
    rintro e wq ⟨rfl, rfl⟩
    refine hK.out _ _ (⟨⟨blk_cell HB4.out.blk 0, blk_cell HB4.out.blk 1, blk_cell HB4.out.blk 2, blk_cell HB4.out.blk 3, blk_cell HB4.out.blk 4, blk_cell HB4.out.blk 5⟩, fun _ => trivial⟩) (fun _ => ?_)
    clear hK K 
    try simp only [Act.put, List.setIfInBounds_toArray, List.set_cons_zero, List.set_cons_succ]
    refine wpL_on true 6 fun K hK => ?_
    refine wanted_on rfl ?_
    go_wp2_with fail
    refine (param_any a v wq HB4.out.ap.rd 1 s.main.rows.length).mono ?_
    rintro e w5 ⟨rfl, b5⟩
    have HR5 := Lib.hid (HR4.out.below b5)
    have HB5 := Lib.hid (HB4.out.below b5)
    have HP5 := Lib.hid (HP4.out.below b5)
    refine hK.out _ _ (⟨⟨blk_cell HB5.out.blk 0, blk_cell HB5.out.blk 1, blk_cell HB5.out.blk 2, blk_cell HB5.out.blk 3, blk_cell HB5.out.blk 4, blk_cell HB5.out.blk 5⟩, fun e => by cases e⟩) (fun _ => ?_)
    clear hK K b5
    try simp only [Act.put, List.setIfInBounds_toArray, List.set_cons_zero, List.set_cons_succ]
    refine wpL_tk true 7 (⟨⟨blk_cell HB5.out.blk 0, blk_cell HB5.out.blk 1, blk_cell HB5.out.blk 2, blk_cell HB5.out.blk 3, blk_cell HB5.out.blk 4, blk_cell HB5.out.blk 5⟩, fun e => by cases e⟩) ?_
    refine wpL_tk true 8 (⟨⟨blk_cell HB5.out.blk 0, blk_cell HB5.out.blk 1, blk_cell HB5.out.blk 2, blk_cell HB5.out.blk 3, blk_cell HB5.out.blk 4, blk_cell HB5.out.blk 5⟩, fun e => by cases e⟩) ?_
    refine wpL_done (by kernel_rfl) ?_ _
    clear a0 a1 a2 a3 a4 a5
    have HQ0 := Lib.hid (par_range a.params 0 1 (by decide) (by decide))
    have HQ1 := Lib.hid (par_range a.params 1 s.main.rows.length (by have := HR120.out; omega) (by have := HR120.out; omega))
    have HE2 := Lib.hid (show s.others (a.byte.toNat : Int) a.params = if max 1 (par a.params 0 1) < min (if par a.params 1 s.main.rows.length = 0 then (s.main.rows.length : Int) else par a.params 1 s.main.rows.length) s.main.rows.length then (({ s with top := max 1 (par a.params 0 1) - 1, bottom := min (if par a.params 1 s.main.rows.length = 0 then (s.main.rows.length : Int) else par a.params 1 s.main.rows.length) s.main.rows.length - 1 } : Scr).place 0 (({ s with top := max 1 (par a.params 0 1) - 1, bottom := min (if par a.params 1 s.main.rows.length = 0 then (s.main.rows.length : Int) else par a.params 1 s.main.rows.length) s.main.rows.length - 1 } : Scr).line 0)) else s by rw [HE.out]; rfl)
    clear HE
    generalize par a.params 0 1 = P0 at *
    generalize par a.params 1 s.main.rows.length = P1 at *
    obtain ⟨b0, hb0⟩ : ∃ b0, b0 = if P1 = 0 then (s.main.rows.length : Int) else P1 := ⟨_, rfl⟩
    rw [← hb0] at HE2
    have HB0 := Lib.hid (show 0 ≤ b0 ∧ b0 ≤ 9999 by rw [hb0]; have h1 := HR120.out; have h2 := HQ1.out; split <;> omega)
    go_upto_if 111 with fail
    go_cut [7] (fun q wz => q = .int .i64 b0 ∧ wz = w5)
    case first =>
      by_cases hz : P1 = 0
      · have ez : (P1 == 0) = true := beq_iff_eq.2 hz
        have HBE := Lib.hid (show b0 = s.main.rows.length by rw [hb0, if_pos hz])
        clear hz hb0
        go_wp2_with fail
        refine (rowsS_any HR5.out).mono ?_
        rintro e w6 ⟨rfl, rfl⟩
        go_wp2_with fail
        go_meet
        exact ⟨by rw [HBE.out], rfl⟩
      · have ez : (P1 == 0) = false := beq_eq_false_iff_ne.2 hz
        have HBE := Lib.hid (show b0 = P1 by rw [hb0, if_neg hz])
        clear hz hb0
        go_wp2_with fail
        go_meet
        exact ⟨by rw [HBE.out], rfl⟩
    case rest =>
    obtain ⟨rfl, hwz⟩ := hcut
    subst hwz
    obtain ⟨w5, rfl⟩ : ∃ z, z = wc := ⟨wc, rfl⟩
    clear hb0
    go_wp2_with fail
    refine (rowsS_any HR5.out).mono ?_
    rintro e w6 ⟨rfl, rfl⟩
    by_cases hlt : max 1 P0 < min b0 (s.main.rows.length : Int)
    rotate_left
    · have d1 : decide (max 1 P0 < min b0 (s.main.rows.length : Int)) = false := decide_eq_false hlt
      have HD := Lib.hid (show Does B C p w w6 (s.others (a.byte.toNat : Int) a.params) ps by rw [HE2.out, if_neg hlt]; exact ⟨_, HR5.out, HP5.out⟩)
      clear hlt
      go_wp2_with fail
      go_end0
      exact ⟨rfl, HD.out⟩
    have d1 : decide (max 1 P0 < min b0 (s.main.rows.length : Int)) = true := decide_eq_true hlt
    have HE3 := Lib.hid (HE2.out.trans (if_pos hlt))
    have HTB := Lib.hid (show 0 ≤ max 1 P0 - 1 ∧ max 1 P0 - 1 ≤ 1000 by have := HR120.out; omega)
    have hw1 : IntKind.i64.wrap (max 1 P0 - 1) = max 1 P0 - 1 := by have := HTB.out; exact wrap64_id _ (by omega) (by omega)
    have hw2 : IntKind.i64.wrap (min b0 (s.main.rows.length : Int) - 1) = min b0 (s.main.rows.length : Int) - 1 := by have h1 := HR120.out; have h2 := HB0.out; exact wrap64_id _ (by omega) (by omega)
    have c33 : w6.cell? ⟨p, 33, none⟩ = some (.int .i64 s.top) := HR5.out.at_ 33 _
    have c34 : w6.cell? ⟨p, 34, none⟩ = some (.int .i64 s.bottom) := HR5.out.at_ 34 _
    have f33 := HR5.out.fz 33
    have f34 := HR5.out.fz 34
    obtain ⟨h7, g7⟩ := HR5.out.set 33 (.int .i64 (max 1 P0 - 1)) { s with top := max 1 P0 - 1 }
    obtain ⟨h8, g8⟩ := h7.set 34 (.int .i64 (min b0 (s.main.rows.length : Int) - 1)) { s with top := max 1 P0 - 1, bottom := min b0 (s.main.rows.length : Int) - 1 }
    have H8 := Lib.hid h8
    have P8 := Lib.hid (HP5.out.trans (g7.trans g8))
    clear h7 g7 h8 g8 hlt HE2
    go_upto_region 41 with fail
    generalize (w6.setCell ⟨p, 33, none⟩ (.int .i64 (max 1 P0 - 1))).setCell ⟨p, 34, none⟩ (.int .i64 (min b0 (s.main.rows.length : Int) - 1)) = w8 at *
    clear c33 c34 f33 f34
    generalize hs1 : ({ s with top := max 1 P0 - 1, bottom := min b0 (s.main.rows.length : Int) - 1 } : Scr) = s1 at *
    have HT1 := Lib.hid (show 0 ≤ s1.top ∧ s1.top ≤ 1000 by rw [← hs1]; exact HTB.out)
    clear hs1
    go_wp2_with fail
    refine (lineS_any H8.out 0 ⟨by decide, by decide⟩ HT1.out).mono ?_
    rintro e w9 ⟨rfl, m, hw9⟩
    have b9 : Below w8.heap.size w8 w9 := hw9 ▸ below_drewN (Below.refl _ _) m
    clear hw9
    have H9 := Lib.hid (H8.out.below b9)
    have P9 := Lib.hid (P8.out.below b9)
    clear b9
    go_wp2_with fail
    refine (placeS_any H9.out 0 (s1.line 0)).mono ?_
    rintro e w10 ⟨rfl, d10⟩
    have HD := Lib.hid (Does.after P9.out d10)
    clear d10
    go_wp2_with fail
    go_end0
    refine ⟨rfl, ?_⟩
    rw [HE3.out]
    exact HD.out
  by_cases hc115 : (a.byte.toNat : Int) = 115
  · have HE := Lib.hid (show s.others (a.byte.toNat : Int) a.params = s.keep true by rw [hc115]; first | rfl | (rw [HNP.out]; rfl))
    have e72 : ((a.byte.toNat : Int) == 72) = false := beq_eq_false_iff_ne.2 (by omega)
    have e102 : ((a.byte.toNat : Int) == 102) = false := beq_eq_false_iff_ne.2 (by omega)
    have e74 : ((a.byte.toNat : Int) == 74) = false := beq_eq_false_iff_ne.2 (by omega)
    have e75 : ((a.byte.toNat : Int) == 75) = false := beq_eq_false_iff_ne.2 (by omega)
    have e99 : ((a.byte.toNat : Int) == 99) = false := beq_eq_false_iff_ne.2 (by omega)
    have e110 : ((a.byte.toNat : Int) == 110) = false := beq_eq_false_iff_ne.2 (by omega)
    have e103 : ((a.byte.toNat : Int) == 103) = false := beq_eq_false_iff_ne.2 (by omega)
    have e104 : ((a.byte.toNat : Int) == 104) = false := beq_eq_false_iff_ne.2 (by omega)
    have e108 : ((a.byte.toNat : Int) == 108) = false := beq_eq_false_iff_ne.2 (by omega)
    have e109 : ((a.byte.toNat : Int) == 109) = false := beq_eq_false_iff_ne.2 (by omega)
    have e114 : ((a.byte.toNat : Int) == 114) = false := beq_eq_false_iff_ne.2 (by omega)
    have e115 : ((a.byte.toNat : Int) == 115) = true := beq_iff_eq.2 hc115
    have e117 : ((a.byte.toNat : Int) == 117) = false := beq_eq_false_iff_ne.2 (by omega)
    clear hc72 hc102 hc74 hc75 hc99 hc110 hc103 hc104 hc108 hc109 hc114 hc115
    go_wp2_with fail
    refine (keepS_any HR.out true).mono ?_
    rintro e wc1 ⟨rfl, Cc1, hc1, pc1⟩
    have Hc1 := Lib.hid hc1
    have Pc1 := Lib.hid (HP.out.trans pc1)
    clear hc1 pc1
    go_wp2_with fail
    go_end0
    refine ⟨rfl, ?_⟩
    rw [HE.out]
    exact ⟨_, Hc1.out, Pc1.out⟩
  by_cases hc117 : (a.byte.toNat : Int) = 117
  · have HE := Lib.hid (show s.others (a.byte.toNat : Int) a.params = s.keep false by rw [hc117]; first | rfl | (rw [HNP.out]; rfl))
    have e72 : ((a.byte.toNat : Int) == 72) = false := beq_eq_false_iff_ne.2 (by omega)
    have e102 : ((a.byte.toNat : Int) == 102) = false := beq_eq_false_iff_ne.2 (by omega)
    have e74 : ((a.byte.toNat : Int) == 74) = false := beq_eq_false_iff_ne.2 (by omega)
    have e75 : ((a.byte.toNat : Int) == 75) = false := beq_eq_false_iff_ne.2 (by omega)
    have e99 : ((a.byte.toNat : Int) == 99) = false := beq_eq_false_iff_ne.2 (by omega)
    have e110 : ((a.byte.toNat : Int) == 110) = false := beq_eq_false_iff_ne.2 (by omega)
    have e103 : ((a.byte.toNat : Int) == 103) = false := beq_eq_false_iff_ne.2 (by omega)
    have e104 : ((a.byte.toNat : Int) == 104) = false := beq_eq_false_iff_ne.2 (by omega)
    have e108 : ((a.byte.toNat : Int) == 108) = false := beq_eq_false_iff_ne.2 (by omega)
    have e109 : ((a.byte.toNat : Int) == 109) = false := beq_eq_false_iff_ne.2 (by omega)
    have e114 : ((a.byte.toNat : Int) == 114) = false := beq_eq_false_iff_ne.2 (by omega)
    have e115 : ((a.byte.toNat : Int) == 115) = false := beq_eq_false_iff_ne.2 (by omega)
    have e117 : ((a.byte.toNat : Int) == 117) = true := beq_iff_eq.2 hc117
    clear hc72 hc102 hc74 hc75 hc99 hc110 hc103 hc104 hc108 hc109 hc114 hc115 hc117
    go_wp2_with fail
    refine (keepS_any HR.out false).mono ?_
    rintro e wc1 ⟨rfl, Cc1, hc1, pc1⟩
    have Hc1 := Lib.hid hc1
    have Pc1 := Lib.hid (HP.out.trans pc1)
    clear hc1 pc1
    go_wp2_with fail
    go_end0
    refine ⟨rfl, ?_⟩
    rw [HE.out]
    exact ⟨_, Hc1.out, Pc1.out⟩
  have HE := Lib.hid (show s.others (a.byte.toNat : Int) a.params = s by
    unfold Scr.others
    dsimp only
    rw [if_neg (by omega), if_neg hc74, if_neg hc75, if_neg hc99, if_neg hc110, if_neg hc103, if_neg (by omega), if_neg hc109, if_neg hc114, if_neg (by omega)])
  have e72 : ((a.byte.toNat : Int) == 72) = false := beq_eq_false_iff_ne.2 hc72
  have e102 : ((a.byte.toNat : Int) == 102) = false := beq_eq_false_iff_ne.2 hc102
  have e74 : ((a.byte.toNat : Int) == 74) = false := beq_eq_false_iff_ne.2 hc74
  have e75 : ((a.byte.toNat : Int) == 75) = false := beq_eq_false_iff_ne.2 hc75
  have e99 : ((a.byte.toNat : Int) == 99) = false := beq_eq_false_iff_ne.2 hc99
  have e110 : ((a.byte.toNat : Int) == 110) = false := beq_eq_false_iff_ne.2 hc110
  have e103 : ((a.byte.toNat : Int) == 103) = false := beq_eq_false_iff_ne.2 hc103
  have e104 : ((a.byte.toNat : Int) == 104) = false := beq_eq_false_iff_ne.2 hc104
  have e108 : ((a.byte.toNat : Int) == 108) = false := beq_eq_false_iff_ne.2 hc108
  have e109 : ((a.byte.toNat : Int) == 109) = false := beq_eq_false_iff_ne.2 hc109
  have e114 : ((a.byte.toNat : Int) == 114) = false := beq_eq_false_iff_ne.2 hc114
  have e115 : ((a.byte.toNat : Int) == 115) = false := beq_eq_false_iff_ne.2 hc115
  have e117 : ((a.byte.toNat : Int) == 117) = false := beq_eq_false_iff_ne.2 hc117
  clear hc72 hc102 hc74 hc75 hc99 hc110 hc103 hc104 hc108 hc109 hc114 hc115 hc117
  go_wp2_with fail
  go_end0
  refine ⟨rfl, ?_⟩
  rw [HE.out]
  exact ⟨_, HR.out, HP.out⟩
end Go.Proofs.YtlfdgkiliegaiaaGreatDoor
