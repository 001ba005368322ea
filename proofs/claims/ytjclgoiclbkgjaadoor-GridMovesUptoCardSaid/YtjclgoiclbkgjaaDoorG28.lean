/- What the laws of package grid call: sameCells. -/
import Derived.Test.YtjclgoiclbkgjaaDoorG27
namespace Go.Proofs.YtjclgoiclbkgjaaDoor
open Go.RowKit
attribute [local go_sem ↓] Go.wp_at_zero Go.wp_at_succ

theorem take_same {la lb : List Cel} (k : Nat) (ha : k < la.length) (hb : k < lb.length) (h : la.take k = lb.take k) (e : la.getD k noC = lb.getD k noC) : la.take (k + 1) = lb.take (k + 1) := by
  rw [take_succ_getD la noC k ha, take_succ_getD lb noC k hb, h, e]
set_option maxRecDepth 100000 in
set_option maxHeartbeats 2000000 in
theorem sameCells_any (la lb : List Cel) (va vb : Value) (w : World) (ha : OwnC w 0 5 va la.length (cvals la)) (hb : OwnC w 0 5 vb lb.length (cvals lb)) (hl : la.length ≤ 1000000) (hl2 : lb.length ≤ 1000000) :
    Calls Tryd.prog 24 #[va, vb] w fun e w' => ∃ bv : Bool, e = .returned (.bool bv) ∧ (bv = true ↔ la = lb) ∧ Below w.heap.size w w' := by
  have HA := Lib.hid ha
  have HB := Lib.hid hb
  have ha0 := ownC_ln Tryd.underlying51 ha
  have hb0 := ownC_ln Tryd.underlying51 hb
  clear ha hb
  by_cases hne : la.length = lb.length
  rotate_left
  · have t1 : ((la.length : Int) != (lb.length : Int)) = true := by simp [bne, beq_eq_false_iff_ne.2 (show ¬ (la.length : Int) = (lb.length : Int) by omega)]
    have t2 : (la.length != lb.length) = true := by simp [bne, beq_eq_false_iff_ne.2 hne]
    have HN := Lib.hid (show ¬ la = lb from fun e => hne (by rw [e]))
    have HNE := Lib.hid hne
    clear hne
    go_enter Tryd.func24, Tryd.ntmps24
    have t3 : decide ((la.length : Int) = (lb.length : Int)) = false := decide_eq_false (by have := HNE.out; omega)
    have t4 : decide (la.length = lb.length) = false := decide_eq_false HNE.out
    go_wp2_with fail
    exact ret1v rfl rfl rfl ⟨false, rfl, ⟨fun e => (by cases e), fun e => absurd e HN.out⟩, Below.refl _ _⟩
  · have HNE := Lib.hid hne
    rw [← hne] at hb0
    clear hne
    go_enter Tryd.func24, Tryd.ntmps24
    go_upto_region 4 with fail
    go_loopw [5] (fun iv wr => ∃ k : Nat, k ≤ la.length ∧ iv = .int .i64 k ∧ Hid (Below w.heap.size w wr) ∧ Hid (la.take k = lb.take k)) (fun iv _ => la.length - (intOf iv).toNat)
    case atStart => exact ⟨0, Nat.zero_le _, rfl, Below.refl _ _, by simp [Hid]⟩
    case round =>
      obtain ⟨k, hk, rfl, HW, HT⟩ := hrel
      by_cases hlt : k < la.length
      · have d1 : decide ((k : Int) < (la.length : Int)) = true := decide_eq_true (by omega)
        have d1' : decide (k < la.length) = true := decide_eq_true hlt
        have hlb : k < lb.length := by have := HNE.out; omega
        have oa := ownC_below HA.out HW.out
        have ob := ownC_below HB.out HW.out
        obtain ⟨ba, fa, ca, e1, _, _⟩ := ownC_pos oa (by omega)
        obtain ⟨bb, fb, cb, e2, _, _⟩ := ownC_pos ob (by omega)
        subst e1 e2
        obtain ⟨p0, p1, p2, p3, p4⟩ := ownC_cel oa k (by omega) rfl
        obtain ⟨q0, q1, q2, q3, q4⟩ := ownC_cel ob k (by omega) rfl
        have hix1 := idx_at (P := Tryd.prog) (size := 5) Tryd.underlying51 cell_info ba fa la.length ca k hlt
        have hix2 := idx_at (P := Tryd.prog) (size := 5) Tryd.underlying51 cell_info bb fb lb.length cb k hlb
        have HTS := Lib.hid (fun e => take_same k hlt hlb HT.out e)
        have HGA := Lib.hid (show la.getD k noC = lb.getD k noC ∨ ¬ la = lb from by
          by_cases e : la = lb
          · exact .inl (by rw [e])
          · exact .inr e)
        have hneq := fun (wx : World) => neq_cel (la.getD k noC) (lb.getD k noC) wx
        have hgd := fun (x y : Operand) (wx : World) => guard_cel .neq x y (la.getD k noC) (lb.getD k noC) wx
        have hw6 : IntKind.i64.wrap ((k : Int) + 1) = (k : Int) + 1 := wrap64_id _ (by omega) (by omega)
        clear oa ob
        generalize la.getD k noC = xa at *
        generalize lb.getD k noC = xb at *
        obtain ⟨ar, aw, ⟨af, ag, at'⟩⟩ := xa
        obtain ⟨br, bw, ⟨bf, bg, bt⟩⟩ := xb
        unfold Cel.val at hneq hgd
        dsimp only at p0 p1 p2 p3 p4 q0 q1 q2 q3 q4 hneq hgd
        have HEQ := Lib.hid (Cel.eqb_iff ⟨ar, aw, ⟨af, ag, at'⟩⟩ ⟨br, bw, ⟨bf, bg, bt⟩⟩)
        generalize hbv : Cel.eqb ⟨ar, aw, ⟨af, ag, at'⟩⟩ ⟨br, bw, ⟨bf, bg, bt⟩⟩ = bv at *
        clear hbv
        go_upto_region 6 with fail
        go_region_held3 (fun w' => w'.cell? ⟨ba, fa + k * 5, none⟩ = some (.int .i32 ar) ∧ w'.cell? ⟨ba, fa + k * 5 + 1, none⟩ = some (.int .i64 aw) ∧ w'.cell? ⟨ba, fa + k * 5 + 2, none⟩ = some (.int .i64 af) ∧ w'.cell? ⟨ba, fa + k * 5 + 3, none⟩ = some (.int .i64 ag) ∧ w'.cell? ⟨ba, fa + k * 5 + 4, none⟩ = some (.int .i64 at') ∧
          w'.cell? ⟨bb, fb + k * 5, none⟩ = some (.int .i32 br) ∧ w'.cell? ⟨bb, fb + k * 5 + 1, none⟩ = some (.int .i64 bw) ∧ w'.cell? ⟨bb, fb + k * 5 + 2, none⟩ = some (.int .i64 bf) ∧ w'.cell? ⟨bb, fb + k * 5 + 3, none⟩ = some (.int .i64 bg) ∧ w'.cell? ⟨bb, fb + k * 5 + 4, none⟩ = some (.int .i64 bt)) (go_keep) (fail)
        clear p0 p1 p2 p3 p4 q0 q1 q2 q3 q4
        cases bv
        · go_wp2_with fail
          refine ret1v rfl rfl rfl ⟨false, rfl, ⟨fun e => (by cases e), fun e => ?_⟩, HW.out.drew⟩
          rcases HGA.out with h1 | h1
          · have h2 := HEQ.out.2 h1
            cases h2
          · exact absurd e h1
        · go_wp2_with fail
          go_roundw
          case rel => exact ⟨k + 1, by omega, by go_num, HW.out.drew, HTS.out (HEQ.out.1 rfl)⟩
          case measure => simp [intOf]; omega
      · have d1 : decide ((k : Int) < (la.length : Int)) = false := decide_eq_false (by omega)
        have d1' : decide (k < la.length) = false := decide_eq_false hlt
        have HEQ := Lib.hid (show la = lb from by
          have h1 := HT.out
          rw [List.take_of_length_le (by omega), List.take_of_length_le (by have := HNE.out; omega)] at h1
          exact h1)
        go_wp2_with fail
        exact ret1v rfl rfl rfl ⟨true, rfl, ⟨fun _ => HEQ.out, fun _ => rfl⟩, HW.out⟩
end Go.Proofs.YtjclgoiclbkgjaaDoor
