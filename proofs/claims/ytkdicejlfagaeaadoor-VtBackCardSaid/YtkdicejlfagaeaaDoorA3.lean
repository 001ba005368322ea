/- Walks of package cell: the decoder, fed. -/
import Derived.Test.YtkdicejlfagaeaaDoorA2
namespace Go.Proofs.YtkdicejlfagaeaaDoor
open Go.RowKit

theorem runes_elem : Elem Tryd.prog 55 21 1 4 (.int .i32 0) := ⟨Tryd.underlying55, by kernel_rfl, rfl, by decide⟩

/-- What is pending has begun a sequence. -/
structure Dec.ok (d : Dec) : Prop where
  h0 : 0 ≤ d.hav
  h1 : d.hav + d.more ≤ 4
  m0 : 0 ≤ d.more
  r0 : 0 ≤ d.r
  r1 : d.hav ≠ 0 → d.r * 64 ^ d.more.toNat < 2097152
  m1 : d.hav ≠ 0 → 1 ≤ d.more
  lo : d.hav ≠ 0 → 128 ≤ d.lo
  hi : d.hav ≠ 0 → d.hi ≤ 191

set_option maxHeartbeats 1000000 in
theorem feed_any (p : Nat) (d : Dec) (b : Int) (w : World) (hd : DecAt w p d) (h0 : 0 ≤ b) (h1 : b ≤ 255) (hok : d.ok) :
    Calls Tryd.prog 36 #[.pointer (some ⟨p, 0, none⟩), .int .u8 b] w fun e w' => ∃ v, e = .returned v ∧
      w'.ownsRow w.heap.size 21 1 v (feedD d b).2.length ((feedD d b).2.map (Value.int .i32)) ∧ w.grownBy w' (some p) ∧ DecAt w' p (feedD d b).1 := by
  have c0 : w.cell? ⟨p, 0, none⟩ = some (.int .i32 d.r) := blk_cell hd 0
  have c1 : w.cell? ⟨p, 1, none⟩ = some (.int .i64 d.hav) := blk_cell hd 1
  have c2 : w.cell? ⟨p, 2, none⟩ = some (.int .i64 d.more) := blk_cell hd 2
  have c3 : w.cell? ⟨p, 3, none⟩ = some (.int .u8 d.lo) := blk_cell hd 3
  have c4 : w.cell? ⟨p, 4, none⟩ = some (.int .u8 d.hi) := blk_cell hd 4
  have fz := blk_free hd
  have HD : w.heap[p]? = some (.cells d.cells 60 (0, 0)) := hd
  replace HD := Lib.hid HD
  by_cases hh : d.hav = 0
  · have Hf := Lib.hid (show feedD d b = beginD d b by unfold feedD; rw [if_pos hh])
    have hb : (d.hav == 0) = true := by simpa using hh
    clear hh hok
    go_enter Tryd.func36, Tryd.ntmps36
    go_wp2_with fail
    refine (begin_any p d b _ hd h0 h1).mono ?_
    rintro e w1 ⟨v, rfl, hq⟩
    go_wp2_with fail
    go_ret
    rw [Hf.out]
    exact ⟨v, rfl, hq⟩
  by_cases hb : b < d.lo ∨ d.hi < b
  · have Hf := Lib.hid (show feedD d b = ((beginD { d with hav := 0 } b).1, 65533 :: (beginD { d with hav := 0 } b).2) by unfold feedD; rw [if_neg hh, if_pos hb])
    have hh2 : (d.hav == 0) = false := by simpa using hh
    clear hh hok
    have Hgo : ∀ W : World, W = (w.setCell ⟨p, 1, none⟩ (.int .i64 0)).alloc (.cells #[.int .i32 65533] 21) → DecAt W p { d with hav := 0 } := by
      intro W hW; subst hW
      exact DecAt_of (blk_alloc (blk_set HD.out _ _) _) rfl
    have HG := Lib.hid Hgo
    clear Hgo
    have hb : b < d.lo ∨ (¬ b < d.lo ∧ d.hi < b) := by omega
    rcases hb with hb | ⟨hb0, hb⟩
    all_goals
      go_enter Tryd.func36, Tryd.ntmps36
      go_wp2_with fail
      refine (begin_any p _ b _ (HG.out _ rfl) h0 h1).mono ?_
      rintro e w1 ⟨v, rfl, hown, hgb, hdec⟩
      have Hown := Lib.hid hown
      have Hgb := Lib.hid hgb
      have Hdec := Lib.hid hdec
      clear hown hgb hdec
      have hsz := HD.out
      replace hsz := heap_lt hsz
      have Hrow : Hid (w1.ownsRow w.heap.size 21 1 (.slice (some ⟨w.heap.size, 0, none⟩) 1 1) 1 [.int .i32 65533]) :=
        (ownsRow_new (w := w.setCell ⟨p, 1, none⟩ (.int .i64 0)) (n := 1) #[.int .i32 65533] _ (by simp) (by simp) (by decide) rfl rfl).kept Hgb.out (.inr (by simp [Value.ownBlock]; omega))
      go_wp2_with (at_builtin; refine held ?_)
      unfold Held
      have hlen : (beginD { d with hav := 0 } b).2.length ≤ 1 := beginD_len _ _
      have h2 := Hgb.out.size
      refine wpList_app runes_elem rfl rfl w.heap.size Hrow.out rfl (reads_own Hown.out) rfl (ints_oneCell _ _) (by unfold maxLen; omega) (by omega) (by simp at h2; omega) ?_
      intro v' w' h3 h4
      have H3 := Lib.hid h3
      have H4 := Lib.hid h4
      clear h3 h4 hlen h2
      go_wp2_with fail
      go_ret
      refine ⟨v', rfl, ?_, ?_, ?_⟩
      · rw [Hf.out]
        have := H3.out
        simp only [List.length_cons, List.map_cons]
        rw [Nat.add_comm]
        exact this
      · exact gb_trans_new (gb_trans (gb_alloc (gb_set (gb_refl _ _) _ _) _) Hgb.out) H4.out (by intro q hq; simp [Value.ownBlock] at hq; omega)
      · rw [Hf.out]
        exact blk_grown (o := .cells _ 60 (0, 0)) Hdec.out H4.out (by simp [Value.ownBlock]; omega)
  have m1 := hok.m1 hh
  have r1 := hok.r1 hh
  have r0 := hok.r0
  have hr : d.r * 64 < 2097152 := by
    have e : (64 : Int) ^ d.more.toNat = 64 * 64 ^ (d.more.toNat - 1) := by
      obtain ⟨k, hk⟩ : ∃ k, d.more.toNat = k + 1 := ⟨d.more.toNat - 1, by omega⟩
      rw [hk, Int.pow_succ, Int.mul_comm]; rfl
    have hp : (1 : Int) ≤ 64 ^ (d.more.toNat - 1) := by
      have : (0 : Int) < 64 ^ (d.more.toNat - 1) := Int.pow_pos (by decide)
      omega
    have := Int.mul_le_mul_of_nonneg_left (show (64 : Int) ≤ 64 ^ d.more.toNat by rw [e]; omega) r0
    omega
  have hh2 : (d.hav == 0) = false := by simpa using hh
  have hlo : ¬ b < d.lo := by omega
  have hhi : ¬ d.hi < b := by omega
  have k1 := hok.h0
  have k2 := hok.h1
  by_cases hm : 1 < d.more
  · have Hf := Lib.hid (show feedD d b = (⟨d.r * 64 + b % 64, d.hav + 1, d.more - 1, 128, 191⟩, []) by unfold feedD; rw [if_neg hh, if_neg hb, if_pos hm])
    clear hh hok
    go_enter Tryd.func36, Tryd.ntmps36
    go_wp2_with fail
    refine ret1v (v := .slice none 0 0) rfl rfl rfl ⟨_, rfl, ?qown, ?qgb, ?qdec⟩
    all_goals try rw [Hf.out]
    case qown => exact World.ownsRow_nil _ _ _ _
    case qgb => repeat (with_reducible first | refine gb_set ?_ _ _ | exact gb_refl _ _)
    case qdec =>
      apply DecAt_of
      · repeat (with_reducible first | apply blk_set | exact HD.out)
      · rfl
  · have Hf := Lib.hid (show feedD d b = (⟨d.r * 64 + b % 64, 0, d.more - 1, 128, 191⟩, [d.r * 64 + b % 64]) by unfold feedD; rw [if_neg hh, if_neg hb, if_neg hm])
    clear hh hok
    go_enter Tryd.func36, Tryd.ntmps36
    go_wp2_with fail
    refine ret1v (v := .slice (some ⟨w.heap.size, 0, none⟩) 1 1) rfl rfl rfl ⟨_, rfl, ?qown2, ?qgb2, ?qdec2⟩
    all_goals try rw [Hf.out]
    case qown2 => exact ownsRow_new #[.int .i32 (d.r * 64 + b % 64)] _ (by simp) (by simp) (by decide) rfl rfl
    case qgb2 => repeat (with_reducible first | refine gb_set ?_ _ _ | refine gb_alloc ?_ _ | exact gb_refl _ _)
    case qdec2 =>
      apply DecAt_of
      · repeat (with_reducible first | apply blk_set | apply blk_alloc | exact HD.out)
      · rfl

/-- cell.NewDecoder. -/
theorem dec0_ok : dec0.ok := ⟨by decide, by decide, by decide, by decide, fun h => absurd rfl h, fun h => absurd rfl h, fun h => absurd rfl h, fun h => absurd rfl h⟩
theorem newDec_any (w : World) :
    Calls Tryd.prog 18 #[] w fun e w' => e = .returned (.pointer (some ⟨w.heap.size, 0, none⟩)) ∧ w' = w.alloc (.cells dec0.cells 60) := by
  go_enter Tryd.func18, Tryd.ntmps18
  go_wp2
  go_ret
  exact ⟨rfl, rfl⟩
theorem end_any (p : Nat) (d : Dec) (w : World) (hd : DecAt w p d) :
    Calls Tryd.prog 34 #[.pointer (some ⟨p, 0, none⟩)] w fun e w' => ∃ v, e = .returned v ∧
      w'.ownsRow w.heap.size 21 1 v (endD d).2.length ((endD d).2.map (Value.int .i32)) ∧ w.grownBy w' (some p) ∧ DecAt w' p (endD d).1 := by
  have c1 : w.cell? ⟨p, 1, none⟩ = some (.int .i64 d.hav) := blk_cell hd 1
  have fz := blk_free hd
  have HD : w.heap[p]? = some (.cells d.cells 60 (0, 0)) := hd
  replace HD := Lib.hid HD
  by_cases hh : d.hav = 0
  · have Hf := Lib.hid (show endD d = (d, []) by unfold endD; rw [if_pos hh])
    have hh2 : (d.hav == 0) = true := by simpa using hh
    clear hh
    go_enter Tryd.func34, Tryd.ntmps34
    go_wp2
    refine ret1v (v := .slice none 0 0) rfl rfl rfl ⟨_, rfl, ?_, ?_, ?_⟩
    · rw [Hf.out]; exact World.ownsRow_nil _ _ _ _
    · exact gb_refl _ _
    · rw [Hf.out]; exact HD.out
  · have Hf := Lib.hid (show endD d = ({ d with hav := 0 }, [65533]) by unfold endD; rw [if_neg hh])
    have hh2 : (d.hav == 0) = false := by simpa using hh
    clear hh
    go_enter Tryd.func34, Tryd.ntmps34
    go_wp2
    refine ret1v (v := .slice (some ⟨w.heap.size, 0, none⟩) 1 1) rfl rfl rfl ⟨_, rfl, ?_, ?_, ?_⟩
    · rw [Hf.out]; exact ownsRow_new #[.int .i32 65533] _ (by simp) (by simp) (by decide) rfl rfl
    · exact gb_alloc (gb_set (gb_refl _ _) _ _) _
    · rw [Hf.out]; exact DecAt_of (blk_alloc (blk_set HD.out _ _) _) rfl
end Go.Proofs.YtkdicejlfagaeaaDoor
