/- Walks of package grid: cut, may, fresh. -/
import Derived.Test.YtjclgoiclbkgjaaDoorG1
import Derived.StillTailTactics
namespace Go.Proofs.YtjclgoiclbkgjaaDoor
open Go.RowKit

theorem wrap64_id (n : Int) (h1 : -9223372036854775808 ≤ n) (h2 : n ≤ 9223372036854775807) : IntKind.i64.wrap n = n := by
  unfold IntKind.wrap
  simp [IntKind.bits, IntKind.signed]
  omega
theorem ownC_cel {w : World} {base b off n c : Nat} {l : List Cel} (h : OwnC w base 5 (.slice (some ⟨b, off, none⟩) n c) n (cvals l)) (k : Nat) (hk : k < n) (hl : l.length = n) :
    w.cell? ⟨b, off + k * 5, none⟩ = some (.int .i32 (l.getD k noC).rune) ∧ w.cell? ⟨b, off + k * 5 + 1, none⟩ = some (.int .i64 (l.getD k noC).width) ∧ w.cell? ⟨b, off + k * 5 + 2, none⟩ = some (.int .i64 (l.getD k noC).sty.fg) ∧
    w.cell? ⟨b, off + k * 5 + 3, none⟩ = some (.int .i64 (l.getD k noC).sty.bg) ∧ w.cell? ⟨b, off + k * 5 + 4, none⟩ = some (.int .i64 (l.getD k noC).sty.attr) := by
  obtain ⟨e1, h2⟩ := h
  rcases h2 with ⟨e, _⟩ | ⟨b', off', c', e, hb, hbs, hnc, hcm, hcells, hxs⟩
  · simp at e
  · simp only [Value.slice.injEq, Option.some.injEq, Addr.mk.injEq] at e
    obtain ⟨⟨rfl, rfl, _⟩, _, rfl⟩ := e
    have key : ∀ i u, i < 5 → (l.getD k noC).vals[i]? = some u → w.cell? ⟨b, off + (k * 5 + i), none⟩ = some u := fun i u hi hu => hxs _ u (by rw [cvals_at l k (by omega) i hi]; exact hu)
    exact ⟨key 0 _ (by decide) rfl, key 1 _ (by decide) rfl, key 2 _ (by decide) rfl, key 3 _ (by decide) rfl, key 4 _ (by decide) rfl⟩
set_option maxRecDepth 100000 in
set_option maxHeartbeats 2000000 in
theorem cut_any (l : List Cel) (x : Int) (b off n c : Nat) (w : World) (h : OwnC w 0 5 (.slice (some ⟨b, off, none⟩) n c) n (cvals l)) (hn : l.length = n) (hm : n ≤ 1000000) (hx : -4611686018427387904 ≤ x ∧ x ≤ 4611686018427387904) :
    Calls Tryd.prog 43 #[.slice (some ⟨b, off, none⟩) n c, .int .i64 x] w fun e w' => e = .returned (.tuple #[]) ∧ w.grownBy w' (some b) ∧ OwnC w' 0 5 (.slice (some ⟨b, off, none⟩) n c) n (cvals (cutL l x)) := by
  have HO := Lib.hid h
  have hnc : n ≤ c := by
    rcases h.2 with ⟨e, _⟩ | ⟨b', off', c', e, _, _, hnc, _⟩
    · simp at e
    · simp only [Value.slice.injEq] at e; omega
  clear h
  by_cases h0 : 0 < x ∧ x < (n : Int)
  rotate_left
  · have HE := Lib.hid (show cutL l x = l by unfold cutL; rw [if_neg (by rw [hn]; omega)])
    by_cases h1 : 0 < x
    · have hd1 : decide (0 < x) = true := decide_eq_true h1
      have hd2 : decide (x < (n : Int)) = false := decide_eq_false (by omega)
      go_enter Tryd.func43, Tryd.ntmps43
      go_wp2_with fail
      go_end0
      refine ⟨rfl, gb_refl _ _, ?_⟩
      rw [HE.out]; exact HO.out
    · have hd1 : decide (0 < x) = false := decide_eq_false h1
      go_enter Tryd.func43, Tryd.ntmps43
      go_wp2_with fail
      go_end0
      refine ⟨rfl, gb_refl _ _, ?_⟩
      rw [HE.out]; exact HO.out
  obtain ⟨k, rfl⟩ : ∃ k : Nat, x = (k : Int) := ⟨x.toNat, by omega⟩
  have hd1 : decide (0 < (k : Int)) = true := decide_eq_true h0.1
  have hd2 : decide ((k : Int) < (n : Int)) = true := decide_eq_true h0.2
  have hd1' : decide (0 < k) = true := decide_eq_true (by omega)
  have hd2' : decide (k < n) = true := decide_eq_true (by omega)
  obtain ⟨c0, c1, c2, c3, c4⟩ := ownC_cel HO.out k (by omega) hn
  have hix := idx_at (P := Tryd.prog) (size := 5) Tryd.underlying51 cell_info b off n c k (by omega)
  by_cases hw : (l.getD k noC).width = 0
  · have HE := Lib.hid (show cutL l k = fillL l (k - 1) 2 (l.getD k noC).sty by unfold cutL; rw [if_pos ⟨h0.1, by rw [hn]; exact h0.2, by rw [Int.toNat_natCast]; exact hw⟩, Int.toNat_natCast])
    have hd3 : ((l.getD k noC).width == 0) = true := by rw [hw]; rfl
    have hsl := slice_lh (P := Tryd.prog) (size := 5) Tryd.underlying51 cell_info b off n c (k - 1) (k + 1) (by omega) (by omega) (by omega)
    rw [show ((k - 1 : Nat) : Int) = (k : Int) - 1 by omega, show ((k + 1 : Nat) : Int) = (k : Int) + 1 by omega, show k + 1 - (k - 1) = 2 by omega] at hsl
    have hw1 : IntKind.i64.wrap ((k : Int) - 1) = (k : Int) - 1 := wrap64_id _ (by omega) (by omega)
    have hw2 : IntKind.i64.wrap ((k : Int) + 1) = (k : Int) + 1 := wrap64_id _ (by omega) (by omega)
    generalize l.getD k noC = cc at *
    obtain ⟨cr, cw, cs⟩ := cc
    dsimp only at c0 c1 c2 c3 c4 hw hd3 HE
    have HF := Lib.hid (fun wx (ho : OwnC wx 0 5 (.slice (some ⟨b, off, none⟩) n c) n (cvals l)) => fill_any l cs b off n c (k - 1) 2 (c - (k - 1)) wx ho hn (by omega) (by unfold maxLen; omega))
    unfold Sty.val at HF
    go_enter Tryd.func43, Tryd.ntmps43
    go_upto_region 1 with fail
    go_still_tail 11, (by kernel_rfl)
    change wpList _ _ _ _ _ w.drew
    have HO1 := Lib.hid (show OwnC w.drew 0 5 (.slice (some ⟨b, off, none⟩) n c) n (cvals l) from HO.out)
    generalize hwd : w.drew = wd at *
    go_wp2_with fail
    refine (HF.out _ HO1.out).mono ?_
    rintro e w2 ⟨rfl, g2, o2⟩
    have HG2 := Lib.hid (gb_trans (show w.grownBy wd (some b) by rw [← hwd]; exact gb_drew (gb_refl _ _)) g2)
    have HO2 := Lib.hid o2
    clear g2 o2
    go_wp2_with fail
    go_end0
    refine ⟨rfl, HG2.out, ?_⟩
    rw [HE.out]; exact HO2.out
  · have HE := Lib.hid (show cutL l k = l by unfold cutL; rw [if_neg (by rw [Int.toNat_natCast]; intro hh; exact hw hh.2.2)])
    have hd3 : ((l.getD k noC).width == 0) = false := beq_eq_false_iff_ne.2 hw
    generalize l.getD k noC = cc at *
    obtain ⟨cr, cw, cs⟩ := cc
    dsimp only at c0 c1 c2 c3 c4 hw hd3
    go_enter Tryd.func43, Tryd.ntmps43
    go_wp2_with fail
    go_end0
    refine ⟨rfl, gb_refl _ _, ?_⟩
    rw [HE.out]; exact HO.out
theorem may_any (x y : Int) (w : World) : Calls Tryd.prog 35 #[.int .i64 x, .int .i64 y] w fun e w' => e = .returned (.bool (mayG x y)) ∧ w' = w := by
  by_cases h1 : 1 ≤ x
  rotate_left
  · have e : decide (1 ≤ x) = false := decide_eq_false h1
    go_enter Tryd.func35, Tryd.ntmps35
    go_wp2_with fail
    go_ret
    exact ⟨ret_bool (by unfold mayG; rw [e]; rfl), rfl⟩
  have e1 : decide (1 ≤ x) = true := decide_eq_true h1
  by_cases h2 : x ≤ 250
  rotate_left
  · have e : decide (x ≤ 250) = false := decide_eq_false h2
    go_enter Tryd.func35, Tryd.ntmps35
    go_wp2_with fail
    go_ret
    exact ⟨ret_bool (by unfold mayG; rw [e, e1]; rfl), rfl⟩
  have e2 : decide (x ≤ 250) = true := decide_eq_true h2
  by_cases h3 : 1 ≤ y
  rotate_left
  · have e : decide (1 ≤ y) = false := decide_eq_false h3
    go_enter Tryd.func35, Tryd.ntmps35
    go_wp2_with fail
    go_ret
    exact ⟨ret_bool (by unfold mayG; rw [e, e1, e2]; rfl), rfl⟩
  have e3 : decide (1 ≤ y) = true := decide_eq_true h3
  cases h4 : decide (y ≤ 120)
  · go_enter Tryd.func35, Tryd.ntmps35
    go_wp2_with fail
    go_ret
    exact ⟨ret_bool (by unfold mayG; rw [e1, e2, e3, h4]; rfl), rfl⟩
  · go_enter Tryd.func35, Tryd.ntmps35
    go_wp2_with fail
    go_ret
    exact ⟨ret_bool (by unfold mayG; rw [e1, e2, e3, h4]; rfl), rfl⟩
end Go.Proofs.YtjclgoiclbkgjaaDoor
