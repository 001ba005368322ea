/- Walks of package grid: region, Clone of rows. -/
import Derived.Test.YtjclgoiclbkgjaaDoorM4
namespace Go.Proofs.YtjclgoiclbkgjaaDoor
open Go.RowKit

set_option maxRecDepth 100000 in
set_option maxHeartbeats 1000000 in
theorem region_any {T : Nat → Nat} {p : Nat} {w : World} {g : Gr} (h : GM T p w g) (top bottom n : Int) (s : Sty) (hs : RightOk s) :
    Calls Tryd.prog 38 #[.pointer (some ⟨p, 0, none⟩), .int .i64 top, .int .i64 bottom, .int .i64 n, s.val] w fun e w' => e = .returned (.int .i64 (regionN g top bottom n s)) ∧ Below w.heap.size w w' := by
  have hBz := Below.alloc (Below.refl w.heap.size w) (Nat.le_refl _) (.cells #[.int .i64 s.fg, .int .i64 s.bg, .int .i64 s.attr] 33)
  have HB := Lib.hid hBz
  have h' := h.below hBz
  have wf := h.wf
  clear h
  obtain ⟨vr, vo, Lr, Lo, h⟩ := h'
  obtain ⟨c0, c1, c2, c3⟩ := gm_cells h
  have hl := ownC_ln Tryd.underlying68 h.rr.own
  rw [(rows_len h).1] at hl
  clear h
  have w1 := wf.r2
  clear wf hBz
  unfold Sty.val
  by_cases h0 : top < 0
  · have HE := Lib.hid (show regionN g top bottom n s = 0 by unfold regionN; rw [if_pos (.inl h0)])
    have d0 : decide (top < 0) = true := decide_eq_true h0
    go_enter Tryd.func38, Tryd.ntmps38
    go_wp2_with fail
    go_ret
    exact ⟨ret_int (by rw [HE.out]; rfl), HB.out⟩
  have d0 : decide (top < 0) = false := decide_eq_false h0
  by_cases h1 : bottom < top
  · have HE := Lib.hid (show regionN g top bottom n s = 0 by unfold regionN; rw [if_pos (.inr (.inl h1))])
    have d1 : decide (bottom < top) = true := decide_eq_true h1
    go_enter Tryd.func38, Tryd.ntmps38
    go_wp2_with fail
    go_ret
    exact ⟨ret_int (by rw [HE.out]; rfl), HB.out⟩
  have d1 : decide (bottom < top) = false := decide_eq_false h1
  by_cases h2 : (g.rows.length : Int) ≤ bottom
  · have HE := Lib.hid (show regionN g top bottom n s = 0 by unfold regionN; rw [if_pos (.inr (.inr (.inl h2)))])
    have d2 : decide ((g.rows.length : Int) ≤ bottom) = true := decide_eq_true h2
    go_enter Tryd.func38, Tryd.ntmps38
    go_wp2_with fail
    go_ret
    exact ⟨ret_int (by rw [HE.out]; rfl), HB.out⟩
  have d2 : decide ((g.rows.length : Int) ≤ bottom) = false := decide_eq_false h2
  have HR := Lib.hid hs
  clear hs
  cases hok : okS s
  · have HE := Lib.hid (show regionN g top bottom n s = 0 by unfold regionN; rw [if_pos (.inr (.inr (.inr hok)))])
    go_enter Tryd.func38, Tryd.ntmps38
    go_wp2_with fail
    refine (HR.out _).mono ?_
    rintro e w3 ⟨rfl, b3⟩
    rw [hok]
    have HB3 := Lib.hid (HB.out.trans (b3.mono (by simp)))
    clear b3
    go_wp2_with fail
    go_ret
    exact ⟨ret_int (by rw [HE.out]; rfl), HB3.out⟩
  · have HE := Lib.hid (show (regionN g top bottom n s : Int) = max 0 (min n (bottom - top + 1)) by
      unfold regionN
      rw [if_neg (by rw [hok]; simp; omega)]
      omega)
    have hw1 : IntKind.i64.wrap (bottom - top) = bottom - top := wrap64_id _ (by omega) (by omega)
    have hw2 : IntKind.i64.wrap (bottom - top + 1) = bottom - top + 1 := wrap64_id _ (by omega) (by omega)
    go_enter Tryd.func38, Tryd.ntmps38
    go_wp2_with fail
    refine (HR.out _).mono ?_
    rintro e w3 ⟨rfl, b3⟩
    rw [hok]
    have HB3 := Lib.hid (HB.out.trans (b3.mono (by simp)))
    clear b3
    go_wp2_with fail
    go_ret
    exact ⟨ret_int HE.out.symm, HB3.out⟩
set_option maxRecDepth 100000 in
theorem cloneR_any (L : List (Value × Rw)) (a : Addr) (c : Nat) (w : World) (h : Reads w 2 (.slice (some a) L.length c) L.length (rowVals L)) (h1 : ∀ u ∈ rowVals L, u.oneCell' = true) (hl : L.length ≤ 100000) :
    Calls Tryd.prog 39 #[.slice (some a) L.length c] w fun e w' => ∃ v', e = .returned v' ∧ Below w.heap.size w w' ∧ OwnC w' w.heap.size 2 v' L.length (rowVals L) := by
  have hq := fun (wx : World) => Lib.run_eql_slice_nil (P := Tryd.prog) wx 68 76 (some a) L.length c 0 0 Tryd.underlying68
  have HR := Lib.hid h
  have H1 := Lib.hid h1
  clear h h1
  go_enter Tryd.func39, Tryd.ntmps39
  go_wp2_with (at_builtin; refine held ?_)
  unfold Held
  refine wpList_appC rows_elem rfl rfl w.heap.size (own_empty w 76 2) rfl (reads_kept HR.out (World.grownBy_alloc w _ none) (by intro _ _ e; simp at e)) rfl H1.out (by unfold maxLen; omega) (by omega) (by simp) ?_
  intro v6 w6 o6 g6
  rw [Nat.zero_add, List.nil_append] at o6
  have HB6 := Lib.hid ((Below.alloc (Below.refl w.heap.size w) (Nat.le_refl _) (.cells #[] 76)).grown g6 (by simp) (by intro q hq; simp [Value.ownBlock] at hq; omega))
  have HO6 := Lib.hid o6
  clear o6 g6
  go_wp2_with fail
  exact ret1v rfl rfl rfl ⟨_, rfl, HB6.out, HO6.out⟩
end Go.Proofs.YtjclgoiclbkgjaaDoor
