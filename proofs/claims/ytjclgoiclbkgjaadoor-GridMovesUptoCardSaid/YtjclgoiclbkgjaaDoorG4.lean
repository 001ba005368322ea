/- Walks of package grid: New, sizes, row. -/
import Derived.Test.YtjclgoiclbkgjaaDoorM3
namespace Go.Proofs.YtjclgoiclbkgjaaDoor
open Go.RowKit

theorem newGrid_no (cols rows hist : Int) (w : World) (h : mayG cols rows = false ∨ hist < 0 ∨ 2000 < hist) :
    Calls Tryd.prog 11 #[.int .i64 cols, .int .i64 rows, .int .i64 hist] w fun e w' => e = .returned (.tuple #[.pointer none, .int .i64 1]) ∧ w' = w := by
  have HM := Lib.hid (may_any cols rows w)
  cases hm : mayG cols rows
  · rw [hm] at HM
    go_enter Tryd.func11, Tryd.ntmps11
    go_wp2_with fail
    refine HM.out.mono ?_
    rintro e w2 ⟨rfl, rfl⟩
    go_wp2_with fail
    refine ret2w rfl rfl rfl rfl ⟨rfl, rfl⟩
  · rw [hm] at HM h
    by_cases h0 : hist < 0
    · have e0 : decide (hist < 0) = true := decide_eq_true h0
      go_enter Tryd.func11, Tryd.ntmps11
      go_wp2_with fail
      refine HM.out.mono ?_
      rintro e w2 ⟨rfl, rfl⟩
      go_wp2_with fail
      refine ret2w rfl rfl rfl rfl ⟨rfl, rfl⟩
    · have e0 : decide (hist < 0) = false := decide_eq_false h0
      have e1 : decide (2000 < hist) = true := decide_eq_true (by simp at h; omega)
      go_enter Tryd.func11, Tryd.ntmps11
      go_wp2_with fail
      refine HM.out.mono ?_
      rintro e w2 ⟨rfl, rfl⟩
      go_wp2_with fail
      refine ret2w rfl rfl rfl rfl ⟨rfl, rfl⟩
theorem newGrid_any (cols rows hist : Nat) (w : World) (h1 : 1 ≤ cols) (h2 : cols ≤ 250) (h3 : 1 ≤ rows) (h4 : rows ≤ 120) (h5 : hist ≤ 2000) :
    Calls Tryd.prog 11 #[.int .i64 cols, .int .i64 rows, .int .i64 hist] w fun e w' => ∃ p T, e = .returned (.tuple #[.pointer (some ⟨p, 0, none⟩), .int .i64 0]) ∧ Below w.heap.size w w' ∧ GM T p w' (newG cols rows hist) ∧ ∀ k, T k ≠ 0 → w.heap.size ≤ k := by
  have hm : mayG cols rows = true := by
    unfold mayG
    rw [decide_eq_true (by omega), decide_eq_true (by omega), decide_eq_true (by omega), decide_eq_true (by omega)]; rfl
  have HM := Lib.hid (may_any cols rows w)
  rw [hm] at HM
  have e0 : decide ((hist : Int) < 0) = false := decide_eq_false (by omega)
  have e1 : decide (2000 < (hist : Int)) = false := decide_eq_false (by omega)
  have e1' : decide (2000 < hist) = false := decide_eq_false (by omega)
  go_enter Tryd.func11, Tryd.ntmps11
  go_wp2_with fail
  refine HM.out.mono ?_
  rintro e w2 ⟨rfl, rfl⟩
  go_wp2_with fail
  refine (plain_any _).mono ?_
  rintro e w3 ⟨rfl, b3⟩
  have HB3 := Lib.hid b3
  clear b3
  go_wp2_with fail
  refine (fresh_any rows cols plainS w3 (by omega) (by omega)).mono ?_
  rintro e w4 ⟨v, L, rfl, b4, hL, hR⟩
  obtain ⟨va, vc, rfl⟩ := ownC_sl hR.own
  have HB4 := Lib.hid (HB3.out.trans (b4.mono HB3.out.size))
  have HR4 := Lib.hid hR
  have HL := Lib.hid hL
  have hs3 := HB3.out.size
  have hs4 := b4.size
  clear b4 hR hL
  go_wp2_with fail
  have hbk := blk_new w4 (.cells #[.int .i64 cols, .int .i64 hist, .slice va L.length vc, .slice none 0 0] 70)
  have hb5 := Below.alloc (Below.refl w4.heap.size w4) (Nat.le_refl _) (.cells #[.int .i64 cols, .int .i64 hist, .slice va L.length vc, .slice none 0 0] 70)
  have hr5 : RowsAt w3.heap.size (w4.alloc (.cells #[.int .i64 cols, .int .i64 hist, .slice va L.length vc, .slice none 0 0] 70)) (.slice va L.length vc) L :=
    ⟨ownC_below HR4.out.own hb5, fun x hx => ownC_below (HR4.out.cells x hx) hb5, HR4.out.nd, HR4.out.ap⟩
  refine ret2w rfl rfl rfl rfl ⟨w4.heap.size, _, rfl, HB4.out.trans (hb5.mono (by omega)), gat_new (g := newG cols rows hist) hr5 hbk ?_ ?_ (by omega) HL.out rfl (newG_wf h1 h2 h3 h4 h5), fun k hk => ?_⟩
  · intro e
    have := (ownC_lt HR4.out.own _ e).2
    omega
  · intro x hx e
    have := (ownC_lt (HR4.out.cells x hx) _ e).2
    omega
  · have := newT4_from (by omega) hr5.own k hk
    omega
theorem gm_cells {T : Nat → Nat} {p : Nat} {vr vo : Value} {Lr Lo : List (Value × Rw)} {w : World} {g : Gr} (h : GAt T p vr vo Lr Lo w g) :
    w.cell? ⟨p, 0, none⟩ = some (.int .i64 g.cols) ∧ w.cell? ⟨p, 1, none⟩ = some (.int .i64 g.limit) ∧ w.cell? ⟨p, 2, none⟩ = some vr ∧ w.cell? ⟨p, 3, none⟩ = some vo :=
  ⟨blk_cell h.blk 0, blk_cell h.blk 1, blk_cell h.blk 2, blk_cell h.blk 3⟩
theorem cols_any {T : Nat → Nat} {p : Nat} {w : World} {g : Gr} (h : GM T p w g) :
    Calls Tryd.prog 9 #[.pointer (some ⟨p, 0, none⟩)] w fun e w' => e = .returned (.int .i64 g.cols) ∧ w' = w := by
  obtain ⟨vr, vo, Lr, Lo, h⟩ := h
  obtain ⟨c0, c1, c2, c3⟩ := gm_cells h
  clear h
  go_enter Tryd.func9, Tryd.ntmps9
  go_wp2_with fail
  go_ret
  exact ⟨rfl, rfl⟩
theorem limit_any {T : Nat → Nat} {p : Nat} {w : World} {g : Gr} (h : GM T p w g) :
    Calls Tryd.prog 29 #[.pointer (some ⟨p, 0, none⟩)] w fun e w' => e = .returned (.int .i64 g.limit) ∧ w' = w := by
  obtain ⟨vr, vo, Lr, Lo, h⟩ := h
  obtain ⟨c0, c1, c2, c3⟩ := gm_cells h
  clear h
  go_enter Tryd.func29, Tryd.ntmps29
  go_wp2_with fail
  go_ret
  exact ⟨rfl, rfl⟩
theorem rowsN_any {T : Nat → Nat} {p : Nat} {w : World} {g : Gr} (h : GM T p w g) :
    Calls Tryd.prog 10 #[.pointer (some ⟨p, 0, none⟩)] w fun e w' => e = .returned (.int .i64 g.rows.length) ∧ w' = w := by
  obtain ⟨vr, vo, Lr, Lo, h⟩ := h
  obtain ⟨c0, c1, c2, c3⟩ := gm_cells h
  have hl := ownC_ln Tryd.underlying68 h.rr.own
  rw [(rows_len h).1] at hl
  clear h
  go_enter Tryd.func10, Tryd.ntmps10
  go_wp2_with fail
  go_ret
  exact ⟨rfl, rfl⟩
theorem history_any {T : Nat → Nat} {p : Nat} {w : World} {g : Gr} (h : GM T p w g) :
    Calls Tryd.prog 27 #[.pointer (some ⟨p, 0, none⟩)] w fun e w' => e = .returned (.int .i64 g.old.length) ∧ w' = w := by
  obtain ⟨vr, vo, Lr, Lo, h⟩ := h
  obtain ⟨c0, c1, c2, c3⟩ := gm_cells h
  have hl := ownC_ln Tryd.underlying68 h.ro.own
  rw [(rows_len h).2] at hl
  clear h
  go_enter Tryd.func27, Tryd.ntmps27
  go_wp2_with fail
  go_ret
  exact ⟨rfl, rfl⟩
end Go.Proofs.YtjclgoiclbkgjaaDoor
