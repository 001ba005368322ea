/- Package vtparse: New, State, Reset. -/
import Derived.Test.YtkdicejlfagaeaaDoorW10
namespace Go.Proofs.YtkdicejlfagaeaaDoor
open Go.RowKit

def newT (p d : Nat) : Nat → Nat := fun k => if k = p then 1 else if k = d then 2 else 0
theorem core_new (p d : Nat) (w : World) (hp : w.heap[p]? = some (.cells (s0.cells d .nilFunc nilS nilS nilS) 45 (0, 0))) (hd : DecAt w d dec0) (hne : d ≠ p) : Rest (newT p d) p w s0 := by
  refine ⟨fun k hk => ?_, s0_fine, d, nilS, nilS, nilS, ⟨hp, hd, dec0_ok, row_nil _ _ _ _, fun _ => row_nil _ _ _ _, row_nil _ _ _ _, by simp [newT], by simp [newT, hne]⟩⟩
  unfold newT at hk
  by_cases h1 : k = p
  · subst h1; exact heap_lt hp
  · by_cases h2 : k = d
    · subst h2; exact heap_lt hd
    · simp [h1, h2] at hk
theorem new_ex (w : World) :
    Calls Tryd.prog 11 #[] w fun e w' => e = .returned (.pointer (some ⟨w.heap.size + 1, 0, none⟩)) ∧ w' = (w.alloc (.cells dec0.cells 60)).alloc (.cells (s0.cells w.heap.size .nilFunc nilS nilS nilS) 45) := by
  go_enter Tryd.func11, Tryd.ntmps11
  go_wp2_with fail
  refine (newDec_any _).mono ?_
  rintro e w1 ⟨rfl, rfl⟩
  go_wp2_with fail
  go_ret
  exact ⟨rfl, rfl⟩
theorem new_any (w : World) :
    Calls Tryd.prog 11 #[] w fun e w' => ∃ p T, e = .returned (.pointer (some ⟨p, 0, none⟩)) ∧ Below w.heap.size w w' ∧ Rest T p w' s0 ∧ ∀ k, T k ≠ 0 → w.heap.size ≤ k := by
  refine (new_ex w).mono ?_
  rintro e w' ⟨rfl, rfl⟩
  refine ⟨w.heap.size + 1, newT (w.heap.size + 1) w.heap.size, rfl, ((Below.refl _ _).alloc (Nat.le_refl _) _).alloc (by simp) _, core_new _ _ _ ?_ ?_ (by omega), fun k hk => ?_⟩
  · have := heap_alloc_new (w.alloc (.cells dec0.cells 60)) (.cells (s0.cells w.heap.size .nilFunc nilS nilS nilS) 45)
    rw [show (w.alloc (.cells dec0.cells 60)).heap.size = w.heap.size + 1 by simp] at this
    exact this
  · exact blk_alloc (heap_alloc_new w (.cells dec0.cells 60)) _
  · unfold newT at hk
    by_cases h1 : k = w.heap.size + 1
    · omega
    · by_cases h2 : k = w.heap.size
      · omega
      · simp [h1, h2] at hk
def stateName (n : Int) : List UInt8 :=
  if n = 0 then [103, 114, 111, 117, 110, 100] else if n = 1 then [101, 115, 99, 97, 112, 101] else if n = 2 then [99, 115, 105] else if n = 3 then [105, 103, 110, 111, 114, 101]
  else if n = 4 then [111, 115, 99] else if n = 5 then [100, 99, 115] else if n = 6 then [100, 97, 116, 97] else [115, 116, 114, 105, 110, 103]
def stArr : Value := .agg #[.string ⟨#[103, 114, 111, 117, 110, 100]⟩, .string ⟨#[101, 115, 99, 97, 112, 101]⟩, .string ⟨#[99, 115, 105]⟩, .string ⟨#[105, 103, 110, 111, 114, 101]⟩, .string ⟨#[111, 115, 99]⟩, .string ⟨#[100, 99, 115]⟩, .string ⟨#[100, 97, 116, 97]⟩, .string ⟨#[115, 116, 114, 105, 110, 103]⟩]
theorem state_ix (i : Nat) (hi : i < 8) (wx : World) : (Instr.index 49 stArr (.int .i64 i)).run Tryd.prog wx = .ok (.string ⟨(stateName i).toArray⟩) wx := by
  have hs : (sizeOf 9).run Tryd.prog wx = .ok 1 wx := run_size (by kernel_rfl) wx
  have hi' : (0 : Int) ≤ (i : Int) ∧ (i : Int) < 8 := by omega
  unfold stArr
  simp only [Instr.index, asIntOf, Sem.run_bind, Sem.run_pure, Result.andThen_ok, run_underlying Tryd.underlying49, if_pos hi', hs]
  have : i = 0 ∨ i = 1 ∨ i = 2 ∨ i = 3 ∨ i = 4 ∨ i = 5 ∨ i = 6 ∨ i = 7 := by omega
  rcases this with rfl | rfl | rfl | rfl | rfl | rfl | rfl | rfl
  all_goals simp [part, hs, run_size, stateName]
theorem state_any {T : Nat → Nat} {p : Nat} {w : World} {s : PSt} (h : Rest T p w s) :
    Calls Tryd.prog 14 #[.pointer (some ⟨p, 0, none⟩)] w fun e w' => e = .returned (.string ⟨(stateName s.state).toArray⟩) ∧ w.grownBy w' none := by
  obtain ⟨hl, hf, d, vi, vp, vt, hC⟩ := h
  have c0 : w.cell? ⟨p, 0, none⟩ = some (.int .i64 s.state) := parCell hC 0
  have hst := hf.st
  clear hC hl hf
  generalize s.state = st at *
  have hc : st = 0 ∨ st = 1 ∨ st = 2 ∨ st = 3 ∨ st = 4 ∨ st = 5 ∨ st = 6 ∨ st = 7 := by omega
  clear hst
  obtain ⟨i, hi, rfl⟩ : ∃ i : Nat, i < 8 ∧ st = (i : Int) := ⟨st.toNat, by omega, by omega⟩
  clear hc
  have hix := fun wx => state_ix i hi wx
  unfold stArr at hix
  · go_enter Tryd.func14, Tryd.ntmps14
    go_wp2_with fail
    go_ret
    refine ⟨rfl, ?_⟩
    repeat (with_reducible first | refine gb_alloc ?_ _ | refine gb_drew ?_ | exact gb_refl _ _)
theorem cells_reset (s : PSt) (d n : Nat) (vi vp vt : Value) : (((((((((((s.cells d .nilFunc vi vp vt).setIfInBounds 0 (.int .i64 0)).setIfInBounds 1 (.pointer (some ⟨n, 0, none⟩))).setIfInBounds 2 .nilFunc).setIfInBounds 3 (.slice none 0 0)).setIfInBounds 4 (.slice none 0 0)).setIfInBounds 5 (.bool false)).setIfInBounds 6 (.slice none 0 0)).setIfInBounds 7 (.int .u8 0)).setIfInBounds 8 (.bool false)).setIfInBounds 9 (.int .i64 0)) = s0.cells n .nilFunc nilS nilS nilS := by
  simp only [PSt.cells, List.setIfInBounds_toArray, List.set_cons_zero, List.set_cons_succ, s0, nilS]
  rfl
theorem reset_any {T : Nat → Nat} {p : Nat} {w : World} {s : PSt} (h : Rest T p w s) :
    Calls Tryd.prog 15 #[.pointer (some ⟨p, 0, none⟩)] w fun e w' => ∃ T', e = .returned (.tuple #[]) ∧ Within (own T w) w w' ∧ Rest T' p w' s0 ∧ ∀ k, T' k ≠ 0 → own T w k := by
  obtain ⟨hl, hf, d, vi, vp, vt, hC⟩ := h
  have hb2 := blk_alloc (blk_alloc hC.blk (.cells dec0.cells 60)) (.cells (s0.cells w.heap.size .nilFunc nilS nilS nilS) 45)
  have hpl := heap_lt hC.blk
  have HC := Lib.hid hC
  clear hC
  go_enter Tryd.func15, Tryd.ntmps15
  go_wp2_with fail
  refine (new_ex w).mono ?_
  rintro e w2 ⟨rfl, hw2⟩
  rw [← hw2] at hb2
  have fz := blk_free hb2
  have k0 : w2.cell? ⟨p, 0, none⟩ = some (.int .i64 s.state) := blk_cell hb2 0
  have k1 : w2.cell? ⟨p, 1, none⟩ = some (.pointer (some ⟨d, 0, none⟩)) := blk_cell hb2 1
  have k2 : w2.cell? ⟨p, 2, none⟩ = some .nilFunc := blk_cell hb2 2
  have k3 : w2.cell? ⟨p, 3, none⟩ = some vi := blk_cell hb2 3
  have k4 : w2.cell? ⟨p, 4, none⟩ = some vp := blk_cell hb2 4
  have k5 : w2.cell? ⟨p, 5, none⟩ = some (.bool s.any) := blk_cell hb2 5
  have k6 : w2.cell? ⟨p, 6, none⟩ = some vt := blk_cell hb2 6
  have k7 : w2.cell? ⟨p, 7, none⟩ = some (.int .u8 (s.final.toNat : Int)) := blk_cell hb2 7
  have k8 : w2.cell? ⟨p, 8, none⟩ = some (.bool s.ended) := blk_cell hb2 8
  have k9 : w2.cell? ⟨p, 9, none⟩ = some (.int .i64 s.frm) := blk_cell hb2 9
  have hn : w2.heap[w.heap.size + 1]? = some (.cells (s0.cells w.heap.size .nilFunc nilS nilS nilS) 45 (0, 0)) := by
    rw [hw2]
    have := heap_alloc_new (w.alloc (.cells dec0.cells 60)) (.cells (s0.cells w.heap.size .nilFunc nilS nilS nilS) 45)
    rw [show (w.alloc (.cells dec0.cells 60)).heap.size = w.heap.size + 1 by simp] at this
    exact this
  have hdn : w2.heap[w.heap.size]? = some (.cells dec0.cells 60 (0, 0)) := by
    rw [hw2]
    exact blk_alloc (heap_alloc_new w (.cells dec0.cells 60)) _
  have n0 : w2.cell? ⟨w.heap.size + 1, 0, none⟩ = some (.int .i64 0) := blk_cell hn 0
  have n1 : w2.cell? ⟨w.heap.size + 1, 1, none⟩ = some (.pointer (some ⟨w.heap.size, 0, none⟩)) := blk_cell hn 1
  have n2 : w2.cell? ⟨w.heap.size + 1, 2, none⟩ = some .nilFunc := blk_cell hn 2
  have n3 : w2.cell? ⟨w.heap.size + 1, 3, none⟩ = some (.slice none 0 0) := blk_cell hn 3
  have n4 : w2.cell? ⟨w.heap.size + 1, 4, none⟩ = some (.slice none 0 0) := blk_cell hn 4
  have n5 : w2.cell? ⟨w.heap.size + 1, 5, none⟩ = some (.bool false) := blk_cell hn 5
  have n6 : w2.cell? ⟨w.heap.size + 1, 6, none⟩ = some (.slice none 0 0) := blk_cell hn 6
  have n7 : w2.cell? ⟨w.heap.size + 1, 7, none⟩ = some (.int .u8 0) := blk_cell hn 7
  have n8 : w2.cell? ⟨w.heap.size + 1, 8, none⟩ = some (.bool false) := blk_cell hn 8
  have n9 : w2.cell? ⟨w.heap.size + 1, 9, none⟩ = some (.int .i64 0) := blk_cell hn 9
  have HB2 := Lib.hid hb2
  have HDN := Lib.hid hdn
  have HG2 := Lib.hid (show w.grownBy w2 none by rw [hw2]; exact gb_alloc (gb_alloc (gb_refl _ _) _) _)
  have HW2 := Lib.hid hw2
  clear hb2 hdn hn hw2
  go_wp2_with fail
  go_end0
  have hb := blk_set (blk_set (blk_set (blk_set (blk_set (blk_set (blk_set (blk_set (blk_set (blk_set HB2.out 0 (.int .i64 0)) 1 (.pointer (some ⟨w.heap.size, 0, none⟩))) 2 .nilFunc) 3 (.slice none 0 0)) 4 (.slice none 0 0)) 5 (.bool false)) 6 (.slice none 0 0)) 7 (.int .u8 0)) 8 (.bool false)) 9 (.int .i64 0)
  have hg : w2.grownBy ((((((((((w2.setCell ⟨p, 0, none⟩ (.int .i64 0)).setCell ⟨p, 1, none⟩ (.pointer (some ⟨w.heap.size, 0, none⟩))).setCell ⟨p, 2, none⟩ .nilFunc).setCell ⟨p, 3, none⟩ (.slice none 0 0)).setCell ⟨p, 4, none⟩ (.slice none 0 0)).setCell ⟨p, 5, none⟩ (.bool false)).setCell ⟨p, 6, none⟩ (.slice none 0 0)).setCell ⟨p, 7, none⟩ (.int .u8 0)).setCell ⟨p, 8, none⟩ (.bool false)).setCell ⟨p, 9, none⟩ (.int .i64 0)) (some p) := by
    repeat (with_reducible first | refine gb_set ?_ _ _ | exact gb_refl _ _)
  have hbb : ((((((((((w2.setCell ⟨p, 0, none⟩ (.int .i64 0)).setCell ⟨p, 1, none⟩ (.pointer (some ⟨w.heap.size, 0, none⟩))).setCell ⟨p, 2, none⟩ .nilFunc).setCell ⟨p, 3, none⟩ (.slice none 0 0)).setCell ⟨p, 4, none⟩ (.slice none 0 0)).setCell ⟨p, 5, none⟩ (.bool false)).setCell ⟨p, 6, none⟩ (.slice none 0 0)).setCell ⟨p, 7, none⟩ (.int .u8 0)).setCell ⟨p, 8, none⟩ (.bool false)).setCell ⟨p, 9, none⟩ (.int .i64 0)).heap[p]? = some (.cells (s0.cells w.heap.size .nilFunc nilS nilS nilS) 45 (0, 0)) := by rw [hb, cells_reset]
  clear hb
  generalize ((((((((((w2.setCell ⟨p, 0, none⟩ (.int .i64 0)).setCell ⟨p, 1, none⟩ (.pointer (some ⟨w.heap.size, 0, none⟩))).setCell ⟨p, 2, none⟩ .nilFunc).setCell ⟨p, 3, none⟩ (.slice none 0 0)).setCell ⟨p, 4, none⟩ (.slice none 0 0)).setCell ⟨p, 5, none⟩ (.bool false)).setCell ⟨p, 6, none⟩ (.slice none 0 0)).setCell ⟨p, 7, none⟩ (.int .u8 0)).setCell ⟨p, 8, none⟩ (.bool false)).setCell ⟨p, 9, none⟩ (.int .i64 0)) = w3 at hbb hg ⊢
  have hg' := gb_trans (row := some p) ⟨HG2.out.os, HG2.out.tape, HG2.out.output, HG2.out.size, fun k hk _ => HG2.out.block k hk (by simp)⟩ hg
  have hs2 : w2.heap.size = w.heap.size + 2 := by rw [HW2.out]; simp
  refine ⟨adopt T w.heap.size (w.heap.size + 1) 2, rfl, ⟨hg'.os, hg'.tape, hg'.output, hg'.size, fun k hk hn => hg'.block k hk (fun e => hn (.inl (by injection e with e; rw [e, HC.out.tp]; decide)))⟩, ⟨fun k hk => ?_, s0_fine, w.heap.size, nilS, nilS, nilS, ⟨hbb, ?_, dec0_ok, row_nil _ _ _ _, fun _ => row_nil _ _ _ _, row_nil _ _ _ _, ?_, adopt_new (Nat.le_refl _) (by omega)⟩⟩, fun k hk => ?_⟩
  · have h1 := hg.size
    by_cases hn : w.heap.size ≤ k
    · by_cases hn2 : k < w.heap.size + 1
      · omega
      · unfold adopt at hk; rw [if_neg (by omega)] at hk
        have := hl k hk; omega
    · omega
  · exact blk_grown (o := .cells dec0.cells 60 (0, 0)) HDN.out hg (by intro e; injection e with e; omega)
  · rw [adopt_old hpl]; exact HC.out.tp
  · by_cases hn : w.heap.size ≤ k
    · exact .inr hn
    · rw [adopt_old (by omega)] at hk; exact .inl hk
end Go.Proofs.YtkdicejlfagaeaaDoor
