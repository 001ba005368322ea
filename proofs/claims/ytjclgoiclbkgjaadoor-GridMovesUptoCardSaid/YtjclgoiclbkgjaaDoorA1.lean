/- Walks of package cell: Width and what it calls. -/
import Derived.Test.YtjclgoiclbkgjaaDoorRows
import Derived.Test.YtjclgoiclbkgjaaDoorBase
namespace Go.Proofs.YtjclgoiclbkgjaaDoor
open Go.RowKit

/-- A rune lies in one of some ranges. -/
def inR (r : Int) (l : List (Int × Int)) : Bool := l.any fun x => decide (x.1 ≤ r) && decide (r ≤ x.2)

theorem inR_succ (r : Int) (l : List (Int × Int)) (k : Nat) (h : k < l.length) :
    inR r (l.take (k + 1)) = (inR r (l.take k) || (decide ((l.getD k (0, 0)).1 ≤ r) && decide (r ≤ (l.getD k (0, 0)).2))) := by
  rw [take_succ_getD l (0, 0) k h]; simp [inR, List.any_append]
theorem inR_hit (r : Int) (l : List (Int × Int)) (k : Nat) (h : k < l.length) (h1 : (l.getD k (0, 0)).1 ≤ r) (h2 : r ≤ (l.getD k (0, 0)).2) : inR r l = true := by
  rw [inR, List.any_eq_true]
  refine ⟨l.getD k (0, 0), ?_, by rw [decide_eq_true h1, decide_eq_true h2]; rfl⟩
  rw [List.getD_eq_getElem?_getD, List.getElem?_eq_getElem h]; exact List.getElem_mem h

set_option maxHeartbeats 400000 in
theorem within_any (r : Int) (b n : Nat) (l : List (Int × Int)) (w : World) (hn : n ≤ 100) (hl : l.length = n)
    (hc : ∀ i, i < n → w.cell? ⟨b, i * 2, none⟩ = some (.int .i32 (l.getD i (0, 0)).1) ∧ w.cell? ⟨b, i * 2 + 1, none⟩ = some (.int .i32 (l.getD i (0, 0)).2)) :
    Calls Tryd.prog 55 #[.int .i32 r, .slice (some ⟨b, 0, none⟩) n n] w fun e w' => e = .returned (.bool (inR r l)) ∧ Below w.heap.size w w' := by
  have HL := Lib.hid hl
  have HC := Lib.hid hc
  clear hl hc
  go_enter Tryd.func55, Tryd.ntmps55
  go_wp2
  go_loopw [9] (fun i wr => ∃ k : Nat, k ≤ n ∧ i = .int .i64 k ∧ Below w.heap.size w wr ∧ inR r (l.take k) = false) (fun i _ => n - (intOf i).toNat)
  case atStart => exact ⟨0, by omega, rfl, Below.refl _ _, rfl⟩
  case round =>
    obtain ⟨k, hk, rfl, hb, hno⟩ := hrel
    have HB := Lib.hid hb
    have HNO := Lib.hid hno
    clear hb hno
    by_cases hlt : k < n
    · obtain ⟨c1, c2⟩ := HC.out k hlt
      generalize hx : (l.getD k (0, 0)).1 = x at c1
      generalize hy : (l.getD k (0, 0)).2 = y at c2
      have HX := Lib.hid hx
      have HY := Lib.hid hy
      clear hx hy
      rw [← HB.out.cell (p := ⟨b, k * 2, none⟩) (World.block_lt_of_cell? w _ c1)] at c1
      rw [← HB.out.cell (p := ⟨b, k * 2 + 1, none⟩) (World.block_lt_of_cell? w _ c2)] at c2
      have hkl : k < l.length := by rw [HL.out]; exact hlt
      go_wp2
      · go_ret
        exact ⟨ret_bool (inR_hit r l k hkl (by rw [HX.out]; assumption) (by rw [HY.out]; assumption)).symm, HB.out.alloc HB.out.size _⟩
      all_goals
        refine ⟨⟨k + 1, by omega, by go_num, HB.out.alloc HB.out.size _, ?_⟩, by simp [intOf]; omega⟩
        rw [inR_succ r l k hkl, HNO.out, HX.out, HY.out]
        simp; omega
    · go_wp2
      go_ret
      refine ⟨ret_bool ?_, HB.out⟩
      have := HNO.out
      rw [List.take_of_length_le (by have := HL.out; omega)] at this
      exact this.symm

def flatR : List (Int × Int) → List Value
  | [] => []
  | x :: l => .int .i32 x.1 :: .int .i32 x.2 :: flatR l
theorem flatR_get : ∀ (l : List (Int × Int)) (i : Nat), i < l.length → (flatR l)[i * 2]? = some (.int .i32 (l.getD i (0, 0)).1) ∧ (flatR l)[i * 2 + 1]? = some (.int .i32 (l.getD i (0, 0)).2)
  | x :: l, 0, _ => by simp [flatR]
  | x :: l, i + 1, h => by
    have := flatR_get l i (by simpa using h)
    rw [show (i + 1) * 2 = (i * 2) + 1 + 1 from by omega]
    simpa [flatR] using this
theorem cells_flat (w : World) (T n : Nat) (l : List (Int × Int)) (A : Array Value) (hA : A = (flatR l).toArray) (hn : n = l.length) : ∀ i, i < n →
    (w.alloc (.cells A T)).cell? ⟨w.heap.size, i * 2, none⟩ = some (.int .i32 (l.getD i (0, 0)).1) ∧ (w.alloc (.cells A T)).cell? ⟨w.heap.size, i * 2 + 1, none⟩ = some (.int .i32 (l.getD i (0, 0)).2) := by
  intro i hi
  subst hA hn
  have := flatR_get l i hi
  rw [World.cell?_alloc_new, World.cell?_alloc_new]
  simpa using this

def ctl : List (Int × Int) := [(127, 159)]
def nil0 : List (Int × Int) := [(768, 879), (8203, 8207), (65024, 65039)]
def two2 : List (Int × Int) := [(4352, 4447), (11904, 12350), (12353, 19903), (19968, 42191), (44032, 55203), (63744, 64255), (65072, 65135), (65280, 65376), (65504, 65510), (127744, 128591), (129280, 129535), (131072, 262141)]
/-- cell.Width. -/
def wid (r : Int) : Int := if r < 32 ∨ 1114111 < r ∨ inR r ctl = true then -1 else if inR r nil0 = true then 0 else if inR r two2 = true then 2 else 1

set_option maxHeartbeats 1000000 in
theorem width_any (r : Int) (w : World) :
    Calls Tryd.prog 42 #[.int .i32 r] w fun e w' => e = .returned (.int .i64 (wid r)) ∧ Below w.heap.size w w' := by
  by_cases h1 : r < 32
  · go_enter Tryd.func42, Tryd.ntmps42
    go_wp2
    go_ret
    exact ⟨ret_int (by simp [wid, h1]), Below.refl _ _⟩
  by_cases h2 : 1114111 < r
  · go_enter Tryd.func42, Tryd.ntmps42
    go_wp2
    go_ret
    exact ⟨ret_int (by simp [wid, h2]), Below.refl _ _⟩
  go_enter Tryd.func42, Tryd.ntmps42
  go_wp2_with fail
  refine (within_any r _ _ ctl _ (by decide) rfl (cells_flat _ _ _ _ _ rfl rfl)).mono ?_
  rintro e w1 ⟨rfl, hb1⟩
  have Hb1 := Lib.hid (((Below.refl w.heap.size w).alloc (Nat.le_refl _) _).trans (hb1.mono (by simp)))
  clear hb1
  go_wp2_with fail
  · go_ret
    exact ⟨ret_int (by simp [wid, *]), Hb1.out⟩
  refine (within_any r _ _ nil0 _ (by decide) rfl (cells_flat _ _ _ _ _ rfl rfl)).mono ?_
  rintro e w2 ⟨rfl, hb1⟩
  have Hb2 := Lib.hid ((Hb1.out.alloc Hb1.out.size _).trans (hb1.mono (by have := Hb1.out.size; simp; omega)))
  clear hb1
  go_wp2_with fail
  · go_ret
    exact ⟨ret_int (by simp [wid, *]), Hb2.out⟩
  refine (within_any r _ _ two2 _ (by decide) rfl (cells_flat _ _ _ _ _ rfl rfl)).mono ?_
  rintro e w3 ⟨rfl, hb1⟩
  have Hb3 := Lib.hid ((Hb2.out.alloc Hb2.out.size _).trans (hb1.mono (by have := Hb2.out.size; simp; omega)))
  clear hb1
  go_wp2_with fail
  all_goals
    go_ret
    exact ⟨ret_int (by simp [wid, *]), Hb3.out⟩

/-- cell.wide. -/
def wide0 (r : Int) : Int := max (wid r) 0
end Go.Proofs.YtjclgoiclbkgjaaDoor
