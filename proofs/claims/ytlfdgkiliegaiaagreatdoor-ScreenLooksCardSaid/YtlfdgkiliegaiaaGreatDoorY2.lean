/- Package grid, texts laid together: A1 G1 G2 G3 M3 G4 G5. -/
import Derived.Test.YtlfdgkiliegaiaaGreatDoorRows
import Derived.Test.YtlfdgkiliegaiaaGreatDoorY1
import Derived.StillTailTactics
import Derived.Lib.SliceRun
import Derived.WalkSpells
/- Walks of package cell: Width and what it calls. -/
namespace Go.Proofs.YtlfdgkiliegaiaaGreatDoor
open Go.RowKit

/-- A rune lies in one of some ranges. -/
def inR (r : Int) (l : List (Int × Int)) : Bool := l.any fun x => decide (x.1 ≤ r) && decide (r ≤ x.2)

theorem inR_succ (r : Int) (l : List (Int × Int)) (k : Nat) (h : k < l.length) :
    inR r (l.take (k + 1)) = (inR r (l.take k) || (decide ((l.getD k (0, 0)).1 ≤ r) && decide (r ≤ (l.getD k (0, 0)).2))) := by
  rw [take_succ_getD l (0, 0) k h]; simp [inR, List.any_append]
theorem inR_hit (r : Int) (l : List (Int × Int)) (k : Nat) (h : k < l.length) (h1 : (l.getD k (0, 0)).1 ≤ r) (h2 : r ≤ (l.getD k (0, 0)).2) : inR r l = true := by
  rw [inR, List.any_eq_true]
  refine ⟨l.getD k (0, 0), ?_, by rw [decide_eq_true h1, decide_eq_true h2]; rfl⟩
  rw [List.getD_eq_getElem?_getD, List.getElem?_eq_getElem h]; exact List.getElem_mem h

set_option maxHeartbeats 400000 in
theorem within_any (r : Int) (b n : Nat) (l : List (Int × Int)) (w : World) (hn : n ≤ 100) (hl : l.length = n)
    (hc : ∀ i, i < n → w.cell? ⟨b, i * 2, none⟩ = some (.int .i32 (l.getD i (0, 0)).1) ∧ w.cell? ⟨b, i * 2 + 1, none⟩ = some (.int .i32 (l.getD i (0, 0)).2)) :
    Calls Tryz.prog 117 #[.int .i32 r, .slice (some ⟨b, 0, none⟩) n n] w fun e w' => e = .returned (.bool (inR r l)) ∧ Below w.heap.size w w' := by
  have HL := Lib.hid hl
  have HC := Lib.hid hc
  clear hl hc
  go_enter Tryz.func117, Tryz.ntmps117
  go_wp2
  go_loopw [9] (fun i wr => ∃ k : Nat, k ≤ n ∧ i = .int .i64 k ∧ Below w.heap.size w wr ∧ inR r (l.take k) = false) (fun i _ => n - (intOf i).toNat)
  case atStart => exact ⟨0, by omega, rfl, Below.refl _ _, rfl⟩
  case round =>
    obtain ⟨k, hk, rfl, hb, hno⟩ := hrel
    have HB := Lib.hid hb
    have HNO := Lib.hid hno
    clear hb hno
    by_cases hlt : k < n
    · obtain ⟨c1, c2⟩ := HC.out k hlt
      generalize hx : (l.getD k (0, 0)).1 = x at c1
      generalize hy : (l.getD k (0, 0)).2 = y at c2
      have HX := Lib.hid hx
      have HY := Lib.hid hy
      clear hx hy
      rw [← HB.out.cell (p := ⟨b, k * 2, none⟩) (World.block_lt_of_cell? w _ c1)] at c1
      rw [← HB.out.cell (p := ⟨b, k * 2 + 1, none⟩) (World.block_lt_of_cell? w _ c2)] at c2
      have hkl : k < l.length := by rw [HL.out]; exact hlt
      go_wp2
      · go_ret
        exact ⟨ret_bool (inR_hit r l k hkl (by rw [HX.out]; assumption) (by rw [HY.out]; assumption)).symm, HB.out.alloc HB.out.size _⟩
      all_goals
        refine ⟨⟨k + 1, by omega, by go_num, HB.out.alloc HB.out.size _, ?_⟩, by simp [intOf]; omega⟩
        rw [inR_succ r l k hkl, HNO.out, HX.out, HY.out]
        simp; omega
    · go_wp2
      go_ret
      refine ⟨ret_bool ?_, HB.out⟩
      have := HNO.out
      rw [List.take_of_length_le (by have := HL.out; omega)] at this
      exact this.symm

def flatR : List (Int × Int) → List Value
  | [] => []
  | x :: l => .int .i32 x.1 :: .int .i32 x.2 :: flatR l
theorem flatR_get : ∀ (l : List (Int × Int)) (i : Nat), i < l.length → (flatR l)[i * 2]? = some (.int .i32 (l.getD i (0, 0)).1) ∧ (flatR l)[i * 2 + 1]? = some (.int .i32 (l.getD i (0, 0)).2)
  | x :: l, 0, _ => by simp [flatR]
  | x :: l, i + 1, h => by
    have := flatR_get l i (by simpa using h)
    rw [show (i + 1) * 2 = (i * 2) + 1 + 1 from by omega]
    simpa [flatR] using this
theorem cells_flat (w : World) (T n : Nat) (l : List (Int × Int)) (A : Array Value) (hA : A = (flatR l).toArray) (hn : n = l.length) : ∀ i, i < n →
    (w.alloc (.cells A T)).cell? ⟨w.heap.size, i * 2, none⟩ = some (.int .i32 (l.getD i (0, 0)).1) ∧ (w.alloc (.cells A T)).cell? ⟨w.heap.size, i * 2 + 1, none⟩ = some (.int .i32 (l.getD i (0, 0)).2) := by
  intro i hi
  subst hA hn
  have := flatR_get l i hi
  rw [World.cell?_alloc_new, World.cell?_alloc_new]
  simpa using this

def ctl : List (Int × Int) := [(127, 159)]
def nil0 : List (Int × Int) := [(768, 879), (8203, 8207), (65024, 65039)]
def two2 : List (Int × Int) := [(4352, 4447), (11904, 12350), (12353, 19903), (19968, 42191), (44032, 55203), (63744, 64255), (65072, 65135), (65280, 65376), (65504, 65510), (127744, 128591), (129280, 129535), (131072, 262141)]
/-- cell.Width. -/
def wid (r : Int) : Int := if r < 32 ∨ 1114111 < r ∨ inR r ctl = true then -1 else if inR r nil0 = true then 0 else if inR r two2 = true then 2 else 1

set_option maxHeartbeats 1000000 in
theorem width_any (r : Int) (w : World) :
    Calls Tryz.prog 77 #[.int .i32 r] w fun e w' => e = .returned (.int .i64 (wid r)) ∧ Below w.heap.size w w' := by
  by_cases h1 : r < 32
  · go_enter Tryz.func77, Tryz.ntmps77
    go_wp2
    go_ret
    exact ⟨ret_int (by simp [wid, h1]), Below.refl _ _⟩
  by_cases h2 : 1114111 < r
  · go_enter Tryz.func77, Tryz.ntmps77
    go_wp2
    go_ret
    exact ⟨ret_int (by simp [wid, h2]), Below.refl _ _⟩
  go_enter Tryz.func77, Tryz.ntmps77
  go_wp2_with fail
  refine (within_any r _ _ ctl _ (by decide) rfl (cells_flat _ _ _ _ _ rfl rfl)).mono ?_
  rintro e w1 ⟨rfl, hb1⟩
  have Hb1 := Lib.hid (((Below.refl w.heap.size w).alloc (Nat.le_refl _) _).trans (hb1.mono (by simp)))
  clear hb1
  go_wp2_with fail
  · go_ret
    exact ⟨ret_int (by simp [wid, *]), Hb1.out⟩
  refine (within_any r _ _ nil0 _ (by decide) rfl (cells_flat _ _ _ _ _ rfl rfl)).mono ?_
  rintro e w2 ⟨rfl, hb1⟩
  have Hb2 := Lib.hid ((Hb1.out.alloc Hb1.out.size _).trans (hb1.mono (by have := Hb1.out.size; simp; omega)))
  clear hb1
  go_wp2_with fail
  · go_ret
    exact ⟨ret_int (by simp [wid, *]), Hb2.out⟩
  refine (within_any r _ _ two2 _ (by decide) rfl (cells_flat _ _ _ _ _ rfl rfl)).mono ?_
  rintro e w3 ⟨rfl, hb1⟩
  have Hb3 := Lib.hid ((Hb2.out.alloc Hb2.out.size _).trans (hb1.mono (by have := Hb2.out.size; simp; omega)))
  clear hb1
  go_wp2_with fail
  all_goals
    go_ret
    exact ⟨ret_int (by simp [wid, *]), Hb3.out⟩

/-- cell.wide. -/
def wide0 (r : Int) : Int := max (wid r) 0
end Go.Proofs.YtlfdgkiliegaiaaGreatDoor

/- Walks of package grid: blank, fill. -/
namespace Go.Proofs.YtlfdgkiliegaiaaGreatDoor
open Go.RowKit

theorem cell_info : (Tryz.prog.info? 133).map (·.size) = some 5 := by kernel_rfl
theorem sty_info : (Tryz.prog.info? 35).map (·.size) = some 3 := by kernel_rfl
theorem row_info : (Tryz.prog.info? 130).map (·.size) = some 2 := by kernel_rfl
theorem blk_new (w : World) (o : Obj) : (w.alloc o).heap[w.heap.size]? = some o := heap_alloc_new w o
theorem blk_new2 (w : World) (o o' : Obj) : ((w.alloc o).alloc o').heap[w.heap.size + 1]? = some o' := by
  have := heap_alloc_new (w.alloc o) o'
  simpa using this
theorem below_row {B g : Nat} {w0 w : World} (hb : Below B w0 w) (hBg : B ≤ g) (cs : Array Value) : Below B w0 (w.setRow g cs) :=
  hb.trans ⟨rfl, rfl, rfl, by simp [World.setRow], fun k hk => setRow_other w g k cs (by omega)⟩
theorem blank_any (s : Sty) (w : World) : Calls Tryz.prog 193 #[s.val] w fun e w' => e = .returned (blankC s).val ∧ Below w.heap.size w w' := by
  obtain ⟨f, b, a⟩ := s
  unfold Sty.val Cel.val blankC
  have HB := Lib.hid (((Below.refl w.heap.size w).alloc (Nat.le_refl _) (.cells #[.int .i64 f, .int .i64 b, .int .i64 a] 35)).alloc (by simp) (.cells #[.int .i32 32, .int .i64 1, .int .i64 f, .int .i64 b, .int .i64 a] 133))
  go_enter Tryz.func193, Tryz.ntmps193
  go_wp2_with fail
  exact retRow rfl rfl rfl (blk_new2 _ _ _) Tryz.underlying133 rfl (by exact cell_info) ⟨rfl, HB.out⟩
theorem plain_any (w : World) : Calls Tryz.prog 21 #[] w fun e w' => e = .returned plainS.val ∧ Below w.heap.size w w' := by
  unfold Sty.val plainS
  go_enter Tryz.func21, Tryz.ntmps21
  go_wp2_with fail
  exact retRow rfl rfl rfl (blk_new _ _) Tryz.underlying35 rfl (by exact sty_info) ⟨rfl, (Below.refl w.heap.size w).alloc (Nat.le_refl _) _⟩
/-- A struct's own block written whole. -/
theorem setRow_blk {w : World} {g : Nat} {old cells : Array Value} {t : TypeId} (h : w.heap[g]? = some (.cells old t (0, 0))) : (w.setRow g cells).heap[g]? = some (.cells cells t (0, 0)) := setRow_heap w g old cells t (0, 0) h
theorem fill_zero (l : List Cel) (x : Nat) (s : Sty) : fillL l x 0 s = l := by
  unfold fillL putAt
  simp
theorem fill_succ (l : List Cel) (x k : Nat) (s : Sty) (h : x + k < l.length) : putAt (fillL l x k s) (x + k) [blankC s] = fillL l x (k + 1) s := by
  apply List.ext_getElem?
  intro j
  have hl : (fillL l x k s).length = l.length := fillL_len _ _ _ _ (by omega)
  rw [putAt_get _ _ _ (by rw [hl]; simp; omega)]
  unfold fillL
  rw [putAt_get _ _ _ (by rw [List.length_replicate]; omega), putAt_get _ _ _ (by rw [List.length_replicate]; omega)]
  simp only [List.length_replicate, List.length_singleton, List.getElem?_replicate]
  by_cases c1 : j < x
  · rw [if_pos (show j < x + k by omega), if_pos c1, if_pos c1]
  rw [if_neg c1, if_neg c1]
  by_cases c2 : j < x + k
  · rw [if_pos c2, if_pos c2, if_pos (show j - x < k by omega), if_pos (show j < x + (k + 1) by omega), if_pos (show j - x < k + 1 by omega)]
  rw [if_neg c2, if_neg c2]
  by_cases c3 : j < x + k + 1
  · rw [if_pos c3, if_pos (show j < x + (k + 1) by omega), if_pos (show j - x < k + 1 by omega), show j - (x + k) = 0 by omega]
    rfl
  · rw [if_neg c3, if_neg (show ¬ j < x + (k + 1) by omega)]
theorem cvals_one' (c : Cel) : ∀ u ∈ (#[Value.int .i32 c.rune, .int .i64 c.width, .int .i64 c.sty.fg, .int .i64 c.sty.bg, .int .i64 c.sty.attr] : Array Value).toList, u.oneCell' = true := cvals_one [c]
set_option maxRecDepth 100000 in
set_option maxHeartbeats 2000000 in
theorem fill_any (l : List Cel) (s : Sty) (b off n c x m c' : Nat) (w : World) (h : OwnC w 0 5 (.slice (some ⟨b, off, none⟩) n c) n (cvals l)) (hn : l.length = n) (hx : x + m ≤ n) (hm : n ≤ maxLen) :
    Calls Tryz.prog 126 #[.slice (some ⟨b, off + x * 5, none⟩) m c', s.val] w fun e w' => e = .returned (.tuple #[]) ∧ w.grownBy w' (some b) ∧ OwnC w' 0 5 (.slice (some ⟨b, off, none⟩) n c) n (cvals (fillL l x m s)) := by
  have hbl := (ownC_lt h b rfl).2
  have HS0 := Lib.hid (ownC_alloc h (.cells #[.int .i64 s.fg, .int .i64 s.bg, .int .i64 s.attr] 35))
  have hb0 := blk_new w (.cells #[.int .i64 s.fg, .int .i64 s.bg, .int .i64 s.attr] 35)
  clear h
  unfold maxLen at hm
  go_enter Tryz.func126, Tryz.ntmps126
  unfold Sty.val
  go_wp2_with fail
  go_loopw [4, 7] (fun _ iv wr => ∃ k : Nat, k ≤ m ∧ iv = .int .i64 k ∧ w.grownBy wr (some b) ∧ wr.heap[w.heap.size]? = some (.cells #[.int .i64 s.fg, .int .i64 s.bg, .int .i64 s.attr] 35 (0, 0)) ∧ w.heap.size < wr.heap.size ∧
    OwnC wr 0 5 (.slice (some ⟨b, off, none⟩) n c) n (cvals (fillL l x k s))) (fun _ iv _ => m - (intOf iv).toNat)
  case atStart =>
    refine ⟨0, Nat.zero_le _, rfl, World.grownBy_alloc w _ _, hb0, by simp, ?_⟩
    rw [fill_zero]; exact HS0.out
  case round =>
    obtain ⟨k, hk, rfl, g, hb, hlt, ho⟩ := hrel
    have HG := Lib.hid g
    have HO := Lib.hid ho
    have c0 := blk_cell hb 0
    have c1 := blk_cell hb 1
    have c2 := blk_cell hb 2
    replace c0 : wr.cell? ⟨w.heap.size, 0, none⟩ = some (.int .i64 s.fg) := c0
    replace c1 : wr.cell? ⟨w.heap.size, 1, none⟩ = some (.int .i64 s.bg) := c1
    replace c2 : wr.cell? ⟨w.heap.size, 2, none⟩ = some (.int .i64 s.attr) := c2
    have HBk := Lib.hid hb
    clear g ho hb
    by_cases hlt2 : k < m
    · have hix := idx_at (P := Tryz.prog) (size := 5) Tryz.underlying68 cell_info b (off + x * 5) m c' k hlt2
      have HBL := Lib.hid (blank_any s wr)
      go_wp2_with fail
      refine HBL.out.mono ?_
      rintro e w2 ⟨rfl, b2⟩
      have hl : (fillL l x k s).length = n := by rw [fillL_len _ _ _ _ (by omega)]; exact hn
      have HO2 := Lib.hid (ownC_below HO.out b2)
      have hst := store_own (P := Tryz.prog) cell_info HO2.out (x + k) (by omega) #[.int .i32 32, .int .i64 1, .int .i64 s.fg, .int .i64 s.bg, .int .i64 s.attr] rfl (cvals_one' (blankC s))
      rw [show off + (x + k) * 5 = off + x * 5 + k * 5 by omega] at hst
      have HP := ownC_put HO2.out ((x + k) * 5) (cvals [blankC s]) (by rw [cvals_len]; simp; omega)
      rw [← cvals_put, fill_succ _ _ _ _ (by omega), show off + (x + k) * 5 = off + x * 5 + k * 5 by omega] at HP
      have HP2 := Lib.hid HP
      have HG2 := Lib.hid (gb_trans (gb_below HG.out b2 (by omega)) (gb_setCells w2 b (off + x * 5 + k * 5) (cvals [blankC s])))
      have HK2 := Lib.hid (blk_grown (blk_below HBk.out b2 hlt) (gb_setCells w2 b (off + x * 5 + k * 5) (cvals [blankC s])) (by intro e; injection e with e; omega))
      have hs2 := b2.size
      have hsz := size_setCells w2 b (off + x * 5 + k * 5) (cvals [blankC s])
      unfold Cel.val blankC
      dsimp only
      replace hst : (storeVar 133 ⟨b, off + x * 5 + k * 5, none⟩ (.agg #[.int .i32 32, .int .i64 1, .int .i64 s.fg, .int .i64 s.bg, .int .i64 s.attr])).run Tryz.prog w2 = .ok () (w2.setCells b (off + x * 5 + k * 5) (cvals [blankC s])) := hst
      generalize w2.setCells b (off + x * 5 + k * 5) (cvals [blankC s]) = w3 at *
      clear HP b2
      go_wp2_with (refine wpList_storeR rfl _ _ _ rfl hst rfl rfl ?_)
      go_roundw
      case rel => exact ⟨k + 1, by omega, by go_num, HG2.out, HK2.out, by omega, HP2.out⟩
      case measure => simp [intOf]; omega
    · have : k = m := by omega
      subst this
      go_wp2_with fail
      go_end0
      exact ⟨rfl, HG.out, HO.out⟩
end Go.Proofs.YtlfdgkiliegaiaaGreatDoor

/- Walks of package grid: cut, may, fresh. -/
namespace Go.Proofs.YtlfdgkiliegaiaaGreatDoor
open Go.RowKit

theorem wrap64_id (n : Int) (h1 : -9223372036854775808 ≤ n) (h2 : n ≤ 9223372036854775807) : IntKind.i64.wrap n = n := by
  unfold IntKind.wrap
  simp [IntKind.bits, IntKind.signed]
  omega
theorem ownC_cel {w : World} {base b off n c : Nat} {l : List Cel} (h : OwnC w base 5 (.slice (some ⟨b, off, none⟩) n c) n (cvals l)) (k : Nat) (hk : k < n) (hl : l.length = n) :
    w.cell? ⟨b, off + k * 5, none⟩ = some (.int .i32 (l.getD k noC).rune) ∧ w.cell? ⟨b, off + k * 5 + 1, none⟩ = some (.int .i64 (l.getD k noC).width) ∧ w.cell? ⟨b, off + k * 5 + 2, none⟩ = some (.int .i64 (l.getD k noC).sty.fg) ∧
    w.cell? ⟨b, off + k * 5 + 3, none⟩ = some (.int .i64 (l.getD k noC).sty.bg) ∧ w.cell? ⟨b, off + k * 5 + 4, none⟩ = some (.int .i64 (l.getD k noC).sty.attr) := by
  obtain ⟨e1, h2⟩ := h
  rcases h2 with ⟨e, _⟩ | ⟨b', off', c', e, hb, hbs, hnc, hcm, hcells, hxs⟩
  · simp at e
  · simp only [Value.slice.injEq, Option.some.injEq, Addr.mk.injEq] at e
    obtain ⟨⟨rfl, rfl, _⟩, _, rfl⟩ := e
    have key : ∀ i u, i < 5 → (l.getD k noC).vals[i]? = some u → w.cell? ⟨b, off + (k * 5 + i), none⟩ = some u := fun i u hi hu => hxs _ u (by rw [cvals_at l k (by omega) i hi]; exact hu)
    exact ⟨key 0 _ (by decide) rfl, key 1 _ (by decide) rfl, key 2 _ (by decide) rfl, key 3 _ (by decide) rfl, key 4 _ (by decide) rfl⟩
set_option maxRecDepth 100000 in
set_option maxHeartbeats 2000000 in
theorem cut_any (l : List Cel) (x : Int) (b off n c : Nat) (w : World) (h : OwnC w 0 5 (.slice (some ⟨b, off, none⟩) n c) n (cvals l)) (hn : l.length = n) (hm : n ≤ 1000000) (hx : -4611686018427387904 ≤ x ∧ x ≤ 4611686018427387904) :
    Calls Tryz.prog 134 #[.slice (some ⟨b, off, none⟩) n c, .int .i64 x] w fun e w' => e = .returned (.tuple #[]) ∧ w.grownBy w' (some b) ∧ OwnC w' 0 5 (.slice (some ⟨b, off, none⟩) n c) n (cvals (cutL l x)) := by
  have HO := Lib.hid h
  have hnc : n ≤ c := by
    rcases h.2 with ⟨e, _⟩ | ⟨b', off', c', e, _, _, hnc, _⟩
    · simp at e
    · simp only [Value.slice.injEq] at e; omega
  clear h
  by_cases h0 : 0 < x ∧ x < (n : Int)
  rotate_left
  · have HE := Lib.hid (show cutL l x = l by unfold cutL; rw [if_neg (by rw [hn]; omega)])
    by_cases h1 : 0 < x
    · have hd1 : decide (0 < x) = true := decide_eq_true h1
      have hd2 : decide (x < (n : Int)) = false := decide_eq_false (by omega)
      go_enter Tryz.func134, Tryz.ntmps134
      go_wp2_with fail
      go_end0
      refine ⟨rfl, gb_refl _ _, ?_⟩
      rw [HE.out]; exact HO.out
    · have hd1 : decide (0 < x) = false := decide_eq_false h1
      go_enter Tryz.func134, Tryz.ntmps134
      go_wp2_with fail
      go_end0
      refine ⟨rfl, gb_refl _ _, ?_⟩
      rw [HE.out]; exact HO.out
  obtain ⟨k, rfl⟩ : ∃ k : Nat, x = (k : Int) := ⟨x.toNat, by omega⟩
  have hd1 : decide (0 < (k : Int)) = true := decide_eq_true h0.1
  have hd2 : decide ((k : Int) < (n : Int)) = true := decide_eq_true h0.2
  have hd1' : decide (0 < k) = true := decide_eq_true (by omega)
  have hd2' : decide (k < n) = true := decide_eq_true (by omega)
  obtain ⟨c0, c1, c2, c3, c4⟩ := ownC_cel HO.out k (by omega) hn
  have hix := idx_at (P := Tryz.prog) (size := 5) Tryz.underlying68 cell_info b off n c k (by omega)
  by_cases hw : (l.getD k noC).width = 0
  · have HE := Lib.hid (show cutL l k = fillL l (k - 1) 2 (l.getD k noC).sty by unfold cutL; rw [if_pos ⟨h0.1, by rw [hn]; exact h0.2, by rw [Int.toNat_natCast]; exact hw⟩, Int.toNat_natCast])
    have hd3 : ((l.getD k noC).width == 0) = true := by rw [hw]; rfl
    have hsl := slice_lh (P := Tryz.prog) (size := 5) Tryz.underlying68 cell_info b off n c (k - 1) (k + 1) (by omega) (by omega) (by omega)
    rw [show ((k - 1 : Nat) : Int) = (k : Int) - 1 by omega, show ((k + 1 : Nat) : Int) = (k : Int) + 1 by omega, show k + 1 - (k - 1) = 2 by omega] at hsl
    have hw1 : IntKind.i64.wrap ((k : Int) - 1) = (k : Int) - 1 := wrap64_id _ (by omega) (by omega)
    have hw2 : IntKind.i64.wrap ((k : Int) + 1) = (k : Int) + 1 := wrap64_id _ (by omega) (by omega)
    generalize l.getD k noC = cc at *
    obtain ⟨cr, cw, cs⟩ := cc
    dsimp only at c0 c1 c2 c3 c4 hw hd3 HE
    have HF := Lib.hid (fun wx (ho : OwnC wx 0 5 (.slice (some ⟨b, off, none⟩) n c) n (cvals l)) => fill_any l cs b off n c (k - 1) 2 (c - (k - 1)) wx ho hn (by omega) (by unfold maxLen; omega))
    unfold Sty.val at HF
    go_enter Tryz.func134, Tryz.ntmps134
    go_upto_region 1 with fail
    go_still_tail 11, (by kernel_rfl)
    change wpList _ _ _ _ _ w.drew
    have HO1 := Lib.hid (show OwnC w.drew 0 5 (.slice (some ⟨b, off, none⟩) n c) n (cvals l) from HO.out)
    generalize hwd : w.drew = wd at *
    go_wp2_with fail
    refine (HF.out _ HO1.out).mono ?_
    rintro e w2 ⟨rfl, g2, o2⟩
    have HG2 := Lib.hid (gb_trans (show w.grownBy wd (some b) by rw [← hwd]; exact gb_drew (gb_refl _ _)) g2)
    have HO2 := Lib.hid o2
    clear g2 o2
    go_wp2_with fail
    go_end0
    refine ⟨rfl, HG2.out, ?_⟩
    rw [HE.out]; exact HO2.out
  · have HE := Lib.hid (show cutL l k = l by unfold cutL; rw [if_neg (by rw [Int.toNat_natCast]; intro hh; exact hw hh.2.2)])
    have hd3 : ((l.getD k noC).width == 0) = false := beq_eq_false_iff_ne.2 hw
    generalize l.getD k noC = cc at *
    obtain ⟨cr, cw, cs⟩ := cc
    dsimp only at c0 c1 c2 c3 c4 hw hd3
    go_enter Tryz.func134, Tryz.ntmps134
    go_wp2_with fail
    go_end0
    refine ⟨rfl, gb_refl _ _, ?_⟩
    rw [HE.out]; exact HO.out
theorem may_any (x y : Int) (w : World) : Calls Tryz.prog 82 #[.int .i64 x, .int .i64 y] w fun e w' => e = .returned (.bool (mayG x y)) ∧ w' = w := by
  by_cases h1 : 1 ≤ x
  rotate_left
  · have e : decide (1 ≤ x) = false := decide_eq_false h1
    go_enter Tryz.func82, Tryz.ntmps82
    go_wp2_with fail
    go_ret
    exact ⟨ret_bool (by unfold mayG; rw [e]; rfl), rfl⟩
  have e1 : decide (1 ≤ x) = true := decide_eq_true h1
  by_cases h2 : x ≤ 250
  rotate_left
  · have e : decide (x ≤ 250) = false := decide_eq_false h2
    go_enter Tryz.func82, Tryz.ntmps82
    go_wp2_with fail
    go_ret
    exact ⟨ret_bool (by unfold mayG; rw [e, e1]; rfl), rfl⟩
  have e2 : decide (x ≤ 250) = true := decide_eq_true h2
  by_cases h3 : 1 ≤ y
  rotate_left
  · have e : decide (1 ≤ y) = false := decide_eq_false h3
    go_enter Tryz.func82, Tryz.ntmps82
    go_wp2_with fail
    go_ret
    exact ⟨ret_bool (by unfold mayG; rw [e, e1, e2]; rfl), rfl⟩
  have e3 : decide (1 ≤ y) = true := decide_eq_true h3
  cases h4 : decide (y ≤ 120)
  · go_enter Tryz.func82, Tryz.ntmps82
    go_wp2_with fail
    go_ret
    exact ⟨ret_bool (by unfold mayG; rw [e1, e2, e3, h4]; rfl), rfl⟩
  · go_enter Tryz.func82, Tryz.ntmps82
    go_wp2_with fail
    go_ret
    exact ⟨ret_bool (by unfold mayG; rw [e1, e2, e3, h4]; rfl), rfl⟩
end Go.Proofs.YtlfdgkiliegaiaaGreatDoor

/- Walks of package grid: fresh. -/
namespace Go.Proofs.YtlfdgkiliegaiaaGreatDoor
open Go.RowKit

def rowVals (L : List (Value × Rw)) : List Value := L.flatMap fun x => [x.1, .bool x.2.wrap]
theorem rowVals_len (L : List (Value × Rw)) : (rowVals L).length = L.length * 2 := by
  induction L with
  | nil => rfl
  | cons x L ih =>
    simp only [rowVals, List.flatMap_cons, List.length_append, List.length_cons, List.length_nil] at ih ⊢
    omega
theorem rowVals_append (L M : List (Value × Rw)) : rowVals (L ++ M) = rowVals L ++ rowVals M := by simp [rowVals]
theorem rowVals_take (l : List (Value × Rw)) (x : Nat) : (rowVals l).take (x * 2) = rowVals (l.take x) := by
  induction l generalizing x with
  | nil => simp [rowVals]
  | cons c l ih =>
    cases x with
    | zero => simp [rowVals]
    | succ x =>
      have e : rowVals (c :: l) = [c.1, .bool c.2.wrap] ++ rowVals l := rfl
      have e2 : rowVals ((c :: l).take (x + 1)) = [c.1, .bool c.2.wrap] ++ rowVals (l.take x) := rfl
      rw [e, e2, List.take_append, ← ih x]
      rw [List.take_of_length_le (by simp; omega), show (x + 1) * 2 - [c.1, Value.bool c.2.wrap].length = x * 2 by simp; omega]
theorem rowVals_drop (l : List (Value × Rw)) (x : Nat) : (rowVals l).drop (x * 2) = rowVals (l.drop x) := by
  induction l generalizing x with
  | nil => simp [rowVals]
  | cons c l ih =>
    cases x with
    | zero => simp [rowVals]
    | succ x =>
      have e : rowVals (c :: l) = [c.1, .bool c.2.wrap] ++ rowVals l := rfl
      rw [e, List.drop_append, show (c :: l).drop (x + 1) = l.drop x from rfl, ← ih x]
      rw [List.drop_eq_nil_of_le (by simp; omega), show (x + 1) * 2 - [c.1, Value.bool c.2.wrap].length = x * 2 by simp; omega, List.nil_append]
theorem rowVals_put (l : List (Value × Rw)) (x : Nat) (m : List (Value × Rw)) : rowVals (putAt l x m) = putAt (rowVals l) (x * 2) (rowVals m) := by
  unfold putAt
  rw [rowVals_append, rowVals_append, ← rowVals_take, ← rowVals_drop, rowVals_len, Nat.add_mul]
theorem putAt_mid {α : Type} (A B : List α) (x y : α) (n : Nat) (hn : n = A.length) : putAt (A ++ x :: B) n [y] = A ++ y :: B := by
  subst hn
  unfold putAt
  simp
/-- Rows that lie in memory: each with its slice of cells; the blocks are apart. -/
structure RowsAt (base : Nat) (w : World) (v : Value) (L : List (Value × Rw)) : Prop where
  own : OwnC w base 2 v L.length (rowVals L)
  cells : ∀ x ∈ L, OwnC w base 5 x.1 x.2.cells.length (cvals x.2.cells)
  nd : (L.map (·.1.ownBlock)).Nodup
  ap : ∀ x ∈ L, ∃ q, x.1.ownBlock = some q ∧ v.ownBlock ≠ some q
theorem make_full {P : Program} {t e : TypeId} {size bytes : Nat} {z : Value} (EI : Elem P t e size bytes z) (n : Nat) (hn : n ≤ 100000) (hs : size ≤ 100) (hb : bytes ≤ 1000) (w : World) :
    ∃ w', (Instr.makeSlice t (.int .i64 (n : Int)) (.int .i64 (n : Int))).run P w = .ok (.slice (some ⟨w.heap.size, 0, none⟩) n n) w' ∧
      OwnC w' w.heap.size size (.slice (some ⟨w.heap.size, 0, none⟩) n n) n (madeCells z.cells (n * size)).toList ∧ Below w.heap.size w w' ∧ w.heap.size < w'.heap.size := by
  obtain ⟨h1, h2, h3⟩ := EI
  obtain ⟨i, hi, he⟩ := Option.map_eq_some_iff.1 h2
  simp only [Prod.mk.injEq] at he
  obtain ⟨hz, hsz, hby⟩ := he
  have hnb : i.bytes * n ≤ 281474976710656 := by
    have h : i.bytes * n ≤ 1000 * 100000 := Nat.mul_le_mul (by omega) hn
    omega
  have hcs : n * size ≤ 16777216 := by
    have h : n * size ≤ 100000 * 100 := Nat.mul_le_mul hn hs
    omega
  obtain ⟨w', hr, ho, hg⟩ := run_makeSlice_full (P := P) w w.heap.size t e i z size h1 hi hz hsz .i64 .i64 n hcs hnb (by unfold maxLen; omega) (Nat.le_refl _)
  refine ⟨w', hr, ownC_own ho, below_of_gb hg (Nat.le_refl _) (fun q hq => by simp at hq), ?_⟩
  have := ownC_lt (ownC_own ho) w.heap.size rfl
  omega
theorem cells_elem : Elem Tryz.prog 68 133 5 40 (.agg #[.int .i32 0, .int .i64 0, .int .i64 0, .int .i64 0, .int .i64 0]) := ⟨Tryz.underlying68, by kernel_rfl, rfl, by decide⟩
theorem rows_elem : Elem Tryz.prog 126 130 2 32 (.agg #[.slice none 0 0, .bool false]) := ⟨Tryz.underlying126, by kernel_rfl, rfl, by decide⟩
theorem made_cells (n : Nat) : (madeCells (Value.agg #[.int .i32 0, .int .i64 0, .int .i64 0, .int .i64 0, .int .i64 0]).cells (n * 5)).toList = cvals (List.replicate n noC) := by
  apply List.ext_getElem?
  intro j
  by_cases hj : j < n * 5
  · have e : j = (j / 5) * 5 + j % 5 := by omega
    have h5 : j % 5 < 5 := Nat.mod_lt _ (by decide)
    have hl : (madeCells (Value.agg #[.int .i32 0, .int .i64 0, .int .i64 0, .int .i64 0, .int .i64 0]).cells (n * 5)).toList[j]? = some ((#[.int .i32 0, .int .i64 0, .int .i64 0, .int .i64 0, .int .i64 0] : Array Value)[j % 5]!) := by
      unfold madeCells
      rw [Array.getElem?_toList, Array.getElem?_map, Array.getElem?_eq_getElem (by simpa using hj), Array.getElem_range]
      rfl
    rw [hl]
    conv => rhs; rw [e]
    rw [cvals_at _ _ (by rw [List.length_replicate]; omega) _ h5, List.getD_eq_getElem?_getD, List.getElem?_replicate, if_pos (by omega)]
    have hc : j % 5 = 0 ∨ j % 5 = 1 ∨ j % 5 = 2 ∨ j % 5 = 3 ∨ j % 5 = 4 := by omega
    rcases hc with h | h | h | h | h <;> rw [h] <;> rfl
  · rw [List.getElem?_eq_none (by rw [Array.length_toList, size_madeCells]; omega), List.getElem?_eq_none (by rw [cvals_len, List.length_replicate]; omega)]
theorem rowVals_at (l : List (Value × Rw)) (x : Nat) (h : x < l.length) (i : Nat) (hi : i < 2) : (rowVals l)[x * 2 + i]? = [(l[x]).1, .bool (l[x]).2.wrap][i]? := by
  induction l generalizing x with
  | nil => simp at h
  | cons c l ih =>
    have e : rowVals (c :: l) = [c.1, .bool c.2.wrap] ++ rowVals l := rfl
    cases x with
    | zero => rw [e, List.getElem?_append_left (by simp; omega)]; simp
    | succ x =>
      rw [e, List.getElem?_append_right (by simp; omega), show (x + 1) * 2 + i - [c.1, Value.bool c.2.wrap].length = x * 2 + i by simp; omega, ih x (by simpa using h)]
      rfl
theorem made_rows (n : Nat) : (madeCells (Value.agg #[.slice none 0 0, .bool false]).cells (n * 2)).toList = rowVals (List.replicate n (.slice none 0 0, noR)) := by
  apply List.ext_getElem?
  intro j
  by_cases hj : j < n * 2
  · have e : j = (j / 2) * 2 + j % 2 := by omega
    have h5 : j % 2 < 2 := Nat.mod_lt _ (by decide)
    have hl : (madeCells (Value.agg #[.slice none 0 0, .bool false]).cells (n * 2)).toList[j]? = some ((#[.slice none 0 0, .bool false] : Array Value)[j % 2]!) := by
      unfold madeCells
      rw [Array.getElem?_toList, Array.getElem?_map, Array.getElem?_eq_getElem (by simpa using hj), Array.getElem_range]
      rfl
    rw [hl]
    conv => rhs; rw [e]
    rw [rowVals_at _ _ (by rw [List.length_replicate]; omega) _ h5, List.getElem_replicate]
    have hc : j % 2 = 0 ∨ j % 2 = 1 := by omega
    rcases hc with h | h <;> rw [h] <;> rfl
  · rw [List.getElem?_eq_none (by rw [Array.length_toList, size_madeCells]; omega), List.getElem?_eq_none (by rw [rowVals_len, List.length_replicate]; omega)]
theorem fill_all (cols : Nat) (s : Sty) (c : Cel) : fillL (List.replicate cols c) 0 cols s = List.replicate cols (blankC s) := by
  unfold fillL putAt
  simp
set_option maxRecDepth 100000 in
set_option maxHeartbeats 4000000 in
theorem fresh_any (n cols : Nat) (s : Sty) (w : World) (hn : n ≤ 10000) (hc : cols ≤ 1000) :
    Calls Tryz.prog 83 #[.int .i64 n, .int .i64 cols, s.val] w fun e w' => ∃ v L, e = .returned v ∧ Below w.heap.size w w' ∧ L.map (·.2) = freshL n cols s ∧ RowsAt w.heap.size w' v L := by
  have hb0 := blk_new w (.cells #[.int .i64 s.fg, .int .i64 s.bg, .int .i64 s.attr] 35)
  have hB0 := (Below.refl w.heap.size w).alloc (Nat.le_refl _) (.cells #[.int .i64 s.fg, .int .i64 s.bg, .int .i64 s.attr] 35)
  obtain ⟨w1, hmk, ho1, b1, hs1⟩ := make_full rows_elem n (by omega) (by omega) (by omega) (w.alloc (.cells #[.int .i64 s.fg, .int .i64 s.bg, .int .i64 s.attr] 35))
  rw [made_rows] at ho1
  have hsz0 : (w.alloc (.cells #[.int .i64 s.fg, .int .i64 s.bg, .int .i64 s.attr] 35)).heap.size = w.heap.size + 1 := by simp
  rw [hsz0] at hmk ho1 hs1
  have HO1 := Lib.hid (ownC_mono ho1 (show w.heap.size ≤ w.heap.size + 1 by omega))
  have HK1 := Lib.hid (blk_below hb0 b1 (by rw [hsz0]; omega))
  have HB1 := Lib.hid (hB0.trans (b1.mono (by rw [hsz0]; omega)))
  clear ho1 b1 hb0 hB0
  go_enter Tryz.func83, Tryz.ntmps83
  unfold Sty.val
  go_wp2_with fail
  go_loopw [8, 13] (fun _ iv wr => ∃ (k : Nat) (L : List (Value × Rw)), k ≤ n ∧ iv = .int .i64 k ∧ L.length = k ∧ Below w.heap.size w wr ∧ wr.heap[w.heap.size]? = some (.cells #[.int .i64 s.fg, .int .i64 s.bg, .int .i64 s.attr] 35 (0, 0)) ∧ w.heap.size + 1 < wr.heap.size ∧
    OwnC wr w.heap.size 2 (.slice (some ⟨w.heap.size + 1, 0, none⟩) n n) n (rowVals (L ++ List.replicate (n - k) (.slice none 0 0, noR))) ∧
    Hid ((∀ x ∈ L, x.2 = ⟨List.replicate cols (blankC s), false⟩ ∧ OwnC wr w.heap.size 5 x.1 cols (cvals (List.replicate cols (blankC s))) ∧ ∃ q, x.1.ownBlock = some q ∧ w.heap.size + 1 < q) ∧ (L.map (·.1.ownBlock)).Nodup)) (fun _ iv _ => n - (intOf iv).toNat)
  case atStart =>
    exact ⟨0, [], Nat.zero_le _, rfl, rfl, HB1.out, HK1.out, hs1, HO1.out, fun x hx => by simp at hx, by simp⟩
  case round =>
    obtain ⟨k, L, hk, rfl, hL, hb, hblk, hsz, ho, hcs⟩ := hrel
    have HB := Lib.hid hb
    have HO := Lib.hid ho
    have HCS := Lib.hid hcs
    have HK := Lib.hid hblk
    clear hb ho hblk hcs
    by_cases hlt : k < n
    · obtain ⟨w2, hmk2, ho2, b2, hs2⟩ := make_full cells_elem cols (by omega) (by omega) (by omega) wr
      rw [made_cells] at ho2
      have hix := idx_at (P := Tryz.prog) (size := 2) Tryz.underlying126 row_info (w.heap.size + 1) 0 n n k hlt
      simp only [Nat.zero_add] at hix
      have HO2 := ownC_below HO.out b2
      have hsp : rowVals (L ++ List.replicate (n - k) (.slice none 0 0, noR)) = rowVals L ++ .slice none 0 0 :: (.bool false :: rowVals (List.replicate (n - (k + 1)) (.slice none 0 0, noR))) := by
        rw [rowVals_append, show n - k = (n - (k + 1)) + 1 by omega, List.replicate_succ]
        rfl
      have hcell : w2.cell? ⟨w.heap.size + 1, k * 2, none⟩ = some (.slice none 0 0) ∧ w2.frozen? ⟨w.heap.size + 1, k * 2, none⟩ = false := by
        rcases HO2.2 with ⟨e, _⟩ | ⟨b', off', c', e, _, _, hnc, _, hcells, hxs⟩
        · simp at e
        · simp only [Value.slice.injEq, Option.some.injEq, Addr.mk.injEq] at e
          obtain ⟨⟨rfl, rfl, _⟩, _, rfl⟩ := e
          have a1 := hxs (k * 2) _ (by rw [hsp, List.getElem?_append_right (by rw [rowVals_len, hL]; omega), rowVals_len, hL, Nat.sub_self]; rfl)
          have a2 := (hcells (k * 2) (by omega)).2
          rw [Nat.zero_add] at a1 a2
          exact ⟨a1, a2⟩
      obtain ⟨hc2, hf2⟩ := hcell
      have HP := ownC_put HO2 (k * 2) [.slice (some ⟨wr.heap.size, 0, none⟩) cols cols] (by simp; omega)
      rw [hsp, putAt_mid _ _ _ _ _ (by rw [rowVals_len, hL]), Nat.zero_add] at HP
      change OwnC (w2.setCell ⟨w.heap.size + 1, k * 2, none⟩ (.slice (some ⟨wr.heap.size, 0, none⟩) cols cols)) _ _ _ _ _ at HP
      have hs3 : (w2.setCell ⟨w.heap.size + 1, k * 2, none⟩ (.slice (some ⟨wr.heap.size, 0, none⟩) cols cols)).heap.size = w2.heap.size := by simp
      have G3 : w2.grownBy (w2.setCell ⟨w.heap.size + 1, k * 2, none⟩ (.slice (some ⟨wr.heap.size, 0, none⟩) cols cols)) (some (w.heap.size + 1)) := gb_set (gb_refl _ _) _ _
      have hc3 : (w2.setCell ⟨w.heap.size + 1, k * 2, none⟩ (.slice (some ⟨wr.heap.size, 0, none⟩) cols cols)).cell? ⟨w.heap.size + 1, k * 2, none⟩ = some (.slice (some ⟨wr.heap.size, 0, none⟩) cols cols) :=
        World.cell?_setCell_same' w2 _ _ (by rw [hc2]; rfl)
      have HO3 := Lib.hid HP
      have HF3 := Lib.hid (ownC_grown ho2 G3 (by intro q hq e; simp [Value.ownBlock] at hq; injection e with e; omega))
      have hk3 := blk_grown (blk_below HK.out b2 (by omega)) G3 (by intro e; injection e with e; omega)
      have HB3 := Lib.hid ((HB.out.trans (b2.mono HB.out.size)).grown G3 (by have := HB.out.size; have := b2.size; omega) (by intro q hq; injection hq with hq; omega))
      have HCS3 := Lib.hid (show (∀ x ∈ L, x.2 = ⟨List.replicate cols (blankC s), false⟩ ∧ OwnC (w2.setCell ⟨w.heap.size + 1, k * 2, none⟩ (.slice (some ⟨wr.heap.size, 0, none⟩) cols cols)) w.heap.size 5 x.1 cols (cvals (List.replicate cols (blankC s))) ∧ ∃ q, x.1.ownBlock = some q ∧ w.heap.size + 1 < q ∧ q < wr.heap.size) ∧ (L.map (·.1.ownBlock)).Nodup from
        ⟨fun x hx => by
          obtain ⟨e1, e2, q, e3, e4⟩ := HCS.out.1 x hx
          exact ⟨e1, ownC_grown (ownC_below e2 b2) G3 (by intro q' hq' e; rw [e3] at hq'; injection hq' with hq'; injection e with e; omega), q, e3, e4, (ownC_lt e2 q e3).2⟩, HCS.out.2⟩)
      clear HP ho2 HO2 G3
      have hs2' := b2.size
      go_upto_region 6 with fail
      generalize hw3 : w2.setCell ⟨w.heap.size + 1, k * 2, none⟩ (.slice (some ⟨wr.heap.size, 0, none⟩) cols cols) = w3 at *
      have c0 := blk_cell hk3 0
      have c1 := blk_cell hk3 1
      have c2 := blk_cell hk3 2
      replace c0 : w3.cell? ⟨w.heap.size, 0, none⟩ = some (.int .i64 s.fg) := c0
      replace c1 : w3.cell? ⟨w.heap.size, 1, none⟩ = some (.int .i64 s.bg) := c1
      replace c2 : w3.cell? ⟨w.heap.size, 2, none⟩ = some (.int .i64 s.attr) := c2
      go_still_tail 6, (by kernel_rfl)
      change wpList _ _ _ _ _ w3.drew
      have hFd := ownC_mono (show OwnC w3.drew wr.heap.size 5 (.slice (some ⟨wr.heap.size, 0, none⟩) cols cols) cols (cvals (List.replicate cols noC)) from HF3.out) (Nat.zero_le _)
      have hod := show OwnC w3.drew w.heap.size 2 (.slice (some ⟨w.heap.size + 1, 0, none⟩) n n) n _ from HO3.out
      have hkd := blk_drew hk3
      have hbd := HB3.out.drew
      have hcd := show (∀ x ∈ L, x.2 = ⟨List.replicate cols (blankC s), false⟩ ∧ OwnC w3.drew w.heap.size 5 x.1 cols (cvals (List.replicate cols (blankC s))) ∧ ∃ q, x.1.ownBlock = some q ∧ w.heap.size + 1 < q ∧ q < wr.heap.size) ∧ (L.map (·.1.ownBlock)).Nodup from HCS3.out
      have hsd : w3.drew.heap.size = w2.heap.size := hs3
      generalize hwd : w3.drew = wd at *
      have HFL := Lib.hid (fill_any (List.replicate cols noC) s wr.heap.size 0 cols cols 0 cols cols wd hFd (by rw [List.length_replicate]) (by omega) (by unfold maxLen; omega))
      simp only [Nat.zero_mul, Nat.add_zero, fill_all] at HFL
      unfold Sty.val at HFL
      go_wp2_with fail
      refine HFL.out.mono ?_
      rintro e w4 ⟨rfl, g4, o4⟩
      have HO4 := Lib.hid (ownC_grown hod g4 (by intro q hq e; simp [Value.ownBlock] at hq; injection e with e; omega))
      have HK4 := Lib.hid (blk_grown hkd g4 (by intro e; injection e with e; omega))
      have HB4 := Lib.hid (hbd.grown g4 (by have := hbd.size; omega) (by intro q hq; injection hq with hq; omega))
      have hs4 := g4.size
      have hbk : ∀ q, (Value.slice (some ⟨wr.heap.size, 0, none⟩) cols cols).ownBlock = some q → wr.heap.size ≤ q := fun q hq => by
        simp [Value.ownBlock] at hq; omega
      have o4' : OwnC w4 w.heap.size 5 (.slice (some ⟨wr.heap.size, 0, none⟩) cols cols) cols (cvals (List.replicate cols (blankC s))) := by
        refine ⟨o4.1, ?_⟩
        rcases o4.2 with h | ⟨b', off', c', e, h1, h2⟩
        · exact .inl h
        · refine .inr ⟨b', off', c', e, ?_, h2⟩
          have := hbk b' (by rw [e]; rfl)
          omega
      have HCS4 := Lib.hid (show (∀ x ∈ L ++ [((Value.slice (some ⟨wr.heap.size, 0, none⟩) cols cols), (⟨List.replicate cols (blankC s), false⟩ : Rw))], x.2 = ⟨List.replicate cols (blankC s), false⟩ ∧ OwnC w4 w.heap.size 5 x.1 cols (cvals (List.replicate cols (blankC s))) ∧ ∃ q, x.1.ownBlock = some q ∧ w.heap.size + 1 < q) ∧ ((L ++ [((Value.slice (some ⟨wr.heap.size, 0, none⟩) cols cols), (⟨List.replicate cols (blankC s), false⟩ : Rw))]).map (·.1.ownBlock)).Nodup from by
        refine ⟨fun x hx => ?_, ?_⟩
        · rcases List.mem_append.1 hx with hx | hx
          · obtain ⟨e1, e2, q, e3, e4, e5⟩ := hcd.1 x hx
            exact ⟨e1, ownC_grown e2 g4 (by intro q' hq' e; rw [e3] at hq'; injection hq' with hq'; injection e with e; omega), q, e3, e4⟩
          · rw [List.mem_singleton] at hx
            subst hx
            exact ⟨rfl, o4', wr.heap.size, rfl, by omega⟩
        · rw [List.map_append, List.nodup_append]
          refine ⟨hcd.2, by simp, fun a ha b hb => ?_⟩
          obtain ⟨x, hx, rfl⟩ := List.mem_map.1 ha
          obtain ⟨_, _, q, e3, _, e5⟩ := hcd.1 x hx
          simp only [List.map_cons, List.map_nil, List.mem_singleton] at hb
          subst hb
          rw [e3]
          intro e
          simp [Value.ownBlock] at e
          omega)
      clear g4 o4 o4' hcd hod hkd hbd hFd
      have hrow : rowVals L ++ Value.slice (some ⟨wr.heap.size, 0, none⟩) cols cols :: (.bool false :: rowVals (List.replicate (n - (k + 1)) (.slice none 0 0, noR))) = rowVals ((L ++ [((Value.slice (some ⟨wr.heap.size, 0, none⟩) cols cols), (⟨List.replicate cols (blankC s), false⟩ : Rw))]) ++ List.replicate (n - (k + 1)) (.slice none 0 0, noR)) := by
        rw [rowVals_append, rowVals_append]
        simp [rowVals]
      rw [hrow] at HO4
      go_wp2_with fail
      go_roundw
      case rel => exact ⟨k + 1, _, by omega, by go_num, by rw [List.length_append, hL]; rfl, HB4.out, HK4.out, by omega, HO4.out, HCS4.out⟩
      case measure => simp [intOf]; omega
    · have hkn : k = n := by omega
      subst hkn
      go_wp2_with fail
      rw [Nat.sub_self, List.replicate_zero, List.append_nil] at HO
      refine ret1v rfl rfl rfl ⟨_, L, rfl, HB.out, ?_, ?_⟩
      · apply List.ext_getElem?
        intro j
        unfold freshL
        rw [List.getElem?_map, List.getElem?_replicate]
        by_cases hj : j < L.length
        · rw [List.getElem?_eq_getElem hj, if_pos (by omega), Option.map_some, (HCS.out.1 _ (List.getElem_mem hj)).1]
        · rw [List.getElem?_eq_none (by omega), if_neg (by omega)]; rfl
      · refine ⟨by rw [hL]; exact HO.out, fun x hx => ?_, HCS.out.2, fun x hx => ?_⟩
        · obtain ⟨e1, e2, _⟩ := HCS.out.1 x hx
          rw [e1]
          simp only [List.length_replicate]
          exact e2
        · obtain ⟨_, _, q, e3, e4⟩ := HCS.out.1 x hx
          refine ⟨q, e3, fun e => ?_⟩
          simp [Value.ownBlock] at e
          omega
end Go.Proofs.YtlfdgkiliegaiaaGreatDoor

/- A grid in memory. -/
namespace Go.Proofs.YtlfdgkiliegaiaaGreatDoor
open Go.RowKit

def Cel.Ok (c : Cel) : Prop := -2147483648 ≤ c.rune ∧ c.rune ≤ 2147483647
structure Gr.WF (g : Gr) : Prop where
  c1 : 1 ≤ g.cols
  c2 : g.cols ≤ 250
  r1 : 1 ≤ g.rows.length
  r2 : g.rows.length ≤ 120
  li : g.limit ≤ 2000
  ol : g.old.length ≤ g.limit
  ce : ∀ r ∈ g.rows ++ g.old, r.cells.length = g.cols ∧ ∀ c ∈ r.cells, c.Ok
/-- A row's cells in memory. -/
structure CAt (T : Nat → Nat) (w : World) (x : Value × Rw) : Prop where
  own : OwnC w 0 5 x.1 x.2.cells.length (cvals x.2.cells)
  tag : ∃ q, x.1.ownBlock = some q ∧ T q = 10 + q
structure GAt (T : Nat → Nat) (p : Nat) (vr vo : Value) (Lr Lo : List (Value × Rw)) (w : World) (g : Gr) : Prop where
  lt : ∀ k, T k ≠ 0 → k < w.heap.size
  blk : w.heap[p]? = some (.cells #[.int .i64 g.cols, .int .i64 g.limit, vr, vo] 128 (0, 0))
  tp : T p = 1
  rr : Row T 2 2 vr Lr.length (rowVals Lr) w
  ro : Row T 3 2 vo Lo.length (rowVals Lo) w
  er : Lr.map (·.2) = g.rows
  eo : Lo.map (·.2) = g.old
  ca : ∀ x ∈ Lr ++ Lo, CAt T w x
  nd : ((Lr ++ Lo).map (·.1.ownBlock)).Nodup
  wf : g.WF
def GM (T : Nat → Nat) (p : Nat) (w : World) (g : Gr) : Prop := ∃ vr vo Lr Lo, GAt T p vr vo Lr Lo w g
theorem CAt.mod {T : Nat → Nat} {w w' : World} {x : Value × Rw} {q : Nat → Prop} (h : CAt T w x) (m : Mod T q w w') (hq : ∀ k, x.1.ownBlock = some k → ¬ q (10 + k)) : CAt T w' x :=
  ⟨ownC_blocks h.own m.size fun k hk => m.block k (ownC_lt h.own k hk).2 (by
    obtain ⟨b, e1, e2⟩ := h.tag
    have : b = k := by rw [e1] at hk; injection hk
    subst this
    rw [e2]; exact hq b hk), h.tag⟩
/-- Blocks of other kinds turned. -/
theorem GAt.mod {T : Nat → Nat} {p : Nat} {vr vo : Value} {Lr Lo : List (Value × Rw)} {w w' : World} {g : Gr} {q : Nat → Prop} (h : GAt T p vr vo Lr Lo w g) (m : Mod T q w w') (h1 : ¬ q 1) (h2 : ¬ q 2) (h3 : ¬ q 3) (h4 : ∀ k, ¬ q (10 + k)) : GAt T p vr vo Lr Lo w' g :=
  ⟨fun k hk => Nat.lt_of_lt_of_le (h.lt k hk) m.size, (m.block p (heap_lt h.blk) (by rw [h.tp]; exact h1)).trans h.blk, h.tp, h.rr.mod m h2, h.ro.mod m h3, h.er, h.eo, fun x hx => (h.ca x hx).mod m (fun k _ => h4 k), h.nd, h.wf⟩
theorem GM.below {T : Nat → Nat} {p : Nat} {w w' : World} {g : Gr} (h : GM T p w g) (b : Below w.heap.size w w') : GM T p w' g := by
  obtain ⟨vr, vo, Lr, Lo, h⟩ := h
  exact ⟨vr, vo, Lr, Lo, h.mod (.of_below b) id id id (fun _ => id)⟩
theorem GM.wf {T : Nat → Nat} {p : Nat} {w : World} {g : Gr} (h : GM T p w g) : g.WF := by
  obtain ⟨_, _, _, _, h⟩ := h; exact h.wf
theorem GM.lt {T : Nat → Nat} {p : Nat} {w : World} {g : Gr} (h : GM T p w g) : ∀ k, T k ≠ 0 → k < w.heap.size := by
  obtain ⟨_, _, _, _, h⟩ := h; exact h.lt
theorem GM.own0 {T : Nat → Nat} {p : Nat} {w : World} {g : Gr} (h : GM T p w g) {k : Nat} (hk : w.heap.size ≤ k) : T k = 0 := by
  by_cases h0 : T k = 0
  · exact h0
  · have := h.lt k h0; omega
/-- What another's doing leaves as it is. -/
theorem GM.other {Tp Tq : Nat → Nat} {q : Nat} {w w' : World} {g : Gr} (h : GM Tq q w g) (hw : Within (own Tp w) w w') (hd : ∀ k, Tq k ≠ 0 → Tp k = 0) : GM Tq q w' g := by
  obtain ⟨vr, vo, Lr, Lo, h⟩ := h
  have m : Mod Tq (fun x => x = 0) w w' := ⟨hw.os, hw.tape, hw.output, hw.size, fun k hk h0 => hw.block k hk (fun e => by
    rcases e with e | e
    · exact e (hd k h0)
    · omega)⟩
  exact ⟨vr, vo, Lr, Lo, h.mod m (by decide) (by decide) (by decide) (fun k => by omega)⟩
theorem rows_len {T : Nat → Nat} {p : Nat} {vr vo : Value} {Lr Lo : List (Value × Rw)} {w : World} {g : Gr} (h : GAt T p vr vo Lr Lo w g) : Lr.length = g.rows.length ∧ Lo.length = g.old.length := by
  rw [← h.er, ← h.eo, List.length_map, List.length_map]; exact ⟨rfl, rfl⟩
theorem newG_wf {cols rows limit : Nat} (h1 : 1 ≤ cols) (h2 : cols ≤ 250) (h3 : 1 ≤ rows) (h4 : rows ≤ 120) (h5 : limit ≤ 2000) : (newG cols rows limit).WF := by
  refine ⟨h1, h2, ?_, ?_, h5, Nat.zero_le _, fun r hr => ?_⟩
  · show 1 ≤ (freshL rows cols plainS).length
    unfold freshL; rw [List.length_replicate]; exact h3
  · show (freshL rows cols plainS).length ≤ 120
    unfold freshL; rw [List.length_replicate]; exact h4
  · have : r ∈ freshL rows cols plainS := by simpa [newG] using hr
    unfold freshL at this
    rw [List.eq_of_mem_replicate this]
    refine ⟨by rw [List.length_replicate]; rfl, fun c hc => ?_⟩
    rw [List.eq_of_mem_replicate hc]
    exact ⟨by decide, by decide⟩
/-- Tags of a grid that is new. -/
def newT4 (p : Nat) (v : Value) (a b : Nat) : Nat → Nat := fun k => if k = p then 1 else if v.ownBlock = some k then 2 else if a ≤ k ∧ k < b then 10 + k else 0
theorem gat_new {p B : Nat} {v : Value} {L : List (Value × Rw)} {w : World} {g : Gr} (hr : RowsAt B w v L) (hb : w.heap[p]? = some (.cells #[.int .i64 g.cols, .int .i64 g.limit, v, .slice none 0 0] 128 (0, 0)))
    (hv : v.ownBlock ≠ some p) (hp : ∀ x ∈ L, x.1.ownBlock ≠ some p) (_hB : B ≤ p) (he : L.map (·.2) = g.rows) (ho : g.old = []) (hwf : g.WF) : GM (newT4 p v B w.heap.size) p w g := by
  have hpl := heap_lt hb
  refine ⟨v, .slice none 0 0, L, [], ⟨fun k hk => ?_, hb, ?_, ⟨ownC_mono hr.own (Nat.zero_le _), fun k hk => ?_⟩, row_nil _ _ _ _, he, by rw [ho]; rfl, fun x hx => ?_, ?_, hwf⟩⟩
  · unfold newT4 at hk
    by_cases h1 : k = p
    · omega
    · rw [if_neg h1] at hk
      by_cases h2 : v.ownBlock = some k
      · exact (ownC_lt hr.own k h2).2
      · rw [if_neg h2] at hk
        by_cases h3 : B ≤ k ∧ k < w.heap.size
        · exact h3.2
        · rw [if_neg h3] at hk; exact absurd rfl hk
  · unfold newT4; rw [if_pos rfl]
  · unfold newT4
    rw [if_neg (fun e => hv (by rw [hk, e])), if_pos hk]
  · rw [List.append_nil] at hx
    obtain ⟨q, e1, e2⟩ := hr.ap x hx
    have hc := hr.cells x hx
    refine ⟨ownC_mono hc (Nat.zero_le _), q, e1, ?_⟩
    unfold newT4
    rw [if_neg (fun e => hp x hx (by rw [e1, e])), if_neg e2, if_pos (ownC_lt hc q e1)]
  · rw [List.append_nil]; exact hr.nd
theorem newT4_from {p B b : Nat} {v : Value} {n : Nat} {xs : List Value} {w : World} (hB : B ≤ p) (hv : OwnC w B 2 v n xs) : ∀ k, newT4 p v B b k ≠ 0 → B ≤ k := fun k hk => by
  unfold newT4 at hk
  by_cases h1 : k = p
  · omega
  · rw [if_neg h1] at hk
    by_cases h2 : v.ownBlock = some k
    · exact (ownC_lt hv k h2).1
    · rw [if_neg h2] at hk
      by_cases h3 : B ≤ k ∧ k < b
      · exact h3.1
      · rw [if_neg h3] at hk; exact absurd rfl hk
end Go.Proofs.YtlfdgkiliegaiaaGreatDoor

/- Walks of package grid: New, sizes, row. -/
namespace Go.Proofs.YtlfdgkiliegaiaaGreatDoor
open Go.RowKit

theorem newGrid_any (cols rows hist : Nat) (w : World) (h1 : 1 ≤ cols) (h2 : cols ≤ 250) (h3 : 1 ≤ rows) (h4 : rows ≤ 120) (h5 : hist ≤ 2000) :
    Calls Tryz.prog 43 #[.int .i64 cols, .int .i64 rows, .int .i64 hist] w fun e w' => ∃ p T, e = .returned (.tuple #[.pointer (some ⟨p, 0, none⟩), .int .i64 0]) ∧ Below w.heap.size w w' ∧ GM T p w' (newG cols rows hist) ∧ ∀ k, T k ≠ 0 → w.heap.size ≤ k := by
  have hm : mayG cols rows = true := by
    unfold mayG
    rw [decide_eq_true (by omega), decide_eq_true (by omega), decide_eq_true (by omega), decide_eq_true (by omega)]; rfl
  have HM := Lib.hid (may_any cols rows w)
  rw [hm] at HM
  have e0 : decide ((hist : Int) < 0) = false := decide_eq_false (by omega)
  have e1 : decide (2000 < (hist : Int)) = false := decide_eq_false (by omega)
  have e1' : decide (2000 < hist) = false := decide_eq_false (by omega)
  go_enter Tryz.func43, Tryz.ntmps43
  go_wp2_with fail
  refine HM.out.mono ?_
  rintro e w2 ⟨rfl, rfl⟩
  go_wp2_with fail
  refine (plain_any _).mono ?_
  rintro e w3 ⟨rfl, b3⟩
  have HB3 := Lib.hid b3
  clear b3
  go_wp2_with fail
  refine (fresh_any rows cols plainS w3 (by omega) (by omega)).mono ?_
  rintro e w4 ⟨v, L, rfl, b4, hL, hR⟩
  obtain ⟨va, vc, rfl⟩ := ownC_sl hR.own
  have HB4 := Lib.hid (HB3.out.trans (b4.mono HB3.out.size))
  have HR4 := Lib.hid hR
  have HL := Lib.hid hL
  have hs3 := HB3.out.size
  have hs4 := b4.size
  clear b4 hR hL
  go_wp2_with fail
  have hbk := blk_new w4 (.cells #[.int .i64 cols, .int .i64 hist, .slice va L.length vc, .slice none 0 0] 128)
  have hb5 := Below.alloc (Below.refl w4.heap.size w4) (Nat.le_refl _) (.cells #[.int .i64 cols, .int .i64 hist, .slice va L.length vc, .slice none 0 0] 128)
  have hr5 : RowsAt w3.heap.size (w4.alloc (.cells #[.int .i64 cols, .int .i64 hist, .slice va L.length vc, .slice none 0 0] 128)) (.slice va L.length vc) L :=
    ⟨ownC_below HR4.out.own hb5, fun x hx => ownC_below (HR4.out.cells x hx) hb5, HR4.out.nd, HR4.out.ap⟩
  refine ret2w rfl rfl rfl rfl ⟨w4.heap.size, _, rfl, HB4.out.trans (hb5.mono (by omega)), gat_new (g := newG cols rows hist) hr5 hbk ?_ ?_ (by omega) HL.out rfl (newG_wf h1 h2 h3 h4 h5), fun k hk => ?_⟩
  · intro e
    have := (ownC_lt HR4.out.own _ e).2
    omega
  · intro x hx e
    have := (ownC_lt (HR4.out.cells x hx) _ e).2
    omega
  · have := newT4_from (by omega) hr5.own k hk
    omega
theorem gm_cells {T : Nat → Nat} {p : Nat} {vr vo : Value} {Lr Lo : List (Value × Rw)} {w : World} {g : Gr} (h : GAt T p vr vo Lr Lo w g) :
    w.cell? ⟨p, 0, none⟩ = some (.int .i64 g.cols) ∧ w.cell? ⟨p, 1, none⟩ = some (.int .i64 g.limit) ∧ w.cell? ⟨p, 2, none⟩ = some vr ∧ w.cell? ⟨p, 3, none⟩ = some vo :=
  ⟨blk_cell h.blk 0, blk_cell h.blk 1, blk_cell h.blk 2, blk_cell h.blk 3⟩
theorem cols_any {T : Nat → Nat} {p : Nat} {w : World} {g : Gr} (h : GM T p w g) :
    Calls Tryz.prog 29 #[.pointer (some ⟨p, 0, none⟩)] w fun e w' => e = .returned (.int .i64 g.cols) ∧ w' = w := by
  obtain ⟨vr, vo, Lr, Lo, h⟩ := h
  obtain ⟨c0, c1, c2, c3⟩ := gm_cells h
  clear h
  go_enter Tryz.func29, Tryz.ntmps29
  go_wp2_with fail
  go_ret
  exact ⟨rfl, rfl⟩
theorem limit_any {T : Nat → Nat} {p : Nat} {w : World} {g : Gr} (h : GM T p w g) :
    Calls Tryz.prog 32 #[.pointer (some ⟨p, 0, none⟩)] w fun e w' => e = .returned (.int .i64 g.limit) ∧ w' = w := by
  obtain ⟨vr, vo, Lr, Lo, h⟩ := h
  obtain ⟨c0, c1, c2, c3⟩ := gm_cells h
  clear h
  go_enter Tryz.func32, Tryz.ntmps32
  go_wp2_with fail
  go_ret
  exact ⟨rfl, rfl⟩
theorem rowsN_any {T : Nat → Nat} {p : Nat} {w : World} {g : Gr} (h : GM T p w g) :
    Calls Tryz.prog 30 #[.pointer (some ⟨p, 0, none⟩)] w fun e w' => e = .returned (.int .i64 g.rows.length) ∧ w' = w := by
  obtain ⟨vr, vo, Lr, Lo, h⟩ := h
  obtain ⟨c0, c1, c2, c3⟩ := gm_cells h
  have hl := ownC_ln Tryz.underlying126 h.rr.own
  rw [(rows_len h).1] at hl
  clear h
  go_enter Tryz.func30, Tryz.ntmps30
  go_wp2_with fail
  go_ret
  exact ⟨rfl, rfl⟩
end Go.Proofs.YtlfdgkiliegaiaaGreatDoor

/- Walks of package grid: row, Wrapped, Cell, Line. -/
namespace Go.Proofs.YtlfdgkiliegaiaaGreatDoor
open Go.RowKit

theorem row_field0 (x y : Value) (wx : World) : (Instr.field 130 (.agg #[x, y]) 0).run Tryz.prog wx = .ok x wx := by kernel_rfl
theorem ownC_row2 {w : World} {base b off n c : Nat} {L : List (Value × Rw)} (h : OwnC w base 2 (.slice (some ⟨b, off, none⟩) n c) n (rowVals L)) (k : Nat) (hk : k < L.length) :
    w.cell? ⟨b, off + k * 2, none⟩ = some L[k].1 ∧ w.cell? ⟨b, off + k * 2 + 1, none⟩ = some (.bool L[k].2.wrap) := by
  obtain ⟨e1, h2⟩ := h
  rcases h2 with ⟨e, _⟩ | ⟨b', off', c', e, hb, hbs, hnc, hcm, hcells, hxs⟩
  · simp at e
  · simp only [Value.slice.injEq, Option.some.injEq, Addr.mk.injEq] at e
    obtain ⟨⟨rfl, rfl, _⟩, _, rfl⟩ := e
    have key : ∀ i u, i < 2 → [L[k].1, Value.bool L[k].2.wrap][i]? = some u → w.cell? ⟨b, off + (k * 2 + i), none⟩ = some u := fun i u hi hu => hxs _ u (by rw [rowVals_at L k hk i hi]; exact hu)
    exact ⟨key 0 _ (by decide) rfl, key 1 _ (by decide) rfl⟩
theorem ownC_pos {w : World} {base size : Nat} {v : Value} {n : Nat} {xs : List Value} (h : OwnC w base size v n xs) (hn : 0 < n) : ∃ b off c, v = .slice (some ⟨b, off, none⟩) n c ∧ n ≤ c ∧ c ≤ maxLen := by
  rcases h.2 with ⟨_, h0⟩ | ⟨b, off, c, hv, _, _, h1, h2, _⟩
  · omega
  · exact ⟨b, off, c, hv, h1, h2⟩
theorem row_none {T : Nat → Nat} {p : Nat} {w : World} {g : Gr} (h : GM T p w g) (y : Int) (hy : ¬ (0 ≤ y ∧ y < (g.rows.length : Int)) ∧ ¬ (y < 0 ∧ -(g.old.length : Int) ≤ y)) :
    Calls Tryz.prog 72 #[.pointer (some ⟨p, 0, none⟩), .int .i64 y] w fun e w' => e = .returned (.agg #[.slice none 0 0, .bool false]) ∧ Below w.heap.size w w' := by
  obtain ⟨vr, vo, Lr, Lo, h0⟩ := h
  have hBz := Below.alloc (Below.refl w.heap.size w) (Nat.le_refl _) (.cells #[.slice none 0 0, .bool false] 130)
  have h := h0.mod (.of_below hBz) id id id (fun _ => id)
  obtain ⟨c0, c1, c2, c3⟩ := gm_cells h
  have hl := ownC_ln Tryz.underlying126 h.rr.own
  have ho := ownC_ln Tryz.underlying126 h.ro.own
  rw [(rows_len h).1] at hl
  rw [(rows_len h).2] at ho
  have w1 := h.wf.r2
  have w2 := h.wf.ol
  have w3 := h.wf.li
  clear h h0
  have hB := Below.alloc (Below.refl w.heap.size w) (Nat.le_refl _) (.cells #[.slice none 0 0, .bool false] 130)
  by_cases h0 : 0 ≤ y
  · have d1 : decide (0 ≤ y) = true := decide_eq_true h0
    have d2 : decide (y < (g.rows.length : Int)) = false := decide_eq_false (by omega)
    have d3 : decide (y < 0) = false := decide_eq_false (by omega)
    go_enter Tryz.func72, Tryz.ntmps72
    go_wp2_with fail
    (try simp only [Exit.inBlock, Exit.then])
    exact retRow rfl rfl rfl (blk_new _ _) Tryz.underlying130 rfl (by exact row_info) ⟨rfl, hB⟩
  · have d1 : decide (0 ≤ y) = false := decide_eq_false h0
    have d3 : decide (y < 0) = true := decide_eq_true (by omega)
    have d4 : decide (-(g.old.length : Int) ≤ y) = false := decide_eq_false (by omega)
    go_enter Tryz.func72, Tryz.ntmps72
    go_wp2_with fail
    (try simp only [Exit.inBlock, Exit.then])
    exact retRow rfl rfl rfl (blk_new _ _) Tryz.underlying130 rfl (by exact row_info) ⟨rfl, hB⟩
theorem row_some {T : Nat → Nat} {p : Nat} {w : World} {g : Gr} (h : GM T p w g) (k : Nat) (hk : k < g.rows.length) :
    Calls Tryz.prog 72 #[.pointer (some ⟨p, 0, none⟩), .int .i64 k] w fun e w' => ∃ v, e = .returned (.agg #[v, .bool (g.rows.getD k noR).wrap]) ∧ Below w.heap.size w w' ∧ OwnC w 0 5 v (g.rows.getD k noR).cells.length (cvals (g.rows.getD k noR).cells) := by
  obtain ⟨vr, vo, Lr, Lo, h0⟩ := h
  have hBz := Below.alloc (Below.refl w.heap.size w) (Nat.le_refl _) (.cells #[.slice none 0 0, .bool false] 130)
  have h := h0.mod (.of_below hBz) id id id (fun _ => id)
  obtain ⟨c0, c1, c2, c3⟩ := gm_cells h
  have hlen := (rows_len h).1
  have w1 := h.wf.r2
  obtain ⟨b, off, c, rfl, hnc, hcm⟩ := ownC_pos h.rr.own (by omega)
  have hkl : k < Lr.length := by omega
  obtain ⟨r0, r1⟩ := ownC_row2 h.rr.own k hkl
  have hx : (g.rows.getD k noR) = Lr[k].2 := by
    rw [← h.er, List.getD_eq_getElem?_getD, List.getElem?_map, List.getElem?_eq_getElem hkl]; rfl
  have hown := (h0.ca Lr[k] (List.mem_append_left _ (List.getElem_mem hkl))).own
  rw [hx]
  generalize Lr[k] = x at *
  obtain ⟨xv, xr⟩ := x
  dsimp only at r0 r1 hown hx ⊢
  have HO := Lib.hid hown
  obtain ⟨va, vc, rfl⟩ := ownC_sl hown
  have hl := ownC_ln Tryz.underlying126 h.rr.own
  have hix := idx_at (P := Tryz.prog) (size := 2) Tryz.underlying126 row_info b off Lr.length c k hkl
  clear h h0 hown
  have d1 : decide (0 ≤ (k : Int)) = true := decide_eq_true (by omega)
  have d2 : decide ((k : Int) < (Lr.length : Int)) = true := decide_eq_true (by omega)
  have d2' : decide (k < Lr.length) = true := decide_eq_true hkl
  have hB := Below.alloc (Below.refl w.heap.size w) (Nat.le_refl _) (.cells #[.slice va xr.cells.length vc, .bool xr.wrap] 130)
  go_enter Tryz.func72, Tryz.ntmps72
  go_wp2_with fail
  (try simp only [Exit.inBlock, Exit.then])
  exact retRow rfl rfl rfl (blk_new _ _) Tryz.underlying130 rfl (by exact row_info) ⟨_, rfl, hB, HO.out⟩
set_option maxRecDepth 100000 in
theorem row_old {T : Nat → Nat} {p : Nat} {w : World} {g : Gr} (h : GM T p w g) (k : Nat) (hk : k < g.old.length) :
    Calls Tryz.prog 72 #[.pointer (some ⟨p, 0, none⟩), .int .i64 ((k : Int) - g.old.length)] w fun e w' => ∃ v, e = .returned (.agg #[v, .bool (g.old.getD k noR).wrap]) ∧ Below w.heap.size w w' ∧ OwnC w 0 5 v (g.old.getD k noR).cells.length (cvals (g.old.getD k noR).cells) := by
  obtain ⟨vr, vo, Lr, Lo, h0⟩ := h
  have hBz := Below.alloc (Below.refl w.heap.size w) (Nat.le_refl _) (.cells #[.slice none 0 0, .bool false] 130)
  have h := h0.mod (.of_below hBz) id id id (fun _ => id)
  obtain ⟨c0, c1, c2, c3⟩ := gm_cells h
  have hlen := (rows_len h).2
  have w1 := h.wf.r2
  have w2 := h.wf.ol
  have w3 := h.wf.li
  obtain ⟨b, off, c, rfl, hnc, hcm⟩ := ownC_pos h.ro.own (by omega)
  have hkl : k < Lo.length := by omega
  obtain ⟨r0, r1⟩ := ownC_row2 h.ro.own k hkl
  have hx : (g.old.getD k noR) = Lo[k].2 := by
    rw [← h.eo, List.getD_eq_getElem?_getD, List.getElem?_map, List.getElem?_eq_getElem hkl]; rfl
  have hown := (h0.ca Lo[k] (List.mem_append_right _ (List.getElem_mem hkl))).own
  rw [hx]
  generalize Lo[k] = x at *
  obtain ⟨xv, xr⟩ := x
  dsimp only at r0 r1 hown hx ⊢
  have HO := Lib.hid hown
  obtain ⟨va, vc, rfl⟩ := ownC_sl hown
  have hl := ownC_ln Tryz.underlying126 h.ro.own
  have hix := idx_at (P := Tryz.prog) (size := 2) Tryz.underlying126 row_info b off Lo.length c k hkl
  rw [← hlen]
  rw [← hlen] at w2
  clear h h0 hown hlen
  have hy : (Lo.length : Int) + ((k : Int) - (Lo.length : Int)) = (k : Int) := by omega
  have d1 : decide (0 ≤ (k : Int) - (Lo.length : Int)) = false := decide_eq_false (by omega)
  have d3 : decide ((k : Int) - (Lo.length : Int) < 0) = true := decide_eq_true (by omega)
  have d4 : decide (-(Lo.length : Int) ≤ (k : Int) - (Lo.length : Int)) = true := decide_eq_true (by omega)
  have hwk : IntKind.i64.wrap (k : Int) = (k : Int) := wrap64_id _ (by omega) (by omega)
  have hB := Lib.hid (Below.alloc (Below.refl w.heap.size w) (Nat.le_refl _) (.cells #[.slice va xr.cells.length vc, .bool xr.wrap] 130))
  go_enter Tryz.func72, Tryz.ntmps72
  go_upto_region 4 with fail
  have hbk0 := blk_new w (.cells #[.slice none 0 0, .bool false] 130)
  generalize w.alloc (.cells #[.slice none 0 0, .bool false] 130) = wa at *
  go_still_tail 13, (by kernel_rfl)
  change wpList _ _ _ _ _ wa.drew
  have hbk := blk_drew hbk0
  have hBd := hBz.drew
  generalize hwd : wa.drew = wd at *
  have hst := run_storeVar_row (P := Tryz.prog) wd w.heap.size 130 130 _ #[.slice va xr.cells.length vc, .bool xr.wrap] hbk row_info rfl (by simp [Value.oneCell'])
  have hr2 := setRow_blk (cells := #[.slice va xr.cells.length vc, .bool xr.wrap]) hbk
  have hB3 := Lib.hid (below_row hBd (g := w.heap.size) (Nat.le_refl _) #[.slice va xr.cells.length vc, .bool xr.wrap])
  generalize wd.setRow w.heap.size #[.slice va xr.cells.length vc, .bool xr.wrap] = w3 at *
  go_wp2_with (refine wpList_storeR rfl _ _ _ rfl hst rfl rfl ?_)
  (try simp only [Exit.inBlock, Exit.then])
  exact retRow rfl rfl rfl hr2 Tryz.underlying130 rfl (by exact row_info) ⟨_, rfl, hB3.out, HO.out⟩
theorem row_any {T : Nat → Nat} {p : Nat} {w : World} {g : Gr} (h : GM T p w g) (y : Int) :
    Calls Tryz.prog 72 #[.pointer (some ⟨p, 0, none⟩), .int .i64 y] w fun e w' => ∃ v, e = .returned (.agg #[v, .bool (g.row y).wrap]) ∧ Below w.heap.size w w' ∧ OwnC w 0 5 v (g.row y).cells.length (cvals (g.row y).cells) := by
  by_cases h1 : 0 ≤ y ∧ y < (g.rows.length : Int)
  · obtain ⟨k, rfl⟩ : ∃ k : Nat, y = (k : Int) := ⟨y.toNat, by omega⟩
    have e : g.row k = g.rows.getD k noR := by unfold Gr.row; rw [if_pos h1, Int.toNat_natCast]
    rw [e]
    exact row_some h k (by omega)
  · by_cases h2 : y < 0 ∧ -(g.old.length : Int) ≤ y
    · obtain ⟨k, hk⟩ : ∃ k : Nat, (g.old.length : Int) + y = (k : Int) := ⟨((g.old.length : Int) + y).toNat, by omega⟩
      have e : g.row y = g.old.getD k noR := by unfold Gr.row; rw [if_neg h1, if_pos h2, hk, Int.toNat_natCast]
      rw [e, show y = (k : Int) - g.old.length by omega]
      exact row_old h k (by omega)
    · have e : g.row y = noR := by unfold Gr.row; rw [if_neg h1, if_neg h2]
      rw [e]
      refine (row_none h y ⟨h1, h2⟩).mono ?_
      rintro e w' ⟨rfl, b⟩
      exact ⟨_, rfl, b, ownC_nil _ _ _⟩
theorem own_empty (w : World) (e : TypeId) (size : Nat) : OwnC (w.alloc (.cells #[] e)) w.heap.size size (.slice (some ⟨w.heap.size, 0, none⟩) 0 0) 0 [] :=
  ⟨by simp, .inr ⟨w.heap.size, 0, 0, rfl, Nat.le_refl _, by simp, Nat.le_refl _, Nat.zero_le _, fun j hj => by omega, fun j u hu => by simp at hu⟩⟩
set_option maxRecDepth 100000 in
theorem cloneC_any (l : List Cel) (v : Value) (w : World) (h : OwnC w 0 5 v l.length (cvals l)) (hl : l.length ≤ 100000) :
    Calls Tryz.prog 78 #[v] w fun e w' => ∃ v', e = .returned v' ∧ Below w.heap.size w w' ∧ OwnC w' w.heap.size 5 v' l.length (cvals l) := by
  rcases Nat.eq_zero_or_pos l.length with h0 | h0
  · have hnil : l = [] := List.eq_nil_of_length_eq_zero h0
    subst hnil
    obtain ⟨va, vc, rfl⟩ := ownC_sl h
    rw [List.length_nil] at h ⊢
    have hq := fun (wx : World) => Lib.run_eql_slice_nil (P := Tryz.prog) wx 68 133 va 0 vc 0 0 Tryz.underlying68
    cases va with
    | none =>
      clear h
      go_enter Tryz.func78, Tryz.ntmps78
      go_wp2_with fail
      exact ret1v rfl rfl rfl ⟨_, rfl, Below.refl _ _, ownC_nil _ _ _⟩
    | some a =>
      have HR := Lib.hid (ownC_reads h)
      clear h
      go_enter Tryz.func78, Tryz.ntmps78
      go_wp2_with (at_builtin; refine held ?_)
      unfold Held
      refine wpList_appC cells_elem rfl rfl w.heap.size (own_empty w 133 5) rfl (reads_kept HR.out (World.grownBy_alloc w _ none) (by intro _ _ e; simp at e)) rfl (cvals_one []) (by decide) (by decide) (by simp) ?_
      intro v6 w6 o6 g6
      have HB6 := Lib.hid ((Below.alloc (Below.refl w.heap.size w) (Nat.le_refl _) (.cells #[] 133)).grown g6 (by simp) (by intro q hq; simp [Value.ownBlock] at hq; omega))
      have HO6 := Lib.hid o6
      clear o6 g6
      go_wp2_with fail
      exact ret1v rfl rfl rfl ⟨_, rfl, HB6.out, HO6.out⟩
  · obtain ⟨b, off, c, rfl, hnc, hcm⟩ := ownC_pos h h0
    have hq := fun (wx : World) => Lib.run_eql_slice_nil (P := Tryz.prog) wx 68 133 (some ⟨b, off, none⟩) l.length c 0 0 Tryz.underlying68
    have HR := Lib.hid (ownC_reads h)
    clear h
    go_enter Tryz.func78, Tryz.ntmps78
    go_wp2_with (at_builtin; refine held ?_)
    unfold Held
    refine wpList_appC cells_elem rfl rfl w.heap.size (own_empty w 133 5) rfl (reads_kept HR.out (World.grownBy_alloc w _ none) (by intro _ _ e; simp at e)) rfl (cvals_one l) (by unfold maxLen; omega) (by omega) (by simp) ?_
    intro v6 w6 o6 g6
    rw [Nat.zero_add, List.nil_append] at o6
    have HB6 := Lib.hid ((Below.alloc (Below.refl w.heap.size w) (Nat.le_refl _) (.cells #[] 133)).grown g6 (by simp) (by intro q hq; simp [Value.ownBlock] at hq; omega))
    have HO6 := Lib.hid o6
    clear o6 g6
    go_wp2_with fail
    exact ret1v rfl rfl rfl ⟨_, rfl, HB6.out, HO6.out⟩
theorem line_any {T : Nat → Nat} {p : Nat} {w : World} {g : Gr} (h : GM T p w g) (y : Int) (hl : (g.row y).cells.length ≤ 1000) :
    Calls Tryz.prog 39 #[.pointer (some ⟨p, 0, none⟩), .int .i64 y] w fun e w' => ∃ v, e = .returned v ∧ Below w.heap.size w w' ∧ OwnC w' w.heap.size 5 v (g.row y).cells.length (cvals (g.row y).cells) := by
  have HR := Lib.hid (row_any h y)
  go_enter Tryz.func39, Tryz.ntmps39
  go_wp2_with fail
  refine HR.out.mono ?_
  rintro e w2 ⟨v, rfl, b2, o2⟩
  have HB := Lib.hid b2
  have HC := Lib.hid (cloneC_any (g.row y).cells v w2 (ownC_below o2 b2) (by omega))
  clear b2
  obtain ⟨va, vc, rfl⟩ := ownC_sl o2
  clear o2
  have hf := row_field0 (.slice va (g.row y).cells.length vc) (.bool (g.row y).wrap)
  go_wp2_with fail
  refine HC.out.mono ?_
  rintro e w3 ⟨v3, rfl, b3, o3⟩
  have HB3 := Lib.hid (HB.out.trans (b3.mono HB.out.size))
  have HO3 := Lib.hid (ownC_mono o3 HB.out.size)
  clear b3 o3
  go_wp2_with fail
  exact ret1v rfl rfl rfl ⟨_, rfl, HB3.out, HO3.out⟩
theorem wf_row {g : Gr} (h : g.WF) (y : Int) : (g.row y).cells.length ≤ 250 ∧ ∀ c ∈ (g.row y).cells, c.Ok := by
  have key : ∀ r, r ∈ g.rows ++ g.old → r.cells.length ≤ 250 ∧ ∀ c ∈ r.cells, c.Ok := fun r hr => by
    obtain ⟨e1, e2⟩ := h.ce r hr
    have := h.c2
    exact ⟨by omega, e2⟩
  have hget : ∀ (l : List Rw) (k : Nat), k < l.length → l.getD k noR ∈ l := fun l k hk => by
    rw [List.getD_eq_getElem?_getD, List.getElem?_eq_getElem hk]; exact List.getElem_mem hk
  unfold Gr.row
  split
  · exact key _ (List.mem_append_left _ (hget _ _ (by omega)))
  · split
    · exact key _ (List.mem_append_right _ (hget _ _ (by omega)))
    · exact ⟨by show 0 ≤ 250; omega, fun c hc => by simp [noR] at hc⟩
end Go.Proofs.YtlfdgkiliegaiaaGreatDoor
