/- Walks of package grid: blank, fill. -/
import Derived.Test.YtjclgoiclbkgjaaDoorM2
import Derived.Test.YtjclgoiclbkgjaaDoorQ3
import Derived.Test.YtjclgoiclbkgjaaDoorA1
namespace Go.Proofs.YtjclgoiclbkgjaaDoor
open Go.RowKit

theorem cell_info : (Tryd.prog.info? 38).map (·.size) = some 5 := by kernel_rfl
theorem sty_info : (Tryd.prog.info? 33).map (·.size) = some 3 := by kernel_rfl
theorem row_info : (Tryd.prog.info? 76).map (·.size) = some 2 := by kernel_rfl
theorem blk_new (w : World) (o : Obj) : (w.alloc o).heap[w.heap.size]? = some o := heap_alloc_new w o
theorem blk_new2 (w : World) (o o' : Obj) : ((w.alloc o).alloc o').heap[w.heap.size + 1]? = some o' := by
  have := heap_alloc_new (w.alloc o) o'
  simpa using this
theorem below_row {B g : Nat} {w0 w : World} (hb : Below B w0 w) (hBg : B ≤ g) (cs : Array Value) : Below B w0 (w.setRow g cs) :=
  hb.trans ⟨rfl, rfl, rfl, by simp [World.setRow], fun k hk => setRow_other w g k cs (by omega)⟩
theorem below_allocs {B : Nat} {a w : World} (h : Below B a w) (hs : B ≤ w.heap.size) (o : Obj) : Below B a (w.alloc o) := h.alloc hs o
theorem blank_any (s : Sty) (w : World) : Calls Tryd.prog 61 #[s.val] w fun e w' => e = .returned (blankC s).val ∧ Below w.heap.size w w' := by
  obtain ⟨f, b, a⟩ := s
  unfold Sty.val Cel.val blankC
  have HB := Lib.hid (((Below.refl w.heap.size w).alloc (Nat.le_refl _) (.cells #[.int .i64 f, .int .i64 b, .int .i64 a] 33)).alloc (by simp) (.cells #[.int .i32 32, .int .i64 1, .int .i64 f, .int .i64 b, .int .i64 a] 38))
  go_enter Tryd.func61, Tryd.ntmps61
  go_wp2_with fail
  exact retRow rfl rfl rfl (blk_new2 _ _ _) Tryd.underlying38 rfl (by exact cell_info) ⟨rfl, HB.out⟩
theorem plain_any (w : World) : Calls Tryd.prog 37 #[] w fun e w' => e = .returned plainS.val ∧ Below w.heap.size w w' := by
  unfold Sty.val plainS
  go_enter Tryd.func37, Tryd.ntmps37
  go_wp2_with fail
  exact retRow rfl rfl rfl (blk_new _ _) Tryd.underlying33 rfl (by exact sty_info) ⟨rfl, (Below.refl w.heap.size w).alloc (Nat.le_refl _) _⟩
theorem refPlain_any (w : World) : Calls Tryd.prog 13 #[] w fun e w' => e = .returned plainS.val ∧ Below w.heap.size w w' := by
  unfold Sty.val plainS
  go_enter Tryd.func13, Tryd.ntmps13
  go_wp2_with fail
  exact retRow rfl rfl rfl (blk_new _ _) Tryd.underlying33 rfl (by exact sty_info) ⟨rfl, (Below.refl w.heap.size w).alloc (Nat.le_refl _) _⟩
/-- A struct's own block written whole. -/
theorem setRow_blk {w : World} {g : Nat} {old cells : Array Value} {t : TypeId} (h : w.heap[g]? = some (.cells old t (0, 0))) : (w.setRow g cells).heap[g]? = some (.cells cells t (0, 0)) := setRow_heap w g old cells t (0, 0) h
theorem letter_any (r k : Int) (w : World) : Calls Tryd.prog 15 #[.int .i32 r, .int .i64 k] w fun e w' => e = .returned (⟨r, k, plainS⟩ : Cel).val ∧ Below w.heap.size w w' := by
  unfold Cel.val
  have hb0 := blk_new w (.cells #[.int .i32 0, .int .i64 0, .int .i64 0, .int .i64 0, .int .i64 0] 38)
  have hB0 := (Below.refl w.heap.size w).alloc (Nat.le_refl _) (.cells #[.int .i32 0, .int .i64 0, .int .i64 0, .int .i64 0, .int .i64 0] 38)
  go_enter Tryd.func15, Tryd.ntmps15
  go_wp2_with fail
  refine (refPlain_any _).mono ?_
  rintro e w2 ⟨rfl, b2⟩
  have hb2 := blk_below hb0 b2 (by simp)
  have hst := run_storeVar_row (P := Tryd.prog) w2 w.heap.size 38 38 _ #[.int .i32 r, .int .i64 k, .int .i64 (-1), .int .i64 (-1), .int .i64 0] hb2 cell_info rfl (by simp [Value.oneCell'])
  have hr2 := setRow_blk (cells := #[.int .i32 r, .int .i64 k, .int .i64 (-1), .int .i64 (-1), .int .i64 0]) hb2
  have hB2 := Lib.hid (hB0.trans (b2.mono (by simp)))
  have hB3 := Lib.hid (below_row hB2.out (g := w.heap.size) (Nat.le_refl _) #[.int .i32 r, .int .i64 k, .int .i64 (-1), .int .i64 (-1), .int .i64 0])
  unfold Sty.val plainS
  clear hB0 b2
  generalize w2.setRow w.heap.size #[.int .i32 r, .int .i64 k, .int .i64 (-1), .int .i64 (-1), .int .i64 0] = w3 at *
  go_wp2_with (refine wpList_storeR rfl _ _ _ rfl hst rfl rfl ?_)
  exact retRow rfl rfl rfl hr2 Tryd.underlying38 rfl (by exact cell_info) ⟨rfl, hB3.out⟩
theorem fill_zero (l : List Cel) (x : Nat) (s : Sty) : fillL l x 0 s = l := by
  unfold fillL putAt
  simp
theorem fill_succ (l : List Cel) (x k : Nat) (s : Sty) (h : x + k < l.length) : putAt (fillL l x k s) (x + k) [blankC s] = fillL l x (k + 1) s := by
  apply List.ext_getElem?
  intro j
  have hl : (fillL l x k s).length = l.length := fillL_len _ _ _ _ (by omega)
  rw [putAt_get _ _ _ (by rw [hl]; simp; omega)]
  unfold fillL
  rw [putAt_get _ _ _ (by rw [List.length_replicate]; omega), putAt_get _ _ _ (by rw [List.length_replicate]; omega)]
  simp only [List.length_replicate, List.length_singleton, List.getElem?_replicate]
  by_cases c1 : j < x
  · rw [if_pos (show j < x + k by omega), if_pos c1, if_pos c1]
  rw [if_neg c1, if_neg c1]
  by_cases c2 : j < x + k
  · rw [if_pos c2, if_pos c2, if_pos (show j - x < k by omega), if_pos (show j < x + (k + 1) by omega), if_pos (show j - x < k + 1 by omega)]
  rw [if_neg c2, if_neg c2]
  by_cases c3 : j < x + k + 1
  · rw [if_pos c3, if_pos (show j < x + (k + 1) by omega), if_pos (show j - x < k + 1 by omega), show j - (x + k) = 0 by omega]
    rfl
  · rw [if_neg c3, if_neg (show ¬ j < x + (k + 1) by omega)]
theorem cvals_one' (c : Cel) : ∀ u ∈ (#[Value.int .i32 c.rune, .int .i64 c.width, .int .i64 c.sty.fg, .int .i64 c.sty.bg, .int .i64 c.sty.attr] : Array Value).toList, u.oneCell' = true := cvals_one [c]
set_option maxRecDepth 100000 in
set_option maxHeartbeats 2000000 in
theorem fill_any (l : List Cel) (s : Sty) (b off n c x m c' : Nat) (w : World) (h : OwnC w 0 5 (.slice (some ⟨b, off, none⟩) n c) n (cvals l)) (hn : l.length = n) (hx : x + m ≤ n) (hm : n ≤ maxLen) :
    Calls Tryd.prog 53 #[.slice (some ⟨b, off + x * 5, none⟩) m c', s.val] w fun e w' => e = .returned (.tuple #[]) ∧ w.grownBy w' (some b) ∧ OwnC w' 0 5 (.slice (some ⟨b, off, none⟩) n c) n (cvals (fillL l x m s)) := by
  have hbl := (ownC_lt h b rfl).2
  have HS0 := Lib.hid (ownC_alloc h (.cells #[.int .i64 s.fg, .int .i64 s.bg, .int .i64 s.attr] 33))
  have hb0 := blk_new w (.cells #[.int .i64 s.fg, .int .i64 s.bg, .int .i64 s.attr] 33)
  clear h
  unfold maxLen at hm
  go_enter Tryd.func53, Tryd.ntmps53
  unfold Sty.val
  go_wp2_with fail
  go_loopw [4, 7] (fun _ iv wr => ∃ k : Nat, k ≤ m ∧ iv = .int .i64 k ∧ w.grownBy wr (some b) ∧ wr.heap[w.heap.size]? = some (.cells #[.int .i64 s.fg, .int .i64 s.bg, .int .i64 s.attr] 33 (0, 0)) ∧ w.heap.size < wr.heap.size ∧
    OwnC wr 0 5 (.slice (some ⟨b, off, none⟩) n c) n (cvals (fillL l x k s))) (fun _ iv _ => m - (intOf iv).toNat)
  case atStart =>
    refine ⟨0, Nat.zero_le _, rfl, World.grownBy_alloc w _ _, hb0, by simp, ?_⟩
    rw [fill_zero]; exact HS0.out
  case round =>
    obtain ⟨k, hk, rfl, g, hb, hlt, ho⟩ := hrel
    have HG := Lib.hid g
    have HO := Lib.hid ho
    have c0 := blk_cell hb 0
    have c1 := blk_cell hb 1
    have c2 := blk_cell hb 2
    replace c0 : wr.cell? ⟨w.heap.size, 0, none⟩ = some (.int .i64 s.fg) := c0
    replace c1 : wr.cell? ⟨w.heap.size, 1, none⟩ = some (.int .i64 s.bg) := c1
    replace c2 : wr.cell? ⟨w.heap.size, 2, none⟩ = some (.int .i64 s.attr) := c2
    have HBk := Lib.hid hb
    clear g ho hb
    by_cases hlt2 : k < m
    · have hix := idx_at (P := Tryd.prog) (size := 5) Tryd.underlying51 cell_info b (off + x * 5) m c' k hlt2
      have HBL := Lib.hid (blank_any s wr)
      go_wp2_with fail
      refine HBL.out.mono ?_
      rintro e w2 ⟨rfl, b2⟩
      have hl : (fillL l x k s).length = n := by rw [fillL_len _ _ _ _ (by omega)]; exact hn
      have HO2 := Lib.hid (ownC_below HO.out b2)
      have hst := store_own (P := Tryd.prog) cell_info HO2.out (x + k) (by omega) #[.int .i32 32, .int .i64 1, .int .i64 s.fg, .int .i64 s.bg, .int .i64 s.attr] rfl (cvals_one' (blankC s))
      rw [show off + (x + k) * 5 = off + x * 5 + k * 5 by omega] at hst
      have HP := ownC_put HO2.out ((x + k) * 5) (cvals [blankC s]) (by rw [cvals_len]; simp; omega)
      rw [← cvals_put, fill_succ _ _ _ _ (by omega), show off + (x + k) * 5 = off + x * 5 + k * 5 by omega] at HP
      have HP2 := Lib.hid HP
      have HG2 := Lib.hid (gb_trans (gb_below HG.out b2 (by omega)) (gb_setCells w2 b (off + x * 5 + k * 5) (cvals [blankC s])))
      have HK2 := Lib.hid (blk_grown (blk_below HBk.out b2 hlt) (gb_setCells w2 b (off + x * 5 + k * 5) (cvals [blankC s])) (by intro e; injection e with e; omega))
      have hs2 := b2.size
      have hsz := size_setCells w2 b (off + x * 5 + k * 5) (cvals [blankC s])
      unfold Cel.val blankC
      dsimp only
      replace hst : (storeVar 38 ⟨b, off + x * 5 + k * 5, none⟩ (.agg #[.int .i32 32, .int .i64 1, .int .i64 s.fg, .int .i64 s.bg, .int .i64 s.attr])).run Tryd.prog w2 = .ok () (w2.setCells b (off + x * 5 + k * 5) (cvals [blankC s])) := hst
      generalize w2.setCells b (off + x * 5 + k * 5) (cvals [blankC s]) = w3 at *
      clear HP b2
      go_wp2_with (refine wpList_storeR rfl _ _ _ rfl hst rfl rfl ?_)
      go_roundw
      case rel => exact ⟨k + 1, by omega, by go_num, HG2.out, HK2.out, by omega, HP2.out⟩
      case measure => simp [intOf]; omega
    · have : k = m := by omega
      subst this
      go_wp2_with fail
      go_end0
      exact ⟨rfl, HG.out, HO.out⟩
end Go.Proofs.YtjclgoiclbkgjaaDoor
