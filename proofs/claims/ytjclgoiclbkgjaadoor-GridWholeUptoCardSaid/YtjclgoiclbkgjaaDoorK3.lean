/- Package grid, texts laid together: G3 M3 G4 G5 G6. -/
import Derived.Test.YtjclgoiclbkgjaaDoorK2
import Derived.Lib.SliceRun
import Derived.WalkSpells
import Derived.Test.YtjclgoiclbkgjaaDoorShelf
import Derived.Lib.Builder
import Derived.Lib.FrozenHead
import Derived.Lib.RuneBytes
import Derived.Lib.UnsafeStr
/- Walks of package grid: fresh. -/
namespace Go.Proofs.YtjclgoiclbkgjaaDoor
open Go.RowKit

def rowVals (L : List (Value × Rw)) : List Value := L.flatMap fun x => [x.1, .bool x.2.wrap]
theorem rowVals_len (L : List (Value × Rw)) : (rowVals L).length = L.length * 2 := by
  induction L with
  | nil => rfl
  | cons x L ih =>
    simp only [rowVals, List.flatMap_cons, List.length_append, List.length_cons, List.length_nil] at ih ⊢
    omega
theorem rowVals_append (L M : List (Value × Rw)) : rowVals (L ++ M) = rowVals L ++ rowVals M := by simp [rowVals]
theorem rowVals_take (l : List (Value × Rw)) (x : Nat) : (rowVals l).take (x * 2) = rowVals (l.take x) := by
  induction l generalizing x with
  | nil => simp [rowVals]
  | cons c l ih =>
    cases x with
    | zero => simp [rowVals]
    | succ x =>
      have e : rowVals (c :: l) = [c.1, .bool c.2.wrap] ++ rowVals l := rfl
      have e2 : rowVals ((c :: l).take (x + 1)) = [c.1, .bool c.2.wrap] ++ rowVals (l.take x) := rfl
      rw [e, e2, List.take_append, ← ih x]
      rw [List.take_of_length_le (by simp; omega), show (x + 1) * 2 - [c.1, Value.bool c.2.wrap].length = x * 2 by simp; omega]
theorem rowVals_drop (l : List (Value × Rw)) (x : Nat) : (rowVals l).drop (x * 2) = rowVals (l.drop x) := by
  induction l generalizing x with
  | nil => simp [rowVals]
  | cons c l ih =>
    cases x with
    | zero => simp [rowVals]
    | succ x =>
      have e : rowVals (c :: l) = [c.1, .bool c.2.wrap] ++ rowVals l := rfl
      rw [e, List.drop_append, show (c :: l).drop (x + 1) = l.drop x from rfl, ← ih x]
      rw [List.drop_eq_nil_of_le (by simp; omega), show (x + 1) * 2 - [c.1, Value.bool c.2.wrap].length = x * 2 by simp; omega, List.nil_append]
theorem rowVals_put (l : List (Value × Rw)) (x : Nat) (m : List (Value × Rw)) : rowVals (putAt l x m) = putAt (rowVals l) (x * 2) (rowVals m) := by
  unfold putAt
  rw [rowVals_append, rowVals_append, ← rowVals_take, ← rowVals_drop, rowVals_len, Nat.add_mul]
theorem putAt_mid {α : Type} (A B : List α) (x y : α) (n : Nat) (hn : n = A.length) : putAt (A ++ x :: B) n [y] = A ++ y :: B := by
  subst hn
  unfold putAt
  simp
/-- Rows that lie in memory: each with its slice of cells; the blocks are apart. -/
structure RowsAt (base : Nat) (w : World) (v : Value) (L : List (Value × Rw)) : Prop where
  own : OwnC w base 2 v L.length (rowVals L)
  cells : ∀ x ∈ L, OwnC w base 5 x.1 x.2.cells.length (cvals x.2.cells)
  nd : (L.map (·.1.ownBlock)).Nodup
  ap : ∀ x ∈ L, ∃ q, x.1.ownBlock = some q ∧ v.ownBlock ≠ some q
theorem make_full {P : Program} {t e : TypeId} {size bytes : Nat} {z : Value} (EI : Elem P t e size bytes z) (n : Nat) (hn : n ≤ 100000) (hs : size ≤ 100) (hb : bytes ≤ 1000) (w : World) :
    ∃ w', (Instr.makeSlice t (.int .i64 (n : Int)) (.int .i64 (n : Int))).run P w = .ok (.slice (some ⟨w.heap.size, 0, none⟩) n n) w' ∧
      OwnC w' w.heap.size size (.slice (some ⟨w.heap.size, 0, none⟩) n n) n (madeCells z.cells (n * size)).toList ∧ Below w.heap.size w w' ∧ w.heap.size < w'.heap.size := by
  obtain ⟨h1, h2, h3⟩ := EI
  obtain ⟨i, hi, he⟩ := Option.map_eq_some_iff.1 h2
  simp only [Prod.mk.injEq] at he
  obtain ⟨hz, hsz, hby⟩ := he
  have hnb : i.bytes * n ≤ 281474976710656 := by
    have h : i.bytes * n ≤ 1000 * 100000 := Nat.mul_le_mul (by omega) hn
    omega
  have hcs : n * size ≤ 16777216 := by
    have h : n * size ≤ 100000 * 100 := Nat.mul_le_mul hn hs
    omega
  obtain ⟨w', hr, ho, hg⟩ := run_makeSlice_full (P := P) w w.heap.size t e i z size h1 hi hz hsz .i64 .i64 n hcs hnb (by unfold maxLen; omega) (Nat.le_refl _)
  refine ⟨w', hr, ownC_own ho, below_of_gb hg (Nat.le_refl _) (fun q hq => by simp at hq), ?_⟩
  have := ownC_lt (ownC_own ho) w.heap.size rfl
  omega
theorem cells_elem : Elem Tryd.prog 51 38 5 40 (.agg #[.int .i32 0, .int .i64 0, .int .i64 0, .int .i64 0, .int .i64 0]) := ⟨Tryd.underlying51, by kernel_rfl, rfl, by decide⟩
theorem rows_elem : Elem Tryd.prog 68 76 2 32 (.agg #[.slice none 0 0, .bool false]) := ⟨Tryd.underlying68, by kernel_rfl, rfl, by decide⟩
theorem made_cells (n : Nat) : (madeCells (Value.agg #[.int .i32 0, .int .i64 0, .int .i64 0, .int .i64 0, .int .i64 0]).cells (n * 5)).toList = cvals (List.replicate n noC) := by
  apply List.ext_getElem?
  intro j
  by_cases hj : j < n * 5
  · have e : j = (j / 5) * 5 + j % 5 := by omega
    have h5 : j % 5 < 5 := Nat.mod_lt _ (by decide)
    have hl : (madeCells (Value.agg #[.int .i32 0, .int .i64 0, .int .i64 0, .int .i64 0, .int .i64 0]).cells (n * 5)).toList[j]? = some ((#[.int .i32 0, .int .i64 0, .int .i64 0, .int .i64 0, .int .i64 0] : Array Value)[j % 5]!) := by
      unfold madeCells
      rw [Array.getElem?_toList, Array.getElem?_map, Array.getElem?_eq_getElem (by simpa using hj), Array.getElem_range]
      rfl
    rw [hl]
    conv => rhs; rw [e]
    rw [cvals_at _ _ (by rw [List.length_replicate]; omega) _ h5, List.getD_eq_getElem?_getD, List.getElem?_replicate, if_pos (by omega)]
    have hc : j % 5 = 0 ∨ j % 5 = 1 ∨ j % 5 = 2 ∨ j % 5 = 3 ∨ j % 5 = 4 := by omega
    rcases hc with h | h | h | h | h <;> rw [h] <;> rfl
  · rw [List.getElem?_eq_none (by rw [Array.length_toList, size_madeCells]; omega), List.getElem?_eq_none (by rw [cvals_len, List.length_replicate]; omega)]
theorem rowVals_at (l : List (Value × Rw)) (x : Nat) (h : x < l.length) (i : Nat) (hi : i < 2) : (rowVals l)[x * 2 + i]? = [(l[x]).1, .bool (l[x]).2.wrap][i]? := by
  induction l generalizing x with
  | nil => simp at h
  | cons c l ih =>
    have e : rowVals (c :: l) = [c.1, .bool c.2.wrap] ++ rowVals l := rfl
    cases x with
    | zero => rw [e, List.getElem?_append_left (by simp; omega)]; simp
    | succ x =>
      rw [e, List.getElem?_append_right (by simp; omega), show (x + 1) * 2 + i - [c.1, Value.bool c.2.wrap].length = x * 2 + i by simp; omega, ih x (by simpa using h)]
      rfl
theorem made_rows (n : Nat) : (madeCells (Value.agg #[.slice none 0 0, .bool false]).cells (n * 2)).toList = rowVals (List.replicate n (.slice none 0 0, noR)) := by
  apply List.ext_getElem?
  intro j
  by_cases hj : j < n * 2
  · have e : j = (j / 2) * 2 + j % 2 := by omega
    have h5 : j % 2 < 2 := Nat.mod_lt _ (by decide)
    have hl : (madeCells (Value.agg #[.slice none 0 0, .bool false]).cells (n * 2)).toList[j]? = some ((#[.slice none 0 0, .bool false] : Array Value)[j % 2]!) := by
      unfold madeCells
      rw [Array.getElem?_toList, Array.getElem?_map, Array.getElem?_eq_getElem (by simpa using hj), Array.getElem_range]
      rfl
    rw [hl]
    conv => rhs; rw [e]
    rw [rowVals_at _ _ (by rw [List.length_replicate]; omega) _ h5, List.getElem_replicate]
    have hc : j % 2 = 0 ∨ j % 2 = 1 := by omega
    rcases hc with h | h <;> rw [h] <;> rfl
  · rw [List.getElem?_eq_none (by rw [Array.length_toList, size_madeCells]; omega), List.getElem?_eq_none (by rw [rowVals_len, List.length_replicate]; omega)]
theorem fill_all (cols : Nat) (s : Sty) (c : Cel) : fillL (List.replicate cols c) 0 cols s = List.replicate cols (blankC s) := by
  unfold fillL putAt
  simp
set_option maxRecDepth 100000 in
set_option maxHeartbeats 4000000 in
theorem fresh_any (n cols : Nat) (s : Sty) (w : World) (hn : n ≤ 10000) (hc : cols ≤ 1000) :
    Calls Tryd.prog 36 #[.int .i64 n, .int .i64 cols, s.val] w fun e w' => ∃ v L, e = .returned v ∧ Below w.heap.size w w' ∧ L.map (·.2) = freshL n cols s ∧ RowsAt w.heap.size w' v L := by
  have hb0 := blk_new w (.cells #[.int .i64 s.fg, .int .i64 s.bg, .int .i64 s.attr] 33)
  have hB0 := (Below.refl w.heap.size w).alloc (Nat.le_refl _) (.cells #[.int .i64 s.fg, .int .i64 s.bg, .int .i64 s.attr] 33)
  obtain ⟨w1, hmk, ho1, b1, hs1⟩ := make_full rows_elem n (by omega) (by omega) (by omega) (w.alloc (.cells #[.int .i64 s.fg, .int .i64 s.bg, .int .i64 s.attr] 33))
  rw [made_rows] at ho1
  have hsz0 : (w.alloc (.cells #[.int .i64 s.fg, .int .i64 s.bg, .int .i64 s.attr] 33)).heap.size = w.heap.size + 1 := by simp
  rw [hsz0] at hmk ho1 hs1
  have HO1 := Lib.hid (ownC_mono ho1 (show w.heap.size ≤ w.heap.size + 1 by omega))
  have HK1 := Lib.hid (blk_below hb0 b1 (by rw [hsz0]; omega))
  have HB1 := Lib.hid (hB0.trans (b1.mono (by rw [hsz0]; omega)))
  clear ho1 b1 hb0 hB0
  go_enter Tryd.func36, Tryd.ntmps36
  unfold Sty.val
  go_wp2_with fail
  go_loopw [8, 13] (fun _ iv wr => ∃ (k : Nat) (L : List (Value × Rw)), k ≤ n ∧ iv = .int .i64 k ∧ L.length = k ∧ Below w.heap.size w wr ∧ wr.heap[w.heap.size]? = some (.cells #[.int .i64 s.fg, .int .i64 s.bg, .int .i64 s.attr] 33 (0, 0)) ∧ w.heap.size + 1 < wr.heap.size ∧
    OwnC wr w.heap.size 2 (.slice (some ⟨w.heap.size + 1, 0, none⟩) n n) n (rowVals (L ++ List.replicate (n - k) (.slice none 0 0, noR))) ∧
    Hid ((∀ x ∈ L, x.2 = ⟨List.replicate cols (blankC s), false⟩ ∧ OwnC wr w.heap.size 5 x.1 cols (cvals (List.replicate cols (blankC s))) ∧ ∃ q, x.1.ownBlock = some q ∧ w.heap.size + 1 < q) ∧ (L.map (·.1.ownBlock)).Nodup)) (fun _ iv _ => n - (intOf iv).toNat)
  case atStart =>
    exact ⟨0, [], Nat.zero_le _, rfl, rfl, HB1.out, HK1.out, hs1, HO1.out, fun x hx => by simp at hx, by simp⟩
  case round =>
    obtain ⟨k, L, hk, rfl, hL, hb, hblk, hsz, ho, hcs⟩ := hrel
    have HB := Lib.hid hb
    have HO := Lib.hid ho
    have HCS := Lib.hid hcs
    have HK := Lib.hid hblk
    clear hb ho hblk hcs
    by_cases hlt : k < n
    · obtain ⟨w2, hmk2, ho2, b2, hs2⟩ := make_full cells_elem cols (by omega) (by omega) (by omega) wr
      rw [made_cells] at ho2
      have hix := idx_at (P := Tryd.prog) (size := 2) Tryd.underlying68 row_info (w.heap.size + 1) 0 n n k hlt
      simp only [Nat.zero_add] at hix
      have HO2 := ownC_below HO.out b2
      have hsp : rowVals (L ++ List.replicate (n - k) (.slice none 0 0, noR)) = rowVals L ++ .slice none 0 0 :: (.bool false :: rowVals (List.replicate (n - (k + 1)) (.slice none 0 0, noR))) := by
        rw [rowVals_append, show n - k = (n - (k + 1)) + 1 by omega, List.replicate_succ]
        rfl
      have hcell : w2.cell? ⟨w.heap.size + 1, k * 2, none⟩ = some (.slice none 0 0) ∧ w2.frozen? ⟨w.heap.size + 1, k * 2, none⟩ = false := by
        rcases HO2.2 with ⟨e, _⟩ | ⟨b', off', c', e, _, _, hnc, _, hcells, hxs⟩
        · simp at e
        · simp only [Value.slice.injEq, Option.some.injEq, Addr.mk.injEq] at e
          obtain ⟨⟨rfl, rfl, _⟩, _, rfl⟩ := e
          have a1 := hxs (k * 2) _ (by rw [hsp, List.getElem?_append_right (by rw [rowVals_len, hL]; omega), rowVals_len, hL, Nat.sub_self]; rfl)
          have a2 := (hcells (k * 2) (by omega)).2
          rw [Nat.zero_add] at a1 a2
          exact ⟨a1, a2⟩
      obtain ⟨hc2, hf2⟩ := hcell
      have HP := ownC_put HO2 (k * 2) [.slice (some ⟨wr.heap.size, 0, none⟩) cols cols] (by simp; omega)
      rw [hsp, putAt_mid _ _ _ _ _ (by rw [rowVals_len, hL]), Nat.zero_add] at HP
      change OwnC (w2.setCell ⟨w.heap.size + 1, k * 2, none⟩ (.slice (some ⟨wr.heap.size, 0, none⟩) cols cols)) _ _ _ _ _ at HP
      have hs3 : (w2.setCell ⟨w.heap.size + 1, k * 2, none⟩ (.slice (some ⟨wr.heap.size, 0, none⟩) cols cols)).heap.size = w2.heap.size := by simp
      have G3 : w2.grownBy (w2.setCell ⟨w.heap.size + 1, k * 2, none⟩ (.slice (some ⟨wr.heap.size, 0, none⟩) cols cols)) (some (w.heap.size + 1)) := gb_set (gb_refl _ _) _ _
      have hc3 : (w2.setCell ⟨w.heap.size + 1, k * 2, none⟩ (.slice (some ⟨wr.heap.size, 0, none⟩) cols cols)).cell? ⟨w.heap.size + 1, k * 2, none⟩ = some (.slice (some ⟨wr.heap.size, 0, none⟩) cols cols) :=
        World.cell?_setCell_same' w2 _ _ (by rw [hc2]; rfl)
      have HO3 := Lib.hid HP
      have HF3 := Lib.hid (ownC_grown ho2 G3 (by intro q hq e; simp [Value.ownBlock] at hq; injection e with e; omega))
      have hk3 := blk_grown (blk_below HK.out b2 (by omega)) G3 (by intro e; injection e with e; omega)
      have HB3 := Lib.hid ((HB.out.trans (b2.mono HB.out.size)).grown G3 (by have := HB.out.size; have := b2.size; omega) (by intro q hq; injection hq with hq; omega))
      have HCS3 := Lib.hid (show (∀ x ∈ L, x.2 = ⟨List.replicate cols (blankC s), false⟩ ∧ OwnC (w2.setCell ⟨w.heap.size + 1, k * 2, none⟩ (.slice (some ⟨wr.heap.size, 0, none⟩) cols cols)) w.heap.size 5 x.1 cols (cvals (List.replicate cols (blankC s))) ∧ ∃ q, x.1.ownBlock = some q ∧ w.heap.size + 1 < q ∧ q < wr.heap.size) ∧ (L.map (·.1.ownBlock)).Nodup from
        ⟨fun x hx => by
          obtain ⟨e1, e2, q, e3, e4⟩ := HCS.out.1 x hx
          exact ⟨e1, ownC_grown (ownC_below e2 b2) G3 (by intro q' hq' e; rw [e3] at hq'; injection hq' with hq'; injection e with e; omega), q, e3, e4, (ownC_lt e2 q e3).2⟩, HCS.out.2⟩)
      clear HP ho2 HO2 G3
      have hs2' := b2.size
      go_upto_region 6 with fail
      generalize hw3 : w2.setCell ⟨w.heap.size + 1, k * 2, none⟩ (.slice (some ⟨wr.heap.size, 0, none⟩) cols cols) = w3 at *
      have c0 := blk_cell hk3 0
      have c1 := blk_cell hk3 1
      have c2 := blk_cell hk3 2
      replace c0 : w3.cell? ⟨w.heap.size, 0, none⟩ = some (.int .i64 s.fg) := c0
      replace c1 : w3.cell? ⟨w.heap.size, 1, none⟩ = some (.int .i64 s.bg) := c1
      replace c2 : w3.cell? ⟨w.heap.size, 2, none⟩ = some (.int .i64 s.attr) := c2
      go_still_tail 6, (by kernel_rfl)
      change wpList _ _ _ _ _ w3.drew
      have hFd := ownC_mono (show OwnC w3.drew wr.heap.size 5 (.slice (some ⟨wr.heap.size, 0, none⟩) cols cols) cols (cvals (List.replicate cols noC)) from HF3.out) (Nat.zero_le _)
      have hod := show OwnC w3.drew w.heap.size 2 (.slice (some ⟨w.heap.size + 1, 0, none⟩) n n) n _ from HO3.out
      have hkd := blk_drew hk3
      have hbd := HB3.out.drew
      have hcd := show (∀ x ∈ L, x.2 = ⟨List.replicate cols (blankC s), false⟩ ∧ OwnC w3.drew w.heap.size 5 x.1 cols (cvals (List.replicate cols (blankC s))) ∧ ∃ q, x.1.ownBlock = some q ∧ w.heap.size + 1 < q ∧ q < wr.heap.size) ∧ (L.map (·.1.ownBlock)).Nodup from HCS3.out
      have hsd : w3.drew.heap.size = w2.heap.size := hs3
      generalize hwd : w3.drew = wd at *
      have HFL := Lib.hid (fill_any (List.replicate cols noC) s wr.heap.size 0 cols cols 0 cols cols wd hFd (by rw [List.length_replicate]) (by omega) (by unfold maxLen; omega))
      simp only [Nat.zero_mul, Nat.add_zero, fill_all] at HFL
      unfold Sty.val at HFL
      go_wp2_with fail
      refine HFL.out.mono ?_
      rintro e w4 ⟨rfl, g4, o4⟩
      have HO4 := Lib.hid (ownC_grown hod g4 (by intro q hq e; simp [Value.ownBlock] at hq; injection e with e; omega))
      have HK4 := Lib.hid (blk_grown hkd g4 (by intro e; injection e with e; omega))
      have HB4 := Lib.hid (hbd.grown g4 (by have := hbd.size; omega) (by intro q hq; injection hq with hq; omega))
      have hs4 := g4.size
      have hbk : ∀ q, (Value.slice (some ⟨wr.heap.size, 0, none⟩) cols cols).ownBlock = some q → wr.heap.size ≤ q := fun q hq => by
        simp [Value.ownBlock] at hq; omega
      have o4' : OwnC w4 w.heap.size 5 (.slice (some ⟨wr.heap.size, 0, none⟩) cols cols) cols (cvals (List.replicate cols (blankC s))) := by
        refine ⟨o4.1, ?_⟩
        rcases o4.2 with h | ⟨b', off', c', e, h1, h2⟩
        · exact .inl h
        · refine .inr ⟨b', off', c', e, ?_, h2⟩
          have := hbk b' (by rw [e]; rfl)
          omega
      have HCS4 := Lib.hid (show (∀ x ∈ L ++ [((Value.slice (some ⟨wr.heap.size, 0, none⟩) cols cols), (⟨List.replicate cols (blankC s), false⟩ : Rw))], x.2 = ⟨List.replicate cols (blankC s), false⟩ ∧ OwnC w4 w.heap.size 5 x.1 cols (cvals (List.replicate cols (blankC s))) ∧ ∃ q, x.1.ownBlock = some q ∧ w.heap.size + 1 < q) ∧ ((L ++ [((Value.slice (some ⟨wr.heap.size, 0, none⟩) cols cols), (⟨List.replicate cols (blankC s), false⟩ : Rw))]).map (·.1.ownBlock)).Nodup from by
        refine ⟨fun x hx => ?_, ?_⟩
        · rcases List.mem_append.1 hx with hx | hx
          · obtain ⟨e1, e2, q, e3, e4, e5⟩ := hcd.1 x hx
            exact ⟨e1, ownC_grown e2 g4 (by intro q' hq' e; rw [e3] at hq'; injection hq' with hq'; injection e with e; omega), q, e3, e4⟩
          · rw [List.mem_singleton] at hx
            subst hx
            exact ⟨rfl, o4', wr.heap.size, rfl, by omega⟩
        · rw [List.map_append, List.nodup_append]
          refine ⟨hcd.2, by simp, fun a ha b hb => ?_⟩
          obtain ⟨x, hx, rfl⟩ := List.mem_map.1 ha
          obtain ⟨_, _, q, e3, _, e5⟩ := hcd.1 x hx
          simp only [List.map_cons, List.map_nil, List.mem_singleton] at hb
          subst hb
          rw [e3]
          intro e
          simp [Value.ownBlock] at e
          omega)
      clear g4 o4 o4' hcd hod hkd hbd hFd
      have hrow : rowVals L ++ Value.slice (some ⟨wr.heap.size, 0, none⟩) cols cols :: (.bool false :: rowVals (List.replicate (n - (k + 1)) (.slice none 0 0, noR))) = rowVals ((L ++ [((Value.slice (some ⟨wr.heap.size, 0, none⟩) cols cols), (⟨List.replicate cols (blankC s), false⟩ : Rw))]) ++ List.replicate (n - (k + 1)) (.slice none 0 0, noR)) := by
        rw [rowVals_append, rowVals_append]
        simp [rowVals]
      rw [hrow] at HO4
      go_wp2_with fail
      go_roundw
      case rel => exact ⟨k + 1, _, by omega, by go_num, by rw [List.length_append, hL]; rfl, HB4.out, HK4.out, by omega, HO4.out, HCS4.out⟩
      case measure => simp [intOf]; omega
    · have hkn : k = n := by omega
      subst hkn
      go_wp2_with fail
      rw [Nat.sub_self, List.replicate_zero, List.append_nil] at HO
      refine ret1v rfl rfl rfl ⟨_, L, rfl, HB.out, ?_, ?_⟩
      · apply List.ext_getElem?
        intro j
        unfold freshL
        rw [List.getElem?_map, List.getElem?_replicate]
        by_cases hj : j < L.length
        · rw [List.getElem?_eq_getElem hj, if_pos (by omega), Option.map_some, (HCS.out.1 _ (List.getElem_mem hj)).1]
        · rw [List.getElem?_eq_none (by omega), if_neg (by omega)]; rfl
      · refine ⟨by rw [hL]; exact HO.out, fun x hx => ?_, HCS.out.2, fun x hx => ?_⟩
        · obtain ⟨e1, e2, _⟩ := HCS.out.1 x hx
          rw [e1]
          simp only [List.length_replicate]
          exact e2
        · obtain ⟨_, _, q, e3, e4⟩ := HCS.out.1 x hx
          refine ⟨q, e3, fun e => ?_⟩
          simp [Value.ownBlock] at e
          omega
end Go.Proofs.YtjclgoiclbkgjaaDoor

/- A grid in memory. -/
namespace Go.Proofs.YtjclgoiclbkgjaaDoor
open Go.RowKit

def Cel.Ok (c : Cel) : Prop := -2147483648 ≤ c.rune ∧ c.rune ≤ 2147483647
structure Gr.WF (g : Gr) : Prop where
  c1 : 1 ≤ g.cols
  c2 : g.cols ≤ 250
  r1 : 1 ≤ g.rows.length
  r2 : g.rows.length ≤ 120
  li : g.limit ≤ 2000
  ol : g.old.length ≤ g.limit
  ce : ∀ r ∈ g.rows ++ g.old, r.cells.length = g.cols ∧ ∀ c ∈ r.cells, c.Ok
/-- A row's cells in memory. -/
structure CAt (T : Nat → Nat) (w : World) (x : Value × Rw) : Prop where
  own : OwnC w 0 5 x.1 x.2.cells.length (cvals x.2.cells)
  tag : ∃ q, x.1.ownBlock = some q ∧ T q = 10 + q
structure GAt (T : Nat → Nat) (p : Nat) (vr vo : Value) (Lr Lo : List (Value × Rw)) (w : World) (g : Gr) : Prop where
  lt : ∀ k, T k ≠ 0 → k < w.heap.size
  blk : w.heap[p]? = some (.cells #[.int .i64 g.cols, .int .i64 g.limit, vr, vo] 70 (0, 0))
  tp : T p = 1
  rr : Row T 2 2 vr Lr.length (rowVals Lr) w
  ro : Row T 3 2 vo Lo.length (rowVals Lo) w
  er : Lr.map (·.2) = g.rows
  eo : Lo.map (·.2) = g.old
  ca : ∀ x ∈ Lr ++ Lo, CAt T w x
  nd : ((Lr ++ Lo).map (·.1.ownBlock)).Nodup
  wf : g.WF
def GM (T : Nat → Nat) (p : Nat) (w : World) (g : Gr) : Prop := ∃ vr vo Lr Lo, GAt T p vr vo Lr Lo w g
theorem CAt.mod {T : Nat → Nat} {w w' : World} {x : Value × Rw} {q : Nat → Prop} (h : CAt T w x) (m : Mod T q w w') (hq : ∀ k, x.1.ownBlock = some k → ¬ q (10 + k)) : CAt T w' x :=
  ⟨ownC_blocks h.own m.size fun k hk => m.block k (ownC_lt h.own k hk).2 (by
    obtain ⟨b, e1, e2⟩ := h.tag
    have : b = k := by rw [e1] at hk; injection hk
    subst this
    rw [e2]; exact hq b hk), h.tag⟩
/-- Blocks of other kinds turned. -/
theorem GAt.mod {T : Nat → Nat} {p : Nat} {vr vo : Value} {Lr Lo : List (Value × Rw)} {w w' : World} {g : Gr} {q : Nat → Prop} (h : GAt T p vr vo Lr Lo w g) (m : Mod T q w w') (h1 : ¬ q 1) (h2 : ¬ q 2) (h3 : ¬ q 3) (h4 : ∀ k, ¬ q (10 + k)) : GAt T p vr vo Lr Lo w' g :=
  ⟨fun k hk => Nat.lt_of_lt_of_le (h.lt k hk) m.size, (m.block p (heap_lt h.blk) (by rw [h.tp]; exact h1)).trans h.blk, h.tp, h.rr.mod m h2, h.ro.mod m h3, h.er, h.eo, fun x hx => (h.ca x hx).mod m (fun k _ => h4 k), h.nd, h.wf⟩
theorem GM.below {T : Nat → Nat} {p : Nat} {w w' : World} {g : Gr} (h : GM T p w g) (b : Below w.heap.size w w') : GM T p w' g := by
  obtain ⟨vr, vo, Lr, Lo, h⟩ := h
  exact ⟨vr, vo, Lr, Lo, h.mod (.of_below b) id id id (fun _ => id)⟩
theorem GM.wf {T : Nat → Nat} {p : Nat} {w : World} {g : Gr} (h : GM T p w g) : g.WF := by
  obtain ⟨_, _, _, _, h⟩ := h; exact h.wf
theorem GM.lt {T : Nat → Nat} {p : Nat} {w : World} {g : Gr} (h : GM T p w g) : ∀ k, T k ≠ 0 → k < w.heap.size := by
  obtain ⟨_, _, _, _, h⟩ := h; exact h.lt
theorem GM.own0 {T : Nat → Nat} {p : Nat} {w : World} {g : Gr} (h : GM T p w g) {k : Nat} (hk : w.heap.size ≤ k) : T k = 0 := by
  by_cases h0 : T k = 0
  · exact h0
  · have := h.lt k h0; omega
/-- What another's doing leaves as it is. -/
theorem GM.other {Tp Tq : Nat → Nat} {q : Nat} {w w' : World} {g : Gr} (h : GM Tq q w g) (hw : Within (own Tp w) w w') (hd : ∀ k, Tq k ≠ 0 → Tp k = 0) : GM Tq q w' g := by
  obtain ⟨vr, vo, Lr, Lo, h⟩ := h
  have m : Mod Tq (fun x => x = 0) w w' := ⟨hw.os, hw.tape, hw.output, hw.size, fun k hk h0 => hw.block k hk (fun e => by
    rcases e with e | e
    · exact e (hd k h0)
    · omega)⟩
  exact ⟨vr, vo, Lr, Lo, h.mod m (by decide) (by decide) (by decide) (fun k => by omega)⟩
theorem rows_len {T : Nat → Nat} {p : Nat} {vr vo : Value} {Lr Lo : List (Value × Rw)} {w : World} {g : Gr} (h : GAt T p vr vo Lr Lo w g) : Lr.length = g.rows.length ∧ Lo.length = g.old.length := by
  rw [← h.er, ← h.eo, List.length_map, List.length_map]; exact ⟨rfl, rfl⟩
theorem newG_wf {cols rows limit : Nat} (h1 : 1 ≤ cols) (h2 : cols ≤ 250) (h3 : 1 ≤ rows) (h4 : rows ≤ 120) (h5 : limit ≤ 2000) : (newG cols rows limit).WF := by
  refine ⟨h1, h2, ?_, ?_, h5, Nat.zero_le _, fun r hr => ?_⟩
  · show 1 ≤ (freshL rows cols plainS).length
    unfold freshL; rw [List.length_replicate]; exact h3
  · show (freshL rows cols plainS).length ≤ 120
    unfold freshL; rw [List.length_replicate]; exact h4
  · have : r ∈ freshL rows cols plainS := by simpa [newG] using hr
    unfold freshL at this
    rw [List.eq_of_mem_replicate this]
    refine ⟨by rw [List.length_replicate]; rfl, fun c hc => ?_⟩
    rw [List.eq_of_mem_replicate hc]
    exact ⟨by decide, by decide⟩
/-- Tags of a grid that is new. -/
def newT4 (p : Nat) (v : Value) (a b : Nat) : Nat → Nat := fun k => if k = p then 1 else if v.ownBlock = some k then 2 else if a ≤ k ∧ k < b then 10 + k else 0
theorem gat_new {p B : Nat} {v : Value} {L : List (Value × Rw)} {w : World} {g : Gr} (hr : RowsAt B w v L) (hb : w.heap[p]? = some (.cells #[.int .i64 g.cols, .int .i64 g.limit, v, .slice none 0 0] 70 (0, 0)))
    (hv : v.ownBlock ≠ some p) (hp : ∀ x ∈ L, x.1.ownBlock ≠ some p) (_hB : B ≤ p) (he : L.map (·.2) = g.rows) (ho : g.old = []) (hwf : g.WF) : GM (newT4 p v B w.heap.size) p w g := by
  have hpl := heap_lt hb
  refine ⟨v, .slice none 0 0, L, [], ⟨fun k hk => ?_, hb, ?_, ⟨ownC_mono hr.own (Nat.zero_le _), fun k hk => ?_⟩, row_nil _ _ _ _, he, by rw [ho]; rfl, fun x hx => ?_, ?_, hwf⟩⟩
  · unfold newT4 at hk
    by_cases h1 : k = p
    · omega
    · rw [if_neg h1] at hk
      by_cases h2 : v.ownBlock = some k
      · exact (ownC_lt hr.own k h2).2
      · rw [if_neg h2] at hk
        by_cases h3 : B ≤ k ∧ k < w.heap.size
        · exact h3.2
        · rw [if_neg h3] at hk; exact absurd rfl hk
  · unfold newT4; rw [if_pos rfl]
  · unfold newT4
    rw [if_neg (fun e => hv (by rw [hk, e])), if_pos hk]
  · rw [List.append_nil] at hx
    obtain ⟨q, e1, e2⟩ := hr.ap x hx
    have hc := hr.cells x hx
    refine ⟨ownC_mono hc (Nat.zero_le _), q, e1, ?_⟩
    unfold newT4
    rw [if_neg (fun e => hp x hx (by rw [e1, e])), if_neg e2, if_pos (ownC_lt hc q e1)]
  · rw [List.append_nil]; exact hr.nd
theorem newT4_from {p B b : Nat} {v : Value} {n : Nat} {xs : List Value} {w : World} (hB : B ≤ p) (hv : OwnC w B 2 v n xs) : ∀ k, newT4 p v B b k ≠ 0 → B ≤ k := fun k hk => by
  unfold newT4 at hk
  by_cases h1 : k = p
  · omega
  · rw [if_neg h1] at hk
    by_cases h2 : v.ownBlock = some k
    · exact (ownC_lt hv k h2).1
    · rw [if_neg h2] at hk
      by_cases h3 : B ≤ k ∧ k < b
      · exact h3.1
      · rw [if_neg h3] at hk; exact absurd rfl hk
end Go.Proofs.YtjclgoiclbkgjaaDoor

/- Walks of package grid: New, sizes, row. -/
namespace Go.Proofs.YtjclgoiclbkgjaaDoor
open Go.RowKit

theorem newGrid_no (cols rows hist : Int) (w : World) (h : mayG cols rows = false ∨ hist < 0 ∨ 2000 < hist) :
    Calls Tryd.prog 11 #[.int .i64 cols, .int .i64 rows, .int .i64 hist] w fun e w' => e = .returned (.tuple #[.pointer none, .int .i64 1]) ∧ w' = w := by
  have HM := Lib.hid (may_any cols rows w)
  cases hm : mayG cols rows
  · rw [hm] at HM
    go_enter Tryd.func11, Tryd.ntmps11
    go_wp2_with fail
    refine HM.out.mono ?_
    rintro e w2 ⟨rfl, rfl⟩
    go_wp2_with fail
    refine ret2w rfl rfl rfl rfl ⟨rfl, rfl⟩
  · rw [hm] at HM h
    by_cases h0 : hist < 0
    · have e0 : decide (hist < 0) = true := decide_eq_true h0
      go_enter Tryd.func11, Tryd.ntmps11
      go_wp2_with fail
      refine HM.out.mono ?_
      rintro e w2 ⟨rfl, rfl⟩
      go_wp2_with fail
      refine ret2w rfl rfl rfl rfl ⟨rfl, rfl⟩
    · have e0 : decide (hist < 0) = false := decide_eq_false h0
      have e1 : decide (2000 < hist) = true := decide_eq_true (by simp at h; omega)
      go_enter Tryd.func11, Tryd.ntmps11
      go_wp2_with fail
      refine HM.out.mono ?_
      rintro e w2 ⟨rfl, rfl⟩
      go_wp2_with fail
      refine ret2w rfl rfl rfl rfl ⟨rfl, rfl⟩
theorem newGrid_any (cols rows hist : Nat) (w : World) (h1 : 1 ≤ cols) (h2 : cols ≤ 250) (h3 : 1 ≤ rows) (h4 : rows ≤ 120) (h5 : hist ≤ 2000) :
    Calls Tryd.prog 11 #[.int .i64 cols, .int .i64 rows, .int .i64 hist] w fun e w' => ∃ p T, e = .returned (.tuple #[.pointer (some ⟨p, 0, none⟩), .int .i64 0]) ∧ Below w.heap.size w w' ∧ GM T p w' (newG cols rows hist) ∧ ∀ k, T k ≠ 0 → w.heap.size ≤ k := by
  have hm : mayG cols rows = true := by
    unfold mayG
    rw [decide_eq_true (by omega), decide_eq_true (by omega), decide_eq_true (by omega), decide_eq_true (by omega)]; rfl
  have HM := Lib.hid (may_any cols rows w)
  rw [hm] at HM
  have e0 : decide ((hist : Int) < 0) = false := decide_eq_false (by omega)
  have e1 : decide (2000 < (hist : Int)) = false := decide_eq_false (by omega)
  have e1' : decide (2000 < hist) = false := decide_eq_false (by omega)
  go_enter Tryd.func11, Tryd.ntmps11
  go_wp2_with fail
  refine HM.out.mono ?_
  rintro e w2 ⟨rfl, rfl⟩
  go_wp2_with fail
  refine (plain_any _).mono ?_
  rintro e w3 ⟨rfl, b3⟩
  have HB3 := Lib.hid b3
  clear b3
  go_wp2_with fail
  refine (fresh_any rows cols plainS w3 (by omega) (by omega)).mono ?_
  rintro e w4 ⟨v, L, rfl, b4, hL, hR⟩
  obtain ⟨va, vc, rfl⟩ := ownC_sl hR.own
  have HB4 := Lib.hid (HB3.out.trans (b4.mono HB3.out.size))
  have HR4 := Lib.hid hR
  have HL := Lib.hid hL
  have hs3 := HB3.out.size
  have hs4 := b4.size
  clear b4 hR hL
  go_wp2_with fail
  have hbk := blk_new w4 (.cells #[.int .i64 cols, .int .i64 hist, .slice va L.length vc, .slice none 0 0] 70)
  have hb5 := Below.alloc (Below.refl w4.heap.size w4) (Nat.le_refl _) (.cells #[.int .i64 cols, .int .i64 hist, .slice va L.length vc, .slice none 0 0] 70)
  have hr5 : RowsAt w3.heap.size (w4.alloc (.cells #[.int .i64 cols, .int .i64 hist, .slice va L.length vc, .slice none 0 0] 70)) (.slice va L.length vc) L :=
    ⟨ownC_below HR4.out.own hb5, fun x hx => ownC_below (HR4.out.cells x hx) hb5, HR4.out.nd, HR4.out.ap⟩
  refine ret2w rfl rfl rfl rfl ⟨w4.heap.size, _, rfl, HB4.out.trans (hb5.mono (by omega)), gat_new (g := newG cols rows hist) hr5 hbk ?_ ?_ (by omega) HL.out rfl (newG_wf h1 h2 h3 h4 h5), fun k hk => ?_⟩
  · intro e
    have := (ownC_lt HR4.out.own _ e).2
    omega
  · intro x hx e
    have := (ownC_lt (HR4.out.cells x hx) _ e).2
    omega
  · have := newT4_from (by omega) hr5.own k hk
    omega
theorem gm_cells {T : Nat → Nat} {p : Nat} {vr vo : Value} {Lr Lo : List (Value × Rw)} {w : World} {g : Gr} (h : GAt T p vr vo Lr Lo w g) :
    w.cell? ⟨p, 0, none⟩ = some (.int .i64 g.cols) ∧ w.cell? ⟨p, 1, none⟩ = some (.int .i64 g.limit) ∧ w.cell? ⟨p, 2, none⟩ = some vr ∧ w.cell? ⟨p, 3, none⟩ = some vo :=
  ⟨blk_cell h.blk 0, blk_cell h.blk 1, blk_cell h.blk 2, blk_cell h.blk 3⟩
theorem cols_any {T : Nat → Nat} {p : Nat} {w : World} {g : Gr} (h : GM T p w g) :
    Calls Tryd.prog 9 #[.pointer (some ⟨p, 0, none⟩)] w fun e w' => e = .returned (.int .i64 g.cols) ∧ w' = w := by
  obtain ⟨vr, vo, Lr, Lo, h⟩ := h
  obtain ⟨c0, c1, c2, c3⟩ := gm_cells h
  clear h
  go_enter Tryd.func9, Tryd.ntmps9
  go_wp2_with fail
  go_ret
  exact ⟨rfl, rfl⟩
theorem limit_any {T : Nat → Nat} {p : Nat} {w : World} {g : Gr} (h : GM T p w g) :
    Calls Tryd.prog 29 #[.pointer (some ⟨p, 0, none⟩)] w fun e w' => e = .returned (.int .i64 g.limit) ∧ w' = w := by
  obtain ⟨vr, vo, Lr, Lo, h⟩ := h
  obtain ⟨c0, c1, c2, c3⟩ := gm_cells h
  clear h
  go_enter Tryd.func29, Tryd.ntmps29
  go_wp2_with fail
  go_ret
  exact ⟨rfl, rfl⟩
theorem rowsN_any {T : Nat → Nat} {p : Nat} {w : World} {g : Gr} (h : GM T p w g) :
    Calls Tryd.prog 10 #[.pointer (some ⟨p, 0, none⟩)] w fun e w' => e = .returned (.int .i64 g.rows.length) ∧ w' = w := by
  obtain ⟨vr, vo, Lr, Lo, h⟩ := h
  obtain ⟨c0, c1, c2, c3⟩ := gm_cells h
  have hl := ownC_ln Tryd.underlying68 h.rr.own
  rw [(rows_len h).1] at hl
  clear h
  go_enter Tryd.func10, Tryd.ntmps10
  go_wp2_with fail
  go_ret
  exact ⟨rfl, rfl⟩
theorem history_any {T : Nat → Nat} {p : Nat} {w : World} {g : Gr} (h : GM T p w g) :
    Calls Tryd.prog 27 #[.pointer (some ⟨p, 0, none⟩)] w fun e w' => e = .returned (.int .i64 g.old.length) ∧ w' = w := by
  obtain ⟨vr, vo, Lr, Lo, h⟩ := h
  obtain ⟨c0, c1, c2, c3⟩ := gm_cells h
  have hl := ownC_ln Tryd.underlying68 h.ro.own
  rw [(rows_len h).2] at hl
  clear h
  go_enter Tryd.func27, Tryd.ntmps27
  go_wp2_with fail
  go_ret
  exact ⟨rfl, rfl⟩
end Go.Proofs.YtjclgoiclbkgjaaDoor

/- Walks of package grid: row, Wrapped, Cell, Line. -/
namespace Go.Proofs.YtjclgoiclbkgjaaDoor
open Go.RowKit

theorem row_field0 (x y : Value) (wx : World) : (Instr.field 76 (.agg #[x, y]) 0).run Tryd.prog wx = .ok x wx := by kernel_rfl
theorem row_field1 (x y : Value) (wx : World) : (Instr.field 76 (.agg #[x, y]) 1).run Tryd.prog wx = .ok y wx := by kernel_rfl
theorem ownC_row2 {w : World} {base b off n c : Nat} {L : List (Value × Rw)} (h : OwnC w base 2 (.slice (some ⟨b, off, none⟩) n c) n (rowVals L)) (k : Nat) (hk : k < L.length) :
    w.cell? ⟨b, off + k * 2, none⟩ = some L[k].1 ∧ w.cell? ⟨b, off + k * 2 + 1, none⟩ = some (.bool L[k].2.wrap) := by
  obtain ⟨e1, h2⟩ := h
  rcases h2 with ⟨e, _⟩ | ⟨b', off', c', e, hb, hbs, hnc, hcm, hcells, hxs⟩
  · simp at e
  · simp only [Value.slice.injEq, Option.some.injEq, Addr.mk.injEq] at e
    obtain ⟨⟨rfl, rfl, _⟩, _, rfl⟩ := e
    have key : ∀ i u, i < 2 → [L[k].1, Value.bool L[k].2.wrap][i]? = some u → w.cell? ⟨b, off + (k * 2 + i), none⟩ = some u := fun i u hi hu => hxs _ u (by rw [rowVals_at L k hk i hi]; exact hu)
    exact ⟨key 0 _ (by decide) rfl, key 1 _ (by decide) rfl⟩
theorem ownC_pos {w : World} {base size : Nat} {v : Value} {n : Nat} {xs : List Value} (h : OwnC w base size v n xs) (hn : 0 < n) : ∃ b off c, v = .slice (some ⟨b, off, none⟩) n c ∧ n ≤ c ∧ c ≤ maxLen := by
  rcases h.2 with ⟨_, h0⟩ | ⟨b, off, c, hv, _, _, h1, h2, _⟩
  · omega
  · exact ⟨b, off, c, hv, h1, h2⟩
theorem row_none {T : Nat → Nat} {p : Nat} {w : World} {g : Gr} (h : GM T p w g) (y : Int) (hy : ¬ (0 ≤ y ∧ y < (g.rows.length : Int)) ∧ ¬ (y < 0 ∧ -(g.old.length : Int) ≤ y)) :
    Calls Tryd.prog 44 #[.pointer (some ⟨p, 0, none⟩), .int .i64 y] w fun e w' => e = .returned (.agg #[.slice none 0 0, .bool false]) ∧ Below w.heap.size w w' := by
  obtain ⟨vr, vo, Lr, Lo, h0⟩ := h
  have hBz := Below.alloc (Below.refl w.heap.size w) (Nat.le_refl _) (.cells #[.slice none 0 0, .bool false] 76)
  have h := h0.mod (.of_below hBz) id id id (fun _ => id)
  obtain ⟨c0, c1, c2, c3⟩ := gm_cells h
  have hl := ownC_ln Tryd.underlying68 h.rr.own
  have ho := ownC_ln Tryd.underlying68 h.ro.own
  rw [(rows_len h).1] at hl
  rw [(rows_len h).2] at ho
  have w1 := h.wf.r2
  have w2 := h.wf.ol
  have w3 := h.wf.li
  clear h h0
  have hB := Below.alloc (Below.refl w.heap.size w) (Nat.le_refl _) (.cells #[.slice none 0 0, .bool false] 76)
  by_cases h0 : 0 ≤ y
  · have d1 : decide (0 ≤ y) = true := decide_eq_true h0
    have d2 : decide (y < (g.rows.length : Int)) = false := decide_eq_false (by omega)
    have d3 : decide (y < 0) = false := decide_eq_false (by omega)
    go_enter Tryd.func44, Tryd.ntmps44
    go_wp2_with fail
    (try simp only [Exit.inBlock, Exit.then])
    exact retRow rfl rfl rfl (blk_new _ _) Tryd.underlying76 rfl (by exact row_info) ⟨rfl, hB⟩
  · have d1 : decide (0 ≤ y) = false := decide_eq_false h0
    have d3 : decide (y < 0) = true := decide_eq_true (by omega)
    have d4 : decide (-(g.old.length : Int) ≤ y) = false := decide_eq_false (by omega)
    go_enter Tryd.func44, Tryd.ntmps44
    go_wp2_with fail
    (try simp only [Exit.inBlock, Exit.then])
    exact retRow rfl rfl rfl (blk_new _ _) Tryd.underlying76 rfl (by exact row_info) ⟨rfl, hB⟩
theorem row_some {T : Nat → Nat} {p : Nat} {w : World} {g : Gr} (h : GM T p w g) (k : Nat) (hk : k < g.rows.length) :
    Calls Tryd.prog 44 #[.pointer (some ⟨p, 0, none⟩), .int .i64 k] w fun e w' => ∃ v, e = .returned (.agg #[v, .bool (g.rows.getD k noR).wrap]) ∧ Below w.heap.size w w' ∧ OwnC w 0 5 v (g.rows.getD k noR).cells.length (cvals (g.rows.getD k noR).cells) := by
  obtain ⟨vr, vo, Lr, Lo, h0⟩ := h
  have hBz := Below.alloc (Below.refl w.heap.size w) (Nat.le_refl _) (.cells #[.slice none 0 0, .bool false] 76)
  have h := h0.mod (.of_below hBz) id id id (fun _ => id)
  obtain ⟨c0, c1, c2, c3⟩ := gm_cells h
  have hlen := (rows_len h).1
  have w1 := h.wf.r2
  obtain ⟨b, off, c, rfl, hnc, hcm⟩ := ownC_pos h.rr.own (by omega)
  have hkl : k < Lr.length := by omega
  obtain ⟨r0, r1⟩ := ownC_row2 h.rr.own k hkl
  have hx : (g.rows.getD k noR) = Lr[k].2 := by
    rw [← h.er, List.getD_eq_getElem?_getD, List.getElem?_map, List.getElem?_eq_getElem hkl]; rfl
  have hown := (h0.ca Lr[k] (List.mem_append_left _ (List.getElem_mem hkl))).own
  rw [hx]
  generalize Lr[k] = x at *
  obtain ⟨xv, xr⟩ := x
  dsimp only at r0 r1 hown hx ⊢
  have HO := Lib.hid hown
  obtain ⟨va, vc, rfl⟩ := ownC_sl hown
  have hl := ownC_ln Tryd.underlying68 h.rr.own
  have hix := idx_at (P := Tryd.prog) (size := 2) Tryd.underlying68 row_info b off Lr.length c k hkl
  clear h h0 hown
  have d1 : decide (0 ≤ (k : Int)) = true := decide_eq_true (by omega)
  have d2 : decide ((k : Int) < (Lr.length : Int)) = true := decide_eq_true (by omega)
  have d2' : decide (k < Lr.length) = true := decide_eq_true hkl
  have hB := Below.alloc (Below.refl w.heap.size w) (Nat.le_refl _) (.cells #[.slice va xr.cells.length vc, .bool xr.wrap] 76)
  go_enter Tryd.func44, Tryd.ntmps44
  go_wp2_with fail
  (try simp only [Exit.inBlock, Exit.then])
  exact retRow rfl rfl rfl (blk_new _ _) Tryd.underlying76 rfl (by exact row_info) ⟨_, rfl, hB, HO.out⟩
set_option maxRecDepth 100000 in
theorem row_old {T : Nat → Nat} {p : Nat} {w : World} {g : Gr} (h : GM T p w g) (k : Nat) (hk : k < g.old.length) :
    Calls Tryd.prog 44 #[.pointer (some ⟨p, 0, none⟩), .int .i64 ((k : Int) - g.old.length)] w fun e w' => ∃ v, e = .returned (.agg #[v, .bool (g.old.getD k noR).wrap]) ∧ Below w.heap.size w w' ∧ OwnC w 0 5 v (g.old.getD k noR).cells.length (cvals (g.old.getD k noR).cells) := by
  obtain ⟨vr, vo, Lr, Lo, h0⟩ := h
  have hBz := Below.alloc (Below.refl w.heap.size w) (Nat.le_refl _) (.cells #[.slice none 0 0, .bool false] 76)
  have h := h0.mod (.of_below hBz) id id id (fun _ => id)
  obtain ⟨c0, c1, c2, c3⟩ := gm_cells h
  have hlen := (rows_len h).2
  have w1 := h.wf.r2
  have w2 := h.wf.ol
  have w3 := h.wf.li
  obtain ⟨b, off, c, rfl, hnc, hcm⟩ := ownC_pos h.ro.own (by omega)
  have hkl : k < Lo.length := by omega
  obtain ⟨r0, r1⟩ := ownC_row2 h.ro.own k hkl
  have hx : (g.old.getD k noR) = Lo[k].2 := by
    rw [← h.eo, List.getD_eq_getElem?_getD, List.getElem?_map, List.getElem?_eq_getElem hkl]; rfl
  have hown := (h0.ca Lo[k] (List.mem_append_right _ (List.getElem_mem hkl))).own
  rw [hx]
  generalize Lo[k] = x at *
  obtain ⟨xv, xr⟩ := x
  dsimp only at r0 r1 hown hx ⊢
  have HO := Lib.hid hown
  obtain ⟨va, vc, rfl⟩ := ownC_sl hown
  have hl := ownC_ln Tryd.underlying68 h.ro.own
  have hix := idx_at (P := Tryd.prog) (size := 2) Tryd.underlying68 row_info b off Lo.length c k hkl
  rw [← hlen]
  rw [← hlen] at w2
  clear h h0 hown hlen
  have hy : (Lo.length : Int) + ((k : Int) - (Lo.length : Int)) = (k : Int) := by omega
  have d1 : decide (0 ≤ (k : Int) - (Lo.length : Int)) = false := decide_eq_false (by omega)
  have d3 : decide ((k : Int) - (Lo.length : Int) < 0) = true := decide_eq_true (by omega)
  have d4 : decide (-(Lo.length : Int) ≤ (k : Int) - (Lo.length : Int)) = true := decide_eq_true (by omega)
  have hwk : IntKind.i64.wrap (k : Int) = (k : Int) := wrap64_id _ (by omega) (by omega)
  have hB := Lib.hid (Below.alloc (Below.refl w.heap.size w) (Nat.le_refl _) (.cells #[.slice va xr.cells.length vc, .bool xr.wrap] 76))
  go_enter Tryd.func44, Tryd.ntmps44
  go_upto_region 4 with fail
  have hbk0 := blk_new w (.cells #[.slice none 0 0, .bool false] 76)
  generalize w.alloc (.cells #[.slice none 0 0, .bool false] 76) = wa at *
  go_still_tail 13, (by kernel_rfl)
  change wpList _ _ _ _ _ wa.drew
  have hbk := blk_drew hbk0
  have hBd := hBz.drew
  generalize hwd : wa.drew = wd at *
  have hst := run_storeVar_row (P := Tryd.prog) wd w.heap.size 76 76 _ #[.slice va xr.cells.length vc, .bool xr.wrap] hbk row_info rfl (by simp [Value.oneCell'])
  have hr2 := setRow_blk (cells := #[.slice va xr.cells.length vc, .bool xr.wrap]) hbk
  have hB3 := Lib.hid (below_row hBd (g := w.heap.size) (Nat.le_refl _) #[.slice va xr.cells.length vc, .bool xr.wrap])
  generalize wd.setRow w.heap.size #[.slice va xr.cells.length vc, .bool xr.wrap] = w3 at *
  go_wp2_with (refine wpList_storeR rfl _ _ _ rfl hst rfl rfl ?_)
  (try simp only [Exit.inBlock, Exit.then])
  exact retRow rfl rfl rfl hr2 Tryd.underlying76 rfl (by exact row_info) ⟨_, rfl, hB3.out, HO.out⟩
theorem row_any {T : Nat → Nat} {p : Nat} {w : World} {g : Gr} (h : GM T p w g) (y : Int) :
    Calls Tryd.prog 44 #[.pointer (some ⟨p, 0, none⟩), .int .i64 y] w fun e w' => ∃ v, e = .returned (.agg #[v, .bool (g.row y).wrap]) ∧ Below w.heap.size w w' ∧ OwnC w 0 5 v (g.row y).cells.length (cvals (g.row y).cells) := by
  by_cases h1 : 0 ≤ y ∧ y < (g.rows.length : Int)
  · obtain ⟨k, rfl⟩ : ∃ k : Nat, y = (k : Int) := ⟨y.toNat, by omega⟩
    have e : g.row k = g.rows.getD k noR := by unfold Gr.row; rw [if_pos h1, Int.toNat_natCast]
    rw [e]
    exact row_some h k (by omega)
  · by_cases h2 : y < 0 ∧ -(g.old.length : Int) ≤ y
    · obtain ⟨k, hk⟩ : ∃ k : Nat, (g.old.length : Int) + y = (k : Int) := ⟨((g.old.length : Int) + y).toNat, by omega⟩
      have e : g.row y = g.old.getD k noR := by unfold Gr.row; rw [if_neg h1, if_pos h2, hk, Int.toNat_natCast]
      rw [e, show y = (k : Int) - g.old.length by omega]
      exact row_old h k (by omega)
    · have e : g.row y = noR := by unfold Gr.row; rw [if_neg h1, if_neg h2]
      rw [e]
      refine (row_none h y ⟨h1, h2⟩).mono ?_
      rintro e w' ⟨rfl, b⟩
      exact ⟨_, rfl, b, ownC_nil _ _ _⟩
theorem own_empty (w : World) (e : TypeId) (size : Nat) : OwnC (w.alloc (.cells #[] e)) w.heap.size size (.slice (some ⟨w.heap.size, 0, none⟩) 0 0) 0 [] :=
  ⟨by simp, .inr ⟨w.heap.size, 0, 0, rfl, Nat.le_refl _, by simp, Nat.le_refl _, Nat.zero_le _, fun j hj => by omega, fun j u hu => by simp at hu⟩⟩
set_option maxRecDepth 100000 in
theorem wrapped_any {T : Nat → Nat} {p : Nat} {w : World} {g : Gr} (h : GM T p w g) (y : Int) :
    Calls Tryd.prog 34 #[.pointer (some ⟨p, 0, none⟩), .int .i64 y] w fun e w' => e = .returned (.bool (g.row y).wrap) ∧ Below w.heap.size w w' := by
  have HR := Lib.hid (row_any h y)
  go_enter Tryd.func34, Tryd.ntmps34
  go_wp2_with fail
  refine HR.out.mono ?_
  rintro e w2 ⟨v, rfl, b2, o2⟩
  have HB := Lib.hid b2
  clear b2
  obtain ⟨va, vc, rfl⟩ := ownC_sl o2
  clear o2
  have hf := row_field1 (.slice va (g.row y).cells.length vc) (.bool (g.row y).wrap)
  go_wp2_with fail
  go_ret
  exact ⟨rfl, HB.out⟩
set_option maxRecDepth 100000 in
theorem cloneC_any (l : List Cel) (v : Value) (w : World) (h : OwnC w 0 5 v l.length (cvals l)) (hl : l.length ≤ 100000) :
    Calls Tryd.prog 47 #[v] w fun e w' => ∃ v', e = .returned v' ∧ Below w.heap.size w w' ∧ OwnC w' w.heap.size 5 v' l.length (cvals l) := by
  rcases Nat.eq_zero_or_pos l.length with h0 | h0
  · have hnil : l = [] := List.eq_nil_of_length_eq_zero h0
    subst hnil
    obtain ⟨va, vc, rfl⟩ := ownC_sl h
    rw [List.length_nil] at h ⊢
    have hq := fun (wx : World) => Lib.run_eql_slice_nil (P := Tryd.prog) wx 51 38 va 0 vc 0 0 Tryd.underlying51
    cases va with
    | none =>
      clear h
      go_enter Tryd.func47, Tryd.ntmps47
      go_wp2_with fail
      exact ret1v rfl rfl rfl ⟨_, rfl, Below.refl _ _, ownC_nil _ _ _⟩
    | some a =>
      have HR := Lib.hid (ownC_reads h)
      clear h
      go_enter Tryd.func47, Tryd.ntmps47
      go_wp2_with (at_builtin; refine held ?_)
      unfold Held
      refine wpList_appC cells_elem rfl rfl w.heap.size (own_empty w 38 5) rfl (reads_kept HR.out (World.grownBy_alloc w _ none) (by intro _ _ e; simp at e)) rfl (cvals_one []) (by decide) (by decide) (by simp) ?_
      intro v6 w6 o6 g6
      have HB6 := Lib.hid ((Below.alloc (Below.refl w.heap.size w) (Nat.le_refl _) (.cells #[] 38)).grown g6 (by simp) (by intro q hq; simp [Value.ownBlock] at hq; omega))
      have HO6 := Lib.hid o6
      clear o6 g6
      go_wp2_with fail
      exact ret1v rfl rfl rfl ⟨_, rfl, HB6.out, HO6.out⟩
  · obtain ⟨b, off, c, rfl, hnc, hcm⟩ := ownC_pos h h0
    have hq := fun (wx : World) => Lib.run_eql_slice_nil (P := Tryd.prog) wx 51 38 (some ⟨b, off, none⟩) l.length c 0 0 Tryd.underlying51
    have HR := Lib.hid (ownC_reads h)
    clear h
    go_enter Tryd.func47, Tryd.ntmps47
    go_wp2_with (at_builtin; refine held ?_)
    unfold Held
    refine wpList_appC cells_elem rfl rfl w.heap.size (own_empty w 38 5) rfl (reads_kept HR.out (World.grownBy_alloc w _ none) (by intro _ _ e; simp at e)) rfl (cvals_one l) (by unfold maxLen; omega) (by omega) (by simp) ?_
    intro v6 w6 o6 g6
    rw [Nat.zero_add, List.nil_append] at o6
    have HB6 := Lib.hid ((Below.alloc (Below.refl w.heap.size w) (Nat.le_refl _) (.cells #[] 38)).grown g6 (by simp) (by intro q hq; simp [Value.ownBlock] at hq; omega))
    have HO6 := Lib.hid o6
    clear o6 g6
    go_wp2_with fail
    exact ret1v rfl rfl rfl ⟨_, rfl, HB6.out, HO6.out⟩
theorem line_any {T : Nat → Nat} {p : Nat} {w : World} {g : Gr} (h : GM T p w g) (y : Int) (hl : (g.row y).cells.length ≤ 1000) :
    Calls Tryd.prog 23 #[.pointer (some ⟨p, 0, none⟩), .int .i64 y] w fun e w' => ∃ v, e = .returned v ∧ Below w.heap.size w w' ∧ OwnC w' w.heap.size 5 v (g.row y).cells.length (cvals (g.row y).cells) := by
  have HR := Lib.hid (row_any h y)
  go_enter Tryd.func23, Tryd.ntmps23
  go_wp2_with fail
  refine HR.out.mono ?_
  rintro e w2 ⟨v, rfl, b2, o2⟩
  have HB := Lib.hid b2
  have HC := Lib.hid (cloneC_any (g.row y).cells v w2 (ownC_below o2 b2) (by omega))
  clear b2
  obtain ⟨va, vc, rfl⟩ := ownC_sl o2
  clear o2
  have hf := row_field0 (.slice va (g.row y).cells.length vc) (.bool (g.row y).wrap)
  go_wp2_with fail
  refine HC.out.mono ?_
  rintro e w3 ⟨v3, rfl, b3, o3⟩
  have HB3 := Lib.hid (HB.out.trans (b3.mono HB.out.size))
  have HO3 := Lib.hid (ownC_mono o3 HB.out.size)
  clear b3 o3
  go_wp2_with fail
  exact ret1v rfl rfl rfl ⟨_, rfl, HB3.out, HO3.out⟩
theorem wf_row {g : Gr} (h : g.WF) (y : Int) : (g.row y).cells.length ≤ 250 ∧ ∀ c ∈ (g.row y).cells, c.Ok := by
  have key : ∀ r, r ∈ g.rows ++ g.old → r.cells.length ≤ 250 ∧ ∀ c ∈ r.cells, c.Ok := fun r hr => by
    obtain ⟨e1, e2⟩ := h.ce r hr
    have := h.c2
    exact ⟨by omega, e2⟩
  have hget : ∀ (l : List Rw) (k : Nat), k < l.length → l.getD k noR ∈ l := fun l k hk => by
    rw [List.getD_eq_getElem?_getD, List.getElem?_eq_getElem hk]; exact List.getElem_mem hk
  unfold Gr.row
  split
  · exact key _ (List.mem_append_left _ (hget _ _ (by omega)))
  · split
    · exact key _ (List.mem_append_right _ (hget _ _ (by omega)))
    · exact ⟨by show 0 ≤ 250; omega, fun c hc => by simp [noR] at hc⟩
set_option maxRecDepth 100000 in
theorem cell_any {T : Nat → Nat} {p : Nat} {w : World} {g : Gr} (h : GM T p w g) (x y : Int) :
    Calls Tryd.prog 18 #[.pointer (some ⟨p, 0, none⟩), .int .i64 x, .int .i64 y] w fun e w' => e = .returned (g.cell x y).val ∧ Below w.heap.size w w' := by
  have hBz := Below.alloc (Below.refl w.heap.size w) (Nat.le_refl _) (.cells #[.int .i32 0, .int .i64 0, .int .i64 0, .int .i64 0, .int .i64 0] 38)
  have hbk0 := blk_new w (.cells #[.int .i32 0, .int .i64 0, .int .i64 0, .int .i64 0, .int .i64 0] 38)
  have hlen := (wf_row h.wf y).1
  have HR := Lib.hid (row_any (h.below hBz) y)
  have HC := Lib.hid (show g.cell x y = if 0 ≤ x ∧ x < ((g.row y).cells.length : Int) then (g.row y).cells.getD x.toNat noC else noC from rfl)
  generalize g.row y = r at *
  generalize g.cell x y = cc at *
  unfold Cel.val
  go_enter Tryd.func18, Tryd.ntmps18
  go_wp2_with fail
  refine HR.out.mono ?_
  rintro e w2 ⟨v, rfl, b2, o2⟩
  have hbk := blk_below hbk0 b2 (by simp)
  have HB := Lib.hid (hBz.trans (b2.mono (by simp)))
  have o2' := ownC_below o2 b2
  clear b2 o2 hBz hbk0
  obtain ⟨va, vc, rfl⟩ := ownC_sl o2'
  have hf := row_field0 (.slice va r.cells.length vc) (.bool r.wrap)
  by_cases h0 : 0 ≤ x ∧ x < (r.cells.length : Int)
  · obtain ⟨k, rfl⟩ : ∃ k : Nat, x = (k : Int) := ⟨x.toNat, by omega⟩
    have e := HC.out
    rw [if_pos h0, Int.toNat_natCast] at e
    obtain ⟨b, off, c, e2, hnc, hcm⟩ := ownC_pos o2' (by omega)
    simp only [Value.slice.injEq] at e2
    obtain ⟨rfl, _, rfl⟩ := e2
    obtain ⟨c0, c1, c2, c3, c4⟩ := ownC_cel o2' k (by omega) rfl
    have hix := idx_at (P := Tryd.prog) (size := 5) Tryd.underlying51 cell_info b off r.cells.length vc k (by omega)
    rw [← e] at c0 c1 c2 c3 c4
    obtain ⟨cr, cw, cs⟩ := cc
    dsimp only at c0 c1 c2 c3 c4 ⊢
    have d1 : decide (0 ≤ (k : Int)) = true := decide_eq_true (by omega)
    have d2 : decide ((k : Int) < (r.cells.length : Int)) = true := decide_eq_true (by omega)
    have d2' : decide (k < r.cells.length) = true := decide_eq_true (by omega)
    have hst := run_storeVar_row (P := Tryd.prog) w2 w.heap.size 38 38 _ #[.int .i32 cr, .int .i64 cw, .int .i64 cs.fg, .int .i64 cs.bg, .int .i64 cs.attr] hbk cell_info rfl (by simp [Value.oneCell'])
    have hr2 := setRow_blk (cells := #[.int .i32 cr, .int .i64 cw, .int .i64 cs.fg, .int .i64 cs.bg, .int .i64 cs.attr]) hbk
    have hB3 := Lib.hid (below_row HB.out (g := w.heap.size) (Nat.le_refl _) #[.int .i32 cr, .int .i64 cw, .int .i64 cs.fg, .int .i64 cs.bg, .int .i64 cs.attr])
    clear o2' e
    generalize w2.setRow w.heap.size #[.int .i32 cr, .int .i64 cw, .int .i64 cs.fg, .int .i64 cs.bg, .int .i64 cs.attr] = w3 at *
    go_wp2_with (refine wpList_storeR rfl _ _ _ rfl hst rfl rfl ?_)
    (try simp only [Exit.inBlock, Exit.then])
    exact retRow rfl rfl rfl hr2 Tryd.underlying38 rfl (by exact cell_info) ⟨rfl, hB3.out⟩
  · have e := HC.out
    rw [if_neg h0] at e
    subst e
    have hst := run_storeVar_row (P := Tryd.prog) w2 w.heap.size 38 38 _ #[.int .i32 0, .int .i64 0, .int .i64 0, .int .i64 0, .int .i64 0] hbk cell_info rfl (by simp [Value.oneCell'])
    have hr2 := setRow_blk (cells := #[.int .i32 0, .int .i64 0, .int .i64 0, .int .i64 0, .int .i64 0]) hbk
    have hB3 := Lib.hid (below_row HB.out (g := w.heap.size) (Nat.le_refl _) #[.int .i32 0, .int .i64 0, .int .i64 0, .int .i64 0, .int .i64 0])
    clear o2'
    generalize w2.setRow w.heap.size #[.int .i32 0, .int .i64 0, .int .i64 0, .int .i64 0, .int .i64 0] = w3 at *
    by_cases h1 : 0 ≤ x
    · have d1 : decide (0 ≤ x) = true := decide_eq_true h1
      have d2 : decide (x < (r.cells.length : Int)) = false := decide_eq_false (by omega)
      go_wp2_with (refine wpList_storeR rfl _ _ _ rfl hst rfl rfl ?_)
      (try simp only [Exit.inBlock, Exit.then])
      exact retRow rfl rfl rfl hr2 Tryd.underlying38 rfl (by exact cell_info) ⟨rfl, hB3.out⟩
    · have d1 : decide (0 ≤ x) = false := decide_eq_false h1
      go_wp2_with (refine wpList_storeR rfl _ _ _ rfl hst rfl rfl ?_)
      (try simp only [Exit.inBlock, Exit.then])
      exact retRow rfl rfl rfl hr2 Tryd.underlying38 rfl (by exact cell_info) ⟨rfl, hB3.out⟩
end Go.Proofs.YtjclgoiclbkgjaaDoor

/- Walks of package grid: Text; strings.Builder's WriteRune. -/
namespace Go.Proofs.YtjclgoiclbkgjaaDoor
open Go.RowKit

theorem bld_info : (Tryd.prog.info? 88).map (·.size) = some 2 := by kernel_rfl
theorem bld_lies : liesAt Tryd.prog Tryd.prog.depth 88 (2 / Tryd.prog.cellsOf 88) 0 88 1 = true := by kernel_rfl
set_option maxHeartbeats 1000000 in
set_option maxRecDepth 100000 in
theorem check_used (b : Nat) (w : World) (h0 : w.cell? ⟨b, 0, none⟩ = some (.pointer (some ⟨b, 0, none⟩))) :
    Calls Tryd.prog 59 #[.pointer (some ⟨b, 0, none⟩)] w fun e w' => e = .returned (.tuple #[]) ∧ w' = w := by
  obtain ⟨j, hj, _⟩ := Option.map_eq_some_iff.1 bld_info
  have hne := fun (wx : World) => Lib.run_neq_ptr_same (P := Tryd.prog) (w := wx) ⟨b, 0, none⟩ Tryd.underlying85 hj
  go_enter Tryd.func59, Tryd.ntmps59
  go_wp2_with fail
  go_end0
  exact ⟨rfl, rfl⟩
set_option maxHeartbeats 1000000 in
set_option maxRecDepth 100000 in
theorem check_fresh (b : Nat) (w : World) (h0 : w.cell? ⟨b, 0, none⟩ = some (.pointer none)) (hsh : w.shape? b = some (88, 2)) (hfz : w.frozen? ⟨b, 0, none⟩ = false) :
    Calls Tryd.prog 59 #[.pointer (some ⟨b, 0, none⟩)] w fun e w' => e = .returned (.tuple #[]) ∧ w' = w.setCell ⟨b, 0, none⟩ (.pointer (some ⟨b, 0, none⟩)) := by
  obtain ⟨j, hj, hjs⟩ := Option.map_eq_some_iff.1 bld_info
  have hto := Lib.run_to_unsafe (P := Tryd.prog) w ⟨b, 0, none⟩ Tryd.underlying85 Tryd.underlying109 hj (by rw [hjs]; decide) hsh (Nat.zero_lt_succ 1)
  have hfr := Lib.run_from_unsafe (P := Tryd.prog) w ⟨b, 0, none⟩ Tryd.underlying109 Tryd.underlying85 hj hsh bld_lies
  go_enter Tryd.func59, Tryd.ntmps59
  go_wp2_with fail
  rw [run_callFunc_extern Tryd.func64 (by kernel_rfl) (by kernel_rfl) (by kernel_rfl) (e := Extern.AbiNoEscape.same) (by kernel_rfl)]
  rw [Lib.run_noEscape]
  simp only [Result.andThen]
  rw [Oper.upon_value]
  go_wp2_with fail
  go_end0
  exact ⟨rfl, rfl⟩
theorem check_any (B b : Nat) (bs : List Value) (w : World) (h : Lib.IsBuilderF 88 5 B b bs w) :
    Calls Tryd.prog 59 #[.pointer (some ⟨b, 0, none⟩)] w fun e w' => e = .returned (.tuple #[]) ∧ Lib.BuilderAtF 88 5 B b (.pointer (some ⟨b, 0, none⟩)) bs w' ∧ Below B w w' := by
  rcases h with h | h
  · refine (check_fresh b w h.cell0 h.shape h.frozen0).mono ?_
    rintro e w' ⟨rfl, rfl⟩
    exact ⟨rfl, h.used _, (Below.refl B w).setCell (p := ⟨b, 0, none⟩) h.1 _⟩
  · refine (check_used b w h.cell0).mono ?_
    rintro e w' ⟨rfl, rfl⟩
    exact ⟨rfl, h, Below.refl B _⟩
set_option maxHeartbeats 2000000 in
set_option maxRecDepth 100000 in
theorem writeRune_any (B b : Nat) (bs : List Value) (r : Int) (hr0 : -2147483648 ≤ r) (hr1 : r ≤ 2147483647) (w : World) (h : Lib.IsBuilderF 88 5 B b bs w) (hlen : bs.length + 4 ≤ 140737488355328) (hBw : B ≤ w.heap.size) :
    Calls Tryd.prog 48 #[.pointer (some ⟨b, 0, none⟩), .int .i32 r] w fun e w' => (∃ n, e = .returned (.tuple #[.int .i64 n, .nilIface])) ∧ Lib.IsBuilderF 88 5 B b (bs ++ Lib.runeCells r) w' ∧ Below B w w' := by
  have hk4 := Lib.runeCells_le r
  have HC := Lib.hid (check_any B b bs w h)
  clear h
  go_enter Tryd.func48, Tryd.ntmps48
  go_wp2_with fail
  refine HC.out.mono ?_
  rintro e w1 ⟨rfl, h1, hb1⟩
  obtain ⟨hB, v, hbk, hown, hne⟩ := h1
  obtain ⟨ao, cap, rfl⟩ : ∃ ao cap, v = .slice ao bs.length cap := by
    rcases hown.2 with ⟨hv, h0⟩ | ⟨g, cap, cur, fz, hv, _⟩
    · exact ⟨none, 0, by rw [hv, h0]⟩
    · exact ⟨_, _, hv⟩
  have c0 : w1.cell? ⟨b, 0, none⟩ = some (.pointer (some ⟨b, 0, none⟩)) := blk_cell hbk 0
  have c1 : w1.cell? ⟨b, 1, none⟩ = some (.slice ao bs.length cap) := blk_cell hbk 1
  have HA := Lib.hid (Tryd.utf8_AppendRune_row B _ bs.length bs r hr0 hr1 w1 hown hlen (by have := hb1.size; omega))
  go_wp2_with fail
  refine HA.out.mono ?_
  rintro e w2 ⟨v', rfl, hown', o, hgrow⟩
  have hlt := heap_lt hbk
  have hb2 : w2.heap[b]? = some (.cells #[.pointer (some ⟨b, 0, none⟩), .slice ao bs.length cap] 88 (0, 0)) := by
    rw [hgrow.block b (by simp; omega) (fun e => hne e.symm), heap_alloc_old w1 _ hlt]
    exact hbk
  have d0 : w2.cell? ⟨b, 0, none⟩ = some (.pointer (some ⟨b, 0, none⟩)) := blk_cell hb2 0
  have d1 : w2.cell? ⟨b, 1, none⟩ = some (.slice ao bs.length cap) := blk_cell hb2 1
  have f1 : w2.frozen? ⟨b, 1, none⟩ = false := blk_free hb2 1
  obtain ⟨g, cap', rfl⟩ : ∃ g cap', v' = .slice (some ⟨g, 0, none⟩) (bs.length + (Lib.runeCells r).length) cap' := by
    rcases hown'.2 with ⟨_, h0⟩ | ⟨g, cap', cur, fz, hv, _⟩
    · omega
    · exact ⟨g, cap', hv⟩
  have HP := Lib.hid (Lib.BuilderAtF.put (T := 88) (e := 5) hB hb2 (bs' := bs ++ Lib.runeCells r) (by simpa using hown') (by decide))
  have HB := Lib.hid (((hb1.alloc (by have := hb1.size; omega) o).grown hgrow (by have := hb1.size; simp; omega) (fun k hk => (hown.lt k hk).1)).setCell (p := ⟨b, 1, none⟩) hB (.slice (some ⟨g, 0, none⟩) (bs.length + (Lib.runeCells r).length) cap'))
  clear HC HA hown hown' hgrow hb1 hbk
  generalize hw3 : w2.setCell ⟨b, 1, none⟩ (.slice (some ⟨g, 0, none⟩) (bs.length + (Lib.runeCells r).length) cap') = w3 at *
  have e1 : w3.cell? ⟨b, 1, none⟩ = some (.slice (some ⟨g, 0, none⟩) (bs.length + (Lib.runeCells r).length) cap') := by
    rw [← hw3]; exact World.cell?_setCell_same' w2 _ _ (by rw [d1]; rfl)
  go_wp2_with fail
  refine ret2w rfl rfl rfl rfl ⟨⟨_, rfl⟩, .inr HP.out, HB.out⟩
end Go.Proofs.YtjclgoiclbkgjaaDoor
