/- Walks of package grid: fresh. -/
import Derived.Test.YtjclgoiclbkgjaaDoorG2
namespace Go.Proofs.YtjclgoiclbkgjaaDoor
open Go.RowKit

def rowVals (L : List (Value × Rw)) : List Value := L.flatMap fun x => [x.1, .bool x.2.wrap]
theorem rowVals_len (L : List (Value × Rw)) : (rowVals L).length = L.length * 2 := by
  induction L with
  | nil => rfl
  | cons x L ih =>
    simp only [rowVals, List.flatMap_cons, List.length_append, List.length_cons, List.length_nil] at ih ⊢
    omega
theorem rowVals_append (L M : List (Value × Rw)) : rowVals (L ++ M) = rowVals L ++ rowVals M := by simp [rowVals]
theorem rowVals_take (l : List (Value × Rw)) (x : Nat) : (rowVals l).take (x * 2) = rowVals (l.take x) := by
  induction l generalizing x with
  | nil => simp [rowVals]
  | cons c l ih =>
    cases x with
    | zero => simp [rowVals]
    | succ x =>
      have e : rowVals (c :: l) = [c.1, .bool c.2.wrap] ++ rowVals l := rfl
      have e2 : rowVals ((c :: l).take (x + 1)) = [c.1, .bool c.2.wrap] ++ rowVals (l.take x) := rfl
      rw [e, e2, List.take_append, ← ih x]
      rw [List.take_of_length_le (by simp; omega), show (x + 1) * 2 - [c.1, Value.bool c.2.wrap].length = x * 2 by simp; omega]
theorem rowVals_drop (l : List (Value × Rw)) (x : Nat) : (rowVals l).drop (x * 2) = rowVals (l.drop x) := by
  induction l generalizing x with
  | nil => simp [rowVals]
  | cons c l ih =>
    cases x with
    | zero => simp [rowVals]
    | succ x =>
      have e : rowVals (c :: l) = [c.1, .bool c.2.wrap] ++ rowVals l := rfl
      rw [e, List.drop_append, show (c :: l).drop (x + 1) = l.drop x from rfl, ← ih x]
      rw [List.drop_eq_nil_of_le (by simp; omega), show (x + 1) * 2 - [c.1, Value.bool c.2.wrap].length = x * 2 by simp; omega, List.nil_append]
theorem rowVals_put (l : List (Value × Rw)) (x : Nat) (m : List (Value × Rw)) : rowVals (putAt l x m) = putAt (rowVals l) (x * 2) (rowVals m) := by
  unfold putAt
  rw [rowVals_append, rowVals_append, ← rowVals_take, ← rowVals_drop, rowVals_len, Nat.add_mul]
theorem putAt_mid {α : Type} (A B : List α) (x y : α) (n : Nat) (hn : n = A.length) : putAt (A ++ x :: B) n [y] = A ++ y :: B := by
  subst hn
  unfold putAt
  simp
/-- Rows that lie in memory: each with its slice of cells; the blocks are apart. -/
structure RowsAt (base : Nat) (w : World) (v : Value) (L : List (Value × Rw)) : Prop where
  own : OwnC w base 2 v L.length (rowVals L)
  cells : ∀ x ∈ L, OwnC w base 5 x.1 x.2.cells.length (cvals x.2.cells)
  nd : (L.map (·.1.ownBlock)).Nodup
  ap : ∀ x ∈ L, ∃ q, x.1.ownBlock = some q ∧ v.ownBlock ≠ some q
theorem make_full {P : Program} {t e : TypeId} {size bytes : Nat} {z : Value} (EI : Elem P t e size bytes z) (n : Nat) (hn : n ≤ 100000) (hs : size ≤ 100) (hb : bytes ≤ 1000) (w : World) :
    ∃ w', (Instr.makeSlice t (.int .i64 (n : Int)) (.int .i64 (n : Int))).run P w = .ok (.slice (some ⟨w.heap.size, 0, none⟩) n n) w' ∧
      OwnC w' w.heap.size size (.slice (some ⟨w.heap.size, 0, none⟩) n n) n (madeCells z.cells (n * size)).toList ∧ Below w.heap.size w w' ∧ w.heap.size < w'.heap.size := by
  obtain ⟨h1, h2, h3⟩ := EI
  obtain ⟨i, hi, he⟩ := Option.map_eq_some_iff.1 h2
  simp only [Prod.mk.injEq] at he
  obtain ⟨hz, hsz, hby⟩ := he
  have hnb : i.bytes * n ≤ 281474976710656 := by
    have h : i.bytes * n ≤ 1000 * 100000 := Nat.mul_le_mul (by omega) hn
    omega
  have hcs : n * size ≤ 16777216 := by
    have h : n * size ≤ 100000 * 100 := Nat.mul_le_mul hn hs
    omega
  obtain ⟨w', hr, ho, hg⟩ := run_makeSlice_full (P := P) w w.heap.size t e i z size h1 hi hz hsz .i64 .i64 n hcs hnb (by unfold maxLen; omega) (Nat.le_refl _)
  refine ⟨w', hr, ownC_own ho, below_of_gb hg (Nat.le_refl _) (fun q hq => by simp at hq), ?_⟩
  have := ownC_lt (ownC_own ho) w.heap.size rfl
  omega
theorem cells_elem : Elem Tryd.prog 51 38 5 40 (.agg #[.int .i32 0, .int .i64 0, .int .i64 0, .int .i64 0, .int .i64 0]) := ⟨Tryd.underlying51, by kernel_rfl, rfl, by decide⟩
theorem rows_elem : Elem Tryd.prog 68 76 2 32 (.agg #[.slice none 0 0, .bool false]) := ⟨Tryd.underlying68, by kernel_rfl, rfl, by decide⟩
theorem made_cells (n : Nat) : (madeCells (Value.agg #[.int .i32 0, .int .i64 0, .int .i64 0, .int .i64 0, .int .i64 0]).cells (n * 5)).toList = cvals (List.replicate n noC) := by
  apply List.ext_getElem?
  intro j
  by_cases hj : j < n * 5
  · have e : j = (j / 5) * 5 + j % 5 := by omega
    have h5 : j % 5 < 5 := Nat.mod_lt _ (by decide)
    have hl : (madeCells (Value.agg #[.int .i32 0, .int .i64 0, .int .i64 0, .int .i64 0, .int .i64 0]).cells (n * 5)).toList[j]? = some ((#[.int .i32 0, .int .i64 0, .int .i64 0, .int .i64 0, .int .i64 0] : Array Value)[j % 5]!) := by
      unfold madeCells
      rw [Array.getElem?_toList, Array.getElem?_map, Array.getElem?_eq_getElem (by simpa using hj), Array.getElem_range]
      rfl
    rw [hl]
    conv => rhs; rw [e]
    rw [cvals_at _ _ (by rw [List.length_replicate]; omega) _ h5, List.getD_eq_getElem?_getD, List.getElem?_replicate, if_pos (by omega)]
    have hc : j % 5 = 0 ∨ j % 5 = 1 ∨ j % 5 = 2 ∨ j % 5 = 3 ∨ j % 5 = 4 := by omega
    rcases hc with h | h | h | h | h <;> rw [h] <;> rfl
  · rw [List.getElem?_eq_none (by rw [Array.length_toList, size_madeCells]; omega), List.getElem?_eq_none (by rw [cvals_len, List.length_replicate]; omega)]
theorem rowVals_at (l : List (Value × Rw)) (x : Nat) (h : x < l.length) (i : Nat) (hi : i < 2) : (rowVals l)[x * 2 + i]? = [(l[x]).1, .bool (l[x]).2.wrap][i]? := by
  induction l generalizing x with
  | nil => simp at h
  | cons c l ih =>
    have e : rowVals (c :: l) = [c.1, .bool c.2.wrap] ++ rowVals l := rfl
    cases x with
    | zero => rw [e, List.getElem?_append_left (by simp; omega)]; simp
    | succ x =>
      rw [e, List.getElem?_append_right (by simp; omega), show (x + 1) * 2 + i - [c.1, Value.bool c.2.wrap].length = x * 2 + i by simp; omega, ih x (by simpa using h)]
      rfl
theorem made_rows (n : Nat) : (madeCells (Value.agg #[.slice none 0 0, .bool false]).cells (n * 2)).toList = rowVals (List.replicate n (.slice none 0 0, noR)) := by
  apply List.ext_getElem?
  intro j
  by_cases hj : j < n * 2
  · have e : j = (j / 2) * 2 + j % 2 := by omega
    have h5 : j % 2 < 2 := Nat.mod_lt _ (by decide)
    have hl : (madeCells (Value.agg #[.slice none 0 0, .bool false]).cells (n * 2)).toList[j]? = some ((#[.slice none 0 0, .bool false] : Array Value)[j % 2]!) := by
      unfold madeCells
      rw [Array.getElem?_toList, Array.getElem?_map, Array.getElem?_eq_getElem (by simpa using hj), Array.getElem_range]
      rfl
    rw [hl]
    conv => rhs; rw [e]
    rw [rowVals_at _ _ (by rw [List.length_replicate]; omega) _ h5, List.getElem_replicate]
    have hc : j % 2 = 0 ∨ j % 2 = 1 := by omega
    rcases hc with h | h <;> rw [h] <;> rfl
  · rw [List.getElem?_eq_none (by rw [Array.length_toList, size_madeCells]; omega), List.getElem?_eq_none (by rw [rowVals_len, List.length_replicate]; omega)]
theorem fill_all (cols : Nat) (s : Sty) (c : Cel) : fillL (List.replicate cols c) 0 cols s = List.replicate cols (blankC s) := by
  unfold fillL putAt
  simp
set_option maxRecDepth 100000 in
set_option maxHeartbeats 4000000 in
theorem fresh_any (n cols : Nat) (s : Sty) (w : World) (hn : n ≤ 10000) (hc : cols ≤ 1000) :
    Calls Tryd.prog 36 #[.int .i64 n, .int .i64 cols, s.val] w fun e w' => ∃ v L, e = .returned v ∧ Below w.heap.size w w' ∧ L.map (·.2) = freshL n cols s ∧ RowsAt w.heap.size w' v L := by
  have hb0 := blk_new w (.cells #[.int .i64 s.fg, .int .i64 s.bg, .int .i64 s.attr] 33)
  have hB0 := (Below.refl w.heap.size w).alloc (Nat.le_refl _) (.cells #[.int .i64 s.fg, .int .i64 s.bg, .int .i64 s.attr] 33)
  obtain ⟨w1, hmk, ho1, b1, hs1⟩ := make_full rows_elem n (by omega) (by omega) (by omega) (w.alloc (.cells #[.int .i64 s.fg, .int .i64 s.bg, .int .i64 s.attr] 33))
  rw [made_rows] at ho1
  have hsz0 : (w.alloc (.cells #[.int .i64 s.fg, .int .i64 s.bg, .int .i64 s.attr] 33)).heap.size = w.heap.size + 1 := by simp
  rw [hsz0] at hmk ho1 hs1
  have HO1 := Lib.hid (ownC_mono ho1 (show w.heap.size ≤ w.heap.size + 1 by omega))
  have HK1 := Lib.hid (blk_below hb0 b1 (by rw [hsz0]; omega))
  have HB1 := Lib.hid (hB0.trans (b1.mono (by rw [hsz0]; omega)))
  clear ho1 b1 hb0 hB0
  go_enter Tryd.func36, Tryd.ntmps36
  unfold Sty.val
  go_wp2_with fail
  go_loopw [8, 13] (fun _ iv wr => ∃ (k : Nat) (L : List (Value × Rw)), k ≤ n ∧ iv = .int .i64 k ∧ L.length = k ∧ Below w.heap.size w wr ∧ wr.heap[w.heap.size]? = some (.cells #[.int .i64 s.fg, .int .i64 s.bg, .int .i64 s.attr] 33 (0, 0)) ∧ w.heap.size + 1 < wr.heap.size ∧
    OwnC wr w.heap.size 2 (.slice (some ⟨w.heap.size + 1, 0, none⟩) n n) n (rowVals (L ++ List.replicate (n - k) (.slice none 0 0, noR))) ∧
    Hid ((∀ x ∈ L, x.2 = ⟨List.replicate cols (blankC s), false⟩ ∧ OwnC wr w.heap.size 5 x.1 cols (cvals (List.replicate cols (blankC s))) ∧ ∃ q, x.1.ownBlock = some q ∧ w.heap.size + 1 < q) ∧ (L.map (·.1.ownBlock)).Nodup)) (fun _ iv _ => n - (intOf iv).toNat)
  case atStart =>
    exact ⟨0, [], Nat.zero_le _, rfl, rfl, HB1.out, HK1.out, hs1, HO1.out, fun x hx => by simp at hx, by simp⟩
  case round =>
    obtain ⟨k, L, hk, rfl, hL, hb, hblk, hsz, ho, hcs⟩ := hrel
    have HB := Lib.hid hb
    have HO := Lib.hid ho
    have HCS := Lib.hid hcs
    have HK := Lib.hid hblk
    clear hb ho hblk hcs
    by_cases hlt : k < n
    · obtain ⟨w2, hmk2, ho2, b2, hs2⟩ := make_full cells_elem cols (by omega) (by omega) (by omega) wr
      rw [made_cells] at ho2
      have hix := idx_at (P := Tryd.prog) (size := 2) Tryd.underlying68 row_info (w.heap.size + 1) 0 n n k hlt
      simp only [Nat.zero_add] at hix
      have HO2 := ownC_below HO.out b2
      have hsp : rowVals (L ++ List.replicate (n - k) (.slice none 0 0, noR)) = rowVals L ++ .slice none 0 0 :: (.bool false :: rowVals (List.replicate (n - (k + 1)) (.slice none 0 0, noR))) := by
        rw [rowVals_append, show n - k = (n - (k + 1)) + 1 by omega, List.replicate_succ]
        rfl
      have hcell : w2.cell? ⟨w.heap.size + 1, k * 2, none⟩ = some (.slice none 0 0) ∧ w2.frozen? ⟨w.heap.size + 1, k * 2, none⟩ = false := by
        rcases HO2.2 with ⟨e, _⟩ | ⟨b', off', c', e, _, _, hnc, _, hcells, hxs⟩
        · simp at e
        · simp only [Value.slice.injEq, Option.some.injEq, Addr.mk.injEq] at e
          obtain ⟨⟨rfl, rfl, _⟩, _, rfl⟩ := e
          have a1 := hxs (k * 2) _ (by rw [hsp, List.getElem?_append_right (by rw [rowVals_len, hL]; omega), rowVals_len, hL, Nat.sub_self]; rfl)
          have a2 := (hcells (k * 2) (by omega)).2
          rw [Nat.zero_add] at a1 a2
          exact ⟨a1, a2⟩
      obtain ⟨hc2, hf2⟩ := hcell
      have HP := ownC_put HO2 (k * 2) [.slice (some ⟨wr.heap.size, 0, none⟩) cols cols] (by simp; omega)
      rw [hsp, putAt_mid _ _ _ _ _ (by rw [rowVals_len, hL]), Nat.zero_add] at HP
      change OwnC (w2.setCell ⟨w.heap.size + 1, k * 2, none⟩ (.slice (some ⟨wr.heap.size, 0, none⟩) cols cols)) _ _ _ _ _ at HP
      have hs3 : (w2.setCell ⟨w.heap.size + 1, k * 2, none⟩ (.slice (some ⟨wr.heap.size, 0, none⟩) cols cols)).heap.size = w2.heap.size := by simp
      have G3 : w2.grownBy (w2.setCell ⟨w.heap.size + 1, k * 2, none⟩ (.slice (some ⟨wr.heap.size, 0, none⟩) cols cols)) (some (w.heap.size + 1)) := gb_set (gb_refl _ _) _ _
      have hc3 : (w2.setCell ⟨w.heap.size + 1, k * 2, none⟩ (.slice (some ⟨wr.heap.size, 0, none⟩) cols cols)).cell? ⟨w.heap.size + 1, k * 2, none⟩ = some (.slice (some ⟨wr.heap.size, 0, none⟩) cols cols) :=
        World.cell?_setCell_same' w2 _ _ (by rw [hc2]; rfl)
      have HO3 := Lib.hid HP
      have HF3 := Lib.hid (ownC_grown ho2 G3 (by intro q hq e; simp [Value.ownBlock] at hq; injection e with e; omega))
      have hk3 := blk_grown (blk_below HK.out b2 (by omega)) G3 (by intro e; injection e with e; omega)
      have HB3 := Lib.hid ((HB.out.trans (b2.mono HB.out.size)).grown G3 (by have := HB.out.size; have := b2.size; omega) (by intro q hq; injection hq with hq; omega))
      have HCS3 := Lib.hid (show (∀ x ∈ L, x.2 = ⟨List.replicate cols (blankC s), false⟩ ∧ OwnC (w2.setCell ⟨w.heap.size + 1, k * 2, none⟩ (.slice (some ⟨wr.heap.size, 0, none⟩) cols cols)) w.heap.size 5 x.1 cols (cvals (List.replicate cols (blankC s))) ∧ ∃ q, x.1.ownBlock = some q ∧ w.heap.size + 1 < q ∧ q < wr.heap.size) ∧ (L.map (·.1.ownBlock)).Nodup from
        ⟨fun x hx => by
          obtain ⟨e1, e2, q, e3, e4⟩ := HCS.out.1 x hx
          exact ⟨e1, ownC_grown (ownC_below e2 b2) G3 (by intro q' hq' e; rw [e3] at hq'; injection hq' with hq'; injection e with e; omega), q, e3, e4, (ownC_lt e2 q e3).2⟩, HCS.out.2⟩)
      clear HP ho2 HO2 G3
      have hs2' := b2.size
      go_upto_region 6 with fail
      generalize hw3 : w2.setCell ⟨w.heap.size + 1, k * 2, none⟩ (.slice (some ⟨wr.heap.size, 0, none⟩) cols cols) = w3 at *
      have c0 := blk_cell hk3 0
      have c1 := blk_cell hk3 1
      have c2 := blk_cell hk3 2
      replace c0 : w3.cell? ⟨w.heap.size, 0, none⟩ = some (.int .i64 s.fg) := c0
      replace c1 : w3.cell? ⟨w.heap.size, 1, none⟩ = some (.int .i64 s.bg) := c1
      replace c2 : w3.cell? ⟨w.heap.size, 2, none⟩ = some (.int .i64 s.attr) := c2
      go_still_tail 6, (by kernel_rfl)
      change wpList _ _ _ _ _ w3.drew
      have hFd := ownC_mono (show OwnC w3.drew wr.heap.size 5 (.slice (some ⟨wr.heap.size, 0, none⟩) cols cols) cols (cvals (List.replicate cols noC)) from HF3.out) (Nat.zero_le _)
      have hod := show OwnC w3.drew w.heap.size 2 (.slice (some ⟨w.heap.size + 1, 0, none⟩) n n) n _ from HO3.out
      have hkd := blk_drew hk3
      have hbd := HB3.out.drew
      have hcd := show (∀ x ∈ L, x.2 = ⟨List.replicate cols (blankC s), false⟩ ∧ OwnC w3.drew w.heap.size 5 x.1 cols (cvals (List.replicate cols (blankC s))) ∧ ∃ q, x.1.ownBlock = some q ∧ w.heap.size + 1 < q ∧ q < wr.heap.size) ∧ (L.map (·.1.ownBlock)).Nodup from HCS3.out
      have hsd : w3.drew.heap.size = w2.heap.size := hs3
      generalize hwd : w3.drew = wd at *
      have HFL := Lib.hid (fill_any (List.replicate cols noC) s wr.heap.size 0 cols cols 0 cols cols wd hFd (by rw [List.length_replicate]) (by omega) (by unfold maxLen; omega))
      simp only [Nat.zero_mul, Nat.add_zero, fill_all] at HFL
      unfold Sty.val at HFL
      go_wp2_with fail
      refine HFL.out.mono ?_
      rintro e w4 ⟨rfl, g4, o4⟩
      have HO4 := Lib.hid (ownC_grown hod g4 (by intro q hq e; simp [Value.ownBlock] at hq; injection e with e; omega))
      have HK4 := Lib.hid (blk_grown hkd g4 (by intro e; injection e with e; omega))
      have HB4 := Lib.hid (hbd.grown g4 (by have := hbd.size; omega) (by intro q hq; injection hq with hq; omega))
      have hs4 := g4.size
      have hbk : ∀ q, (Value.slice (some ⟨wr.heap.size, 0, none⟩) cols cols).ownBlock = some q → wr.heap.size ≤ q := fun q hq => by
        simp [Value.ownBlock] at hq; omega
      have o4' : OwnC w4 w.heap.size 5 (.slice (some ⟨wr.heap.size, 0, none⟩) cols cols) cols (cvals (List.replicate cols (blankC s))) := by
        refine ⟨o4.1, ?_⟩
        rcases o4.2 with h | ⟨b', off', c', e, h1, h2⟩
        · exact .inl h
        · refine .inr ⟨b', off', c', e, ?_, h2⟩
          have := hbk b' (by rw [e]; rfl)
          omega
      have HCS4 := Lib.hid (show (∀ x ∈ L ++ [((Value.slice (some ⟨wr.heap.size, 0, none⟩) cols cols), (⟨List.replicate cols (blankC s), false⟩ : Rw))], x.2 = ⟨List.replicate cols (blankC s), false⟩ ∧ OwnC w4 w.heap.size 5 x.1 cols (cvals (List.replicate cols (blankC s))) ∧ ∃ q, x.1.ownBlock = some q ∧ w.heap.size + 1 < q) ∧ ((L ++ [((Value.slice (some ⟨wr.heap.size, 0, none⟩) cols cols), (⟨List.replicate cols (blankC s), false⟩ : Rw))]).map (·.1.ownBlock)).Nodup from by
        refine ⟨fun x hx => ?_, ?_⟩
        · rcases List.mem_append.1 hx with hx | hx
          · obtain ⟨e1, e2, q, e3, e4, e5⟩ := hcd.1 x hx
            exact ⟨e1, ownC_grown e2 g4 (by intro q' hq' e; rw [e3] at hq'; injection hq' with hq'; injection e with e; omega), q, e3, e4⟩
          · rw [List.mem_singleton] at hx
            subst hx
            exact ⟨rfl, o4', wr.heap.size, rfl, by omega⟩
        · rw [List.map_append, List.nodup_append]
          refine ⟨hcd.2, by simp, fun a ha b hb => ?_⟩
          obtain ⟨x, hx, rfl⟩ := List.mem_map.1 ha
          obtain ⟨_, _, q, e3, _, e5⟩ := hcd.1 x hx
          simp only [List.map_cons, List.map_nil, List.mem_singleton] at hb
          subst hb
          rw [e3]
          intro e
          simp [Value.ownBlock] at e
          omega)
      clear g4 o4 o4' hcd hod hkd hbd hFd
      have hrow : rowVals L ++ Value.slice (some ⟨wr.heap.size, 0, none⟩) cols cols :: (.bool false :: rowVals (List.replicate (n - (k + 1)) (.slice none 0 0, noR))) = rowVals ((L ++ [((Value.slice (some ⟨wr.heap.size, 0, none⟩) cols cols), (⟨List.replicate cols (blankC s), false⟩ : Rw))]) ++ List.replicate (n - (k + 1)) (.slice none 0 0, noR)) := by
        rw [rowVals_append, rowVals_append]
        simp [rowVals]
      rw [hrow] at HO4
      go_wp2_with fail
      go_roundw
      case rel => exact ⟨k + 1, _, by omega, by go_num, by rw [List.length_append, hL]; rfl, HB4.out, HK4.out, by omega, HO4.out, HCS4.out⟩
      case measure => simp [intOf]; omega
    · have hkn : k = n := by omega
      subst hkn
      go_wp2_with fail
      rw [Nat.sub_self, List.replicate_zero, List.append_nil] at HO
      refine ret1v rfl rfl rfl ⟨_, L, rfl, HB.out, ?_, ?_⟩
      · apply List.ext_getElem?
        intro j
        unfold freshL
        rw [List.getElem?_map, List.getElem?_replicate]
        by_cases hj : j < L.length
        · rw [List.getElem?_eq_getElem hj, if_pos (by omega), Option.map_some, (HCS.out.1 _ (List.getElem_mem hj)).1]
        · rw [List.getElem?_eq_none (by omega), if_neg (by omega)]; rfl
      · refine ⟨by rw [hL]; exact HO.out, fun x hx => ?_, HCS.out.2, fun x hx => ?_⟩
        · obtain ⟨e1, e2, _⟩ := HCS.out.1 x hx
          rw [e1]
          simp only [List.length_replicate]
          exact e2
        · obtain ⟨_, _, q, e3, e4⟩ := HCS.out.1 x hx
          refine ⟨q, e3, fun e => ?_⟩
          simp [Value.ownBlock] at e
          omega
end Go.Proofs.YtjclgoiclbkgjaaDoor
