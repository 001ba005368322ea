/- Package grid, texts laid together: G18 G19 G20 G21. -/
import Derived.Test.YtjclgoiclbkgjaaGreatDoorK7
import Derived.Laws.EntriesVeiled
import Derived.Deep.DeepCutAuto
/- Walks of package grid: plain. -/
namespace Go.Proofs.YtjclgoiclbkgjaaGreatDoor
open Go.RowKit
attribute [local go_sem ↓] Go.wp_at_zero Go.wp_at_succ

/-- Cells that lie in memory. -/
def CellsAt (w : World) (b off : Nat) (l : List Cel) : Prop := ∀ j u, (cvals l)[j]? = some u → w.cell? ⟨b, off + j, none⟩ = some u
theorem cellsAt_own {w : World} {base b off n c : Nat} {l : List Cel} (h : OwnC w base 5 (.slice (some ⟨b, off, none⟩) n c) n (cvals l)) : CellsAt w b off l := by
  intro j u hu
  have hj : j < (cvals l).length := (List.getElem?_eq_some_iff.1 hu).1
  rw [(ownC_cellx h j (by rw [← h.1]; exact hj)).1]; exact hu
theorem CellsAt.below {w w' : World} {b off : Nat} {l : List Cel} (h : CellsAt w b off l) (g : Below w.heap.size w w') : CellsAt w' b off l := fun j u hu => cell_below g (h j u hu)
theorem CellsAt.at {w : World} {b off : Nat} {l : List Cel} (h : CellsAt w b off l) (k : Nat) (hk : k < l.length) {c : Cel} (hc : l.getD k noC = c) :
    w.cell? ⟨b, off + k * 5, none⟩ = some (.int .i32 c.rune) ∧ w.cell? ⟨b, off + k * 5 + 1, none⟩ = some (.int .i64 c.width) ∧ w.cell? ⟨b, off + k * 5 + 2, none⟩ = some (.int .i64 c.sty.fg) ∧
    w.cell? ⟨b, off + k * 5 + 3, none⟩ = some (.int .i64 c.sty.bg) ∧ w.cell? ⟨b, off + k * 5 + 4, none⟩ = some (.int .i64 c.sty.attr) := by
  have key : ∀ i u, i < 5 → c.vals[i]? = some u → w.cell? ⟨b, off + (k * 5 + i), none⟩ = some u := fun i u hi hu => h _ u (by rw [cvals_at l k hk i hi, hc]; exact hu)
  exact ⟨key 0 _ (by decide) rfl, key 1 _ (by decide) rfl, key 2 _ (by decide) rfl, key 3 _ (by decide) rfl, key 4 _ (by decide) rfl⟩
theorem all_snoc (l : List Cel) (k : Nat) (h : k < l.length) : (l.take (k + 1)).all isPlain = ((l.take k).all isPlain && isPlain (l.getD k noC)) := by
  rw [take_succ_getD l noC k h, List.all_append]; simp
set_option maxRecDepth 100000 in
set_option maxHeartbeats 4000000 in
theorem isPlain_any (l : List Cel) (b off c : Nat) (w : World) (h : CellsAt w b off l) (hl : l.length ≤ 1000000) :
    Calls Tryz.prog 81 #[.slice (some ⟨b, off, none⟩) l.length c] w fun e w' => e = .returned (.bool (l.all isPlain)) ∧ Below w.heap.size w w' := by
  have HC := Lib.hid h
  clear h
  go_enter Tryz.func81, Tryz.ntmps81
  go_wp2_with fail
  go_loopw [4, 7] (fun _ iv wr => ∃ k : Nat, k ≤ l.length ∧ iv = .int .i64 k ∧ Hid (Below w.heap.size w wr) ∧ Hid ((l.take k).all isPlain = true)) (fun _ iv _ => l.length - (intOf iv).toNat)
  case atStart => exact ⟨0, Nat.zero_le _, rfl, Below.refl _ _, by simp [Hid]⟩
  case round =>
    obtain ⟨k, hk, rfl, HB, HA⟩ := hrel
    by_cases hlt : k < l.length
    · obtain ⟨q0, q1, q2, q3, q4⟩ := (HC.out.below HB.out).at k hlt rfl
      have hix := idx_at (P := Tryz.prog) (size := 5) Tryz.underlying42 cell_info b off l.length c k hlt
      have HAS := Lib.hid (all_snoc l k hlt)
      have HAL : Hid (isPlain (l.getD k noC) = false → l.all isPlain = false) := fun hf => by
        rw [Bool.eq_false_iff]
        intro ha
        have hm : l.getD k noC ∈ l := by rw [List.getD_eq_getElem?_getD, List.getElem?_eq_getElem hlt]; exact List.getElem_mem _
        rw [(List.all_eq_true.1 ha) _ hm] at hf
        exact absurd hf (by decide)
      have d1 : decide ((k : Int) < (l.length : Int)) = true := decide_eq_true (by omega)
      have d1' : decide (k < l.length) = true := decide_eq_true hlt
      generalize l.getD k noC = cc at *
      obtain ⟨cr, cw, cs⟩ := cc
      obtain ⟨cf, cb, ca⟩ := cs
      dsimp only at q0 q1 q2 q3 q4
      have hq : ∀ wx, (binOp .neq 38 (.agg #[.int .i32 cr, .int .i64 cw, .int .i64 cf, .int .i64 cb, .int .i64 ca]) (blankC plainS).val).run Tryz.prog wx = .ok (.bool (!isPlain ⟨cr, cw, ⟨cf, cb, ca⟩⟩)) wx := fun wx => neq_cel ⟨cr, cw, ⟨cf, cb, ca⟩⟩ (blankC plainS) wx
      have hgd : ∀ x y wx, (eqGuard .neq 38 x y (.agg #[.int .i32 cr, .int .i64 cw, .int .i64 cf, .int .i64 cb, .int .i64 ca]) (blankC plainS).val).run Tryz.prog wx = .ok () wx := fun x y wx => guard_cel .neq x y ⟨cr, cw, ⟨cf, cb, ca⟩⟩ (blankC plainS) wx
      have hbs := HB.out.size
      have HBA := Lib.hid (HB.out.alloc hbs (.cells #[.int .i32 cr, .int .i64 cw, .int .i64 cf, .int .i64 cb, .int .i64 ca] 38))
      have HKA := Lib.hid (blk_new wr (.cells #[.int .i32 cr, .int .i64 cw, .int .i64 cf, .int .i64 cb, .int .i64 ca] 38))
      go_upto_region 4 with fail
      have hsA : wr.heap.size < (wr.alloc (.cells #[.int .i32 cr, .int .i64 cw, .int .i64 cf, .int .i64 cb, .int .i64 ca] 38)).heap.size := by simp
      generalize wr.alloc (.cells #[.int .i32 cr, .int .i64 cw, .int .i64 cf, .int .i64 cb, .int .i64 ca] 38) = wa at *
      have s0 : wa.cell? ⟨wr.heap.size, 0, none⟩ = some (.int .i32 cr) := blk_cell HKA.out 0
      have s1 : wa.cell? ⟨wr.heap.size, 1, none⟩ = some (.int .i64 cw) := blk_cell HKA.out 1
      have s2 : wa.cell? ⟨wr.heap.size, 2, none⟩ = some (.int .i64 cf) := blk_cell HKA.out 2
      have s3 : wa.cell? ⟨wr.heap.size, 3, none⟩ = some (.int .i64 cb) := blk_cell HKA.out 3
      have s4 : wa.cell? ⟨wr.heap.size, 4, none⟩ = some (.int .i64 ca) := blk_cell HKA.out 4
      clear q0 q1 q2 q3 q4
      go_region_held3 (fun w' => w'.cell? ⟨wr.heap.size, 0, none⟩ = some (.int .i32 cr) ∧ w'.cell? ⟨wr.heap.size, 1, none⟩ = some (.int .i64 cw) ∧ w'.cell? ⟨wr.heap.size, 2, none⟩ = some (.int .i64 cf) ∧ w'.cell? ⟨wr.heap.size, 3, none⟩ = some (.int .i64 cb) ∧ w'.cell? ⟨wr.heap.size, 4, none⟩ = some (.int .i64 ca)) (go_keep)
        (first
          | (go_at_call 20
             refine (plain_any _).mono ?_
             rintro e w5 ⟨rfl, b5⟩
             have hk5 := blk_below (blk_drew HKA.out) b5 (show wr.heap.size < wa.drew.heap.size from hsA)
             have z0 : w5.cell? ⟨wr.heap.size, 0, none⟩ = some (.int .i32 cr) := blk_cell hk5 0
             have z1 : w5.cell? ⟨wr.heap.size, 1, none⟩ = some (.int .i64 cw) := blk_cell hk5 1
             have z2 : w5.cell? ⟨wr.heap.size, 2, none⟩ = some (.int .i64 cf) := blk_cell hk5 2
             have z3 : w5.cell? ⟨wr.heap.size, 3, none⟩ = some (.int .i64 cb) := blk_cell hk5 3
             have z4 : w5.cell? ⟨wr.heap.size, 4, none⟩ = some (.int .i64 ca) := blk_cell hk5 4
             have HB5 := Lib.hid (HBA.out.drew.trans (b5.mono (show w.heap.size ≤ wa.drew.heap.size from HBA.out.size)))
             have HK5 := Lib.hid hk5
             have hs5 : wr.heap.size < w5.heap.size := heap_lt hk5
             clear b5 hk5)
          | (go_at_call 84
             refine (blank_any plainS _).mono ?_
             rintro e w6 ⟨rfl, b6⟩
             have hk6 := blk_below HK5.out b6 hs5
             have y0 : w6.cell? ⟨wr.heap.size, 0, none⟩ = some (.int .i32 cr) := blk_cell hk6 0
             have y1 : w6.cell? ⟨wr.heap.size, 1, none⟩ = some (.int .i64 cw) := blk_cell hk6 1
             have y2 : w6.cell? ⟨wr.heap.size, 2, none⟩ = some (.int .i64 cf) := blk_cell hk6 2
             have y3 : w6.cell? ⟨wr.heap.size, 3, none⟩ = some (.int .i64 cb) := blk_cell hk6 3
             have y4 : w6.cell? ⟨wr.heap.size, 4, none⟩ = some (.int .i64 ca) := blk_cell hk6 4
             have HB6 := Lib.hid (HB5.out.trans (b6.mono HB5.out.size))
             clear b6 hk6))
      clear s0 s1 s2 s3 s4 z0 z1 z2 z3 z4 y0 y1 y2 y3 y4 hq hgd
      cases hpl : isPlain ⟨cr, cw, ⟨cf, cb, ca⟩⟩
      · have HE := Lib.hid (HAL.out hpl)
        clear HAS
        go_wp2_with fail
        go_ret
        exact ⟨ret_bool HE.out.symm, HB6.out⟩
      · go_wp2_with fail
        go_roundw
        case rel => exact ⟨k + 1, by omega, by go_num, HB6, by show _ = _; rw [HAS.out, HA.out, hpl]; rfl⟩
        case measure => simp [intOf]; omega
    · have hkl : k = l.length := by omega
      subst hkl
      have d1 : decide ((l.length : Int) < (l.length : Int)) = false := decide_eq_false (by omega)
      have d1' : decide (l.length < l.length) = false := decide_eq_false (by omega)
      go_wp2_with fail
      go_ret
      refine ⟨ret_bool ?_, HB.out⟩
      rw [← HA.out, List.take_length]
end Go.Proofs.YtjclgoiclbkgjaaGreatDoor

/- The two function literals of package grid. -/
namespace Go.Proofs.YtjclgoiclbkgjaaGreatDoor
open Go.RowKit

set_option maxRecDepth 100000 in
theorem now_any (o b off n c : Nat) (w : World) (h : w.cell? ⟨o, 0, none⟩ = some (.slice (some ⟨b, off, none⟩) (n + 1) c)) (hn : n ≤ 100000000) :
    Calls Tryz.prog 92 #[.pointer (some ⟨o, 0, none⟩)] w fun e w' => e = .returned (.pointer (some ⟨b, off + n * 2, none⟩)) ∧ w' = w := by
  have hix := idx_at (P := Tryz.prog) (size := 2) Tryz.underlying57 row_info b off (n + 1) c n (by omega)
  have hw1 : IntKind.i64.wrap (((n + 1 : Nat) : Int) - 1) = (n : Int) := by rw [wrap64_id _ (by omega) (by omega)]; omega
  have hw2 : ((n : Int) + 1 - 1) = (n : Int) := by omega
  go_enter Tryz.func92, Tryz.ntmps92
  go_wp2_with fail
  exact ret1v rfl rfl rfl ⟨rfl, rfl⟩
set_option maxRecDepth 100000 in
theorem tell_any (wb pb : Nat) (x y was : Int) (a1 a2 : Value) (w : World) (h : w.cell? ⟨wb, 0, none⟩ = some (.int .i64 was)) (hp : w.heap[pb]? = some (.cells #[a1, a2] 51 (0, 0))) (h0 : 0 ≤ was ∧ was ≤ 100000000) (h1 : -1 ≤ y ∧ y ≤ 100000000) :
    Calls Tryz.prog 83 #[.int .i64 x, .int .i64 y, .pointer (some ⟨wb, 0, none⟩), .pointer (some ⟨pb, 0, none⟩)] w fun e w' => e = .returned (.tuple #[]) ∧ w.grownBy w' (some pb) ∧ w'.heap[pb]? = some (.cells #[.int .i64 x, .int .i64 (was + y)] 51 (0, 0)) := by
  have hst := run_storeVar_row (P := Tryz.prog) w pb 51 51 _ #[.int .i64 x, .int .i64 (was + y)] hp (by kernel_rfl) rfl (by simp [Value.oneCell'])
  have hr2 := setRow_blk (cells := #[.int .i64 x, .int .i64 (was + y)]) hp
  have HG : Hid (w.grownBy (w.setRow pb #[.int .i64 x, .int .i64 (was + y)]) (some pb)) := by
    refine ⟨rfl, rfl, rfl, ?_, fun k hk hne => ?_⟩
    · simp [World.setRow]
    · show (w.heap.modify pb _)[k]? = _
      rw [Array.getElem?_modify, if_neg (fun e => hne (by rw [e]))]
  have HR := Lib.hid hr2
  clear hr2 hp
  go_enter Tryz.func83, Tryz.ntmps83
  go_wp2_with (refine wpList_storeR rfl _ _ _ rfl hst rfl rfl ?_)
  go_end0
  exact ⟨rfl, HG.out, HR.out⟩
end Go.Proofs.YtjclgoiclbkgjaaGreatDoor

/- A line that is being split: the rows in memory. -/
namespace Go.Proofs.YtjclgoiclbkgjaaGreatDoor
open Go.RowKit

/-- The rows D are whole, the row r (its cells are lv) is being filled; the slice v of all lies in block o. -/
structure SpAt (B o : Nat) (w : World) (v : Value) (D : List (Value × Rw)) (lv : Value) (done : List Rw) (r : Rw) : Prop where
  blk : w.heap[o]? = some (.cells #[v] 57 (0, 0))
  own : OwnC w B 2 v (D.length + 1) (rowVals (D ++ [(lv, r)]))
  vo : v.ownBlock ≠ some o
  dn : D.map (·.2) = done
  cells : ∀ x ∈ D, OwnC w (o + 1) 5 x.1 x.2.cells.length (cvals x.2.cells)
  last : OwnC w (o + 1) 5 lv r.cells.length (cvals r.cells)
  nd : (D.map (·.1.ownBlock)).Nodup
  ap : ∀ x ∈ D, ∃ q, x.1.ownBlock = some q ∧ v.ownBlock ≠ some q ∧ lv.ownBlock ≠ some q
  apl : ∀ q, lv.ownBlock = some q → v.ownBlock ≠ some q
theorem SpAt.below {B o : Nat} {w w' : World} {v lv : Value} {D : List (Value × Rw)} {done : List Rw} {r : Rw} (h : SpAt B o w v D lv done r) (b : Below w.heap.size w w') : SpAt B o w' v D lv done r :=
  ⟨blk_below h.blk b (heap_lt h.blk), ownC_below h.own b, h.vo, h.dn, fun x hx => ownC_below (h.cells x hx) b, ownC_below h.last b, h.nd, h.ap, h.apl⟩
theorem SpAt.grown {B o : Nat} {w w' : World} {v lv : Value} {D : List (Value × Rw)} {done : List Rw} {r : Rw} {row : Option Nat} (h : SpAt B o w v D lv done r) (g : w.grownBy w' row) (hr : ∀ k, row = some k → k < B) (hBo : B ≤ o) : SpAt B o w' v D lv done r := by
  refine ⟨blk_grown h.blk g (fun e => by have := hr o e.symm; omega), ownC_grown h.own g (fun k hk e => ?_), h.vo, h.dn, fun x hx => ownC_grown (h.cells x hx) g (fun k hk e => ?_), ownC_grown h.last g (fun k hk e => ?_), h.nd, h.ap, h.apl⟩
  · have := (ownC_lt h.own k hk).1; have := hr k e; omega
  · have := (ownC_lt (h.cells x hx) k hk).1; have := hr k e; omega
  · have := (ownC_lt h.last k hk).1; have := hr k e; omega
theorem rowVals_last (D : List (Value × Rw)) (lv lv' : Value) (r r' : Rw) (hw : r.wrap = r'.wrap) : putAt (rowVals (D ++ [(lv, r)])) (D.length * 2) [lv'] = rowVals (D ++ [(lv', r')]) := by
  have e1 : rowVals (D ++ [(lv, r)]) = rowVals D ++ lv :: [.bool r.wrap] := by rw [rowVals_append]; rfl
  have e2 : rowVals (D ++ [(lv', r')]) = rowVals D ++ lv' :: [.bool r'.wrap] := by rw [rowVals_append]; rfl
  rw [e1, e2, putAt_mid _ _ _ _ _ (by rw [rowVals_len]), hw]
theorem rowVals_mark (D : List (Value × Rw)) (lv : Value) (l : List Cel) (b b' : Bool) : putAt (rowVals (D ++ [(lv, ⟨l, b⟩)])) (D.length * 2 + 1) [.bool b'] = rowVals (D ++ [(lv, ⟨l, b'⟩)]) := by
  have e1 : rowVals (D ++ [(lv, ⟨l, b⟩)]) = (rowVals D ++ [lv]) ++ .bool b :: [] := by rw [rowVals_append]; simp [rowVals]
  have e2 : rowVals (D ++ [(lv, ⟨l, b'⟩)]) = (rowVals D ++ [lv]) ++ .bool b' :: [] := by rw [rowVals_append]; simp [rowVals]
  rw [e1, e2, putAt_mid _ _ _ _ _ (by rw [List.length_append, rowVals_len]; rfl)]
theorem cvals_snoc (l : List Cel) (x : Cel) : cvals (l ++ [x]) = cvals l ++ x.vals := by rw [cvals_append]; simp [cvals]
theorem SpAt.cellsx {B o : Nat} {w : World} {v lv : Value} {D : List (Value × Rw)} {done : List Rw} {r : Rw} (h : SpAt B o w v D lv done r) : ∃ b off c, v = .slice (some ⟨b, off, none⟩) (D.length + 1) c ∧ D.length + 1 ≤ c ∧ c ≤ maxLen ∧
    w.cell? ⟨o, 0, none⟩ = some v ∧ w.frozen? ⟨o, 0, none⟩ = false ∧ w.cell? ⟨b, off + D.length * 2, none⟩ = some lv ∧ w.frozen? ⟨b, off + D.length * 2, none⟩ = false ∧ w.cell? ⟨b, off + D.length * 2 + 1, none⟩ = some (.bool r.wrap) ∧ w.frozen? ⟨b, off + D.length * 2 + 1, none⟩ = false ∧ b < w.heap.size ∧ b ≠ o ∧ B ≤ b := by
  obtain ⟨b, off, c, rfl, h1, h2⟩ := ownC_pos h.own (by omega)
  have hb := ownC_lt h.own b rfl
  have e1 : rowVals (D ++ [(lv, r)]) = rowVals D ++ [lv, .bool r.wrap] := by rw [rowVals_append]; rfl
  have hl : (rowVals D).length = D.length * 2 := rowVals_len D
  obtain ⟨a1, a2⟩ := ownC_cellx h.own (D.length * 2) (by omega)
  obtain ⟨a3, a4⟩ := ownC_cellx h.own (D.length * 2 + 1) (by omega)
  rw [e1, List.getElem?_append_right (by omega), hl, Nat.sub_self] at a1
  rw [e1, List.getElem?_append_right (by omega), hl, show D.length * 2 + 1 - D.length * 2 = 1 by omega] at a3
  exact ⟨b, off, c, rfl, h1, h2, blk_cell h.blk 0, blk_free h.blk 0, a1, a2, a3, a4, hb.2, fun e => h.vo (by rw [e]; rfl), hb.1⟩
/-- A cell behind the row's others. -/
theorem SpAt.push {B o : Nat} {w w2 w3 : World} {v lv lv' : Value} {D : List (Value × Rw)} {done : List Rw} {r : Rw} (h : SpAt B o w v D lv done r) {b off c : Nat} (hv : v = .slice (some ⟨b, off, none⟩) (D.length + 1) c) (bl : Below w.heap.size w w2) {x : Cel}
    (o3 : OwnC w3 (o + 1) 5 lv' (r.cells.length + 1) (cvals r.cells ++ x.vals)) (g : w2.grownBy w3 lv.ownBlock) (hn : ∀ k, lv'.ownBlock = some k → lv.ownBlock = some k ∨ w2.heap.size ≤ k) :
    SpAt B o (w3.setCell ⟨b, off + D.length * 2, none⟩ lv') v D lv' done ⟨r.cells ++ [x], r.wrap⟩ := by
  have hvb : v.ownBlock = some b := by rw [hv]; rfl
  have hb := ownC_lt h.own b hvb
  have hbs := bl.size
  have g4 : w3.grownBy (w3.setCell ⟨b, off + D.length * 2, none⟩ lv') (some b) := gb_set (gb_refl _ _) _ _
  have hlb : lv'.ownBlock ≠ some b := fun e => by
    rcases hn b e with h1 | h1
    · exact h.apl b h1 hvb
    · omega
  refine ⟨?_, ?_, h.vo, h.dn, fun y hy => ?_, ?_, h.nd, fun y hy => ?_, fun q hq e => ?_⟩
  · refine blk_grown (blk_grown (blk_below h.blk bl (heap_lt h.blk)) g (fun e => ?_)) g4 (fun e => h.vo (by rw [hvb, e]))
    have := (ownC_lt h.last o e.symm).1; omega
  · have h3 := ownC_grown (ownC_below h.own bl) g (fun k hk e => h.apl k e hk)
    rw [hv] at h3
    have h4 := ownC_put h3 (D.length * 2) [lv'] (by simp; omega)
    rw [rowVals_last D lv lv' r ⟨r.cells ++ [x], r.wrap⟩ rfl] at h4
    rw [hv]
    exact h4
  · obtain ⟨q, e1, e2, e3⟩ := h.ap y hy
    refine ownC_grown (ownC_grown (ownC_below (h.cells y hy) bl) g (fun k hk e => ?_)) g4 (fun k hk e => ?_)
    · rw [e1] at hk; injection hk with hk; exact e3 (by rw [e, hk])
    · rw [e1] at hk; injection hk with hk; exact e2 (by rw [hvb, e, hk])
  · show OwnC _ (o + 1) 5 lv' (r.cells ++ [x]).length (cvals (r.cells ++ [x]))
    rw [List.length_append, cvals_snoc]
    exact ownC_grown o3 g4 (fun k hk e => hlb (by rw [hk, e]))
  · obtain ⟨q, e1, e2, e3⟩ := h.ap y hy
    refine ⟨q, e1, e2, fun e => ?_⟩
    rcases hn q e with h1 | h1
    · exact e3 h1
    · have := (ownC_lt (h.cells y hy) q e1).2; omega
  · rcases hn q hq with h1 | h1
    · exact h.apl q h1 e
    · have := (ownC_lt h.own q e).2; omega
/-- The row's mark. -/
theorem SpAt.mark {B o : Nat} {w : World} {v lv : Value} {D : List (Value × Rw)} {done : List Rw} {l : List Cel} {b0 : Bool} (h : SpAt B o w v D lv done ⟨l, b0⟩) {b off c : Nat} (hv : v = .slice (some ⟨b, off, none⟩) (D.length + 1) c) (is : Bool) :
    SpAt B o (w.setCell ⟨b, off + D.length * 2 + 1, none⟩ (.bool is)) v D lv done ⟨l, is⟩ := by
  have hvb : v.ownBlock = some b := by rw [hv]; rfl
  have g4 : w.grownBy (w.setCell ⟨b, off + D.length * 2 + 1, none⟩ (.bool is)) (some b) := gb_set (gb_refl _ _) _ _
  refine ⟨blk_grown h.blk g4 (fun e => h.vo (by rw [hvb, e])), ?_, h.vo, h.dn, fun y hy => ?_, ownC_grown h.last g4 (fun k hk e => h.apl k hk (by rw [hvb, e])), h.nd, h.ap, h.apl⟩
  · have h3 := h.own
    rw [hv] at h3
    have h4 := ownC_put h3 (D.length * 2 + 1) [.bool is] (by simp; omega)
    rw [rowVals_mark] at h4
    rw [hv]
    exact h4
  · obtain ⟨q, e1, e2, e3⟩ := h.ap y hy
    refine ownC_grown (h.cells y hy) g4 (fun k hk e => ?_)
    rw [e1] at hk; injection hk with hk; exact e2 (by rw [hvb, e, hk])
/-- A row is whole, another one begins. -/
theorem SpAt.snoc {B o q0 : Nat} {w w2 w3 : World} {v lv v' : Value} {D : List (Value × Rw)} {done : List Rw} {r : Rw} (h : SpAt B o w v D lv done r) (hq0 : lv.ownBlock = some q0) (bl : Below w.heap.size w w2)
    (o3 : OwnC w3 B 2 v' (D.length + 1 + 1) (rowVals (D ++ [(lv, r)]) ++ [.slice none 0 0, .bool false])) (g : w2.grownBy w3 v.ownBlock) (hn : ∀ k, v'.ownBlock = some k → v.ownBlock = some k ∨ w2.heap.size ≤ k) :
    SpAt B o (w3.setCell ⟨o, 0, none⟩ v') v' (D ++ [(lv, r)]) (.slice none 0 0) (done ++ [r]) noR := by
  have hbs := bl.size
  have hol := heap_lt h.blk
  have g4 : w3.grownBy (w3.setCell ⟨o, 0, none⟩ v') (some o) := gb_set (gb_refl _ _) _ _
  have hvo : v'.ownBlock ≠ some o := fun e => by
    rcases hn o e with h1 | h1
    · exact h.vo h1
    · omega
  have hk : ∀ x ∈ D ++ [(lv, r)], ∃ q, x.1.ownBlock = some q ∧ v.ownBlock ≠ some q ∧ OwnC w (o + 1) 5 x.1 x.2.cells.length (cvals x.2.cells) := fun x hx => by
    rcases List.mem_append.1 hx with hx | hx
    · obtain ⟨q, e1, e2, _⟩ := h.ap x hx
      exact ⟨q, e1, e2, h.cells x hx⟩
    · rw [List.mem_singleton] at hx
      subst hx
      exact ⟨q0, hq0, h.apl q0 hq0, h.last⟩
  refine ⟨blk_set (blk_grown (blk_below h.blk bl hol) g (fun e => h.vo e.symm)) 0 v', ?_, hvo, ?_, fun x hx => ?_, ownC_nil _ _ _, ?_, fun x hx => ?_, fun q hq => by simp [Value.ownBlock] at hq⟩
  · have e : rowVals ((D ++ [(lv, r)]) ++ [(.slice none 0 0, noR)]) = rowVals (D ++ [(lv, r)]) ++ [.slice none 0 0, .bool false] := by rw [rowVals_append]; rfl
    rw [e, List.length_append]
    exact ownC_grown o3 g4 (fun k hk e => hvo (by rw [hk, e]))
  · rw [List.map_append, h.dn]; rfl
  · obtain ⟨q, e1, e2, e3⟩ := hk x hx
    refine ownC_grown (ownC_grown (ownC_below e3 bl) g (fun k hk e => ?_)) g4 (fun k hk e => ?_)
    · rw [e1] at hk; injection hk with hk; exact e2 (by rw [e, hk])
    · have := (ownC_lt e3 k hk).1
      injection e with e
      omega
  · rw [List.map_append, List.nodup_append]
    refine ⟨h.nd, by simp, fun a ha c hc e => ?_⟩
    obtain ⟨x, hx, rfl⟩ := List.mem_map.1 ha
    simp only [List.map_cons, List.map_nil, List.mem_singleton] at hc
    subst hc
    obtain ⟨q, e1, _, e3⟩ := h.ap x hx
    exact e3 (by rw [← e, e1])
  · obtain ⟨q, e1, e2, e3⟩ := hk x hx
    refine ⟨q, e1, fun e => ?_, by simp [Value.ownBlock]⟩
    rcases hn q e with h1 | h1
    · exact e2 h1
    · have := (ownC_lt e3 q e1).2; omega
theorem SpAt.rows {B o q0 : Nat} {w : World} {v lv : Value} {D : List (Value × Rw)} {done : List Rw} {r : Rw} (h : SpAt B o w v D lv done r) (hq0 : lv.ownBlock = some q0) (hB : B ≤ o + 1) : RowsAt B w v (D ++ [(lv, r)]) := by
  refine ⟨by rw [List.length_append]; exact h.own, fun x hx => ?_, ?_, fun x hx => ?_⟩
  · rcases List.mem_append.1 hx with hx | hx
    · exact ownC_mono (h.cells x hx) hB
    · rw [List.mem_singleton] at hx
      subst hx
      exact ownC_mono h.last hB
  · rw [List.map_append, List.nodup_append]
    refine ⟨h.nd, by simp, fun a ha c hc e => ?_⟩
    obtain ⟨x, hx, rfl⟩ := List.mem_map.1 ha
    simp only [List.map_cons, List.map_nil, List.mem_singleton] at hc
    subst hc
    obtain ⟨q, e1, _, e3⟩ := h.ap x hx
    exact e3 (by rw [← e, e1])
  · rcases List.mem_append.1 hx with hx | hx
    · obtain ⟨q, e1, e2, _⟩ := h.ap x hx
      exact ⟨q, e1, e2⟩
    · rw [List.mem_singleton] at hx
      subst hx
      exact ⟨q0, hq0, h.apl q0 hq0⟩
end Go.Proofs.YtjclgoiclbkgjaaGreatDoor

/- Walks of package grid: split. -/
namespace Go.Proofs.YtjclgoiclbkgjaaGreatDoor
open Go.RowKit
attribute [local go_sem ↓] Go.wp_at_zero Go.wp_at_succ

def tellX (t : Option (Int × Int)) (px : Int) : Int := match t with | some q => q.1 | none => px
def tellY (t : Option (Int × Int)) (py was : Int) : Int := match t with | some q => was + q.2 | none => py
/-- The state of a split: the world since w, what has been told, the rows. -/
structure SpS (w : World) (pb : Nat) (px py was : Int) (wr : World) (v : Value) (D : List (Value × Rw)) (lv : Value) (done : List Rw) (r : Rw) (told : Option (Int × Int)) : Prop where
  gb : w.grownBy wr (some pb)
  pk : wr.heap[pb]? = some (.cells #[.int .i64 (tellX told px), .int .i64 (tellY told py was)] 51 (0, 0))
  sp : SpAt w.heap.size (w.heap.size + 1) wr v D lv done r
theorem SpS.below {w : World} {pb : Nat} {px py was : Int} {wr w' : World} {v lv : Value} {D : List (Value × Rw)} {done : List Rw} {r : Rw} {told : Option (Int × Int)} (h : SpS w pb px py was wr v D lv done r told) (b : Below wr.heap.size wr w') : SpS w pb px py was w' v D lv done r told :=
  ⟨gb_below h.gb b h.gb.size, blk_below h.pk b (heap_lt h.pk), h.sp.below b⟩
/-- It is told. -/
theorem SpS.tell {w : World} {pb : Nat} {px py was : Int} {wr w' : World} {v lv : Value} {D : List (Value × Rw)} {done : List Rw} {r : Rw} {told : Option (Int × Int)} (h : SpS w pb px py was wr v D lv done r told) (hpb : pb < w.heap.size) (x y : Int) (g : wr.grownBy w' (some pb)) (hk : w'.heap[pb]? = some (.cells #[.int .i64 x, .int .i64 (was + y)] 51 (0, 0))) :
    SpS w pb px py was w' v D lv done r (some (x, y)) :=
  ⟨gb_trans h.gb g, hk, h.sp.grown g (fun k hk => by injection hk with hk; omega) (by omega)⟩
theorem cell_grown {w w' : World} {row : Option Nat} (g : w.grownBy w' row) {b o : Nat} {v : Value} (h : w.cell? ⟨b, o, none⟩ = some v) (hne : row ≠ some b) : w'.cell? ⟨b, o, none⟩ = some v := by
  have hb := cell_lt h
  have e := g.block b hb (fun e => hne e.symm)
  unfold World.cell? at h ⊢
  dsimp only at h ⊢
  rw [e]; exact h
theorem frozen_grown {w w' : World} {row : Option Nat} (g : w.grownBy w' row) {b o : Nat} (h : w.frozen? ⟨b, o, none⟩ = false) (hb : b < w.heap.size) (hne : row ≠ some b) : w'.frozen? ⟨b, o, none⟩ = false := by
  have e := g.block b hb (fun e => hne e.symm)
  unfold World.frozen? at h ⊢
  dsimp only at h ⊢
  rw [e]; exact h
theorem frozen_below {w w' : World} (g : Below w.heap.size w w') {b o : Nat} {v : Value} (hc : w.cell? ⟨b, o, none⟩ = some v) (h : w.frozen? ⟨b, o, none⟩ = false) : w'.frozen? ⟨b, o, none⟩ = false := by
  have e := g.block b (cell_lt hc)
  unfold World.frozen? at h ⊢
  dsimp only at h ⊢
  rw [e]; exact h
/-- The same, with the cell that is being laid: it lies in block cb. -/
structure SpC (w : World) (pb : Nat) (px py was : Int) (cb : Nat) (c' : Cel) (wr : World) (v : Value) (D : List (Value × Rw)) (lv : Value) (done : List Rw) (r : Rw) (told : Option (Int × Int)) : Prop where
  s : SpS w pb px py was wr v D lv done r told
  ck : wr.heap[cb]? = some (.cells #[.int .i32 c'.rune, .int .i64 c'.width, .int .i64 c'.sty.fg, .int .i64 c'.sty.bg, .int .i64 c'.sty.attr] 38 (0, 0))
  v1 : v.ownBlock ≠ some cb
  x1 : lv.ownBlock ≠ some cb
  hcb : w.heap.size + 1 < cb
  hpb : pb < w.heap.size
theorem SpC.cellc {w : World} {pb : Nat} {px py was : Int} {cb : Nat} {c' : Cel} {wr : World} {v lv : Value} {D : List (Value × Rw)} {done : List Rw} {r : Rw} {told : Option (Int × Int)} (h : SpC w pb px py was cb c' wr v D lv done r told) :
    wr.cell? ⟨cb, 0, none⟩ = some (.int .i32 c'.rune) ∧ wr.cell? ⟨cb, 1, none⟩ = some (.int .i64 c'.width) ∧ wr.cell? ⟨cb, 2, none⟩ = some (.int .i64 c'.sty.fg) ∧ wr.cell? ⟨cb, 3, none⟩ = some (.int .i64 c'.sty.bg) ∧ wr.cell? ⟨cb, 4, none⟩ = some (.int .i64 c'.sty.attr) :=
  ⟨blk_cell h.ck 0, blk_cell h.ck 1, blk_cell h.ck 2, blk_cell h.ck 3, blk_cell h.ck 4⟩
theorem SpC.tell {w : World} {pb : Nat} {px py was : Int} {cb : Nat} {c' : Cel} {wr w' : World} {v lv : Value} {D : List (Value × Rw)} {done : List Rw} {r : Rw} {told : Option (Int × Int)} (h : SpC w pb px py was cb c' wr v D lv done r told) (x y : Int) (g : wr.grownBy w' (some pb)) (hk : w'.heap[pb]? = some (.cells #[.int .i64 x, .int .i64 (was + y)] 51 (0, 0))) :
    SpC w pb px py was cb c' w' v D lv done r (some (x, y)) :=
  ⟨h.s.tell h.hpb x y g hk, blk_grown h.ck g (fun e => by injection e with e; have := h.hcb; have := h.hpb; omega), h.v1, h.x1, h.hcb, h.hpb⟩
theorem SpC.push {w : World} {pb : Nat} {px py was : Int} {cb : Nat} {c' : Cel} {wr w2 w3 : World} {v lv lv' : Value} {D : List (Value × Rw)} {done : List Rw} {r : Rw} {told : Option (Int × Int)} (h : SpC w pb px py was cb c' wr v D lv done r told) {b off c : Nat} (hv : v = .slice (some ⟨b, off, none⟩) (D.length + 1) c) (bl : Below wr.heap.size wr w2) {x : Cel}
    (o3 : OwnC w3 (w.heap.size + 1 + 1) 5 lv' (r.cells.length + 1) (cvals r.cells ++ x.vals)) (g : w2.grownBy w3 lv.ownBlock) (hn : ∀ k, lv'.ownBlock = some k → lv.ownBlock = some k ∨ w2.heap.size ≤ k) :
    SpC w pb px py was cb c' (w3.setCell ⟨b, off + D.length * 2, none⟩ lv') v D lv' done ⟨r.cells ++ [x], r.wrap⟩ told := by
  have hpb := h.hpb
  have hvb : v.ownBlock = some b := by rw [hv]; rfl
  have hb := ownC_lt h.s.sp.own b hvb
  have hlv : ∀ q, lv.ownBlock = some q → w.heap.size + 1 + 1 ≤ q := fun q hq => (ownC_lt h.s.sp.last q hq).1
  refine ⟨⟨gb_set_new (gb_trans_new (gb_below h.s.gb bl h.s.gb.size) g (fun q hq => by have := hlv q hq; omega)) hb.1 _ _, ?_, h.s.sp.push hv bl o3 g hn⟩, ?_, h.v1, fun e => ?_, h.hcb, hpb⟩
  · exact blk_set_other (blk_grown (blk_below h.s.pk bl (heap_lt h.s.pk)) g (fun e => by have := hlv pb e.symm; omega)) (by omega) _ _
  · exact blk_set_other (blk_grown (blk_below h.ck bl (heap_lt h.ck)) g (fun e => h.x1 e.symm)) (fun e => h.v1 (by rw [hvb, e])) _ _
  · rcases hn cb e with h1 | h1
    · exact h.x1 h1
    · have := heap_lt h.ck; have := bl.size; omega
theorem SpC.mark {w : World} {pb : Nat} {px py was : Int} {cb : Nat} {c' : Cel} {wr : World} {v lv : Value} {D : List (Value × Rw)} {done : List Rw} {l : List Cel} {b0 : Bool} {told : Option (Int × Int)} (h : SpC w pb px py was cb c' wr v D lv done ⟨l, b0⟩ told) {b off c : Nat} (hv : v = .slice (some ⟨b, off, none⟩) (D.length + 1) c) (is : Bool) :
    SpC w pb px py was cb c' (wr.setCell ⟨b, off + D.length * 2 + 1, none⟩ (.bool is)) v D lv done ⟨l, is⟩ told := by
  have hpb := h.hpb
  have hvb : v.ownBlock = some b := by rw [hv]; rfl
  have hb := ownC_lt h.s.sp.own b hvb
  exact ⟨⟨gb_set_new h.s.gb hb.1 _ _, blk_set_other h.s.pk (by omega) _ _, h.s.sp.mark hv is⟩, blk_set_other h.ck (fun e => h.v1 (by rw [hvb, e])) _ _, h.v1, h.x1, h.hcb, hpb⟩
theorem SpC.snoc {w : World} {pb : Nat} {px py was : Int} {cb q0 : Nat} {c' : Cel} {wr w2 w3 : World} {v lv v' : Value} {D : List (Value × Rw)} {done : List Rw} {r : Rw} {told : Option (Int × Int)} (h : SpC w pb px py was cb c' wr v D lv done r told) (hq0 : lv.ownBlock = some q0) (bl : Below wr.heap.size wr w2)
    (o3 : OwnC w3 w.heap.size 2 v' (D.length + 1 + 1) (rowVals (D ++ [(lv, r)]) ++ [.slice none 0 0, .bool false])) (g : w2.grownBy w3 v.ownBlock) (hn : ∀ k, v'.ownBlock = some k → v.ownBlock = some k ∨ w2.heap.size ≤ k) :
    SpC w pb px py was cb c' (w3.setCell ⟨w.heap.size + 1, 0, none⟩ v') v' (D ++ [(lv, r)]) (.slice none 0 0) (done ++ [r]) noR told := by
  have hpb := h.hpb
  have hcb := h.hcb
  have hvl : ∀ q, v.ownBlock = some q → w.heap.size ≤ q := fun q hq => (ownC_lt h.s.sp.own q hq).1
  refine ⟨⟨gb_set_new (gb_trans_new (gb_below h.s.gb bl h.s.gb.size) g hvl) (by omega) _ _, ?_, h.s.sp.snoc hq0 bl o3 g hn⟩, ?_, fun e => ?_, by simp [Value.ownBlock], hcb, hpb⟩
  · exact blk_set_other (blk_grown (blk_below h.s.pk bl (heap_lt h.s.pk)) g (fun e => by have := hvl pb e.symm; omega)) (by omega) _ _
  · exact blk_set_other (blk_grown (blk_below h.ck bl (heap_lt h.ck)) g (fun e => h.v1 e.symm)) (by omega) _ _
  · rcases hn cb e with h1 | h1
    · exact h.v1 h1
    · have := heap_lt h.ck; have := bl.size; omega
theorem spRun_snoc (cols : Nat) (mark : Int) (l : List Cel) (c : Cel) (st : Sp) (i : Nat) : spRun cols mark st i (l ++ [c]) = spStep cols mark (spRun cols mark st i l) (i + l.length) c := by
  induction l generalizing st i with
  | nil => rfl
  | cons x l ih =>
    show spRun cols mark (spStep cols mark st i x) (i + 1) (l ++ [c]) = _
    rw [ih, List.length_cons]
    show _ = spStep cols mark (spRun cols mark (spStep cols mark st i x) (i + 1) l) _ _
    congr 1; omega
end Go.Proofs.YtjclgoiclbkgjaaGreatDoor
