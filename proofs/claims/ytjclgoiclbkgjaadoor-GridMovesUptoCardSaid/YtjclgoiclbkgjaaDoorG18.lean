/- Walks of package grid: plain. -/
import Derived.Test.YtjclgoiclbkgjaaDoorG17
namespace Go.Proofs.YtjclgoiclbkgjaaDoor
open Go.RowKit
attribute [local go_sem ↓] Go.wp_at_zero Go.wp_at_succ

/-- Cells that lie in memory. -/
def CellsAt (w : World) (b off : Nat) (l : List Cel) : Prop := ∀ j u, (cvals l)[j]? = some u → w.cell? ⟨b, off + j, none⟩ = some u
theorem cellsAt_own {w : World} {base b off n c : Nat} {l : List Cel} (h : OwnC w base 5 (.slice (some ⟨b, off, none⟩) n c) n (cvals l)) : CellsAt w b off l := by
  intro j u hu
  have hj : j < (cvals l).length := (List.getElem?_eq_some_iff.1 hu).1
  rw [(ownC_cellx h j (by rw [← h.1]; exact hj)).1]; exact hu
theorem CellsAt.below {w w' : World} {b off : Nat} {l : List Cel} (h : CellsAt w b off l) (g : Below w.heap.size w w') : CellsAt w' b off l := fun j u hu => cell_below g (h j u hu)
theorem CellsAt.at {w : World} {b off : Nat} {l : List Cel} (h : CellsAt w b off l) (k : Nat) (hk : k < l.length) {c : Cel} (hc : l.getD k noC = c) :
    w.cell? ⟨b, off + k * 5, none⟩ = some (.int .i32 c.rune) ∧ w.cell? ⟨b, off + k * 5 + 1, none⟩ = some (.int .i64 c.width) ∧ w.cell? ⟨b, off + k * 5 + 2, none⟩ = some (.int .i64 c.sty.fg) ∧
    w.cell? ⟨b, off + k * 5 + 3, none⟩ = some (.int .i64 c.sty.bg) ∧ w.cell? ⟨b, off + k * 5 + 4, none⟩ = some (.int .i64 c.sty.attr) := by
  have key : ∀ i u, i < 5 → c.vals[i]? = some u → w.cell? ⟨b, off + (k * 5 + i), none⟩ = some u := fun i u hi hu => h _ u (by rw [cvals_at l k hk i hi, hc]; exact hu)
  exact ⟨key 0 _ (by decide) rfl, key 1 _ (by decide) rfl, key 2 _ (by decide) rfl, key 3 _ (by decide) rfl, key 4 _ (by decide) rfl⟩
theorem all_snoc (l : List Cel) (k : Nat) (h : k < l.length) : (l.take (k + 1)).all isPlain = ((l.take k).all isPlain && isPlain (l.getD k noC)) := by
  rw [take_succ_getD l noC k h, List.all_append]; simp
set_option maxRecDepth 100000 in
set_option maxHeartbeats 4000000 in
theorem isPlain_any (l : List Cel) (b off c : Nat) (w : World) (h : CellsAt w b off l) (hl : l.length ≤ 1000000) :
    Calls Tryd.prog 56 #[.slice (some ⟨b, off, none⟩) l.length c] w fun e w' => e = .returned (.bool (l.all isPlain)) ∧ Below w.heap.size w w' := by
  have HC := Lib.hid h
  clear h
  go_enter Tryd.func56, Tryd.ntmps56
  go_wp2_with fail
  go_loopw [4, 7] (fun _ iv wr => ∃ k : Nat, k ≤ l.length ∧ iv = .int .i64 k ∧ Hid (Below w.heap.size w wr) ∧ Hid ((l.take k).all isPlain = true)) (fun _ iv _ => l.length - (intOf iv).toNat)
  case atStart => exact ⟨0, Nat.zero_le _, rfl, Below.refl _ _, by simp [Hid]⟩
  case round =>
    obtain ⟨k, hk, rfl, HB, HA⟩ := hrel
    by_cases hlt : k < l.length
    · obtain ⟨q0, q1, q2, q3, q4⟩ := (HC.out.below HB.out).at k hlt rfl
      have hix := idx_at (P := Tryd.prog) (size := 5) Tryd.underlying51 cell_info b off l.length c k hlt
      have HAS := Lib.hid (all_snoc l k hlt)
      have HAL : Hid (isPlain (l.getD k noC) = false → l.all isPlain = false) := fun hf => by
        rw [Bool.eq_false_iff]
        intro ha
        have hm : l.getD k noC ∈ l := by rw [List.getD_eq_getElem?_getD, List.getElem?_eq_getElem hlt]; exact List.getElem_mem _
        rw [(List.all_eq_true.1 ha) _ hm] at hf
        exact absurd hf (by decide)
      have d1 : decide ((k : Int) < (l.length : Int)) = true := decide_eq_true (by omega)
      have d1' : decide (k < l.length) = true := decide_eq_true hlt
      generalize l.getD k noC = cc at *
      obtain ⟨cr, cw, cs⟩ := cc
      obtain ⟨cf, cb, ca⟩ := cs
      dsimp only at q0 q1 q2 q3 q4
      have hq : ∀ wx, (binOp .neq 38 (.agg #[.int .i32 cr, .int .i64 cw, .int .i64 cf, .int .i64 cb, .int .i64 ca]) (blankC plainS).val).run Tryd.prog wx = .ok (.bool (!isPlain ⟨cr, cw, ⟨cf, cb, ca⟩⟩)) wx := fun wx => neq_cel ⟨cr, cw, ⟨cf, cb, ca⟩⟩ (blankC plainS) wx
      have hgd : ∀ x y wx, (eqGuard .neq 38 x y (.agg #[.int .i32 cr, .int .i64 cw, .int .i64 cf, .int .i64 cb, .int .i64 ca]) (blankC plainS).val).run Tryd.prog wx = .ok () wx := fun x y wx => guard_cel .neq x y ⟨cr, cw, ⟨cf, cb, ca⟩⟩ (blankC plainS) wx
      have hbs := HB.out.size
      have HBA := Lib.hid (HB.out.alloc hbs (.cells #[.int .i32 cr, .int .i64 cw, .int .i64 cf, .int .i64 cb, .int .i64 ca] 38))
      have HKA := Lib.hid (blk_new wr (.cells #[.int .i32 cr, .int .i64 cw, .int .i64 cf, .int .i64 cb, .int .i64 ca] 38))
      go_upto_region 4 with fail
      have hsA : wr.heap.size < (wr.alloc (.cells #[.int .i32 cr, .int .i64 cw, .int .i64 cf, .int .i64 cb, .int .i64 ca] 38)).heap.size := by simp
      generalize wr.alloc (.cells #[.int .i32 cr, .int .i64 cw, .int .i64 cf, .int .i64 cb, .int .i64 ca] 38) = wa at *
      have s0 : wa.cell? ⟨wr.heap.size, 0, none⟩ = some (.int .i32 cr) := blk_cell HKA.out 0
      have s1 : wa.cell? ⟨wr.heap.size, 1, none⟩ = some (.int .i64 cw) := blk_cell HKA.out 1
      have s2 : wa.cell? ⟨wr.heap.size, 2, none⟩ = some (.int .i64 cf) := blk_cell HKA.out 2
      have s3 : wa.cell? ⟨wr.heap.size, 3, none⟩ = some (.int .i64 cb) := blk_cell HKA.out 3
      have s4 : wa.cell? ⟨wr.heap.size, 4, none⟩ = some (.int .i64 ca) := blk_cell HKA.out 4
      clear q0 q1 q2 q3 q4
      go_region_held3 (fun w' => w'.cell? ⟨wr.heap.size, 0, none⟩ = some (.int .i32 cr) ∧ w'.cell? ⟨wr.heap.size, 1, none⟩ = some (.int .i64 cw) ∧ w'.cell? ⟨wr.heap.size, 2, none⟩ = some (.int .i64 cf) ∧ w'.cell? ⟨wr.heap.size, 3, none⟩ = some (.int .i64 cb) ∧ w'.cell? ⟨wr.heap.size, 4, none⟩ = some (.int .i64 ca)) (go_keep)
        (first
          | (go_at_call 37
             refine (plain_any _).mono ?_
             rintro e w5 ⟨rfl, b5⟩
             have hk5 := blk_below (blk_drew HKA.out) b5 (show wr.heap.size < wa.drew.heap.size from hsA)
             have z0 : w5.cell? ⟨wr.heap.size, 0, none⟩ = some (.int .i32 cr) := blk_cell hk5 0
             have z1 : w5.cell? ⟨wr.heap.size, 1, none⟩ = some (.int .i64 cw) := blk_cell hk5 1
             have z2 : w5.cell? ⟨wr.heap.size, 2, none⟩ = some (.int .i64 cf) := blk_cell hk5 2
             have z3 : w5.cell? ⟨wr.heap.size, 3, none⟩ = some (.int .i64 cb) := blk_cell hk5 3
             have z4 : w5.cell? ⟨wr.heap.size, 4, none⟩ = some (.int .i64 ca) := blk_cell hk5 4
             have HB5 := Lib.hid (HBA.out.drew.trans (b5.mono (show w.heap.size ≤ wa.drew.heap.size from HBA.out.size)))
             have HK5 := Lib.hid hk5
             have hs5 : wr.heap.size < w5.heap.size := heap_lt hk5
             clear b5 hk5)
          | (go_at_call 61
             refine (blank_any plainS _).mono ?_
             rintro e w6 ⟨rfl, b6⟩
             have hk6 := blk_below HK5.out b6 hs5
             have y0 : w6.cell? ⟨wr.heap.size, 0, none⟩ = some (.int .i32 cr) := blk_cell hk6 0
             have y1 : w6.cell? ⟨wr.heap.size, 1, none⟩ = some (.int .i64 cw) := blk_cell hk6 1
             have y2 : w6.cell? ⟨wr.heap.size, 2, none⟩ = some (.int .i64 cf) := blk_cell hk6 2
             have y3 : w6.cell? ⟨wr.heap.size, 3, none⟩ = some (.int .i64 cb) := blk_cell hk6 3
             have y4 : w6.cell? ⟨wr.heap.size, 4, none⟩ = some (.int .i64 ca) := blk_cell hk6 4
             have HB6 := Lib.hid (HB5.out.trans (b6.mono HB5.out.size))
             clear b6 hk6))
      clear s0 s1 s2 s3 s4 z0 z1 z2 z3 z4 y0 y1 y2 y3 y4 hq hgd
      cases hpl : isPlain ⟨cr, cw, ⟨cf, cb, ca⟩⟩
      · have HE := Lib.hid (HAL.out hpl)
        clear HAS
        go_wp2_with fail
        go_ret
        exact ⟨ret_bool HE.out.symm, HB6.out⟩
      · go_wp2_with fail
        go_roundw
        case rel => exact ⟨k + 1, by omega, by go_num, HB6, by show _ = _; rw [HAS.out, HA.out, hpl]; rfl⟩
        case measure => simp [intOf]; omega
    · have hkl : k = l.length := by omega
      subst hkl
      have d1 : decide ((l.length : Int) < (l.length : Int)) = false := decide_eq_false (by omega)
      have d1' : decide (l.length < l.length) = false := decide_eq_false (by omega)
      go_wp2_with fail
      go_ret
      refine ⟨ret_bool ?_, HB.out⟩
      rw [← HA.out, List.take_length]
end Go.Proofs.YtjclgoiclbkgjaaDoor
