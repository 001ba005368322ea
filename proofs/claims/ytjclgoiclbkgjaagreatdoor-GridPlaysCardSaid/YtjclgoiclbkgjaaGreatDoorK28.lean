/- Package grid, texts laid together: N26 N27 N28 N29 LaidG LaidT. -/
import Derived.Test.YtjclgoiclbkgjaaGreatDoorK27
import Derived.Test.YtjclgoiclbkgjaaGreatDoorK12
import Derived.Test.YtjclgoiclbkgjaaGreatDoorCards
import Derived.Test.YtjclgoiclbkgjaaGreatDoorTie
import Derived.WalkKit
import Derived.ProofKit
import Derived.OpenShut
import Derived.Deep.DeepHandedRow
import Derived.JoinedCond
import Derived.Test.YtjclgoiclbkgjaaGreatDoorK26
import Derived.Lib.LaidTab
/- The law GridPlays: a call on both grids: Resize. -/
namespace Go.Proofs.YtjclgoiclbkgjaaGreatDoor
open Go.RowKit
attribute [local go_sem ↓] Go.wp_at_zero Go.wp_at_succ

set_option maxRecDepth 100000 in
set_option maxHeartbeats 8000000 in
theorem does_11 {w : World} {Tg Tr : Nat → Nat} {q r bp : Nat} {wr : World} {g : Gr} (h : Bp w Tg Tr q r bp wr g g) (hwh : g.All WhR) (o : OpR) (hok : o.Ok) (htab : Tabs w) (hsel : pickV o.kind 14 = 11) :
    Calls Tryz.prog 7 #[.pointer (some ⟨bp, 0, none⟩), .agg o.cells.toArray] wr fun e w' => e = .returned (.bool true) ∧ ∃ Tg' Tr' g', Bp w Tg' Tr' q r bp w' g' g' ∧ g'.All WhR := by
  obtain ⟨kd, kx, ky, kn, km, ⟨cr, cw, ⟨cf, cb, ca⟩⟩, ki⟩ := o
  obtain ⟨f0, f1, f2, f3, f4, f5, f6, f7, f8, f9⟩ := hok
  dsimp only at hsel f0 f1 f2 f3 f4 f5 f6 f7 f8 f9
  have F := Lib.hid (show I64 kd ∧ I64 kn ∧ I64 km ∧ (-2147483648 ≤ cr ∧ cr ≤ 2147483647) ∧ I64 cf ∧ I64 cb from ⟨f0, f3, f4, f5, f7, f8⟩)
  clear f0 f1 f2 f3 f4 f5 f6 f7 f8 f9
  have HT := Lib.hid htab
  have HWH := Lib.hid hwh
  have HOG := Lib.hid (show Tg wr.heap.size = 0 from h.gm.own0 (Nat.le_refl _))
  have HOR := Lib.hid (show Tr wr.heap.size = 0 from h.rm.own0 (Nat.le_refl _))
  have HB1 := Lib.hid (h.below (Below.alloc (Below.refl wr.heap.size wr) (Nat.le_refl _) (.cells #[.int .i64 kd, .int .i64 kx, .int .i64 ky, .int .i64 kn, .int .i64 km, .int .i32 cr, .int .i64 cw, .int .i64 cf, .int .i64 cb, .int .i64 ca, .bool ki] 40)))
  have HK1 := Lib.hid (blk_new wr (.cells #[.int .i64 kd, .int .i64 kx, .int .i64 ky, .int .i64 kn, .int .i64 km, .int .i32 cr, .int .i64 cw, .int .i64 cf, .int .i64 cb, .int .i64 ca, .bool ki] 40))
  clear h htab hwh
  unfold OpR.cells
  go_enter Tryz.func7, Tryz.ntmps7
  go_upto_region 1 with fail
  generalize wr.alloc (.cells #[.int .i64 kd, .int .i64 kx, .int .i64 ky, .int .i64 kn, .int .i64 km, .int .i32 cr, .int .i64 cw, .int .i64 cf, .int .i64 cb, .int .i64 ca, .bool ki] 40) = wa at *
  generalize wr.heap.size = ob at *
  have b0 : wa.cell? ⟨bp, 0, none⟩ = some (.pointer (some ⟨q, 0, none⟩)) := blk_cell HB1.out.bb 0
  have b1 : wa.cell? ⟨bp, 1, none⟩ = some (.pointer (some ⟨r, 0, none⟩)) := blk_cell HB1.out.bb 1
  have o7 : wa.cell? ⟨ob, 7, none⟩ = some (.int .i64 cf) := blk_cell HK1.out 7
  have o8 : wa.cell? ⟨ob, 8, none⟩ = some (.int .i64 cb) := blk_cell HK1.out 8
  have o9 : wa.cell? ⟨ob, 9, none⟩ = some (.int .i64 ca) := blk_cell HK1.out 9
  have HQ := Lib.hid (show Bq w Tg Tr q r bp ob wa.heap.size #[.int .i64 kd, .int .i64 kx, .int .i64 ky, .int .i64 kn, .int .i64 km, .int .i32 cr, .int .i64 cw, .int .i64 cf, .int .i64 cb, .int .i64 ca, .bool ki] #[.int .i64 cf, .int .i64 cb, .int .i64 ca] (wa.alloc (.cells #[.int .i64 cf, .int .i64 cb, .int .i64 ca] 36)) g g from
    ⟨HB1.out.below (Below.alloc (Below.refl wa.heap.size wa) (Nat.le_refl _) _), blk_alloc HK1.out _, HOG.out, HOR.out, blk_new _ _, HB1.out.gm.own0 (Nat.le_refl _), HB1.out.rm.own0 (Nat.le_refl _)⟩)
  go_upto_region 4 with fail
  clear b0 b1 o7 o8 o9
  generalize wa.alloc (.cells #[.int .i64 cf, .int .i64 cb, .int .i64 ca] 36) = wb at *
  generalize wa.heap.size = sb at *
  have o0 : wb.cell? ⟨ob, 0, none⟩ = some (.int .i64 kd) := blk_cell HQ.out.ok 0
  go_wp2_with fail
  refine (pick_val kd 14 wb F.out.1 (by decide) (by decide)).mono ?_
  rintro e wx1 ⟨rfl, hx1⟩
  subst wx1
  generalize pickV kd 14 = kk at *
  have HSEL := Lib.hid hsel
  clear hsel
  clear o0
  have o1 : wb.cell? ⟨ob, 1, none⟩ = some (.int .i64 kx) := blk_cell HQ.out.ok 1
  have o2 : wb.cell? ⟨ob, 2, none⟩ = some (.int .i64 ky) := blk_cell HQ.out.ok 2
  have o3 : wb.cell? ⟨ob, 3, none⟩ = some (.int .i64 kn) := blk_cell HQ.out.ok 3
  have o4 : wb.cell? ⟨ob, 4, none⟩ = some (.int .i64 km) := blk_cell HQ.out.ok 4
  have o5 : wb.cell? ⟨ob, 5, none⟩ = some (.int .i32 cr) := blk_cell HQ.out.ok 5
  have o6 : wb.cell? ⟨ob, 6, none⟩ = some (.int .i64 cw) := blk_cell HQ.out.ok 6
  have o7 : wb.cell? ⟨ob, 7, none⟩ = some (.int .i64 cf) := blk_cell HQ.out.ok 7
  have o8 : wb.cell? ⟨ob, 8, none⟩ = some (.int .i64 cb) := blk_cell HQ.out.ok 8
  have o9 : wb.cell? ⟨ob, 9, none⟩ = some (.int .i64 ca) := blk_cell HQ.out.ok 9
  have o10 : wb.cell? ⟨ob, 10, none⟩ = some (.bool ki) := blk_cell HQ.out.ok 10
  have os0 : wb.cell? ⟨sb, 0, none⟩ = some (.int .i64 cf) := blk_cell HQ.out.sk 0
  have os1 : wb.cell? ⟨sb, 1, none⟩ = some (.int .i64 cb) := blk_cell HQ.out.sk 1
  have os2 : wb.cell? ⟨sb, 2, none⟩ = some (.int .i64 ca) := blk_cell HQ.out.sk 2
  have HRI := Lib.hid (right_all ⟨cf, cb, ca⟩ wb (HT.out.below HQ.out.p.b) F.out.2.2.2.2.1 F.out.2.2.2.2.2)
  have HGB := Lib.hid HQ.out.p.gm
  go_upto_block 0 with fail
  go_cut [] (fun wz => ∃ Tg' Tr' g', Hid (Bp w Tg' Tr' q r bp wz g' g') ∧ Hid (g'.All WhR))
  case rest =>
    obtain ⟨Tg', Tr', g', HB9, HW9⟩ := hcut
    go_wp2_with fail
    exact ret1v rfl rfl rfl ⟨rfl, _, _, _, HB9.out, HW9.out⟩
  case first =>
    have hsel := HSEL.out
    subst hsel
    by_cases hm : mayG kn km = true
    · obtain ⟨m1, m2, m3, m4⟩ := mayG_iff hm
      clear hm
      obtain ⟨cN, rfl⟩ : ∃ c : Nat, kn = c := ⟨kn.toNat, by omega⟩
      obtain ⟨rN, rfl⟩ : ∃ c : Nat, km = c := ⟨km.toNat, by omega⟩
      cases ki
      · go_wp2_with fail
        refine (resizeC_any HGB.out cN rN kx ky (by omega) (by omega) (by omega) (by omega)).mono ?_
        rintro e w5 ⟨rfl, hw5, T5, g5, n5⟩
        have H5 := Lib.hid (HQ.out.turnG hw5 g5 n5)
        clear hw5 g5 n5
        have HD5 := Lib.hid (fun (wx : World) (hx : Bq w T5 Tr q r bp ob sb #[.int .i64 kd, .int .i64 kx, .int .i64 ky, .int .i64 cN, .int .i64 rN, .int .i32 cr, .int .i64 cw, .int .i64 cf, .int .i64 cb, .int .i64 ca, .bool false] #[.int .i64 cf, .int .i64 cb, .int .i64 ca] wx (g.resize cN rN kx ky false).1 g) => resizeCD_any hx.p.rm HWH.out cN rN kx ky (by omega) (by omega) (by omega) (by omega))
        have HWR := Lib.hid (resize_wh HWH.out cN rN kx ky false (by omega))
        clear o1 o2 o3 o4 o5 o6 o7 o8 o9 o10 os0 os1 os2
        generalize (g.resize cN rN kx ky false).1 = g' at *
        generalize (g.resize cN rN kx ky false).2.1 = px at *
        generalize (g.resize cN rN kx ky false).2.2 = py at *
        have HBA := Below.alloc (Below.refl w5.heap.size w5) (Nat.le_refl _) (.cells #[.int .i64 px, .int .i64 py] 51)
        have H6 := Lib.hid (H5.out.below HBA)
        have HK6 := Lib.hid (blk_new w5 (.cells #[.int .i64 px, .int .i64 py] 51))
        have HTR := Lib.hid (H5.out.p.rm.own0 (Nat.le_refl w5.heap.size))
        clear HBA
        go_upto_region 32 with fail
        generalize w5.alloc (.cells #[.int .i64 px, .int .i64 py] 51) = w6 at *
        generalize w5.heap.size = p1 at *
        have x1 : w6.cell? ⟨ob, 1, none⟩ = some (.int .i64 kx) := blk_cell H6.out.ok 1
        have x2 : w6.cell? ⟨ob, 2, none⟩ = some (.int .i64 ky) := blk_cell H6.out.ok 2
        have x3 : w6.cell? ⟨ob, 3, none⟩ = some (.int .i64 cN) := blk_cell H6.out.ok 3
        have x4 : w6.cell? ⟨ob, 4, none⟩ = some (.int .i64 rN) := blk_cell H6.out.ok 4
        have x5 : w6.cell? ⟨ob, 5, none⟩ = some (.int .i32 cr) := blk_cell H6.out.ok 5
        have x6 : w6.cell? ⟨ob, 6, none⟩ = some (.int .i64 cw) := blk_cell H6.out.ok 6
        have x7 : w6.cell? ⟨ob, 7, none⟩ = some (.int .i64 cf) := blk_cell H6.out.ok 7
        have x8 : w6.cell? ⟨ob, 8, none⟩ = some (.int .i64 cb) := blk_cell H6.out.ok 8
        have x9 : w6.cell? ⟨ob, 9, none⟩ = some (.int .i64 ca) := blk_cell H6.out.ok 9
        have x10 : w6.cell? ⟨ob, 10, none⟩ = some (.bool false) := blk_cell H6.out.ok 10
        have xs0 : w6.cell? ⟨sb, 0, none⟩ = some (.int .i64 cf) := blk_cell H6.out.sk 0
        have xs1 : w6.cell? ⟨sb, 1, none⟩ = some (.int .i64 cb) := blk_cell H6.out.sk 1
        have xs2 : w6.cell? ⟨sb, 2, none⟩ = some (.int .i64 ca) := blk_cell H6.out.sk 2
        go_wp2_with fail
        refine (HD5.out w6 H6.out).mono ?_
        rintro e w7 ⟨rfl, hw7, T7, g7, n7⟩
        have H7 := Lib.hid (H6.out.turnR hw7 g7 n7)
        have HK7 := Lib.hid (kept_blk HK6.out HTR.out hw7 n7).1
        clear hw7 g7 n7
        clear x1 x2 x3 x4 x5 x6 x7 x8 x9 x10 xs0 xs1 xs2
        have HBA := Below.alloc (Below.refl w7.heap.size w7) (Nat.le_refl _) (.cells #[.int .i64 px, .int .i64 py] 51)
        have H8 := Lib.hid (H7.out.below HBA)
        have HK8 := Lib.hid (blk_new w7 (.cells #[.int .i64 px, .int .i64 py] 51))
        have HL8 := Lib.hid (blk_alloc HK7.out (.cells #[.int .i64 px, .int .i64 py] 51))
        clear HBA
        go_upto_region 33 with fail
        generalize w7.alloc (.cells #[.int .i64 px, .int .i64 py] 51) = w8 at *
        generalize w7.heap.size = p2 at *
        have u0 : w8.cell? ⟨p1, 0, none⟩ = some (.int .i64 px) := blk_cell HL8.out 0
        have u1 : w8.cell? ⟨p1, 1, none⟩ = some (.int .i64 py) := blk_cell HL8.out 1
        have v0 : w8.cell? ⟨p2, 0, none⟩ = some (.int .i64 px) := blk_cell HK8.out 0
        have v1 : w8.cell? ⟨p2, 1, none⟩ = some (.int .i64 py) := blk_cell HK8.out 1
        have hq : ∀ wx, (binOp .eql 51 (.agg #[.int .i64 px, .int .i64 py]) (.agg #[.int .i64 px, .int .i64 py])).run Tryz.prog wx = .ok (.bool true) wx := fun wx => by rw [eql_pos]; simp
        have hgd := fun (x y : Operand) (wx : World) => guard_pos .eql x y px py px py wx
        go_wp2_with fail
        exact ret1v rfl rfl rfl ⟨rfl, _, _, _, H8.out.p, HWR.out⟩
      · go_wp2_with fail
        refine (resizeF_any HGB.out cN rN kx ky (by omega) (by omega) (by omega) (by omega)).mono ?_
        rintro e w5 ⟨rfl, hw5, T5, g5, n5⟩
        have H5 := Lib.hid (HQ.out.turnG hw5 g5 n5)
        clear hw5 g5 n5
        have HD5 := Lib.hid (fun (wx : World) (hx : Bq w T5 Tr q r bp ob sb #[.int .i64 kd, .int .i64 kx, .int .i64 ky, .int .i64 cN, .int .i64 rN, .int .i32 cr, .int .i64 cw, .int .i64 cf, .int .i64 cb, .int .i64 ca, .bool true] #[.int .i64 cf, .int .i64 cb, .int .i64 ca] wx (g.resize cN rN kx ky true).1 g) => resizeFD_any hx.p.rm HWH.out cN rN kx ky (by omega) (by omega) (by omega) (by omega))
        have HWR := Lib.hid (resize_wh HWH.out cN rN kx ky true (by omega))
        clear o1 o2 o3 o4 o5 o6 o7 o8 o9 o10 os0 os1 os2
        generalize (g.resize cN rN kx ky true).1 = g' at *
        generalize (g.resize cN rN kx ky true).2.1 = px at *
        generalize (g.resize cN rN kx ky true).2.2 = py at *
        have HBA := Below.alloc (Below.refl w5.heap.size w5) (Nat.le_refl _) (.cells #[.int .i64 px, .int .i64 py] 51)
        have H6 := Lib.hid (H5.out.below HBA)
        have HK6 := Lib.hid (blk_new w5 (.cells #[.int .i64 px, .int .i64 py] 51))
        have HTR := Lib.hid (H5.out.p.rm.own0 (Nat.le_refl w5.heap.size))
        clear HBA
        go_upto_region 32 with fail
        generalize w5.alloc (.cells #[.int .i64 px, .int .i64 py] 51) = w6 at *
        generalize w5.heap.size = p1 at *
        have x1 : w6.cell? ⟨ob, 1, none⟩ = some (.int .i64 kx) := blk_cell H6.out.ok 1
        have x2 : w6.cell? ⟨ob, 2, none⟩ = some (.int .i64 ky) := blk_cell H6.out.ok 2
        have x3 : w6.cell? ⟨ob, 3, none⟩ = some (.int .i64 cN) := blk_cell H6.out.ok 3
        have x4 : w6.cell? ⟨ob, 4, none⟩ = some (.int .i64 rN) := blk_cell H6.out.ok 4
        have x5 : w6.cell? ⟨ob, 5, none⟩ = some (.int .i32 cr) := blk_cell H6.out.ok 5
        have x6 : w6.cell? ⟨ob, 6, none⟩ = some (.int .i64 cw) := blk_cell H6.out.ok 6
        have x7 : w6.cell? ⟨ob, 7, none⟩ = some (.int .i64 cf) := blk_cell H6.out.ok 7
        have x8 : w6.cell? ⟨ob, 8, none⟩ = some (.int .i64 cb) := blk_cell H6.out.ok 8
        have x9 : w6.cell? ⟨ob, 9, none⟩ = some (.int .i64 ca) := blk_cell H6.out.ok 9
        have x10 : w6.cell? ⟨ob, 10, none⟩ = some (.bool true) := blk_cell H6.out.ok 10
        have xs0 : w6.cell? ⟨sb, 0, none⟩ = some (.int .i64 cf) := blk_cell H6.out.sk 0
        have xs1 : w6.cell? ⟨sb, 1, none⟩ = some (.int .i64 cb) := blk_cell H6.out.sk 1
        have xs2 : w6.cell? ⟨sb, 2, none⟩ = some (.int .i64 ca) := blk_cell H6.out.sk 2
        go_wp2_with fail
        refine (HD5.out w6 H6.out).mono ?_
        rintro e w7 ⟨rfl, hw7, T7, g7, n7⟩
        have H7 := Lib.hid (H6.out.turnR hw7 g7 n7)
        have HK7 := Lib.hid (kept_blk HK6.out HTR.out hw7 n7).1
        clear hw7 g7 n7
        clear x1 x2 x3 x4 x5 x6 x7 x8 x9 x10 xs0 xs1 xs2
        have HBA := Below.alloc (Below.refl w7.heap.size w7) (Nat.le_refl _) (.cells #[.int .i64 px, .int .i64 py] 51)
        have H8 := Lib.hid (H7.out.below HBA)
        have HK8 := Lib.hid (blk_new w7 (.cells #[.int .i64 px, .int .i64 py] 51))
        have HL8 := Lib.hid (blk_alloc HK7.out (.cells #[.int .i64 px, .int .i64 py] 51))
        clear HBA
        go_upto_region 33 with fail
        generalize w7.alloc (.cells #[.int .i64 px, .int .i64 py] 51) = w8 at *
        generalize w7.heap.size = p2 at *
        have u0 : w8.cell? ⟨p1, 0, none⟩ = some (.int .i64 px) := blk_cell HL8.out 0
        have u1 : w8.cell? ⟨p1, 1, none⟩ = some (.int .i64 py) := blk_cell HL8.out 1
        have v0 : w8.cell? ⟨p2, 0, none⟩ = some (.int .i64 px) := blk_cell HK8.out 0
        have v1 : w8.cell? ⟨p2, 1, none⟩ = some (.int .i64 py) := blk_cell HK8.out 1
        have hq : ∀ wx, (binOp .eql 51 (.agg #[.int .i64 px, .int .i64 py]) (.agg #[.int .i64 px, .int .i64 py])).run Tryz.prog wx = .ok (.bool true) wx := fun wx => by rw [eql_pos]; simp
        have hgd := fun (x y : Operand) (wx : World) => guard_pos .eql x y px py px py wx
        go_wp2_with fail
        exact ret1v rfl rfl rfl ⟨rfl, _, _, _, H8.out.p, HWR.out⟩
    · have hm2 : mayG kn km = false := by simpa using hm
      have HM := Lib.hid hm2
      clear hm hm2
      go_wp2_with fail
      refine (resize_no q wb kn km kx ky ki HM.out).mono ?_
      rintro e w5 ⟨rfl, b5⟩
      have H5 := Lib.hid (HQ.out.below b5)
      clear b5
      clear o1 o2 o3 o4 o5 o6 o7 o8 o9 o10 os0 os1 os2
      have HBA := Below.alloc (Below.refl w5.heap.size w5) (Nat.le_refl _) (.cells #[.int .i64 0, .int .i64 0] 51)
      have H6 := Lib.hid (H5.out.below HBA)
      have HK6 := Lib.hid (blk_new w5 (.cells #[.int .i64 0, .int .i64 0] 51))
      clear HBA
      go_upto_region 32 with fail
      generalize w5.alloc (.cells #[.int .i64 0, .int .i64 0] 51) = w6 at *
      generalize w5.heap.size = p1 at *
      have x1 : w6.cell? ⟨ob, 1, none⟩ = some (.int .i64 kx) := blk_cell H6.out.ok 1
      have x2 : w6.cell? ⟨ob, 2, none⟩ = some (.int .i64 ky) := blk_cell H6.out.ok 2
      have x3 : w6.cell? ⟨ob, 3, none⟩ = some (.int .i64 kn) := blk_cell H6.out.ok 3
      have x4 : w6.cell? ⟨ob, 4, none⟩ = some (.int .i64 km) := blk_cell H6.out.ok 4
      have x5 : w6.cell? ⟨ob, 5, none⟩ = some (.int .i32 cr) := blk_cell H6.out.ok 5
      have x6 : w6.cell? ⟨ob, 6, none⟩ = some (.int .i64 cw) := blk_cell H6.out.ok 6
      have x7 : w6.cell? ⟨ob, 7, none⟩ = some (.int .i64 cf) := blk_cell H6.out.ok 7
      have x8 : w6.cell? ⟨ob, 8, none⟩ = some (.int .i64 cb) := blk_cell H6.out.ok 8
      have x9 : w6.cell? ⟨ob, 9, none⟩ = some (.int .i64 ca) := blk_cell H6.out.ok 9
      have x10 : w6.cell? ⟨ob, 10, none⟩ = some (.bool ki) := blk_cell H6.out.ok 10
      have xs0 : w6.cell? ⟨sb, 0, none⟩ = some (.int .i64 cf) := blk_cell H6.out.sk 0
      have xs1 : w6.cell? ⟨sb, 1, none⟩ = some (.int .i64 cb) := blk_cell H6.out.sk 1
      have xs2 : w6.cell? ⟨sb, 2, none⟩ = some (.int .i64 ca) := blk_cell H6.out.sk 2
      go_wp2_with fail
      refine (resizeD_no r w6 kn km kx ky ki HM.out).mono ?_
      rintro e w7 ⟨rfl, b7⟩
      have H7 := Lib.hid (H6.out.below b7)
      have HK7 := Lib.hid (blk_below HK6.out b7 (heap_lt HK6.out))
      clear b7
      clear x1 x2 x3 x4 x5 x6 x7 x8 x9 x10 xs0 xs1 xs2
      have HBA := Below.alloc (Below.refl w7.heap.size w7) (Nat.le_refl _) (.cells #[.int .i64 0, .int .i64 0] 51)
      have H8 := Lib.hid (H7.out.below HBA)
      have HK8 := Lib.hid (blk_new w7 (.cells #[.int .i64 0, .int .i64 0] 51))
      have HL8 := Lib.hid (blk_alloc HK7.out (.cells #[.int .i64 0, .int .i64 0] 51))
      clear HBA
      go_upto_region 33 with fail
      generalize w7.alloc (.cells #[.int .i64 0, .int .i64 0] 51) = w8 at *
      generalize w7.heap.size = p2 at *
      have u0 : w8.cell? ⟨p1, 0, none⟩ = some (.int .i64 0) := blk_cell HL8.out 0
      have u1 : w8.cell? ⟨p1, 1, none⟩ = some (.int .i64 0) := blk_cell HL8.out 1
      have v0 : w8.cell? ⟨p2, 0, none⟩ = some (.int .i64 0) := blk_cell HK8.out 0
      have v1 : w8.cell? ⟨p2, 1, none⟩ = some (.int .i64 0) := blk_cell HK8.out 1
      have hq : ∀ wx, (binOp .eql 51 (.agg #[.int .i64 0, .int .i64 0]) (.agg #[.int .i64 0, .int .i64 0])).run Tryz.prog wx = .ok (.bool true) wx := fun wx => by rw [eql_pos]; rfl
      have hgd := fun (x y : Operand) (wx : World) => guard_pos .eql x y 0 0 0 0 wx
      go_wp2_with fail
      exact ret1v rfl rfl rfl ⟨rfl, _, _, _, H8.out.p, HWH.out⟩
end Go.Proofs.YtjclgoiclbkgjaaGreatDoor

/- The law GridPlays: a call on both grids: Clear; what is told. -/
namespace Go.Proofs.YtjclgoiclbkgjaaGreatDoor
open Go.RowKit
attribute [local go_sem ↓] Go.wp_at_zero Go.wp_at_succ

set_option maxRecDepth 100000 in
set_option maxHeartbeats 8000000 in
theorem does_12 {w : World} {Tg Tr : Nat → Nat} {q r bp : Nat} {wr : World} {g : Gr} (h : Bp w Tg Tr q r bp wr g g) (hwh : g.All WhR) (o : OpR) (hok : o.Ok) (htab : Tabs w) (hsel : pickV o.kind 14 = 12) :
    Calls Tryz.prog 7 #[.pointer (some ⟨bp, 0, none⟩), .agg o.cells.toArray] wr fun e w' => e = .returned (.bool true) ∧ ∃ Tg' Tr' g', Bp w Tg' Tr' q r bp w' g' g' ∧ g'.All WhR := by
  obtain ⟨kd, kx, ky, kn, km, ⟨cr, cw, ⟨cf, cb, ca⟩⟩, ki⟩ := o
  obtain ⟨f0, f1, f2, f3, f4, f5, f6, f7, f8, f9⟩ := hok
  dsimp only at hsel f0 f1 f2 f3 f4 f5 f6 f7 f8 f9
  have F := Lib.hid (show I64 kd ∧ I64 kn ∧ I64 km ∧ (-2147483648 ≤ cr ∧ cr ≤ 2147483647) ∧ I64 cf ∧ I64 cb from ⟨f0, f3, f4, f5, f7, f8⟩)
  clear f0 f1 f2 f3 f4 f5 f6 f7 f8 f9
  have HT := Lib.hid htab
  have HWH := Lib.hid hwh
  have HOG := Lib.hid (show Tg wr.heap.size = 0 from h.gm.own0 (Nat.le_refl _))
  have HOR := Lib.hid (show Tr wr.heap.size = 0 from h.rm.own0 (Nat.le_refl _))
  have HB1 := Lib.hid (h.below (Below.alloc (Below.refl wr.heap.size wr) (Nat.le_refl _) (.cells #[.int .i64 kd, .int .i64 kx, .int .i64 ky, .int .i64 kn, .int .i64 km, .int .i32 cr, .int .i64 cw, .int .i64 cf, .int .i64 cb, .int .i64 ca, .bool ki] 40)))
  have HK1 := Lib.hid (blk_new wr (.cells #[.int .i64 kd, .int .i64 kx, .int .i64 ky, .int .i64 kn, .int .i64 km, .int .i32 cr, .int .i64 cw, .int .i64 cf, .int .i64 cb, .int .i64 ca, .bool ki] 40))
  clear h htab hwh
  unfold OpR.cells
  go_enter Tryz.func7, Tryz.ntmps7
  go_upto_region 1 with fail
  generalize wr.alloc (.cells #[.int .i64 kd, .int .i64 kx, .int .i64 ky, .int .i64 kn, .int .i64 km, .int .i32 cr, .int .i64 cw, .int .i64 cf, .int .i64 cb, .int .i64 ca, .bool ki] 40) = wa at *
  generalize wr.heap.size = ob at *
  have b0 : wa.cell? ⟨bp, 0, none⟩ = some (.pointer (some ⟨q, 0, none⟩)) := blk_cell HB1.out.bb 0
  have b1 : wa.cell? ⟨bp, 1, none⟩ = some (.pointer (some ⟨r, 0, none⟩)) := blk_cell HB1.out.bb 1
  have o7 : wa.cell? ⟨ob, 7, none⟩ = some (.int .i64 cf) := blk_cell HK1.out 7
  have o8 : wa.cell? ⟨ob, 8, none⟩ = some (.int .i64 cb) := blk_cell HK1.out 8
  have o9 : wa.cell? ⟨ob, 9, none⟩ = some (.int .i64 ca) := blk_cell HK1.out 9
  have HQ := Lib.hid (show Bq w Tg Tr q r bp ob wa.heap.size #[.int .i64 kd, .int .i64 kx, .int .i64 ky, .int .i64 kn, .int .i64 km, .int .i32 cr, .int .i64 cw, .int .i64 cf, .int .i64 cb, .int .i64 ca, .bool ki] #[.int .i64 cf, .int .i64 cb, .int .i64 ca] (wa.alloc (.cells #[.int .i64 cf, .int .i64 cb, .int .i64 ca] 36)) g g from
    ⟨HB1.out.below (Below.alloc (Below.refl wa.heap.size wa) (Nat.le_refl _) _), blk_alloc HK1.out _, HOG.out, HOR.out, blk_new _ _, HB1.out.gm.own0 (Nat.le_refl _), HB1.out.rm.own0 (Nat.le_refl _)⟩)
  go_upto_region 4 with fail
  clear b0 b1 o7 o8 o9
  generalize wa.alloc (.cells #[.int .i64 cf, .int .i64 cb, .int .i64 ca] 36) = wb at *
  generalize wa.heap.size = sb at *
  have o0 : wb.cell? ⟨ob, 0, none⟩ = some (.int .i64 kd) := blk_cell HQ.out.ok 0
  go_wp2_with fail
  refine (pick_val kd 14 wb F.out.1 (by decide) (by decide)).mono ?_
  rintro e wx1 ⟨rfl, hx1⟩
  subst wx1
  generalize pickV kd 14 = kk at *
  have HSEL := Lib.hid hsel
  clear hsel
  clear o0
  have o1 : wb.cell? ⟨ob, 1, none⟩ = some (.int .i64 kx) := blk_cell HQ.out.ok 1
  have o2 : wb.cell? ⟨ob, 2, none⟩ = some (.int .i64 ky) := blk_cell HQ.out.ok 2
  have o3 : wb.cell? ⟨ob, 3, none⟩ = some (.int .i64 kn) := blk_cell HQ.out.ok 3
  have o4 : wb.cell? ⟨ob, 4, none⟩ = some (.int .i64 km) := blk_cell HQ.out.ok 4
  have o5 : wb.cell? ⟨ob, 5, none⟩ = some (.int .i32 cr) := blk_cell HQ.out.ok 5
  have o6 : wb.cell? ⟨ob, 6, none⟩ = some (.int .i64 cw) := blk_cell HQ.out.ok 6
  have o7 : wb.cell? ⟨ob, 7, none⟩ = some (.int .i64 cf) := blk_cell HQ.out.ok 7
  have o8 : wb.cell? ⟨ob, 8, none⟩ = some (.int .i64 cb) := blk_cell HQ.out.ok 8
  have o9 : wb.cell? ⟨ob, 9, none⟩ = some (.int .i64 ca) := blk_cell HQ.out.ok 9
  have o10 : wb.cell? ⟨ob, 10, none⟩ = some (.bool ki) := blk_cell HQ.out.ok 10
  have os0 : wb.cell? ⟨sb, 0, none⟩ = some (.int .i64 cf) := blk_cell HQ.out.sk 0
  have os1 : wb.cell? ⟨sb, 1, none⟩ = some (.int .i64 cb) := blk_cell HQ.out.sk 1
  have os2 : wb.cell? ⟨sb, 2, none⟩ = some (.int .i64 ca) := blk_cell HQ.out.sk 2
  have HRI := Lib.hid (right_all ⟨cf, cb, ca⟩ wb (HT.out.below HQ.out.p.b) F.out.2.2.2.2.1 F.out.2.2.2.2.2)
  have HGB := Lib.hid HQ.out.p.gm
  go_upto_block 0 with fail
  go_cut [] (fun wz => ∃ Tg' Tr' g', Hid (Bp w Tg' Tr' q r bp wz g' g') ∧ Hid (g'.All WhR))
  case rest =>
    obtain ⟨Tg', Tr', g', HB9, HW9⟩ := hcut
    go_wp2_with fail
    exact ret1v rfl rfl rfl ⟨rfl, _, _, _, HB9.out, HW9.out⟩
  case first =>
    have hsel := HSEL.out
    subst hsel
    have hr5 : IntKind.i64.wrap (kn.tmod 5) = kn.tmod 5 := by
      have h1 : kn.tmod 5 < 5 := Int.tmod_lt_of_pos _ (by decide)
      have h2 : -5 < kn.tmod 5 := Int.lt_tmod_of_pos _ (by decide)
      exact wrap64_id _ (by omega) (by omega)
    go_upto_region 35 with fail
    go_cut [223] (fun v wx => (∃ f : Bool, v = .bool f) ∧ wx = wb)
    case first =>
      go_wp2_with fail
      go_meet
      exact ⟨⟨_, rfl⟩, rfl⟩
    case rest =>
    obtain ⟨⟨f, rfl⟩, rfl⟩ := hcut
    obtain ⟨wb, rfl⟩ : ∃ w0, w0 = wc := ⟨wc, rfl⟩
    go_upto_if 223 with fail
    clear o1 o2 o3 o4 o5 o6 o7 o8 o9 o10 os0 os1 os2
    go_cut [] (fun wz => ∃ g', Hid (Bq w Tg Tr q r bp ob sb #[.int .i64 kd, .int .i64 kx, .int .i64 ky, .int .i64 kn, .int .i64 km, .int .i32 cr, .int .i64 cw, .int .i64 cf, .int .i64 cb, .int .i64 ca, .bool ki] #[.int .i64 cf, .int .i64 cb, .int .i64 ca] wz g' g') ∧ Hid (g'.All WhR))
    case first =>
      cases f
      · go_wp2_with fail
        go_meet
        exact ⟨_, HQ, HWH⟩
      · go_wp2_with fail
        refine (clearG_any HGB.out).mono ?_
        rintro e w5 ⟨rfl, hw5, g5⟩
        have H5 := Lib.hid (HQ.out.putG hw5 g5)
        clear hw5 g5
        have hRR := H5.out.p.rm
        obtain ⟨vr, vo, Lr, Lo, hA⟩ := hRR
        have hc := rm_clear hA
        have H6 := Lib.hid (H5.out.putR hc.2 hc.1)
        have r3 : w5.cell? ⟨r, 3, none⟩ = some vo := blk_cell hA.blk 3
        have z3 : w5.frozen? ⟨r, 3, none⟩ = false := blk_free hA.blk 3
        clear hA hc
        go_wp2_with fail
        go_meet
        exact ⟨_, H6, clear_wh HWH.out⟩
    case rest =>
    obtain ⟨g', H5, HW5⟩ := hcut
    obtain ⟨w5, rfl⟩ : ∃ w0, w0 = wc := ⟨wc, rfl⟩
    as_aux_lemma =>
      have HROW := Lib.hid (wf_row H5.out.p.gm.wf ky)
      have y1 : w5.cell? ⟨ob, 1, none⟩ = some (.int .i64 kx) := blk_cell H5.out.ok 1
      have y2 : w5.cell? ⟨ob, 2, none⟩ = some (.int .i64 ky) := blk_cell H5.out.ok 2
      have HD0 := Lib.hid ((Below.refl w5.heap.size w5).drew)
      have hy : w5.drew.cell? ⟨ob, 1, none⟩ = some (.int .i64 kx) ∧ w5.drew.cell? ⟨ob, 2, none⟩ = some (.int .i64 ky) := ⟨cell_below HD0.out y1, cell_below HD0.out y2⟩
      have hYY : ∀ wx, Below w5.heap.size w5 wx → wx.cell? ⟨ob, 1, none⟩ = some (.int .i64 kx) ∧ wx.cell? ⟨ob, 2, none⟩ = some (.int .i64 ky) := fun wx bx => ⟨cell_below bx y1, cell_below bx y2⟩
      have HYY := Lib.hid hYY
      have hq : ∀ wx, (binOp .eql 38 (g'.cell kx ky).val (g'.cell kx ky).val).run Tryz.prog wx = .ok (.bool true) wx := fun wx => by rw [eql_cel, (Cel.eqb_iff _ _).2 rfl]
      have hgd := fun (x y : Operand) (wx : World) => guard_cel .eql x y (g'.cell kx ky) (g'.cell kx ky) wx
      have HCG := Lib.hid (fun wx (bx : Below w5.heap.size w5 wx) => cell_any (H5.out.below bx).p.gm kx ky)
      have HCR := Lib.hid (fun wx (bx : Below w5.heap.size w5 wx) => cellD_any (H5.out.below bx).p.rm kx ky)
      have HTG := Lib.hid (fun wx (bx : Below w5.heap.size w5 wx) => text_any (H5.out.below bx).p.gm ky)
      have HTO := Lib.hid (fun v wx (ox : OwnC wx 0 5 v (g'.row ky).cells.length (cvals (g'.row ky).cells)) => textOf_any (g'.row ky).cells v wx ox (by have := HROW.out.1; omega))
      have HWG := Lib.hid (fun wx (bx : Below w5.heap.size w5 wx) => wrapped_any (H5.out.below bx).p.gm ky)
      have HWD := Lib.hid (fun wx (bx : Below w5.heap.size w5 wx) => wrappedD_any (H5.out.below bx).p.rm ky)
      have HLD := Lib.hid (fun wx (bx : Below w5.heap.size w5 wx) => lineD_any (H5.out.below bx).p.rm ky)
      generalize (⟨(textL (g'.row ky).cells).toArray⟩ : ByteArray) = tx at *
      generalize g'.cell kx ky = cc at *
      generalize (g'.row ky).wrap = wv at *
      clear y1 y2 hYY
      go_upto_region 38 with fail
      refine wpL_begin (c := 99) (S := (fun bb w' => (w'.cell? ⟨ob, 1, none⟩ = some (.int .i64 kx) ∧ w'.cell? ⟨ob, 2, none⟩ = some (.int .i64 ky)) ∧ (bb = false → True))) (by kernel_rfl) (⟨hy, fun _ => trivial⟩) (fun _ => ?_)
      refine wpL_tk false 0 (⟨hy, fun _ => trivial⟩) ?_
      refine wpL_tk false 1 (⟨hy, fun _ => trivial⟩) ?_
      refine wpL_tk false 2 (⟨hy, fun _ => trivial⟩) ?_
      refine wpL_tk false 3 (⟨hy, fun _ => trivial⟩) ?_
      refine wpL_tk false 4 (⟨hy, fun _ => trivial⟩) ?_
      refine wpL_tk false 6 (⟨hy, fun _ => trivial⟩) ?_
      refine wpL_tk false 7 (⟨hy, fun _ => trivial⟩) ?_
      refine wpL_tk false 8 (⟨hy, fun _ => trivial⟩) ?_
      refine wpL_tk false 9 (⟨hy, fun _ => trivial⟩) ?_
      refine wpL_tk false 10 (⟨hy, fun _ => trivial⟩) ?_
      refine wpL_on false 5 fun K hK => ?_
      refine wanted_on rfl ?_
      go_wp2_with fail
      refine (HCG.out _ HD0.out).mono ?_
      rintro e w6 ⟨rfl, b6⟩
      have HB6 := Lib.hid (show Below w5.heap.size w5 w6 from HD0.out.trans b6)
      have hy6 := HYY.out w6 HB6.out
      clear b6
      refine hK.out _ _ (⟨hy6, fun _ => trivial⟩) (fun _ => ?_)
      clear hK K 
      try simp only [Act.put, List.setIfInBounds_toArray, List.set_cons_zero, List.set_cons_succ]
      refine wpL_on false 11 fun K hK => ?_
      refine wanted_on rfl ?_
      go_wp2_with fail
      refine (HCR.out _ HB6.out).mono ?_
      rintro e w7 ⟨rfl, b7⟩
      have HB7 := Lib.hid (HB6.out.trans (b7.mono HB6.out.size))
      have hy7 := HYY.out w7 HB7.out
      clear b7
      refine hK.out _ _ (⟨hy7, fun _ => trivial⟩) (fun _ => ?_)
      clear hK K 
      try simp only [Act.put, List.setIfInBounds_toArray, List.set_cons_zero, List.set_cons_succ]
      refine wpL_tk false 12 (⟨hy7, fun _ => trivial⟩) ?_
      refine wpL_tk false 13 (⟨hy7, fun _ => trivial⟩) ?_
      refine wpL_tk false 14 (⟨hy7, fun _ => trivial⟩) ?_
      refine wpL_tk false 15 (⟨hy7, fun _ => trivial⟩) ?_
      refine wpL_tk false 16 (⟨hy7, fun _ => trivial⟩) ?_
      refine wpL_tk false 18 (⟨hy7, fun _ => trivial⟩) ?_
      refine wpL_tk false 19 (⟨hy7, fun _ => trivial⟩) ?_
      refine wpL_tk false 20 (⟨hy7, fun _ => trivial⟩) ?_
      refine wpL_on false 17 fun K hK => ?_
      refine wanted_yes rfl ?_
      go_wp2_with fail
      refine (HTG.out _ HB7.out).mono ?_
      rintro e w8 ⟨rfl, b8⟩
      have HB8 := Lib.hid (HB7.out.trans (b8.mono HB7.out.size))
      have hy8 := HYY.out w8 HB8.out
      clear b8
      refine hK.out _ _ (⟨hy8, fun _ => trivial⟩) (fun _ => ?_)
      clear hK K 
      try simp only [Act.put, List.setIfInBounds_toArray, List.set_cons_zero, List.set_cons_succ]
      refine wpL_on false 21 fun K hK => ?_
      refine wanted_yes rfl ?_
      go_wp2_with fail
      refine (HLD.out _ HB8.out).mono ?_
      rintro e w9 ⟨v9, rfl, b9, o9⟩
      have HB9 := Lib.hid (HB8.out.trans (b9.mono HB8.out.size))
      have hy9 := HYY.out w9 HB9.out
      have HO9 := Lib.hid (ownC_below o9 b9)
      clear b9 o9
      refine hK.out _ _ (⟨hy9, fun _ => trivial⟩) (fun _ => ?_)
      clear hK K 
      try simp only [Act.put, List.setIfInBounds_toArray, List.set_cons_zero, List.set_cons_succ]
      refine wpL_on false 22 fun K hK => ?_
      refine wanted_yes rfl ?_
      go_wp2_with fail
      refine (HTO.out _ _ HO9.out).mono ?_
      rintro e w10 ⟨rfl, b10⟩
      have HB10 := Lib.hid (HB9.out.trans (b10.mono HB9.out.size))
      have hy10 := HYY.out w10 HB10.out
      clear b10
      refine hK.out _ _ (⟨hy10, fun _ => trivial⟩) (fun _ => ?_)
      clear hK K 
      try simp only [Act.put, List.setIfInBounds_toArray, List.set_cons_zero, List.set_cons_succ]
      refine wpL_tk false 23 (⟨hy10, fun _ => trivial⟩) ?_
      refine wpL_tk false 24 (⟨hy10, fun _ => trivial⟩) ?_
      refine wpL_tk false 25 (⟨hy10, fun _ => trivial⟩) ?_
      refine wpL_tk false 26 (⟨hy10, fun _ => trivial⟩) ?_
      refine wpL_tk false 27 (⟨hy10, fun _ => trivial⟩) ?_
      refine wpL_tk false 28 (⟨hy10, fun _ => trivial⟩) ?_
      refine wpL_tk false 30 (⟨hy10, fun _ => trivial⟩) ?_
      refine wpL_tk false 31 (⟨hy10, fun _ => trivial⟩) ?_
      refine wpL_tk false 32 (⟨hy10, fun _ => trivial⟩) ?_
      refine wpL_on false 29 fun K hK => ?_
      refine wanted_yes rfl ?_
      go_wp2_with fail
      refine (HWG.out _ HB10.out).mono ?_
      rintro e w11 ⟨rfl, b11⟩
      have HB11 := Lib.hid (HB10.out.trans (b11.mono HB10.out.size))
      have hy11 := HYY.out w11 HB11.out
      clear b11
      refine hK.out _ _ (⟨hy11, fun _ => trivial⟩) (fun _ => ?_)
      clear hK K 
      try simp only [Act.put, List.setIfInBounds_toArray, List.set_cons_zero, List.set_cons_succ]
      refine wpL_on false 33 fun K hK => ?_
      refine wanted_yes rfl ?_
      go_wp2_with fail
      refine (HWD.out _ HB11.out).mono ?_
      rintro e w12 ⟨rfl, b12⟩
      have HB12 := Lib.hid (HB11.out.trans (b12.mono HB11.out.size))
      have hy12 := HYY.out w12 HB12.out
      have hbw : (wv == wv) = true := by cases wv <;> rfl
      clear b12
      refine hK.out _ _ (⟨hy12, fun _ => trivial⟩) (fun _ => ?_)
      clear hK K 
      try simp only [Act.put, List.setIfInBounds_toArray, List.set_cons_zero, List.set_cons_succ]
      refine wpL_tk false 34 (⟨hy12, fun _ => trivial⟩) ?_
      refine wpL_tk false 35 (⟨hy12, fun _ => trivial⟩) ?_
      refine wpL_tk false 36 (⟨hy12, fun _ => trivial⟩) ?_
      refine wpL_done (by kernel_rfl) ?_ _
      have H12 := Lib.hid (H5.out.below HB12.out)
      clear hy hy6 hy7 hy8 hy9 hy10 hy11 hy12 hq hgd
      go_wp2_with fail
      exact ret1v rfl rfl rfl ⟨rfl, _, _, _, H12.out.p, HW5.out⟩
end Go.Proofs.YtjclgoiclbkgjaaGreatDoor

/- The law GridPlays: a call on both grids: Clone; all. -/
namespace Go.Proofs.YtjclgoiclbkgjaaGreatDoor
open Go.RowKit
attribute [local go_sem ↓] Go.wp_at_zero Go.wp_at_succ

set_option maxRecDepth 100000 in
set_option maxHeartbeats 8000000 in
theorem does_13 {w : World} {Tg Tr : Nat → Nat} {q r bp : Nat} {wr : World} {g : Gr} (h : Bp w Tg Tr q r bp wr g g) (hwh : g.All WhR) (o : OpR) (hok : o.Ok) (htab : Tabs w) (hsel : pickV o.kind 14 = 13) :
    Calls Tryz.prog 7 #[.pointer (some ⟨bp, 0, none⟩), .agg o.cells.toArray] wr fun e w' => e = .returned (.bool true) ∧ ∃ Tg' Tr' g', Bp w Tg' Tr' q r bp w' g' g' ∧ g'.All WhR := by
  obtain ⟨kd, kx, ky, kn, km, ⟨cr, cw, ⟨cf, cb, ca⟩⟩, ki⟩ := o
  obtain ⟨f0, f1, f2, f3, f4, f5, f6, f7, f8, f9⟩ := hok
  dsimp only at hsel f0 f1 f2 f3 f4 f5 f6 f7 f8 f9
  have F := Lib.hid (show I64 kd ∧ I64 kn ∧ I64 km ∧ (-2147483648 ≤ cr ∧ cr ≤ 2147483647) ∧ I64 cf ∧ I64 cb from ⟨f0, f3, f4, f5, f7, f8⟩)
  clear f0 f1 f2 f3 f4 f5 f6 f7 f8 f9
  have HT := Lib.hid htab
  have HWH := Lib.hid hwh
  have HOG := Lib.hid (show Tg wr.heap.size = 0 from h.gm.own0 (Nat.le_refl _))
  have HOR := Lib.hid (show Tr wr.heap.size = 0 from h.rm.own0 (Nat.le_refl _))
  have HB1 := Lib.hid (h.below (Below.alloc (Below.refl wr.heap.size wr) (Nat.le_refl _) (.cells #[.int .i64 kd, .int .i64 kx, .int .i64 ky, .int .i64 kn, .int .i64 km, .int .i32 cr, .int .i64 cw, .int .i64 cf, .int .i64 cb, .int .i64 ca, .bool ki] 40)))
  have HK1 := Lib.hid (blk_new wr (.cells #[.int .i64 kd, .int .i64 kx, .int .i64 ky, .int .i64 kn, .int .i64 km, .int .i32 cr, .int .i64 cw, .int .i64 cf, .int .i64 cb, .int .i64 ca, .bool ki] 40))
  clear h htab hwh
  unfold OpR.cells
  go_enter Tryz.func7, Tryz.ntmps7
  go_upto_region 1 with fail
  generalize wr.alloc (.cells #[.int .i64 kd, .int .i64 kx, .int .i64 ky, .int .i64 kn, .int .i64 km, .int .i32 cr, .int .i64 cw, .int .i64 cf, .int .i64 cb, .int .i64 ca, .bool ki] 40) = wa at *
  generalize wr.heap.size = ob at *
  have b0 : wa.cell? ⟨bp, 0, none⟩ = some (.pointer (some ⟨q, 0, none⟩)) := blk_cell HB1.out.bb 0
  have b1 : wa.cell? ⟨bp, 1, none⟩ = some (.pointer (some ⟨r, 0, none⟩)) := blk_cell HB1.out.bb 1
  have o7 : wa.cell? ⟨ob, 7, none⟩ = some (.int .i64 cf) := blk_cell HK1.out 7
  have o8 : wa.cell? ⟨ob, 8, none⟩ = some (.int .i64 cb) := blk_cell HK1.out 8
  have o9 : wa.cell? ⟨ob, 9, none⟩ = some (.int .i64 ca) := blk_cell HK1.out 9
  have HQ := Lib.hid (show Bq w Tg Tr q r bp ob wa.heap.size #[.int .i64 kd, .int .i64 kx, .int .i64 ky, .int .i64 kn, .int .i64 km, .int .i32 cr, .int .i64 cw, .int .i64 cf, .int .i64 cb, .int .i64 ca, .bool ki] #[.int .i64 cf, .int .i64 cb, .int .i64 ca] (wa.alloc (.cells #[.int .i64 cf, .int .i64 cb, .int .i64 ca] 36)) g g from
    ⟨HB1.out.below (Below.alloc (Below.refl wa.heap.size wa) (Nat.le_refl _) _), blk_alloc HK1.out _, HOG.out, HOR.out, blk_new _ _, HB1.out.gm.own0 (Nat.le_refl _), HB1.out.rm.own0 (Nat.le_refl _)⟩)
  go_upto_region 4 with fail
  clear b0 b1 o7 o8 o9
  generalize wa.alloc (.cells #[.int .i64 cf, .int .i64 cb, .int .i64 ca] 36) = wb at *
  generalize wa.heap.size = sb at *
  have o0 : wb.cell? ⟨ob, 0, none⟩ = some (.int .i64 kd) := blk_cell HQ.out.ok 0
  go_wp2_with fail
  refine (pick_val kd 14 wb F.out.1 (by decide) (by decide)).mono ?_
  rintro e wx1 ⟨rfl, hx1⟩
  subst wx1
  generalize pickV kd 14 = kk at *
  have HSEL := Lib.hid hsel
  clear hsel
  clear o0
  have o1 : wb.cell? ⟨ob, 1, none⟩ = some (.int .i64 kx) := blk_cell HQ.out.ok 1
  have o2 : wb.cell? ⟨ob, 2, none⟩ = some (.int .i64 ky) := blk_cell HQ.out.ok 2
  have o3 : wb.cell? ⟨ob, 3, none⟩ = some (.int .i64 kn) := blk_cell HQ.out.ok 3
  have o4 : wb.cell? ⟨ob, 4, none⟩ = some (.int .i64 km) := blk_cell HQ.out.ok 4
  have o5 : wb.cell? ⟨ob, 5, none⟩ = some (.int .i32 cr) := blk_cell HQ.out.ok 5
  have o6 : wb.cell? ⟨ob, 6, none⟩ = some (.int .i64 cw) := blk_cell HQ.out.ok 6
  have o7 : wb.cell? ⟨ob, 7, none⟩ = some (.int .i64 cf) := blk_cell HQ.out.ok 7
  have o8 : wb.cell? ⟨ob, 8, none⟩ = some (.int .i64 cb) := blk_cell HQ.out.ok 8
  have o9 : wb.cell? ⟨ob, 9, none⟩ = some (.int .i64 ca) := blk_cell HQ.out.ok 9
  have o10 : wb.cell? ⟨ob, 10, none⟩ = some (.bool ki) := blk_cell HQ.out.ok 10
  have os0 : wb.cell? ⟨sb, 0, none⟩ = some (.int .i64 cf) := blk_cell HQ.out.sk 0
  have os1 : wb.cell? ⟨sb, 1, none⟩ = some (.int .i64 cb) := blk_cell HQ.out.sk 1
  have os2 : wb.cell? ⟨sb, 2, none⟩ = some (.int .i64 ca) := blk_cell HQ.out.sk 2
  have HRI := Lib.hid (right_all ⟨cf, cb, ca⟩ wb (HT.out.below HQ.out.p.b) F.out.2.2.2.2.1 F.out.2.2.2.2.2)
  have HGB := Lib.hid HQ.out.p.gm
  go_upto_block 0 with fail
  go_cut [] (fun wz => ∃ Tg' Tr' g', Hid (Bp w Tg' Tr' q r bp wz g' g') ∧ Hid (g'.All WhR))
  case rest =>
    obtain ⟨Tg', Tr', g', HB9, HW9⟩ := hcut
    go_wp2_with fail
    exact ret1v rfl rfl rfl ⟨rfl, _, _, _, HB9.out, HW9.out⟩
  case first =>
    have hsel := HSEL.out
    subst hsel
    clear o1 o2 o3 o4 o5 o6 o7 o8 o9 o10 os0 os1 os2
    go_wp2_with fail
    refine (clone_any HGB.out).mono ?_
    rintro e w5 ⟨cp, Tc, rfl, b5, g5, n5⟩
    have HS5 := Lib.hid (show Sh wb Tc cp w5 g from ⟨b5, g5, n5⟩)
    clear b5 g5 n5
    go_wp2_with fail
    refine (same_any HS5.out.gm (HGB.out.below HS5.out.b)).mono ?_
    rintro e w6 ⟨rfl, b6⟩
    have HS6 := Lib.hid (HS5.out.below b6)
    clear b6
    go_wp2_with fail
    refine (letter_any 81 1 w6).mono ?_
    rintro e w7 ⟨rfl, b7⟩
    have HS7 := Lib.hid (HS6.out.below b7)
    clear b7
    go_wp2_with fail
    refine (put_any HS7.out.gm 0 0 ⟨81, 1, plainS⟩ right_plain ⟨by decide, by decide⟩).mono ?_
    rintro e w8 ⟨rfl, hw8, g8⟩
    have HS8 := Lib.hid (HS7.out.put hw8 g8)
    clear hw8 g8
    go_wp2_with fail
    refine (wrapped_any HS8.out.gm 0).mono ?_
    rintro e w9 ⟨rfl, b9⟩
    have HS9 := Lib.hid (HS8.out.below b9)
    clear b9
    go_wp2_with fail
    refine (wrap_any HS9.out.gm 0 _).mono ?_
    rintro e w10 ⟨rfl, hw10, g10⟩
    have HS10 := Lib.hid (HS9.out.put hw10 g10)
    clear hw10 g10
    generalize ((g.put 0 0 ⟨81, 1, plainS⟩).setWrap 0 _) = gc at *
    have hrc := HS10.out.gm.wf.r2
    have hwr : IntKind.i64.wrap ((gc.rows.length : Int) - 1) = (gc.rows.length : Int) - 1 := wrap64_id _ (by omega) (by omega)
    have HQ10 := Lib.hid (HQ.out.below HS10.out.b)
    have s0 : w10.cell? ⟨sb, 0, none⟩ = some (.int .i64 cf) := blk_cell HQ10.out.sk 0
    have s1 : w10.cell? ⟨sb, 1, none⟩ = some (.int .i64 cb) := blk_cell HQ10.out.sk 1
    have s2 : w10.cell? ⟨sb, 2, none⟩ = some (.int .i64 ca) := blk_cell HQ10.out.sk 2
    have HS11 := Lib.hid (HS10.out.below ((Below.refl w10.heap.size w10).drew))
    have hs3 : w10.drew.cell? ⟨sb, 0, none⟩ = some (.int .i64 cf) ∧ w10.drew.cell? ⟨sb, 1, none⟩ = some (.int .i64 cb) ∧ w10.drew.cell? ⟨sb, 2, none⟩ = some (.int .i64 ca) := ⟨s0, s1, s2⟩
    have HUP := Lib.hid (up_any HS11.out.gm 0 ((gc.rows.length : Int) - 1) 1 ⟨cf, cb, ca⟩ (HRI.out.below HS11.out.b) true)
    go_upto_region 46 with fail
    go_region_held3 (fun w' => w'.cell? ⟨sb, 0, none⟩ = some (.int .i64 cf) ∧ w'.cell? ⟨sb, 1, none⟩ = some (.int .i64 cb) ∧ w'.cell? ⟨sb, 2, none⟩ = some (.int .i64 ca)) (go_keep)
      (first
        | (go_at_call 45
           refine (rowsN_any HS11.out.gm).mono ?_
           rintro e wx1 ⟨rfl, hx1⟩
           subst wx1)
        | (go_at_call 32
           refine HUP.out.mono ?_
           rintro e w12 ⟨rfl, hw12, T12, g12, n12⟩
           have HS12 := Lib.hid (HS11.out.turn hw12 g12 n12)
           have HQ12 := Lib.hid (HQ.out.below HS12.out.b)
           have t0 : w12.cell? ⟨sb, 0, none⟩ = some (.int .i64 cf) := blk_cell HQ12.out.sk 0
           have t1 : w12.cell? ⟨sb, 1, none⟩ = some (.int .i64 cb) := blk_cell HQ12.out.sk 1
           have t2 : w12.cell? ⟨sb, 2, none⟩ = some (.int .i64 ca) := blk_cell HQ12.out.sk 2
           clear hw12 g12 n12))
    clear s0 s1 s2 t0 t1 t2 hs3
    go_wp2_with fail
    exact ret1v rfl rfl rfl ⟨rfl, _, _, _, HQ12.out.p, HWH.out⟩
theorem does_any {w : World} {Tg Tr : Nat → Nat} {q r bp : Nat} {wr : World} {g : Gr} (h : Bp w Tg Tr q r bp wr g g) (hwh : g.All WhR) (o : OpR) (hok : o.Ok) (htab : Tabs w) :
    Calls Tryz.prog 7 #[.pointer (some ⟨bp, 0, none⟩), .agg o.cells.toArray] wr fun e w' => e = .returned (.bool true) ∧ ∃ Tg' Tr' g', Bp w Tg' Tr' q r bp w' g' g' ∧ g'.All WhR := by
  have hk := pickV_lt o.kind 14 (by decide)
  by_cases h1 : pickV o.kind 14 ≤ 3
  · exact does_0 h hwh o hok htab (by omega)
  by_cases h2 : pickV o.kind 14 ≤ 6
  · exact does_4 h hwh o hok htab (by omega)
  by_cases h3 : pickV o.kind 14 ≤ 10
  · exact does_7 h hwh o hok htab (by omega)
  by_cases h4 : pickV o.kind 14 = 11
  · exact does_11 h hwh o hok htab h4
  by_cases h5 : pickV o.kind 14 = 12
  · exact does_12 h hwh o hok htab h5
  · exact does_13 h hwh o hok htab (by omega)
end Go.Proofs.YtjclgoiclbkgjaaGreatDoor

/- The law GridPlays: the walk. -/
namespace Go.Proofs.YtjclgoiclbkgjaaGreatDoor
open Go.RowKit
attribute [local go_sem ↓] Go.wp_at_zero Go.wp_at_succ

set_option maxRecDepth 100000 in
set_option maxHeartbeats 8000000 in
theorem gridPlays_walk (cols rows hist : Int) (sv : Value) (ops : List OpR) (w : World) (ho : IsOps w sv ops) (hok : ∀ o ∈ ops, o.Ok) (htab : Tabs w) :
    Calls Tryz.prog 3 #[.int .i64 cols, .int .i64 rows, .int .i64 hist, sv] w fun e w' => e = .returned (.bool true) ∧ Below w.heap.size w w' := by
  have hsl : ∀ ty wx, (Builtin.len_ #[22] ty #[sv]).run Tryz.prog wx = .ok (.int .i64 ops.length) wx := fun ty wx => by
    rcases ho with ⟨rfl, e⟩ | ⟨a, c, rfl, _⟩
    · subst e
      go_simp
    · go_simp
  have HOP := Lib.hid ho
  have HOK := Lib.hid hok
  have HTB := Lib.hid htab
  clear ho hok htab
  go_enter Tryz.func3, Tryz.ntmps3
  go_wp2_with fail
  refine (shown_any w).mono ?_
  rintro e w1 ⟨rfl, b1⟩
  have HB1 := Lib.hid b1
  clear b1
  by_cases hbad : mayG cols rows = false ∨ hist < 0 ∨ 2000 < hist
  · have HBAD := Lib.hid hbad
    clear hbad
    go_wp2_with fail
    refine (newGrid_no cols rows hist w1 HBAD.out).mono ?_
    rintro e wx1 ⟨rfl, hx1⟩
    subst wx1
    go_wp2_with fail
    refine (newD_no cols rows hist w1 HBAD.out).mono ?_
    rintro e wx1 ⟨rfl, hx1⟩
    subst wx1
    go_wp2_with fail
    exact ret1v rfl rfl rfl ⟨rfl, HB1.out⟩
  have hmm : mayG cols rows = true := by
    cases h : mayG cols rows
    · exact absurd (.inl h) hbad
    · rfl
  obtain ⟨m1, m2, m3, m4⟩ := mayG_iff hmm
  have m5 : 0 ≤ hist ∧ hist ≤ 2000 := by
    refine ⟨?_, ?_⟩
    · by_cases h : hist < 0
      · exact absurd (.inr (.inl h)) hbad
      · omega
    · by_cases h : 2000 < hist
      · exact absurd (.inr (.inr h)) hbad
      · omega
  clear hbad hmm
  obtain ⟨cN, rfl⟩ : ∃ c : Nat, cols = c := ⟨cols.toNat, by omega⟩
  obtain ⟨rN, rfl⟩ : ∃ c : Nat, rows = c := ⟨rows.toNat, by omega⟩
  obtain ⟨hN, rfl⟩ : ∃ c : Nat, hist = c := ⟨hist.toNat, by omega⟩
  go_wp2_with fail
  refine (newGrid_any cN rN hN w1 (by omega) (by omega) (by omega) (by omega) (by omega)).mono ?_
  rintro e w2 ⟨q, Tg, rfl, b2, g2, n2⟩
  have HB2 := Lib.hid (HB1.out.trans (b2.mono HB1.out.size))
  have HG2 := Lib.hid g2
  have HN2 := Lib.hid (show ∀ k, Tg k ≠ 0 → w.heap.size ≤ k from fun k hk => Nat.le_trans HB1.out.size (n2 k hk))
  clear b2 g2 n2
  go_wp2_with fail
  refine (newD_any cN rN hN w2 (by omega) (by omega) (by omega) (by omega) (by omega)).mono ?_
  rintro e w3 ⟨r, Tr, rfl, b3, g3, n3⟩
  have HB3 := Lib.hid (HB2.out.trans (b3.mono HB2.out.size))
  have HP3 := Lib.hid (show Bp w Tg Tr q r w3.heap.size (w3.alloc (.cells #[.pointer (some ⟨q, 0, none⟩), .pointer (some ⟨r, 0, none⟩)] 33)) (newG cN rN hN) (newG cN rN hN) from by
    have hba := Below.alloc (Below.refl w3.heap.size w3) (Nat.le_refl _) (.cells #[.pointer (some ⟨q, 0, none⟩), .pointer (some ⟨r, 0, none⟩)] 33)
    have hg := (HG2.out.below b3)
    have hs2 := HB2.out.size
    refine ⟨HB3.out.trans (hba.mono HB3.out.size), hg.below hba, g3.below hba, HN2.out, fun k hk => Nat.le_trans hs2 (n3 k hk), fun k hk => ?_, hg.own0 (Nat.le_refl _), g3.own0 (Nat.le_refl _), blk_new _ _⟩
    have h1 := HG2.out.lt k hk
    exact Classical.byContradiction fun e => by have := n3 k e; omega)
  have HW3 := Lib.hid (all_new cN rN hN WhR (wh_blanks _ _))
  clear b3 g3 n3 HG2 HN2 HB2 HB1
  go_upto_region 9 with fail
  generalize w3.alloc (.cells #[.pointer (some ⟨q, 0, none⟩), .pointer (some ⟨r, 0, none⟩)] 33) = w4 at *
  generalize newG cN rN hN = g0 at *
  generalize w3.heap.size = bp at *
  clear HB3
  go_upto_region 10 with fail
  go_loopw [15] (fun iv wr => ∃ (k : Nat) (Tg Tr : Nat → Nat) (g : Gr), k ≤ ops.length ∧ k ≤ 200 ∧ iv = .int .i64 k ∧ Hid (Bp w Tg Tr q r bp wr g g) ∧ Hid (g.All WhR)) (fun iv _ => 200 - (intOf iv).toNat)
  case atStart => exact ⟨0, Tg, Tr, g0, Nat.zero_le _, by omega, rfl, HP3, HW3⟩
  case round =>
    obtain ⟨k, Tg, Tr, g, hk, hk2, rfl, HB, HW⟩ := hrel
    obtain ⟨wo, rfl⟩ : ∃ wo, wo = wr := ⟨wr, rfl⟩
    by_cases hlt : k < ops.length ∧ k < 200
    · obtain ⟨hlt, h200⟩ := hlt
      have d1 : decide ((k : Int) < (ops.length : Int)) = true := decide_eq_true (by omega)
      have d1' : decide (k < ops.length) = true := decide_eq_true hlt
      have d2 : decide ((k : Int) < 200) = true := decide_eq_true (by omega)
      have d2' : decide (k < 200) = true := decide_eq_true h200
      have hwk : IntKind.i64.wrap ((k : Int) + 1) = (k : Int) + 1 := wrap64_id _ (by omega) (by omega)
      obtain ⟨a, ac, hsv, hcells⟩ : ∃ (a : Addr) (ac : Nat), sv = .slice (some a) ops.length ac ∧ ∀ i u, ops[k].cells[i]? = some u → wo.cell? ((a.add (k * 11)).add i) = some u := by
        rcases isOps_below HOP.out HB.out.b with ⟨_, e⟩ | ⟨a, ac, e, _, _, hcc⟩
        · subst e
          exact absurd hlt (by simp)
        · exact ⟨a, ac, e, fun i u hu => hcc k hlt i u hu⟩
      subst hsv
      have hix := idx_genN (P := Tryz.prog) (size := 11) Tryz.underlying22 (by kernel_rfl) a ops.length ac k hlt
      have HDO := Lib.hid (does_any HB.out HW.out ops[k] (HOK.out ops[k] (List.getElem_mem hlt)) HTB.out)
      generalize ops[k] = o at *
      generalize a.add (k * 11) = ad at *
      obtain ⟨kd, kx, ky, kn, km, ⟨cr, cw, ⟨cf, cb, ca⟩⟩, ki⟩ := o
      have q0 : wo.cell? ad = some (.int .i64 kd) := hcells 0 _ rfl
      have q1 : wo.cell? ⟨ad.block, ad.off + 1, none⟩ = some (.int .i64 kx) := hcells 1 _ rfl
      have q2 : wo.cell? ⟨ad.block, ad.off + 2, none⟩ = some (.int .i64 ky) := hcells 2 _ rfl
      have q3 : wo.cell? ⟨ad.block, ad.off + 3, none⟩ = some (.int .i64 kn) := hcells 3 _ rfl
      have q4 : wo.cell? ⟨ad.block, ad.off + 4, none⟩ = some (.int .i64 km) := hcells 4 _ rfl
      have q5 : wo.cell? ⟨ad.block, ad.off + 5, none⟩ = some (.int .i32 cr) := hcells 5 _ rfl
      have q6 : wo.cell? ⟨ad.block, ad.off + 6, none⟩ = some (.int .i64 cw) := hcells 6 _ rfl
      have q7 : wo.cell? ⟨ad.block, ad.off + 7, none⟩ = some (.int .i64 cf) := hcells 7 _ rfl
      have q8 : wo.cell? ⟨ad.block, ad.off + 8, none⟩ = some (.int .i64 cb) := hcells 8 _ rfl
      have q9 : wo.cell? ⟨ad.block, ad.off + 9, none⟩ = some (.int .i64 ca) := hcells 9 _ rfl
      have q10 : wo.cell? ⟨ad.block, ad.off + 10, none⟩ = some (.bool ki) := hcells 10 _ rfl
      have HDO := Lib.hid (show Calls Tryz.prog 7 #[.pointer (some ⟨bp, 0, none⟩), .agg #[.int .i64 kd, .int .i64 kx, .int .i64 ky, .int .i64 kn, .int .i64 km, .int .i32 cr, .int .i64 cw, .int .i64 cf, .int .i64 cb, .int .i64 ca, .bool ki]] wo fun e w' => e = .returned (.bool true) ∧ ∃ Tg' Tr' g', Bp w Tg' Tr' q r bp w' g' g' ∧ g'.All WhR from HDO.out)
      clear hcells
      go_wp2_with fail
      refine HDO.out.mono ?_
      rintro e w5 ⟨rfl, Tg5, Tr5, g5, p5, a5⟩
      have HP5 := Lib.hid p5
      have HW5 := Lib.hid a5
      clear q0 q1 q2 q3 q4 q5 q6 q7 q8 q9 q10 hix p5 a5 HDO
      go_wp2_with fail
      refine (alike_any HP5.out.gm HP5.out.rm).mono ?_
      rintro e w6 ⟨rfl, b6⟩
      have HP6 := Lib.hid (HP5.out.below b6)
      have HROW := Lib.hid (wf_row HP6.out.gm.wf 0)
      clear b6
      go_wp2_with fail
      refine (line_any HP6.out.gm 0 (by have := HROW.out.1; omega)).mono ?_
      rintro e w7 ⟨lv, rfl, b7, o7⟩
      have HB7 := Lib.hid b7
      have HO7 := Lib.hid o7
      have hln := HROW.out.1
      have hlen := ownC_ln Tryz.underlying42 o7
      obtain ⟨la, lc, rfl⟩ := ownC_sl o7
      clear b7 o7
      generalize hcs : (g5.row 0).cells = cs at *
      have HCS := Lib.hid hcs
      clear hcs
      go_upto_region 18 with fail
      go_loopw [19] (fun jv wi => ∃ (j : Nat) (xs : List Value), j ≤ cs.length ∧ jv = .int .i64 j ∧ Hid (Below w6.heap.size w6 wi) ∧ Hid (OwnC wi w6.heap.size 5 (.slice la cs.length lc) cs.length xs)) (fun jv _ => cs.length - (intOf jv).toNat)
      case atStart => exact ⟨0, _, Nat.zero_le _, rfl, HB7, HO7⟩
      case round =>
        obtain ⟨j, xs, hj, rfl, HBi, HOi⟩ := hrel
        obtain ⟨wi, rfl⟩ : ∃ wo, wo = wr := ⟨wr, rfl⟩
        by_cases hjl : j < cs.length
        · have e1 : decide ((j : Int) < (cs.length : Int)) = true := decide_eq_true (by omega)
          have e1' : decide (j < cs.length) = true := decide_eq_true hjl
          have hwj : IntKind.i64.wrap ((j : Int) + 1) = (j : Int) + 1 := wrap64_id _ (by omega) (by omega)
          obtain ⟨b, off, c, e2, _, _⟩ := ownC_pos HOi.out (by omega)
          simp only [Value.slice.injEq] at e2
          obtain ⟨e3, _, e4⟩ := e2
          subst e3 e4
          have hixj := idx_at (P := Tryz.prog) (size := 5) Tryz.underlying42 cell_info b off cs.length lc j hjl
          have hb := ownC_lt HOi.out b rfl
          obtain ⟨t1, t2⟩ := ownC_cellx HOi.out (j * 5) (by omega)
          have hxl : j * 5 < xs.length := by have := HOi.out.1; omega
          rw [List.getElem?_eq_getElem hxl] at t1
          generalize xs[j * 5] = xv at t1
          have HOn := Lib.hid (ownC_put HOi.out (j * 5) [.int .i32 122] (by simp; omega))
          have HBn := Lib.hid (HBi.out.grown (gb_set (gb_refl wi (some b)) (off + j * 5) (.int .i32 122)) HBi.out.size (fun q hq => by injection hq with hq; omega))
          go_wp2_with fail
          go_roundw
          case rel => exact ⟨j + 1, _, by omega, by go_num, HBn, HOn⟩
          case measure => simp [intOf]; omega
        · have e1 : decide ((j : Int) < (cs.length : Int)) = false := decide_eq_false (by omega)
          have e1' : decide (j < cs.length) = false := decide_eq_false hjl
          have HPn := Lib.hid (HP6.out.below HBi.out)
          go_wp2_with fail
          go_roundw
          case rel => exact ⟨k + 1, _, _, _, by omega, by omega, by go_num, HPn, HW5⟩
          case measure => simp [intOf]; omega
    · have HEND := Lib.hid (alike_any HB.out.gm HB.out.rm)
      by_cases hlen : k < ops.length
      · have d1 : decide ((k : Int) < (ops.length : Int)) = true := decide_eq_true (by omega)
        have d1' : decide (k < ops.length) = true := decide_eq_true hlen
        have d2 : decide ((k : Int) < 200) = false := decide_eq_false (by omega)
        have d2' : decide (k < 200) = false := decide_eq_false (by omega)
        go_wp2_with fail
        refine HEND.out.mono ?_
        rintro e w9 ⟨rfl, b9⟩
        have HB9 := Lib.hid (HB.out.b.trans (b9.mono HB.out.b.size))
        go_wp2_with fail
        exact ret1v rfl rfl rfl ⟨rfl, HB9.out⟩
      · have d1 : decide ((k : Int) < (ops.length : Int)) = false := decide_eq_false (by omega)
        have d1' : decide (k < ops.length) = false := decide_eq_false hlen
        go_wp2_with fail
        refine HEND.out.mono ?_
        rintro e w9 ⟨rfl, b9⟩
        have HB9 := Lib.hid (HB.out.b.trans (b9.mono HB.out.b.size))
        go_wp2_with fail
        exact ret1v rfl rfl rfl ⟨rfl, HB9.out⟩
end Go.Proofs.YtjclgoiclbkgjaaGreatDoor

/- A world for the witness of package grid's laws: the settled one, with what the row lists. -/
namespace Go.Proofs.YtjclgoiclbkgjaaGreatDoor
open Go.ChangeShapes Go.WideShapes Go.ChangeAt Go.RowKit

set_option linter.unusedVariables false
def litValG : DataW Unit → Value
  | .lit (.int k z) => .int k z
  | _ => undef
def datCellsG : DataW Unit → Array Value
  | .agg l => (l.map litValG).toArray
  | _ => #[]
def rowCellsG : DataW Unit → List Value
  | .agg l => l.map litValG
  | _ => []
/-- The ranges of a table that is listed. -/
def tabCellsG : DataW Unit → Array Value
  | .ptr (.agg (.slice l _ :: _)) => (l.flatMap rowCellsG).toArray
  | _ => #[]
def laidInG (heap : Array Obj) (g : Nat) (d : DataW Unit) : Array Obj := heap.modify g fun
  | .cells _ t frozen => .cells (datCellsG d) t frozen
  | o => o
def laidPtrG (heap : Array Obj) (g : Nat) (d : DataW Unit) : Array Obj :=
  ((heap.modify g fun
    | .cells _ t frozen => .cells #[.pointer (some ⟨heap.size, 0, none⟩)] t frozen
    | o => o).push (.cells #[.slice (some ⟨heap.size + 1, 0, none⟩) ((tabCellsG d).size / 3) ((tabCellsG d).size / 3), .slice none 0 0, .int .i64 2] 152 (0, 0))).push (.cells (tabCellsG d) 155 (0, 0))
noncomputable def laidWorldG (os : Os) (args : Array Value) : World :=
  { World.holding Tryz.prog os ⟨#[], args, []⟩ with heap := laidPtrG (laidInG (laidInG (laidInG (laidInG (World.holding Tryz.prog os ⟨#[], args, []⟩).heap 2 Rows.laid_internal_strconv_uint64pow10) 3 Rows.laid_math_bits_deBruijn32tab) 4 Rows.laid_math_bits_deBruijn64tab) 0 Rows.laid_strings_asciiSpace) 1 Rows.laid_unicode_White_Space }
end Go.Proofs.YtjclgoiclbkgjaaGreatDoor

/- What the rows' list of variables gives: the tables that style.Name reads. -/
namespace Go.Proofs.YtjclgoiclbkgjaaGreatDoor
open Go.ChangeShapes Go.WideShapes Go.ChangeAt Go.RowKit

theorem gPow : Tryz.prog.globalNamed "internal/strconv.uint64pow10" = some 2 := by kernel_rfl
theorem gPowType : (Tryz.prog.globals[2]?).map (·.type) = some 162 := by kernel_rfl
theorem gSp : Tryz.prog.globalNamed "strings.asciiSpace" = some 0 := by kernel_rfl
theorem gSpType : (Tryz.prog.globals[0]?).map (·.type) = some 135 := by kernel_rfl
theorem gDb : Tryz.prog.globalNamed "math/bits.deBruijn64tab" = some 4 := by kernel_rfl
theorem gDbType : (Tryz.prog.globals[4]?).map (·.type) = some 169 := by kernel_rfl
theorem cellsPow : Tryz.prog.cellsOf 162 = 20 := by kernel_rfl
theorem cellsSp : Tryz.prog.cellsOf 135 = 256 := by kernel_rfl
theorem cellsDb : Tryz.prog.cellsOf 169 = 64 := by kernel_rfl
theorem cellsU64T : Tryz.prog.cellsOf 144 = 1 := by kernel_rfl
theorem cellsU8T : Tryz.prog.cellsOf 5 = 1 := by kernel_rfl
def litInt : DataW Unit → Int
  | .lit (.int _ z) => z
  | _ => 0
def aggInts : DataW Unit → List Int
  | .agg l => l.map litInt
  | _ => []
def dbTab : List Int := aggInts Rows.laid_math_bits_deBruijn64tab
theorem powData_eq : (Rows.laid_internal_strconv_uint64pow10 : DataW Unit) = Lib.tabData .u64 Lib.pow10Tab := by kernel_rfl
theorem spData_eq : (Rows.laid_strings_asciiSpace : DataW Unit) = Lib.tabData .u8 Lib.asciiSpaceTab := by kernel_rfl
theorem dbData_eq : (Rows.laid_math_bits_deBruijn64tab : DataW Unit) = Lib.tabData .u8 dbTab := by kernel_rfl
theorem dbTab_at : dbTab.length = 64 ∧ dbTab.getD 15 0 = 4 := by decide +kernel
theorem tabs_of {W : World} (h : laidMetH Tryz.prog [("math/bits.deBruijn32tab", Rows.laid_math_bits_deBruijn32tab), ("math/bits.deBruijn64tab", Rows.laid_math_bits_deBruijn64tab), ("internal/strconv.uint64pow10", Rows.laid_internal_strconv_uint64pow10), ("unicode.White_Space", Rows.laid_unicode_White_Space), ("strings.asciiSpace", Rows.laid_strings_asciiSpace)] W) : Tabs W := by
  have h' : laidMet Tryz.prog [("math/bits.deBruijn32tab", Rows.laid_math_bits_deBruijn32tab), ("math/bits.deBruijn64tab", Rows.laid_math_bits_deBruijn64tab), ("internal/strconv.uint64pow10", Rows.laid_internal_strconv_uint64pow10), ("unicode.White_Space", Rows.laid_unicode_White_Space), ("strings.asciiSpace", Rows.laid_strings_asciiSpace)] W := h
  obtain ⟨_, ⟨_, _, _, _, _, _, _, _, _, _, r1, _⟩, _⟩ := h'
  obtain ⟨g1, t1, cs1, fu1, p1, q1, hg1, ht1, hv1, hd1, r2, _⟩ := r1
  obtain ⟨g2, t2, cs2, fu2, p2, q2, hg2, ht2, hv2, hd2, r3, _⟩ := r2
  obtain ⟨_, _, _, _, _, _, _, _, _, _, r4, _⟩ := r3
  obtain ⟨g4, t4, cs4, fu4, p4, q4, hg4, ht4, hv4, hd4, _, _⟩ := r4
  obtain rfl := Option.some.inj (gDb.symm.trans hg1)
  obtain rfl := Option.some.inj (gDbType.symm.trans ht1)
  obtain rfl := Option.some.inj (gPow.symm.trans hg2)
  obtain rfl := Option.some.inj (gPowType.symm.trans ht2)
  obtain rfl := Option.some.inj (gSp.symm.trans hg4)
  obtain rfl := Option.some.inj (gSpType.symm.trans ht4)
  rw [dbData_eq] at hd1
  rw [powData_eq] at hd2
  rw [spData_eq] at hd4
  have hdb : Lib.TabIs Tryz.prog W "math/bits.deBruijn64tab" .u8 dbTab := by
    unfold Lib.TabIs
    rw [hv1, ← Lib.cells_of_tab Tryz.underlying169 Tryz.underlying5 cellsU8T cellsDb hd1]
  refine ⟨Lib.tabBelow_of_tabIs ?_, Lib.tabBelow_of_tabIs ?_, fun w' hb => ?_⟩
  · unfold Lib.TabIs
    rw [hv4, ← Lib.cells_of_tab Tryz.underlying135 Tryz.underlying5 cellsU8T cellsSp hd4]
  · unfold Lib.TabIs
    rw [hv2, ← Lib.cells_of_tab Tryz.underlying162 Tryz.underlying144 cellsU64T cellsPow hd2]
  · have h5 := (Lib.tabBelow_of_tabIs hdb w' hb).cell gDb 15 (by rw [dbTab_at.1]; decide)
    rw [dbTab_at.2] at h5
    exact h5
end Go.Proofs.YtjclgoiclbkgjaaGreatDoor
