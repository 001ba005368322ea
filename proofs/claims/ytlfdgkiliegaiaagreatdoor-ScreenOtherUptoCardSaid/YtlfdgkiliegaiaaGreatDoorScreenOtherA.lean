/- Texts laid together: G4zScreenOther J3zScreenOther J5zScreenOther Z10zScreenOther Z11zScreenOther Z12zScreenOther Z13zScreenOther Z16zScreenOther U1zScreenOther U5zScreenOther U10zScreenOther Z17zScreenOther U11zScreenOther Z25zScreenOther Z26zScreenOther U12zScreenOther. -/
import Derived.Test.YtlfdgkiliegaiaaGreatDoorY1
import Derived.Test.YtlfdgkiliegaiaaGreatDoorY11
import Derived.Test.YtlfdgkiliegaiaaGreatDoorY12
import Derived.Test.YtlfdgkiliegaiaaGreatDoorY13
import Derived.Test.YtlfdgkiliegaiaaGreatDoorY14
import Derived.Test.YtlfdgkiliegaiaaGreatDoorY15
import Derived.Test.YtlfdgkiliegaiaaGreatDoorY17
import Derived.Test.YtlfdgkiliegaiaaGreatDoorY18
import Derived.Test.YtlfdgkiliegaiaaGreatDoorY2
import Derived.Test.YtlfdgkiliegaiaaGreatDoorY20
import Derived.Test.YtlfdgkiliegaiaaGreatDoorY23
import Derived.Test.YtlfdgkiliegaiaaGreatDoorY25
import Derived.Test.YtlfdgkiliegaiaaGreatDoorY26
import Derived.Test.YtlfdgkiliegaiaaGreatDoorY28
import Derived.Test.YtlfdgkiliegaiaaGreatDoorY3
import Derived.Test.YtlfdgkiliegaiaaGreatDoorY4
import Derived.Test.YtlfdgkiliegaiaaGreatDoorY5
import Derived.Test.YtlfdgkiliegaiaaGreatDoorY6
import Derived.Test.YtlfdgkiliegaiaaGreatDoorY8
import Derived.Test.YtlfdgkiliegaiaaGreatDoorY9
import Derived.StillTailTactics
import Derived.Deep.RegionLaw
import Derived.Deep.DeepCutAuto
import Derived.Test.YtlfdgkiliegaiaaGreatDoorRows
import Derived.Deep.AppendSrc
import Derived.Lib.AppendStr
import Derived.Lib.FrozenHead
import Derived.ArgAppend
import Derived.Laws.IdiomCopy
import Derived.Laws.IdiomStrings
import Derived.Deep.Upon
import Derived.WalkKit
import Derived.WalkSpells
import Derived.WalkLawsBesides
import Derived.BigQuiet
import Derived.Lib.Hide
import Derived.Deep.QuietTactic
import Derived.Lib.AppendIntMem
import Derived.Lib.ItoaNum
import Derived.Laws.EntriesVeiled
import Derived.Laws.ResultCell
import Derived.Deep.CutBlock
import Derived.Laws.StructEq
import Derived.Deep.DrawnRows
import Derived.Deep.RegionHeld3
import Derived.Test.YtlfdgkiliegaiaaGreatDoorShelf
import Derived.Lib.Builder
import Derived.Lib.RuneBytes
import Derived.Lib.UnsafeStr
import Derived.Lib.SliceRun
import Derived.Lib.ItoaLen
import Derived.Laws.Cover4
import Derived.WalkMore
import Derived.ScopeJumps
import Derived.Lib.SlBytesConst
import Derived.ChangeKeysEq
import Derived.Deep.MidRow
import Derived.Laws.Bits64b
import Derived.ProofKit
import Derived.OpenShut
import Derived.JoinedCond
import Derived.Lib.FrozenHead2
import Derived.Lib.TrimU
import Derived.Lib.OthersKept
import Derived.Deep.LoopGhost
set_option linter.unusedVariables false
set_option linter.unusedSimpArgs false
namespace Go.Proofs.YtlfdgkiliegaiaaGreatDoor
section
open Go.RowKit
theorem zhB {T : Nat → Nat} {p : Nat} {w : World} {g : Gr} (h : GM T p w g) :
  Calls Tryz.prog 31 #[.pointer (some ⟨p, 0, none⟩)] w fun e w' => e = .returned (.int .i64 g.old.length) ∧ w' = w := by
 obtain ⟨vr, vo, Lr, Lo, h⟩ := h;obtain ⟨c0, c1, c2, c3⟩ := zX h;have hl := Za Tryz.underlying126 h.ro.own;rw [(Zf h).2] at hl;clear h;go_enter Tryz.func31, Tryz.ntmps31;go_wp2_with fail;go_ret;exact ⟨rfl, rfl⟩
end
section
open Go.RowKit
attribute [local go_sem ↓] Go.wp_at_zero Go.wp_at_succ
set_option maxRecDepth 100000 in
set_option maxHeartbeats 2000000 in
theorem ziU (l : List Cel) (va vb : Value) (w : World) (ha : zn w 0 5 va l.length (zp l)) (hb : zn w 0 5 vb l.length (zp l)) (hl : l.length ≤ 1000000) :
  Calls Tryz.prog 75 #[va, vb] w fun e w' => e = .returned (.bool true) ∧ Below w.heap.size w w' := by
 have HA := Lib.hid ha;have HB := Lib.hid hb;have ha0 := Za Tryz.underlying68 ha;have hb0 := Za Tryz.underlying68 hb;clear ha hb;go_enter Tryz.func75, Tryz.ntmps75;go_upto_region 4 with fail
 go_loopw [13] (fun iv wr => ∃ k : Nat, k ≤ l.length ∧ iv = .int .i64 k ∧ Hid (Below w.heap.size w wr)) (fun iv _ => l.length - (intOf iv).toNat)
 case atStart => exact ⟨0, Nat.zero_le _, rfl, Below.refl _ _⟩
 case round =>
  obtain ⟨k, hk, rfl, HW⟩ := hrel;by_cases hlt : k < l.length
  ·have d1 : decide ((k : Int) < (l.length : Int)) = true := decide_eq_true (by omega);have d1' : decide (k < l.length) = true := decide_eq_true hlt;have oa := zh HA.out HW.out;have ob := zh HB.out HW.out;obtain ⟨ba, fa, ca, e1, _, _⟩ := zF oa (by omega);obtain ⟨bb, fb, cb, e2, _, _⟩ := zF ob (by omega);subst e1 e2;obtain ⟨p0, p1, p2, p3, p4⟩ := zbq oa k (by omega) rfl;obtain ⟨q0, q1, q2, q3, q4⟩ := zbq ob k (by omega) rfl;have hix1 := ZN (P := Tryz.prog) (size := 5) Tryz.underlying68 zI ba fa l.length ca k hlt;have hix2 := ZN (P := Tryz.prog) (size := 5) Tryz.underlying68 zI bb fb l.length cb k hlt;have hneq := fun (wx : World) => zj3 (l.getD k noC) (l.getD k noC) wx;have hgd := fun (x y : Operand) (wx : World) => zgH .neq x y (l.getD k noC) (l.getD k noC) wx;rw [(Cel.eqb_iff (l.getD k noC) (l.getD k noC)).2 rfl] at hneq;have hw6 : IntKind.i64.wrap ((k : Int) + 1) = (k : Int) + 1 := zb _ (by omega) (by omega);clear oa ob;generalize l.getD k noC = xa at *;obtain ⟨ar, aw, ⟨af, ag, at'⟩⟩ := xa;unfold Cel.val at hneq hgd;dsimp only at p0 p1 p2 p3 p4 q0 q1 q2 q3 q4 hneq hgd;go_upto_region 6 with fail
   go_region_held3 (fun w' => w'.cell? ⟨ba, fa + k * 5, none⟩ = some (.int .i32 ar) ∧ w'.cell? ⟨ba, fa + k * 5 + 1, none⟩ = some (.int .i64 aw) ∧ w'.cell? ⟨ba, fa + k * 5 + 2, none⟩ = some (.int .i64 af) ∧ w'.cell? ⟨ba, fa + k * 5 + 3, none⟩ = some (.int .i64 ag) ∧ w'.cell? ⟨ba, fa + k * 5 + 4, none⟩ = some (.int .i64 at') ∧
    w'.cell? ⟨bb, fb + k * 5, none⟩ = some (.int .i32 ar) ∧ w'.cell? ⟨bb, fb + k * 5 + 1, none⟩ = some (.int .i64 aw) ∧ w'.cell? ⟨bb, fb + k * 5 + 2, none⟩ = some (.int .i64 af) ∧ w'.cell? ⟨bb, fb + k * 5 + 3, none⟩ = some (.int .i64 ag) ∧ w'.cell? ⟨bb, fb + k * 5 + 4, none⟩ = some (.int .i64 at')) (go_keep) (fail)
   clear p0 p1 p2 p3 p4 q0 q1 q2 q3 q4;go_wp2_with fail;go_roundw
   case rel => exact ⟨k + 1, by omega, by go_num, HW.out.drew⟩
   case measure => simp [intOf]; omega
  ·have d1 : decide ((k : Int) < (l.length : Int)) = false := decide_eq_false (by omega);have d1' : decide (k < l.length) = false := decide_eq_false hlt;go_wp2_with fail;exact zT rfl rfl rfl ⟨rfl, HW.out⟩
set_option maxRecDepth 100000 in
set_option maxHeartbeats 2000000 in
theorem zhM (r : Rw) (va vb : Value) (w : World) (ha : zn w 0 5 va r.cells.length (zp r.cells)) (hb : zn w 0 5 vb r.cells.length (zp r.cells)) (hl : r.cells.length ≤ 1000000) :
  Calls Tryz.prog 74 #[.agg #[va, .bool r.wrap], .agg #[vb, .bool r.wrap]] w fun e w' => e = .returned (.bool true) ∧ Below w.heap.size w w' := by
 obtain ⟨aa, ac, rfl⟩ := zQ ha;obtain ⟨ba, bc, rfl⟩ := zQ hb;have h1 := Below.alloc (Below.refl w.heap.size w) (Nat.le_refl _) (.cells #[.slice aa r.cells.length ac, .bool r.wrap] 130);have h2 := Below.alloc h1 h1.size (.cells #[.slice ba r.cells.length bc, .bool r.wrap] 130);have HA := Lib.hid (zh ha h2);have HB := Lib.hid (zh hb h2);have H2 := Lib.hid h2;clear ha hb h1 h2;go_enter Tryz.func74, Tryz.ntmps74;go_wp2_with fail;refine (ziU r.cells _ _ _ HA.out HB.out hl).mono ?_;rintro e w3 ⟨rfl, b3⟩;have H3 := Lib.hid (H2.out.trans (b3.mono H2.out.size));clear b3;go_wp2_with fail;exact zT rfl rfl rfl ⟨rfl, H3.out⟩
set_option maxRecDepth 100000 in
set_option maxHeartbeats 2000000 in
theorem zfu (L M : List (Value × Rw)) (va vb : Value) (w : World) (ha : zn w 0 2 va L.length (zf L)) (hb : zn w 0 2 vb M.length (zf M)) (he : L.map (·.2) = M.map (·.2))
  (hL : ∀ x ∈ L, zn w 0 5 x.1 x.2.cells.length (zp x.2.cells)) (hM : ∀ x ∈ M, zn w 0 5 x.1 x.2.cells.length (zp x.2.cells)) (hn : L.length ≤ 100000) (hc : ∀ x ∈ L, x.2.cells.length ≤ 1000) :
  Calls Tryz.prog 76 #[va, vb, .func (.func 74) #[] #[]] w fun e w' => e = .returned (.bool true) ∧ Below w.heap.size w w' := by
 have hlen : L.length = M.length := by
  have := congrArg List.length he;simpa using this
 have HA := Lib.hid ha;have HB := Lib.hid hb;have ha0 := Za Tryz.underlying126 ha;have hb0 := Za Tryz.underlying126 hb;rw [← hlen] at hb0;have HE := Lib.hid (show ∀ (k : Nat) (h1 : k < L.length) (h2 : k < M.length), L[k].2 = M[k].2 from fun k h1 h2 => by
  have := congrArg (fun l => l[k]?) he;simp only [List.getElem?_map, List.getElem?_eq_getElem h1, List.getElem?_eq_getElem h2, Option.map_some] at this;injection this)
 have HL := Lib.hid hL;have HM := Lib.hid hM;have HC := Lib.hid hc;have HLN := Lib.hid hlen;clear ha hb he hL hM hc hlen;go_enter Tryz.func76, Tryz.ntmps76;go_upto_region 4 with fail
 go_loopw [17] (fun iv wr => ∃ k : Nat, k ≤ L.length ∧ iv = .int .i64 k ∧ Hid (Below w.heap.size w wr)) (fun iv _ => L.length - (intOf iv).toNat)
 case atStart => exact ⟨0, Nat.zero_le _, rfl, Below.refl _ _⟩
 case round =>
  obtain ⟨k, hk, rfl, HW⟩ := hrel;by_cases hlt : k < L.length
  ·have d1 : decide ((k : Int) < (L.length : Int)) = true := decide_eq_true (by omega);have d1' : decide (k < L.length) = true := decide_eq_true hlt;have hlm : k < M.length := (by have := HLN.out; omega);have oa := zh HA.out HW.out;have ob := zh HB.out HW.out;obtain ⟨ba, fa, ca, e1, _, _⟩ := zF oa (by omega);obtain ⟨bb, fb, cb, e2, _, _⟩ := zF ob (by omega);subst e1 e2;obtain ⟨p0, p1⟩ := zbf oa k hlt;obtain ⟨q0, q1⟩ := zbf ob k hlm;have hix1 := ZN (P := Tryz.prog) (size := 2) Tryz.underlying126 zH ba fa L.length ca k hlt;have hix2 := ZN (P := Tryz.prog) (size := 2) Tryz.underlying126 zH bb fb M.length cb k hlm;have hxc := zh (HL.out L[k] (List.getElem_mem hlt)) HW.out;have hyc := zh (HM.out M[k] (List.getElem_mem hlm)) HW.out;have hxl := HC.out L[k] (List.getElem_mem hlt);have hee := HE.out k hlt hlm;have hw6 : IntKind.i64.wrap ((k : Int) + 1) = (k : Int) + 1 := zb _ (by omega) (by omega);clear oa ob;generalize L[k] = x at *;generalize M[k] = y at *;obtain ⟨xv, xr⟩ := x;obtain ⟨yv, yr⟩ := y;dsimp only at p0 p1 q0 q1 hxc hyc hxl hee;subst hee;obtain ⟨xa, xc, rfl⟩ := zQ hxc;obtain ⟨ya, yc, rfl⟩ := zQ hyc;have h1 := Below.alloc (Below.refl wr.heap.size wr) (Nat.le_refl _) (.cells #[.slice xa xr.cells.length xc, .bool xr.wrap] 130);have h2 := Below.alloc h1 h1.size (.cells #[.slice ya xr.cells.length yc, .bool xr.wrap] 130);have HX := Lib.hid (zh hxc h2);have HY := Lib.hid (zh hyc h2);have H2 := Lib.hid (HW.out.trans (h2.mono HW.out.size));have HXL := Lib.hid (show xr.cells.length ≤ 1000000 by omega);have q0' := zc h1 q0;have q1' := zc h1 q1;clear hxc hyc h1 h2 q0 q1;go_wp2_with fail;refine (zhM xr _ _ _ HX.out HY.out HXL.out).mono ?_;rintro e w3 ⟨rfl, b3⟩;have H3 := Lib.hid (H2.out.trans (b3.mono H2.out.size));clear b3 p0 p1 q0' q1' hix1 hix2;go_wp2_with fail;go_roundw
   case rel => exact ⟨k + 1, by omega, by go_num, H3⟩
   case measure => simp [intOf]; omega
  ·have d1 : decide ((k : Int) < (L.length : Int)) = false := decide_eq_false (by omega);have d1' : decide (k < L.length) = false := decide_eq_false hlt;go_wp2_with fail;exact zT rfl rfl rfl ⟨rfl, HW.out⟩
end
section
open Go.RowKit
attribute [local go_sem ↓] Go.wp_at_zero Go.wp_at_succ
set_option maxRecDepth 100000 in
set_option maxHeartbeats 4000000 in
theorem zl7 {T T2 : Nat → Nat} {p p2 : Nat} {w : World} {g : Gr} (h : GM T p w g) (h2 : GM T2 p2 w g) :
  Calls Tryz.prog 36 #[.pointer (some ⟨p, 0, none⟩), .pointer (some ⟨p2, 0, none⟩)] w fun e w' => e = .returned (.bool true) ∧ Below w.heap.size w w' := by
 obtain ⟨vr, vo, Lr, Lo, h⟩ := h;obtain ⟨vr2, vo2, Lr2, Lo2, h2⟩ := h2;have wf := h.wf;have w1 := wf.r2;have w2 := wf.c2;have w3 := wf.ol;have w4 := wf.li;obtain ⟨e1, e2⟩ := Zf h;have hcl : ∀ x ∈ Lr ++ Lo, x.2.cells.length ≤ 1000 := fun x hx => by
  have hm : x.2 ∈ g.rows ++ g.old := by
   rcases List.mem_append.1 hx with hx | hx
   ·exact List.mem_append_left _ (by rw [← h.er]; exact List.mem_map_of_mem hx)
   ·exact List.mem_append_right _ (by rw [← h.eo]; exact List.mem_map_of_mem hx)
  have := (wf.ce x.2 hm).1;omega
 obtain ⟨c0, c1, c2, c3⟩ := zX h;obtain ⟨k0, k1, k2, k3⟩ := zX h2;have HF1 := Lib.hid (fun (wx : World) (hb : Below w.heap.size w wx) => zfu Lr Lr2 vr vr2 wx (zh h.rr.own hb) (zh h2.rr.own hb) (by rw [h.er, h2.er]) (fun x hx => zh (h.ca x (List.mem_append_left _ hx)).own hb) (fun x hx => zh (h2.ca x (List.mem_append_left _ hx)).own hb) (by omega) (fun x hx => hcl x (List.mem_append_left _ hx)));have HF2 := Lib.hid (fun (wx : World) (hb : Below w.heap.size w wx) => zfu Lo Lo2 vo vo2 wx (zh h.ro.own hb) (zh h2.ro.own hb) (by rw [h.eo, h2.eo]) (fun x hx => zh (h.ca x (List.mem_append_right _ hx)).own hb) (fun x hx => zh (h2.ca x (List.mem_append_right _ hx)).own hb) (by omega) (fun x hx => hcl x (List.mem_append_right _ hx)));obtain ⟨ra, rc, rfl⟩ := zQ h.rr.own;obtain ⟨oa, oc, rfl⟩ := zQ h.ro.own;obtain ⟨ra2, rc2, rfl⟩ := zQ h2.rr.own;obtain ⟨oa2, oc2, rfl⟩ := zQ h2.ro.own;clear h h2 hcl wf e1 e2;have hmf : ∀ (fn : Fn) (first cap : Array Value) (w : World), (Instr.makeFunc fn first cap).run Tryz.prog w = .ok (.func fn first cap) w := fun _ _ _ _ => rfl;go_enter Tryz.func36, Tryz.ntmps36;go_upto_region 2 with fail;refine Zl (c := 30) (S := (fun bb w' => (w'.cell? ⟨p, 0, none⟩ = some (.int .i64 g.cols) ∧ w'.cell? ⟨p, 1, none⟩ = some (.int .i64 g.limit) ∧ w'.cell? ⟨p, 2, none⟩ = some (.slice ra Lr.length rc) ∧ w'.cell? ⟨p, 3, none⟩ = some (.slice oa Lo.length oc) ∧ w'.cell? ⟨p2, 0, none⟩ = some (.int .i64 g.cols) ∧ w'.cell? ⟨p2, 1, none⟩ = some (.int .i64 g.limit) ∧ w'.cell? ⟨p2, 2, none⟩ = some (.slice ra2 Lr2.length rc2) ∧ w'.cell? ⟨p2, 3, none⟩ = some (.slice oa2 Lo2.length oc2)) ∧ (bb = false → True))) (by kernel_rfl) (⟨⟨c0, c1, c2, c3, k0, k1, k2, k3⟩, fun _ => trivial⟩) (fun _ => ?_);refine zd false 0 (⟨⟨c0, c1, c2, c3, k0, k1, k2, k3⟩, fun _ => trivial⟩) ?_;refine zd false 1 (⟨⟨c0, c1, c2, c3, k0, k1, k2, k3⟩, fun _ => trivial⟩) ?_;refine zd false 2 (⟨⟨c0, c1, c2, c3, k0, k1, k2, k3⟩, fun _ => trivial⟩) ?_;refine zd false 3 (⟨⟨c0, c1, c2, c3, k0, k1, k2, k3⟩, fun _ => trivial⟩) ?_;refine zd false 4 (⟨⟨c0, c1, c2, c3, k0, k1, k2, k3⟩, fun _ => trivial⟩) ?_;refine zd false 5 (⟨⟨c0, c1, c2, c3, k0, k1, k2, k3⟩, fun _ => trivial⟩) ?_;refine zd false 6 (⟨⟨c0, c1, c2, c3, k0, k1, k2, k3⟩, fun _ => trivial⟩) ?_;refine zd false 7 (⟨⟨c0, c1, c2, c3, k0, k1, k2, k3⟩, fun _ => trivial⟩) ?_;refine zd false 8 (⟨⟨c0, c1, c2, c3, k0, k1, k2, k3⟩, fun _ => trivial⟩) ?_;refine zd false 9 (⟨⟨c0, c1, c2, c3, k0, k1, k2, k3⟩, fun _ => trivial⟩) ?_;refine zd false 10 (⟨⟨c0, c1, c2, c3, k0, k1, k2, k3⟩, fun _ => trivial⟩) ?_;refine zd false 11 (⟨⟨c0, c1, c2, c3, k0, k1, k2, k3⟩, fun _ => trivial⟩) ?_;refine zd false 12 (⟨⟨c0, c1, c2, c3, k0, k1, k2, k3⟩, fun _ => trivial⟩) ?_;refine zd false 13 (⟨⟨c0, c1, c2, c3, k0, k1, k2, k3⟩, fun _ => trivial⟩) ?_;refine zd false 14 (⟨⟨c0, c1, c2, c3, k0, k1, k2, k3⟩, fun _ => trivial⟩) ?_;refine zd false 15 (⟨⟨c0, c1, c2, c3, k0, k1, k2, k3⟩, fun _ => trivial⟩) ?_;refine zd false 16 (⟨⟨c0, c1, c2, c3, k0, k1, k2, k3⟩, fun _ => trivial⟩) ?_;refine zd false 17 (⟨⟨c0, c1, c2, c3, k0, k1, k2, k3⟩, fun _ => trivial⟩) ?_;refine zd false 18 (⟨⟨c0, c1, c2, c3, k0, k1, k2, k3⟩, fun _ => trivial⟩) ?_;refine zd false 19 (⟨⟨c0, c1, c2, c3, k0, k1, k2, k3⟩, fun _ => trivial⟩) ?_;refine zd false 20 (⟨⟨c0, c1, c2, c3, k0, k1, k2, k3⟩, fun _ => trivial⟩) ?_;refine zd false 21 (⟨⟨c0, c1, c2, c3, k0, k1, k2, k3⟩, fun _ => trivial⟩) ?_;refine zd false 22 (⟨⟨c0, c1, c2, c3, k0, k1, k2, k3⟩, fun _ => trivial⟩) ?_;refine zd false 23 (⟨⟨c0, c1, c2, c3, k0, k1, k2, k3⟩, fun _ => trivial⟩) ?_;refine zd false 24 (⟨⟨c0, c1, c2, c3, k0, k1, k2, k3⟩, fun _ => trivial⟩) ?_;refine zd false 25 (⟨⟨c0, c1, c2, c3, k0, k1, k2, k3⟩, fun _ => trivial⟩) ?_;refine zd false 26 (⟨⟨c0, c1, c2, c3, k0, k1, k2, k3⟩, fun _ => trivial⟩) ?_;refine zd false 27 (⟨⟨c0, c1, c2, c3, k0, k1, k2, k3⟩, fun _ => trivial⟩) ?_;refine zd false 28 (⟨⟨c0, c1, c2, c3, k0, k1, k2, k3⟩, fun _ => trivial⟩) ?_;refine zd false 29 (⟨⟨c0, c1, c2, c3, k0, k1, k2, k3⟩, fun _ => trivial⟩) ?_;refine zt true 30 fun K hK => ?_;refine zbN (by rfl) ?_;go_wp2_with fail;refine (HF1.out _ (Below.refl w.heap.size w).drew).mono ?_;rintro e w4 ⟨rfl, b4⟩;have HB4 := Lib.hid (show Below w.heap.size w w4 from (Below.refl w.heap.size w).drew.trans b4);have c04 := zc HB4.out c0;have c14 := zc HB4.out c1;have c24 := zc HB4.out c2;have c34 := zc HB4.out c3;have k04 := zc HB4.out k0;have k14 := zc HB4.out k1;have k24 := zc HB4.out k2;have k34 := zc HB4.out k3;refine hK.out _ _ (⟨⟨c04, c14, c24, c34, k04, k14, k24, k34⟩, fun _ => trivial⟩) (fun _ => ?_);clear hK K b4 c0 c1 c2 c3 k0 k1 k2 k3
 try simp only [Act.put, List.setIfInBounds_toArray, List.set_cons_zero, List.set_cons_succ]
 refine zd true 31 (⟨⟨c04, c14, c24, c34, k04, k14, k24, k34⟩, fun _ => trivial⟩) ?_;refine zd true 32 (⟨⟨c04, c14, c24, c34, k04, k14, k24, k34⟩, fun _ => trivial⟩) ?_;refine zd true 33 (⟨⟨c04, c14, c24, c34, k04, k14, k24, k34⟩, fun _ => trivial⟩) ?_;refine zd true 34 (⟨⟨c04, c14, c24, c34, k04, k14, k24, k34⟩, fun _ => trivial⟩) ?_;refine zd true 35 (⟨⟨c04, c14, c24, c34, k04, k14, k24, k34⟩, fun _ => trivial⟩) ?_;refine zd true 36 (⟨⟨c04, c14, c24, c34, k04, k14, k24, k34⟩, fun _ => trivial⟩) ?_;refine zd true 37 (⟨⟨c04, c14, c24, c34, k04, k14, k24, k34⟩, fun _ => trivial⟩) ?_;refine zd true 38 (⟨⟨c04, c14, c24, c34, k04, k14, k24, k34⟩, fun _ => trivial⟩) ?_;refine zd true 39 (⟨⟨c04, c14, c24, c34, k04, k14, k24, k34⟩, fun _ => trivial⟩) ?_;refine zd true 40 (⟨⟨c04, c14, c24, c34, k04, k14, k24, k34⟩, fun _ => trivial⟩) ?_;refine zd true 41 (⟨⟨c04, c14, c24, c34, k04, k14, k24, k34⟩, fun _ => trivial⟩) ?_;refine zt true 42 fun K hK => ?_;refine zbN (by rfl) ?_;go_wp2_with fail;refine (HF2.out _ HB4.out).mono ?_;rintro e w5 ⟨rfl, b5⟩;have HB45 := Lib.hid b5;have HB5 := Lib.hid (HB4.out.trans (b5.mono HB4.out.size));have c05 := zc HB45.out c04;have c15 := zc HB45.out c14;have c25 := zc HB45.out c24;have c35 := zc HB45.out c34;have k05 := zc HB45.out k04;have k15 := zc HB45.out k14;have k25 := zc HB45.out k24;have k35 := zc HB45.out k34;refine hK.out _ _ (⟨⟨c05, c15, c25, c35, k05, k15, k25, k35⟩, fun _ => trivial⟩) (fun _ => ?_);clear hK K b5 c04 c14 c24 c34 k04 k14 k24 k34
 try simp only [Act.put, List.setIfInBounds_toArray, List.set_cons_zero, List.set_cons_succ]
 refine zd true 43 (⟨⟨c05, c15, c25, c35, k05, k15, k25, k35⟩, fun _ => trivial⟩) ?_;refine zd true 44 (⟨⟨c05, c15, c25, c35, k05, k15, k25, k35⟩, fun _ => trivial⟩) ?_;refine Zh (by kernel_rfl) ?_ _;go_wp2_with fail;exact zT rfl rfl rfl ⟨rfl, HB5.out⟩
end
section
open Go.RowKit
theorem zdL {x : Nat} (h : x < 2 ^ 63) : IntKind.i64.wrap ((x : Nat) : Int) = x := zb _ (by omega) (by omega)
theorem zkp {a i : Nat} (h : a < 1024) (hi : 10 ≤ i) : a.testBit i = false := by
 refine Nat.testBit_lt_two_pow (Nat.lt_of_lt_of_le h ?_);show 2 ^ 10 ≤ 2 ^ i;exact Nat.pow_le_pow_right (by decide) hi
theorem zoN {a b : Nat} (ha : a < 1024) (hb : b < 1024) : bOr a b = ((a ||| b : Nat) : Int) := by
 unfold bOr;rw [BitVec.ofInt_natCast, BitVec.ofInt_natCast, BitVec.toNat_or, BitVec.toNat_ofNat, BitVec.toNat_ofNat, Nat.mod_eq_of_lt (by omega), Nat.mod_eq_of_lt (by omega)];exact zdL (Nat.lt_of_lt_of_le (Nat.or_lt_two_pow (n := 10) ha hb) (by decide))
theorem zoj {a b : Nat} (ha : a < 1024) (hb : b < 1024) : zee a b = ((a &&& b : Nat) : Int) := by
 unfold zee;rw [BitVec.ofInt_natCast, BitVec.ofInt_natCast, BitVec.toNat_and, BitVec.toNat_ofNat, BitVec.toNat_ofNat, Nat.mod_eq_of_lt (by omega), Nat.mod_eq_of_lt (by omega)];exact zdL (Nat.lt_of_lt_of_le (Nat.and_lt_two_pow (n := 10) a hb) (by decide))
theorem zlY {a b : Nat} (ha : a < 1024) : ∃ n : Nat, Zm a b = n ∧ n ≤ a ∧ ∀ i, n.testBit i = (a.testBit i && !b.testBit i) := by
 have hlt : (BitVec.ofNat 64 a &&& ~~~ BitVec.ofNat 64 b).toNat ≤ a := by
  rw [BitVec.toNat_and, BitVec.toNat_ofNat, Nat.mod_eq_of_lt (by omega)];exact Nat.and_le_left
 refine ⟨_, ?_, hlt, fun i => ?_⟩
 ·unfold Zm;rw [BitVec.ofInt_natCast, BitVec.ofInt_natCast];exact zdL (Nat.lt_of_le_of_lt hlt (Nat.lt_of_lt_of_le ha (by decide)))
 ·rw [BitVec.testBit_toNat, BitVec.getLsbD_and, BitVec.getLsbD_not, BitVec.getLsbD_ofNat, BitVec.getLsbD_ofNat];by_cases hi : i < 64
  ·simp [hi]
  ·rw [zkp ha (by omega)];simp
end
section
open Go.RowKit
theorem znu {n k : Nat} : (n &&& 2 ^ k ≠ 0) ↔ n.testBit k = true := by
 constructor
 ·intro h;cases hb : n.testBit k with
  | true => rfl
  | false =>
   refine absurd (Nat.eq_of_testBit_eq fun i => ?_) h;rw [Nat.testBit_and, Nat.testBit_two_pow, Nat.zero_testBit];by_cases e : k = i
   ·rw [← e, hb]; rfl
   ·simp [e]
 ·intro h e;have := congrArg (Nat.testBit · k) e;simp [Nat.testBit_and, h] at this
end
section
open Go.RowKit
structure Alt (a s : Scr) : Prop where
 main : s.main = a.main
 k0 : s.k0 = a.k0
 modes : s.modes = a.modes
 title : s.title = a.title
 oth : s.other.isSome = true
section
variable {a s : Scr}
theorem Alt.turn (h : Alt a s) (f : Gr → Gr) : Alt a (s.turn f) := by
 unfold Scr.turn;cases ho : s.other with
 | none => have := h.oth; rw [ho] at this; cases this
 | some g => exact ⟨h.main, h.k0, h.modes, h.title, rfl⟩
theorem Alt.now (h : Alt a s) (v : Sav) : Alt a { s with now := v } := ⟨h.main, h.k0, h.modes, h.title, h.oth⟩
theorem Alt.bells (h : Alt a s) (n : Int) : Alt a { s with bells := n } := ⟨h.main, h.k0, h.modes, h.title, h.oth⟩
theorem Alt.last (h : Alt a s) (n : Int) : Alt a { s with last := n } := ⟨h.main, h.k0, h.modes, h.title, h.oth⟩
theorem Alt.out (h : Alt a s) (t : List UInt8) : Alt a { s with out := t } := ⟨h.main, h.k0, h.modes, h.title, h.oth⟩
theorem Alt.calm (h : Alt a s) : Alt a s.calm := h.now _
theorem Alt.toX (h : Alt a s) (x : Int) : Alt a (s.toX x) := h.now _
theorem Alt.place (h : Alt a s) (x y : Int) : Alt a (s.place x y) := h.now _
theorem Alt.index (h : Alt a s) : Alt a s.index := by
 unfold Scr.index;split
 ·exact h.turn _
 ·split
  ·exact h.now _
  ·exact h
theorem Alt.on (h : Alt a s) : Alt a s.on := ((h.turn _).toX 0).index
theorem Alt.fit (h : Alt a s) (w : Int) : Alt a (s.fit w) := by
 unfold Scr.fit;have h1 : Alt a (if s.now.wait && s.has 1 then s.on else s).calm := by
  split
  ·exact h.on.calm
  ·exact h.calm
 generalize (if s.now.wait && s.has 1 then s.on else s).calm = t at h1;dsimp only;split
 ·split
  ·exact h1.on
  ·exact h1.toX _
 ·exact h1
theorem Alt.lay (h : Alt a s) (c w : Int) : Alt a (s.lay c w) := by
 unfold Scr.lay;have h1 : Alt a (if s.has 2 then s.turn (fun g => g.ins s.now.x s.now.y w s.blank) else s) := by
  split
  ·exact h.turn _
  ·exact h
 generalize (if s.has 2 then s.turn (fun g => g.ins s.now.x s.now.y w s.blank) else s) = t at h1;dsimp only;split
 ·exact (h1.turn _).now _
 ·exact (h1.turn _).toX _
theorem Alt.print (h : Alt a s) (r : Int) : Alt a (s.print r) := by
 unfold Scr.print;dsimp only;split
 ·exact h
 ·exact ((h.fit _).lay _ _).last _
theorem Alt.control (h : Alt a s) (b : UInt8) : Alt a (s.control b) := by
 unfold Scr.control;have h1 : Alt a (if 8 ≤ (b.toNat : Int) ∧ (b.toNat : Int) ≤ 13 then s.calm else s) := by
  split
  ·exact h.calm
  ·exact h
 dsimp only;generalize (if 8 ≤ (b.toNat : Int) ∧ (b.toNat : Int) ≤ 13 then s.calm else s) = t at h1 ⊢;split
 ·exact h1.bells _
 split
 ·exact h1.toX _
 split
 ·exact h1.place _ _
 split
 ·split
  ·exact h1.index.toX _
  ·exact h1.index
 split
 ·exact h1.toX _
 split
 ·exact h1.now _
 ·exact h1
end
theorem z6 {m k : Nat} (hm : m < 1024) : ∃ n : Nat, Zm m ((2 ^ k : Nat) : Int) = n ∧ n ≤ m ∧ ∀ i, n.testBit i = (m.testBit i && !decide (k = i)) := by
 obtain ⟨n, e, h, hb⟩ := zlY (a := m) (b := 2 ^ k) hm;exact ⟨n, e, h, fun i => by rw [hb i, Nat.testBit_two_pow]⟩
theorem z7 {m k : Nat} (hm : m < 1024) (hk : k < 10) : (zee m ((2 ^ k : Nat) : Int) != 0) = m.testBit k := by
 have hp : 2 ^ k < 1024 := Nat.pow_lt_pow_right (by decide) hk;rw [zoj hm hp, Bool.eq_iff_iff, bne_iff_ne, ← znu];omega
theorem zpk {n k : Nat} (hn : n < 1024) (hk : k < 10) : bOr n ((2 ^ k : Nat) : Int) = ((n ||| 2 ^ k : Nat) : Int) ∧ n ||| 2 ^ k < 1024 := by
 have hp : 2 ^ k < 1024 := Nat.pow_lt_pow_right (by decide) hk;exact ⟨zoN hn hp, Nat.or_lt_two_pow (n := 10) hn hp⟩
theorem zpt {m k : Nat} (hm : m < 1024) (hk : k < 10) : (if (zee m ((2 ^ k : Nat) : Int) != 0) = true then bOr (Zm m ((2 ^ k : Nat) : Int)) ((2 ^ k : Nat) : Int) else Zm m ((2 ^ k : Nat) : Int)) = m := by
 obtain ⟨n, e, hn, hb⟩ := z6 (k := k) hm;rw [z7 hm hk, e];by_cases h : m.testBit k = true
 ·rw [if_pos h, (zpk (by omega) hk).1];have : n ||| 2 ^ k = m := Nat.eq_of_testBit_eq fun i => by
   rw [Nat.testBit_or, Nat.testBit_two_pow, hb i];by_cases hi : k = i
   ·subst hi; simp [h]
   ·simp [hi]
  rw [this]
 ·rw [if_neg h];have : n = m := Nat.eq_of_testBit_eq fun i => by
   rw [hb i];by_cases hi : k = i
   ·subst hi; simp [h]
   ·simp [hi]
  rw [this]
theorem Z4 {m k : Nat} (hm : m < 1024) (hk : k < 10) (h : m.testBit k = false) : Zm (bOr (Zm m ((2 ^ k : Nat) : Int)) ((2 ^ k : Nat) : Int)) ((2 ^ k : Nat) : Int) = m := by
 obtain ⟨n, e, hn, hb⟩ := z6 (k := k) hm;rw [e, (zpk (by omega) hk).1];obtain ⟨q, e2, _, hb2⟩ := z6 (k := k) (zpk (n := n) (by omega) hk).2;rw [e2];have : q = m := Nat.eq_of_testBit_eq fun i => by
  rw [hb2 i, Nat.testBit_or, Nat.testBit_two_pow, hb i];by_cases hi : k = i
  ·subst hi; simp [h]
  ·simp [hi]
 rw [this]
theorem zpl {a s : Scr} (hm : M10 a.modes) (h8 : a.has 256 = false) (ho : a.other = none) (h : Alt (a.save.swap true) s) :
  (s.swap false).restore.main = a.main ∧ (s.swap false).restore.other = none ∧ (s.swap false).restore.modes = a.modes ∧ (s.swap false).restore.title = a.title ∧
   (s.swap false).restore.now = { a.now with origin := a.has 4 } := by
 obtain ⟨m, em⟩ : ∃ n : Nat, a.modes = n := ⟨a.modes.toNat, by have := hm.1; omega⟩;have hm' : m < 1024 := (by have := hm.2; omega);have h8' : m.testBit 8 = false := by
  rw [← z7 hm' (by decide), ← em];exact h8
 have e1 : a.save = { a with now := { a.now with origin := a.has 4 }, k0 := { a.now with origin := a.has 4 } } := by
  unfold Scr.save Scr.setSlot;dsimp only;rw [ho];rfl
 have e2 : (a.save.swap true).main = a.main ∧ (a.save.swap true).k0 = { a.now with origin := a.has 4 } ∧ (a.save.swap true).modes = bOr (Zm a.modes 256) 256 ∧ (a.save.swap true).title = a.title := by
  rw [e1];unfold Scr.swap;rw [if_neg (by rw [ho]; decide)];exact ⟨rfl, rfl, rfl, rfl⟩
 obtain ⟨f1, f2, f3, f4⟩ := e2;have g1 := h.main.trans f1;have g2 := h.k0.trans f2;have g3 := h.modes.trans f3;have g4 := h.title.trans f4;have e3 : (s.swap false).main = s.main ∧ (s.swap false).k0 = s.k0 ∧ (s.swap false).other = none ∧ (s.swap false).modes = Zm s.modes 256 ∧ (s.swap false).title = s.title := by
  unfold Scr.swap;rw [if_neg (by rw [h.oth]; decide)];exact ⟨rfl, rfl, rfl, rfl, rfl⟩
 obtain ⟨k1, k2, k3, k4, k5⟩ := e3;have k6 : (s.swap false).slot = (s.swap false).k0 := (by unfold Scr.slot; rw [k3]; rfl);have k7 : (s.swap false).modes = a.modes := by
  rw [k4, g3, em];exact Z4 hm' (k := 8) (by decide) h8'
 refine ⟨k1.trans g1, k3, ?_, k5.trans g4, k6.trans (k2.trans g2)⟩;show (if (s.swap false).slot.origin = true then bOr (Zm (s.swap false).modes 4) 4 else Zm (s.swap false).modes 4) = a.modes;rw [k6, k2, g2, k7];show (if (zee a.modes 4 != 0) = true then bOr (Zm a.modes 4) 4 else Zm a.modes 4) = a.modes;rw [em];exact zpt hm' (k := 2) (by decide)
end
section
open Go.RowKit
theorem z0 (l : List Int) : ∀ a ∈ l.map za7, a.kind = 1 := fun a ha => by
 obtain ⟨r, _, rfl⟩ := List.mem_map.1 ha;rfl
def Z1 (b : UInt8) : Prop := b.toNat ≠ 27 ∧ b.toNat ≠ 24 ∧ b.toNat ≠ 26
theorem zpm {s : PSt} (h : s.state = 0) {b : UInt8} (hb : Z1 b) : (s.step b).1.state = 0 ∧ ∀ a ∈ (s.step b).2, a.kind = 1 ∨ a.kind = 2 := by
 obtain ⟨h1, h2, h3⟩ := hb;have ht : s.texts = false := (by unfold PSt.texts; rw [h]; rfl);have hf : ∀ u : PSt, u.state = 0 → (u.took b).1.state = 0 ∧ ∀ a ∈ (u.took b).2, a.kind = 1 ∨ a.kind = 2 := fun u hu => by
  unfold PSt.took;rw [if_neg (by omega), if_neg (by omega), if_neg (by omega), if_neg (by omega), if_neg (by omega)];exact ⟨hu, fun a ha => .inl (z0 _ a ha)⟩
 have k := hf s h;unfold PSt.step;by_cases c1 : (b.toNat : Int) = 127
 ·have e : s.any1 b = (true, s, []) := by
   unfold PSt.any1;rw [if_neg (by omega), if_neg (by omega), if_neg (by omega), ht, if_pos (.inl ⟨c1, rfl⟩)]
  rw [e];exact ⟨h, fun a ha => by cases ha⟩
 by_cases c2 : (b.toNat : Int) < 32
 ·have e : s.any1 b = (true, { s with dec := (zaA s.dec).1 }, (zaA s.dec).2.map za7 ++ [zcb b]) := by
   unfold PSt.any1;rw [if_neg (by omega), if_neg (by omega), if_neg (by omega), ht, if_neg (by simp; omega), if_pos c2]
  rw [e];refine ⟨h, fun a ha => ?_⟩;rcases List.mem_append.1 ha with h4 | h4
  ·exact .inl (z0 _ a h4)
  ·rw [List.mem_singleton] at h4;subst h4;exact .inr rfl
 ·have e : s.any1 b = (false, s, []) := by
   unfold PSt.any1;rw [if_neg (by omega), if_neg (by omega), if_neg (by omega), ht, if_neg (by simp; omega), if_neg c2, if_pos h];split <;> rfl
  rw [e];exact ⟨k.1, fun a ha => k.2 a (by simpa using ha)⟩
theorem zph {a : Scr} : ∀ (l : List VAct) {t : Trm}, (∀ x ∈ l, x.kind = 1 ∨ x.kind = 2) → Alt a t.scr → Alt a (t.acts l).1.scr ∧ (t.acts l).1.par = t.par
 | [], _, _, h => ⟨h, rfl⟩
 | x :: l, t, hx, h => by
  have hk := hx x (List.mem_cons_self ..);have h1 : Alt a (t.act x).scr := by
   show Alt a (t.scr.act x);unfold Scr.act;dsimp only;rcases hk with e | e
   ·rw [if_pos e];exact (h.out []).print _
   ·rw [if_neg (by omega), if_pos e];exact (h.out []).control _
  have h2 : (t.act x).par = t.par := by
   show (if x.ris then s0 else t.par) = t.par;have : x.ris = false := by
    unfold VAct.ris;rcases hk with e | e <;> rw [e] <;> rfl
   rw [this]; rfl
  obtain ⟨i1, i2⟩ := zph l (t := t.act x) (fun y hy => hx y (List.mem_cons_of_mem _ hy)) h1;exact ⟨i1, i2.trans h2⟩
theorem zpi {a : Scr} : ∀ (l : List UInt8) {t : Trm}, (∀ b ∈ l, Z1 b) → Alt a t.scr → t.par.state = 0 → Alt a (t.feed l).1.scr ∧ (t.feed l).1.par.state = 0
 | [], _, _, h, h0 => ⟨h, h0⟩
 | b :: l, t, hb, h, h0 => by
  obtain ⟨q1, q2⟩ := zpm h0 (hb b (List.mem_cons_self ..));obtain ⟨i1, i2⟩ := zph (a := a) (t.par.step b).2 (t := ⟨t.scr, (t.par.step b).1⟩) q2 h;exact zpi l (t := (t.byte b).1) (fun y hy => hb y (List.mem_cons_of_mem _ hy)) i1 (by rw [show (t.byte b).1.par = (t.par.step b).1 from i2]; exact q1)
end
section
open Go.RowKit
theorem z3 {b : UInt8} {ps : List Int} (h : zaB (ZO b ps [63]) = true) (t : Trm) (ht : t.par.Clear) :
  ∃ q : PSt, t.feed ([27, 91] ++ ([63] ++ Ze false ps ++ [] ++ [b])) = (⟨({ t.scr with out := [] } : Scr).csi b ps [63], q⟩, (({ t.scr with out := [] } : Scr).csi b ps [63]).out) ∧ q.Clear := by
 obtain ⟨q, e, hq⟩ := zmD h t.par ht;have ew : wrL (ZO b ps [63]) = [27, 91] ++ ([63] ++ Ze false ps ++ [] ++ [b]) := by
  unfold wrL;rw [h];rfl
 rw [ew] at e;refine ⟨q, ?_, hq⟩;rw [zh8 _ t (by rw [e]; intro a ha; rw [List.mem_singleton] at ha; subst ha; rfl), e];have ea : t.scr.act (ZO b ps [63]) = ({ t.scr with out := [] } : Scr).csi b ps [63] := rfl;unfold Scr.acts Scr.acts;rw [ea, List.append_nil]
theorem z4 : Ze false [1049] = [49, 48, 52, 57] := by kernel_rfl
theorem zpu (s : Scr) : s.csi 104 [1049] [63] = s.save.swap true := rfl
theorem zpv (s : Scr) : s.csi 108 [1049] [63] = (s.swap false).restore := rfl
theorem zpn (t : Trm) (ht : t.par.Clear) : ∃ q : PSt, (t.feed [27, 91, 63, 49, 48, 52, 57, 104]).1 = ⟨({ t.scr with out := [] } : Scr).save.swap true, q⟩ ∧ q.Clear := by
 obtain ⟨q, e, hq⟩ := z3 (b := 104) (ps := [1049]) (by kernel_rfl) t ht;rw [z4, zpu] at e;exact ⟨q, congrArg Prod.fst e, hq⟩
theorem zpo (t : Trm) (ht : t.par.Clear) : ∃ q : PSt, (t.feed [27, 91, 63, 49, 48, 52, 57, 108]).1 = ⟨(({ t.scr with out := [] } : Scr).swap false).restore, q⟩ ∧ q.Clear := by
 obtain ⟨q, e, hq⟩ := z3 (b := 108) (ps := [1049]) (by kernel_rfl) t ht;rw [z4, zpv] at e;exact ⟨q, congrArg Prod.fst e, hq⟩
theorem zlL (t : Trm) : ∃ q : PSt, t.feed [24] = (⟨t.scr, q⟩, []) ∧ q.Clear := by
 refine ⟨({ t.par with dec := dec0 } : PSt).begun 0, ?_, rfl, rfl⟩;rfl
theorem zpx {s : PSt} (h : s.state = 0) (l : List UInt8) :
  ({ s with dec := (zaA s.dec).1 } : PSt).Clear ∧ s.run (27 :: l) = ((({ s with dec := (zaA s.dec).1 } : PSt).run (27 :: l)).1, (zaA s.dec).2.map za7 ++ (({ s with dec := (zaA s.dec).1 } : PSt).run (27 :: l)).2) := by
 have h0 : (zaA s.dec).1.hav = 0 := (by unfold zaA; split <;> simp_all);have hx : ∀ u : PSt, u.state = 0 → u.step 27 = ({ ({ u with dec := (zaA u.dec).1 } : PSt).begun 1 with ended := false }, (zaA u.dec).2.map za7) := fun u hu => by
  have ht : u.texts = false := (by unfold PSt.texts; rw [hu]; rfl);have he : u.endActs = [] := (by unfold PSt.endActs; rw [hu]; rfl);have e : u.any1 27 = (true, { ({ u with dec := (zaA u.dec).1 } : PSt).begun 1 with ended := u.texts }, (zaA u.dec).2.map za7 ++ u.endActs) := by
   unfold PSt.any1;rw [if_neg (by decide), if_pos (by decide)]
  unfold PSt.step;rw [e, ht, he, List.append_nil];rfl
 refine ⟨⟨h, h0⟩, ?_⟩;have e2 : ∀ d : Dec, d.hav = 0 → zaA d = (d, []) := fun d hd => (by unfold zaA; rw [if_pos hd]);unfold PSt.run;rw [hx s h, hx ({ s with dec := (zaA s.dec).1 } : PSt) h];dsimp only;rw [e2 _ h0];rfl
theorem z5 {a : Scr} : ∀ (l : List Int) (s : Scr), Alt a s → Alt a (s.acts (l.map za7)).1
 | [], _, h => h
 | r :: l, s, h => z5 l (s.act (za7 r)) ((h.out []).print r)
theorem zpp {t : Trm} (hc : t.par.Clear) (hm : M10 t.scr.modes) (h8 : t.scr.has 256 = false) (ho : t.scr.other = none) {text : List UInt8} (hq : ∀ b ∈ text, Z1 b) :
  ∀ t1 t2 : Trm, t1 = (t.feed [27, 91, 63, 49, 48, 52, 57, 104]).1 → t2 = (t1.feed (text ++ [27, 91, 49, 59, 51, 50, 109, 24, 27, 91, 63, 49, 48, 52, 57, 108])).1 →
   t1.scr = ({ t.scr with out := [] } : Scr).save.swap true ∧ t2.par.Clear ∧ t2.scr.main = t.scr.main ∧ t2.scr.other = none ∧ t2.scr.modes = t.scr.modes ∧ t2.scr.title = t.scr.title ∧ t2.scr.now = { t.scr.now with origin := t.scr.has 4 } := by
 intro t1 t2 e1 e2;obtain ⟨q1, f1, c1⟩ := zpn t hc;rw [f1] at e1;have ha : Alt (({ t.scr with out := [] } : Scr).save.swap true) t1.scr := by
  rw [e1];refine ⟨rfl, rfl, rfl, rfl, ?_⟩;have es : ({ t.scr with out := [] } : Scr).save.other = none := by
   unfold Scr.save Scr.setSlot;dsimp only;rw [ho];rfl
  unfold Scr.swap;rw [if_neg (by rw [es]; decide)];rfl
 obtain ⟨a1, s1⟩ := zpi text (t := t1) hq ha (by rw [e1]; exact c1.1);rw [zbm] at e2;generalize (t1.feed text).1 = u at a1 s1 e2;have hsplit : ([27, 91, 49, 59, 51, 50, 109, 24, 27, 91, 63, 49, 48, 52, 57, 108] : List UInt8) = [27, 91, 49, 59, 51, 50, 109] ++ ([24] ++ [27, 91, 63, 49, 48, 52, 57, 108]) := rfl;rw [hsplit, zbm, zbm] at e2;obtain ⟨k1, k2⟩ := zpx s1 [91, 49, 59, 51, 50, 109];have hv : ∃ v : Trm, (u.feed [27, 91, 49, 59, 51, 50, 109]).1 = v ∧ v.par.Clear ∧ Alt (({ t.scr with out := [] } : Scr).save.swap true) v.scr := by
  obtain ⟨q, e, hq2⟩ := zmD (b := 109) (params := [1, 32]) (inter := []) (by kernel_rfl) ({ u.par with dec := (zaA u.par.dec).1 } : PSt) k1;have ew : wrL (ZO 109 [1, 32] []) = [27, 91, 49, 59, 51, 50, 109] := (by kernel_rfl);rw [ew] at e;rw [e] at k2;refine ⟨_, rfl, ?_, ?_⟩
  all_goals rw [zh8 _ u (by
   rw [k2];intro a ha;rcases List.mem_append.1 ha with h | h
   ·obtain ⟨r, _, rfl⟩ := List.mem_map.1 h; rfl
   ·rw [List.mem_singleton] at h; subst h; rfl)]
  ·rw [k2]; exact hq2
  ·rw [k2];dsimp only;rw [zcY];have h1 := z5 (zaA u.par.dec).2 u.scr a1;exact ((h1.out []).now _ : Alt _ (({ (u.scr.acts ((zaA u.par.dec).2.map za7)).1 with out := [] } : Scr).looks [1, 32]))
 obtain ⟨v, ev, cv, av⟩ := hv;rw [ev] at e2;obtain ⟨q3, f3, c3⟩ := zlL v;rw [f3] at e2;dsimp only at e2;obtain ⟨q4, f4, c4⟩ := zpo ⟨v.scr, q3⟩ c3;rw [f4] at e2;have hb := zpl (a := { t.scr with out := [] }) (s := { v.scr with out := [] }) hm h8 ho (av.out []);rw [e2];exact ⟨by rw [e1], c4, hb⟩
end
section
open Go.RowKit
theorem SR.lt {B : World} {C : Nat → Nat} {p : Nat} {w : World} {s : Scr} {ps : PSt} (h : SR B C p w s ps) : ∀ k, C k ≠ 0 → k < w.heap.size := by
 obtain ⟨Tm, To, Tp, pm, po, pp, vt, vo, hs⟩ := h.sm;exact hs.lt
end
section
open Go.RowKit
set_option maxRecDepth 100000
attribute [local go_sem ↓] Go.wp_at_zero Go.wp_at_succ
theorem zbr {w : World} {k : Nat} {s : Sty} {T : TypeId} (h : w.heap[k]? = some (.cells #[.int .i64 s.fg, .int .i64 s.bg, .int .i64 s.attr] T (0, 0))) :
  w.cell? ⟨k, 0, none⟩ = some (.int .i64 s.fg) ∧ w.cell? ⟨k, 1, none⟩ = some (.int .i64 s.bg) ∧ w.cell? ⟨k, 2, none⟩ = some (.int .i64 s.attr) := ⟨za h 0, za h 1, za h 2⟩
end
section
open Go.RowKit
attribute [local go_sem ↓] Go.wp_at_zero Go.wp_at_succ
set_option maxRecDepth 100000 in
theorem zpq (t : ByteArray) (w : World) (hm : t.size ≤ maxLen) :
  Calls Tryz.prog 35 #[.string t] w fun e w' => ∃ q : Bool, e = .returned (.bool q) ∧ (q = true → ∀ b ∈ t.data.toList, b.toNat ≠ 27 ∧ b.toNat ≠ 24 ∧ b.toNat ≠ 26) ∧ Below w.heap.size w w' := by
 have hm2 : t.size ≤ 9223372036854775807 := (by unfold maxLen at hm; exact hm);have hsz : t.data.toList.length = t.size := (by rw [Array.length_toList]; rfl);have HSZ := Lib.hid hsz;clear hm hsz;go_enter Tryz.func35, Tryz.ntmps35;go_wp2_with fail
 go_loopw [3] (fun iv wr => ∃ k : Nat, k ≤ t.size ∧ iv = .int .i64 k ∧ Hid (Below w.heap.size w wr) ∧ Hid (∀ b ∈ t.data.toList.take k, b.toNat ≠ 27 ∧ b.toNat ≠ 24 ∧ b.toNat ≠ 26)) (fun iv _ => t.size - (intOf iv).toNat)
 case atStart => exact ⟨0, Nat.zero_le _, rfl, Below.refl _ _, fun b hb => by simp at hb⟩
 case round =>
  obtain ⟨k, hk, rfl, HB, HQ⟩ := hrel;by_cases hlt : k < t.size;rotate_left
  ·have d1 : decide ((k : Int) < (t.size : Int)) = false := decide_eq_false (by omega);have d1' : decide (k < t.size) = false := decide_eq_false hlt;have hq := HQ.out;rw [List.take_of_length_le (by rw [HSZ.out]; omega)] at hq;have HQ2 := Lib.hid hq;clear hq;go_wp2_with fail;exact zT rfl rfl rfl ⟨true, rfl, fun _ => HQ2.out, HB.out⟩
  have d1 : decide ((k : Int) < (t.size : Int)) = true := decide_eq_true (by omega);have d1' : decide (k < t.size) = true := decide_eq_true hlt;have hwk : IntKind.i64.wrap ((k : Int) + 1) = (k : Int) + 1 := zb _ (by omega) (by omega);have HTK := Lib.hid (show t.data.toList.take (k + 1) = t.data.toList.take k ++ [t[k]'hlt] by
   rw [List.take_succ_eq_append_getElem (by rw [HSZ.out]; exact hlt)];rfl)
  generalize hb : t[k]'hlt = b at *;have HBE := Lib.hid hb;by_cases h27 : (b.toNat : Int) = 27
  ·have e1 : ((b.toNat : Int) == 27) = true := beq_iff_eq.2 h27;clear h27;rw [← hb] at e1;clear hb;go_wp2_with fail;exact zT rfl rfl rfl ⟨false, rfl, fun e => (by cases e), HB.out⟩
  have e1 : ((b.toNat : Int) == 27) = false := beq_eq_false_iff_ne.2 h27;by_cases h24 : (b.toNat : Int) = 24
  ·have e2 : ((b.toNat : Int) == 24) = true := beq_iff_eq.2 h24;clear h27 h24;rw [← hb] at e1 e2;clear hb;go_wp2_with fail;exact zT rfl rfl rfl ⟨false, rfl, fun e => (by cases e), HB.out⟩
  have e2 : ((b.toNat : Int) == 24) = false := beq_eq_false_iff_ne.2 h24;by_cases h26 : (b.toNat : Int) = 26
  ·have e3 : ((b.toNat : Int) == 26) = true := beq_iff_eq.2 h26;clear h27 h24 h26;rw [← hb] at e1 e2 e3;clear hb;go_wp2_with fail;exact zT rfl rfl rfl ⟨false, rfl, fun e => (by cases e), HB.out⟩
  have e3 : ((b.toNat : Int) == 26) = false := beq_eq_false_iff_ne.2 h26;have HQ2 := Lib.hid (show ∀ x ∈ t.data.toList.take (k + 1), x.toNat ≠ 27 ∧ x.toNat ≠ 24 ∧ x.toNat ≠ 26 from fun x hx => by
   rw [HTK.out] at hx;rcases List.mem_append.1 hx with hx | hx
   ·exact HQ.out x hx
   ·rw [List.mem_singleton] at hx;subst hx;exact ⟨by omega, by omega, by omega⟩)
  clear h27 h24 h26;rw [← hb] at e1 e2 e3;clear hb;go_wp2_with fail;go_roundw
  case rel => exact ⟨k + 1, by omega, by go_num, HB, HQ2⟩
  case measure => simp [intOf]; omega
end
section
open Go.RowKit
theorem zgg (t : Trm) (l : List UInt8) : (t.feed (l ++ [24])).1.par.Clear := by
 rw [zbm];obtain ⟨q, e, hq⟩ := zlL (t.feed l).1;rw [e];exact hq
end
section
open Go.RowKit
set_option maxRecDepth 100000
attribute [local go_sem ↓] Go.wp_at_zero Go.wp_at_succ
theorem zoh (by_ : ByteArray) (l : List UInt8) : (by_ ++ ⟨l.toArray⟩).data.toList = by_.data.toList ++ l := by rw [zcN]
structure zd5 (C : Nat → Nat) (w : World) (rv : Value) (L : List (Value × List Cel)) : Prop where
 row : za3 C w 1 rv L.length (L.map (·.1)) 0
 cel : ∀ x ∈ L, za3 C w 5 x.1 x.2.length (zp x.2) 0
theorem zd5.next {C C' : Nat → Nat} {w w' : World} {rv : Value} {L : List (Value × List Cel)} (h : zd5 C w rv L) (g : Pre C w C' w') : zd5 C' w' rv L := ⟨h.row.next g, fun x hx => (h.cel x hx).next g⟩
theorem zd5.below {C : Nat → Nat} {w w' : World} {rv : Value} {L : List (Value × List Cel)} (h : zd5 C w rv L) (b : Below w.heap.size w w') : zd5 C w' rv L := h.next ((Pre.refl C w).below b)
theorem zd5.view {C : Nat → Nat} {w : World} {rv : Value} {L : List (Value × List Cel)} (h : zd5 C w rv L) : zbv 0 w rv L := ⟨h.row.own, fun x hx => (h.cel x hx).own⟩
theorem zbv.aside {B : World} {C : Nat → Nat} {p : Nat} {w w' : World} {s : Scr} {ps : PSt} {rv : Value} {L : List (Value × List Cel)} (h : zbv w.heap.size w' rv L) (hs : SR B C p w s ps) : zd5 C w' rv L :=
 ⟨⟨zM h.row (Nat.zero_le _), fun k hk => hs.free (zl h.row k hk).1⟩, fun x hx => ⟨zM (h.cel x hx) (Nat.zero_le _), fun k hk => hs.free (zl (h.cel x hx) k hk).1⟩⟩
end
section
open Go.RowKit
def Ai (s : Scr) : Prop := s.has 256 = s.other.isSome
theorem Z2 {m : Int} (h : M10 m) : ∃ n : Nat, m = n ∧ n < 1024 := ⟨m.toNat, by have := h.1; omega, by have := h.2; have := h.1; omega⟩
theorem zs {m : Int} {n : Nat} (e : m = n) (hn : n < 1024) : (zee m 256 != 0) = n.testBit 8 := by
 rw [e];exact z7 (k := 8) hn (by decide)
theorem zpj {m : Int} (hm : M10 m) {b : Nat} (h8 : b.testBit 8 = false) : (zee (Zm m (b : Int)) 256 != 0) = (zee m 256 != 0) ∧ M10 (Zm m (b : Int)) := by
 obtain ⟨n, e, hn⟩ := Z2 hm;subst e;obtain ⟨q, e2, hq, hb⟩ := zlY (a := n) (b := b) hn;have hm2 := hm.not (b : Int);rw [zs rfl hn, e2, zs rfl (by omega), hb 8, h8];rw [e2] at hm2;exact ⟨by simp, hm2⟩
theorem zps {m : Int} (hm : M10 m) {b : Nat} (hb : b < 1024) (h8 : b.testBit 8 = false) : (zee (bOr m (b : Int)) 256 != 0) = (zee m 256 != 0) := by
 obtain ⟨n, e, hn⟩ := Z2 hm;subst e;rw [zs rfl hn, zs (zoN hn hb) (Nat.or_lt_two_pow (n := 10) hn hb), Nat.testBit_or, h8, Bool.or_false]
section
variable {c r : Nat} {s : Scr}
theorem Ai.mode (h : Ai s) (hm : M10 s.modes) (b : Nat) (hb : b < 1024) (h8 : b.testBit 8 = false) (on : Bool) : Ai (s.mode (b : Int) on) := by
 obtain ⟨k1, k2⟩ := zpj hm h8;unfold Ai Scr.has Scr.mode;dsimp only;cases on
 ·rw [if_neg (by decide), k1]; exact h
 ·rw [if_pos rfl, zps k2 hb h8, k1]; exact h
theorem Ai.turn (h : Ai s) (f : Gr → Gr) : Ai (s.turn f) := by
 unfold Scr.turn;have h' : s.has 256 = s.other.isSome := h;cases ho : s.other with
 | none => rw [ho] at h'; exact h'
 | some g => rw [ho] at h'; exact h'
theorem Ai.index (h : Ai s) : Ai s.index := by
 unfold Scr.index;split
 ·exact h.turn _
 ·split
  ·exact h
  ·exact h
theorem Ai.reverse (h : Ai s) : Ai s.reverse := by
 unfold Scr.reverse;split
 ·exact h.turn _
 ·split
  ·exact h
  ·exact h
theorem Ai.toX (h : Ai s) (x : Int) : Ai (s.toX x) := h
theorem Ai.calm (h : Ai s) : Ai s.calm := h
theorem Ai.place (h : Ai s) (x y : Int) : Ai (s.place x y) := h
theorem Ai.on (h : Ai s) : Ai s.on := ((h.turn _).toX 0).index
theorem Ai.fit (h : Ai s) (w : Int) : Ai (s.fit w) := by
 unfold Scr.fit;have h1 : Ai (if s.now.wait && s.has 1 then s.on else s) := by
  split
  ·exact h.on
  ·exact h
 generalize (if s.now.wait && s.has 1 then s.on else s) = t at h1;dsimp only;split
 ·split
  ·exact h1.calm.on
  ·exact h1
 ·exact h1
theorem Ai.lay (h : Ai s) (c w : Int) : Ai (s.lay c w) := by
 unfold Scr.lay;have h1 : Ai (if s.has 2 then s.turn (fun g => g.ins s.now.x s.now.y w s.blank) else s) := by
  split
  ·exact h.turn _
  ·exact h
 generalize (if s.has 2 then s.turn (fun g => g.ins s.now.x s.now.y w s.blank) else s) = t at h1;dsimp only;have h2 : Ai (t.turn (fun g => g.put t.now.x t.now.y ⟨c, w, t.now.pen⟩)) := h1.turn _;split
 ·exact h2
 ·exact h2
theorem Ai.print (h : Ai s) (r : Int) : Ai (s.print r) := by
 unfold Scr.print;dsimp only;split
 ·exact h
 ·exact (h.fit _).lay _ _
theorem Ai.control (h : Ai s) (b : UInt8) : Ai (s.control b) := by
 unfold Scr.control;have h1 : Ai (if 8 ≤ (b.toNat : Int) ∧ (b.toNat : Int) ≤ 13 then s.calm else s) := by
  split
  ·exact h
  ·exact h
 dsimp only;generalize (if 8 ≤ (b.toNat : Int) ∧ (b.toNat : Int) ≤ 13 then s.calm else s) = t at h1 ⊢;have hi := h1.index;split
 ·exact h1
 split
 ·exact h1
 split
 ·exact h1
 split
 ·split
  ·exact hi
  ·exact hi
 split
 ·exact h1
 split
 ·exact h1
 ·exact h1
theorem Ai.setSlot (h : Ai s) (v : Sav) : Ai (s.setSlot v) := by
 unfold Scr.setSlot;split
 ·exact h
 ·exact h
theorem Ai.save (h : Ai s) : Ai s.save := by
 have h1 : Ai { s with now := { s.now with origin := s.has 4 } } := h;exact h1.setSlot _
theorem Ai.restore (h : Ai s) (hok : s.Ok c r) : Ai s.restore := by
 have h1 : Ai { s with now := s.slot } := h;exact h1.mode hok.md 4 (by decide) (by decide) _
theorem Ai.keep (h : Ai s) (hok : s.Ok c r) (on : Bool) : Ai (s.keep on) := by
 unfold Scr.keep;split
 ·exact h.save
 ·exact h.restore hok
theorem zpw : Nat.testBit 256 8 = true := by decide
theorem Ai.swap (h : Ai s) (hok : s.Ok c r) (on : Bool) : Ai (s.swap on) := by
 unfold Scr.swap;split
 ·exact h
 ·obtain ⟨n, e, hn⟩ := Z2 hok.md;obtain ⟨q, e2, hq, hb⟩ := zlY (a := n) (b := 256) hn;cases on
  ·show (zee (Zm s.modes 256) 256 != 0) = false;rw [e, show (256 : Int) = ((256 : Nat) : Int) from rfl, e2, show (((256 : Nat) : Int)) = (256 : Int) from rfl, zs rfl (by omega), hb 8, zpw];simp
  ·show (zee (bOr (Zm s.modes 256) 256) 256 != 0) = true;rw [e, show (256 : Int) = ((256 : Nat) : Int) from rfl, e2, zoN (by omega : q < 1024) (by decide : 256 < 1024), show (((256 : Nat) : Int)) = (256 : Int) from rfl, zs rfl (Nat.or_lt_two_pow (n := 10) (by omega) (by decide)), Nat.testBit_or, zpw];simp
theorem Ai.fill (h : Ai s) : Ai s.fill := by
 have h1 : Ai ((s.whole).place 0 0) := h;exact h1.turn _
theorem Ai.reset : Ai s.reset := by
 show (zee 9 256 != 0) = false;decide
theorem Ai.bare (h : Ai s) (hok : s.Ok c r) (b : UInt8) : Ai (s.bare b) := by
 have h0 : Ai (s.toX 0) := h;unfold Scr.bare;dsimp only;split
 ·exact h.save
 split
 ·exact h.restore hok
 split
 ·exact h0.index.calm
 split
 ·exact h.index.calm
 split
 ·exact h.reverse.calm
 split
 ·exact h
 split
 ·exact .reset
 split
 ·exact h.mode hok.md 32 (by decide) (by decide) _
 split
 ·exact h
 ·exact h
theorem Ai.escape (h : Ai s) (hok : s.Ok c r) (b : UInt8) (i : List UInt8) : Ai (s.escape b i) := by
 unfold Scr.escape;dsimp only
 repeat' split
 all_goals first | exact h | exact h.fill | exact h.bare hok b
theorem Z3 {f : Scr → Scr} (hf : ∀ t : Scr, Ai t → Ai (f t)) : ∀ (n : Nat) (t : Scr), Ai t → Ai (itF f n t)
 | 0, _, h => h
 | n + 1, t, h => Z3 hf n (f t) (hf t h)
theorem z1 {f : Scr → Nat → Scr} (hf : ∀ (t : Scr) i, t.Ok c r → Ai t → (f t i).Ok c r ∧ Ai (f t i)) : ∀ (l : List Nat) (t : Scr), t.Ok c r → Ai t → Ai (l.foldl f t)
 | [], _, _, h => h
 | i :: l, t, ho, h => z1 hf l (f t i) (hf t i ho h).1 (hf t i ho h).2
theorem Ai.tab (h : Ai s) : Ai s.tab := h.place _ _
theorem Ai.back (h : Ai s) : Ai s.back := h.place _ _
theorem Ai.move (h : Ai s) (k n : Int) : ∀ t, s.move k n = some t → Ai t := by
 intro t ht;unfold Scr.move at ht;split at ht
 ·injection ht with ht;rw [← ht];exact h.place _ _
 split at ht
 ·injection ht with ht;rw [← ht];exact h.place _ _
 split at ht
 ·injection ht with ht;rw [← ht];exact h.place _ _
 split at ht
 ·injection ht with ht;rw [← ht];exact h.place _ _
 split at ht
 ·injection ht with ht;rw [← ht];exact (h.place _ _).toX _
 split at ht
 ·injection ht with ht;rw [← ht];exact (h.place _ _).toX _
 split at ht
 ·injection ht with ht;rw [← ht];exact h.place _ _
 split at ht
 ·injection ht with ht;rw [← ht];exact h.place _ _
 split at ht
 ·injection ht with ht;rw [← ht];exact Z3 (f := Scr.tab) (fun u hu => Ai.tab hu) _ _ h
 split at ht
 ·injection ht with ht;rw [← ht];exact Z3 (f := Scr.back) (fun u hu => Ai.back hu) _ _ h
 ·cases ht
theorem Ai.edit (h : Ai s) (k n : Int) : ∀ t, s.edit k n = some t → Ai t := by
 have h1 : Ai ((s.toX 0).calm) := h;intro t ht;unfold Scr.edit at ht;split at ht
 ·cases ht; exact h.turn _
 split at ht
 ·cases ht; exact h.turn _
 split at ht
 ·cases ht; exact h.turn _
 split at ht
 ·cases ht;split
  ·exact h1.turn _
  ·exact h
 split at ht
 ·cases ht;split
  ·exact h1.turn _
  ·exact h
 split at ht
 ·cases ht; exact h.turn _
 split at ht
 ·cases ht; exact h.turn _
 split at ht
 ·cases ht;refine Z3 (fun u hu => ?_) _ _ h;split
  ·exact hu.print _
  ·exact hu
 ·cases ht
theorem Ai.clean (h : Ai s) (y z : Int) : Ai (s.clean y z) := h.turn _
theorem Ai.inRow (h : Ai s) (k : Int) : Ai (s.inRow k) := by
 have hc : Ai s.calm := h;unfold Scr.inRow;split
 ·exact hc.turn _
 split
 ·exact hc.turn _
 split
 ·exact hc.clean _ _
 ·exact hc
theorem Ai.inAll (h : Ai s) (k : Int) : Ai (s.inAll k) := by
 have hc : Ai s.calm := h;unfold Scr.inAll;split
 ·exact (h.inRow 0).clean _ _
 split
 ·exact (h.inRow 1).clean _ _
 split
 ·exact hc.clean _ _
 split
 ·exact hc
 ·exact hc
theorem Ai.report (h : Ai s) (k : Int) : Ai (s.report k) := by
 unfold Scr.report
 repeat' split
 all_goals exact h
theorem Ai.region (h : Ai s) (ps : List Int) : Ai (s.region ps) := by
 unfold Scr.region;dsimp only;generalize (if par ps 1 s.rows = 0 then s.rows else par ps 1 s.rows) = b0;split
 ·exact h
 ·exact h
theorem Ai.setMode1 (h : Ai s) (hok : s.Ok c r) (k : Int) (on : Bool) : Ai (s.setMode1 k on) := by
 unfold Scr.setMode1;split
 ·exact h.mode hok.md 2 (by decide) (by decide) _
 split
 ·exact h.mode hok.md 512 (by decide) (by decide) _
 ·exact h
theorem Ai.others (h : Ai s) (hok : s.Ok c r) (k : Int) (ps : List Int) : Ai (s.others k ps) := by
 unfold Scr.others;dsimp only;split
 ·exact h
 split
 ·exact h.inAll _
 split
 ·exact h.inRow _
 split
 ·split
  ·exact h
  ·exact h
 split
 ·exact h.report _
 split
 ·split
  ·exact h
  ·split
   ·exact h
   ·exact h
 split
 ·exact z1 (fun t i ho ht => ⟨ho.setMode1 _ _, ht.setMode1 ho _ _⟩) _ _ hok h
 split
 ·exact h
 split
 ·exact h.region _
 split
 ·exact h.keep hok _
 ·exact h
theorem Ai.private (h : Ai s) (hok : s.Ok c r) (hr : 1 ≤ r) (k : Int) (on : Bool) : Ai (s.private k on) := by
 unfold Scr.private;dsimp only;split
 ·exact h.mode hok.md 16 (by decide) (by decide) _
 split
 ·exact (h.mode hok.md 4 (by decide) (by decide) on).place _ _
 split
 ·exact h.mode hok.md 1 (by decide) (by decide) on
 split
 ·exact h.mode hok.md 8 (by decide) (by decide) _
 split
 ·exact h.swap hok _
 split
 ·exact h.keep hok _
 split
 ·split
  ·exact h.save.swap hok.save _
  ·exact (h.swap hok _).restore (hok.swap hr _)
 split
 ·exact h.mode hok.md 128 (by decide) (by decide) _
 split
 ·exact h.mode hok.md 64 (by decide) (by decide) _
 ·exact h
theorem Ai.soft (h : Ai s) (hok : s.Ok c r) : Ai s.soft := by
 obtain ⟨k1, k2⟩ := zpj hok.md (b := 54) (by decide);have k3 := zps k2 (b := 9) (by decide) (by decide);unfold Scr.soft;dsimp only;refine Ai.setSlot ?_ _;show (zee (bOr (Zm s.modes 54) 9) 256 != 0) = s.other.isSome;exact (k3.trans k1).trans h
theorem Ai.csi (h : Ai s) (hok : s.Ok c r) (hr : 1 ≤ r) (hc : 1 ≤ c) (b : UInt8) (ps : List Int) (i : List UInt8) : Ai (s.csi b ps i) := by
 unfold Scr.csi;dsimp only;split
 ·cases hm : s.move (b.toNat : Int) (max 1 (par ps 0 1)) with
  | some t => exact h.move _ _ t hm
  | none =>
   cases he : s.edit (b.toNat : Int) (max 1 (par ps 0 1)) with
   | some t => exact h.edit _ _ t he
   | none => exact h.others hok _ _
 split
 ·split
  ·exact z1 (fun t i ho ht => ⟨ho.private hc hr _ _, ht.private ho hr _ _⟩) _ _ hok h
  ·exact h
 split
 ·split
  ·exact h.soft hok
  ·exact h
 split
 ·split
  ·exact h
  ·exact h
 ·exact h
theorem Ai.act (h : Ai s) (hok : s.Ok c r) (hc : 1 ≤ c) (hr : 1 ≤ r) (a : VAct) : Ai (s.act a) := by
 have hk : ({ s with out := [] } : Scr).Ok c r := ⟨hok.main, hok.other, hok.now, hok.k0, hok.k1, hok.t0, hok.tb, hok.b1, hok.tl, hok.md⟩;have h' : Ai { s with out := [] } := h;unfold Scr.act;dsimp only;split
 ·exact h'.print _
 split
 ·exact h'.control _
 split
 ·exact h'.escape hk _ _
 split
 ·exact h'.csi hk hr hc _ _ _
 split
 ·unfold Scr.named;split
  ·exact h'
  ·exact h'
 split
 ·unfold Scr.asked
  repeat' split
  all_goals exact h'
 ·exact h'
end
theorem zpr {Q : Scr → Prop} {c r : Nat} (hc : 1 ≤ c) (hr : 1 ≤ r) (hc2 : c ≤ 1000) (hr2 : r ≤ 1000) (hQ : ∀ (s : Scr) (a : VAct), s.Ok c r → Q s → Q (s.act a)) : ∀ (l : List UInt8) (t : Trm), t.Ok c r → Q t.scr → Q (t.feed l).1.scr := by
 have hacts : ∀ (l : List VAct) (t : Trm), t.Ok c r → (∀ a ∈ l, AOk a) → Q t.scr → Q (t.acts l).1.scr := by
  intro l
  induction l with
  | nil => intro t _ _ h; exact h
  | cons a l ih => intro t ht ha h; exact ih (t.act a) (ht.act hc hr hc2 hr2 (ha a (List.mem_cons_self ..))).1 (fun x hx => ha x (List.mem_cons_of_mem _ hx)) (hQ t.scr a ht.scr h)
 intro l
 induction l with
 | nil => intro t _ h; exact h
 | cons b l ih =>
  intro t ht h;obtain ⟨g1, g2, _⟩ := zgE b ht.par;exact ih (t.byte b).1 (Trm.Ok.byte hc hr hc2 hr2 ht b).1 (hacts (t.par.step b).2 ⟨t.scr, (t.par.step b).1⟩ ⟨ht.scr, ht.last, g1⟩ g2 h)
theorem zpy {c r : Nat} (hc : 1 ≤ c) (hr : 1 ≤ r) (hc2 : c ≤ 1000) (hr2 : r ≤ 1000) (l : List UInt8) (t : Trm) (ht : t.Ok c r) (h : Ai t.scr) : Ai (t.feed l).1.scr :=
 zpr hc hr hc2 hr2 (fun _ a ho hs => hs.act ho hc hr a) l t ht h
end
section
open Go.RowKit
theorem zpz (s : Scr) (ho : s.other = none) : ∃ g, (s.save.swap true).other = some g ∧ g.old = [] := by
 have e1 : s.save = { s with now := { s.now with origin := s.has 4 }, k0 := { s.now with origin := s.has 4 } } := by
  unfold Scr.save Scr.setSlot;dsimp only;rw [ho];rfl
 rw [e1];unfold Scr.swap;rw [if_neg (by rw [ho]; decide)];exact ⟨_, rfl, rfl⟩
structure zpA (t t1 t2 : Trm) : Prop where
 clr : t2.par.Clear
 on : t1.scr.other.isSome = true
 old : t1.scr.shown.old = []
 sh : t2.scr.shown = t.scr.shown
 modes : t2.scr.modes = t.scr.modes
 title : t2.scr.title = t.scr.title
 x : t2.scr.now.x = t.scr.now.x
 y : t2.scr.now.y = t.scr.now.y
 wait : t2.scr.now.wait = t.scr.now.wait
 pen : t2.scr.now.pen = t.scr.now.pen
 main : t2.scr.main = t.scr.main
theorem zpB {t : Trm} (hc : t.par.Clear) (hm : M10 t.scr.modes) (h8 : t.scr.has 256 = false) (ho : t.scr.other = none) {text : List UInt8} (hq : ∀ b ∈ text, Z1 b) :
  zpA t (t.feed [27, 91, 63, 49, 48, 52, 57, 104]).1 ((t.feed [27, 91, 63, 49, 48, 52, 57, 104]).1.feed (text ++ [27, 91, 49, 59, 51, 50, 109, 24, 27, 91, 63, 49, 48, 52, 57, 108])).1 := by
 obtain ⟨h1, h2, h3, h4, h5, h6, h7⟩ := zpp hc hm h8 ho hq _ _ rfl rfl;obtain ⟨g, e1, e2⟩ := zpz ({ t.scr with out := [] } : Scr) ho;generalize ((t.feed [27, 91, 63, 49, 48, 52, 57, 104]).1.feed (text ++ [27, 91, 49, 59, 51, 50, 109, 24, 27, 91, 63, 49, 48, 52, 57, 108])).1 = t2 at *;generalize (t.feed [27, 91, 63, 49, 48, 52, 57, 104]).1 = t1 at *;rw [← h1] at e1;refine ⟨h2, by rw [e1]; rfl, ?_, ?_, h5, h6, by rw [h7], by rw [h7], by rw [h7], by rw [h7], h3⟩
 ·unfold Scr.shown;rw [e1];exact e2
 ·unfold Scr.shown;rw [h4, ho, h3]
end
section
open Go.RowKit
set_option maxRecDepth 100000
attribute [local go_sem ↓] Go.wp_at_zero Go.wp_at_succ
theorem z2 (rv x y sh wt mo ti : Value) (wx : World) : (Instr.field 47 (.agg #[rv, x, y, sh, wt, mo, ti]) 2).run Tryz.prog wx = .ok mo wx := by kernel_rfl
set_option maxRecDepth 1000000 in
set_option maxHeartbeats 8000000 in
theorem zz (cols rows : Int) (ahead text : ByteArray) (w : World) (h1 : I64 cols) (h2 : I64 rows) (_ha : ahead.size ≤ 1000000000) (_hb : text.size ≤ 1000000000) (ht : zcx w) :
  Calls Tryz.prog 7 #[.int .i64 cols, .int .i64 rows, .string ahead, .string text] w fun e w' => e = .returned (.bool true) ∧ Below w.heap.size w w' := by
 have HSH := Lib.hid (zcP w ht);have HT := Lib.hid ht;have HMD := Lib.hid (fun w1 ht1 => zdv cols rows 20 w1 h1 h2 (by unfold I64; decide) ht1);have HQ := Lib.hid (fun w1 => zpq text w1 (by unfold maxLen; omega));have hsz : (ahead.size : Int) + (text.size : Int) < 9223372036854775808 := (by omega);have l1 := zat cols 40 (by decide);have l2 := zat rows 15 (by decide);rw [show zap 20 40 = 20 from by decide] at HMD;generalize zap cols 40 = x1 at *;generalize zap rows 15 = x2 at *;obtain ⟨m, hm⟩ : ∃ m : Nat, m = 1 + x1 := ⟨_, rfl⟩;obtain ⟨r, hr⟩ : ∃ r : Nat, r = 1 + x2 := ⟨_, rfl⟩;rw [← hm, ← hr] at HMD;have hm1 : 1 ≤ m ∧ m ≤ 40 := (by omega);have hr1 : 1 ≤ r ∧ r ≤ 15 := (by omega);have HON := Lib.hid (zfV (c := m) (r := r) (l := 20) (by omega) (by omega));have HAI := Lib.hid (fun (t : Trm) (l : List UInt8) (h : t.Ok m r) (ha : Ai t.scr) => zpy (c := m) (r := r) (by omega) (by omega) (by omega) (by omega) l t h ha);clear hm hr l1 l2 h1 h2 ht hm1 hr1;go_enter Tryz.func7, Tryz.ntmps7;go_wp2_with fail;refine HSH.out.mono ?_;rintro e w1 ⟨rfl, b1⟩;have HW1 := Lib.hid b1;have HM := Lib.hid (HMD.out w1 (HT.out.below b1));clear b1 HSH HMD HT;go_wp2_with fail;refine HM.out.mono ?_;rintro e w2 ⟨p, C2, rfl, h2⟩;have H2 := Lib.hid h2;have HQ2 := Lib.hid (HQ.out w2);clear h2 HM HQ;go_wp2_with fail;refine HQ2.out.mono ?_;rintro e w3 ⟨q, rfl, hq, b3⟩;have H3 := Lib.hid (H2.out.below b3);have HB3 := Lib.hid (HW1.out.trans (H3.out.bl.mono HW1.out.size));have HQT := Lib.hid hq;clear b3 hq H2 HQ2;have hws : IntKind.i64.wrap ((ahead.size : Int) + (text.size : Int)) = (ahead.size : Int) + (text.size : Int) := zb _ (by omega) (by omega);cases q
 ·go_wp2_with fail;go_ret;exact ⟨rfl, HB3.out⟩
 by_cases hs : ahead.size + text.size ≤ 10000;rotate_left
 ·have hs' : decide (10000 < (ahead.size : Int) + (text.size : Int)) = true := decide_eq_true (by omega);go_wp2_with fail;go_ret;exact ⟨rfl, HB3.out⟩
 have hs' : decide (10000 < (ahead.size : Int) + (text.size : Int)) = false := decide_eq_false (by omega);have hz3 : (ahead.size : Int) + 1 ≤ 9223372036854775807 := (by omega);have hz4 : ahead.size + 1 ≤ 9223372036854775807 := (by omega);obtain ⟨v3, w4, hcv3, b4, ha4⟩ := zaR w3 (ahead ++ ⟨#[24]⟩) (by rw [ByteArray.size_append]; show _ + 1 ≤ _; omega);have HF4 := Lib.hid (ZJ (t := ⟨za4 m r 20, s0⟩) (H3.out.below b4) HON.out v3 _ (ha4 _ _ _ _ _ H3.out) (by rw [zal, ByteArray.size_append]; show _ + 1 ≤ _; omega));clear b4 ha4 H3;go_wp2_with fail;refine HF4.out.mono ?_;rintro e w5 ⟨v5, C5, rfl, h5, _, _, o5⟩;have hcl : ((⟨za4 m r 20, s0⟩ : Trm).feed (ahead ++ ⟨#[24]⟩).data.toList).1.par.Clear := by
  rw [show (ahead ++ ⟨#[24]⟩).data.toList = ahead.data.toList ++ [24] from zoh ahead [24]];exact zgg _ _
 have hai := HAI.out ⟨za4 m r 20, s0⟩ (ahead ++ ⟨#[24]⟩).data.toList HON.out Ai.reset;obtain ⟨t, htt⟩ : ∃ t : Trm, t = ((⟨za4 m r 20, s0⟩ : Trm).feed (ahead ++ ⟨#[24]⟩).data.toList).1 := ⟨_, rfl⟩;rw [← htt] at h5 o5 hcl hai;have H5 := Lib.hid h5;have O5 := Lib.hid o5;have HCL := Lib.hid hcl;have HA := Lib.hid hai;clear h5 o5 hcl hai htt HF4 HON hcv3;go_wp2_with fail;refine (zbz H5.out O5.out.scr).mono ?_;rintro e w6 ⟨ra, La, rfl, _, va, b6⟩;obtain ⟨aa, an, ac, rfl⟩ := zu va.row;have H6 := Lib.hid (H5.out.below b6);have HB6 := Lib.hid (HW1.out.trans (H6.out.bl.mono HW1.out.size));clear va b6 H5;obtain ⟨mo, hmo⟩ : ∃ mo, mo = t.scr.modes := ⟨_, rfl⟩;obtain ⟨z8, hz8⟩ : ∃ z, z = zee mo 256 := ⟨_, rfl⟩;have hbits : bits BinOp.and IntKind.i64 mo 256 = z8 := (by rw [hz8]; rfl);have HH8 := Lib.hid (show t.scr.has 256 = (z8 != 0) from by rw [hz8, hmo]; rfl);unfold Scr.viewV;rw [← hmo];have HMO := Lib.hid hmo;have hfd := fun wx => z2 (.slice aa an ac) (.int .i64 t.scr.now.x) (.int .i64 t.scr.now.y) (.bool (t.scr.has 8)) (.bool t.scr.now.wait) (.int .i64 mo) (.string ⟨t.scr.title.toArray⟩) wx;clear hmo hz8;by_cases h0 : z8 = 0;rotate_left
 ·have e1 : (z8 != 0) = true := (by simp [h0]);clear h0;go_wp2_with fail;go_ret;exact ⟨rfl, HB6.out⟩
 have e1 : (z8 != 0) = false := (by rw [h0]; rfl);have h8 : t.scr.has 256 = false := (by rw [HH8.out, e1]);have hno : t.scr.other = none := by
  have := HA.out;unfold Ai at this;rw [h8] at this;cases ho : t.scr.other with
  | none => rfl
  | some g => rw [ho] at this; cases this
 have HLT := Lib.hid (zpB HCL.out O5.out.scr.md h8 hno (text := text.data.toList) (fun b hb => HQT.out trivial b hb));have HA1 := Lib.hid (HAI.out t [27, 91, 63, 49, 48, 52, 57, 104] O5.out HA.out);clear h0 h8 hno HH8 HCL HA;go_upto_region 9 with fail;clear hbits e1 hfd;go_wp2_with fail;refine (zbz H6.out O5.out.scr).mono ?_;rintro e w7 ⟨rb, Lb, rfl, eb, vb, b7⟩;obtain ⟨ba, bn, bc, rfl⟩ := zu vb.row;have hlim := zgK H6.out eb O5.out.scr;obtain ⟨x, hx⟩ : ∃ x, x = t.scr.now.x := ⟨_, rfl⟩;obtain ⟨y, hy⟩ : ∃ y, y = t.scr.now.y := ⟨_, rfl⟩;obtain ⟨sh, hsh⟩ : ∃ y, y = t.scr.has 8 := ⟨_, rfl⟩;obtain ⟨wt, hwt⟩ : ∃ y, y = t.scr.now.wait := ⟨_, rfl⟩;obtain ⟨ti, hti⟩ : ∃ y : ByteArray, y = ⟨t.scr.title.toArray⟩ := ⟨_, rfl⟩;obtain ⟨pn, hpn⟩ : ∃ y, y = t.scr.now.pen := ⟨_, rfl⟩;unfold Scr.viewV;rw [← hx, ← hy, ← hsh, ← hwt, ← hti, ← HMO.out];have HFX := Lib.hid (show t.scr.now.x = x ∧ t.scr.now.y = y ∧ t.scr.has 8 = sh ∧ t.scr.now.wait = wt ∧ t.scr.modes = mo ∧ (⟨t.scr.title.toArray⟩ : ByteArray) = ti ∧ t.scr.now.pen = pn from ⟨hx.symm, hy.symm, hsh.symm, hwt.symm, HMO.out.symm, hti.symm, hpn.symm⟩);have HV7 := Lib.hid (vb.aside H6.out);have HLI := Lib.hid hlim;have HEB := Lib.hid eb;have H7 := Lib.hid (H6.out.below b7);have hbo := Zy w7 (.cells #[.slice ba bn bc, .int .i64 x, .int .i64 y, .bool sh, .bool wt, .int .i64 mo, .string ti] 47);have HVB8 := Lib.hid (zE w7 (.cells #[.slice ba bn bc, .int .i64 x, .int .i64 y, .bool sh, .bool wt, .int .i64 mo, .string ti] 47));have H8 := Lib.hid (H7.out.below hbo);have HV8 := Lib.hid (HV7.out.below hbo);have HZV8 := Lib.hid (H7.out.free (Nat.le_refl w7.heap.size));have HST := Lib.hid (fun (B w : World) (C : Nat → Nat) (p : Nat) (ps : PSt) (u : Scr) (h : SR B C p w u ps) => zbO h);unfold Sty.val at HST;clear hx hy hsh hwt hti hpn hlim eb vb b7 hbo H6 H7 HV7 HB6;go_upto_region 10 with fail;obtain ⟨V, hV⟩ : ∃ V, V = w7.heap.size := ⟨_, rfl⟩;rw [← hV] at HVB8 HZV8;rw [← hV];obtain ⟨w8, hw8⟩ : ∃ w8, w8 = w7.alloc (.cells #[.slice ba bn bc, .int .i64 x, .int .i64 y, .bool sh, .bool wt, .int .i64 mo, .string ti] 47) := ⟨_, rfl⟩;rw [← hw8] at HVB8 H8 HV8;rw [← hw8];clear hw8 hV;go_wp2_with fail;refine (HST.out _ _ _ _ _ _ H8.out).mono ?_;rintro e w9 ⟨rfl, b9⟩;rw [HFX.out.2.2.2.2.2.2];have H9 := Lib.hid (H8.out.below b9);have HV9 := Lib.hid (HV8.out.below b9);have HVB9 := Lib.hid (zm HVB8.out b9 (zj HVB8.out));have hbo := Zy w9 (.cells #[.int .i64 pn.fg, .int .i64 pn.bg, .int .i64 pn.attr] 35);have HPB10 := Lib.hid (zE w9 (.cells #[.int .i64 pn.fg, .int .i64 pn.bg, .int .i64 pn.attr] 35));have H10 := Lib.hid (H9.out.below hbo);have HV10 := Lib.hid (HV9.out.below hbo);have HVB10 := Lib.hid (zm HVB9.out hbo (zj HVB9.out));have HZP10 := Lib.hid (H9.out.free (Nat.le_refl w9.heap.size));clear b9 hbo H8 HV8 HVB8 H9 HV9 HVB9;go_upto_region 11 with fail;obtain ⟨P, hP⟩ : ∃ P, P = w9.heap.size := ⟨_, rfl⟩;rw [← hP] at HPB10 HZP10;rw [← hP];obtain ⟨w10, hw10⟩ : ∃ z, z = w9.alloc (.cells #[.int .i64 pn.fg, .int .i64 pn.bg, .int .i64 pn.attr] 35) := ⟨_, rfl⟩;rw [← hw10] at HPB10 H10 HV10 HVB10;rw [← hw10];clear hw10 hP;go_wp2_with fail;refine (zdu H10.out).mono ?_;rintro e w11 ⟨gq, Tg, rfl, b11, g11, n11⟩;have H11 := Lib.hid (H10.out.below b11);have HV11 := Lib.hid (HV10.out.below b11);have HVB11 := Lib.hid (zm HVB10.out b11 (zj HVB10.out));have HPB11 := Lib.hid (zm HPB10.out b11 (zj HPB10.out));have HG11 := Lib.hid g11;have HGZ11 := Lib.hid (show ∀ k, Tg k ≠ 0 → C5 k = 0 from fun k hk => Classical.byContradiction fun e => by
  have h1 := n11 k hk;have h2 := H10.out.lt k e;omega)
 clear b11 g11 n11 H10 HV10 HVB10 HPB10;go_upto_region 12 with fail;have hkc := zf3 w11 #[.int .u8 27, .int .u8 91, .int .u8 63, .int .u8 49, .int .u8 48, .int .u8 52, .int .u8 57, .int .u8 104] 8 8;have hA1 := zcs H11.out 5 [27, 91, 63, 49, 48, 52, 57, 104] #[.int .u8 27, .int .u8 91, .int .u8 63, .int .u8 49, .int .u8 48, .int .u8 52, .int .u8 57, .int .u8 104] rfl (by decide);have hbo := Zy w11 (.cells #[.int .u8 27, .int .u8 91, .int .u8 63, .int .u8 49, .int .u8 48, .int .u8 52, .int .u8 57, .int .u8 104] 5 (8, 9));have HF := Lib.hid (ZJ (t := t) (H11.out.below hbo) O5.out _ [27, 91, 63, 49, 48, 52, 57, 104] hA1 (by decide));have HV12 := Lib.hid (HV11.out.below hbo);have HVB12 := Lib.hid (zm HVB11.out hbo (zj HVB11.out));have HPB12 := Lib.hid (zm HPB11.out hbo (zj HPB11.out));have HG12 := Lib.hid (HG11.out.below hbo);clear hbo hA1 H11 HV11 HVB11 HPB11 HG11;go_wp2_with fail;refine HF.out.mono ?_;rintro e w13 ⟨v13, C13, rfl, h13, p13, _, o13⟩;obtain ⟨t1, ht1⟩ : ∃ t1 : Trm, t1 = (t.feed [27, 91, 63, 49, 48, 52, 57, 104]).1 := ⟨_, rfl⟩;have hlt := HLT.out;have ha1 := HA1.out;rw [← ht1] at h13 o13 hlt ha1;have H13 := Lib.hid h13;have O13 := Lib.hid o13;have HV13 := Lib.hid (HV12.out.next p13);have HVB13 := Lib.hid (p13.blk HVB12.out HZV8.out);have HPB13 := Lib.hid (p13.blk HPB12.out HZP10.out);have HZV13 := Lib.hid (show C13 V = 0 from Classical.byContradiction fun e => by
  rcases p13.n V e with e | e
  ·exact e HZV8.out
  ·have := zj HVB12.out; omega)
 have HZP13 := Lib.hid (show C13 P = 0 from Classical.byContradiction fun e => by
  rcases p13.n P e with e | e
  ·exact e HZP10.out
  ·have := zj HPB12.out; omega)
 have HG13 := Lib.hid (HG12.out.other p13.wi HGZ11.out);have HGZ13 := Lib.hid (show ∀ k, Tg k ≠ 0 → C13 k = 0 from fun k hk => Classical.byContradiction fun e => by
  rcases p13.n k e with e | e
  ·exact e (HGZ11.out k hk)
  ·have := HG12.out.lt k hk; omega)
 have HLN := Lib.hid hlt;have hbs : (zee t1.scr.modes 256 != 0) = true := by
  have h1 : t1.scr.has 256 = t1.scr.other.isSome := ha1;rw [hlt.on] at h1;exact h1
 obtain ⟨mo1, hmo1⟩ : ∃ mo, mo = t1.scr.modes := ⟨_, rfl⟩;obtain ⟨z9, hz9⟩ : ∃ z, z = zee mo1 256 := ⟨_, rfl⟩;have hbits : bits BinOp.and IntKind.i64 mo1 256 = z9 := (by rw [hz9]; rfl);rw [← hmo1, ← hz9] at hbs;have hz0 : (z9 == 0) = false := by
  simp only [bne_iff_ne, ne_eq] at hbs;exact beq_eq_false_iff_ne.2 hbs
 have HM1 := Lib.hid hmo1;clear h13 o13 hlt ha1 p13 hz9 hmo1 hbs ht1 hkc HF HV12 HVB12 HPB12 HG12 HZV8 HZP10 HGZ11 HLT HA1;go_wp2_with fail;refine (zbz H13.out O13.out.scr).mono ?_;rintro e w14 ⟨rc, Lc, rfl, _, vc, b14⟩;obtain ⟨ca, cn, cc, rfl⟩ := zu vc.row;have H14 := Lib.hid (H13.out.below b14);have HV14 := Lib.hid (HV13.out.below b14);have HVB14 := Lib.hid (zm HVB13.out b14 (zj HVB13.out));have HPB14 := Lib.hid (zm HPB13.out b14 (zj HPB13.out));have HG14 := Lib.hid (HG13.out.below b14);unfold Scr.viewV;rw [← HM1.out];have hfd := fun wx => z2 (.slice ca cn cc) (.int .i64 t1.scr.now.x) (.int .i64 t1.scr.now.y) (.bool (t1.scr.has 8)) (.bool t1.scr.now.wait) (.int .i64 mo1) (.string ⟨t1.scr.title.toArray⟩) wx;clear b14 vc H13 HV13 HVB13 HPB13 HG13;go_wp2_with fail;refine (zdu H14.out).mono ?_;rintro e w15 ⟨hq, Th, rfl, b15, g15, _⟩;have H15 := Lib.hid (H14.out.below b15);have HV15 := Lib.hid (HV14.out.below b15);have HVB15 := Lib.hid (zm HVB14.out b15 (zj HVB14.out));have HPB15 := Lib.hid (zm HPB14.out b15 (zj HPB14.out));have HG15 := Lib.hid (HG14.out.below b15);have HHS := Lib.hid (show Calls Tryz.prog 31 #[.pointer (some ⟨hq, 0, none⟩)] w15 fun e w' => e = .returned (.int .i64 0) ∧ w' = w15 from by
  refine (zhB g15).mono ?_;rintro e w' ⟨rfl, h⟩;rw [HLN.out.old];exact ⟨rfl, h⟩)
 clear b15 g15 H14 HV14 HVB14 HPB14 HG14 hfd;go_wp2_with fail;refine HHS.out.mono ?_;rintro e wx ⟨rfl, hwx⟩;subst wx;go_upto_region 15 with fail;clear HHS hbits hz0;obtain ⟨v16, w16, hcv16, b16, ha16⟩ := zaR w15 (text ++ ⟨#[27, 91, 49, 59, 51, 50, 109, 24, 27, 91, 63, 49, 48, 52, 57, 108]⟩) (by rw [ByteArray.size_append]; show _ + 16 ≤ _; omega);have hzz : (text.size : Int) + 16 ≤ 9223372036854775807 := (by omega);have hzy : text.size + 16 ≤ 9223372036854775807 := (by omega);have hlst : (text ++ ⟨#[27, 91, 49, 59, 51, 50, 109, 24, 27, 91, 63, 49, 48, 52, 57, 108]⟩).data.toList = text.data.toList ++ [27, 91, 49, 59, 51, 50, 109, 24, 27, 91, 63, 49, 48, 52, 57, 108] := zoh text [27, 91, 49, 59, 51, 50, 109, 24, 27, 91, 63, 49, 48, 52, 57, 108];have HF := Lib.hid (ZJ (t := t1) (H15.out.below b16) O13.out v16 _ (ha16 _ _ _ _ _ H15.out) (by rw [zal, ByteArray.size_append]; show _ + 16 ≤ _; omega));rw [hlst] at HF;have HV16 := Lib.hid (HV15.out.below b16);have HVB16 := Lib.hid (zm HVB15.out b16 (zj HVB15.out));have HPB16 := Lib.hid (zm HPB15.out b16 (zj HPB15.out));have HG16 := Lib.hid (HG15.out.below b16);clear b16 ha16 hlst H15 HV15 HVB15 HPB15 HG15;go_wp2_with fail;refine HF.out.mono ?_;rintro e w17 ⟨v17, C17, rfl, h17, p17, _, o17⟩;obtain ⟨t2, ht2⟩ : ∃ t2 : Trm, t2 = (t1.feed (text.data.toList ++ [27, 91, 49, 59, 51, 50, 109, 24, 27, 91, 63, 49, 48, 52, 57, 108])).1 := ⟨_, rfl⟩;have hlt := HLN.out;rw [← ht2] at h17 o17 hlt;have H17 := Lib.hid h17;have O17 := Lib.hid o17.scr;have HVB17 := Lib.hid (p17.blk HVB16.out HZV13.out);have HPB17 := Lib.hid (p17.blk HPB16.out HZP13.out);have HV17 := Lib.hid (HV16.out.next p17);have HG17 := Lib.hid (HG16.out.other p17.wi HGZ13.out);have HGS := Lib.hid hlt.sh;have HVE := Lib.hid (show t2.scr.viewL = t.scr.viewL by unfold Scr.viewL; rw [hlt.main, hlt.sh]);have HPN := Lib.hid (show t2.scr.now.pen = pn from hlt.pen.trans HFX.out.2.2.2.2.2.2);have hval : ∀ rv, t2.scr.viewV rv = .agg #[rv, .int .i64 x, .int .i64 y, .bool sh, .bool wt, .int .i64 mo, .string ti] := fun rv => by
  obtain ⟨f1, f2, f3, f4, f5, f6, f7⟩ := HFX.out;have f8 : t2.scr.has 8 = sh := by
   rw [← f3];unfold Scr.has;rw [hlt.modes]
  unfold Scr.viewV;rw [hlt.x, hlt.y, f8, hlt.wait, hlt.modes, hlt.title, f1, f2, f4, f5, f6]
 have HVW := Lib.hid (show Calls Tryz.prog 23 #[.pointer (some ⟨p, 0, none⟩)] w17.drew fun e w' => ∃ rv L, e = .returned (.agg #[rv, .int .i64 x, .int .i64 y, .bool sh, .bool wt, .int .i64 mo, .string ti]) ∧ L.map (·.2) = t.scr.viewL ∧ zbv 0 w' rv L ∧ Below w17.drew.heap.size w17.drew w' from by
  refine (zbz (h17.below (Below.refl _ _).drew) o17.scr).mono ?_;rintro e w' ⟨rv, L, rfl, h1, h2, h3⟩;exact ⟨rv, L, by rw [hval], h1.trans HVE.out, h2.mono (Nat.zero_le _), h3⟩)
 clear h17 o17 hlt p17 ht2 hval hcv16 hzz hzy HF HV16 HVB16 HPB16 HG16 HZV13 HZP13 HGZ13 HLN O13;go_upto_region 16 with fail;have k0 : w17.cell? ⟨V, 0, none⟩ = some (.slice ba bn bc) := za HVB17.out 0;have k1 : w17.cell? ⟨V, 1, none⟩ = some (.int .i64 x) := za HVB17.out 1;have k2 : w17.cell? ⟨V, 2, none⟩ = some (.int .i64 y) := za HVB17.out 2;have k3 : w17.cell? ⟨V, 3, none⟩ = some (.bool sh) := za HVB17.out 3;have k4 : w17.cell? ⟨V, 4, none⟩ = some (.bool wt) := za HVB17.out 4;have k5 : w17.cell? ⟨V, 5, none⟩ = some (.int .i64 mo) := za HVB17.out 5;have k6 : w17.cell? ⟨V, 6, none⟩ = some (.string ti) := za HVB17.out 6
 go_region_held3 (fun w' => w'.cell? ⟨V, 0, none⟩ = some (.slice ba bn bc) ∧ w'.cell? ⟨V, 1, none⟩ = some (.int .i64 x) ∧ w'.cell? ⟨V, 2, none⟩ = some (.int .i64 y) ∧ w'.cell? ⟨V, 3, none⟩ = some (.bool sh) ∧ w'.cell? ⟨V, 4, none⟩ = some (.bool wt) ∧ w'.cell? ⟨V, 5, none⟩ = some (.int .i64 mo) ∧ w'.cell? ⟨V, 6, none⟩ = some (.string ti)) (first | exact ⟨k0, k1, k2, k3, k4, k5, k6⟩ | exact ⟨u0, u1, u2, u3, u4, u5, u6⟩)
  (first
   | (go_at_call 23; refine HVW.out.mono ?_; rintro e w18 ⟨rb', Lb', rfl, eb, vb, b18⟩; obtain ⟨ba', bn', bc', rfl⟩ := zu vb.row; have HB18 := Lib.hid ((Below.refl w17.heap.size w17).drew.trans b18); have u0 := zc HB18.out k0; have u1 := zc HB18.out k1; have u2 := zc HB18.out k2; have u3 := zc HB18.out k3; have u4 := zc HB18.out k4; have u5 := zc HB18.out k5; have u6 := zc HB18.out k6; have HVB18 := Lib.hid vb; have HEB2 := Lib.hid eb; clear vb eb b18)
   | (go_at_call 25; refine (zf0 x y mo sh wt ti _ _ Lb Lb' w18 (HV17.out.view.below HB18.out) HVB18.out (HEB.out.trans HEB2.out.symm) HLI.out.1 HLI.out.2).mono ?_; rintro e w19 ⟨rfl, b19⟩; have HB19 := Lib.hid (HB18.out.trans (b19.mono HB18.out.size)); have u0 := zc HB19.out k0; have u1 := zc HB19.out k1; have u2 := zc HB19.out k2; have u3 := zc HB19.out k3; have u4 := zc HB19.out k4; have u5 := zc HB19.out k5; have u6 := zc HB19.out k6; clear b19))
 clear k0 k1 k2 k3 k4 k5 k6 u0 u1 u2 u3 u4 u5 u6;have H19 := Lib.hid (H17.out.below HB19.out);have HP19 := Lib.hid (zm HPB17.out HB19.out (zj HPB17.out));have HG19 := Lib.hid (HG17.out.below HB19.out);have HE19 := Lib.hid (HW1.out.trans (H19.out.bl.mono HW1.out.size));obtain ⟨x0, x1, x2⟩ := zbr HP19.out;have hqs : ∀ wx, (binOp .eql 35 pn.val pn.val).run Tryz.prog wx = .ok (.bool true) wx := fun wx => (by rw [zdt, zio]);have hgs := fun (x y : Operand) wx => zby .eql x y pn pn wx;unfold Sty.val at hqs hgs;have HSV := Lib.hid (show Calls Tryz.prog 22 #[.pointer (some ⟨p, 0, none⟩)] w19.drew fun e w' => e = .returned (.agg #[.int .i64 pn.fg, .int .i64 pn.bg, .int .i64 pn.attr]) ∧ Below w19.drew.heap.size w19.drew w' from by
  have h := HST.out _ _ _ _ _ _ (H19.out.below (Below.refl _ _).drew);rw [HPN.out] at h;exact h)
 have HGC := Lib.hid (fun wx (hb : Below w19.heap.size w19 wx) => zdu (H19.out.below hb));rw [HGS.out] at HGC;clear H17 HVB17 HPB17 HV17 HG17 HVB18 HB18 HB19 HVW HST;go_upto_region 17 with fail
 go_region_held3 (fun w' => w'.cell? ⟨P, 0, none⟩ = some (.int .i64 pn.fg) ∧ w'.cell? ⟨P, 1, none⟩ = some (.int .i64 pn.bg) ∧ w'.cell? ⟨P, 2, none⟩ = some (.int .i64 pn.attr)) (first | exact ⟨x0, x1, x2⟩ | exact ⟨y0, y1, y2⟩)
  (first
   | (go_at_call 22; refine HSV.out.mono ?_; rintro e w20 ⟨rfl, b20⟩; have HB20 := Lib.hid ((Below.refl w19.heap.size w19).drew.trans b20); have y0 := zc HB20.out x0; have y1 := zc HB20.out x1; have y2 := zc HB20.out x2; clear b20)
   | (go_at_call 27; refine (HGC.out _ HB20.out).mono ?_; rintro e w21 ⟨q2, T2, rfl, b21, g21, _⟩; have HB21 := Lib.hid (HB20.out.trans (b21.mono HB20.out.size)); have HSM := Lib.hid (zl7 (HG19.out.below HB21.out) g21); have y0 := zc HB21.out x0; have y1 := zc HB21.out x1; have y2 := zc HB21.out x2; clear b21 g21)
   | (go_at_call 36; refine HSM.out.mono ?_; rintro e w22 ⟨rfl, b22⟩; have HB22 := Lib.hid (HB21.out.trans (b22.mono HB21.out.size)); have y0 := zc HB22.out x0; have y1 := zc HB22.out x1; have y2 := zc HB22.out x2; clear b22))
 all_goals
  go_wp2_with fail;go_ret;exact ⟨rfl, HE19.out.trans (HB22.out.mono HE19.out.size)⟩
end
end Go.Proofs.YtlfdgkiliegaiaaGreatDoor
