/- Texts laid together: BasezScreenPieces RdzScreenPieces ArgzScreenPieces K34zScreenPieces J3zScreenPieces J5zScreenPieces U8zScreenPieces U1zScreenPieces L3zScreenPieces U9zScreenPieces. -/
import Derived.Test.YtlfdgkiliegaiaaGreatDoorY1
import Derived.Test.YtlfdgkiliegaiaaGreatDoorY10
import Derived.Test.YtlfdgkiliegaiaaGreatDoorY11
import Derived.Test.YtlfdgkiliegaiaaGreatDoorY12
import Derived.Test.YtlfdgkiliegaiaaGreatDoorY14
import Derived.Test.YtlfdgkiliegaiaaGreatDoorY17
import Derived.Test.YtlfdgkiliegaiaaGreatDoorY18
import Derived.Test.YtlfdgkiliegaiaaGreatDoorY2
import Derived.Test.YtlfdgkiliegaiaaGreatDoorY20
import Derived.Test.YtlfdgkiliegaiaaGreatDoorY22
import Derived.Test.YtlfdgkiliegaiaaGreatDoorY23
import Derived.Test.YtlfdgkiliegaiaaGreatDoorY25
import Derived.Test.YtlfdgkiliegaiaaGreatDoorY26
import Derived.Test.YtlfdgkiliegaiaaGreatDoorY28
import Derived.Test.YtlfdgkiliegaiaaGreatDoorY3
import Derived.Test.YtlfdgkiliegaiaaGreatDoorY4
import Derived.Test.YtlfdgkiliegaiaaGreatDoorY5
import Derived.Test.YtlfdgkiliegaiaaGreatDoorY6
import Derived.Test.YtlfdgkiliegaiaaGreatDoorY8
import Derived.Test.YtlfdgkiliegaiaaGreatDoorY9
import Derived.WalkKit
import Derived.WalkSpells
import Derived.WalkLawsBesides
import Derived.BigQuiet
import Derived.Lib.Hide
import Derived.Deep.QuietTactic
import Derived.Lib.AppendIntMem
import Derived.Lib.ItoaNum
import Derived.Test.YtlfdgkiliegaiaaGreatDoorRows
import Derived.ProofKit
import Derived.Laws.EntriesVeiled
import Derived.ChangeKeysEq
import Derived.Deep.RegionHeld3
import Derived.Deep.MidRow
import Derived.Lib.ItoaLen
import Derived.Test.YtlfdgkiliegaiaaGreatDoorShelf
import Derived.Lib.Builder
import Derived.Lib.FrozenHead
import Derived.Lib.RuneBytes
import Derived.Lib.UnsafeStr
import Derived.Lib.SliceRun
import Derived.StillTailTactics
import Derived.Deep.RegionLaw
import Derived.Deep.DeepCutAuto
import Derived.Deep.AppendSrc
import Derived.Lib.AppendStr
import Derived.ArgAppend
import Derived.Laws.IdiomCopy
import Derived.Laws.IdiomStrings
import Derived.Deep.Upon
import Derived.Laws.ResultCell
import Derived.Deep.CutBlock
import Derived.Laws.StructEq
import Derived.Deep.DrawnRows
import Derived.Laws.Cover4
import Derived.WalkMore
import Derived.ScopeJumps
import Derived.Lib.SlBytesConst
import Derived.Laws.Bits64b
import Derived.OpenShut
import Derived.JoinedCond
import Derived.Lib.FrozenHead2
import Derived.Lib.TrimU
import Derived.Lib.OthersKept
import Derived.Deep.LoopGhost
set_option linter.unusedVariables false
set_option linter.unusedSimpArgs false
namespace Go.Proofs.YtlfdgkiliegaiaaGreatDoor
section
open Go.RowKit
section
variable {P : Program} {w : World} {ops : Array Oper} {rest : List Oper} {o : Oper} {a : Act} {Q : Exit → Act → World → Prop}
end
def zjO (k : IntKind) (w : World) (v : Value) (l : List Int) : Prop :=
 (v = .slice none 0 0 ∧ l = []) ∨ ∃ (a : Addr) (c : Nat), v = .slice (some a) l.length c ∧ l.length ≤ c ∧ c ≤ 9223372036854775807 ∧
  (∀ j, j < l.length → w.cell? (a.add j) = some (.int k (l.getD j 0))) ∧ ∀ n ∈ l, (Lit.int k n).wf = true
end
section
open Go.RowKit
theorem zhL {k : IntKind} {w : World} {v : Value} {l : List Int} (h : zjO k w v l) : zff k w v l := by
 rcases h with h | ⟨a, c, h1, h2, h3, h4, _⟩
 ·exact .inl h
 ·exact .inr ⟨a, c, h1, h2, h3, h4⟩
section
variable {P : Program} {t e : TypeId}
end
end
section
open Go.ChangeShapes Go.WideShapes Go.ChangeAt Go.RowKit Go.ChangeMaps
theorem zl4 {H : Type} (d : DataW H) : 1 ≤ Rows.uptoBulk d := by
 cases d with
 | lit l => cases l <;> simp [Rows.uptoBulk]
 | nil => simp [Rows.uptoBulk]
 | ptr d => simp [Rows.uptoBulk]
 | slice elems spare => simp [Rows.uptoBulk]
 | agg parts => simp [Rows.uptoBulk]
 | iface t d => simp [Rows.uptoBulk]
 | map entries => simp [Rows.uptoBulk]
 | held h => simp [Rows.uptoBulk]
theorem zl5 {H : Type} (l : List (DataW H)) : l.length ≤ Rows.uptoBulkAll l := by
 induction l with
 | nil => simp [Rows.uptoBulkAll]
 | cons x r ih => have := zl4 x; simp only [Rows.uptoBulkAll, List.length_cons]; omega
theorem zl6 {H : Type} {enc : TypeId × Value → H} {P : Program} {W : World} {t e : TypeId} {k : IntKind} {fuel : Nat} {a : Option Addr} {len cap : Nat} {x : DataW H × List MemPlace}
  (ht : P.underlying t = some (.slice e)) (he : P.underlying e = some (.int k)) (hc : P.cellsOf e = 1)
  (h : DataW.trod enc P W 0 (fun _ => true) true fuel t (Value.slice a len cap).cells.toList = some x) :
  ∃ zs, zjO k W (.slice a len cap) zs ∧ zs.length + 1 ≤ Rows.uptoBulk x.1 := by
 rcases open_ints ht he hc h with ⟨hcs, hx⟩ | ⟨ad, l, c, zs, hcs, _, hl, hm, hz, hx, hcell, hwz⟩
 ·simp [Value.cells] at hcs;obtain ⟨rfl, rfl, rfl⟩ := hcs;exact ⟨[], .inl ⟨rfl, rfl⟩, by rw [hx]; simp [Rows.uptoBulk]⟩
 ·simp [Value.cells] at hcs;obtain ⟨rfl, rfl, rfl⟩ := hcs;simp at hz;have hlen : (zs.take len).length = len := (by rw [List.length_take]; omega);refine ⟨zs.take len, .inr ⟨ad, cap, by rw [hlen], by rw [hlen]; exact hl, by unfold maxLen at hm; exact hm, fun j hj => ?_, fun n hn => hwz n (List.mem_of_mem_take hn)⟩, ?_⟩
  ·rw [hcell j (by omega)];congr 2;rw [List.getD_eq_getElem?_getD, List.getD_eq_getElem?_getD, List.getElem?_take, if_pos (by omega)]
  ·rw [hx];simp only [Rows.uptoBulk];have h1 := zl5 (H := H) (lits k (zs.take len));have h2 : (lits (H := H) k (zs.take len)).length = (zs.take len).length := (by simp [lits]);omega
end
section
open Go.RowKit
set_option maxRecDepth 100000
section
variable {B : World} {C : Nat → Nat} {p c r : Nat} {w : World} {s : Scr} {ps : PSt}
theorem zft (h : SR B C p w s ps) :
  Calls Tryz.prog 54 #[.pointer (some ⟨p, 0, none⟩)] w fun e w' => e = .returned (.int .i64 s.bells) ∧ w' = w := by
 have c38 : w.cell? ⟨p, 38, none⟩ = some (.int .i64 s.bells) := h.at_ 38 _;clear h;go_enter Tryz.func54, Tryz.ntmps54;go_wp2_with fail;go_ret;exact ⟨rfl, rfl⟩
end
end
section
open Go.RowKit
attribute [local go_sem ↓] Go.wp_at_zero Go.wp_at_succ
set_option maxRecDepth 100000 in
set_option maxHeartbeats 2000000 in
theorem ziU (l : List Cel) (va vb : Value) (w : World) (ha : zn w 0 5 va l.length (zp l)) (hb : zn w 0 5 vb l.length (zp l)) (hl : l.length ≤ 1000000) :
  Calls Tryz.prog 75 #[va, vb] w fun e w' => e = .returned (.bool true) ∧ Below w.heap.size w w' := by
 have HA := Lib.hid ha;have HB := Lib.hid hb;have ha0 := Za Tryz.underlying68 ha;have hb0 := Za Tryz.underlying68 hb;clear ha hb;go_enter Tryz.func75, Tryz.ntmps75;go_upto_region 4 with fail
 go_loopw [13] (fun iv wr => ∃ k : Nat, k ≤ l.length ∧ iv = .int .i64 k ∧ Hid (Below w.heap.size w wr)) (fun iv _ => l.length - (intOf iv).toNat)
 case atStart => exact ⟨0, Nat.zero_le _, rfl, Below.refl _ _⟩
 case round =>
  obtain ⟨k, hk, rfl, HW⟩ := hrel;by_cases hlt : k < l.length
  ·have d1 : decide ((k : Int) < (l.length : Int)) = true := decide_eq_true (by omega);have d1' : decide (k < l.length) = true := decide_eq_true hlt;have oa := zh HA.out HW.out;have ob := zh HB.out HW.out;obtain ⟨ba, fa, ca, e1, _, _⟩ := zF oa (by omega);obtain ⟨bb, fb, cb, e2, _, _⟩ := zF ob (by omega);subst e1 e2;obtain ⟨p0, p1, p2, p3, p4⟩ := zbq oa k (by omega) rfl;obtain ⟨q0, q1, q2, q3, q4⟩ := zbq ob k (by omega) rfl;have hix1 := ZN (P := Tryz.prog) (size := 5) Tryz.underlying68 zI ba fa l.length ca k hlt;have hix2 := ZN (P := Tryz.prog) (size := 5) Tryz.underlying68 zI bb fb l.length cb k hlt;have hneq := fun (wx : World) => zj3 (l.getD k noC) (l.getD k noC) wx;have hgd := fun (x y : Operand) (wx : World) => zgH .neq x y (l.getD k noC) (l.getD k noC) wx;rw [(Cel.eqb_iff (l.getD k noC) (l.getD k noC)).2 rfl] at hneq;have hw6 : IntKind.i64.wrap ((k : Int) + 1) = (k : Int) + 1 := zb _ (by omega) (by omega);clear oa ob;generalize l.getD k noC = xa at *;obtain ⟨ar, aw, ⟨af, ag, at'⟩⟩ := xa;unfold Cel.val at hneq hgd;dsimp only at p0 p1 p2 p3 p4 q0 q1 q2 q3 q4 hneq hgd;go_upto_region 6 with fail
   go_region_held3 (fun w' => w'.cell? ⟨ba, fa + k * 5, none⟩ = some (.int .i32 ar) ∧ w'.cell? ⟨ba, fa + k * 5 + 1, none⟩ = some (.int .i64 aw) ∧ w'.cell? ⟨ba, fa + k * 5 + 2, none⟩ = some (.int .i64 af) ∧ w'.cell? ⟨ba, fa + k * 5 + 3, none⟩ = some (.int .i64 ag) ∧ w'.cell? ⟨ba, fa + k * 5 + 4, none⟩ = some (.int .i64 at') ∧
    w'.cell? ⟨bb, fb + k * 5, none⟩ = some (.int .i32 ar) ∧ w'.cell? ⟨bb, fb + k * 5 + 1, none⟩ = some (.int .i64 aw) ∧ w'.cell? ⟨bb, fb + k * 5 + 2, none⟩ = some (.int .i64 af) ∧ w'.cell? ⟨bb, fb + k * 5 + 3, none⟩ = some (.int .i64 ag) ∧ w'.cell? ⟨bb, fb + k * 5 + 4, none⟩ = some (.int .i64 at')) (go_keep) (fail)
   clear p0 p1 p2 p3 p4 q0 q1 q2 q3 q4;go_wp2_with fail;go_roundw
   case rel => exact ⟨k + 1, by omega, by go_num, HW.out.drew⟩
   case measure => simp [intOf]; omega
  ·have d1 : decide ((k : Int) < (l.length : Int)) = false := decide_eq_false (by omega);have d1' : decide (k < l.length) = false := decide_eq_false hlt;go_wp2_with fail;exact zT rfl rfl rfl ⟨rfl, HW.out⟩
set_option maxRecDepth 100000 in
set_option maxHeartbeats 2000000 in
theorem zhM (r : Rw) (va vb : Value) (w : World) (ha : zn w 0 5 va r.cells.length (zp r.cells)) (hb : zn w 0 5 vb r.cells.length (zp r.cells)) (hl : r.cells.length ≤ 1000000) :
  Calls Tryz.prog 74 #[.agg #[va, .bool r.wrap], .agg #[vb, .bool r.wrap]] w fun e w' => e = .returned (.bool true) ∧ Below w.heap.size w w' := by
 obtain ⟨aa, ac, rfl⟩ := zQ ha;obtain ⟨ba, bc, rfl⟩ := zQ hb;have h1 := Below.alloc (Below.refl w.heap.size w) (Nat.le_refl _) (.cells #[.slice aa r.cells.length ac, .bool r.wrap] 130);have h2 := Below.alloc h1 h1.size (.cells #[.slice ba r.cells.length bc, .bool r.wrap] 130);have HA := Lib.hid (zh ha h2);have HB := Lib.hid (zh hb h2);have H2 := Lib.hid h2;clear ha hb h1 h2;go_enter Tryz.func74, Tryz.ntmps74;go_wp2_with fail;refine (ziU r.cells _ _ _ HA.out HB.out hl).mono ?_;rintro e w3 ⟨rfl, b3⟩;have H3 := Lib.hid (H2.out.trans (b3.mono H2.out.size));clear b3;go_wp2_with fail;exact zT rfl rfl rfl ⟨rfl, H3.out⟩
set_option maxRecDepth 100000 in
set_option maxHeartbeats 2000000 in
theorem zfu (L M : List (Value × Rw)) (va vb : Value) (w : World) (ha : zn w 0 2 va L.length (zf L)) (hb : zn w 0 2 vb M.length (zf M)) (he : L.map (·.2) = M.map (·.2))
  (hL : ∀ x ∈ L, zn w 0 5 x.1 x.2.cells.length (zp x.2.cells)) (hM : ∀ x ∈ M, zn w 0 5 x.1 x.2.cells.length (zp x.2.cells)) (hn : L.length ≤ 100000) (hc : ∀ x ∈ L, x.2.cells.length ≤ 1000) :
  Calls Tryz.prog 76 #[va, vb, .func (.func 74) #[] #[]] w fun e w' => e = .returned (.bool true) ∧ Below w.heap.size w w' := by
 have hlen : L.length = M.length := by
  have := congrArg List.length he;simpa using this
 have HA := Lib.hid ha;have HB := Lib.hid hb;have ha0 := Za Tryz.underlying126 ha;have hb0 := Za Tryz.underlying126 hb;rw [← hlen] at hb0;have HE := Lib.hid (show ∀ (k : Nat) (h1 : k < L.length) (h2 : k < M.length), L[k].2 = M[k].2 from fun k h1 h2 => by
  have := congrArg (fun l => l[k]?) he;simp only [List.getElem?_map, List.getElem?_eq_getElem h1, List.getElem?_eq_getElem h2, Option.map_some] at this;injection this)
 have HL := Lib.hid hL;have HM := Lib.hid hM;have HC := Lib.hid hc;have HLN := Lib.hid hlen;clear ha hb he hL hM hc hlen;go_enter Tryz.func76, Tryz.ntmps76;go_upto_region 4 with fail
 go_loopw [17] (fun iv wr => ∃ k : Nat, k ≤ L.length ∧ iv = .int .i64 k ∧ Hid (Below w.heap.size w wr)) (fun iv _ => L.length - (intOf iv).toNat)
 case atStart => exact ⟨0, Nat.zero_le _, rfl, Below.refl _ _⟩
 case round =>
  obtain ⟨k, hk, rfl, HW⟩ := hrel;by_cases hlt : k < L.length
  ·have d1 : decide ((k : Int) < (L.length : Int)) = true := decide_eq_true (by omega);have d1' : decide (k < L.length) = true := decide_eq_true hlt;have hlm : k < M.length := (by have := HLN.out; omega);have oa := zh HA.out HW.out;have ob := zh HB.out HW.out;obtain ⟨ba, fa, ca, e1, _, _⟩ := zF oa (by omega);obtain ⟨bb, fb, cb, e2, _, _⟩ := zF ob (by omega);subst e1 e2;obtain ⟨p0, p1⟩ := zbf oa k hlt;obtain ⟨q0, q1⟩ := zbf ob k hlm;have hix1 := ZN (P := Tryz.prog) (size := 2) Tryz.underlying126 zH ba fa L.length ca k hlt;have hix2 := ZN (P := Tryz.prog) (size := 2) Tryz.underlying126 zH bb fb M.length cb k hlm;have hxc := zh (HL.out L[k] (List.getElem_mem hlt)) HW.out;have hyc := zh (HM.out M[k] (List.getElem_mem hlm)) HW.out;have hxl := HC.out L[k] (List.getElem_mem hlt);have hee := HE.out k hlt hlm;have hw6 : IntKind.i64.wrap ((k : Int) + 1) = (k : Int) + 1 := zb _ (by omega) (by omega);clear oa ob;generalize L[k] = x at *;generalize M[k] = y at *;obtain ⟨xv, xr⟩ := x;obtain ⟨yv, yr⟩ := y;dsimp only at p0 p1 q0 q1 hxc hyc hxl hee;subst hee;obtain ⟨xa, xc, rfl⟩ := zQ hxc;obtain ⟨ya, yc, rfl⟩ := zQ hyc;have h1 := Below.alloc (Below.refl wr.heap.size wr) (Nat.le_refl _) (.cells #[.slice xa xr.cells.length xc, .bool xr.wrap] 130);have h2 := Below.alloc h1 h1.size (.cells #[.slice ya xr.cells.length yc, .bool xr.wrap] 130);have HX := Lib.hid (zh hxc h2);have HY := Lib.hid (zh hyc h2);have H2 := Lib.hid (HW.out.trans (h2.mono HW.out.size));have HXL := Lib.hid (show xr.cells.length ≤ 1000000 by omega);have q0' := zc h1 q0;have q1' := zc h1 q1;clear hxc hyc h1 h2 q0 q1;go_wp2_with fail;refine (zhM xr _ _ _ HX.out HY.out HXL.out).mono ?_;rintro e w3 ⟨rfl, b3⟩;have H3 := Lib.hid (H2.out.trans (b3.mono H2.out.size));clear b3 p0 p1 q0' q1' hix1 hix2;go_wp2_with fail;go_roundw
   case rel => exact ⟨k + 1, by omega, by go_num, H3⟩
   case measure => simp [intOf]; omega
  ·have d1 : decide ((k : Int) < (L.length : Int)) = false := decide_eq_false (by omega);have d1' : decide (k < L.length) = false := decide_eq_false hlt;go_wp2_with fail;exact zT rfl rfl rfl ⟨rfl, HW.out⟩
end
section
open Go.RowKit
attribute [local go_sem ↓] Go.wp_at_zero Go.wp_at_succ
set_option maxRecDepth 100000 in
set_option maxHeartbeats 4000000 in
theorem zl7 {T T2 : Nat → Nat} {p p2 : Nat} {w : World} {g : Gr} (h : GM T p w g) (h2 : GM T2 p2 w g) :
  Calls Tryz.prog 36 #[.pointer (some ⟨p, 0, none⟩), .pointer (some ⟨p2, 0, none⟩)] w fun e w' => e = .returned (.bool true) ∧ Below w.heap.size w w' := by
 obtain ⟨vr, vo, Lr, Lo, h⟩ := h;obtain ⟨vr2, vo2, Lr2, Lo2, h2⟩ := h2;have wf := h.wf;have w1 := wf.r2;have w2 := wf.c2;have w3 := wf.ol;have w4 := wf.li;obtain ⟨e1, e2⟩ := Zf h;have hcl : ∀ x ∈ Lr ++ Lo, x.2.cells.length ≤ 1000 := fun x hx => by
  have hm : x.2 ∈ g.rows ++ g.old := by
   rcases List.mem_append.1 hx with hx | hx
   ·exact List.mem_append_left _ (by rw [← h.er]; exact List.mem_map_of_mem hx)
   ·exact List.mem_append_right _ (by rw [← h.eo]; exact List.mem_map_of_mem hx)
  have := (wf.ce x.2 hm).1;omega
 obtain ⟨c0, c1, c2, c3⟩ := zX h;obtain ⟨k0, k1, k2, k3⟩ := zX h2;have HF1 := Lib.hid (fun (wx : World) (hb : Below w.heap.size w wx) => zfu Lr Lr2 vr vr2 wx (zh h.rr.own hb) (zh h2.rr.own hb) (by rw [h.er, h2.er]) (fun x hx => zh (h.ca x (List.mem_append_left _ hx)).own hb) (fun x hx => zh (h2.ca x (List.mem_append_left _ hx)).own hb) (by omega) (fun x hx => hcl x (List.mem_append_left _ hx)));have HF2 := Lib.hid (fun (wx : World) (hb : Below w.heap.size w wx) => zfu Lo Lo2 vo vo2 wx (zh h.ro.own hb) (zh h2.ro.own hb) (by rw [h.eo, h2.eo]) (fun x hx => zh (h.ca x (List.mem_append_right _ hx)).own hb) (fun x hx => zh (h2.ca x (List.mem_append_right _ hx)).own hb) (by omega) (fun x hx => hcl x (List.mem_append_right _ hx)));obtain ⟨ra, rc, rfl⟩ := zQ h.rr.own;obtain ⟨oa, oc, rfl⟩ := zQ h.ro.own;obtain ⟨ra2, rc2, rfl⟩ := zQ h2.rr.own;obtain ⟨oa2, oc2, rfl⟩ := zQ h2.ro.own;clear h h2 hcl wf e1 e2;have hmf : ∀ (fn : Fn) (first cap : Array Value) (w : World), (Instr.makeFunc fn first cap).run Tryz.prog w = .ok (.func fn first cap) w := fun _ _ _ _ => rfl;go_enter Tryz.func36, Tryz.ntmps36;go_upto_region 2 with fail;refine Zl (c := 30) (S := (fun bb w' => (w'.cell? ⟨p, 0, none⟩ = some (.int .i64 g.cols) ∧ w'.cell? ⟨p, 1, none⟩ = some (.int .i64 g.limit) ∧ w'.cell? ⟨p, 2, none⟩ = some (.slice ra Lr.length rc) ∧ w'.cell? ⟨p, 3, none⟩ = some (.slice oa Lo.length oc) ∧ w'.cell? ⟨p2, 0, none⟩ = some (.int .i64 g.cols) ∧ w'.cell? ⟨p2, 1, none⟩ = some (.int .i64 g.limit) ∧ w'.cell? ⟨p2, 2, none⟩ = some (.slice ra2 Lr2.length rc2) ∧ w'.cell? ⟨p2, 3, none⟩ = some (.slice oa2 Lo2.length oc2)) ∧ (bb = false → True))) (by kernel_rfl) (⟨⟨c0, c1, c2, c3, k0, k1, k2, k3⟩, fun _ => trivial⟩) (fun _ => ?_);refine zd false 0 (⟨⟨c0, c1, c2, c3, k0, k1, k2, k3⟩, fun _ => trivial⟩) ?_;refine zd false 1 (⟨⟨c0, c1, c2, c3, k0, k1, k2, k3⟩, fun _ => trivial⟩) ?_;refine zd false 2 (⟨⟨c0, c1, c2, c3, k0, k1, k2, k3⟩, fun _ => trivial⟩) ?_;refine zd false 3 (⟨⟨c0, c1, c2, c3, k0, k1, k2, k3⟩, fun _ => trivial⟩) ?_;refine zd false 4 (⟨⟨c0, c1, c2, c3, k0, k1, k2, k3⟩, fun _ => trivial⟩) ?_;refine zd false 5 (⟨⟨c0, c1, c2, c3, k0, k1, k2, k3⟩, fun _ => trivial⟩) ?_;refine zd false 6 (⟨⟨c0, c1, c2, c3, k0, k1, k2, k3⟩, fun _ => trivial⟩) ?_;refine zd false 7 (⟨⟨c0, c1, c2, c3, k0, k1, k2, k3⟩, fun _ => trivial⟩) ?_;refine zd false 8 (⟨⟨c0, c1, c2, c3, k0, k1, k2, k3⟩, fun _ => trivial⟩) ?_;refine zd false 9 (⟨⟨c0, c1, c2, c3, k0, k1, k2, k3⟩, fun _ => trivial⟩) ?_;refine zd false 10 (⟨⟨c0, c1, c2, c3, k0, k1, k2, k3⟩, fun _ => trivial⟩) ?_;refine zd false 11 (⟨⟨c0, c1, c2, c3, k0, k1, k2, k3⟩, fun _ => trivial⟩) ?_;refine zd false 12 (⟨⟨c0, c1, c2, c3, k0, k1, k2, k3⟩, fun _ => trivial⟩) ?_;refine zd false 13 (⟨⟨c0, c1, c2, c3, k0, k1, k2, k3⟩, fun _ => trivial⟩) ?_;refine zd false 14 (⟨⟨c0, c1, c2, c3, k0, k1, k2, k3⟩, fun _ => trivial⟩) ?_;refine zd false 15 (⟨⟨c0, c1, c2, c3, k0, k1, k2, k3⟩, fun _ => trivial⟩) ?_;refine zd false 16 (⟨⟨c0, c1, c2, c3, k0, k1, k2, k3⟩, fun _ => trivial⟩) ?_;refine zd false 17 (⟨⟨c0, c1, c2, c3, k0, k1, k2, k3⟩, fun _ => trivial⟩) ?_;refine zd false 18 (⟨⟨c0, c1, c2, c3, k0, k1, k2, k3⟩, fun _ => trivial⟩) ?_;refine zd false 19 (⟨⟨c0, c1, c2, c3, k0, k1, k2, k3⟩, fun _ => trivial⟩) ?_;refine zd false 20 (⟨⟨c0, c1, c2, c3, k0, k1, k2, k3⟩, fun _ => trivial⟩) ?_;refine zd false 21 (⟨⟨c0, c1, c2, c3, k0, k1, k2, k3⟩, fun _ => trivial⟩) ?_;refine zd false 22 (⟨⟨c0, c1, c2, c3, k0, k1, k2, k3⟩, fun _ => trivial⟩) ?_;refine zd false 23 (⟨⟨c0, c1, c2, c3, k0, k1, k2, k3⟩, fun _ => trivial⟩) ?_;refine zd false 24 (⟨⟨c0, c1, c2, c3, k0, k1, k2, k3⟩, fun _ => trivial⟩) ?_;refine zd false 25 (⟨⟨c0, c1, c2, c3, k0, k1, k2, k3⟩, fun _ => trivial⟩) ?_;refine zd false 26 (⟨⟨c0, c1, c2, c3, k0, k1, k2, k3⟩, fun _ => trivial⟩) ?_;refine zd false 27 (⟨⟨c0, c1, c2, c3, k0, k1, k2, k3⟩, fun _ => trivial⟩) ?_;refine zd false 28 (⟨⟨c0, c1, c2, c3, k0, k1, k2, k3⟩, fun _ => trivial⟩) ?_;refine zd false 29 (⟨⟨c0, c1, c2, c3, k0, k1, k2, k3⟩, fun _ => trivial⟩) ?_;refine zt true 30 fun K hK => ?_;refine zbN (by rfl) ?_;go_wp2_with fail;refine (HF1.out _ (Below.refl w.heap.size w).drew).mono ?_;rintro e w4 ⟨rfl, b4⟩;have HB4 := Lib.hid (show Below w.heap.size w w4 from (Below.refl w.heap.size w).drew.trans b4);have c04 := zc HB4.out c0;have c14 := zc HB4.out c1;have c24 := zc HB4.out c2;have c34 := zc HB4.out c3;have k04 := zc HB4.out k0;have k14 := zc HB4.out k1;have k24 := zc HB4.out k2;have k34 := zc HB4.out k3;refine hK.out _ _ (⟨⟨c04, c14, c24, c34, k04, k14, k24, k34⟩, fun _ => trivial⟩) (fun _ => ?_);clear hK K b4 c0 c1 c2 c3 k0 k1 k2 k3
 try simp only [Act.put, List.setIfInBounds_toArray, List.set_cons_zero, List.set_cons_succ]
 refine zd true 31 (⟨⟨c04, c14, c24, c34, k04, k14, k24, k34⟩, fun _ => trivial⟩) ?_;refine zd true 32 (⟨⟨c04, c14, c24, c34, k04, k14, k24, k34⟩, fun _ => trivial⟩) ?_;refine zd true 33 (⟨⟨c04, c14, c24, c34, k04, k14, k24, k34⟩, fun _ => trivial⟩) ?_;refine zd true 34 (⟨⟨c04, c14, c24, c34, k04, k14, k24, k34⟩, fun _ => trivial⟩) ?_;refine zd true 35 (⟨⟨c04, c14, c24, c34, k04, k14, k24, k34⟩, fun _ => trivial⟩) ?_;refine zd true 36 (⟨⟨c04, c14, c24, c34, k04, k14, k24, k34⟩, fun _ => trivial⟩) ?_;refine zd true 37 (⟨⟨c04, c14, c24, c34, k04, k14, k24, k34⟩, fun _ => trivial⟩) ?_;refine zd true 38 (⟨⟨c04, c14, c24, c34, k04, k14, k24, k34⟩, fun _ => trivial⟩) ?_;refine zd true 39 (⟨⟨c04, c14, c24, c34, k04, k14, k24, k34⟩, fun _ => trivial⟩) ?_;refine zd true 40 (⟨⟨c04, c14, c24, c34, k04, k14, k24, k34⟩, fun _ => trivial⟩) ?_;refine zd true 41 (⟨⟨c04, c14, c24, c34, k04, k14, k24, k34⟩, fun _ => trivial⟩) ?_;refine zt true 42 fun K hK => ?_;refine zbN (by rfl) ?_;go_wp2_with fail;refine (HF2.out _ HB4.out).mono ?_;rintro e w5 ⟨rfl, b5⟩;have HB45 := Lib.hid b5;have HB5 := Lib.hid (HB4.out.trans (b5.mono HB4.out.size));have c05 := zc HB45.out c04;have c15 := zc HB45.out c14;have c25 := zc HB45.out c24;have c35 := zc HB45.out c34;have k05 := zc HB45.out k04;have k15 := zc HB45.out k14;have k25 := zc HB45.out k24;have k35 := zc HB45.out k34;refine hK.out _ _ (⟨⟨c05, c15, c25, c35, k05, k15, k25, k35⟩, fun _ => trivial⟩) (fun _ => ?_);clear hK K b5 c04 c14 c24 c34 k04 k14 k24 k34
 try simp only [Act.put, List.setIfInBounds_toArray, List.set_cons_zero, List.set_cons_succ]
 refine zd true 43 (⟨⟨c05, c15, c25, c35, k05, k15, k25, k35⟩, fun _ => trivial⟩) ?_;refine zd true 44 (⟨⟨c05, c15, c25, c35, k05, k15, k25, k35⟩, fun _ => trivial⟩) ?_;refine Zh (by kernel_rfl) ?_ _;go_wp2_with fail;exact zT rfl rfl rfl ⟨rfl, HB5.out⟩
end
section
open Go.RowKit
set_option maxRecDepth 100000
attribute [local go_sem ↓] Go.wp_at_zero Go.wp_at_succ
set_option maxHeartbeats 4000000 in
theorem zl8 {B B2 : World} {C C2 : Nat → Nat} {p p2 c r : Nat} {w : World} {s : Scr} {ps pt : PSt} (h : SR B C p w s ps) (h2 : SR B2 C2 p2 w s pt) (hok : s.Ok c r) :
  Calls Tryz.prog 37 #[.pointer (some ⟨p, 0, none⟩), .pointer (some ⟨p2, 0, none⟩)] w fun e w' => e = .returned (.bool true) ∧ Below w.heap.size w w' := by
 have H1 := Lib.hid h;have H2 := Lib.hid h2;have HOK := Lib.hid hok;clear h h2 hok;go_enter Tryz.func37, Tryz.ntmps37;go_wp2_with fail;refine (zc9 H1.out).mono ?_;rintro e w2 ⟨rfl, b2⟩;have G1 := Lib.hid (H1.out.below b2);have G2 := Lib.hid (H2.out.below b2);have HB2 := Lib.hid b2;clear b2 H1 H2;go_wp2_with fail;refine (zc9 G2.out).mono ?_;rintro e w3 ⟨rfl, b3⟩;have H1 := Lib.hid (G1.out.below b3);have H2 := Lib.hid (G2.out.below b3);have HB3 := Lib.hid (HB2.out.trans (b3.mono HB2.out.size));clear b3 G1 G2 HB2;go_wp2_with fail;refine (zbz H1.out HOK.out).mono ?_;rintro e w4 ⟨ra, La, rfl, ea, va, b4⟩;have G1 := Lib.hid (H1.out.below b4);have G2 := Lib.hid (H2.out.below b4);have HB4 := Lib.hid (HB3.out.trans (b4.mono HB3.out.size));have VA := Lib.hid (va.mono (Nat.zero_le _));have EA := Lib.hid ea;clear b4 H1 H2 HB3 va ea;go_wp2_with fail;refine (zbz G2.out HOK.out).mono ?_;rintro e w5 ⟨rb, Lb, rfl, eb, vb, b5⟩;have H1 := Lib.hid (G1.out.below b5);have H2 := Lib.hid (G2.out.below b5);have HB5 := Lib.hid (HB4.out.trans (b5.mono HB4.out.size));have VB := Lib.hid (vb.mono (Nat.zero_le _));have hlim := zgK H1.out EA.out HOK.out;have HV := Lib.hid (zf0 s.now.x s.now.y s.modes (s.has 8) s.now.wait ⟨s.title.toArray⟩ ra rb La Lb w5 (VA.out.below b5) VB.out (EA.out.trans eb.symm) hlim.1 hlim.2);clear b5 G1 G2 HB4 vb eb hlim VA VB EA;unfold Scr.viewV;go_wp2_with fail;refine HV.out.mono ?_;rintro e w6 ⟨rfl, b6⟩;have G1 := Lib.hid (H1.out.below b6);have G2 := Lib.hid (H2.out.below b6);have HB6 := Lib.hid (HB5.out.trans (b6.mono HB5.out.size));clear b6 H1 H2 HB5 HV;have hqs : ∀ wx, (binOp .eql 35 s.now.pen.val s.now.pen.val).run Tryz.prog wx = .ok (.bool true) wx := fun wx => (by rw [zdt, zio]);have hgs := fun (x y : Operand) wx => zby .eql x y s.now.pen s.now.pen wx;have HST := Lib.hid (fun (B w : World) (C : Nat → Nat) (p : Nat) (ps : PSt) (h : SR B C p w s ps) => zbO h);unfold Sty.val at hqs hgs HST;go_wp2_with fail;refine (HST.out _ _ _ _ _ G1.out).mono ?_;rintro e w7 ⟨rfl, b7⟩;have H1 := Lib.hid (G1.out.below b7);have H2 := Lib.hid (G2.out.below b7);have HB7 := Lib.hid (HB6.out.trans (b7.mono HB6.out.size));clear b7 G1 G2 HB6;go_wp2_with fail;refine (HST.out _ _ _ _ _ H2.out).mono ?_;rintro e w8 ⟨rfl, b8⟩;have G1 := Lib.hid (H1.out.below b8);have G2 := Lib.hid (H2.out.below b8);have HB8 := Lib.hid (HB7.out.trans (b8.mono HB7.out.size));clear b8 H1 H2 HB7 HST;go_wp2_with fail;refine (zft G1.out).mono ?_;rintro e wx ⟨rfl, hwx⟩;subst wx;go_wp2_with fail;refine (zft G2.out).mono ?_;rintro e wx ⟨rfl, hwx⟩;subst wx;go_wp2_with fail;refine (zdu G1.out).mono ?_;rintro e w9 ⟨q1, T1, rfl, b9, g9, _⟩;have H2 := Lib.hid (G2.out.below b9);have HB9 := Lib.hid (HB8.out.trans (b9.mono HB8.out.size));have HG9 := Lib.hid g9;clear b9 g9 G1 G2 HB8;go_wp2_with fail;refine (zdu H2.out).mono ?_;rintro e w10 ⟨q2, T2, rfl, b10, g10, _⟩;have HB10 := Lib.hid (HB9.out.trans (b10.mono HB9.out.size));have HSM := Lib.hid (zl7 (HG9.out.below b10) g10);clear b10 g10 HB9 HG9 H2;go_wp2_with fail;refine HSM.out.mono ?_;rintro e w11 ⟨rfl, b11⟩;have HB11 := Lib.hid (HB10.out.trans (b11.mono HB10.out.size));go_wp2_with fail;go_ret;exact ⟨rfl, HB11.out⟩
end
section
open Go.RowKit
theorem SR.lt {B : World} {C : Nat → Nat} {p : Nat} {w : World} {s : Scr} {ps : PSt} (h : SR B C p w s ps) : ∀ k, C k ≠ 0 → k < w.heap.size := by
 obtain ⟨Tm, To, Tp, pm, po, pp, vt, vo, hs⟩ := h.sm;exact hs.lt
structure zdB (B : World) (C D : Nat → Nat) (p q : Nat) (w : World) (s t : Scr) (ps pt : PSt) : Prop where
 one : SR B C p w s ps
 two : SR B D q w t pt
 dj : ∀ k, C k ≠ 0 → D k = 0
theorem zdB.swap {B : World} {C D : Nat → Nat} {p q : Nat} {w : World} {s t : Scr} {ps pt : PSt} (h : zdB B C D p q w s t ps pt) : zdB B D C q p w t s pt ps :=
 ⟨h.two, h.one, fun k hk => Classical.byContradiction fun e => hk (h.dj k e)⟩
theorem zdB.next {B : World} {C D C' : Nat → Nat} {p q : Nat} {w w' : World} {s t s' : Scr} {ps pt ps' : PSt} (h : zdB B C D p q w s t ps pt) (g : Pre C w C' w') (h' : SR B C' p w' s' ps') : zdB B C' D p q w' s' t ps' pt :=
 ⟨h', h.two.other g.wi (fun k hk => Classical.byContradiction fun e => hk (h.dj k e)) h.one.hi, fun k hk => by
  rcases g.n k hk with e | e
  ·exact h.dj k e
  ·exact h.two.free e⟩
theorem zdB.below {B : World} {C D : Nat → Nat} {p q : Nat} {w w' : World} {s t : Scr} {ps pt : PSt} (h : zdB B C D p q w s t ps pt) (b : Below w.heap.size w w') : zdB B C D p q w' s t ps pt :=
 ⟨h.one.below b, h.two.below b, h.dj⟩
theorem zdB.make {B : World} {C D : Nat → Nat} {p q : Nat} {w w' : World} {s t : Scr} {ps pt : PSt} (h : SR B C p w s ps) (h' : SR w D q w' t pt) : zdB B C D p q w' s t ps pt :=
 ⟨h.below h'.bl, ⟨h'.sm, h.tb, h.bl.trans (h'.bl.mono h.bl.size), fun k hk => Nat.le_trans h.bl.size (h'.hi k hk)⟩, fun k hk => Classical.byContradiction fun e => by
  have h1 := h.lt k hk;have h2 := h'.hi k e;omega⟩
end
section
open Go.RowKit
theorem zd9 (s : ByteArray) (i j : Nat) (h : j ≤ s.size) : (s.extract i j).data.toList = (s.data.toList.drop i).take (j - i) := by
 rw [ByteArray.data_extract, Array.toList_extract, List.extract_eq_take_drop]
end
section
open Go.RowKit
set_option maxRecDepth 100000
attribute [local go_sem ↓] Go.wp_at_zero Go.wp_at_succ
theorem zl9 (t : Trm) (l : List UInt8) (i : Nat) : t.feed l = (((t.feed (l.take i)).1.feed (l.drop i)).1, (t.feed (l.take i)).2 ++ ((t.feed (l.take i)).1.feed (l.drop i)).2) := by
 rw [← zbm, List.take_append_drop]
theorem zku (t : Trm) (l : List UInt8) (i r : Nat) : t.feed (l.take (i + r)) = (((t.feed (l.take i)).1.feed ((l.drop i).take r)).1, (t.feed (l.take i)).2 ++ ((t.feed (l.take i)).1.feed ((l.drop i).take r)).2) := by
 rw [← zbm, List.take_add]
set_option maxHeartbeats 8000000 in
theorem zea (cols rows : Int) (by_ : ByteArray) (vz : Value) (z : List Int) (w : World) (h1 : I64 cols) (h2 : I64 rows) (_hb : by_.size ≤ maxLen) (hz : zjO .i64 w vz z) (ht : zcx w) :
  Calls Tryz.prog 8 #[.int .i64 cols, .int .i64 rows, .string by_, vz] w fun e w' => e = .returned (.bool true) ∧ Below w.heap.size w w' := by
 have HSH := Lib.hid (zcP w ht);have HT := Lib.hid ht;have HMD := Lib.hid (fun w1 ht1 => zdv cols rows 20 w1 h1 h2 (by unfold I64; decide) ht1);have l1 := zat cols 40 (by decide);have l2 := zat rows 15 (by decide);rw [show zap 20 40 = 20 from by decide] at HMD;generalize zap cols 40 = x1 at *;generalize zap rows 15 = x2 at *;obtain ⟨m, hm⟩ : ∃ m : Nat, m = 1 + x1 := ⟨_, rfl⟩;obtain ⟨r, hr⟩ : ∃ r : Nat, r = 1 + x2 := ⟨_, rfl⟩;rw [← hm, ← hr] at HMD;have HON := Lib.hid (zfV (c := m) (r := r) (l := 20) (by omega) (by omega));have HLF := Lib.hid (fun (t : Trm) (l : List UInt8) (h : t.Ok m r) => (Trm.Ok.feed (c := m) (r := r) (by omega) (by omega) (by omega) (by omega) l h).2);have HZ := Lib.hid (zhL hz);have hzs := zbF (zhL hz);have HZW := Lib.hid (show ∀ j, j < z.length → I64 (z.getD j 0) from fun j hj => by
  have hm : z.getD j 0 ∈ z := (by rw [List.getD_eq_getElem?_getD, List.getElem?_eq_getElem hj]; exact List.getElem_mem hj);rcases hz with ⟨_, rfl⟩ | ⟨a, c, _, _, _, _, hw⟩
  ·simp at hj
  ·have := hw _ hm;simp only [Lit.wf, Bool.and_eq_true, decide_eq_true_eq] at this;exact this)
 have hlen := zb9 Tryz.underlying63 HZ.out;clear hm hr l1 l2 h1 h2 ht hz;go_enter Tryz.func8, Tryz.ntmps8;go_wp2_with fail;refine HSH.out.mono ?_;rintro e w1 ⟨rfl, b1⟩;have HW1 := Lib.hid b1;have HM := Lib.hid (HMD.out w1 (HT.out.below b1));clear b1 HSH;go_wp2_with fail;refine HM.out.mono ?_;rintro e w2 ⟨p, C2, rfl, h2⟩;have H2 := Lib.hid h2;have HM3 := Lib.hid (HMD.out w2 h2.tabs');clear h2 HM HMD;go_wp2_with fail;refine HM3.out.mono ?_;rintro e w3 ⟨q, D3, rfl, h3⟩;have HTW := Lib.hid (zdB.make H2.out h3);have HB3 := Lib.hid (HW1.out.trans (HTW.out.one.bl.mono HW1.out.size));clear h3 HM3 H2;by_cases hs : by_.size ≤ 20000;rotate_left
 ·have hs' : decide (20000 < (by_.size : Int)) = true := decide_eq_true (by omega);have hs2 : decide (20000 < by_.size) = true := decide_eq_true (by omega);go_wp2_with fail;go_ret;exact ⟨rfl, HB3.out⟩
 have hs' : decide (20000 < (by_.size : Int)) = false := decide_eq_false (by omega);have hs2 : decide (20000 < by_.size) = false := decide_eq_false (by omega);obtain ⟨v4, w4, hcv4, b4, ha4⟩ := zaR w3 by_ (by omega);have HT4 := Lib.hid (HTW.out.below b4);have HF4 := Lib.hid (ZJ (t := ⟨za4 m r 20, s0⟩) HT4.out.one HON.out v4 by_.data.toList (ha4 _ _ _ _ _ HTW.out.one) (by rw [zal]; omega));clear b4 ha4 HTW;go_wp2_with fail;refine HF4.out.mono ?_;rintro e w5 ⟨v5, C5, rfl, h5, p5, a5, o5⟩;have HT5 := Lib.hid (HT4.out.next p5 h5);have hcx := zN (P := Tryz.prog) Tryz.underlying38 Tryz.underlying5 Tryz.underlying9 (zU a5.own);obtain ⟨X, hX⟩ : ∃ X : ByteArray, X = ⟨((⟨za4 m r 20, s0⟩ : Trm).feed by_.data.toList).2.toArray⟩ := ⟨_, rfl⟩;rw [← hX] at hcx;have HX := Lib.hid (show X.data.toList = ((⟨za4 m r 20, s0⟩ : Trm).feed by_.data.toList).2 by rw [hX]);have O5 := Lib.hid o5;obtain ⟨t0, ht0⟩ : ∃ t0 : Trm, t0 = ⟨za4 m r 20, s0⟩ := ⟨_, rfl⟩;rw [← ht0] at HX O5 HT5 HON;have HT6 := Lib.hid (show zdB w1 C5 D3 p q w5 (t0.feed by_.data.toList).1.scr t0.scr (t0.feed by_.data.toList).1.par t0.par by rw [ht0]; rw [ht0] at HT5; exact HT5.out);clear h5 p5 a5 o5 HT4 HT5 HF4 hX ht0 hcv4;go_wp2_with fail;clear hcx
 go_loopw [13, 14, 15] (fun yv av iv wr => ∃ (k at_ : Nat) (Y : ByteArray) (D : Nat → Nat), k ≤ z.length ∧ iv = .int .i64 k ∧ at_ ≤ by_.size ∧ av = .int .i64 at_ ∧ yv = .string Y ∧ Hid (zdB w1 C5 D p q wr (t0.feed by_.data.toList).1.scr (t0.feed (by_.data.toList.take at_)).1.scr (t0.feed by_.data.toList).1.par (t0.feed (by_.data.toList.take at_)).1.par) ∧ Hid ((t0.feed (by_.data.toList.take at_)).1.Ok m r) ∧ Hid (Y.data.toList = (t0.feed (by_.data.toList.take at_)).2)) (fun _ _ iv _ => z.length - (intOf iv).toNat)
 case atStart => exact ⟨0, 0, ⟨#[]⟩, D3, by omega, rfl, by omega, rfl, rfl, HT6, HON, rfl⟩
 case round =>
  obtain ⟨k, at_, Y, D, hk, rfl, hat, rfl, rfl, HTW, HOK, HY⟩ := hrel;obtain ⟨wk, rfl⟩ : ∃ z, z = wr := ⟨wr, rfl⟩;have HBK := Lib.hid (HW1.out.trans (HTW.out.one.bl.mono HW1.out.size));have hcut : (k < z.length ∧ at_ < by_.size) ∨ ¬ (k < z.length ∧ at_ < by_.size) := Classical.em _;rcases hcut with ⟨hlt, hlt2⟩ | hno
  ·have hlt' : decide ((k : Int) < (z.length : Int)) = true := decide_eq_true (by omega);have hlt'' : decide (k < z.length) = true := decide_eq_true hlt;have hlt2' : decide ((at_ : Int) < (by_.size : Int)) = true := decide_eq_true (by omega);have hlt2'' : decide (at_ < by_.size) = true := decide_eq_true hlt2;have hwk : IntKind.i64.wrap ((k : Int) + 1) = (k : Int) + 1 := zb _ (by omega) (by omega);obtain ⟨ad, had, hcell⟩ := zmX Tryz.underlying63 (by kernel_rfl) (zdT HZ.out HBK.out) k hlt;have hx := HZW.out k hlt;generalize z.getD k 0 = x at *;obtain ⟨nn, hnn⟩ : ∃ nn : Nat, nn = by_.size - at_ + 1 := ⟨_, rfl⟩;have j1 : IntKind.i64.wrap ((by_.size : Int) - (at_ : Int)) = (by_.size : Int) - (at_ : Int) := zb _ (by omega) (by omega);have j2 : IntKind.i64.wrap ((by_.size : Int) - (at_ : Int) + 1) = (nn : Int) := (by rw [zb _ (by omega) (by omega)]; omega);have HP := Lib.hid (zcd x nn wk hx (by omega) (by omega));have hpl := zat x nn (by omega);generalize zap x nn = rr at *;obtain ⟨ee, hee⟩ : ∃ ee : Nat, ee = at_ + rr := ⟨_, rfl⟩;have j3 : IntKind.i64.wrap ((at_ : Int) + (rr : Int)) = (ee : Int) := (by rw [zb _ (by omega) (by omega)]; omega);have hel : (by_.extract at_ ee).data.toList = (by_.data.toList.drop at_).take rr := (by rw [zd9 by_ at_ ee (by omega)]; congr 1; omega);obtain ⟨v7, w7, hcv7, b7, ha7⟩ := zaR wk (by_.extract at_ ee) (by rw [ByteArray.size_extract]; omega);have HT7 := Lib.hid (HTW.out.below b7);have HF7 := Lib.hid (ZJ (t := (t0.feed (by_.data.toList.take at_)).1) HT7.out.two HOK.out v7 _ (ha7 _ _ _ _ _ HTW.out.two) (by rw [zal, ByteArray.size_extract]; omega));rw [hel] at HF7;have HFM := Lib.hid (zku t0 by_.data.toList at_ rr);rw [← hee] at HFM;have hl1 : (at_ : Int) ≤ (ee : Int) := (by omega);have hl2 : (ee : Int) ≤ (by_.size : Int) := (by omega);have hl3 : at_ ≤ ee := (by omega);have hl4 : ee ≤ by_.size := (by omega);clear b7 ha7 HTW hel hee hnn hpl hx;go_wp2_with fail;refine HP.out.mono ?_;rintro e wx ⟨rfl, hwx⟩;subst wx;go_wp2_with fail;refine HF7.out.mono ?_;rintro e w8 ⟨v8, D8, rfl, h8, p8, a8, o8⟩;have HT8 := Lib.hid ((HT7.out.swap.next p8 h8).swap);have hcy := zN (P := Tryz.prog) Tryz.underlying38 Tryz.underlying5 Tryz.underlying9 (zU a8.own);obtain ⟨YB, hYB⟩ : ∃ YB : ByteArray, YB = ⟨((t0.feed (by_.data.toList.take at_)).1.feed ((by_.data.toList.drop at_).take rr)).2.toArray⟩ := ⟨_, rfl⟩;rw [← hYB] at hcy;have HT9 := Lib.hid (show zdB w1 C5 D8 p q w8 (t0.feed by_.data.toList).1.scr (t0.feed (by_.data.toList.take ee)).1.scr (t0.feed by_.data.toList).1.par (t0.feed (by_.data.toList.take ee)).1.par by
    rw [show (t0.feed (by_.data.toList.take ee)).1 = _ from congrArg Prod.fst HFM.out];exact HT8.out)
   have HO9 := Lib.hid (show (t0.feed (by_.data.toList.take ee)).1.Ok m r by
    rw [show (t0.feed (by_.data.toList.take ee)).1 = _ from congrArg Prod.fst HFM.out];exact o8)
   have HY9 := Lib.hid (show (Y ++ YB).data.toList = (t0.feed (by_.data.toList.take ee)).2 by
    rw [show (t0.feed (by_.data.toList.take ee)).2 = _ from congrArg Prod.snd HFM.out, zcN, HY.out, hYB])
   have hs1 : Y.size ≤ 48000000 := by
    have e := HLF.out t0 (by_.data.toList.take at_) HON.out;rw [← HY.out, List.length_take, zal, zal] at e;omega
   have hs3 : YB.size ≤ 48000000 := by
    have e := HLF.out _ ((by_.data.toList.drop at_).take rr) HOK.out;rw [List.length_take, List.length_drop, zal] at e;have e2 : YB.size = ((t0.feed (by_.data.toList.take at_)).1.feed ((by_.data.toList.drop at_).take rr)).2.length := (by rw [hYB]; rfl);omega
   have hs4 : (Y.size : Int) + (YB.size : Int) ≤ 9223372036854775807 := (by omega);have hs5 : Y.size + YB.size ≤ 9223372036854775807 := (by omega);clear h8 p8 a8 o8 hYB HT8 HFM HOK HY HT7 HF7 HP hcv7;go_wp2_with fail;go_roundw
   case rel => exact ⟨k + 1, ee, Y ++ YB, D8, by omega, by go_num, hl4, rfl, rfl, HT9, HO9, HY9⟩
   case measure => simp [intOf]; omega
  ·have hel : (by_.extract at_ by_.size).data.toList = by_.data.toList.drop at_ := by
    rw [zd9 by_ at_ by_.size (Nat.le_refl _), List.take_of_length_le (by rw [List.length_drop, zal]; exact Nat.le_refl _)]
   obtain ⟨v7, w7, hcv7, b7, ha7⟩ := zaR wk (by_.extract at_ by_.size) (by rw [ByteArray.size_extract]; omega);have HT7 := Lib.hid (HTW.out.below b7);have HF7 := Lib.hid (ZJ (t := (t0.feed (by_.data.toList.take at_)).1) HT7.out.two HOK.out v7 _ (ha7 _ _ _ _ _ HTW.out.two) (by rw [zal, ByteArray.size_extract]; omega));rw [hel] at HF7;have HFM := Lib.hid (zl9 t0 by_.data.toList at_);have hl2 : (at_ : Int) ≤ (by_.size : Int) := (by omega);have hne : decide ((k : Int) < (z.length : Int)) = true ∧ decide ((at_ : Int) < (by_.size : Int)) = false ∨ decide ((k : Int) < (z.length : Int)) = false := by
    by_cases hk2 : k < z.length
    ·exact .inl ⟨decide_eq_true (by omega), decide_eq_false (by omega)⟩
    ·exact .inr (decide_eq_false (by omega))
   clear b7 ha7 HTW hel;have hs1 : Y.size ≤ 48000000 := by
    have e := HLF.out t0 (by_.data.toList.take at_) HON.out;rw [← HY.out, List.length_take, zal, zal] at e;omega
   have HLD := Lib.hid (HLF.out _ (by_.data.toList.drop at_) HOK.out);have hkk : ∃ c1 c2 : Bool, decide ((k : Int) < (z.length : Int)) = c1 ∧ decide (k < z.length) = c1 ∧ decide ((at_ : Int) < (by_.size : Int)) = c2 ∧ decide (at_ < by_.size) = c2 ∧ ((c1 = true ∧ c2 = false) ∨ c1 = false) := by
    rcases hne with ⟨e1, e2⟩ | e1
    ·exact ⟨true, false, e1, by rw [← e1]; exact decide_eq_decide.2 (by omega), e2, by rw [← e2]; exact decide_eq_decide.2 (by omega), .inl ⟨rfl, rfl⟩⟩
    ·exact ⟨false, decide (at_ < by_.size), e1, by rw [← e1]; exact decide_eq_decide.2 (by omega), decide_eq_decide.2 (by omega), rfl, .inr rfl⟩
   obtain ⟨c1, c2, f1, f2, f3, f4, f5⟩ := hkk;clear hne hno;rcases f5 with ⟨rfl, rfl⟩ | rfl
   all_goals
    go_wp2_with fail;refine HF7.out.mono ?_;rintro e w8 ⟨v8, D8, rfl, h8, p8, a8, o8⟩;have HT8 := Lib.hid ((HT7.out.swap.next p8 h8).swap);have hcy := zN (P := Tryz.prog) Tryz.underlying38 Tryz.underlying5 Tryz.underlying9 (zU a8.own);obtain ⟨YB, hYB⟩ : ∃ YB : ByteArray, YB = ⟨((t0.feed (by_.data.toList.take at_)).1.feed (by_.data.toList.drop at_)).2.toArray⟩ := ⟨_, rfl⟩;rw [← hYB] at hcy;have HT9 := Lib.hid (show zdB w1 C5 D8 p q w8 (t0.feed by_.data.toList).1.scr (t0.feed by_.data.toList).1.scr (t0.feed by_.data.toList).1.par (t0.feed by_.data.toList).1.par by
     have e := congrArg Prod.fst HFM.out;have := HT8.out;rw [show ((t0.feed (by_.data.toList.take at_)).1.feed (by_.data.toList.drop at_)).1 = (t0.feed by_.data.toList).1 from e.symm] at this;exact this)
    have hXY : Y ++ YB = X := zod (by rw [zcN, HY.out, hYB, HX.out]; exact (congrArg Prod.snd HFM.out).symm);have hs3 : YB.size ≤ 48000000 := by
     have e := HLD.out;rw [List.length_drop, zal] at e;have e2 : YB.size = ((t0.feed (by_.data.toList.take at_)).1.feed (by_.data.toList.drop at_)).2.length := (by rw [hYB]; rfl);omega
    have hs4 : (Y.size : Int) + (YB.size : Int) ≤ 9223372036854775807 := (by omega);have hs5 : Y.size + YB.size ≤ 9223372036854775807 := (by omega);clear h8 p8 a8 o8 hYB HT8 HFM HOK HY HT7 HF7 hcv7 HLD;go_wp2_with fail;refine (zl8 HT9.out.one HT9.out.two O5.out.scr).mono ?_;rintro e w9 ⟨rfl, b9⟩;have HF := Lib.hid (HW1.out.trans ((HT9.out.one.below b9).bl.mono HW1.out.size));clear HT9 b9 hcy;go_wp2_with fail;go_ret;exact ⟨rfl, HF.out⟩
end
end Go.Proofs.YtlfdgkiliegaiaaGreatDoor
