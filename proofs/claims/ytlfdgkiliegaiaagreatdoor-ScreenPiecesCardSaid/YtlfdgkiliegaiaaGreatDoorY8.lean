/- Texts laid together: G16 Dm S2 W9 P4. -/
import Derived.Test.YtlfdgkiliegaiaaGreatDoorY1
import Derived.Test.YtlfdgkiliegaiaaGreatDoorY2
import Derived.Test.YtlfdgkiliegaiaaGreatDoorY3
import Derived.Test.YtlfdgkiliegaiaaGreatDoorY4
import Derived.Test.YtlfdgkiliegaiaaGreatDoorY5
import Derived.Test.YtlfdgkiliegaiaaGreatDoorY6
import Derived.Test.YtlfdgkiliegaiaaGreatDoorY7
import Derived.Deep.DrawnRows
import Derived.Deep.RegionHeld3
import Derived.Test.YtlfdgkiliegaiaaGreatDoorShelf
import Derived.Lib.Builder
import Derived.Lib.FrozenHead
import Derived.Lib.RuneBytes
import Derived.Lib.UnsafeStr
import Derived.Lib.SliceRun
import Derived.WalkSpells
import Derived.StillTailTactics
import Derived.Deep.RegionLaw
import Derived.Deep.DeepCutAuto
import Derived.Test.YtlfdgkiliegaiaaGreatDoorRows
import Derived.Deep.AppendSrc
import Derived.Lib.AppendStr
import Derived.ArgAppend
import Derived.Laws.IdiomCopy
import Derived.Laws.IdiomStrings
import Derived.Deep.Upon
import Derived.WalkKit
import Derived.WalkLawsBesides
import Derived.BigQuiet
import Derived.Lib.Hide
import Derived.Deep.QuietTactic
import Derived.Lib.AppendIntMem
import Derived.Lib.ItoaNum
import Derived.Laws.ResultCell
import Derived.Deep.CutBlock
import Derived.Laws.EntriesVeiled
import Derived.Laws.StructEq
import Derived.WalkMore
import Derived.ScopeJumps
import Derived.Lib.SlBytesConst
import Derived.Lib.ItoaLen
import Derived.Laws.Cover4
set_option linter.unusedVariables false
namespace Go.Proofs.YtlfdgkiliegaiaaGreatDoor
section
open Go.RowKit
attribute [local go_sem ↓] Go.wp_at_zero Go.wp_at_succ
theorem zaU.snoc {B : Nat} {w w2 w3 : World} {v v' xv : Value} {xr : Rw} {L : List (Value × Rw)} {q : Nat} (h : zaU B w v L) (b : Below w.heap.size w w2) (hxo : zn w2 w.heap.size 5 xv xr.cells.length (zp xr.cells)) (hxb : xv.ownBlock = some q)
  (o3 : zn w3 B 2 v' (L.length + 1) (zf L ++ [xv, .bool xr.wrap])) (g : w2.grownBy w3 v.ownBlock) (hn : ∀ k, v'.ownBlock = some k → v.ownBlock = some k ∨ w2.heap.size ≤ k) (hB : B ≤ w.heap.size) : zaU B w3 v' (L ++ [(xv, xr)]) := by
 have hq := zl hxo q hxb;have hbs := b.size;refine ⟨?_, fun x hx => ?_, ?_, fun x hx => ?_⟩
 ·rw [List.length_append, Zq]; exact o3
 ·rcases List.mem_append.1 hx with hx | hx
  ·refine zx (zh (h.cells x hx) b) g (fun k hk e => ?_);obtain ⟨q', e1, e2⟩ := h.ap x hx;rw [e1] at hk;injection hk with hk;exact e2 (by rw [e, hk])
  ·rw [List.mem_singleton] at hx;subst hx;refine zM (zx hxo g (fun k hk e => ?_)) hB;have := (zl h.own k e).2;dsimp only at hk;rw [hxb] at hk;injection hk with hk;omega
 ·rw [List.map_append, List.nodup_append];refine ⟨h.nd, by simp, fun a ha c hc e => ?_⟩;obtain ⟨x, hx, rfl⟩ := List.mem_map.1 ha;simp only [List.map_cons, List.map_nil, List.mem_singleton] at hc;subst hc;have := (zl (h.cells x hx) q (by rw [e, hxb])).2;omega
 ·rcases List.mem_append.1 hx with hx | hx
  ·obtain ⟨q', e1, e2⟩ := h.ap x hx;refine ⟨q', e1, fun e => ?_⟩;have hlt := (zl (h.cells x hx) q' e1).2;rcases hn q' e with h' | h'
   ·exact e2 h'
   ·omega
  ·rw [List.mem_singleton] at hx;subst hx;refine ⟨q, hxb, fun e => ?_⟩;rcases hn q e with h' | h'
   ·have := (zl h.own q h').2;omega
   ·omega
theorem zaU.nil (B : Nat) (w : World) : zaU B w (.slice none 0 0) [] := ⟨ZX _ _ _, fun x hx => by simp at hx, by simp, fun x hx => by simp at hx⟩
theorem zaU.grown {B : Nat} {w w' : World} {v : Value} {L : List (Value × Rw)} {row : Option Nat} (h : zaU B w v L) (g : w.grownBy w' row) (hr : ∀ k, row = some k → k < B) : zaU B w' v L :=
 ⟨zx h.own g (fun k hk e => by have := (zl h.own k hk).1; have := hr k e; omega), fun x hx => zx (h.cells x hx) g (fun k hk e => by have := (zl (h.cells x hx) k hk).1; have := hr k e; omega), h.nd, h.ap⟩
theorem zg0 (w : World) (v : Value) (b : Bool) (T : TypeId) : zaw (w.alloc (.cells #[v, .bool b] T)) 2 (.slice (some ⟨w.heap.size, 0, none⟩) 1 1) 1 [v, .bool b] := by
 refine .inr ⟨⟨w.heap.size, 0, none⟩, 1, rfl, rfl, fun j u hu => ?_⟩;rw [zaO, Nat.zero_add, World.cell?_alloc_new];simpa using hu
theorem zke (a : Option Addr) (n c : Nat) (b : Bool) : ∀ u ∈ [Value.slice a n c, Value.bool b], u.oneCell' = true := by
 intro u hu;simp only [List.mem_cons, List.not_mem_nil, or_false] at hu;rcases hu with rfl | rfl <;> rfl
set_option maxRecDepth 100000 in
set_option maxHeartbeats 4000000 in
theorem zlC {T : Nat → Nat} {p : Nat} {w : World} {g : Gr} (h : GM T p w g) :
  Calls Tryz.prog 71 #[.pointer (some ⟨p, 0, none⟩)] w fun e w' => ∃ p' T', e = .returned (.pointer (some ⟨p', 0, none⟩)) ∧ Below w.heap.size w w' ∧ GM T' p' w' g ∧ ∀ k, T' k ≠ 0 → w.heap.size ≤ k := by
 obtain ⟨vr, vo, Lr, Lo, h0⟩ := h;obtain ⟨c0, c1, c2, c3⟩ := zX h0;have HG := Lib.hid h0;have wf := h0.wf;have hlr := (Zf h0).1;have hlo := (Zf h0).2;have w1 := wf.r2;have w2 := wf.ol;have w3 := wf.li;have w4 := wf.c2;have w5 := wf.c1;have hrr := h0.rr.own;have hro := h0.ro.own;have hpl := zj h0.blk;have hn1 : Lr.length ≤ 2000 := (by omega);have hn2 : Lo.length ≤ 2000 := (by omega);have HCE := Lib.hid (show ∀ x ∈ Lr ++ Lo, x.2.cells.length = g.cols from fun x hx => by
  refine (wf.ce x.2 ?_).1;rcases List.mem_append.1 hx with hx | hx
  ·exact List.mem_append_left _ (by rw [← h0.er]; exact List.mem_map_of_mem hx)
  ·exact List.mem_append_right _ (by rw [← h0.eo]; exact List.mem_map_of_mem hx))
 clear h0 hlr hlo wf;obtain ⟨ra, rc, rfl⟩ := zQ hrr;obtain ⟨oa, oc, rfl⟩ := zQ hro;have hl1 := Za Tryz.underlying126 hrr;have hl2 := Za Tryz.underlying126 hro;clear hrr hro;have HNB := Lib.hid (zE w (.cells #[.int .i64 g.cols, .int .i64 g.limit, .slice none 0 0, .slice none 0 0] 128));have HBW := Lib.hid (Below.alloc (Below.refl w.heap.size w) (Nat.le_refl _) (.cells #[.int .i64 g.cols, .int .i64 g.limit, .slice none 0 0, .slice none 0 0] 128));go_enter Tryz.func71, Tryz.ntmps71;go_upto_region 1 with fail
 go_still_tail 9, (by kernel_rfl)
 change wpList _ _ _ _ _ w.drew;go_upto_region 3 with fail;have HNB0 := Lib.hid (show ((w.alloc (.cells #[.int .i64 g.cols, .int .i64 g.limit, .slice none 0 0, .slice none 0 0] 128)).drew).heap[w.heap.size]? = some (.cells #[.int .i64 g.cols, .int .i64 g.limit, .slice none 0 0, .slice none 0 0] 128) from zE w _);have HBW0 := Lib.hid (show Below w.heap.size w ((w.alloc (.cells #[.int .i64 g.cols, .int .i64 g.limit, .slice none 0 0, .slice none 0 0] 128)).drew) from HBW.out.drew);have hsz0 : ((w.alloc (.cells #[.int .i64 g.cols, .int .i64 g.limit, .slice none 0 0, .slice none 0 0] 128)).drew).heap.size = w.heap.size + 1 := (by show (w.alloc _).heap.size = _; simp);generalize (w.alloc (.cells #[.int .i64 g.cols, .int .i64 g.limit, .slice none 0 0, .slice none 0 0] 128)).drew = W0 at *;clear HNB HBW;have HG0 := Lib.hid (HG.out.mod (.of_below HBW0.out) id id id (fun _ => id))
 go_loopw [5, 23] (fun _ iv wr => ∃ (k : Nat) (L : List (Value × Rw)) (v : Value), k ≤ Lr.length ∧ iv = .int .i64 k ∧ Hid (L.length = k) ∧ Hid (W0.grownBy wr (some w.heap.size)) ∧ Hid (zaU W0.heap.size wr v L) ∧ Hid (wr.heap[w.heap.size]? = some (.cells #[.int .i64 g.cols, .int .i64 g.limit, v, .slice none 0 0] 128 (0, 0))) ∧ Hid (L.map (·.2) = (Lr.map (·.2)).take k)) (fun _ iv _ => Lr.length - (intOf iv).toNat)
 case atStart =>
  exact ⟨0, [], .slice none 0 0, Nat.zero_le _, rfl, rfl, zr _ _, zaU.nil _ _, HNB0.out, by simp [Hid]⟩
 case round =>
  obtain ⟨k, L, v, hk, rfl, HL, HGB, HRA, HBK, HMP⟩ := hrel;by_cases hlt : k < Lr.length
  ·have d1 : decide ((k : Int) < (Lr.length : Int)) = true := decide_eq_true (by omega);have d1' : decide (k < Lr.length) = true := decide_eq_true hlt;have hszr := HGB.out.size;have HGr := Lib.hid (HG0.out.rr.own);have HSO := Lib.hid (zx HGr.out HGB.out (fun q hq e => by have := (zl HG.out.rr.own q hq).2; injection e with e; omega));have HCO := Lib.hid (zx (HG0.out.ca Lr[k] (List.mem_append_left _ (List.getElem_mem hlt))).own HGB.out (fun q hq e => by have := (zl (HG.out.ca Lr[k] (List.mem_append_left _ (List.getElem_mem hlt))).own q hq).2; injection e with e; omega));obtain ⟨qx, hqx1, hqx2⟩ := (HG0.out.ca Lr[k] (List.mem_append_left _ (List.getElem_mem hlt))).tag;have hcl : Lr[k].2.cells.length = g.cols := HCE.out _ (List.mem_append_left _ (List.getElem_mem hlt));have htk : (Lr.map (·.2)).take (k + 1) = (Lr.map (·.2)).take k ++ [Lr[k].2] := by
    rw [List.take_add_one, List.getElem?_map, List.getElem?_eq_getElem hlt]; rfl
   obtain ⟨sb, soff, sc, hsv, hsn, hsm⟩ := zF HSO.out (by omega);simp only [Value.slice.injEq] at hsv;obtain ⟨rfl, _, rfl⟩ := hsv;obtain ⟨r0, r1⟩ := zbf HSO.out k hlt;have hix := ZN (P := Tryz.prog) (size := 2) Tryz.underlying126 zH sb soff Lr.length rc k hlt;have HTK := Lib.hid htk;clear htk;generalize Lr[k] = x at *;obtain ⟨xv, xr⟩ := x;dsimp only at r0 r1 hcl hqx1 HCO HTK;obtain ⟨xa, xc, rfl⟩ := zQ HCO.out;rw [hcl] at r0 hqx1;have hql : w.heap.size < wr.heap.size := zj HBK.out;have HBA := Lib.hid (Below.alloc (Below.refl wr.heap.size wr) (Nat.le_refl _) (.cells #[.slice none 0 0, .bool false] 130));have HZ := Lib.hid (zE wr (.cells #[.slice none 0 0, .bool false] 130));have q0 := World.cell?_alloc_new wr #[.slice none 0 0, .bool false] 130 0;have q1 := World.cell?_alloc_new wr #[.slice none 0 0, .bool false] 130 1;have hst := run_storeVar_row (P := Tryz.prog) (wr.alloc (.cells #[.slice none 0 0, .bool false] 130)) wr.heap.size 130 130 _ #[.slice xa g.cols xc, .bool xr.wrap] HZ.out zH rfl (by simp [Value.oneCell']);have hr2 := zaS (cells := #[.slice xa g.cols xc, .bool xr.wrap]) HZ.out;have hB3 := zbB HBA.out (g := wr.heap.size) (Nat.le_refl _) #[.slice xa g.cols xc, .bool xr.wrap];go_upto_region 5 with (refine zJ rfl _ _ _ rfl hst rfl rfl ?_)
   try simp only [Act.put]
   have HR2 := Lib.hid hr2;have HB3 := Lib.hid hB3;clear hr2 hB3 hst r0 r1 hix q0 q1;generalize (wr.alloc (.cells #[.slice none 0 0, .bool false] 130)).setRow wr.heap.size #[.slice xa g.cols xc, .bool xr.wrap] = w3 at *;obtain ⟨va, vc, rfl⟩ := zQ HRA.out.own;have hs3 := HB3.out.size;have hrl3 : wr.heap.size < w3.heap.size := zj HR2.out;have HCO3 := Lib.hid (show zn w3.drew 0 5 (.slice xa g.cols xc) xr.cells.length (zp xr.cells) by
    rw [← hcl];exact zh HCO.out (show Below wr.heap.size wr w3.drew from HB3.out.drew))
   have HOW3 := Lib.hid (show zn w3.drew W0.heap.size 2 (.slice va L.length vc) L.length (zf L) from zh HRA.out.own (show Below wr.heap.size wr w3.drew from HB3.out.drew));have HBK3 := Lib.hid (show w3.drew.heap[w.heap.size]? = some (.cells #[.int .i64 g.cols, .int .i64 g.limit, .slice va L.length vc, .slice none 0 0] 128 (0, 0)) from zm HBK.out HB3.out.drew hql);have HR3 := Lib.hid (show w3.drew.heap[wr.heap.size]? = some (.cells #[.slice xa g.cols xc, .bool xr.wrap] 130 (0, 0)) from HR2.out);have s0 : w3.cell? ⟨wr.heap.size, 0, none⟩ = some (.slice xa g.cols xc) := za HR2.out 0;have s1 : w3.cell? ⟨wr.heap.size, 1, none⟩ = some (.bool xr.wrap) := za HR2.out 1;have s2 : w3.drew.cell? ⟨w.heap.size, 2, none⟩ = some (.slice va L.length vc) := za HBK3.out 2;have hne : w.heap.size ≠ wr.heap.size := (by omega);have hs3d : w3.drew.heap.size = w3.heap.size := rfl;have HLc := Lib.hid hcl;have hc5 : xr.cells.length ≤ 100000 := (by omega);have hLl : L.length ≤ 2000 := (by have := HL.out; omega);have hW0s : W0.heap.size ≤ wr.heap.size := hszr;clear hcl d1 d1';refine Zl (c := 15) (S := (fun bb w' => (w'.cell? ⟨wr.heap.size, 0, none⟩ = some (.slice xa g.cols xc) ∧ w'.cell? ⟨wr.heap.size, 1, none⟩ = some (.bool xr.wrap)) ∧ (bb = false → w'.cell? ⟨w.heap.size, 2, none⟩ = some (.slice va L.length vc)))) (by kernel_rfl) (⟨⟨s0, s1⟩, fun _ => s2⟩) (fun _ => ?_);refine zd false 0 (⟨⟨s0, s1⟩, fun _ => s2⟩) ?_;refine zd false 1 (⟨⟨s0, s1⟩, fun _ => s2⟩) ?_;refine zd false 2 (⟨⟨s0, s1⟩, fun _ => s2⟩) ?_;refine zd false 3 (⟨⟨s0, s1⟩, fun _ => s2⟩) ?_;refine zht 4 (⟨⟨s0, s1⟩, fun _ => s2⟩) ?_;refine zd false 5 (⟨⟨s0, s1⟩, fun _ => s2⟩) ?_;refine zd false 6 (⟨⟨s0, s1⟩, fun _ => s2⟩) ?_;refine zd false 8 (⟨⟨s0, s1⟩, fun _ => s2⟩) ?_;refine zd false 9 (⟨⟨s0, s1⟩, fun _ => s2⟩) ?_;refine zt false 7 fun K hK => ?_;refine zi rfl ?_;go_wp2_with fail;refine (zd1 xr.cells (.slice xa g.cols xc) w3.drew HCO3.out hc5).mono ?_;rintro e w6 ⟨v6, rfl, b6, o6⟩;have hbk6 := zm HBK3.out b6 (show w.heap.size < w3.heap.size by omega);have hrk6 := zm HR3.out b6 (show wr.heap.size < w3.heap.size by omega);obtain ⟨va6, vc6, rfl⟩ := zQ o6;have z0 : w6.cell? ⟨wr.heap.size, 0, none⟩ = some (.slice xa g.cols xc) := za hrk6 0;have z1 : w6.cell? ⟨wr.heap.size, 1, none⟩ = some (.bool xr.wrap) := za hrk6 1;have z2 : w6.cell? ⟨w.heap.size, 2, none⟩ = some (.slice va L.length vc) := za hbk6 2;have z3 : ∀ o, (w6.alloc o).cell? ⟨w.heap.size, 2, none⟩ = some (.slice va L.length vc) := fun o => za (zD hbk6 o) 2;have HB6 := Lib.hid b6;have HO6 := Lib.hid o6;have HBK6 := Lib.hid hbk6;have HRK6 := Lib.hid hrk6;refine hK.out _ _ (⟨⟨z0, z1⟩, fun _ => z2⟩) (fun _ => ?_);clear hK K b6 o6 hbk6 hrk6
   try simp only [Act.put, List.setIfInBounds_toArray, List.set_cons_zero, List.set_cons_succ]
   refine zd false 10 (⟨⟨z0, z1⟩, fun _ => z2⟩) ?_;refine zt false 11 fun K hK => ?_;refine zi rfl ?_;go_wp2_with fail;refine hK.out _ _ (⟨⟨za (zD HRK6.out _) 0, za (zD HRK6.out _) 1⟩, fun _ => z3 _⟩) (fun _ => ?_);clear hK K
   try simp only [Act.put, List.setIfInBounds_toArray, List.set_cons_zero, List.set_cons_succ]
   refine zt false 12 fun K hK => ?_;apply zeN zcw
   case hgd => rfl
   case ho => rfl
   case hown => exact zB (zh HOW3.out HB6.out) _
   case hs => rfl
   case hr => exact zdk Tryz.underlying126 (zg0 _ _ _ _) (zke _ _ _ _)
   case hx => rfl
   case h63 => unfold maxLen; omega
   case hbytes => omega
   case hbase => (have := HB6.out.size; simp; (try (show _ ≤ w3.heap.size + 1; omega)); omega)
   intro v7 w7 o7 g7 n7;have hbk7 := zo (zD HBK6.out _) g7 (fun e => by have := (zl HRA.out.own w.heap.size e.symm).1; omega);have hrk7 := zo (zD HRK6.out _) g7 (fun e => by have := (zl HRA.out.own wr.heap.size e.symm).2; omega);have y0 : w7.cell? ⟨wr.heap.size, 0, none⟩ = some (.slice xa g.cols xc) := za hrk7 0;have y1 : w7.cell? ⟨wr.heap.size, 1, none⟩ = some (.bool xr.wrap) := za hrk7 1;have y2 : w7.cell? ⟨w.heap.size, 2, none⟩ = some (.slice va L.length vc) := za hbk7 2;have y3 : w7.frozen? ⟨w.heap.size, 2, none⟩ = false := zy hbk7 2;obtain ⟨va7, vc7, rfl⟩ := zQ o7;have HBK7 := Lib.hid hbk7;have HO7 := Lib.hid o7;have HG7 := Lib.hid g7;have HN7 := Lib.hid n7;have HRK7 := Lib.hid hrk7;refine hK.out _ _ (⟨⟨y0, y1⟩, fun _ => y2⟩) (fun _ => ?_);clear hK K hbk7 hrk7 o7 g7 n7
   try simp only [Act.put, List.setIfInBounds_toArray, List.set_cons_zero, List.set_cons_succ]
   refine zd false 13 (⟨⟨y0, y1⟩, fun _ => y2⟩) ?_;refine zd false 14 (⟨⟨y0, y1⟩, fun _ => y2⟩) ?_;refine zt true 15 fun K hK => ?_;refine zi rfl ?_;go_wp2_with fail;refine hK.out _ _ (⟨⟨za (zbg HRK7.out hne.symm _ _) 0, za (zbg HRK7.out hne.symm _ _) 1⟩, fun e => by cases e⟩) (fun _ => ?_);clear hK K
   try simp only [Act.put]
   refine Zh (by kernel_rfl) ?_ _;have hs6 := HB6.out.size;have HB26 := Lib.hid (show Below wr.heap.size wr (w6.alloc (.cells #[.slice va6 xr.cells.length vc6, .bool xr.wrap] 130)) from
    ((HB3.out.drew.trans (HB6.out.mono (by omega))).alloc (by omega) _))
   obtain ⟨qb, hqb⟩ : ∃ q, (Value.slice va6 xr.cells.length vc6).ownBlock = some q := by
    obtain ⟨b, off, c, e, _, _⟩ := zF HO6.out (by rw [HLc.out]; omega);exact ⟨b, by rw [e]; rfl⟩
   have HRA7 := Lib.hid (HRA.out.snoc (xr := xr) HB26.out (zM (zB HO6.out _) (by omega)) hqb HO7.out HG7.out HN7.out hW0s);have HGB7 := Lib.hid (show W0.grownBy w7 (some w.heap.size) from zcz (zfv HGB.out HB26.out hW0s) HG7.out (fun q hq => (zl HRA.out.own q hq).1));have hqW : w.heap.size < W0.heap.size := zj HNB0.out;have HRA8 := Lib.hid (HRA7.out.grown (zO (zr w7 (some w.heap.size)) 2 (.slice va7 (L.length + 1) vc7)) (fun k' hk' => by injection hk' with hk'; omega));have HGB8 := Lib.hid (zO HGB7.out 2 (.slice va7 (L.length + 1) vc7));have HBK8 := Lib.hid (zw HBK7.out 2 (.slice va7 (L.length + 1) vc7));clear y0 y1 y2 y3 z0 z1 z2 z3 s0 s1 s2;generalize w7.setCell ⟨w.heap.size, 2, none⟩ (.slice va7 (L.length + 1) vc7) = w8 at *;go_wp2_with fail;go_roundw
   case rel => exact ⟨k + 1, L ++ [(.slice va6 xr.cells.length vc6, xr)], .slice va7 (L.length + 1) vc7, by omega, by go_num, by show _ = _; rw [List.length_append, HL.out]; rfl, HGB8, HRA8, HBK8, by show _ = _; rw [List.map_append, HMP.out, HTK.out]; rfl⟩
   case measure => simp [intOf]; omega
  ·have hkn : k = Lr.length := (by omega);subst hkn;have d1 : decide ((Lr.length : Int) < (Lr.length : Int)) = false := decide_eq_false (by omega);have d1' : decide (Lr.length < Lr.length) = false := decide_eq_false (by omega);have HL1 := HL;have HMP1 := HMP;have HGB1 := HGB;have HRA1 := HRA;have HNB1 := HBK;clear HL HMP HGB HRA HBK;obtain ⟨na, nc, rfl⟩ := zQ HRA1.out.own;have hplq : p ≠ w.heap.size := (by omega);have HP1 := Lib.hid (zo HG0.out.blk HGB1.out (by intro e; injection e with e; omega));have t3 : wr.cell? ⟨p, 3, none⟩ = some (.slice oa Lo.length oc) := za HP1.out 3;have tq : T w.heap.size = 0 := by
    by_cases h0 : T w.heap.size = 0
    ·exact h0
    ·have := HG.out.lt _ h0; omega
   have HG1 := Lib.hid (HG0.out.mod (Mod.of_gb (t := fun t => t = 0) HGB1.out (fun k hk => by injection hk with hk; rw [← hk]; exact tq)) (by decide) (by decide) (by decide) (fun k => by omega));have hsW1 := HGB1.out.size;generalize L = Ln at *;generalize wr = W1 at *;go_upto_region 8 with fail
   go_loopw [7, 48] (fun _ iv wr => ∃ (k : Nat) (L : List (Value × Rw)) (v : Value), k ≤ Lo.length ∧ iv = .int .i64 k ∧ Hid (L.length = k) ∧ Hid (W1.grownBy wr (some w.heap.size)) ∧ Hid (zaU W1.heap.size wr v L) ∧ Hid (wr.heap[w.heap.size]? = some (.cells #[.int .i64 g.cols, .int .i64 g.limit, .slice na Ln.length nc, v] 128 (0, 0))) ∧ Hid (L.map (·.2) = (Lo.map (·.2)).take k)) (fun _ iv _ => Lo.length - (intOf iv).toNat)
   case atStart =>
    exact ⟨0, [], .slice none 0 0, Nat.zero_le _, rfl, rfl, zr _ _, zaU.nil _ _, HNB1.out, by simp [Hid]⟩
   case round =>
    obtain ⟨k, L, v, hk, rfl, HL, HGB, HRA, HBK, HMP⟩ := hrel;by_cases hlt : k < Lo.length
    ·have d1 : decide ((k : Int) < (Lo.length : Int)) = true := decide_eq_true (by omega);have d1' : decide (k < Lo.length) = true := decide_eq_true hlt;have hszr := HGB.out.size;have HGr := Lib.hid (HG1.out.ro.own);have HSO := Lib.hid (zx HGr.out HGB.out (fun q hq e => by have := (zl HG.out.ro.own q hq).2; injection e with e; omega));have HCO := Lib.hid (zx (HG1.out.ca Lo[k] (List.mem_append_right _ (List.getElem_mem hlt))).own HGB.out (fun q hq e => by have := (zl (HG.out.ca Lo[k] (List.mem_append_right _ (List.getElem_mem hlt))).own q hq).2; injection e with e; omega));obtain ⟨qx, hqx1, hqx2⟩ := (HG1.out.ca Lo[k] (List.mem_append_right _ (List.getElem_mem hlt))).tag;have hcl : Lo[k].2.cells.length = g.cols := HCE.out _ (List.mem_append_right _ (List.getElem_mem hlt));have htk : (Lo.map (·.2)).take (k + 1) = (Lo.map (·.2)).take k ++ [Lo[k].2] := by
      rw [List.take_add_one, List.getElem?_map, List.getElem?_eq_getElem hlt]; rfl
     obtain ⟨sb, soff, sc, hsv, hsn, hsm⟩ := zF HSO.out (by omega);simp only [Value.slice.injEq] at hsv;obtain ⟨rfl, _, rfl⟩ := hsv;obtain ⟨r0, r1⟩ := zbf HSO.out k hlt;have hix := ZN (P := Tryz.prog) (size := 2) Tryz.underlying126 zH sb soff Lo.length oc k hlt;have HTK := Lib.hid htk;clear htk;generalize Lo[k] = x at *;obtain ⟨xv, xr⟩ := x;dsimp only at r0 r1 hcl hqx1 HCO HTK;obtain ⟨xa, xc, rfl⟩ := zQ HCO.out;rw [hcl] at r0 hqx1;have hql : w.heap.size < wr.heap.size := zj HBK.out;have HBA := Lib.hid (Below.alloc (Below.refl wr.heap.size wr) (Nat.le_refl _) (.cells #[.slice none 0 0, .bool false] 130));have HZ := Lib.hid (zE wr (.cells #[.slice none 0 0, .bool false] 130));have q0 := World.cell?_alloc_new wr #[.slice none 0 0, .bool false] 130 0;have q1 := World.cell?_alloc_new wr #[.slice none 0 0, .bool false] 130 1;have hst := run_storeVar_row (P := Tryz.prog) (wr.alloc (.cells #[.slice none 0 0, .bool false] 130)) wr.heap.size 130 130 _ #[.slice xa g.cols xc, .bool xr.wrap] HZ.out zH rfl (by simp [Value.oneCell']);have hr2 := zaS (cells := #[.slice xa g.cols xc, .bool xr.wrap]) HZ.out;have hB3 := zbB HBA.out (g := wr.heap.size) (Nat.le_refl _) #[.slice xa g.cols xc, .bool xr.wrap];go_upto_region 10 with (refine zJ rfl _ _ _ rfl hst rfl rfl ?_)
     try simp only [Act.put]
     have HR2 := Lib.hid hr2;have HB3 := Lib.hid hB3;clear hr2 hB3 hst r0 r1 hix q0 q1;generalize (wr.alloc (.cells #[.slice none 0 0, .bool false] 130)).setRow wr.heap.size #[.slice xa g.cols xc, .bool xr.wrap] = w3 at *;obtain ⟨va, vc, rfl⟩ := zQ HRA.out.own;have hs3 := HB3.out.size;have hrl3 : wr.heap.size < w3.heap.size := zj HR2.out;have HCO3 := Lib.hid (show zn w3.drew 0 5 (.slice xa g.cols xc) xr.cells.length (zp xr.cells) by
      rw [← hcl];exact zh HCO.out (show Below wr.heap.size wr w3.drew from HB3.out.drew))
     have HOW3 := Lib.hid (show zn w3.drew W1.heap.size 2 (.slice va L.length vc) L.length (zf L) from zh HRA.out.own (show Below wr.heap.size wr w3.drew from HB3.out.drew));have HBK3 := Lib.hid (show w3.drew.heap[w.heap.size]? = some (.cells #[.int .i64 g.cols, .int .i64 g.limit, .slice na Ln.length nc, .slice va L.length vc] 128 (0, 0)) from zm HBK.out HB3.out.drew hql);have HR3 := Lib.hid (show w3.drew.heap[wr.heap.size]? = some (.cells #[.slice xa g.cols xc, .bool xr.wrap] 130 (0, 0)) from HR2.out);have s0 : w3.cell? ⟨wr.heap.size, 0, none⟩ = some (.slice xa g.cols xc) := za HR2.out 0;have s1 : w3.cell? ⟨wr.heap.size, 1, none⟩ = some (.bool xr.wrap) := za HR2.out 1;have s2 : w3.drew.cell? ⟨w.heap.size, 3, none⟩ = some (.slice va L.length vc) := za HBK3.out 3;have hne : w.heap.size ≠ wr.heap.size := (by omega);have hs3d : w3.drew.heap.size = w3.heap.size := rfl;have HLc := Lib.hid hcl;have hc5 : xr.cells.length ≤ 100000 := (by omega);have hLl : L.length ≤ 2000 := (by have := HL.out; omega);have hW0s : W1.heap.size ≤ wr.heap.size := hszr;clear hcl d1 d1';refine Zl (c := 15) (S := (fun bb w' => (w'.cell? ⟨wr.heap.size, 0, none⟩ = some (.slice xa g.cols xc) ∧ w'.cell? ⟨wr.heap.size, 1, none⟩ = some (.bool xr.wrap)) ∧ (bb = false → w'.cell? ⟨w.heap.size, 3, none⟩ = some (.slice va L.length vc)))) (by kernel_rfl) (⟨⟨s0, s1⟩, fun _ => s2⟩) (fun _ => ?_);refine zd false 0 (⟨⟨s0, s1⟩, fun _ => s2⟩) ?_;refine zd false 1 (⟨⟨s0, s1⟩, fun _ => s2⟩) ?_;refine zd false 2 (⟨⟨s0, s1⟩, fun _ => s2⟩) ?_;refine zd false 3 (⟨⟨s0, s1⟩, fun _ => s2⟩) ?_;refine zht 4 (⟨⟨s0, s1⟩, fun _ => s2⟩) ?_;refine zd false 5 (⟨⟨s0, s1⟩, fun _ => s2⟩) ?_;refine zd false 6 (⟨⟨s0, s1⟩, fun _ => s2⟩) ?_;refine zd false 8 (⟨⟨s0, s1⟩, fun _ => s2⟩) ?_;refine zd false 9 (⟨⟨s0, s1⟩, fun _ => s2⟩) ?_;refine zt false 7 fun K hK => ?_;refine zi rfl ?_;go_wp2_with fail;refine (zd1 xr.cells (.slice xa g.cols xc) w3.drew HCO3.out hc5).mono ?_;rintro e w6 ⟨v6, rfl, b6, o6⟩;have hbk6 := zm HBK3.out b6 (show w.heap.size < w3.heap.size by omega);have hrk6 := zm HR3.out b6 (show wr.heap.size < w3.heap.size by omega);obtain ⟨va6, vc6, rfl⟩ := zQ o6;have z0 : w6.cell? ⟨wr.heap.size, 0, none⟩ = some (.slice xa g.cols xc) := za hrk6 0;have z1 : w6.cell? ⟨wr.heap.size, 1, none⟩ = some (.bool xr.wrap) := za hrk6 1;have z2 : w6.cell? ⟨w.heap.size, 3, none⟩ = some (.slice va L.length vc) := za hbk6 3;have z3 : ∀ o, (w6.alloc o).cell? ⟨w.heap.size, 3, none⟩ = some (.slice va L.length vc) := fun o => za (zD hbk6 o) 3;have HB6 := Lib.hid b6;have HO6 := Lib.hid o6;have HBK6 := Lib.hid hbk6;have HRK6 := Lib.hid hrk6;refine hK.out _ _ (⟨⟨z0, z1⟩, fun _ => z2⟩) (fun _ => ?_);clear hK K b6 o6 hbk6 hrk6
     try simp only [Act.put, List.setIfInBounds_toArray, List.set_cons_zero, List.set_cons_succ]
     refine zd false 10 (⟨⟨z0, z1⟩, fun _ => z2⟩) ?_;refine zt false 11 fun K hK => ?_;refine zi rfl ?_;go_wp2_with fail;refine hK.out _ _ (⟨⟨za (zD HRK6.out _) 0, za (zD HRK6.out _) 1⟩, fun _ => z3 _⟩) (fun _ => ?_);clear hK K
     try simp only [Act.put, List.setIfInBounds_toArray, List.set_cons_zero, List.set_cons_succ]
     refine zt false 12 fun K hK => ?_;apply zeN zcw
     case hgd => rfl
     case ho => rfl
     case hown => exact zB (zh HOW3.out HB6.out) _
     case hs => rfl
     case hr => exact zdk Tryz.underlying126 (zg0 _ _ _ _) (zke _ _ _ _)
     case hx => rfl
     case h63 => unfold maxLen; omega
     case hbytes => omega
     case hbase => (have := HB6.out.size; simp; (try (show _ ≤ w3.heap.size + 1; omega)); omega)
     intro v7 w7 o7 g7 n7;have hbk7 := zo (zD HBK6.out _) g7 (fun e => by have := (zl HRA.out.own w.heap.size e.symm).1; omega);have hrk7 := zo (zD HRK6.out _) g7 (fun e => by have := (zl HRA.out.own wr.heap.size e.symm).2; omega);have y0 : w7.cell? ⟨wr.heap.size, 0, none⟩ = some (.slice xa g.cols xc) := za hrk7 0;have y1 : w7.cell? ⟨wr.heap.size, 1, none⟩ = some (.bool xr.wrap) := za hrk7 1;have y2 : w7.cell? ⟨w.heap.size, 3, none⟩ = some (.slice va L.length vc) := za hbk7 3;have y3 : w7.frozen? ⟨w.heap.size, 3, none⟩ = false := zy hbk7 3;obtain ⟨va7, vc7, rfl⟩ := zQ o7;have HBK7 := Lib.hid hbk7;have HO7 := Lib.hid o7;have HG7 := Lib.hid g7;have HN7 := Lib.hid n7;have HRK7 := Lib.hid hrk7;refine hK.out _ _ (⟨⟨y0, y1⟩, fun _ => y2⟩) (fun _ => ?_);clear hK K hbk7 hrk7 o7 g7 n7
     try simp only [Act.put, List.setIfInBounds_toArray, List.set_cons_zero, List.set_cons_succ]
     refine zd false 13 (⟨⟨y0, y1⟩, fun _ => y2⟩) ?_;refine zd false 14 (⟨⟨y0, y1⟩, fun _ => y2⟩) ?_;refine zt true 15 fun K hK => ?_;refine zi rfl ?_;go_wp2_with fail;refine hK.out _ _ (⟨⟨za (zbg HRK7.out hne.symm _ _) 0, za (zbg HRK7.out hne.symm _ _) 1⟩, fun e => by cases e⟩) (fun _ => ?_);clear hK K
     try simp only [Act.put]
     refine Zh (by kernel_rfl) ?_ _;have hs6 := HB6.out.size;have HB26 := Lib.hid (show Below wr.heap.size wr (w6.alloc (.cells #[.slice va6 xr.cells.length vc6, .bool xr.wrap] 130)) from
      ((HB3.out.drew.trans (HB6.out.mono (by omega))).alloc (by omega) _))
     obtain ⟨qb, hqb⟩ : ∃ q, (Value.slice va6 xr.cells.length vc6).ownBlock = some q := by
      obtain ⟨b, off, c, e, _, _⟩ := zF HO6.out (by rw [HLc.out]; omega);exact ⟨b, by rw [e]; rfl⟩
     have HRA7 := Lib.hid (HRA.out.snoc (xr := xr) HB26.out (zM (zB HO6.out _) (by omega)) hqb HO7.out HG7.out HN7.out hW0s);have HGB7 := Lib.hid (show W1.grownBy w7 (some w.heap.size) from zcz (zfv HGB.out HB26.out hW0s) HG7.out (fun q hq => (zl HRA.out.own q hq).1));have hqW : w.heap.size < W1.heap.size := zj HNB1.out;have HRA8 := Lib.hid (HRA7.out.grown (zO (zr w7 (some w.heap.size)) 3 (.slice va7 (L.length + 1) vc7)) (fun k' hk' => by injection hk' with hk'; omega));have HGB8 := Lib.hid (zO HGB7.out 3 (.slice va7 (L.length + 1) vc7));have HBK8 := Lib.hid (zw HBK7.out 3 (.slice va7 (L.length + 1) vc7));clear y0 y1 y2 y3 z0 z1 z2 z3 s0 s1 s2;generalize w7.setCell ⟨w.heap.size, 3, none⟩ (.slice va7 (L.length + 1) vc7) = w8 at *;go_wp2_with fail;go_roundw
     case rel => exact ⟨k + 1, L ++ [(.slice va6 xr.cells.length vc6, xr)], .slice va7 (L.length + 1) vc7, by omega, by go_num, by show _ = _; rw [List.length_append, HL.out]; rfl, HGB8, HRA8, HBK8, by show _ = _; rw [List.map_append, HMP.out, HTK.out]; rfl⟩
     case measure => simp [intOf]; omega
    ·have hkn : k = Lo.length := (by omega);subst hkn;have d1 : decide ((Lo.length : Int) < (Lo.length : Int)) = false := decide_eq_false (by omega);have d1' : decide (Lo.length < Lo.length) = false := decide_eq_false (by omega);have hsW2 := HGB.out.size;have HRN := Lib.hid (HRA1.out.grown HGB.out (fun k' hk' => by injection hk' with hk'; omega));have hfin : ∃ T', GM T' w.heap.size wr g ∧ ∀ k, T' k ≠ 0 → own (fun k => if k = w.heap.size then 1 else 0) W0 k := by
      have b1 : ∀ k, (Value.slice na Ln.length nc).ownBlock = some k → W0.heap.size ≤ k ∧ k < W1.heap.size := fun k hk => zl HRA1.out.own k hk;have b2 : ∀ k, v.ownBlock = some k → W1.heap.size ≤ k := fun k hk => (zl HRA.out.own k hk).1;have b3 : ∀ x ∈ Ln, ∀ k, x.1.ownBlock = some k → W0.heap.size ≤ k ∧ k < W1.heap.size := fun x hx k hk => zl (HRA1.out.cells x hx) k hk;have b4 : ∀ x ∈ L, ∀ k, x.1.ownBlock = some k → W1.heap.size ≤ k := fun x hx k hk => (zl (HRA.out.cells x hx) k hk).1;refine zeT (vr := .slice na Ln.length nc) (vo := v) (Lr := Ln) (Lo := L) (fun k hk => ?_) (if_pos rfl) (by omega) HBK.out (zM HRN.out.own (Nat.zero_le _)) (zM HRA.out.own (Nat.zero_le _)) (fun k hk => .inr ⟨(b1 k hk).1, fun e => ?_⟩) (fun k hk => .inr ?_) (fun x hx => ?_) ?_ ?_ ?_ HG.out.wf
      ·by_cases hkq : k = w.heap.size
       ·omega
       ·exact absurd (if_neg hkq) hk
      ·have := b1 k hk; have := b2 k e; omega
      ·have := b2 k hk; omega
      ·rcases List.mem_append.1 hx with hx | hx
       ·obtain ⟨q, e1, e2⟩ := HRN.out.ap x hx;refine ⟨zM (HRN.out.cells x hx) (Nat.zero_le _), q, e1, .inr ⟨(b3 x hx q e1).1, fun e => ?_, e2⟩⟩;have := b3 x hx q e1; have := b2 q e; omega
       ·obtain ⟨q, e1, e2⟩ := HRA.out.ap x hx;have hq4 := b4 x hx q e1;refine ⟨zM (HRA.out.cells x hx) (Nat.zero_le _), q, e1, .inr ⟨by omega, e2, fun e => ?_⟩⟩;have := b1 q e; omega
      ·rw [List.map_append, List.nodup_append];refine ⟨HRN.out.nd, HRA.out.nd, fun a ha c hc e => ?_⟩;obtain ⟨x, hx, rfl⟩ := List.mem_map.1 ha;obtain ⟨y, hy, rfl⟩ := List.mem_map.1 hc;obtain ⟨q, e1, _⟩ := HRA1.out.ap x hx;have := b3 x hx q e1;have := b4 y hy q (by rw [← e]; exact e1);omega
      ·have := HMP1.out;rw [← List.length_map (f := (·.2)), List.take_length] at this;rw [this]; exact HG.out.er
      ·have := HMP.out;rw [← List.length_map (f := (·.2)), List.take_length] at this;rw [this]; exact HG.out.eo
     have HF := Lib.hid hfin;have HBB := Lib.hid (show Below w.heap.size w wr from (HBW0.out.grown HGB1.out (by omega) (by intro k' hk'; injection hk' with hk'; omega)).grown HGB.out (by omega) (by intro k' hk'; injection hk' with hk'; omega));clear hfin;go_wp2_with fail;obtain ⟨T', f1, f2⟩ := HF.out;refine zT rfl rfl rfl ⟨w.heap.size, rfl, HBB.out, T', f1, fun k hk => ?_⟩;rcases f2 k hk with h | h
     ·by_cases hkq : k = w.heap.size
      ·omega
      ·exact absurd (if_neg hkq) h
     ·omega
end
section
open Go.RowKit
attribute [local go_sem ↓] Go.wp_at_zero Go.wp_at_succ
def Dim (g : Gr) (c r l : Nat) : Prop := g.cols = c ∧ g.rows.length = r ∧ g.limit = l
theorem Dim.up {g : Gr} {c r l : Nat} (h : Dim g c r l) (t b n : Int) (s : Sty) (k : Bool) : Dim (g.up t b n s k) c r l := by
 unfold Gr.up;split
 ·exact h
 ·rename_i h0;refine ⟨h.1, ?_, h.2.2⟩;have hr : zK g t b n s ≠ 0 := h0;unfold zK at hr;by_cases hc : t < 0 ∨ b < t ∨ (g.rows.length : Int) ≤ b ∨ okS s = false
  ·rw [if_pos hc] at hr; exact absurd rfl hr
  ·rw [if_neg hc] at hr;have hn : zK g t b n s = (max 0 (min n (b - t + 1))).toNat := (by unfold zK; rw [if_neg hc]);show (zaQ g.rows t.toNat b.toNat (zK g t b n s) g.cols s).length = r;rw [zjk (by omega) (by omega) (by rw [hn]; omega)];exact h.2.1
theorem Dim.down {g : Gr} {c r l : Nat} (h : Dim g c r l) (t b n : Int) (s : Sty) : Dim (g.down t b n s) c r l := by
 unfold Gr.down;split
 ·exact h
 ·rename_i h0;refine ⟨h.1, ?_, h.2.2⟩;have hr : zK g t b n s ≠ 0 := h0;unfold zK at hr;by_cases hc : t < 0 ∨ b < t ∨ (g.rows.length : Int) ≤ b ∨ okS s = false
  ·rw [if_pos hc] at hr; exact absurd rfl hr
  ·rw [if_neg hc] at hr;have hn : zK g t b n s = (max 0 (min n (b - t + 1))).toNat := (by unfold zK; rw [if_neg hc]);show (zak g.rows t.toNat b.toNat (zK g t b n s) g.cols s).length = r;rw [zfQ (by omega) (by omega) (by rw [hn]; omega)];exact h.2.1
theorem Dim.put {g : Gr} {c r l : Nat} (h : Dim g c r l) (x y : Int) (q : Cel) : Dim (g.put x y q) c r l := by
 unfold Gr.put;split
 ·refine ⟨h.1, ?_, h.2.2⟩;unfold Gr.turn;show (g.rows.set _ _).length = r;rw [List.length_set]; exact h.2.1
 ·exact h
theorem Dim.setWrap {g : Gr} {c r l : Nat} (h : Dim g c r l) (y : Int) (is : Bool) : Dim (g.setWrap y is) c r l := by
 unfold Gr.setWrap;split
 ·refine ⟨h.1, ?_, h.2.2⟩;show (g.rows.set _ _).length = r;rw [List.length_set]; exact h.2.1
 ·exact h
theorem Dim.new (c r l : Nat) : Dim (ZY c r l) c r l := ⟨rfl, by show (ZR r c plainS).length = r; unfold ZR; rw [List.length_replicate], rfl⟩
end
section
open Go.RowKit
def zdI (g : Gr) (x n : Int) : Nat := (min n ((g.cols : Int) - x)).toNat
def Gr.rowOp (g : Gr) (f : List Cel → Nat → Nat → Sty → List Cel) (x y n : Int) (s : Sty) : Gr :=
 if g.onIt x y s = true ∧ 0 < n then g.turn y.toNat (fun l => f l x.toNat (zdI g x n) s) else g
def Gr.erase (g : Gr) (x y n : Int) (s : Sty) : Gr := g.rowOp zcM x y n s
def Gr.ins (g : Gr) (x y n : Int) (s : Sty) : Gr := g.rowOp zfR x y n s
def Gr.del (g : Gr) (x y n : Int) (s : Sty) : Gr := g.rowOp zfS x y n s
theorem zlD {l : List Cel} {x n : Nat} {s : Sty} (h : ∀ c ∈ l, c.Ok) : ∀ c ∈ zcM l x n s, c.Ok := ziB (zb5 (zb5 h))
theorem zn6 {l : List Cel} {x n : Nat} {s : Sty} (h : ∀ c ∈ l, c.Ok) : ∀ c ∈ zfR l x n s, c.Ok := fun c hc => by
 have hm := zb5 (x := ((l.length - n : Nat) : Int)) (zb5 (x := (x : Int)) h);unfold zfR at hc;rcases List.mem_append.1 hc with hc | hc
 ·rcases List.mem_append.1 hc with hc | hc
  ·exact hm c (List.mem_of_mem_take hc)
  ·rw [List.eq_of_mem_replicate hc]; exact zdf s
 ·exact hm c (List.mem_of_mem_drop (List.mem_of_mem_take hc))
theorem zn7 {l : List Cel} {x n : Nat} {s : Sty} (h : ∀ c ∈ l, c.Ok) : ∀ c ∈ zfS l x n s, c.Ok := fun c hc => by
 have hm := zb5 (x := ((x + n : Nat) : Int)) (zb5 (x := (x : Int)) h);unfold zfS at hc;rcases List.mem_append.1 hc with hc | hc
 ·rcases List.mem_append.1 hc with hc | hc
  ·exact hm c (List.mem_of_mem_take hc)
  ·exact hm c (List.mem_of_mem_drop hc)
 ·rw [List.eq_of_mem_replicate hc]; exact zdf s
theorem zoJ (l : List Cel) (x n : Nat) (s : Sty) (h : x + n ≤ l.length) :
  zaX (z8 (zC (zC l x) ((l.length - n : Nat) : Int)) (x + n) (((zC (zC l x) ((l.length - n : Nat) : Int)).drop x).take (l.length - x - n))) x n s = zfR l x n s := by
 unfold zfR;have hl : (zC (zC l x) ((l.length - n : Nat) : Int)).length = l.length := (by rw [zW, zW]);generalize zC (zC l x) ((l.length - n : Nat) : Int) = m at *;rw [← hl] at h ⊢;have e0 : ((m.drop x).take (m.length - x - n)).length = m.length - x - n := (by rw [List.length_take, List.length_drop]; omega);unfold zaX z8;rw [List.length_replicate, e0, show x + n + (m.length - x - n) = m.length by omega, List.drop_length, List.append_nil];have e1 : (m.take (x + n)).length = x + n := (by rw [List.length_take]; omega);rw [List.take_append_of_le_length (by omega), List.take_take, Nat.min_eq_left (by omega), List.drop_left' e1, show m.length - n - x = m.length - x - n by omega]
theorem zoK (l : List Cel) (x n : Nat) (s : Sty) (h : x + n ≤ l.length) :
  zaX (z8 (zC (zC l x) ((x + n : Nat) : Int)) x ((zC (zC l x) ((x + n : Nat) : Int)).drop (x + n))) (l.length - n) n s = zfS l x n s := by
 unfold zfS;have hl : (zC (zC l x) ((x + n : Nat) : Int)).length = l.length := (by rw [zW, zW]);generalize zC (zC l x) ((x + n : Nat) : Int) = m at *;rw [← hl] at h ⊢;have e0 : (m.drop (x + n)).length = m.length - (x + n) := List.length_drop;have e1 : (m.take x).length = x := (by rw [List.length_take]; omega);have e2 : (m.take x ++ m.drop (x + n)).length = m.length - n := (by rw [List.length_append, e0, e1]; omega);unfold zaX z8;rw [List.length_replicate, e0, List.take_left' e2, show m.length - n + n = m.length by omega];have e3 : (m.take x ++ m.drop (x + n) ++ m.drop (x + (m.length - (x + n)))).length = m.length := by
  rw [List.length_append, e2, List.length_drop]; omega
 have e4 : (m.take x ++ m.drop (x + n) ++ m.drop (x + (m.length - (x + n)))).drop m.length = [] := List.drop_of_length_le (by rw [e3]; exact Nat.le_refl _);rw [e4, List.append_nil]
theorem zeV {g : Gr} {c r l : Nat} (f : List Cel → Nat → Nat → Sty → List Cel) (x y n : Int) (s : Sty) (h : Dim g c r l) : Dim (g.rowOp f x y n s) c r l := by
 unfold Gr.rowOp;split
 ·refine ⟨h.1, ?_, h.2.2⟩;show (g.rows.set _ _).length = r;rw [List.length_set]; exact h.2.1
 ·exact h
theorem zf9 {g : Gr} {x y : Int} {s : Sty} (h : g.onIt x y s = true) : 0 ≤ y ∧ y < (g.rows.length : Int) ∧ 0 ≤ x ∧ x < (g.cols : Int) ∧ okS s = true := by
 unfold Gr.onIt at h;simp only [Bool.and_eq_true, decide_eq_true_eq] at h;exact ⟨h.1, h.2.1, h.2.2.1, h.2.2.2.1, h.2.2.2.2⟩
end
section
open Go.RowKit
set_option maxRecDepth 100000
def PSt.any1 (s : PSt) (b : UInt8) : Bool × PSt × List VAct :=
 if (b.toNat : Int) = 24 ∨ (b.toNat : Int) = 26 then (true, ({ s with dec := dec0 } : PSt).begun 0, [])
 else if (b.toNat : Int) = 27 then (true, { ({ s with dec := (zaA s.dec).1 } : PSt).begun 1 with ended := s.texts }, (zaA s.dec).2.map za7 ++ s.endActs)
 else if (b.toNat : Int) = 7 ∧ s.state = 4 then (true, s.begun 0, s.endActs)
 else if ((b.toNat : Int) = 127 ∧ s.texts = false) ∨ ((b.toNat : Int) < 32 ∧ s.texts = true) then (true, s, [])
 else if (b.toNat : Int) < 32 then (true, { s with dec := (zaA s.dec).1 }, (zaA s.dec).2.map za7 ++ [zcb b])
 else if 127 < (b.toNat : Int) ∧ s.texts = false then (false, (if s.state = 0 then s else s.begun 0), [])
 else (false, s, [])
theorem zn8 (d : Dec) (h : d.ok) : (zaA d).1.ok := by
 unfold zaA;split
 ·exact h
 ·have k1 := h.h1;have k0 := h.h0;have km := h.m0;exact ⟨by simp, by simp only []; omega, h.m0, h.r0, fun e => absurd rfl e, fun e => absurd rfl e, fun e => absurd rfl e, fun e => absurd rfl e⟩
theorem zjE {G : Nat → Prop} {u : Bool} {T : Nat → Nat} {p o d : Nat} {vi vp vt vo : Value} {w : World} {s : PSt} {L : List (VAct × Value)} (hA : zaY G T w) (hC : zbU u T p d (zaF o) vi vp vt w s) (hT : zc1 G T o vo w L) :
  ze G w ((w.setCell ⟨p, 1, none⟩ (.pointer (some ⟨w.heap.size, 0, none⟩))).alloc (.cells dec0.cells 214)) ∧
   zam G u (adopt T w.heap.size (w.heap.size + 1) 2) p o ((w.setCell ⟨p, 1, none⟩ (.pointer (some ⟨w.heap.size, 0, none⟩))).alloc (.cells dec0.cells 214)) { s with dec := dec0 } (L.map (·.1)) := by
 have hsz : ((w.setCell ⟨p, 1, none⟩ (.pointer (some ⟨w.heap.size, 0, none⟩))).alloc (.cells dec0.cells 214)).heap.size = w.heap.size + 1 := (by simp);have g := zcc (zO (zr w (some p)) 1 (.pointer (some ⟨w.heap.size, 0, none⟩))) (.cells dec0.cells 214);have m : Mod T (fun x => x = 1) w _ := Mod.of_gb g (fun k hk => by injection hk with hk; subst hk; exact hC.tp);have ad : ∀ k, k < w.heap.size → adopt T w.heap.size (w.heap.size + 1) 2 k = T k := fun k hk => zdw hk;have hA' := hA.adopt m.size 2;rw [hsz] at hA';have hb := zD (zw hC.blk 1 (.pointer (some ⟨w.heap.size, 0, none⟩))) (.cells dec0.cells 214);have hd : zbX ((w.setCell ⟨p, 1, none⟩ (.pointer (some ⟨w.heap.size, 0, none⟩))).alloc (.cells dec0.cells 214)) w.heap.size dec0 := by
  have := heap_alloc_new (w.setCell ⟨p, 1, none⟩ (.pointer (some ⟨w.heap.size, 0, none⟩))) (.cells dec0.cells 214);rw [show (w.setCell ⟨p, 1, none⟩ (.pointer (some ⟨w.heap.size, 0, none⟩))).heap.size = w.heap.size by simp] at this;exact this
 refine ⟨m.within hA (by decide), w.heap.size, vi, vp, vt, vo, L, rfl, hA', ⟨hb, hd, zg8, ?_, fun hu => ?_, ?_, ?_, ?_⟩, (hT.retag ad).mod (m.retag ad) (by decide) (by decide) (by decide)⟩
 ·exact (hC.ri.retag fun k hk ht => (ad k hk).trans ht).mod (m.retag ad) (by decide)
 ·exact ((hC.rp hu).retag fun k hk ht => (ad k hk).trans ht).mod (m.retag ad) (by decide)
 ·exact (hC.rt.retag fun k hk ht => (ad k hk).trans ht).mod (m.retag ad) (by decide)
 ·exact (ad p (zj hC.blk)).trans hC.tp
 ·exact zdx (Nat.le_refl _) (by omega)
theorem zoL {G : Nat → Prop} {u : Bool} {T : Nat → Nat} {p o : Nat} {w : World} {s : PSt} {acts : List VAct} (h : zam G u T p o w s acts) : w.cell? ⟨p, 8, none⟩ = some (.bool s.ended) ∧ ∀ i, w.frozen? ⟨p, i, none⟩ = false := by
 obtain ⟨d, vi, vp, vt, vo, L, hL, hA, hC, hT⟩ := h;exact ⟨zR hC 8, zy hC.blk⟩
set_option maxRecDepth 100000 in
set_option maxHeartbeats 4000000 in
theorem zhA {G : Nat → Prop} {T : Nat → Nat} {p o : Nat} {w : World} {s : PSt} {acts : List VAct} (b : UInt8) (h : zam G true T p o w s acts) (hn : acts.length + 10 ≤ 1000000000) :
  Calls Tryz.prog 106 #[.pointer (some ⟨p, 0, none⟩), .int .u8 (b.toNat : Int)] w fun e w' => e = .returned (.bool (s.any1 b).1) ∧ ze G w w' ∧ zhr G true p o w' (s.any1 b).2.1 (acts ++ (s.any1 b).2.2) := by
 have H := Lib.hid h;have HE := Lib.hid (show s.any1 b = if (b.toNat : Int) = 24 ∨ (b.toNat : Int) = 26 then (true, ({ s with dec := dec0 } : PSt).begun 0, [])
  else if (b.toNat : Int) = 27 then (true, { ({ s with dec := (zaA s.dec).1 } : PSt).begun 1 with ended := s.texts }, (zaA s.dec).2.map za7 ++ s.endActs)
  else if (b.toNat : Int) = 7 ∧ s.state = 4 then (true, s.begun 0, s.endActs)
  else if ((b.toNat : Int) = 127 ∧ s.texts = false) ∨ ((b.toNat : Int) < 32 ∧ s.texts = true) then (true, s, [])
  else if (b.toNat : Int) < 32 then (true, { s with dec := (zaA s.dec).1 }, (zaA s.dec).2.map za7 ++ [zcb b])
  else if 127 < (b.toNat : Int) ∧ s.texts = false then (false, (if s.state = 0 then s else s.begun 0), [])
  else (false, s, []) from rfl)
 obtain ⟨d, vi, vp, vt, vo, L, hL, hA, hC, hT⟩ := h;have c0 : w.cell? ⟨p, 0, none⟩ = some (.int .i64 s.state) := zR hC 0;have c1 : w.cell? ⟨p, 1, none⟩ = some (.pointer (some ⟨d, 0, none⟩)) := zR hC 1;have fz := zy hC.blk;have hpl := zj hC.blk;have hb1 := zD hC.blk (.cells dec0.cells 214);have a1 : (w.alloc (.cells dec0.cells 214)).cell? ⟨p, 1, none⟩ = some (.pointer (some ⟨d, 0, none⟩)) := za hb1 1;have afz : ∀ i, (w.alloc (.cells dec0.cells 214)).frozen? ⟨p, i, none⟩ = false := zy hb1;have HTX := Lib.hid (zls p d s (zaF o) vi vp vt w hC.blk);have HND := Lib.hid (zjE hA hC hT);rw [hL] at HND;have HL := Lib.hid hL;have hac : acts.length = L.length := (by rw [← hL, List.length_map]);have HED := Lib.hid (zjQ d s.dec w hC.dec);have HOK := Lib.hid (zn8 s.dec hC.dok);have hel := zeq s.dec;generalize adopt T w.heap.size (w.heap.size + 1) 2 = TN at *;generalize zaA s.dec = D at *;obtain ⟨D, l⟩ := D;dsimp only at HE HED HOK hel;have HC := Lib.hid hC;have HA := Lib.hid hA;have HT := Lib.hid hT;clear hA hC hT hL hb1;by_cases hc : (b.toNat : Int) = 24 ∨ (b.toNat : Int) = 26
 ·rw [if_pos hc] at HE;rcases hc with hc | hc
  ·have hc' : ((b.toNat : Int) == 24) = true := beq_iff_eq.2 hc;clear hc;go_enter Tryz.func106, Tryz.ntmps106;go_wp2_with fail;refine HTX.out.mono ?_;rintro e w2 ⟨rfl, hw⟩;rw [hw];clear hw;go_wp2_with fail;refine (zcC _).mono ?_;rintro e w2 ⟨rfl, rfl⟩;go_wp2_with fail;refine (z9 0 HND.out.2).mono ?_;rintro e w3 ⟨rfl, hw3, hi3⟩;have HW3 := Lib.hid (HND.out.1.trans hw3);have HI3 := Lib.hid hi3;clear hw3 hi3;go_wp2_with fail;go_ret;rw [HE.out, List.append_nil];exact ⟨rfl, HW3.out, TN, HI3.out⟩
  ·have hc0 : ((b.toNat : Int) == 24) = false := (by rw [beq_eq_false_iff_ne]; omega);have hc' : ((b.toNat : Int) == 26) = true := beq_iff_eq.2 hc;clear hc;go_enter Tryz.func106, Tryz.ntmps106;go_wp2_with fail;refine HTX.out.mono ?_;rintro e w2 ⟨rfl, hw⟩;rw [hw];clear hw;go_wp2_with fail;refine (zcC _).mono ?_;rintro e w2 ⟨rfl, rfl⟩;go_wp2_with fail;refine (z9 0 HND.out.2).mono ?_;rintro e w3 ⟨rfl, hw3, hi3⟩;have HW3 := Lib.hid (HND.out.1.trans hw3);have HI3 := Lib.hid hi3;clear hw3 hi3;go_wp2_with fail;go_ret;rw [HE.out, List.append_nil];exact ⟨rfl, HW3.out, TN, HI3.out⟩
 clear a1 afz HND;rw [if_neg hc] at HE;have hc0 : ((b.toNat : Int) == 24) = false := (by rw [beq_eq_false_iff_ne]; omega);have hc1 : ((b.toNat : Int) == 26) = false := (by rw [beq_eq_false_iff_ne]; omega);by_cases h27 : (b.toNat : Int) = 27
 ·rw [if_pos h27] at HE;have h27' : ((b.toNat : Int) == 27) = true := beq_iff_eq.2 h27;clear hc h27;go_enter Tryz.func106, Tryz.ntmps106;go_wp2_with fail;refine HTX.out.mono ?_;rintro e w2 ⟨rfl, hw⟩;rw [hw];clear hw;go_wp2_with fail;refine HED.out.mono ?_;rintro e w2 ⟨v, rfl, o2, g2, d2⟩;obtain ⟨hw2, hi2, hr2⟩ := zfk HA.out HC.out HT.out g2 d2 HOK.out o2;have HW2 := Lib.hid hw2;have HI2 := Lib.hid hi2;have HR2 := Lib.hid hr2;clear o2 g2 d2 hw2 hi2 hr2;go_wp2_with fail;refine (zbx v l HI2.out HR2.out (by rw [List.length_map]; omega)).mono ?_;rintro e w3 ⟨rfl, hw3, T3, hi3⟩;have HW3 := Lib.hid (HW2.out.trans hw3);have HI3 := Lib.hid hi3;clear hw3 hi3;go_wp2_with fail;refine (ziq HI3.out (by rw [List.length_append, List.length_map, List.length_map]; omega)).mono ?_;rintro e w4 ⟨rfl, hw4, T4, hi4⟩;have HW4 := Lib.hid (HW3.out.trans hw4);have HI4 := Lib.hid hi4;clear hw4 hi4;go_wp2_with fail;refine (z9 1 HI4.out).mono ?_;rintro e w5 ⟨rfl, hw5, hi5⟩;have HW5 := Lib.hid (HW4.out.trans hw5);have HI5 := Lib.hid hi5;have k8 := zoL hi5;clear hw5 hi5;obtain ⟨k8, kfz⟩ := k8;have HI6 := Lib.hid (HI5.out.set 8 (.bool s.texts) { ({ s with dec := D } : PSt).begun 1 with ended := s.texts } (fun _ _ _ _ _ => rfl) rfl rfl rfl rfl);have HW6 := Lib.hid (HW5.out.trans (zcU HI5.out.inG w5 8 (.bool s.texts)));go_wp2_with fail;go_ret;rw [HE.out];refine ⟨rfl, HW6.out, T4, ?_⟩;have := HI6.out;rw [HL.out, List.append_assoc] at this;exact this
 rw [if_neg h27] at HE;have h27' : ((b.toNat : Int) == 27) = false := beq_eq_false_iff_ne.2 h27;clear hc h27;by_cases h7 : (b.toNat : Int) = 7 ∧ s.state = 4
 ·rw [if_pos h7] at HE;have h7' : ((b.toNat : Int) == 7) = true := beq_iff_eq.2 h7.1;have h4' : (s.state == 4) = true := beq_iff_eq.2 h7.2;clear h7;go_enter Tryz.func106, Tryz.ntmps106;go_wp2_with fail;refine HTX.out.mono ?_;rintro e w2 ⟨rfl, hw⟩;rw [hw];clear hw;go_wp2_with fail;refine (ziq H.out (by omega)).mono ?_;rintro e w4 ⟨rfl, hw4, T4, hi4⟩;have HW4 := Lib.hid hw4;have HI4 := Lib.hid hi4;clear hw4 hi4;go_wp2_with fail;refine (z9 0 HI4.out).mono ?_;rintro e w5 ⟨rfl, hw5, hi5⟩;have HW5 := Lib.hid (HW4.out.trans hw5);have HI5 := Lib.hid hi5;clear hw5 hi5;go_wp2_with fail;go_ret;rw [HE.out];exact ⟨rfl, HW5.out, T4, HI5.out⟩
 rw [if_neg h7] at HE;have h7s : ((b.toNat : Int) == 7) = false ∨ (((b.toNat : Int) == 7) = true ∧ (s.state == 4) = false) := by
  by_cases h : (b.toNat : Int) = 7
  ·exact .inr ⟨beq_iff_eq.2 h, beq_eq_false_iff_ne.2 (fun h' => h7 ⟨h, h'⟩)⟩
  ·exact .inl (beq_eq_false_iff_ne.2 h)
 clear h7;cases htx : s.texts
 ·rw [htx] at HE HTX;by_cases h127 : (b.toNat : Int) = 127
  ·rw [if_pos (.inl ⟨h127, rfl⟩)] at HE;have h127' : ((b.toNat : Int) == 127) = true := beq_iff_eq.2 h127;have h7' : ((b.toNat : Int) == 7) = false := (by rw [beq_eq_false_iff_ne]; omega);clear h127 h7s;go_enter Tryz.func106, Tryz.ntmps106;go_wp2_with fail;refine HTX.out.mono ?_;rintro e w2 ⟨rfl, hw⟩;rw [hw];clear hw;go_wp2_with fail;go_ret;rw [HE.out, List.append_nil];exact ⟨rfl, ze.refl _ _, T, H.out⟩
  have h127' : ((b.toNat : Int) == 127) = false := beq_eq_false_iff_ne.2 h127;rw [if_neg (fun h => by rcases h with ⟨h, _⟩ | ⟨_, h⟩; exact h127 h; simp at h)] at HE;by_cases h32 : (b.toNat : Int) < 32
  ·rw [if_pos h32] at HE;have h32' : decide ((b.toNat : Int) < 32) = true := decide_eq_true h32;clear h127 h32;rcases h7s with h7' | ⟨h7', h4'⟩
   ·skip
    go_enter Tryz.func106, Tryz.ntmps106;go_wp2_with fail;refine HTX.out.mono ?_;rintro e w2 ⟨rfl, hw⟩;rw [hw];clear hw;go_wp2_with fail;refine HED.out.mono ?_;rintro e w2 ⟨v, rfl, o2, g2, d2⟩;obtain ⟨hw2, hi2, hr2⟩ := zfk HA.out HC.out HT.out g2 d2 HOK.out o2;have HW2 := Lib.hid hw2;have HI2 := Lib.hid hi2;have HR2 := Lib.hid hr2;clear o2 g2 d2 hw2 hi2 hr2;go_wp2_with fail;refine (zbx v l HI2.out HR2.out (by rw [List.length_map]; omega)).mono ?_;rintro e w3 ⟨rfl, hw3, T3, hi3⟩;have HW3 := Lib.hid (HW2.out.trans hw3);have HI3 := Lib.hid hi3;clear hw3 hi3;have k2 := zhs HI3.out;go_wp2_with fail;refine (zbQ (zcb b) rfl HI3.out (by rw [List.length_append, List.length_map, List.length_map]; omega)).mono ?_;rintro e w4 ⟨rfl, hw4, m4, T4, ht4, hi4⟩;have HW4 := Lib.hid (HW3.out.trans hw4);have HI4 := Lib.hid hi4;clear hw4 hi4 m4 ht4;go_wp2_with fail;go_ret;rw [HE.out];refine ⟨rfl, HW4.out, T4, ?_⟩;have := HI4.out;rw [HL.out, List.append_assoc] at this;exact this
   ·skip
    go_enter Tryz.func106, Tryz.ntmps106;go_wp2_with fail;refine HTX.out.mono ?_;rintro e w2 ⟨rfl, hw⟩;rw [hw];clear hw;go_wp2_with fail;refine HED.out.mono ?_;rintro e w2 ⟨v, rfl, o2, g2, d2⟩;obtain ⟨hw2, hi2, hr2⟩ := zfk HA.out HC.out HT.out g2 d2 HOK.out o2;have HW2 := Lib.hid hw2;have HI2 := Lib.hid hi2;have HR2 := Lib.hid hr2;clear o2 g2 d2 hw2 hi2 hr2;go_wp2_with fail;refine (zbx v l HI2.out HR2.out (by rw [List.length_map]; omega)).mono ?_;rintro e w3 ⟨rfl, hw3, T3, hi3⟩;have HW3 := Lib.hid (HW2.out.trans hw3);have HI3 := Lib.hid hi3;clear hw3 hi3;have k2 := zhs HI3.out;go_wp2_with fail;refine (zbQ (zcb b) rfl HI3.out (by rw [List.length_append, List.length_map, List.length_map]; omega)).mono ?_;rintro e w4 ⟨rfl, hw4, m4, T4, ht4, hi4⟩;have HW4 := Lib.hid (HW3.out.trans hw4);have HI4 := Lib.hid hi4;clear hw4 hi4 m4 ht4;go_wp2_with fail;go_ret;rw [HE.out];refine ⟨rfl, HW4.out, T4, ?_⟩;have := HI4.out;rw [HL.out, List.append_assoc] at this;exact this
  rw [if_neg h32] at HE;have h32' : decide ((b.toNat : Int) < 32) = false := decide_eq_false h32;have h7' : ((b.toNat : Int) == 7) = false := (by rw [beq_eq_false_iff_ne]; omega);clear h7s;by_cases hgt : 127 < (b.toNat : Int)
  ·rw [if_pos ⟨hgt, rfl⟩] at HE;have hgt' : decide (127 < (b.toNat : Int)) = true := decide_eq_true hgt;clear h127 h32 hgt;by_cases h0 : s.state = 0
   ·rw [if_pos h0] at HE;have h0' : (s.state != 0) = false := (by rw [h0]; rfl);clear h0;go_enter Tryz.func106, Tryz.ntmps106;go_wp2_with fail;refine HTX.out.mono ?_;rintro e w2 ⟨rfl, hw⟩;rw [hw];clear hw;go_wp2_with fail;refine zT rfl rfl rfl ?_;rw [HE.out, List.append_nil];exact ⟨rfl, ze.refl _ _, T, H.out⟩
   ·rw [if_neg h0] at HE;have h0' : (s.state != 0) = true := (by simpa using h0);clear h0;go_enter Tryz.func106, Tryz.ntmps106;go_wp2_with fail;refine HTX.out.mono ?_;rintro e w2 ⟨rfl, hw⟩;rw [hw];clear hw;go_wp2_with fail;refine (z9 0 H.out).mono ?_;rintro e w5 ⟨rfl, hw5, hi5⟩;have HW5 := Lib.hid hw5;have HI5 := Lib.hid hi5;clear hw5 hi5;go_wp2_with fail;refine zT rfl rfl rfl ?_;rw [HE.out, List.append_nil];exact ⟨rfl, HW5.out, T, HI5.out⟩
  ·rw [if_neg (fun h => hgt h.1)] at HE;have hgt' : decide (127 < (b.toNat : Int)) = false := decide_eq_false hgt;clear h127 h32 hgt;go_enter Tryz.func106, Tryz.ntmps106;go_wp2_with fail;refine HTX.out.mono ?_;rintro e w2 ⟨rfl, hw⟩;rw [hw];clear hw;go_wp2_with fail;refine zT rfl rfl rfl ?_;rw [HE.out, List.append_nil];exact ⟨rfl, ze.refl _ _, T, H.out⟩
 ·rw [htx] at HE HTX;by_cases h32 : (b.toNat : Int) < 32
  ·rw [if_pos (.inr ⟨h32, rfl⟩)] at HE;have h32' : decide ((b.toNat : Int) < 32) = true := decide_eq_true h32;have h127' : ((b.toNat : Int) == 127) = false := (by rw [beq_eq_false_iff_ne]; omega);clear h32;rcases h7s with h7' | ⟨h7', h4'⟩
   ·skip
    go_enter Tryz.func106, Tryz.ntmps106;go_wp2_with fail;refine HTX.out.mono ?_;rintro e w2 ⟨rfl, hw⟩;rw [hw];clear hw;go_wp2_with fail;go_ret;rw [HE.out, List.append_nil];exact ⟨rfl, ze.refl _ _, T, H.out⟩
   ·skip
    go_enter Tryz.func106, Tryz.ntmps106;go_wp2_with fail;refine HTX.out.mono ?_;rintro e w2 ⟨rfl, hw⟩;rw [hw];clear hw;go_wp2_with fail;go_ret;rw [HE.out, List.append_nil];exact ⟨rfl, ze.refl _ _, T, H.out⟩
  rw [if_neg (fun h => by rcases h with ⟨_, h⟩ | ⟨h, _⟩; simp at h; exact h32 h), if_neg h32, if_neg (fun h => by simp at h)] at HE;have h32' : decide ((b.toNat : Int) < 32) = false := decide_eq_false h32;have h7' : ((b.toNat : Int) == 7) = false := (by rw [beq_eq_false_iff_ne]; omega);clear h7s;generalize hq : ((b.toNat : Int) == 127) = q at *;generalize hq2 : decide (127 < (b.toNat : Int)) = q2 at *;clear h32;cases q <;> cases q2
  all_goals
   go_enter Tryz.func106, Tryz.ntmps106;go_wp2_with fail;refine HTX.out.mono ?_;rintro e w2 ⟨rfl, hw⟩;rw [hw];clear hw;go_wp2_with fail;refine zT rfl rfl rfl ?_;rw [HE.out, List.append_nil];exact ⟨rfl, ze.refl _ _, T, H.out⟩
end
section
open Go.RowKit
def PSt.step (s : PSt) (b : UInt8) : PSt × List VAct :=
 if (s.any1 b).1 then (s.any1 b).2 else ((((s.any1 b).2.1).took b).1, (s.any1 b).2.2 ++ (((s.any1 b).2.1).took b).2)
def PSt.run : PSt → List UInt8 → PSt × List VAct
 | s, [] => (s, [])
 | s, b :: l => (((s.step b).1.run l).1, (s.step b).2 ++ ((s.step b).1.run l).2)
theorem zd3 : ∀ (l m : List UInt8) (s : PSt), s.run (l ++ m) = (((s.run l).1.run m).1, (s.run l).2 ++ ((s.run l).1.run m).2)
 | [], m, s => by simp [PSt.run]
 | b :: l, m, s => by
  rw [List.cons_append];simp only [PSt.run];rw [zd3 l m];simp
theorem znc (l : List UInt8) (b : UInt8) (s : PSt) : s.run (l ++ [b]) = (((s.run l).1.step b).1, (s.run l).2 ++ ((s.run l).1.step b).2) := by
 rw [zd3];simp [PSt.run]
def s0 : PSt := ⟨0, dec0, [], [], false, [], 0, false, 0⟩
theorem zkf : s0.Fine := ⟨by decide, fun h => by simp [s0] at h, by decide, fun x hx => by simp [s0] at hx, by decide, by decide, fun _ => by decide⟩
theorem Z7 {s : PSt} {st : Int} (h : 0 ≤ st ∧ st ≤ 7) : (s.begun st).Fine :=
 ⟨by simp [PSt.begun], fun h => by simp [PSt.begun] at h, by simp [PSt.begun], fun x hx => by simp [PSt.begun] at hx, by simp [PSt.begun], h, fun _ => by simp [PSt.begun]⟩
theorem zfc (s : PSt) : s.passed.Fine := Z7 (by decide)
theorem zeW {s : PSt} (b : UInt8) (h : s.Fine) : (s.any1 b).2.1.Fine := by
 unfold PSt.any1
 repeat' split
 ·exact Z7 (by decide)
 ·have := Z7 (s := { s with dec := (zaA s.dec).1 }) (st := 1) (by decide);exact ⟨this.il, this.pne, this.pl, this.pr, this.tl, this.st, this.e1⟩
 ·exact Z7 (by decide)
 ·exact h
 ·exact ⟨h.il, h.pne, h.pl, h.pr, h.tl, h.st, h.e1⟩
 ·exact h
 ·exact Z7 (by decide)
 ·exact h
theorem zjF {s : PSt} (b : UInt8) (h : s.Fine) (h1 : s.state = 1) : (s.esced b).1.Fine := by
 have hi := h.e1 h1;unfold PSt.esced
 repeat' split
 all_goals first | exact zfc s | exact Z7 (by decide) | skip
 have hk : (s.inter ++ [b]).length ≤ 2 := (by rw [List.length_append, List.length_singleton]; omega);exact ⟨by show (s.inter ++ [b]).length ≤ 3; omega, h.pne, h.pl, h.pr, h.tl, h.st, fun _ => hk⟩
theorem zfd (x d : Int) (h : 0 ≤ d) : -1 ≤ zax x d ∧ zax x d ≤ 9999 := by
 unfold zax; omega
theorem zd4 {s : PSt} (d : Int) (h : s.Fine) : (s.digit d).Fine := by
 have hs : s.started.params ≠ [] ∧ s.started.params.length ≤ 33 ∧ (∀ x ∈ s.started.params, -1 ≤ x ∧ x ≤ 9999) ∧ s.started.inter = s.inter ∧ s.started.text = s.text ∧ s.started.state = s.state := by
  unfold PSt.started;cases ha : s.any
  ·exact ⟨by simp, by simp, by simp, rfl, rfl, rfl⟩
  ·exact ⟨h.pne ha, h.pl, h.pr, rfl, rfl, rfl⟩
 obtain ⟨h1, h2, h3, h4, h5, h6⟩ := hs;unfold PSt.digit;split
 ·rename_i hd;refine ⟨by show s.started.inter.length ≤ 3; rw [h4]; exact h.il, fun _ => ?_, ?_, ?_, by show s.started.text.length ≤ 1024; rw [h5]; exact h.tl, by show 0 ≤ s.started.state ∧ s.started.state ≤ 7; rw [h6]; exact h.st, fun e => by have e' : s.started.state = 1 := e; show s.started.inter.length ≤ 2; rw [h4]; exact h.e1 (h6 ▸ e')⟩
  ·show zai s.started.params d ≠ [];intro e;have := congrArg List.length e;simp [zai] at this;exact h1 this
  ·show (zai s.started.params d).length ≤ 33;simp [zai]; exact h2
  ·intro x hx;have hx' : x ∈ zai s.started.params d := hx;unfold zai at hx';rcases List.mem_or_eq_of_mem_set hx' with hm | rfl
   ·exact h3 x hm
   ·exact zfd _ _ hd
 ·split
  ·rename_i h32;refine ⟨by show s.started.inter.length ≤ 3; rw [h4]; exact h.il, fun _ => by simp, ?_, ?_, by show s.started.text.length ≤ 1024; rw [h5]; exact h.tl, by show 0 ≤ s.started.state ∧ s.started.state ≤ 7; rw [h6]; exact h.st, fun e => by have e' : s.started.state = 1 := e; show s.started.inter.length ≤ 2; rw [h4]; exact h.e1 (h6 ▸ e')⟩
   ·show (s.started.params ++ [-1]).length ≤ 33;rw [List.length_append, List.length_singleton]; omega
   ·intro x hx;have hx' : x ∈ s.started.params ++ [-1] := hx;rw [List.mem_append, List.mem_singleton] at hx';rcases hx' with hm | rfl
    ·exact h3 x hm
    ·decide
  ·exact ⟨by rw [h4]; exact h.il, fun _ => h1, h2, h3, by rw [h5]; exact h.tl, by rw [h6]; exact h.st, fun e => by rw [h4]; exact h.e1 (h6 ▸ e)⟩
theorem zn9 {s : PSt} : s.inter.length ≤ s.btw + 1 := by
 unfold PSt.btw; split <;> omega
theorem zg1 {s : PSt} (b : UInt8) (h : s.Fine) (h1 : ¬ s.state = 1) : (s.seqd b).1.Fine := by
 have hi := h.il;have hb := zn9 (s := s);have hap : s.inter.length ≤ 2 → ({ s with inter := s.inter ++ [b] } : PSt).Fine := fun h2 =>
  ⟨by show (s.inter ++ [b]).length ≤ 3; rw [List.length_append, List.length_singleton]; omega, h.pne, h.pl, h.pr, h.tl, h.st, fun e => absurd e h1⟩
 unfold PSt.seqd;split
 ·split
  ·exact Z7 (by decide)
  ·refine ⟨h.il, fun ha => ?_, ?_, ?_, h.tl, ⟨by show (0 : Int) ≤ 6; decide, by show (6 : Int) ≤ 7; decide⟩, fun e => by have e' : (6 : Int) = 1 := e; omega⟩
   ·show s.params.take 32 ≠ [];have := h.pne ha;cases hp : s.params with
    | nil => exact absurd hp this
    | cons x l => simp
   ·show (s.params.take 32).length ≤ 33;rw [List.length_take]; omega
   ·intro x hx;exact h.pr x (List.mem_of_mem_take hx)
 split
 ·exact hap (by omega)
 split
 ·exact zd4 ((b.toNat : Int) - 48) h
 split
 ·exact zd4 (-1) h
 split
 ·exact hap (by omega)
 ·exact zfc s
theorem zlE {s : PSt} (b : UInt8) (h : s.Fine) : (s.took b).1.Fine := by
 unfold PSt.took;split
 ·rename_i h1; exact zjF b h h1
 rename_i h1;split
 ·exact zg1 b h h1
 split
 ·split
  ·by_cases hf : s.frm = 5
   ·rw [if_pos hf]; exact Z7 (by decide)
   ·rw [if_neg hf]; exact Z7 (by decide)
  ·exact h
 split
 ·split
  ·rename_i ht;exact ⟨h.il, h.pne, h.pl, h.pr, by show (s.text ++ [b]).length ≤ 1024; rw [List.length_append, List.length_singleton]; omega, h.st, h.e1⟩
  ·exact h
 split
 ·exact h
 ·exact ⟨h.il, h.pne, h.pl, h.pr, h.tl, h.st, h.e1⟩
theorem zlF {s : PSt} (b : UInt8) (h : s.Fine) : (s.step b).1.Fine := by
 unfold PSt.step;split
 ·exact zeW b h
 ·exact zlE b (zeW b h)
theorem zga : ∀ (l : List UInt8) {s : PSt}, s.Fine → (s.run l).1.Fine
 | [], _, h => h
 | b :: l, _, h => zga l (zlF b h)
theorem zoa {s : PSt} {b : UInt8} (h : (s.any1 b).1 = false) : 32 ≤ (b.toNat : Int) := by
 unfold PSt.any1 at h
 repeat' split at h
 all_goals first | (simp at h; done) | omega | skip
theorem ziF (s : PSt) : s.endActs.length ≤ 1 := by
 unfold PSt.endActs;split
 ·simp
 ·split <;> simp
theorem ziG (s : PSt) (b : UInt8) : (s.any1 b).2.2.length ≤ 2 := by
 have h1 := ziF s;have h2 := zeq s.dec;unfold PSt.any1
 repeat' split
 all_goals simp only [List.length_append, List.length_map, List.length_nil, List.length_singleton] <;> omega
theorem znd (s : PSt) (b : UInt8) : (s.took b).2.length ≤ 2 := by
 have h1 := zdz s.dec (b.toNat : Int);unfold PSt.took PSt.esced PSt.seqd PSt.fed
 repeat' split
 all_goals simp only [List.length_map, List.length_nil, List.length_singleton] <;> omega
theorem zgb (s : PSt) (b : UInt8) : (s.step b).2.length ≤ 4 := by
 have h1 := ziG s b;have h2 := znd (s.any1 b).2.1 b;unfold PSt.step;split
 ·omega
 ·rw [List.length_append]; omega
theorem zkg : ∀ (l : List UInt8) (s : PSt), (s.run l).2.length ≤ 4 * l.length
 | [], s => by simp [PSt.run]
 | b :: l, s => by
  have h1 := zgb s b;have h2 := zkg l (s.step b).1;simp only [PSt.run, List.length_append, List.length_cons];omega
end
end Go.Proofs.YtlfdgkiliegaiaaGreatDoor
