/- Texts laid together: G10 G11 G13 G14 R2. -/
import Derived.Test.YtlfdgkiliegaiaaGreatDoorY1
import Derived.Test.YtlfdgkiliegaiaaGreatDoorY2
import Derived.Test.YtlfdgkiliegaiaaGreatDoorY3
import Derived.Test.YtlfdgkiliegaiaaGreatDoorY5
import Derived.Test.YtlfdgkiliegaiaaGreatDoorY6
import Derived.Test.YtlfdgkiliegaiaaGreatDoorY7
import Derived.Deep.RegionHeld3
import Derived.Test.YtlfdgkiliegaiaaGreatDoorShelf
import Derived.Lib.Builder
import Derived.Lib.FrozenHead
import Derived.Lib.RuneBytes
import Derived.Lib.UnsafeStr
import Derived.Lib.SliceRun
import Derived.WalkSpells
import Derived.StillTailTactics
import Derived.Deep.RegionLaw
import Derived.Deep.DeepCutAuto
import Derived.Test.YtlfdgkiliegaiaaGreatDoorRows
import Derived.Deep.AppendSrc
import Derived.Lib.AppendStr
import Derived.ArgAppend
import Derived.Laws.IdiomCopy
import Derived.Laws.IdiomStrings
import Derived.Deep.Upon
import Derived.WalkKit
import Derived.WalkLawsBesides
import Derived.BigQuiet
import Derived.Lib.Hide
import Derived.Deep.QuietTactic
import Derived.Lib.AppendIntMem
import Derived.Lib.ItoaNum
import Derived.Lib.ItoaLen
import Derived.Laws.Bits64b
set_option linter.unusedVariables false
namespace Go.Proofs.YtlfdgkiliegaiaaGreatDoor
section
open Go.RowKit
set_option maxRecDepth 100000 in
set_option maxHeartbeats 1000000 in
theorem zgc {T : Nat → Nat} {p : Nat} {w : World} {g : Gr} (h : GM T p w g) (top bottom n : Int) (s : Sty) (hs : zaa w s) :
  Calls Tryz.prog 278 #[.pointer (some ⟨p, 0, none⟩), .int .i64 top, .int .i64 bottom, .int .i64 n, s.val] w fun e w' => e = .returned (.int .i64 (zK g top bottom n s)) ∧ Below w.heap.size w w' := by
 have hBz := Below.alloc (Below.refl w.heap.size w) (Nat.le_refl _) (.cells #[.int .i64 s.fg, .int .i64 s.bg, .int .i64 s.attr] 35);have HB := Lib.hid hBz;have h' := h.below hBz;have wf := h.wf;clear h;obtain ⟨vr, vo, Lr, Lo, h⟩ := h';obtain ⟨c0, c1, c2, c3⟩ := zX h;have hl := Za Tryz.underlying126 h.rr.own;rw [(Zf h).1] at hl;clear h;have w1 := wf.r2;clear wf hBz;unfold Sty.val;by_cases h0 : top < 0
 ·have HE := Lib.hid (show zK g top bottom n s = 0 by unfold zK; rw [if_pos (.inl h0)]);have d0 : decide (top < 0) = true := decide_eq_true h0;go_enter Tryz.func278, Tryz.ntmps278;go_wp2_with fail;go_ret;exact ⟨Z9 (by rw [HE.out]; rfl), HB.out⟩
 have d0 : decide (top < 0) = false := decide_eq_false h0;by_cases h1 : bottom < top
 ·have HE := Lib.hid (show zK g top bottom n s = 0 by unfold zK; rw [if_pos (.inr (.inl h1))]);have d1 : decide (bottom < top) = true := decide_eq_true h1;go_enter Tryz.func278, Tryz.ntmps278;go_wp2_with fail;go_ret;exact ⟨Z9 (by rw [HE.out]; rfl), HB.out⟩
 have d1 : decide (bottom < top) = false := decide_eq_false h1;by_cases h2 : (g.rows.length : Int) ≤ bottom
 ·have HE := Lib.hid (show zK g top bottom n s = 0 by unfold zK; rw [if_pos (.inr (.inr (.inl h2)))]);have d2 : decide ((g.rows.length : Int) ≤ bottom) = true := decide_eq_true h2;go_enter Tryz.func278, Tryz.ntmps278;go_wp2_with fail;go_ret;exact ⟨Z9 (by rw [HE.out]; rfl), HB.out⟩
 have d2 : decide ((g.rows.length : Int) ≤ bottom) = false := decide_eq_false h2;have HR := Lib.hid hs;clear hs;cases hok : okS s
 ·have HE := Lib.hid (show zK g top bottom n s = 0 by unfold zK; rw [if_pos (.inr (.inr (.inr hok)))]);go_enter Tryz.func278, Tryz.ntmps278;go_wp2_with fail;refine (HR.out _ HB.out).mono ?_;rintro e w3 ⟨rfl, b3⟩;rw [hok];have HB3 := Lib.hid (HB.out.trans (b3.mono (by simp)));clear b3;go_wp2_with fail;go_ret;exact ⟨Z9 (by rw [HE.out]; rfl), HB3.out⟩
 ·have HE := Lib.hid (show (zK g top bottom n s : Int) = max 0 (min n (bottom - top + 1)) by
   unfold zK;rw [if_neg (by rw [hok]; simp; omega)];omega)
  have hw1 : IntKind.i64.wrap (bottom - top) = bottom - top := zb _ (by omega) (by omega);have hw2 : IntKind.i64.wrap (bottom - top + 1) = bottom - top + 1 := zb _ (by omega) (by omega);go_enter Tryz.func278, Tryz.ntmps278;go_wp2_with fail;refine (HR.out _ HB.out).mono ?_;rintro e w3 ⟨rfl, b3⟩;rw [hok];have HB3 := Lib.hid (HB.out.trans (b3.mono (by simp)));clear b3;go_wp2_with fail;go_ret;exact ⟨Z9 HE.out.symm, HB3.out⟩
set_option maxRecDepth 100000 in
theorem zjG (L : List (Value × Rw)) (a : Addr) (c : Nat) (w : World) (h : zaw w 2 (.slice (some a) L.length c) L.length (zf L)) (h1 : ∀ u ∈ zf L, u.oneCell' = true) (hl : L.length ≤ 100000) :
  Calls Tryz.prog 129 #[.slice (some a) L.length c] w fun e w' => ∃ v', e = .returned v' ∧ Below w.heap.size w w' ∧ zn w' w.heap.size 2 v' L.length (zf L) := by
 have hq := fun (wx : World) => Lib.run_eql_slice_nil (P := Tryz.prog) wx 126 130 (some a) L.length c 0 0 Tryz.underlying126;have HR := Lib.hid h;have H1 := Lib.hid h1;clear h h1;go_enter Tryz.func129, Tryz.ntmps129;go_wp2_with (at_builtin; refine zaz ?_);unfold zay;refine zbW zcw rfl rfl w.heap.size (zeR w 130 2) rfl (zdY HR.out (World.grownBy_alloc w _ none) (by intro _ _ e; simp at e)) rfl H1.out (by unfold maxLen; omega) (by omega) (by simp) ?_;intro v6 w6 o6 g6;rw [Nat.zero_add, List.nil_append] at o6;have HB6 := Lib.hid ((Below.alloc (Below.refl w.heap.size w) (Nat.le_refl _) (.cells #[] 130)).grown g6 (by simp) (by intro q hq; simp [Value.ownBlock] at hq; omega));have HO6 := Lib.hid o6;clear o6 g6;go_wp2_with fail;exact zT rfl rfl rfl ⟨_, rfl, HB6.out, HO6.out⟩
end
section
open Go.RowKit
theorem zg2 {P : Program} {t e : TypeId} {size : Nat} {z : Value} (ht : P.underlying t = some (.slice e)) (hz : ∀ w, (zeroValue e).run P w = .ok z w) (hzs : z.cells.size = size) (hz1 : ∀ u ∈ z.cells.toList, u.oneCell' = true) {w : World} {base b off n c : Nat} {xs : List Value} (h : zn w base size (.slice (some ⟨b, off, none⟩) n c) n xs)
  (x m c1 : Nat) (hm : 0 < m) (hx : x + m ≤ n) (ty : TypeId) :
  ∃ zs : List Value, zs.length = m * size ∧ (Builtin.clear_ #[t] ty #[.slice (some ⟨b, off + x * size, none⟩) m c1]).run P w = .ok (.tuple #[]) (w.setCells b (off + x * size) zs) := by
 obtain ⟨e1, h2⟩ := h;rcases h2 with ⟨e, _⟩ | ⟨b', off', c', e, hb, hbs, hnc, hcm, hcells, hxs⟩
 ·simp at e
 simp only [Value.slice.injEq, Option.some.injEq, Addr.mk.injEq] at e;obtain ⟨⟨rfl, rfl, _⟩, _, rfl⟩ := e;have hzl : (Builtin.zeroCells z.cells m).toList.length = m * size := (by simp [Builtin.zeroCells, hzs]);refine ⟨(Builtin.zeroCells z.cells m).toList, hzl, ?_⟩;have hin : ∀ j, j < (Builtin.zeroCells z.cells m).toList.length → x * size + j < c * size := fun j hj => by
  have a1 : x * size + m * size ≤ c * size := (by rw [← Nat.add_mul]; exact Nat.mul_le_mul_right _ (by omega));omega
 have hone : ∀ u ∈ (Builtin.zeroCells z.cells m).toList, u.oneCell' = true := fun u hu => by
  unfold Builtin.zeroCells at hu;simp only [Array.toList_map, List.mem_map, Array.mem_toList_iff, Array.mem_range] at hu;obtain ⟨i, hi, rfl⟩ := hu;have hpos : 0 < z.cells.size := by
   rcases Nat.eq_zero_or_pos z.cells.size with h0 | h0
   ·rw [h0] at hi; simp at hi
   ·exact h0
  have hlt := Nat.mod_lt i hpos;rw [getElem!_pos z.cells _ hlt];exact hz1 _ (by simp)
 have hst := run_storeCells_cells (P := P) b (off + x * size) (Builtin.zeroCells z.cells m).toList 0 w (fun j hj => by
   have := (hcells _ (hin j hj)).1
   rwa [← Nat.add_assoc] at this) (fun j hj => by
   have := (hcells _ (hin j hj)).2
   rwa [← Nat.add_assoc] at this) hone
 rw [Nat.add_zero] at hst;obtain ⟨m', rfl⟩ : ∃ m', m = m' + 1 := ⟨m - 1, by omega⟩;simp [Builtin.clear_, run_underlying ht, hz, hst]
theorem zgd (w : World) : (zeroValue 130).run Tryz.prog w = .ok (.agg #[.slice none 0 0, .bool false]) w := by kernel_rfl
theorem zge : ∀ u ∈ (Value.agg #[.slice none 0 0, .bool false]).cells.toList, u.oneCell' = true := by
 intro u hu;simp [Value.cells] at hu;rcases hu with rfl | rfl <;> rfl
def za8 {α : Type} (limit : Nat) (l : List α) : List α := l.drop (l.length - limit)
theorem zlG (Lo Lk : List (Value × Rw)) (limit : Nat) (hlim : limit < (Lo ++ Lk).length) (zs : List Value) (_hz : zs.length = ((Lo ++ Lk).length - limit) * 2) :
  (z8 (z8 (zf (Lo ++ Lk)) 0 (zf (za8 limit (Lo ++ Lk)))) (limit * 2) zs).take (limit * 2) = zf (za8 limit (Lo ++ Lk)) := by
 generalize Lo ++ Lk = L at *;have hk : (zf (za8 limit L)).length = limit * 2 := by
  rw [zS]; unfold za8; rw [List.length_drop]; omega
 have hl : (zf L).length = L.length * 2 := zS L;have e1 : z8 (zf L) 0 (zf (za8 limit L)) = zf (za8 limit L) ++ (zf L).drop (limit * 2) := by
  unfold z8;rw [List.take_zero, List.nil_append, Nat.zero_add, hk]
 rw [e1];unfold z8;rw [List.append_assoc, List.take_append_of_le_length (by rw [List.length_take, List.length_append, hk]; omega), List.take_take, Nat.min_self, List.take_append_of_le_length (by omega), List.take_of_length_le (by omega)]
set_option maxRecDepth 100000 in
set_option maxHeartbeats 4000000 in
theorem zne (p cols limit : Nat) (vr vo y : Value) (Lo Lk : List (Value × Rw)) (w : World) (hblk : w.heap[p]? = some (.cells #[.int .i64 cols, .int .i64 limit, vr, vo] 128 (0, 0)))
  (ho : zn w 0 2 vo Lo.length (zf Lo)) (hne : vo.ownBlock ≠ some p) (hy : zaw w 2 y Lk.length (zf Lk)) (h1o : ∀ u ∈ zf Lo, u.oneCell' = true) (h1 : ∀ u ∈ zf Lk, u.oneCell' = true) (hlo : Lo.length ≤ 1000000) (hlk : Lk.length ≤ 1000000) (hlim : limit ≤ 1000000) :
  Calls Tryz.prog 133 #[.pointer (some ⟨p, 0, none⟩), y] w fun e w' => e = .returned (.tuple #[]) ∧ ze (fun k => k = p ∨ vo.ownBlock = some k ∨ w.heap.size ≤ k) w w' ∧ ∃ vo',
   w'.heap[p]? = some (.cells #[.int .i64 cols, .int .i64 limit, vr, vo'] 128 (0, 0)) ∧ zn w' 0 2 vo' (za8 limit (Lo ++ Lk)).length (zf (za8 limit (Lo ++ Lk))) ∧ (∀ k, vo'.ownBlock = some k → vo.ownBlock = some k ∨ w.heap.size ≤ k) := by
 have c0 : w.cell? ⟨p, 0, none⟩ = some (.int .i64 cols) := za hblk 0;have c1 : w.cell? ⟨p, 1, none⟩ = some (.int .i64 limit) := za hblk 1;have c2 : w.cell? ⟨p, 2, none⟩ = some vr := za hblk 2;have c3 : w.cell? ⟨p, 3, none⟩ = some vo := za hblk 3;have hpl := zj hblk;have HK := Lib.hid hblk;have HO := Lib.hid ho;have HY := Lib.hid hy;have H1 := Lib.hid h1;have H1L := Lib.hid (show ∀ u ∈ zf (Lo ++ Lk), u.oneCell' = true from fun u hu => by
  rw [Zq] at hu;rcases List.mem_append.1 hu with hu | hu
  ·exact h1o u hu
  ·exact h1 u hu)
 clear hblk ho hy h1 h1o;go_enter Tryz.func133, Tryz.ntmps133;go_wp2_with (at_builtin; refine zaz ?_);unfold zay;refine zG zcw rfl rfl 0 HO.out rfl HY.out rfl H1.out (by unfold maxLen; omega) (by omega) (Nat.zero_le _) ?_;intro v2 w2 o2 g2 hn2;obtain ⟨va, vc, rfl⟩ := zQ o2;have hbk2 := zo HK.out g2 (fun e => hne e.symm);have d3 : w2.cell? ⟨p, 3, none⟩ = some vo := za hbk2 3;have f3 : w2.frozen? ⟨p, 3, none⟩ = false := zy hbk2 3;have hbk3 := zw hbk2 3 (.slice va (Lo.length + Lk.length) vc);have hps : (Value.slice va (Lo.length + Lk.length) vc).ownBlock ≠ some p := fun e => by
  rcases hn2 p e with e' | e'
  ·exact hne e'
  ·omega
 have g3 : w2.grownBy (w2.setCell ⟨p, 3, none⟩ (.slice va (Lo.length + Lk.length) vc)) (some p) := zO (zr _ _) _ _;rw [← Zq] at o2;have HO3 := Lib.hid (zx o2 g3 (fun k hk e => hps (by rw [hk]; exact e.symm)));have HW3 := Lib.hid (show ze (fun k => k = p ∨ vo.ownBlock = some k ∨ w.heap.size ≤ k) w (w2.setCell ⟨p, 3, none⟩ (.slice va (Lo.length + Lk.length) vc)) from
  (ze.of_gb g2 (fun k hk => .inr (.inl hk))).trans (ze.of_gb g3 (fun k hk => .inl (by injection hk with hk; exact hk.symm))))
 have HN := Lib.hid hn2;have HK3 := Lib.hid (show (w2.setCell ⟨p, 3, none⟩ (.slice va (Lo.length + Lk.length) vc)).heap[p]? = some (.cells #[.int .i64 cols, .int .i64 limit, vr, .slice va (Lo.length + Lk.length) vc] 128 (0, 0)) from hbk3);clear o2 g2 hn2 g3 hbk3 hbk2;go_wp2_with fail;have hsz3 : (w2.setCell ⟨p, 3, none⟩ (.slice va (Lo.length + Lk.length) vc)).heap.size = w2.heap.size := (by simp);generalize w2.setCell ⟨p, 3, none⟩ (.slice va (Lo.length + Lk.length) vc) = w3 at *;clear c0 c1 c2 c3 d3 f3;have c0 : w3.cell? ⟨p, 0, none⟩ = some (.int .i64 cols) := za HK3.out 0;have c1 : w3.cell? ⟨p, 1, none⟩ = some (.int .i64 limit) := za HK3.out 1;have c3 : w3.cell? ⟨p, 3, none⟩ = some (.slice va (Lo.length + Lk.length) vc) := za HK3.out 3;have hLL : (Lo ++ Lk).length = Lo.length + Lk.length := List.length_append;have hLs : (Lo ++ Lk).length ≤ 2000000 := (by omega);generalize hL : Lo ++ Lk = L at *;have hLL' := hLL.symm;clear hLL;generalize Lo.length + Lk.length = ln at *;subst hLL';have hwr : IntKind.i64.wrap ((L.length : Int) - (limit : Int)) = (L.length : Int) - (limit : Int) := zb _ (by omega) (by omega);go_quiet (fail);by_cases hm : L.length ≤ limit
 ·have d1 : decide (0 < (L.length : Int) - (limit : Int)) = false := decide_eq_false (by omega);have hkk : za8 limit L = L := (by unfold za8; rw [show L.length - limit = 0 by omega]; rfl);go_wp2_with fail;go_end0;refine ⟨rfl, HW3.out.trans (ze.of_below (zg (Below.refl _ _) nq)), _, HK3.out, ?_, HN.out⟩;rw [hL, hkk]; exact HO3.out
 ·have d1 : decide (0 < (L.length : Int) - (limit : Int)) = true := decide_eq_true (by omega);obtain ⟨b, off, c, e2, hnc, hcm⟩ := zF HO3.out (by omega);simp only [Value.slice.injEq] at e2;obtain ⟨rfl, _, rfl⟩ := e2;have hO := show zn (w3.drewN nq) 0 2 (.slice (some ⟨b, off, none⟩) L.length vc) L.length (zf L) from HO3.out;have hK := show (w3.drewN nq).heap[p]? = some (.cells #[.int .i64 cols, .int .i64 limit, vr, .slice (some ⟨b, off, none⟩) L.length vc] 128 (0, 0)) from HK3.out;have hW := HW3.out.trans (ze.of_below (zg (Below.refl w3.heap.size w3) nq));have hbp : b ≠ p := fun e => hps (by rw [← e]; rfl);have hvb : vo.ownBlock = some b ∨ w.heap.size ≤ b := HN.out b rfl;have hys : ((zf L).drop ((L.length - limit) * 2)).take ((L.length - (L.length - limit)) * 2) = zf (za8 limit L) := by
   rw [ZG, List.take_of_length_le (by rw [zS, List.length_drop]; exact Nat.le_refl _)]; rfl
  have hkl : (za8 limit L).length = limit := (by unfold za8; rw [List.length_drop]; omega);have hone : ∀ u ∈ zf L, u.oneCell' = true := H1L.out;generalize hwa0 : w3.drewN nq = wa0 at *;clear c0 c1 c3;have c1 : wa0.cell? ⟨p, 1, none⟩ = some (.int .i64 limit) := za hK 1;have c3 : wa0.cell? ⟨p, 3, none⟩ = some (.slice (some ⟨b, off, none⟩) L.length vc) := za hK 3;obtain ⟨a1, hsl1, ha1⟩ := zf7 (P := Tryz.prog) (size := 2) Tryz.underlying126 zH b off L.length vc (L.length - limit) (by omega) hnc;rw [show ((L.length - limit : Nat) : Int) = (L.length : Int) - (limit : Int) by omega] at hsl1;go_upto_region 3 with fail
  go_still_tail 10, (by kernel_rfl)
  change wpList _ _ _ _ _ wa0.drew;have hOa := show zn wa0.drew 0 2 (.slice (some ⟨b, off, none⟩) L.length vc) L.length (zf L) from hO;have hKa := Zo hK;have hWa := hW.trans (ze.of_below (Below.refl wa0.heap.size wa0).drew);clear c1 c3;generalize hwa : wa0.drew = wa at *;have hrd := zdA hOa (L.length - limit) L.length (vc - (L.length - limit)) a1 ha1 (by omega) (Nat.le_refl _);rw [hys] at hrd;have hcp := zbS (P := Tryz.prog) Tryz.underlying126 zH hOa 0 L.length vc ⟨b, off, none⟩ (fun _ => by rw [Nat.zero_mul, Nat.add_zero]) (by omega) hrd (by intro u hu; exact hone u (by
   rw [← hys] at hu;exact List.mem_of_mem_drop (List.mem_of_mem_take hu)))
  rw [List.take_of_length_le (by rw [zS, hkl, show Nat.min (L.length - (L.length - limit)) L.length = limit by show min (L.length - (L.length - limit)) L.length = limit; omega]; exact Nat.le_refl _), Nat.zero_mul, Nat.add_zero] at hcp;have hOb := zav hOa 0 (zf (za8 limit L)) (by rw [zS, hkl]; omega);rw [Nat.zero_mul, Nat.add_zero] at hOb;have gb := zP wa b off (zf (za8 limit L));have hKb := zo hKa gb (by intro e; injection e with e; exact hbp e.symm);have hWb := hWa.trans (ze.of_gb gb (fun k hk => by injection hk with hk; subst hk; exact .inr hvb));clear gb hOa hKa hWa;generalize wa.setCells b off (zf (za8 limit L)) = wb at *;have c1 : wb.cell? ⟨p, 1, none⟩ = some (.int .i64 limit) := za hKb 1;have c3 : wb.cell? ⟨p, 3, none⟩ = some (.slice (some ⟨b, off, none⟩) L.length vc) := za hKb 3;have hsl2 := zcS (P := Tryz.prog) (size := 2) Tryz.underlying126 zH b off L.length vc limit (by omega) (by omega);go_upto_region 4 with fail
  go_still_tail 9, (by kernel_rfl)
  change wpList _ _ _ _ _ wb.drew;have hOc := show zn wb.drew 0 2 (.slice (some ⟨b, off, none⟩) L.length vc) L.length _ from hOb;have hKc := Zo hKb;have hWc := hWb.trans (ze.of_below (Below.refl wb.heap.size wb).drew);clear c1 c3;generalize hwc : wb.drew = wc at *;obtain ⟨zs, hzl, hcl⟩ := zg2 (P := Tryz.prog) (size := 2) Tryz.underlying126 zgd rfl zge hOc limit (L.length - limit) (vc - limit) (by omega) (by omega) 0;have hOd := zav hOc limit zs (by rw [hzl, ← Nat.add_mul]; exact Nat.mul_le_mul_right _ (by omega));have gd := zP wc b (off + limit * 2) zs;have hKd := zo hKc gd (by intro e; injection e with e; exact hbp e.symm);have hWd := hWc.trans (ze.of_gb gd (fun k hk => by injection hk with hk; subst hk; exact .inr hvb));clear gd hOc hKc hWc;generalize wc.setCells b (off + limit * 2) zs = wd at *;have c1 : wd.cell? ⟨p, 1, none⟩ = some (.int .i64 limit) := za hKd 1;have c3 : wd.cell? ⟨p, 3, none⟩ = some (.slice (some ⟨b, off, none⟩) L.length vc) := za hKd 3;have hsl3 := zhq (P := Tryz.prog) (size := 2) Tryz.underlying126 zH (some ⟨b, off, none⟩) L.length vc limit (by omega);go_upto_region 5 with fail
  go_still_tail 12, (by kernel_rfl)
  change wpList _ _ _ _ _ wd.drew;have hOe := show zn wd.drew 0 2 (.slice (some ⟨b, off, none⟩) L.length vc) L.length _ from hOd;have hKe := Zo hKd;have hWe := hWd.trans (ze.of_below (Below.refl wd.heap.size wd).drew);clear c1 c3;generalize hwe : wd.drew = we at *;have c3 : we.cell? ⟨p, 3, none⟩ = some (.slice (some ⟨b, off, none⟩) L.length vc) := za hKe 3;have f3 : we.frozen? ⟨p, 3, none⟩ = false := zy hKe 3;have gf : we.grownBy (we.setCell ⟨p, 3, none⟩ (.slice (some ⟨b, off, none⟩) limit vc)) (some p) := zO (zr _ _) _ _;have HKf := Lib.hid (show (we.setCell ⟨p, 3, none⟩ (.slice (some ⟨b, off, none⟩) limit vc)).heap[p]? = some (.cells #[.int .i64 cols, .int .i64 limit, vr, .slice (some ⟨b, off, none⟩) limit vc] 128 (0, 0)) from zw hKe 3 _);have HWf := Lib.hid (hWe.trans (ze.of_gb gf (fun k hk => .inl (by injection hk with hk; exact hk.symm))));have hOs := zf1 (zx hOe gf (fun k hk e => by simp [Value.ownBlock] at hk; injection e with e; omega)) 0 limit (Nat.zero_le _) (by omega);rw [Nat.zero_mul, Nat.add_zero, Nat.sub_zero, Nat.sub_zero, List.drop_zero] at hOs;have hkv := zlG Lo Lk limit (by rw [hL]; omega) zs (by rw [hL]; exact hzl);rw [hL] at hkv;rw [hkv] at hOs;have HOs := Lib.hid hOs;clear hOs hkv gf hOe;go_wp2_with fail;go_end0;refine ⟨rfl, HWf.out, _, HKf.out, ?_, fun k hk => ?_⟩
  ·rw [hL, hkl]; exact HOs.out
  ·simp [Value.ownBlock] at hk;subst hk;exact hvb
end
section
open Go.RowKit
theorem zo5 {g : Gr} (h : g.WF) (t b n : Nat) (s : Sty) (k : Bool) (h1 : t ≤ b) (h2 : b < g.rows.length) (h4 : n ≤ b + 1 - t) :
  (⟨g.cols, g.limit, zaQ g.rows t b n g.cols s, if k = true ∧ t = 0 then ZQ g.limit (g.old ++ (g.rows.drop t).take n) else g.old⟩ : Gr).WF := by
 refine ⟨h.c1, h.c2, by show 1 ≤ (zaQ _ _ _ _ _ _).length; rw [zjk h1 h2 h4]; exact h.r1, by show (zaQ _ _ _ _ _ _).length ≤ 120; rw [zjk h1 h2 h4]; exact h.r2, h.li, ?_, fun r hr => ?_⟩
 ·show (if _ then _ else _ : List Rw).length ≤ g.limit;split
  ·unfold ZQ; rw [List.length_drop]; omega
  ·exact h.ol
 ·have hf : ∀ r ∈ ZR n g.cols s, r.cells.length = g.cols ∧ ∀ c ∈ r.cells, c.Ok := fun r hr => by
   rw [List.eq_of_mem_replicate hr];refine ⟨List.length_replicate, fun c hc => ?_⟩;rw [List.eq_of_mem_replicate hc]; exact zdf s
  rcases List.mem_append.1 hr with hr | hr
  ·have hr' : r ∈ zaQ g.rows t b n g.cols s := hr;unfold zaQ at hr';rcases List.mem_append.1 hr' with hr' | hr'
   ·rcases List.mem_append.1 hr' with hr' | hr'
    ·rcases List.mem_append.1 hr' with hr' | hr'
     ·exact h.ce r (List.mem_append_left _ (List.mem_of_mem_take hr'))
     ·exact h.ce r (List.mem_append_left _ (List.mem_of_mem_drop (List.mem_of_mem_take hr')))
    ·exact hf r hr'
   ·exact h.ce r (List.mem_append_left _ (List.mem_of_mem_drop hr'))
  ·have hr' : r ∈ (if k = true ∧ t = 0 then ZQ g.limit (g.old ++ (g.rows.drop t).take n) else g.old) := hr;split at hr'
   ·unfold ZQ at hr';rcases List.mem_append.1 (List.mem_of_mem_drop hr') with hr' | hr'
    ·exact h.ce r (List.mem_append_right _ hr')
    ·exact h.ce r (List.mem_append_left _ (List.mem_of_mem_drop (List.mem_of_mem_take hr')))
   ·exact h.ce r (List.mem_append_right _ hr')
set_option maxRecDepth 100000 in
set_option maxHeartbeats 8000000 in
theorem zjH {T : Nat → Nat} {p : Nat} {w : World} {g : Gr} (h : GM T p w g) (top bottom n : Int) (s : Sty) (hs : zaa w s) (keep : Bool) :
    Calls Tryz.prog 208 #[.pointer (some ⟨p, 0, none⟩), .int .i64 top, .int .i64 bottom, .int .i64 n, s.val, .bool keep] w fun e w' => e = .returned (.tuple #[]) ∧ ze (own T w) w w' ∧ ∃ T', GM T' p w' (g.up top bottom n s keep) ∧ ∀ k, T' k ≠ 0 → own T w k := by
  have hBz := Below.alloc (Below.refl w.heap.size w) (Nat.le_refl _) (.cells #[.int .i64 s.fg, .int .i64 s.bg, .int .i64 s.attr] 35)
  have hbk0 := zE w (.cells #[.int .i64 s.fg, .int .i64 s.bg, .int .i64 s.attr] 35)
  have H0 := Lib.hid h
  have HG := Lib.hid (h.below hBz)
  clear h
  have HRG := Lib.hid (zgc HG.out top bottom n s (hs.below hBz))
  unfold Sty.val at HRG
  by_cases hR0 : zK g top bottom n s = 0
  · have HE := Lib.hid (show g.up top bottom n s keep = g by unfold Gr.up; rw [if_pos hR0])
    rw [hR0] at HRG
    unfold Sty.val
    go_enter Tryz.func208, Tryz.ntmps208
    go_wp2_with fail
    refine HRG.out.mono ?_
    rintro e w2 ⟨rfl, b2⟩
    have HB2 := Lib.hid (hBz.trans (b2.mono (by simp)))
    clear b2
    go_wp2_with fail
    refine zcZ rfl rfl ⟨rfl, ze.of_below HB2.out, T, ?_, fun k hk => .inl hk⟩
    rw [HE.out]
    exact H0.out.below HB2.out
  obtain ⟨k1, k2, k3, hok, k5, k6⟩ := zfb hR0
  have HEU := Lib.hid (show g.up top bottom n s keep = _ by unfold Gr.up; rw [if_neg hR0])
  generalize hRR : zK g top bottom n s = R at *
  obtain ⟨t, rfl⟩ : ∃ t : Nat, top = (t : Int) := ⟨top.toNat, by omega⟩
  obtain ⟨b, rfl⟩ : ∃ b : Nat, bottom = (b : Int) := ⟨bottom.toNat, by omega⟩
  have hR1 : 1 ≤ R := by omega
  have hR2 : R ≤ b + 1 - t := by omega
  have htb : t ≤ b := by omega
  have hwf := H0.out.wf
  have hrl := hwf.r2
  have hcl := hwf.c2
  have hll := hwf.li
  have hol := hwf.ol
  have dR : ((R : Int) == 0) = false := beq_eq_false_iff_ne.2 (by omega)
  have dR' : (R == 0) = false := beq_eq_false_iff_ne.2 (by omega)
  clear hRR k1 k2 k6 hR0
  unfold Sty.val
  go_enter Tryz.func208, Tryz.ntmps208
  go_wp2_with fail
  refine HRG.out.mono ?_
  rintro e w2 ⟨rfl, b2⟩
  have HB2 := Lib.hid (hBz.trans (b2.mono (by simp)))
  have HK2 := Lib.hid (zm hbk0 b2 (by simp))
  have hs2 : w.heap.size < w2.heap.size := zj HK2.out
  obtain ⟨vr, vo, Lr, Lo, hA0⟩ := H0.out
  have hA2 := hA0.mod (.of_below HB2.out) id id id (fun _ => id)
  have HA2 := Lib.hid hA2
  have hlen := (Zf hA0).1
  have hleno := (Zf hA0).2
  obtain ⟨bo, off, c, rfl, hnc, hcm⟩ := zF hA2.rr.own (by omega)
  have hbot : T bo = 2 := hA2.rr.tag bo rfl
  have hptag : T p = 1 := hA2.tp
  have hbop : bo ≠ p := fun e => by rw [e] at hbot; omega
  have hplt : p < w.heap.size := hA0.lt p (by omega)
  have hbolt : bo < w.heap.size := hA0.lt bo (by omega)
  have hbl : b < Lr.length := by omega
  clear hlen b2 HRG HG hbk0 hBz
  obtain ⟨c0, c1, c2, c3⟩ := zX hA2
  have hone := zf8 (fun x hx => hA2.ca x (List.mem_append_left _ hx))
  have hoff : ((Lr.drop t).take R).length = R := by rw [List.length_take, List.length_drop]; omega
  have hrd := zU (zf1 hA2.rr.own t (t + R) (by omega) (by omega))
  rw [show t + R - t = R by omega, ZG, Z0] at hrd
  have hsl1 := zbP (P := Tryz.prog) (size := 2) Tryz.underlying126 zH bo off Lr.length c t (t + R) (by omega) (by omega) (by omega)
  rw [show t + R - t = R by omega, show ((t + R : Nat) : Int) = (t : Int) + (R : Int) by omega] at hsl1
  have HCL := Lib.hid (zjG ((Lr.drop t).take R) ⟨bo, off + t * 2, none⟩ (c - t) w2 (by rw [hoff]; exact hrd) (fun u hu => hone u (by
    rw [← Z0, ← ZG] at hu
    exact List.mem_of_mem_drop (List.mem_of_mem_take hu))) (by rw [hoff]; omega))
  rw [hoff] at HCL
  go_wp2_with fail
  refine HCL.out.mono ?_
  rintro e w3 ⟨ov, rfl, b3, o3⟩
  have HOV3 := Lib.hid o3
  have HB3 := Lib.hid (HB2.out.trans (b3.mono HB2.out.size))
  have hA3 := HA2.out.mod (.of_below b3) id id id (fun _ => id)
  have HK3 := Lib.hid (zm HK2.out b3 hs2)
  have hs3 := b3.size
  clear c0 c1 c2 c3 b3 o3 HCL hA2 hrd hsl1
  have HA3 := Lib.hid hA3
  obtain ⟨c0, c1, c2, c3⟩ := zX hA3
  have hw1 : IntKind.i64.wrap ((b : Int) + 1) = (b : Int) + 1 := zb _ (by omega) (by omega)
  have hw2 : IntKind.i64.wrap ((t : Int) + (R : Int)) = (t : Int) + (R : Int) := zb _ (by omega) (by omega)
  have hsl1 := zbP (P := Tryz.prog) (size := 2) Tryz.underlying126 zH bo off Lr.length c t (b + 1) (by omega) (by omega) (by omega)
  rw [show ((b + 1 : Nat) : Int) = (b : Int) + 1 by omega] at hsl1
  obtain ⟨a2, hsl2, ha2⟩ := zgZ (P := Tryz.prog) (size := 2) Tryz.underlying126 zH bo off Lr.length c (t + R) (b + 1) (by omega) (by omega)
  rw [show ((b + 1 : Nat) : Int) = (b : Int) + 1 by omega, show ((t + R : Nat) : Int) = (t : Int) + (R : Int) by omega] at hsl2
  go_upto_region 4 with fail
  go_still_tail 18, (by kernel_rfl)
  change wpList _ _ _ _ _ w3.drew
  have hA4 := hA3.mod (.of_below (Below.refl _ _).drew) id id id (fun _ => id)
  have HOV4 := Lib.hid (show zn w3.drew w2.heap.size 2 ov R _ from HOV3.out)
  have HK4 := Lib.hid (Zo HK3.out)
  have HB4 := Lib.hid HB3.out.drew
  have hs4 : w3.drew.heap.size = w3.heap.size := rfl
  clear c0 c1 c2 c3 hA3 HA3 HK3 HB3 HOV3 HA2 HK2
  generalize hw4 : w3.drew = w4 at *
  have HA4 := Lib.hid hA4
  have hM : ((Lr.drop (t + R)).take (b + 1 - (t + R))).length = b + 1 - (t + R) := by rw [List.length_take, List.length_drop]; omega
  have hrd2 := zdA hA4.rr.own (t + R) (b + 1) (c - (t + R)) a2 ha2 (by omega) (by omega)
  rw [ZG, Z0] at hrd2
  have hcp := zbS (P := Tryz.prog) Tryz.underlying126 zH hA4.rr.own t (b + 1 - t) (c - t) ⟨bo, off + t * 2, none⟩ (fun _ => rfl) (by omega) hrd2 (fun u hu => hone u (by
    rw [← Z0, ← ZG] at hu
    exact List.mem_of_mem_drop (List.mem_of_mem_take hu)))
  rw [List.take_of_length_le (by rw [zS, hM, show Nat.min (b + 1 - (t + R)) (b + 1 - t) = b + 1 - (t + R) by show min (b + 1 - (t + R)) (b + 1 - t) = _; omega]; exact Nat.le_refl _)] at hcp
  have ho5 := zav hA4.rr.own t (zf ((Lr.drop (t + R)).take (b + 1 - (t + R)))) (by rw [zS, hM]; omega)
  rw [← zb4] at ho5
  have g5 := zP w4 bo (off + t * 2) (zf ((Lr.drop (t + R)).take (b + 1 - (t + R))))
  have m5 : Mod T (fun x => x = 2) w4 (w4.setCells bo (off + t * 2) (zf ((Lr.drop (t + R)).take (b + 1 - (t + R))))) := Mod.of_gb g5 (fun k hk => by injection hk with hk; subst hk; exact hbot)
  have hKp5 := (m5.block p (zj hA4.blk) (by rw [hptag]; decide)).trans hA4.blk
  have HRO5 := Lib.hid (hA4.ro.mod m5 (by decide))
  have HCA5 := Lib.hid (show ∀ x ∈ Lr ++ Lo, CAt T (w4.setCells bo (off + t * 2) (zf ((Lr.drop (t + R)).take (b + 1 - (t + R))))) x from fun x hx => (hA4.ca x hx).mod m5 (fun k _ => by omega))
  have hvb : ∀ k, ov.ownBlock = some k → bo ≠ k := fun k hk => by
    have := (zl HOV4.out k hk).1; omega
  have HOV5 := Lib.hid (zx HOV4.out g5 (fun k hk e => hvb k hk (by injection e)))
  have HK5 := Lib.hid (zo HK4.out g5 (by intro e; injection e with e; omega))
  have HW5 := Lib.hid ((ze.of_below (G := own T w) HB4.out).trans (ze.of_gb g5 (fun k hk => by injection hk with hk; subst hk; exact .inl (by omega))))
  have hs5 := zao w4 bo (off + t * 2) (zf ((Lr.drop (t + R)).take (b + 1 - (t + R))))
  have HO5 := Lib.hid ho5
  have HKP5 := Lib.hid hKp5
  clear g5 m5 hA4 ho5 hKp5 hrd2 HOV4 HK4 HB4
  generalize w4.setCells bo (off + t * 2) (zf ((Lr.drop (t + R)).take (b + 1 - (t + R)))) = w5 at *
  have c0 : w5.cell? ⟨p, 0, none⟩ = some (.int .i64 g.cols) := za HKP5.out 0
  have c2 : w5.cell? ⟨p, 2, none⟩ = some (.slice (some ⟨bo, off, none⟩) Lr.length c) := za HKP5.out 2
  have q0 : w5.cell? ⟨w.heap.size, 0, none⟩ = some (.int .i64 s.fg) := za HK5.out 0
  have q1 : w5.cell? ⟨w.heap.size, 1, none⟩ = some (.int .i64 s.bg) := za HK5.out 1
  have q2 : w5.cell? ⟨w.heap.size, 2, none⟩ = some (.int .i64 s.attr) := za HK5.out 2
  have hw3 : IntKind.i64.wrap ((b : Int) + 1 - (R : Int)) = (b : Int) + 1 - (R : Int) := zb _ (by omega) (by omega)
  have hsl3 := zcS (P := Tryz.prog) (size := 2) Tryz.underlying126 zH bo off Lr.length c (b + 1 - R) (by omega) (by omega)
  rw [show ((b + 1 - R : Nat) : Int) = (b : Int) + 1 - (R : Int) by omega] at hsl3
  have hs5d : w5.drew.heap.size = w5.heap.size := rfl
  have HO5d := Lib.hid (show zn w5.drew 0 2 (.slice (some ⟨bo, off, none⟩) Lr.length c) Lr.length (zf (z8 Lr t ((Lr.drop (t + R)).take (b + 1 - (t + R))))) from HO5.out)
  have hpl5 : p < w5.heap.size := zj HKP5.out
  have hql5 : w.heap.size < w5.heap.size := zj HK5.out
  have hbo5 : bo < w5.heap.size := by omega
  have hpq : p ≠ w.heap.size := by omega
  have hbq : bo ≠ w.heap.size := by omega
  go_upto_region 5 with fail
  go_region_held3 (fun w' => w'.cell? ⟨p, 0, none⟩ = some (.int .i64 g.cols) ∧ w'.cell? ⟨p, 2, none⟩ = some (.slice (some ⟨bo, off, none⟩) Lr.length c) ∧ w'.cell? ⟨w.heap.size, 0, none⟩ = some (.int .i64 s.fg) ∧ w'.cell? ⟨w.heap.size, 1, none⟩ = some (.int .i64 s.bg) ∧ w'.cell? ⟨w.heap.size, 2, none⟩ = some (.int .i64 s.attr)) (go_keep)
    (first
      | (go_at_call 83
         refine (zeP R g.cols s _ (by omega) (by omega)).mono ?_
         rintro e w6 ⟨fv, Lf, rfl, b6, hLf, hRf⟩
         have hLfl : Lf.length = R := by
           have := congrArg List.length hLf
           rw [List.length_map] at this
           rw [this]; unfold ZR; rw [List.length_replicate]
         obtain ⟨fa, fc, rfl⟩ := zQ hRf.own
         have hbk6 := zm (Zo HK5.out) b6 hql5
         have hkp6 := zm (Zo HKP5.out) b6 hpl5
         have ho6 := zh HO5d.out b6
         have z0 : w6.cell? ⟨p, 0, none⟩ = some (.int .i64 g.cols) := za hkp6 0
         have z1 : w6.cell? ⟨p, 2, none⟩ = some (.slice (some ⟨bo, off, none⟩) Lr.length c) := za hkp6 2
         have z2 : w6.cell? ⟨w.heap.size, 0, none⟩ = some (.int .i64 s.fg) := za hbk6 0
         have z3 : w6.cell? ⟨w.heap.size, 1, none⟩ = some (.int .i64 s.bg) := za hbk6 1
         have z4 : w6.cell? ⟨w.heap.size, 2, none⟩ = some (.int .i64 s.attr) := za hbk6 2
         have hmin : Nat.min Lf.length (Lr.length - (b + 1 - R)) = Lf.length := by show min Lf.length (Lr.length - (b + 1 - R)) = _; omega
         have hcp6 := zbS (P := Tryz.prog) Tryz.underlying126 zH ho6 (b + 1 - R) (Lr.length - (b + 1 - R)) (c - (b + 1 - R)) ⟨bo, off + (b + 1 - R) * 2, none⟩ (fun _ => rfl) (by omega) (zU hRf.own) (zdg Lf (fun x hx => by
           obtain ⟨xa, xc, e⟩ := zQ (hRf.cells x hx)
           exact ⟨xa, _, xc, e⟩))
         rw [hmin, List.take_of_length_le (by rw [zS]; exact Nat.le_refl _)] at hcp6
         have g7 := zP w6 bo (off + (b + 1 - R) * 2) (zf Lf)
         have hbk7 := zo hbk6 g7 (by intro e; injection e with e; exact hbq e.symm)
         have hkp7 := zo hkp6 g7 (by intro e; injection e with e; exact hbop e.symm)
         have y0 : (w6.setCells bo (off + (b + 1 - R) * 2) (zf Lf)).cell? ⟨p, 0, none⟩ = some (.int .i64 g.cols) := za hkp7 0
         have y1 : (w6.setCells bo (off + (b + 1 - R) * 2) (zf Lf)).cell? ⟨p, 2, none⟩ = some (.slice (some ⟨bo, off, none⟩) Lr.length c) := za hkp7 2
         have y2 : (w6.setCells bo (off + (b + 1 - R) * 2) (zf Lf)).cell? ⟨w.heap.size, 0, none⟩ = some (.int .i64 s.fg) := za hbk7 0
         have y3 : (w6.setCells bo (off + (b + 1 - R) * 2) (zf Lf)).cell? ⟨w.heap.size, 1, none⟩ = some (.int .i64 s.bg) := za hbk7 1
         have y4 : (w6.setCells bo (off + (b + 1 - R) * 2) (zf Lf)).cell? ⟨w.heap.size, 2, none⟩ = some (.int .i64 s.attr) := za hbk7 2
         have HB6 := Lib.hid b6
         have HLf := Lib.hid hLf
         have HRF := Lib.hid hRf
         have HO6 := Lib.hid ho6
         have HKP7 := Lib.hid hkp7
         have HG7 := Lib.hid g7
         have HLL := Lib.hid hLfl
         clear b6 hLf hRf hbk6 hkp6 ho6 hbk7 hkp7 g7 hmin hLfl))
  have hs6 := HB6.out.size
  have hLfl := HLL.out
  have m7 : Mod T (fun x => x = 2) w6 (w6.setCells bo (off + (b + 1 - R) * 2) (zf Lf)) := Mod.of_gb HG7.out (fun k hk => by injection hk with hk; subst hk; exact hbot)
  have hm6 : Mod T (fun _ => False) w5 w6 := Mod.of_below ((Below.refl w5.heap.size w5).drew.trans HB6.out)
  have HCA7 := Lib.hid (show ∀ x ∈ Lr ++ Lo, CAt T (w6.setCells bo (off + (b + 1 - R) * 2) (zf Lf)) x from fun x hx => ((HCA5.out x hx).mod hm6 (fun _ _ => id)).mod m7 (fun k _ => by omega))
  have HRO7 := Lib.hid ((HRO5.out.mod hm6 id).mod m7 (by decide))
  have hrr := zav HO6.out (b + 1 - R) (zf Lf) (by rw [zS]; omega)
  rw [← zb4] at hrr
  have HRR7 := Lib.hid hrr
  have hfq : ∀ x ∈ Lf, ∃ q, x.1.ownBlock = some q ∧ w5.heap.size ≤ q := fun x hx => by
    obtain ⟨q, e1, _⟩ := HRF.out.ap x hx
    exact ⟨q, e1, (zl (HRF.out.cells x hx) q e1).1⟩
  have HFQ := Lib.hid hfq
  have HFC7 := Lib.hid (show ∀ x ∈ Lf, zn (w6.setCells bo (off + (b + 1 - R) * 2) (zf Lf)) 0 5 x.1 x.2.cells.length (zp x.2.cells) from fun x hx => zM (zx (HRF.out.cells x hx) HG7.out (fun k hk e => by
    obtain ⟨q, e1, e2⟩ := hfq x hx
    rw [e1] at hk; injection hk with hk; injection e with e; omega)) (Nat.zero_le _))
  have HOV7 := Lib.hid (show zn (w6.setCells bo (off + (b + 1 - R) * 2) (zf Lf)) w2.heap.size 2 ov R _ from zx (zh (show zn w5.drew w2.heap.size 2 ov R _ from HOV5.out) HB6.out) HG7.out (fun k hk e => hvb k hk (by injection e)))
  have HW7 := Lib.hid (((HW5.out.trans (ze.of_below (Below.refl w5.heap.size w5).drew)).trans (ze.of_below HB6.out)).trans (ze.of_gb HG7.out (fun k hk => by injection hk with hk; subst hk; exact .inl (by omega))))
  have hs7 := zao w6 bo (off + (b + 1 - R) * 2) (zf Lf)
  have HND := Lib.hid HRF.out.nd
  have HL0 := Lib.hid hA0
  clear hcp6 y0 y1 y2 y3 y4 z0 z1 z2 z3 z4 m7 hm6 hrr hfq q0 q1 q2 c0 c2 HO5d HO6 HRO5 HCA5 HOV5 HO5 HB6 HRF HG7 HW5 HK5 HKP5 hA0 hsl3 hcp hsl1 hsl2
  generalize w6.setCells bo (off + (b + 1 - R) * 2) (zf Lf) = w7 at *
  have HU := Lib.hid (zoH Lr Lf t b R htb hbl hR1 hR2 hLfl)
  have HER := Lib.hid (show (upL Lr t b R Lf).map (·.2) = zaQ g.rows t b R g.cols s by
    rw [HU.out]
    unfold zaQ
    rw [List.map_append, List.map_append, List.map_append, List.map_take, List.map_take, List.map_drop, List.map_drop, HL0.out.er, HLf.out])
  have HUL := Lib.hid (show (upL Lr t b R Lf).length = Lr.length by
    unfold upL
    rw [ZT _ _ _ (by rw [ZT _ _ _ (by rw [hM]; omega)]; omega), ZT _ _ _ (by rw [hM]; omega)])
  have HUM := Lib.hid (show ∀ x ∈ upL Lr t b R Lf, x ∈ Lr ∨ x ∈ Lf from fun x hx => by
    unfold upL at hx
    rcases zbC hx with hx | hx
    · rcases zbC hx with hx | hx
      · exact .inl hx
      · exact .inl (List.mem_of_mem_drop (List.mem_of_mem_take hx))
    · exact .inr hx)
  have hszall : w.heap.size ≤ w7.heap.size := by omega
  have HBUILD := Lib.hid (show ∀ (w' : World) (vo' : Value) (Lo' : List (Value × Rw)) (g' : Gr), w7.heap.size ≤ w'.heap.size → ze (fun k => k = p ∨ vo.ownBlock = some k ∨ w7.heap.size ≤ k) w7 w' → g'.cols = g.cols → g'.limit = g.limit → g'.rows = zaQ g.rows t b R g.cols s →
      w'.heap[p]? = some (.cells #[.int .i64 g.cols, .int .i64 g.limit, .slice (some ⟨bo, off, none⟩) Lr.length c, vo'] 128 (0, 0)) → zn w' 0 2 vo' Lo'.length (zf Lo') → (∀ k, vo'.ownBlock = some k → vo.ownBlock = some k ∨ w7.heap.size ≤ k) → Lo'.Sublist (Lo ++ (Lr.drop t).take R) → Lo'.map (·.2) = g'.old → g'.WF →
      ze (own T w) w w' ∧ ∃ T', GM T' p w' g' ∧ ∀ k, T' k ≠ 0 → own T w k from fun w' vo' Lo' g' hsz' hw' e1 e2 e3 hk' ho' hv' hsub eo' wf' => by
    have hvot : ∀ k, vo.ownBlock = some k → T k = 3 := HL0.out.ro.tag
    have hT0 : ∀ k, T k ≠ 0 → k < w.heap.size := HL0.out.lt
    have m' : Mod T (fun x => x = 1 ∨ x = 3) w7 w' := ⟨hw'.os, hw'.tape, hw'.output, hw'.size, fun k hk hn => hw'.block k hk (fun e => by
      rcases e with e | e | e
      · subst e; exact hn (.inl hptag)
      · exact hn (.inr (hvot k e))
      · omega)⟩
    have hnew : ∀ k, w.heap.size ≤ k → k < w7.heap.size → w'.heap[k]? = w7.heap[k]? := fun k hk hk2 => hw'.block k hk2 (fun e => by
      rcases e with e | e | e
      · omega
      · have := hT0 k (by rw [hvot k e]; decide); omega
      · omega)
    refine ⟨HW7.out.trans (hw'.mono (fun k hk => by
      rcases hk with e | e | e
      · subst e; exact .inl (by omega)
      · exact .inl (by rw [hvot k e]; decide)
      · exact .inr (by omega))), ?_⟩
    refine zeT (vr := .slice (some ⟨bo, off, none⟩) Lr.length c) (vo := vo') (Lr := upL Lr t b R Lf) (Lo := Lo') hT0 hptag (Nat.le_trans hszall hsz') (by rw [e1, e2]; exact hk') ?_ ho' (fun k hk => ?_) (fun k hk => ?_) (fun x hx => ?_) ?_ (by rw [e3]; exact HER.out) eo' wf'
    · rw [HUL.out]
      refine Zk HRR7.out hsz' (fun k hk => ?_)
      simp [Value.ownBlock] at hk
      subst hk
      exact m'.block _ (by omega) (by rw [hbot]; decide)
    · simp [Value.ownBlock] at hk
      subst hk
      exact .inl hbot
    · rcases hv' k hk with h | h
      · exact .inl (hvot k h)
      · exact .inr (by omega)
    · have hold : x ∈ Lr ++ Lo → zn w' 0 5 x.1 x.2.cells.length (zp x.2.cells) ∧ ∃ q, x.1.ownBlock = some q ∧ ((q < w.heap.size ∧ T q = 10 + q) ∨ (w.heap.size ≤ q ∧ vo'.ownBlock ≠ some q ∧ (Value.slice (some ⟨bo, off, none⟩) Lr.length c).ownBlock ≠ some q)) := fun hx => by
        have hc := (HCA7.out x hx).mod m' (fun k _ => by omega)
        obtain ⟨q, e1, e2⟩ := hc.tag
        exact ⟨hc.own, q, e1, .inl ⟨hT0 q (by omega), e2⟩⟩
      have hnewf : x ∈ Lf → zn w' 0 5 x.1 x.2.cells.length (zp x.2.cells) ∧ ∃ q, x.1.ownBlock = some q ∧ ((q < w.heap.size ∧ T q = 10 + q) ∨ (w.heap.size ≤ q ∧ vo'.ownBlock ≠ some q ∧ (Value.slice (some ⟨bo, off, none⟩) Lr.length c).ownBlock ≠ some q)) := fun hx => by
        obtain ⟨q, e1, e2⟩ := HFQ.out x hx
        have hql := (zl (HFC7.out x hx) q e1).2
        refine ⟨Zk (HFC7.out x hx) hsz' (fun k hk => by rw [e1] at hk; injection hk with hk; subst hk; exact hnew _ (by omega) hql), q, e1, .inr ⟨by omega, fun e => ?_, fun e => ?_⟩⟩
        · rcases hv' q e with h | h
          · have := hT0 q (by rw [hvot q h]; decide); omega
          · omega
        · simp [Value.ownBlock] at e; omega
      rcases List.mem_append.1 hx with hx | hx
      · rcases HUM.out x hx with h | h
        · exact hold (List.mem_append_left _ h)
        · exact hnewf h
      · have := hsub.subset hx
        rcases List.mem_append.1 this with h | h
        · exact hold (List.mem_append_right _ h)
        · exact hold (List.mem_append_left _ (List.mem_of_mem_drop (List.mem_of_mem_take h)))
    · rw [HU.out]
      refine zm9 Lr Lo Lf Lo' t b R w.heap.size htb hbl hR2 HL0.out.nd (fun x hx k hk => ?_) HND.out (fun x hx => ?_) hsub
      · exact (zl (HL0.out.ca x hx).own k hk).2
      · obtain ⟨q, e1, e2⟩ := HFQ.out x hx
        exact ⟨q, e1, by omega⟩)
  have HT3 := Lib.hid (show ∀ k, vo.ownBlock = some k → vo.ownBlock = some k ∨ w7.heap.size ≤ k from fun k hk => .inl hk)
  have hwfu := zo5 hwf t b R s keep htb (by omega) hR2
  have HWU := Lib.hid hwfu
  have hEold : (if keep = true ∧ (t : Int) = 0 then ZQ g.limit (g.old ++ (g.rows.drop t).take R) else g.old) = (if keep = true ∧ t = 0 then ZQ g.limit (g.old ++ (g.rows.drop t).take R) else g.old) := by
    by_cases ht : t = 0
    · subst ht; simp
    · rw [if_neg (by rintro ⟨_, h⟩; omega), if_neg (fun h => ht h.2)]
  have HEU2 := Lib.hid (show g.up t b n s keep = ⟨g.cols, g.limit, zaQ g.rows t b R g.cols s, if keep = true ∧ t = 0 then ZQ g.limit (g.old ++ (g.rows.drop t).take R) else g.old⟩ by
    rw [HEU.out, Int.toNat_natCast, Int.toNat_natCast, hEold])
  clear hwfu hEold HEU hwf
  by_cases hk0 : keep = true ∧ t = 0
  · obtain ⟨rfl, rfl⟩ := hk0
    have hov := zU HOV7.out
    have hnep : vo.ownBlock ≠ some p := fun e => by have := HL0.out.ro.tag p e; omega
    have hl0 : ((Lr.drop 0).take R).length = R := hoff
    have hone2 : ∀ u ∈ zf ((Lr.drop 0).take R), u.oneCell' = true := fun u hu => hone u (by
      rw [← Z0, ← ZG] at hu
      exact List.mem_of_mem_drop (List.mem_of_mem_take hu))
    have hmapo : (za8 g.limit (Lo ++ (Lr.drop 0).take R)).map (·.2) = ZQ g.limit (g.old ++ (g.rows.drop 0).take R) := by
      unfold za8 ZQ
      rw [List.map_drop, List.map_append, List.map_take, List.map_drop, HL0.out.eo, HL0.out.er]
      congr 1
      rw [List.length_append, List.length_append, List.length_take, List.length_take, List.length_drop, List.length_drop, ← HL0.out.eo, ← HL0.out.er, List.length_map, List.length_map]
    have HMO := Lib.hid hmapo
    have HKE := Lib.hid (zne p g.cols g.limit (.slice (some ⟨bo, off, none⟩) Lr.length c) vo ov Lo ((Lr.drop 0).take R) w7 HKP7.out HRO7.out.own hnep (by rw [hl0]; exact hov) (zf8 (fun x hx => HL0.out.ca x (List.mem_append_right _ hx))) hone2 (by omega) (by rw [hl0]; omega) (by omega))
    clear hov hone2 hmapo hone
    go_wp2_with fail
    refine HKE.out.mono ?_
    rintro e w8 ⟨rfl, hw8, vo8, hk8, ho8, hv8⟩
    have hfin : ze (own T w) w w8 ∧ ∃ T', GM T' p w8 (g.up ((0 : Nat) : Int) b n s true) ∧ ∀ k, T' k ≠ 0 → own T w k := by
      have hwf2 := HWU.out
      rw [HEU2.out]
      rw [if_pos (by simp)] at hwf2 ⊢
      exact HBUILD.out w8 vo8 _ _ hw8.size hw8 rfl rfl rfl hk8 ho8 hv8 (List.drop_sublist _ _) HMO.out hwf2
    have HFI := Lib.hid hfin
    clear hfin hw8 hk8 ho8 hv8
    go_wp2_with fail
    go_end0
    exact ⟨rfl, HFI.out⟩
  · have HNK := Lib.hid hk0
    have hdone : ze (own T w) w w7 ∧ ∃ T', GM T' p w7 (g.up t b n s keep) ∧ ∀ k, T' k ≠ 0 → own T w k := by
      have hwf2 := HWU.out
      rw [HEU2.out]
      rw [if_neg hk0] at hwf2 ⊢
      exact HBUILD.out w7 vo Lo _ (Nat.le_refl _) (ze.refl _ _) rfl rfl rfl HKP7.out HRO7.out.own HT3.out (List.sublist_append_left _ _) HL0.out.eo hwf2
    have HD := Lib.hid hdone
    clear hdone
    cases keep
    · go_wp2_with fail
      go_end0
      exact ⟨rfl, HD.out⟩
    · have ht0 : ¬ t = 0 := fun e => hk0 ⟨rfl, e⟩
      have dt : ((t : Int) == 0) = false := beq_eq_false_iff_ne.2 (by omega)
      have dt' : (t == 0) = false := beq_eq_false_iff_ne.2 ht0
      clear hk0
      go_wp2_with fail
      go_end0
      exact ⟨rfl, HD.out⟩
end
section
open Go.RowKit
def dnL {α : Type} (L : List α) (t b n : Nat) (F : List α) : List α := z8 (z8 L (t + n) ((L.drop t).take (b + 1 - n - t))) t F
theorem zoM {α : Type} (L F : List α) (t b n : Nat) (h1 : t ≤ b) (h2 : b < L.length) (_h3 : 1 ≤ n) (h4 : n ≤ b + 1 - t) (hF : F.length = n) : dnL L t b n F = L.take t ++ F ++ (L.drop t).take (b + 1 - t - n) ++ L.drop (b + 1) := by
 unfold dnL;have e : b + 1 - n - t = b + 1 - t - n := (by omega);rw [e];have hM : ((L.drop t).take (b + 1 - t - n)).length = b + 1 - t - n := (by rw [List.length_take, List.length_drop]; omega);generalize (L.drop t).take (b + 1 - t - n) = M at *;have htn : (L.take (t + n)).length = t + n := (by rw [List.length_take]; omega);unfold z8;rw [hM, hF, show t + n + (b + 1 - t - n) = b + 1 by omega];have e1 : (L.take (t + n) ++ M ++ L.drop (b + 1)).take t = L.take t := by
  rw [List.take_append_of_le_length (by rw [List.length_append, htn]; omega), List.take_append_of_le_length (by omega), List.take_take, Nat.min_eq_left (by omega)]
 have e2 : (L.take (t + n) ++ M ++ L.drop (b + 1)).drop (t + n) = M ++ L.drop (b + 1) := by
  rw [List.append_assoc, List.drop_append, List.drop_eq_nil_of_le (by omega), List.nil_append, htn, Nat.sub_self, List.drop_zero]
 rw [e1, e2];simp
theorem znf (Lr Lo Lf : List (Value × Rw)) (t b n B : Nat) (h1 : t ≤ b) (h4 : n ≤ b + 1 - t) (hnd : ((Lr ++ Lo).map (·.1.ownBlock)).Nodup) (hlt : ∀ x ∈ Lr ++ Lo, ∀ k, x.1.ownBlock = some k → k < B)
  (hf : (Lf.map (·.1.ownBlock)).Nodup) (hfB : ∀ x ∈ Lf, ∃ k, x.1.ownBlock = some k ∧ B ≤ k) :
  (((Lr.take t ++ Lf ++ (Lr.drop t).take (b + 1 - t - n) ++ Lr.drop (b + 1)) ++ Lo).map (·.1.ownBlock)).Nodup := by
 have hs : (Lr.take t ++ (Lr.drop t).take (b + 1 - t - n) ++ Lr.drop (b + 1)).Sublist Lr := by
  have e2 : (Lr.drop t) = (Lr.drop t).take (b + 1 - t) ++ Lr.drop (b + 1) := by
   have := (List.take_append_drop (b + 1 - t) (Lr.drop t)).symm
   rwa [List.drop_drop, show t + (b + 1 - t) = b + 1 by omega] at this
  have e1 : Lr = Lr.take t ++ ((Lr.drop t).take (b + 1 - t) ++ Lr.drop (b + 1)) := (by rw [← e2, List.take_append_drop]);have hsub : ((Lr.drop t).take (b + 1 - t - n)).Sublist ((Lr.drop t).take (b + 1 - t)) := by
   have : (Lr.drop t).take (b + 1 - t - n) = ((Lr.drop t).take (b + 1 - t)).take (b + 1 - t - n) := (by rw [List.take_take, Nat.min_eq_left (by omega)]);rw [this]; exact List.take_sublist _ _
  have hfin : (Lr.take t ++ ((Lr.drop t).take (b + 1 - t - n) ++ Lr.drop (b + 1))).Sublist (Lr.take t ++ ((Lr.drop t).take (b + 1 - t) ++ Lr.drop (b + 1))) := List.Sublist.append_left (List.Sublist.append_right hsub _) _;rw [← e1] at hfin
  rwa [List.append_assoc]
 generalize hA : Lr.take t = A at *;generalize hM : (Lr.drop t).take (b + 1 - t - n) = M at *;generalize hD : Lr.drop (b + 1) = D at *;have n2 : (((A ++ M ++ D) ++ Lo).map (·.1.ownBlock)).Nodup := hnd.sublist ((List.Sublist.append_right hs _).map _);have p2 : ((A ++ Lf ++ M ++ D) ++ Lo).Perm (((A ++ M ++ D) ++ Lo) ++ Lf) := by
  have q1 : ((A ++ Lf ++ M ++ D) ++ Lo) = A ++ (Lf ++ (M ++ D ++ Lo)) := (by simp);have q2 : (((A ++ M ++ D) ++ Lo) ++ Lf) = A ++ ((M ++ D ++ Lo) ++ Lf) := (by simp);rw [q1, q2];exact List.Perm.append_left _ List.perm_append_comm
 refine (p2.map _).nodup_iff.2 ?_;rw [List.map_append, List.nodup_append];refine ⟨n2, hf, fun a ha c hc e => ?_⟩;obtain ⟨x, hx, rfl⟩ := List.mem_map.1 ha;obtain ⟨y, hy, rfl⟩ := List.mem_map.1 hc;obtain ⟨k, hk, hkB⟩ := hfB y hy;have hx' : x ∈ Lr ++ Lo := by
  rcases List.mem_append.1 hx with h | h
  ·exact List.mem_append_left _ (hs.subset h)
  ·exact List.mem_append_right _ h
 have := hlt x hx' k (by rw [e]; exact hk);omega
theorem zob {g : Gr} (h : g.WF) (t b n : Nat) (s : Sty) (h1 : t ≤ b) (h2 : b < g.rows.length) (h4 : n ≤ b + 1 - t) :
  (⟨g.cols, g.limit, zak g.rows t b n g.cols s, g.old⟩ : Gr).WF := by
 refine ⟨h.c1, h.c2, by show 1 ≤ (zak _ _ _ _ _ _).length; rw [zfQ h1 h2 h4]; exact h.r1, by show (zak _ _ _ _ _ _).length ≤ 120; rw [zfQ h1 h2 h4]; exact h.r2, h.li, h.ol, fun r hr => ?_⟩;have hf : ∀ r ∈ ZR n g.cols s, r.cells.length = g.cols ∧ ∀ c ∈ r.cells, c.Ok := fun r hr => by
  rw [List.eq_of_mem_replicate hr];refine ⟨List.length_replicate, fun c hc => ?_⟩;rw [List.eq_of_mem_replicate hc]; exact zdf s
 rcases List.mem_append.1 hr with hr | hr
 ·have hr' : r ∈ zak g.rows t b n g.cols s := hr;unfold zak at hr';rcases List.mem_append.1 hr' with hr' | hr'
  ·rcases List.mem_append.1 hr' with hr' | hr'
   ·rcases List.mem_append.1 hr' with hr' | hr'
    ·exact h.ce r (List.mem_append_left _ (List.mem_of_mem_take hr'))
    ·exact hf r hr'
   ·exact h.ce r (List.mem_append_left _ (List.mem_of_mem_drop (List.mem_of_mem_take hr')))
  ·exact h.ce r (List.mem_append_left _ (List.mem_of_mem_drop hr'))
 ·exact h.ce r (List.mem_append_right _ hr)
set_option maxRecDepth 100000 in
set_option maxHeartbeats 8000000 in
theorem zgf {T : Nat → Nat} {p : Nat} {w : World} {g : Gr} (h : GM T p w g) (top bottom n : Int) (s : Sty) (hs : zaa w s) :
    Calls Tryz.prog 279 #[.pointer (some ⟨p, 0, none⟩), .int .i64 top, .int .i64 bottom, .int .i64 n, s.val] w fun e w' => e = .returned (.tuple #[]) ∧ ze (own T w) w w' ∧ ∃ T', GM T' p w' (g.down top bottom n s) ∧ ∀ k, T' k ≠ 0 → own T w k := by
  have hBz := Below.alloc (Below.refl w.heap.size w) (Nat.le_refl _) (.cells #[.int .i64 s.fg, .int .i64 s.bg, .int .i64 s.attr] 35)
  have hbk0 := zE w (.cells #[.int .i64 s.fg, .int .i64 s.bg, .int .i64 s.attr] 35)
  have H0 := Lib.hid h
  have HG := Lib.hid (h.below hBz)
  clear h
  have HRG := Lib.hid (zgc HG.out top bottom n s (hs.below hBz))
  unfold Sty.val at HRG
  by_cases hR0 : zK g top bottom n s = 0
  · have HE := Lib.hid (show g.down top bottom n s = g by unfold Gr.down; rw [if_pos hR0])
    rw [hR0] at HRG
    unfold Sty.val
    go_enter Tryz.func279, Tryz.ntmps279
    go_wp2_with fail
    refine HRG.out.mono ?_
    rintro e w2 ⟨rfl, b2⟩
    have HB2 := Lib.hid (hBz.trans (b2.mono (by simp)))
    clear b2
    go_wp2_with fail
    refine zcZ rfl rfl ⟨rfl, ze.of_below HB2.out, T, ?_, fun k hk => .inl hk⟩
    rw [HE.out]
    exact H0.out.below HB2.out
  obtain ⟨k1, k2, k3, hok, k5, k6⟩ := zfb hR0
  have HEU := Lib.hid (show g.down top bottom n s = _ by unfold Gr.down; rw [if_neg hR0])
  generalize hRR : zK g top bottom n s = R at *
  obtain ⟨t, rfl⟩ : ∃ t : Nat, top = (t : Int) := ⟨top.toNat, by omega⟩
  obtain ⟨b, rfl⟩ : ∃ b : Nat, bottom = (b : Int) := ⟨bottom.toNat, by omega⟩
  have hR1 : 1 ≤ R := by omega
  have hR2 : R ≤ b + 1 - t := by omega
  have htb : t ≤ b := by omega
  have hwf := H0.out.wf
  have hrl := hwf.r2
  have hcl := hwf.c2
  have hll := hwf.li
  have hol := hwf.ol
  have dR : ((R : Int) == 0) = false := beq_eq_false_iff_ne.2 (by omega)
  have dR' : (R == 0) = false := beq_eq_false_iff_ne.2 (by omega)
  clear hRR k1 k2 k6 hR0
  unfold Sty.val
  go_enter Tryz.func279, Tryz.ntmps279
  go_wp2_with fail
  refine HRG.out.mono ?_
  rintro e w2 ⟨rfl, b2⟩
  have HB2 := Lib.hid (hBz.trans (b2.mono (by simp)))
  have HK2 := Lib.hid (zm hbk0 b2 (by simp))
  have hs2 : w.heap.size < w2.heap.size := zj HK2.out
  obtain ⟨vr, vo, Lr, Lo, hA0⟩ := H0.out
  have hA2 := hA0.mod (.of_below HB2.out) id id id (fun _ => id)
  have HA2 := Lib.hid hA2
  have hlen := (Zf hA0).1
  have hleno := (Zf hA0).2
  obtain ⟨bo, off, c, rfl, hnc, hcm⟩ := zF hA2.rr.own (by omega)
  have hbot : T bo = 2 := hA2.rr.tag bo rfl
  have hptag : T p = 1 := hA2.tp
  have hbop : bo ≠ p := fun e => by rw [e] at hbot; omega
  have hplt : p < w.heap.size := hA0.lt p (by omega)
  have hbolt : bo < w.heap.size := hA0.lt bo (by omega)
  have hbl : b < Lr.length := by omega
  clear hlen b2 HRG HG hbk0 hBz
  obtain ⟨c0, c1, c2, c3⟩ := zX hA2
  have hone := zf8 (fun x hx => hA2.ca x (List.mem_append_left _ hx))
  have HB3 := HB2
  have HK3 := HK2
  have hA3 := hA2
  have HA3 := HA2
  have hw1 : IntKind.i64.wrap ((b : Int) + 1) = (b : Int) + 1 := zb _ (by omega) (by omega)
  have hw2 : IntKind.i64.wrap ((t : Int) + (R : Int)) = (t : Int) + (R : Int) := zb _ (by omega) (by omega)
  have hw3 : IntKind.i64.wrap ((b : Int) + 1 - (R : Int)) = (b : Int) + 1 - (R : Int) := zb _ (by omega) (by omega)
  obtain ⟨a1, hsl1, ha1⟩ := zgZ (P := Tryz.prog) (size := 2) Tryz.underlying126 zH bo off Lr.length c (t + R) (b + 1) (by omega) (by omega)
  rw [show ((b + 1 : Nat) : Int) = (b : Int) + 1 by omega, show ((t + R : Nat) : Int) = (t : Int) + (R : Int) by omega] at hsl1
  have hsl2 := zbP (P := Tryz.prog) (size := 2) Tryz.underlying126 zH bo off Lr.length c t (b + 1 - R) (by omega) (by omega) (by omega)
  rw [show ((b + 1 - R : Nat) : Int) = (b : Int) + 1 - (R : Int) by omega] at hsl2
  go_upto_region 3 with fail
  go_still_tail 20, (by kernel_rfl)
  change wpList _ _ _ _ _ w2.drew
  have hA4 := hA3.mod (.of_below (Below.refl _ _).drew) id id id (fun _ => id)
  have HK4 := Lib.hid (Zo HK3.out)
  have HB4 := Lib.hid HB3.out.drew
  have hs4 : w2.drew.heap.size = w2.heap.size := rfl
  clear c0 c1 c2 c3 hA3 HA3 HK3 HB3 HA2 HK2 hA2
  generalize hw4 : w2.drew = w4 at *
  have HA4 := Lib.hid hA4
  have hM : ((Lr.drop t).take (b + 1 - R - t)).length = b + 1 - R - t := by rw [List.length_take, List.length_drop]; omega
  have hrd2 := zU (zf1 hA4.rr.own t (b + 1 - R) (by omega) (by omega))
  rw [ZG, Z0] at hrd2
  have hcp := zbS (P := Tryz.prog) Tryz.underlying126 zH hA4.rr.own (t + R) (b + 1 - (t + R)) (c - (t + R)) a1 (fun h => ha1 (by omega)) (by omega) hrd2 (fun u hu => hone u (by
    rw [← Z0, ← ZG] at hu
    exact List.mem_of_mem_drop (List.mem_of_mem_take hu)))
  rw [List.take_of_length_le (by rw [zS, hM, show Nat.min (b + 1 - R - t) (b + 1 - (t + R)) = b + 1 - R - t by show min (b + 1 - R - t) (b + 1 - (t + R)) = _; omega]; exact Nat.le_refl _)] at hcp
  have ho5 := zav hA4.rr.own (t + R) (zf ((Lr.drop t).take (b + 1 - R - t))) (by rw [zS, hM]; omega)
  rw [← zb4] at ho5
  have g5 := zP w4 bo (off + (t + R) * 2) (zf ((Lr.drop t).take (b + 1 - R - t)))
  have m5 : Mod T (fun x => x = 2) w4 (w4.setCells bo (off + (t + R) * 2) (zf ((Lr.drop t).take (b + 1 - R - t)))) := Mod.of_gb g5 (fun k hk => by injection hk with hk; subst hk; exact hbot)
  have hKp5 := (m5.block p (zj hA4.blk) (by rw [hptag]; decide)).trans hA4.blk
  have HRO5 := Lib.hid (hA4.ro.mod m5 (by decide))
  have HCA5 := Lib.hid (show ∀ x ∈ Lr ++ Lo, CAt T (w4.setCells bo (off + (t + R) * 2) (zf ((Lr.drop t).take (b + 1 - R - t)))) x from fun x hx => (hA4.ca x hx).mod m5 (fun k _ => by omega))
  have HK5 := Lib.hid (zo HK4.out g5 (by intro e; injection e with e; omega))
  have HW5 := Lib.hid ((ze.of_below (G := own T w) HB4.out).trans (ze.of_gb g5 (fun k hk => by injection hk with hk; subst hk; exact .inl (by omega))))
  have hs5 := zao w4 bo (off + (t + R) * 2) (zf ((Lr.drop t).take (b + 1 - R - t)))
  have HO5 := Lib.hid ho5
  have HKP5 := Lib.hid hKp5
  clear g5 m5 hA4 ho5 hKp5 hrd2 HK4 HB4
  generalize w4.setCells bo (off + (t + R) * 2) (zf ((Lr.drop t).take (b + 1 - R - t))) = w5 at *
  have c0 : w5.cell? ⟨p, 0, none⟩ = some (.int .i64 g.cols) := za HKP5.out 0
  have c2 : w5.cell? ⟨p, 2, none⟩ = some (.slice (some ⟨bo, off, none⟩) Lr.length c) := za HKP5.out 2
  have q0 : w5.cell? ⟨w.heap.size, 0, none⟩ = some (.int .i64 s.fg) := za HK5.out 0
  have q1 : w5.cell? ⟨w.heap.size, 1, none⟩ = some (.int .i64 s.bg) := za HK5.out 1
  have q2 : w5.cell? ⟨w.heap.size, 2, none⟩ = some (.int .i64 s.attr) := za HK5.out 2
  have hsl3 := zcS (P := Tryz.prog) (size := 2) Tryz.underlying126 zH bo off Lr.length c t (by omega) (by omega)
  have hs5d : w5.drew.heap.size = w5.heap.size := rfl
  have HO5d := Lib.hid (show zn w5.drew 0 2 (.slice (some ⟨bo, off, none⟩) Lr.length c) Lr.length (zf (z8 Lr (t + R) ((Lr.drop t).take (b + 1 - R - t)))) from HO5.out)
  have hpl5 : p < w5.heap.size := zj HKP5.out
  have hql5 : w.heap.size < w5.heap.size := zj HK5.out
  have hbo5 : bo < w5.heap.size := by omega
  have hpq : p ≠ w.heap.size := by omega
  have hbq : bo ≠ w.heap.size := by omega
  go_upto_region 4 with fail
  go_region_held3 (fun w' => w'.cell? ⟨p, 0, none⟩ = some (.int .i64 g.cols) ∧ w'.cell? ⟨p, 2, none⟩ = some (.slice (some ⟨bo, off, none⟩) Lr.length c) ∧ w'.cell? ⟨w.heap.size, 0, none⟩ = some (.int .i64 s.fg) ∧ w'.cell? ⟨w.heap.size, 1, none⟩ = some (.int .i64 s.bg) ∧ w'.cell? ⟨w.heap.size, 2, none⟩ = some (.int .i64 s.attr)) (go_keep)
    (first
      | (go_at_call 83
         refine (zeP R g.cols s _ (by omega) (by omega)).mono ?_
         rintro e w6 ⟨fv, Lf, rfl, b6, hLf, hRf⟩
         have hLfl : Lf.length = R := by
           have := congrArg List.length hLf
           rw [List.length_map] at this
           rw [this]; unfold ZR; rw [List.length_replicate]
         obtain ⟨fa, fc, rfl⟩ := zQ hRf.own
         have hbk6 := zm (Zo HK5.out) b6 hql5
         have hkp6 := zm (Zo HKP5.out) b6 hpl5
         have ho6 := zh HO5d.out b6
         have z0 : w6.cell? ⟨p, 0, none⟩ = some (.int .i64 g.cols) := za hkp6 0
         have z1 : w6.cell? ⟨p, 2, none⟩ = some (.slice (some ⟨bo, off, none⟩) Lr.length c) := za hkp6 2
         have z2 : w6.cell? ⟨w.heap.size, 0, none⟩ = some (.int .i64 s.fg) := za hbk6 0
         have z3 : w6.cell? ⟨w.heap.size, 1, none⟩ = some (.int .i64 s.bg) := za hbk6 1
         have z4 : w6.cell? ⟨w.heap.size, 2, none⟩ = some (.int .i64 s.attr) := za hbk6 2
         have hmin : Nat.min Lf.length (Lr.length - t) = Lf.length := by show min Lf.length (Lr.length - t) = _; omega
         have hcp6 := zbS (P := Tryz.prog) Tryz.underlying126 zH ho6 t (Lr.length - t) (c - t) ⟨bo, off + t * 2, none⟩ (fun _ => rfl) (by omega) (zU hRf.own) (zdg Lf (fun x hx => by
           obtain ⟨xa, xc, e⟩ := zQ (hRf.cells x hx)
           exact ⟨xa, _, xc, e⟩))
         rw [hmin, List.take_of_length_le (by rw [zS]; exact Nat.le_refl _)] at hcp6
         have g7 := zP w6 bo (off + t * 2) (zf Lf)
         have hbk7 := zo hbk6 g7 (by intro e; injection e with e; exact hbq e.symm)
         have hkp7 := zo hkp6 g7 (by intro e; injection e with e; exact hbop e.symm)
         have y0 : (w6.setCells bo (off + t * 2) (zf Lf)).cell? ⟨p, 0, none⟩ = some (.int .i64 g.cols) := za hkp7 0
         have y1 : (w6.setCells bo (off + t * 2) (zf Lf)).cell? ⟨p, 2, none⟩ = some (.slice (some ⟨bo, off, none⟩) Lr.length c) := za hkp7 2
         have y2 : (w6.setCells bo (off + t * 2) (zf Lf)).cell? ⟨w.heap.size, 0, none⟩ = some (.int .i64 s.fg) := za hbk7 0
         have y3 : (w6.setCells bo (off + t * 2) (zf Lf)).cell? ⟨w.heap.size, 1, none⟩ = some (.int .i64 s.bg) := za hbk7 1
         have y4 : (w6.setCells bo (off + t * 2) (zf Lf)).cell? ⟨w.heap.size, 2, none⟩ = some (.int .i64 s.attr) := za hbk7 2
         have HB6 := Lib.hid b6
         have HLf := Lib.hid hLf
         have HRF := Lib.hid hRf
         have HO6 := Lib.hid ho6
         have HKP7 := Lib.hid hkp7
         have HG7 := Lib.hid g7
         have HLL := Lib.hid hLfl
         clear b6 hLf hRf hbk6 hkp6 ho6 hbk7 hkp7 g7 hmin hLfl))
  have hs6 := HB6.out.size
  have hLfl := HLL.out
  have m7 : Mod T (fun x => x = 2) w6 (w6.setCells bo (off + t * 2) (zf Lf)) := Mod.of_gb HG7.out (fun k hk => by injection hk with hk; subst hk; exact hbot)
  have hm6 : Mod T (fun _ => False) w5 w6 := Mod.of_below ((Below.refl w5.heap.size w5).drew.trans HB6.out)
  have HCA7 := Lib.hid (show ∀ x ∈ Lr ++ Lo, CAt T (w6.setCells bo (off + t * 2) (zf Lf)) x from fun x hx => ((HCA5.out x hx).mod hm6 (fun _ _ => id)).mod m7 (fun k _ => by omega))
  have HRO7 := Lib.hid ((HRO5.out.mod hm6 id).mod m7 (by decide))
  have hrr := zav HO6.out t (zf Lf) (by rw [zS]; omega)
  rw [← zb4] at hrr
  have HRR7 := Lib.hid hrr
  have hfq : ∀ x ∈ Lf, ∃ q, x.1.ownBlock = some q ∧ w5.heap.size ≤ q := fun x hx => by
    obtain ⟨q, e1, _⟩ := HRF.out.ap x hx
    exact ⟨q, e1, (zl (HRF.out.cells x hx) q e1).1⟩
  have HFQ := Lib.hid hfq
  have HFC7 := Lib.hid (show ∀ x ∈ Lf, zn (w6.setCells bo (off + t * 2) (zf Lf)) 0 5 x.1 x.2.cells.length (zp x.2.cells) from fun x hx => zM (zx (HRF.out.cells x hx) HG7.out (fun k hk e => by
    obtain ⟨q, e1, e2⟩ := hfq x hx
    rw [e1] at hk; injection hk with hk; injection e with e; omega)) (Nat.zero_le _))
  have HW7 := Lib.hid (((HW5.out.trans (ze.of_below (Below.refl w5.heap.size w5).drew)).trans (ze.of_below HB6.out)).trans (ze.of_gb HG7.out (fun k hk => by injection hk with hk; subst hk; exact .inl (by omega))))
  have hs7 := zao w6 bo (off + t * 2) (zf Lf)
  have HND := Lib.hid HRF.out.nd
  have HL0 := Lib.hid hA0
  clear hcp6 y0 y1 y2 y3 y4 z0 z1 z2 z3 z4 m7 hm6 hrr hfq q0 q1 q2 c0 c2 HO5d HO6 HRO5 HCA5 HO5 HB6 HRF HG7 HW5 HK5 HKP5 hA0 hsl3 hcp hsl1 hsl2
  generalize w6.setCells bo (off + t * 2) (zf Lf) = w7 at *
  have HU := Lib.hid (zoM Lr Lf t b R htb hbl hR1 hR2 hLfl)
  have HER := Lib.hid (show (dnL Lr t b R Lf).map (·.2) = zak g.rows t b R g.cols s by
    rw [HU.out]
    unfold zak
    rw [List.map_append, List.map_append, List.map_append, List.map_take, List.map_take, List.map_drop, List.map_drop, HL0.out.er, HLf.out])
  have HUL := Lib.hid (show (dnL Lr t b R Lf).length = Lr.length by
    unfold dnL
    rw [ZT _ _ _ (by rw [ZT _ _ _ (by rw [hM]; omega)]; omega), ZT _ _ _ (by rw [hM]; omega)])
  have HUM := Lib.hid (show ∀ x ∈ dnL Lr t b R Lf, x ∈ Lr ∨ x ∈ Lf from fun x hx => by
    unfold dnL at hx
    rcases zbC hx with hx | hx
    · rcases zbC hx with hx | hx
      · exact .inl hx
      · exact .inl (List.mem_of_mem_drop (List.mem_of_mem_take hx))
    · exact .inr hx)
  have hszall : w.heap.size ≤ w7.heap.size := by omega
  have hvot : ∀ k, vo.ownBlock = some k → T k = 3 := HL0.out.ro.tag
  have hT0 : ∀ k, T k ≠ 0 → k < w.heap.size := HL0.out.lt
  have hgd : g.down t b n s = ⟨g.cols, g.limit, zak g.rows t b R g.cols s, g.old⟩ := by
    rw [HEU.out, Int.toNat_natCast, Int.toNat_natCast]
  have hfin : ∃ T', GM T' p w7 (g.down t b n s) ∧ ∀ k, T' k ≠ 0 → own T w k := by
    rw [hgd]
    refine zeT (vr := .slice (some ⟨bo, off, none⟩) Lr.length c) (vo := vo) (Lr := dnL Lr t b R Lf) (Lo := Lo) hT0 hptag hszall HKP7.out ?_ HRO7.out.own (fun k hk => ?_) (fun k hk => .inl (hvot k hk)) (fun x hx => ?_) ?_ HER.out HL0.out.eo (zob hwf t b R s htb (by omega) hR2)
    · rw [HUL.out]; exact HRR7.out
    · simp [Value.ownBlock] at hk
      subst hk
      exact .inl hbot
    · have hold : x ∈ Lr ++ Lo → zn w7 0 5 x.1 x.2.cells.length (zp x.2.cells) ∧ ∃ q, x.1.ownBlock = some q ∧ ((q < w.heap.size ∧ T q = 10 + q) ∨ (w.heap.size ≤ q ∧ vo.ownBlock ≠ some q ∧ (Value.slice (some ⟨bo, off, none⟩) Lr.length c).ownBlock ≠ some q)) := fun hx => by
        have hc := HCA7.out x hx
        obtain ⟨q, e1, e2⟩ := hc.tag
        exact ⟨hc.own, q, e1, .inl ⟨hT0 q (by omega), e2⟩⟩
      have hnewf : x ∈ Lf → zn w7 0 5 x.1 x.2.cells.length (zp x.2.cells) ∧ ∃ q, x.1.ownBlock = some q ∧ ((q < w.heap.size ∧ T q = 10 + q) ∨ (w.heap.size ≤ q ∧ vo.ownBlock ≠ some q ∧ (Value.slice (some ⟨bo, off, none⟩) Lr.length c).ownBlock ≠ some q)) := fun hx => by
        obtain ⟨q, e1, e2⟩ := HFQ.out x hx
        refine ⟨HFC7.out x hx, q, e1, .inr ⟨by omega, fun e => ?_, fun e => ?_⟩⟩
        · have := hT0 q (by rw [hvot q e]; decide); omega
        · simp [Value.ownBlock] at e; omega
      rcases List.mem_append.1 hx with hx | hx
      · rcases HUM.out x hx with h | h
        · exact hold (List.mem_append_left _ h)
        · exact hnewf h
      · exact hold (List.mem_append_right _ hx)
    · rw [HU.out]
      refine znf Lr Lo Lf t b R w.heap.size htb hR2 HL0.out.nd (fun x hx k hk => ?_) HND.out (fun x hx => ?_)
      · exact (zl (HL0.out.ca x hx).own k hk).2
      · obtain ⟨q, e1, e2⟩ := HFQ.out x hx
        exact ⟨q, e1, by omega⟩
  have HF := Lib.hid hfin
  clear hfin hgd
  go_wp2_with fail
  go_end0
  exact ⟨rfl, HW7.out, HF.out⟩
end
section
open Go.RowKit
structure zcx (w : World) : Prop where
 sp : Lib.TabBelow Tryz.prog w.heap.size w "strings.asciiSpace" .u8 Lib.asciiSpaceTab
 pw : Tab Tryz.prog w
 db : zn5 w.heap.size w
theorem zcx.below {w w' : World} (h : zcx w) (b : Below w.heap.size w w') : zcx w' :=
 ⟨fun w2 h2 => h.sp w2 (b.trans (h2.mono b.size)), zoD h.pw b, fun w2 h2 => h.db w2 (b.trans (h2.mono b.size))⟩
def zkh : ByteArray := ⟨#[98, 108, 97, 99, 107, 32, 114, 101, 100, 32, 103, 114, 101, 101, 110, 32, 121, 101, 108, 108, 111, 119, 32, 98, 108, 117, 101, 32, 109, 97, 103, 101, 110, 116, 97, 32, 99, 121, 97, 110, 32, 119, 104, 105, 116, 101]⟩
theorem ziH : Lib.fields zkh.data.toList = [[98, 108, 97, 99, 107], [114, 101, 100], [103, 114, 101, 101, 110], [121, 101, 108, 108, 111, 119], [98, 108, 117, 101], [109, 97, 103, 101, 110, 116, 97], [99, 121, 97, 110], [119, 104, 105, 116, 101]] := by decide +kernel
theorem zfe (w : World) (h : zcx w) : Calls Tryz.prog 103 #[.string zkh] w fun e w' =>
  e = .returned (.slice (some ⟨w.heap.size, 0, none⟩) 8 8) ∧ w' = w.alloc (.cells #[.string ⟨#[98, 108, 97, 99, 107]⟩, .string ⟨#[114, 101, 100]⟩, .string ⟨#[103, 114, 101, 101, 110]⟩, .string ⟨#[121, 101, 108, 108, 111, 119]⟩, .string ⟨#[98, 108, 117, 101]⟩, .string ⟨#[109, 97, 103, 101, 110, 116, 97]⟩, .string ⟨#[99, 121, 97, 110]⟩, .string ⟨#[119, 104, 105, 116, 101]⟩] 9) := by
 refine (Tryz.strings_Fields zkh w (by decide) (fun j b hb => ?_) h.sp.here).mono ?_
 ·have hm := List.mem_of_getElem? hb;have hall : ∀ b ∈ zkh.data.toList, b.toNat < 128 := (by decide);exact hall b hm
 ·rintro e w' ⟨rfl, rfl⟩;rw [ziH];exact ⟨rfl, rfl⟩
set_option maxRecDepth 100000 in
set_option maxHeartbeats 4000000 in
theorem ziI (c : Int) (hc : -9223372036854775808 ≤ c ∧ c ≤ 9223372036854775807) (w : World) (ht : zcx w) :
  Calls Tryz.prog 59 #[.int .i64 c] w fun e w' => ∃ s : ByteArray, e = .returned (.string s) ∧ (s.size = 0 ↔ Zp c = false) ∧ Below w.heap.size w w' := by
 have HT := Lib.hid ht;clear ht;by_cases h0 : c = -1
 ·subst h0;refine (zd2 w).mono ?_;rintro e w2 ⟨rfl, rfl⟩;exact ⟨_, rfl, by decide, Below.refl _ _⟩
 have d0 : decide (c = -1) = false := decide_eq_false h0;have d0' : (c == -1) = false := (by simp [h0]);by_cases h1 : 0 ≤ c;rotate_left
 ·have d1 : decide (0 ≤ c) = false := decide_eq_false h1;have d2 : decide (8 ≤ c) = false := decide_eq_false (by omega);have d3 : decide (16 ≤ c) = false := decide_eq_false (by omega);have d4 : decide (16777216 ≤ c) = false := decide_eq_false (by omega);have HC := Lib.hid (show Zp c = false by unfold Zp; rw [decide_eq_false (by omega), decide_eq_false (by omega)]; rfl);go_enter Tryz.func59, Tryz.ntmps59;go_wp2_with fail;exact zT rfl rfl rfl ⟨_, rfl, ⟨fun _ => HC.out, fun _ => rfl⟩, Below.refl _ _⟩
 obtain ⟨n, rfl⟩ : ∃ n : Nat, c = (n : Int) := ⟨c.toNat, by omega⟩;clear h1 h0;by_cases h2 : n < 8
 ·have HC := Lib.hid (show Zp (n : Int) = true by unfold Zp; rw [decide_eq_true (by omega)]; rfl);have HB := Lib.hid ((Below.refl w.heap.size w).alloc (Nat.le_refl _) (.cells #[.string ⟨#[98, 108, 97, 99, 107]⟩, .string ⟨#[114, 101, 100]⟩, .string ⟨#[103, 114, 101, 101, 110]⟩, .string ⟨#[121, 101, 108, 108, 111, 119]⟩, .string ⟨#[98, 108, 117, 101]⟩, .string ⟨#[109, 97, 103, 101, 110, 116, 97]⟩, .string ⟨#[99, 121, 97, 110]⟩, .string ⟨#[119, 104, 105, 116, 101]⟩] 9));rcases (show n = 0 ∨ n = 1 ∨ n = 2 ∨ n = 3 ∨ n = 4 ∨ n = 5 ∨ n = 6 ∨ n = 7 by omega) with rfl | rfl | rfl | rfl | rfl | rfl | rfl | rfl
  all_goals
   go_enter Tryz.func59, Tryz.ntmps59;go_wp2_with fail;refine (zfe w HT.out).mono ?_;rintro e w2 ⟨rfl, hw2⟩;subst w2;go_wp2_with fail;exact zT rfl rfl rfl ⟨_, rfl, ⟨fun e => by simp [ByteArray.size] at e, fun e => by rw [HC.out] at e; cases e⟩, HB.out⟩
 have d2 : decide ((n : Int) < 8) = false := decide_eq_false (by omega);have d2' : decide (n < 8) = false := decide_eq_false h2;by_cases h3 : n < 16
 ·have HC := Lib.hid (show Zp (n : Int) = true by unfold Zp; rw [decide_eq_true (by omega)]; rfl);have HB := Lib.hid ((Below.refl w.heap.size w).alloc (Nat.le_refl _) (.cells #[.string ⟨#[98, 108, 97, 99, 107]⟩, .string ⟨#[114, 101, 100]⟩, .string ⟨#[103, 114, 101, 101, 110]⟩, .string ⟨#[121, 101, 108, 108, 111, 119]⟩, .string ⟨#[98, 108, 117, 101]⟩, .string ⟨#[109, 97, 103, 101, 110, 116, 97]⟩, .string ⟨#[99, 121, 97, 110]⟩, .string ⟨#[119, 104, 105, 116, 101]⟩] 9));clear d2 d2' d0 d0';rcases (show n = 8 ∨ n = 9 ∨ n = 10 ∨ n = 11 ∨ n = 12 ∨ n = 13 ∨ n = 14 ∨ n = 15 by omega) with rfl | rfl | rfl | rfl | rfl | rfl | rfl | rfl
  all_goals
   go_enter Tryz.func59, Tryz.ntmps59;go_wp2_with fail;refine (zfe w HT.out).mono ?_;rintro e w2 ⟨rfl, hw2⟩;subst w2;go_wp2_with fail;exact zT rfl rfl rfl ⟨_, rfl, ⟨fun e => by rw [ByteArray.size_append] at e; simp [ByteArray.size] at e, fun e => by rw [HC.out] at e; cases e⟩, HB.out⟩
 have d3 : decide ((n : Int) < 16) = false := decide_eq_false (by omega);have d3' : decide (n < 16) = false := decide_eq_false h3;have e0 : decide ((0 : Int) ≤ (n : Int)) = true := decide_eq_true (by omega);have e1 : decide ((8 : Int) ≤ (n : Int)) = true := decide_eq_true (by omega);have e1' : decide (8 ≤ n) = true := decide_eq_true (by omega);have e2 : decide ((16 : Int) ≤ (n : Int)) = true := decide_eq_true (by omega);have e2' : decide (16 ≤ n) = true := decide_eq_true (by omega);by_cases h4 : n < 256
 ·have HC := Lib.hid (show Zp (n : Int) = true by unfold Zp; rw [decide_eq_true (by omega)]; rfl);have d4 : decide ((n : Int) < 256) = true := decide_eq_true (by omega);have d4' : decide (n < 256) = true := decide_eq_true h4;go_enter Tryz.func59, Tryz.ntmps59;go_wp2_with fail;refine (Tryz.strconv_Itoa n (by omega) (by omega) w HT.out.pw.here).mono ?_;rintro e w2 ⟨rfl, k, os, hw2⟩;have HB := Lib.hid (show Below w.heap.size w w2 by rw [hw2]; exact Lib.below_grow w.heap.size w (Nat.le_refl _) k os);clear hw2;have hsz : (⟨(Lib.itoa (n : Int)).toArray⟩ : ByteArray).size ≤ 21 := by
   show (Lib.itoa (n : Int)).toArray.size ≤ 21;rw [List.size_toArray];exact Lib.itoa_length_le (n : Int) (by omega) (by omega)
  generalize (⟨(Lib.itoa (n : Int)).toArray⟩ : ByteArray) = str at *;go_wp2_with fail;refine zT rfl rfl rfl ⟨_, rfl, ⟨fun e => ?_, fun e => by rw [HC.out] at e; cases e⟩, HB.out⟩;rw [ByteArray.size_append] at e;have h9 : (⟨#[99, 111, 108, 111, 117, 114]⟩ : ByteArray).size = 6 := rfl;omega
 have d4 : decide ((n : Int) < 256) = false := decide_eq_false (by omega);have d4' : decide (n < 256) = false := decide_eq_false h4;by_cases h5 : 16777216 ≤ n ∧ n < 33554432
 ·have HC := Lib.hid (show Zp (n : Int) = true by unfold Zp; rw [decide_eq_false (by omega), decide_eq_true (by omega)]; rfl);have d5 : decide ((16777216 : Int) ≤ (n : Int)) = true := decide_eq_true (by omega);have d5' : decide (16777216 ≤ n) = true := decide_eq_true h5.1;have d6 : decide ((n : Int) < 33554432) = true := decide_eq_true (by omega);have d6' : decide (n < 33554432) = true := decide_eq_true h5.2;go_enter Tryz.func59, Tryz.ntmps59;go_wp2_with fail;refine (ziE n h5.1 h5.2 w HT.out.db).mono ?_;rintro e w2 ⟨l, hl, rfl, b2⟩;have HB := Lib.hid b2;have hsz : (⟨l.toArray⟩ : ByteArray).size = 7 := (by show l.toArray.size = 7; simpa using hl);clear b2 hl;generalize (⟨l.toArray⟩ : ByteArray) = str at *;go_wp2_with fail;exact zT rfl rfl rfl ⟨_, rfl, ⟨fun e => by rw [ByteArray.size_append] at e; have h9 : (⟨#[35]⟩ : ByteArray).size = 1 := rfl; omega, fun e => by rw [HC.out] at e; cases e⟩, HB.out⟩
 ·have HC := Lib.hid (show Zp (n : Int) = false by unfold Zp; rw [decide_eq_false (by omega), decide_eq_false (by omega)]; rfl);by_cases h6 : 16777216 ≤ n
  ·have d5 : decide ((16777216 : Int) ≤ (n : Int)) = true := decide_eq_true (by omega);have d5' : decide (16777216 ≤ n) = true := decide_eq_true h6;have d6 : decide ((n : Int) < 33554432) = false := decide_eq_false (by omega);have d6' : decide (n < 33554432) = false := decide_eq_false (by omega);go_enter Tryz.func59, Tryz.ntmps59;go_wp2_with fail;exact zT rfl rfl rfl ⟨_, rfl, ⟨fun _ => HC.out, fun _ => rfl⟩, Below.refl _ _⟩
  ·have d5 : decide ((16777216 : Int) ≤ (n : Int)) = false := decide_eq_false (by omega);have d5' : decide (16777216 ≤ n) = false := decide_eq_false h6;go_enter Tryz.func59, Tryz.ntmps59;go_wp2_with fail;exact zT rfl rfl rfl ⟨_, rfl, ⟨fun _ => HC.out, fun _ => rfl⟩, Below.refl _ _⟩
theorem ziJ {s : ByteArray} (h : s.size = 0) : s = ⟨#[]⟩ := by
 obtain ⟨d⟩ := s;congr 1;exact Array.eq_empty_of_size_eq_zero h
theorem zoe {s : ByteArray} (h : s.size ≠ 0) : (!s.toList.isEmpty) = true := by
 rw [ByteArray.toList_eq];have : s.data.toList.length = s.size := (by rw [Array.length_toList]; rfl);cases hl : s.data.toList with
 | nil => rw [hl] at this; simp at this; omega
 | cons x l => rfl
set_option maxRecDepth 100000 in
set_option maxHeartbeats 2000000 in
theorem zcy (s : Sty) (w0 : World) (ht : zcx w0) (h1 : -9223372036854775808 ≤ s.fg ∧ s.fg ≤ 9223372036854775807) (h2 : -9223372036854775808 ≤ s.bg ∧ s.bg ≤ 9223372036854775807) : zaa w0 s := by
 intro w hbw;obtain ⟨f, b, at'⟩ := s;dsimp only at h1 h2;have HB1 := Lib.hid ((Below.refl w.heap.size w).alloc (Nat.le_refl _) (.cells #[.int .i64 f, .int .i64 b, .int .i64 at'] 35));have HK1 := Lib.hid (zE w (.cells #[.int .i64 f, .int .i64 b, .int .i64 at'] 35));have HT1 := Lib.hid ((ht.below hbw).below HB1.out);unfold Sty.val;dsimp only;clear ht hbw;go_enter Tryz.func18, Tryz.ntmps18;go_wp2_with fail;refine (ziI f h1 _ HT1.out).mono ?_;rintro e w2 ⟨s1, rfl, hs1, b2⟩;have HB2 := Lib.hid (HB1.out.trans (b2.mono HB1.out.size));have HK2 := Lib.hid (zm HK1.out b2 (zj HK1.out));have HT2 := Lib.hid (HT1.out.below b2);clear b2;by_cases hf : Zp f = true;rotate_left
 ·have hf' : Zp f = false := (by simpa using hf);obtain rfl := ziJ (hs1.2 hf');have HE := Lib.hid (show okS ⟨f, b, at'⟩ = false by unfold okS; rw [hf']; rfl);clear hs1 hf hf';go_wp2_with fail;go_ret;exact ⟨by rw [HE.out]; rfl, HB2.out⟩
 have n1 := zoe (s := s1) (fun e => by rw [hs1.1 e] at hf; cases hf);have HF := Lib.hid hf;have x1 : w2.cell? ⟨w.heap.size, 1, none⟩ = some (.int .i64 b) := za HK2.out 1;clear hs1 hf;go_wp2_with fail;refine (ziI b h2 _ HT2.out).mono ?_;rintro e w3 ⟨s2, rfl, hs2, b3⟩;have HB3 := Lib.hid (HB2.out.trans (b3.mono HB2.out.size));have x2 : w3.cell? ⟨w.heap.size, 2, none⟩ = some (.int .i64 at') := za (zm HK2.out b3 (zj HK2.out)) 2;clear b3;by_cases hb : Zp b = true;rotate_left
 ·have hb' : Zp b = false := (by simpa using hb);obtain rfl := ziJ (hs2.2 hb');have HE := Lib.hid (show okS ⟨f, b, at'⟩ = false by unfold okS; rw [HF.out, hb']; rfl);clear hs2 hb hb';go_wp2_with fail;go_ret;exact ⟨by rw [HE.out]; rfl, HB3.out⟩
 have m1 := zoe (s := s2) (fun e => by rw [hs2.1 e] at hb; cases hb);have HE := Lib.hid (show okS ⟨f, b, at'⟩ = (decide (0 ≤ at') && decide (at' ≤ 255)) by unfold okS; rw [HF.out, hb]; rfl);clear hs2 hb;by_cases h0 : 0 ≤ at'
 ·have d1 : decide (0 ≤ at') = true := decide_eq_true h0;by_cases h3 : at' ≤ 255
  ·have d2 : decide (at' ≤ 255) = true := decide_eq_true h3;have HE2 := Lib.hid (HE.out.trans (by rw [d1, d2]; rfl : _ = true));go_wp2_with fail;go_ret;exact ⟨by rw [HE2.out]; rfl, HB3.out⟩
  ·have d2 : decide (at' ≤ 255) = false := decide_eq_false h3;have HE2 := Lib.hid (HE.out.trans (by rw [d1, d2]; rfl : _ = false));go_wp2_with fail;go_ret;exact ⟨by rw [HE2.out]; rfl, HB3.out⟩
 ·have d1 : decide (0 ≤ at') = false := decide_eq_false h0;have HE2 := Lib.hid (HE.out.trans (by rw [d1]; rfl : _ = false));go_wp2_with fail;go_ret;exact ⟨by rw [HE2.out]; rfl, HB3.out⟩
end
end Go.Proofs.YtlfdgkiliegaiaaGreatDoor
