/- Texts laid together: G6 M4 G12 R1 K28 ArgG. -/
import Derived.Test.YtlfdgkiliegaiaaGreatDoorY1
import Derived.Test.YtlfdgkiliegaiaaGreatDoorY2
import Derived.Test.YtlfdgkiliegaiaaGreatDoorY3
import Derived.Test.YtlfdgkiliegaiaaGreatDoorY5
import Derived.Test.YtlfdgkiliegaiaaGreatDoorShelf
import Derived.Lib.Builder
import Derived.Lib.FrozenHead
import Derived.Lib.RuneBytes
import Derived.Lib.UnsafeStr
import Derived.Lib.SliceRun
import Derived.WalkSpells
import Derived.StillTailTactics
import Derived.Deep.RegionLaw
import Derived.Deep.DeepCutAuto
import Derived.Test.YtlfdgkiliegaiaaGreatDoorRows
import Derived.Deep.AppendSrc
import Derived.Lib.AppendStr
import Derived.ArgAppend
import Derived.Laws.IdiomCopy
import Derived.Laws.IdiomStrings
import Derived.Deep.Upon
import Derived.WalkKit
import Derived.WalkLawsBesides
import Derived.BigQuiet
import Derived.Lib.Hide
import Derived.Deep.QuietTactic
import Derived.Lib.AppendIntMem
import Derived.Lib.ItoaNum
import Derived.Deep.RegionHeld3
import Derived.Laws.Bits64b
import Derived.Lib.FrozenHead2
import Derived.Lib.SlBytesConst
import Derived.Lib.ItoaLen
import Derived.Laws.Cover4
import Derived.ProofKit
import Derived.Deep.CutBlock
import Derived.Lib.TrimU
import Derived.Laws.ResultCell
import Derived.Laws.EntriesVeiled
import Derived.Laws.StructEq
import Derived.Deep.DrawnRows
set_option linter.unusedVariables false
namespace Go.Proofs.YtlfdgkiliegaiaaGreatDoor
section
open Go.RowKit
theorem ziC : (Tryz.prog.info? 118).map (·.size) = some 2 := by kernel_rfl
theorem zm8 : liesAt Tryz.prog Tryz.prog.depth 118 (2 / Tryz.prog.cellsOf 118) 0 118 1 = true := by kernel_rfl
set_option maxHeartbeats 1000000 in
set_option maxRecDepth 100000 in
theorem zjB (b : Nat) (w : World) (h0 : w.cell? ⟨b, 0, none⟩ = some (.pointer (some ⟨b, 0, none⟩))) :
  Calls Tryz.prog 114 #[.pointer (some ⟨b, 0, none⟩)] w fun e w' => e = .returned (.tuple #[]) ∧ w' = w := by
 obtain ⟨j, hj, _⟩ := Option.map_eq_some_iff.1 ziC;have hne := fun (wx : World) => Lib.run_neq_ptr_same (P := Tryz.prog) (w := wx) ⟨b, 0, none⟩ Tryz.underlying116 hj;go_enter Tryz.func114, Tryz.ntmps114;go_wp2_with fail;go_end0;exact ⟨rfl, rfl⟩
set_option maxHeartbeats 1000000 in
set_option maxRecDepth 100000 in
theorem ziD (b : Nat) (w : World) (h0 : w.cell? ⟨b, 0, none⟩ = some (.pointer none)) (hsh : w.shape? b = some (118, 2)) (hfz : w.frozen? ⟨b, 0, none⟩ = false) :
  Calls Tryz.prog 114 #[.pointer (some ⟨b, 0, none⟩)] w fun e w' => e = .returned (.tuple #[]) ∧ w' = w.setCell ⟨b, 0, none⟩ (.pointer (some ⟨b, 0, none⟩)) := by
 obtain ⟨j, hj, hjs⟩ := Option.map_eq_some_iff.1 ziC;have hto := Lib.run_to_unsafe (P := Tryz.prog) w ⟨b, 0, none⟩ Tryz.underlying116 Tryz.underlying206 hj (by rw [hjs]; decide) hsh (Nat.zero_lt_succ 1);have hfr := Lib.run_from_unsafe (P := Tryz.prog) w ⟨b, 0, none⟩ Tryz.underlying206 Tryz.underlying116 hj hsh zm8;go_enter Tryz.func114, Tryz.ntmps114;go_wp2_with fail;rw [run_callFunc_extern Tryz.func170 (by kernel_rfl) (by kernel_rfl) (by kernel_rfl) (e := Extern.AbiNoEscape.same) (by kernel_rfl)];rw [Lib.run_noEscape];simp only [Result.andThen];rw [Oper.upon_value];go_wp2_with fail;go_end0;exact ⟨rfl, rfl⟩
theorem zeS (B b : Nat) (bs : List Value) (w : World) (h : Lib.IsBuilderF 118 5 B b bs w) :
  Calls Tryz.prog 114 #[.pointer (some ⟨b, 0, none⟩)] w fun e w' => e = .returned (.tuple #[]) ∧ Lib.BuilderAtF 118 5 B b (.pointer (some ⟨b, 0, none⟩)) bs w' ∧ Below B w w' := by
 rcases h with h | h
 ·refine (ziD b w h.cell0 h.shape h.frozen0).mono ?_;rintro e w' ⟨rfl, rfl⟩;exact ⟨rfl, h.used _, (Below.refl B w).setCell (p := ⟨b, 0, none⟩) h.1 _⟩
 ·refine (zjB b w h.cell0).mono ?_;rintro e w' ⟨rfl, rfl⟩;exact ⟨rfl, h, Below.refl B _⟩
set_option maxHeartbeats 2000000 in
set_option maxRecDepth 100000 in
theorem zgn (B b : Nat) (bs : List Value) (r : Int) (hr0 : -2147483648 ≤ r) (hr1 : r ≤ 2147483647) (w : World) (h : Lib.IsBuilderF 118 5 B b bs w) (hlen : bs.length + 4 ≤ 140737488355328) (hBw : B ≤ w.heap.size) :
  Calls Tryz.prog 73 #[.pointer (some ⟨b, 0, none⟩), .int .i32 r] w fun e w' => (∃ n, e = .returned (.tuple #[.int .i64 n, .nilIface])) ∧ Lib.IsBuilderF 118 5 B b (bs ++ Lib.runeCells r) w' ∧ Below B w w' := by
 have hk4 := Lib.runeCells_le r;have HC := Lib.hid (zeS B b bs w h);clear h;go_enter Tryz.func73, Tryz.ntmps73;go_wp2_with fail;refine HC.out.mono ?_;rintro e w1 ⟨rfl, h1, hb1⟩;obtain ⟨hB, v, hbk, hown, hne⟩ := h1;obtain ⟨ao, cap, rfl⟩ : ∃ ao cap, v = .slice ao bs.length cap := by
  rcases hown.2 with ⟨hv, h0⟩ | ⟨g, cap, cur, fz, hv, _⟩
  ·exact ⟨none, 0, by rw [hv, h0]⟩
  ·exact ⟨_, _, hv⟩
 have c0 : w1.cell? ⟨b, 0, none⟩ = some (.pointer (some ⟨b, 0, none⟩)) := za hbk 0;have c1 : w1.cell? ⟨b, 1, none⟩ = some (.slice ao bs.length cap) := za hbk 1;have HA := Lib.hid (Tryz.utf8_AppendRune_row B _ bs.length bs r hr0 hr1 w1 hown hlen (by have := hb1.size; omega));go_wp2_with fail;refine HA.out.mono ?_;rintro e w2 ⟨v', rfl, hown', o, hgrow⟩;have hlt := zj hbk;have hb2 : w2.heap[b]? = some (.cells #[.pointer (some ⟨b, 0, none⟩), .slice ao bs.length cap] 118 (0, 0)) := by
  rw [hgrow.block b (by simp; omega) (fun e => hne e.symm), heap_alloc_old w1 _ hlt];exact hbk
 have d0 : w2.cell? ⟨b, 0, none⟩ = some (.pointer (some ⟨b, 0, none⟩)) := za hb2 0;have d1 : w2.cell? ⟨b, 1, none⟩ = some (.slice ao bs.length cap) := za hb2 1;have f1 : w2.frozen? ⟨b, 1, none⟩ = false := zy hb2 1;obtain ⟨g, cap', rfl⟩ : ∃ g cap', v' = .slice (some ⟨g, 0, none⟩) (bs.length + (Lib.runeCells r).length) cap' := by
  rcases hown'.2 with ⟨_, h0⟩ | ⟨g, cap', cur, fz, hv, _⟩
  ·omega
  ·exact ⟨g, cap', hv⟩
 have HP := Lib.hid (Lib.BuilderAtF.put (T := 118) (e := 5) hB hb2 (bs' := bs ++ Lib.runeCells r) (by simpa using hown') (by decide));have HB := Lib.hid (((hb1.alloc (by have := hb1.size; omega) o).grown hgrow (by have := hb1.size; simp; omega) (fun k hk => (hown.lt k hk).1)).setCell (p := ⟨b, 1, none⟩) hB (.slice (some ⟨g, 0, none⟩) (bs.length + (Lib.runeCells r).length) cap'));clear HC HA hown hown' hgrow hb1 hbk;generalize hw3 : w2.setCell ⟨b, 1, none⟩ (.slice (some ⟨g, 0, none⟩) (bs.length + (Lib.runeCells r).length) cap') = w3 at *;have e1 : w3.cell? ⟨b, 1, none⟩ = some (.slice (some ⟨g, 0, none⟩) (bs.length + (Lib.runeCells r).length) cap') := by
  rw [← hw3]; exact World.cell?_setCell_same' w2 _ _ (by rw [d1]; rfl)
 go_wp2_with fail;refine zct rfl rfl rfl rfl ⟨⟨_, rfl⟩, .inr HP.out, HB.out⟩
end
section
open Go.RowKit
theorem zbS {P : Program} {t e : TypeId} {size : Nat} (ht : P.underlying t = some (.slice e)) (hs : (P.info? e).map (·.size) = some size) {w : World} {base b off n c : Nat} {xs : List Value} (h : zn w base size (.slice (some ⟨b, off, none⟩) n c) n xs)
  (x m c1 : Nat) (d : Addr) (hd : 0 < m → d = ⟨b, off + x * size, none⟩) (hx : x + m ≤ n) {y : Value} {k : Nat} {ys : List Value} (hr : zaw w size y k ys) (h1 : ∀ u ∈ ys, u.oneCell' = true) (ty : TypeId) :
  (Builtin.copy_ #[t, t] ty #[.slice (some d) m c1, y]).run P w = .ok (goInt (Nat.min k m)) (w.setCells b (off + x * size) (ys.take (Nat.min k m * size))) := by
 obtain ⟨i, hi, hi2⟩ := Option.map_eq_some_iff.1 hs;obtain ⟨e1, h2⟩ := h;rcases h2 with ⟨e, _⟩ | ⟨b', off', c', e, hb, hbs, hnc, hcm, hcells, hxs⟩
 ·simp at e
 simp only [Value.slice.injEq, Option.some.injEq, Addr.mk.injEq] at e;obtain ⟨⟨rfl, rfl, _⟩, _, rfl⟩ := e;have hst : (storeCells d (ys.take (Nat.min k m * size))).run P w = .ok () (w.setCells b (off + x * size) (ys.take (Nat.min k m * size))) := by
  rcases Nat.eq_zero_or_pos m with h0 | h0
  ·have : ys.take (Nat.min k m * size) = [] := (by rw [h0, show Nat.min k 0 = 0 from Nat.min_zero k, Nat.zero_mul]; simp);rw [this]; rfl
  ·rw [hd h0];have hlen : (ys.take (Nat.min k m * size)).length ≤ m * size := by
    rw [List.length_take];exact Nat.le_trans (Nat.min_le_left _ _) (Nat.mul_le_mul_right _ (Nat.min_le_right k m))
   have hin : ∀ j, j < (ys.take (Nat.min k m * size)).length → x * size + j < c * size := fun j hj => by
    have a1 : x * size + m * size ≤ c * size := (by rw [← Nat.add_mul]; exact Nat.mul_le_mul_right _ (by omega));omega
   have := run_storeCells_cells (P := P) b (off + x * size) (ys.take (Nat.min k m * size)) 0 w (fun j hj => by
     have := (hcells _ (hin j hj)).1
     rwa [← Nat.add_assoc] at this) (fun j hj => by
     have := (hcells _ (hin j hj)).2
     rwa [← Nat.add_assoc] at this) (fun v hv => h1 v (List.mem_of_mem_take hv))
   rwa [Nat.add_zero] at this
 rcases hr with ⟨rfl, rfl, rfl⟩ | ⟨a, c2, rfl, hl, hc⟩
 ·have hz : Nat.min 0 m = 0 := Nat.zero_min m;rw [hz] at hst ⊢;simp only [List.take_nil] at hst ⊢;simp [Builtin.copy_, run_underlying ht, Builtin.lenOf, Builtin.firstCells, sizeOf, typeInfo, hi, storeCells, World.setCells]
 ·have hll : (ys.take (Nat.min k m * size)).length = Nat.min k m * size := by
   rw [List.length_take, hl];exact Nat.min_eq_left (Nat.mul_le_mul_right _ (Nat.min_le_left k m))
  have hld := run_loadCells_list (P := P) w a (ys.take (Nat.min k m * size)) (fun j v hv => by
   rw [List.getElem?_take] at hv;split at hv
   ·exact hc j v hv
   ·simp at hv)
  rw [hll] at hld;simp [Builtin.copy_, run_underlying ht, Builtin.lenOf, Builtin.firstCells, sizeOf, typeInfo, hi, hi2, hld, hst]
theorem zav {w : World} {base size b off n c : Nat} {xs : List Value} (h : zn w base size (.slice (some ⟨b, off, none⟩) n c) n xs) (x : Nat) (vs : List Value) (hx : x * size + vs.length ≤ n * size) :
  zn (w.setCells b (off + x * size) vs) base size (.slice (some ⟨b, off, none⟩) n c) n (z8 xs (x * size) vs) := zbo h (x * size) vs hx
theorem zgZ {P : Program} {t e : TypeId} {size : Nat} (ht : P.underlying t = some (.slice e)) (hs : (P.info? e).map (·.size) = some size) (b off n c x y : Nat) (h1 : x ≤ y) (h2 : y ≤ c) :
  ∃ a : Addr, (∀ wx, (Instr.slice t (.slice (some ⟨b, off, none⟩) n c) (some (.int .i64 (x : Int))) (some (.int .i64 (y : Int))) none).run P wx = .ok (.slice (some a) (y - x) (c - x)) wx) ∧ (x < y → a = ⟨b, off + x * size, none⟩) := by
 by_cases hx : x < c
 ·exact ⟨_, zbP ht hs b off n c x y h1 h2 hx, fun _ => rfl⟩
 ·have hxc : x = c := (by omega);have hyc : y = c := (by omega);subst hxc hyc;refine ⟨⟨b, off, none⟩, fun wx => ?_, fun h => by omega⟩;have hel : P.elem t = e := (by simp [Program.elem, ht]);rw [run_slice_lh wx t _ _ y (zcQ ht) .i64 .i64 _ _ (by omega) (by omega) (by omega), hel, zbA hs, Int.toNat_natCast];show Result.ok (sliced _ y y y size) wx = _;unfold sliced;rw [if_pos rfl]
theorem zf7 {P : Program} {t e : TypeId} {size : Nat} (ht : P.underlying t = some (.slice e)) (hs : (P.info? e).map (·.size) = some size) (b off n c x : Nat) (h1 : x ≤ n) (h2 : n ≤ c) :
  ∃ a : Addr, (∀ wx, (Instr.slice t (.slice (some ⟨b, off, none⟩) n c) (some (.int .i64 (x : Int))) none none).run P wx = .ok (.slice (some a) (n - x) (c - x)) wx) ∧ (x < n → a = ⟨b, off + x * size, none⟩) := by
 by_cases hx : x < c
 ·exact ⟨_, zcS ht hs b off n c x h1 hx, fun _ => rfl⟩
 ·have hxc : x = c := (by omega);have hyc : n = c := (by omega);subst hxc hyc;refine ⟨⟨b, off, none⟩, fun wx => ?_, fun h => by omega⟩;have hel : P.elem t = e := (by simp [Program.elem, ht]);rw [run_slice_l wx t _ _ n (zcQ ht) .i64 _ (by omega) (by omega), hel, zbA hs, Int.toNat_natCast];show Result.ok (sliced _ n n n size) wx = _;unfold sliced;rw [if_pos rfl]
theorem zdA {w : World} {base size b off n c : Nat} {xs : List Value} (h : zn w base size (.slice (some ⟨b, off, none⟩) n c) n xs) (x y c1 : Nat) (a : Addr) (ha : x < y → a = ⟨b, off + x * size, none⟩) (h1 : x ≤ y) (h2 : y ≤ n) :
  zaw w size (.slice (some a) (y - x) c1) (y - x) ((xs.drop (x * size)).take ((y - x) * size)) := by
 obtain ⟨e1, h2'⟩ := h;rcases h2' with ⟨e, _⟩ | ⟨b', off', c', e, hb, hbs, hnc, hcm, hcells, hxs⟩
 ·simp at e
 simp only [Value.slice.injEq, Option.some.injEq, Addr.mk.injEq] at e;obtain ⟨⟨rfl, rfl, _⟩, _, rfl⟩ := e;have hle : x * size + (y - x) * size ≤ xs.length := by
  rw [e1, ← Nat.add_mul]; exact Nat.mul_le_mul_right _ (by omega)
 refine .inr ⟨a, c1, rfl, by rw [List.length_take, List.length_drop]; omega, fun j u hu => ?_⟩;rw [List.getElem?_take] at hu;split at hu
 ·rename_i hj;have hxy : x < y := by
   rcases Nat.lt_or_ge x y with h' | h'
   ·exact h'
   ·rw [show y - x = 0 by omega, Nat.zero_mul] at hj; omega
  rw [ha hxy, zaO];rw [List.getElem?_drop] at hu;have := hxs _ u hu
  rwa [← Nat.add_assoc] at this
 ·simp at hu
theorem zdg (L : List (Value × Rw)) (h : ∀ x ∈ L, ∃ a n c, x.1 = Value.slice a n c) : ∀ u ∈ zf L, u.oneCell' = true := by
 intro u hu;obtain ⟨x, hx, hu⟩ := List.mem_flatMap.1 hu;obtain ⟨a, n, c, e⟩ := h x hx;rw [e] at hu;simp only [List.mem_cons, List.not_mem_nil, or_false] at hu;rcases hu with rfl | rfl <;> rfl
end
section
open Go.RowKit
theorem zfb {g : Gr} {top bottom n : Int} {s : Sty} (h : zK g top bottom n s ≠ 0) : 0 ≤ top ∧ top ≤ bottom ∧ bottom < (g.rows.length : Int) ∧ okS s = true ∧ 1 ≤ zK g top bottom n s ∧ (zK g top bottom n s : Int) ≤ bottom - top + 1 := by
 unfold zK at h ⊢;split at h
 ·exact absurd rfl h
 ·rename_i hn;rw [if_neg hn];have hok : okS s = true := by
   cases ho : okS s
   ·exact absurd (.inr (.inr (.inr ho))) hn
   ·rfl
  refine ⟨by omega, by omega, by omega, hok, by omega, by omega⟩
theorem zf8 {T : Nat → Nat} {w : World} {L : List (Value × Rw)} (h : ∀ x ∈ L, CAt T w x) : ∀ u ∈ zf L, u.oneCell' = true := zdg L fun x hx => by
 obtain ⟨a, c, e⟩ := zQ (h x hx).own;exact ⟨a, _, c, e⟩
def upL {α : Type} (L : List α) (t b n : Nat) (F : List α) : List α := z8 (z8 L t ((L.drop (t + n)).take (b + 1 - (t + n)))) (b + 1 - n) F
theorem zoH {α : Type} (L F : List α) (t b n : Nat) (h1 : t ≤ b) (h2 : b < L.length) (h3 : 1 ≤ n) (h4 : n ≤ b + 1 - t) (hF : F.length = n) : upL L t b n F = L.take t ++ (L.drop (t + n)).take (b + 1 - t - n) ++ F ++ L.drop (b + 1) := by
 unfold upL;have hM : ((L.drop (t + n)).take (b + 1 - (t + n))).length = b + 1 - t - n := (by rw [List.length_take, List.length_drop]; omega);have ht : (L.take t).length = t := (by rw [List.length_take]; omega);have e : b + 1 - (t + n) = b + 1 - t - n := (by omega);rw [e] at hM ⊢;generalize (L.drop (t + n)).take (b + 1 - t - n) = M at *;unfold z8;rw [hM, hF, show t + (b + 1 - t - n) = b + 1 - n by omega];rw [List.take_append_of_le_length (by rw [List.length_append, hM, ht]; omega), List.take_of_length_le (by rw [List.length_append, hM, ht]; omega)];congr 1;rw [List.drop_append, List.drop_eq_nil_of_le (by rw [List.length_append, hM, ht]; omega), List.nil_append, List.drop_drop, List.length_append, hM, ht];congr 1; omega
theorem zeT {T : Nat → Nat} {p : Nat} {w w' : World} {g' : Gr} {vr vo : Value} {Lr Lo : List (Value × Rw)} (hlt : ∀ k, T k ≠ 0 → k < w.heap.size) (tp : T p = 1) (hsz : w.heap.size ≤ w'.heap.size)
  (blk : w'.heap[p]? = some (.cells #[.int .i64 g'.cols, .int .i64 g'.limit, vr, vo] 128 (0, 0))) (rr : zn w' 0 2 vr Lr.length (zf Lr)) (ro : zn w' 0 2 vo Lo.length (zf Lo))
  (tr : ∀ k, vr.ownBlock = some k → T k = 2 ∨ (w.heap.size ≤ k ∧ vo.ownBlock ≠ some k)) (tv : ∀ k, vo.ownBlock = some k → T k = 3 ∨ w.heap.size ≤ k)
  (ca : ∀ x ∈ Lr ++ Lo, zn w' 0 5 x.1 x.2.cells.length (zp x.2.cells) ∧ ∃ q, x.1.ownBlock = some q ∧ ((q < w.heap.size ∧ T q = 10 + q) ∨ (w.heap.size ≤ q ∧ vo.ownBlock ≠ some q ∧ vr.ownBlock ≠ some q)))
  (nd : ((Lr ++ Lo).map (·.1.ownBlock)).Nodup) (er : Lr.map (·.2) = g'.rows) (eo : Lo.map (·.2) = g'.old) (wf : g'.WF) :
  ∃ T', GM T' p w' g' ∧ ∀ k, T' k ≠ 0 → own T w k := by
 have hpl : p < w.heap.size := hlt p (by rw [tp]; decide);refine ⟨fun k => if vr.ownBlock = some k then 2 else if vo.ownBlock = some k then 3 else if w.heap.size ≤ k ∧ k < w'.heap.size then 10 + k else T k, ⟨vr, vo, Lr, Lo, ⟨fun k hk => ?_, blk, ?_, ⟨rr, fun k hk => by show (if _ then _ else _) = 2; rw [if_pos hk]⟩, ⟨ro, fun k hk => ?_⟩, er, eo, fun x hx => ?_, nd, wf⟩⟩, fun k hk => ?_⟩
 ·show k < w'.heap.size;by_cases h1 : vr.ownBlock = some k
  ·exact (zl rr k h1).2
  ·by_cases h2 : vo.ownBlock = some k
   ·exact (zl ro k h2).2
   ·simp only [if_neg h1, if_neg h2] at hk;by_cases h3 : w.heap.size ≤ k ∧ k < w'.heap.size
    ·exact h3.2
    ·rw [if_neg h3] at hk;exact Nat.lt_of_lt_of_le (hlt k hk) hsz
 ·show (if _ then _ else _) = 1;rw [if_neg (fun e => by rcases tr p e with h | h <;> omega), if_neg (fun e => by rcases tv p e with h | h <;> omega), if_neg (by omega)];exact tp
 ·show (if _ then _ else _) = 3;have h1 : vr.ownBlock ≠ some k := fun e => by
   rcases tr k e with h | h
   ·rcases tv k hk with h' | h'
    ·omega
    ·have := hlt k (by omega); omega
   ·exact h.2 hk
  rw [if_neg h1, if_pos hk]
 ·obtain ⟨h1, q, hq, h2⟩ := ca x hx;refine ⟨h1, q, hq, ?_⟩;show (if _ then _ else _) = 10 + q;rcases h2 with ⟨hql, hqt⟩ | ⟨hql, hn1, hn2⟩
  ·rw [if_neg (fun e => by rcases tr q e with h | h <;> omega), if_neg (fun e => by rcases tv q e with h | h <;> omega), if_neg (by omega)];exact hqt
  ·rw [if_neg hn2, if_neg hn1, if_pos ⟨hql, (zl h1 q hq).2⟩]
 ·by_cases h1 : vr.ownBlock = some k
  ·rcases tr k h1 with h | h
   ·exact .inl (by omega)
   ·exact .inr h.1
  ·by_cases h2 : vo.ownBlock = some k
   ·rcases tv k h2 with h | h
    ·exact .inl (by omega)
    ·exact .inr h
   ·simp only [if_neg h1, if_neg h2] at hk;by_cases h3 : w.heap.size ≤ k ∧ k < w'.heap.size
    ·exact .inr h3.1
    ·rw [if_neg h3] at hk;exact .inl hk
theorem zm9 (Lr Lo Lf Lo' : List (Value × Rw)) (t b n B : Nat) (h1 : t ≤ b) (_h2 : b < Lr.length) (h4 : n ≤ b + 1 - t) (hnd : ((Lr ++ Lo).map (·.1.ownBlock)).Nodup) (hlt : ∀ x ∈ Lr ++ Lo, ∀ k, x.1.ownBlock = some k → k < B)
  (hf : (Lf.map (·.1.ownBlock)).Nodup) (hfB : ∀ x ∈ Lf, ∃ k, x.1.ownBlock = some k ∧ B ≤ k) (hs : Lo'.Sublist (Lo ++ (Lr.drop t).take n)) :
  (((Lr.take t ++ (Lr.drop (t + n)).take (b + 1 - t - n) ++ Lf ++ Lr.drop (b + 1)) ++ Lo').map (·.1.ownBlock)).Nodup := by
 have hL : Lr = Lr.take t ++ ((Lr.drop t).take n ++ ((Lr.drop (t + n)).take (b + 1 - t - n) ++ Lr.drop (b + 1))) := by
  have e1 : Lr.drop (t + n) = (Lr.drop (t + n)).take (b + 1 - t - n) ++ Lr.drop (b + 1) := by
   have := (List.take_append_drop (b + 1 - t - n) (Lr.drop (t + n))).symm
   rwa [List.drop_drop, show t + n + (b + 1 - t - n) = b + 1 by omega] at this
  have e2 : Lr.drop t = (Lr.drop t).take n ++ Lr.drop (t + n) := by
   have := (List.take_append_drop n (Lr.drop t)).symm
   rwa [List.drop_drop] at this
  rw [← e1, ← e2, List.take_append_drop]
 generalize hA : Lr.take t = A at *;generalize hF : (Lr.drop t).take n = O at *;generalize hM : (Lr.drop (t + n)).take (b + 1 - t - n) = M at *;generalize hD : Lr.drop (b + 1) = D at *;have p1 : (Lr ++ Lo).Perm ((A ++ M ++ D) ++ (Lo ++ O)) := by
  rw [hL];have q1 : (A ++ (O ++ (M ++ D)) ++ Lo).Perm (A ++ ((M ++ D) ++ O) ++ Lo) := List.Perm.append_right _ (List.Perm.append_left _ List.perm_append_comm);refine q1.trans ?_;have q2 : (A ++ ((M ++ D) ++ O) ++ Lo) = (A ++ M ++ D) ++ (O ++ Lo) := (by simp);rw [q2];exact List.Perm.append_left _ List.perm_append_comm
 have n1 : (((A ++ M ++ D) ++ (Lo ++ O)).map (·.1.ownBlock)).Nodup := (p1.map _).nodup_iff.1 hnd;have n2 : (((A ++ M ++ D) ++ Lo').map (·.1.ownBlock)).Nodup := n1.sublist ((List.Sublist.append_left hs _).map _);have p2 : ((A ++ M ++ Lf ++ D) ++ Lo').Perm (((A ++ M ++ D) ++ Lo') ++ Lf) := by
  have q1 : ((A ++ M ++ Lf ++ D) ++ Lo') = (A ++ M) ++ (Lf ++ (D ++ Lo')) := (by simp);have q2 : (((A ++ M ++ D) ++ Lo') ++ Lf) = (A ++ M) ++ ((D ++ Lo') ++ Lf) := (by simp);rw [q1, q2];exact List.Perm.append_left _ List.perm_append_comm
 refine (p2.map _).nodup_iff.2 ?_;rw [List.map_append, List.nodup_append];refine ⟨n2, hf, fun a ha c hc e => ?_⟩;obtain ⟨x, hx, rfl⟩ := List.mem_map.1 ha;obtain ⟨y, hy, rfl⟩ := List.mem_map.1 hc;obtain ⟨k, hk, hkB⟩ := hfB y hy;have hx' : x ∈ (A ++ M ++ D) ++ (Lo ++ O) := by
  rcases List.mem_append.1 hx with h | h
  ·exact List.mem_append_left _ h
  ·exact List.mem_append_right _ (hs.subset h)
 have := hlt x (p1.mem_iff.2 hx') k (by rw [e]; exact hk);omega
end
section
open Go.RowKit
def zn5 (B : Nat) (w : World) : Prop := ∀ w', Below B w w' → w'.cell? ⟨4, 15, none⟩ = some (.int .u8 4)
set_option maxRecDepth 100000 in
theorem zna (w : World) (h : w.cell? ⟨4, 15, none⟩ = some (.int .u8 4)) :
  Calls Tryz.prog 298 #[.int .u64 16] w fun e w' => e = .returned (.int .i64 4) ∧ w' = w := by
 have hb : IntKind.u64.wrap (bits BinOp.and IntKind.u64 16 (IntKind.u64.wrap (-16)) * 285870213051353865) / 288230376151711744 = 15 := (by kernel_rfl);go_enter Tryz.func298, Tryz.ntmps298;go_wp2_with fail;exact zT rfl rfl rfl ⟨rfl, rfl⟩
set_option maxRecDepth 100000 in
theorem zoI (w : World) (h : w.cell? ⟨4, 15, none⟩ = some (.int .u8 4)) :
  Calls Tryz.prog 277 #[.int .u64 16] w fun e w' => e = .returned (.int .i64 4) ∧ w' = w := by
 go_enter Tryz.func277, Tryz.ntmps277;go_wp2_with fail;refine (zna w h).mono ?_;rintro e w2 ⟨rfl, rfl⟩;go_wp2_with fail;exact zT rfl rfl rfl ⟨rfl, rfl⟩
set_option maxRecDepth 100000 in
theorem znb (w : World) : Calls Tryz.prog 276 #[.int .i64 16] w fun e w' => e = .returned (.bool true) ∧ w' = w := by
 go_enter Tryz.func276, Tryz.ntmps276;go_wp2_with fail;exact zT rfl rfl rfl ⟨rfl, rfl⟩
def zeU : Nat → Nat
 | 0 => 16777216
 | 1 => 1048576
 | 2 => 65536
 | 3 => 4096
 | 4 => 256
 | 5 => 16
 | _ => 1
theorem zlB {k x : Nat} (hk : k < 6) (h : zeU k ≤ x ∧ x < 2 * zeU k) : 16 ≤ x ∧ zeU (k + 1) ≤ x / 16 ∧ x / 16 < 2 * zeU (k + 1) := by
 match k, hk with
 | 0, _ => simp only [zeU] at h ⊢; omega
 | 1, _ => simp only [zeU] at h ⊢; omega
 | 2, _ => simp only [zeU] at h ⊢; omega
 | 3, _ => simp only [zeU] at h ⊢; omega
 | 4, _ => simp only [zeU] at h ⊢; omega
 | 5, _ => simp only [zeU] at h ⊢; omega
theorem zes (bs : List UInt8) (i : Nat) (b : UInt8) : (zk bs).toArray.setIfInBounds i (.int .u8 (b.toNat : Int)) = (zk (bs.set i b)).toArray := by
 unfold zk;rw [List.map_set, List.setIfInBounds_toArray]
theorem zo3 (x : Nat) (h : x < 18446744073709551616) : bits BinOp.and IntKind.u64 (x : Int) 15 = ((x % 16 : Nat) : Int) := by
 have := bits_and_u64_nat x 15 h (by decide);rw [show ((15 : Nat) : Int) = 15 from rfl] at this;rw [this, show (15 : Nat) = 2 ^ 4 - 1 from rfl, Nat.and_two_pow_sub_one_eq_mod]
theorem zo4 {P : Program} {fn : Func} {R : Ending → World → Prop} {a : Act} {w : World} {t u : Tmp} {v1 v2 : Value} (h : fn.results = #[.tmp t, .tmp u]) (hd : a.defers = []) (h1 : a.tmps.getD t undef = v1) (h2 : a.tmps.getD u undef = v2) (hR : R (.returned (.tuple #[v1, v2])) w) :
  bodyPost P fn R .ret a w := by
 subst h1 h2; exact bodyPost_ret (results_tmp2 h _ _ _) hd hR
set_option maxRecDepth 100000 in
set_option maxHeartbeats 4000000 in
theorem zjC (u : Nat) (h0 : 16777216 ≤ u) (h1 : u < 33554432) (w : World) (hd : zn5 w.heap.size w) :
  Calls Tryz.prog 200 #[.slice none 0 0, .int .u64 u, .int .i64 16, .bool false, .bool false] w fun e w' => ∃ l : List UInt8, l.length = 7 ∧ e = .returned (.tuple #[.slice none 0 0, .string ⟨l.toArray⟩]) ∧ Below w.heap.size w w' := by
 go_enter Tryz.func200, Tryz.ntmps200;go_wp2_with fail;refine (znb _).mono ?_;rintro e w2 ⟨rfl, hw2⟩;subst w2;have HB1 := Lib.hid ((Below.refl w.heap.size w).alloc (Nat.le_refl _) (.cells (Array.replicate 65 (.int .u8 0)) 252));go_wp2_with fail;refine (zoI _ (hd _ HB1.out)).mono ?_;rintro e w2 ⟨rfl, hw2⟩;subst w2;go_upto_region 11 with fail
 go_loopw [1, 13] (fun uv iv wr => ∃ k x : Nat, (k ≤ 6 ∧ zeU k ≤ x ∧ x < 2 * zeU k ∧ x < 33554432) ∧ uv = .int .u64 x ∧ iv = .int .i64 (65 - k : Nat) ∧ Hid (Below w.heap.size w wr) ∧ Hid (∃ bs : List UInt8, bs.length = 65 ∧ wr.heap[w.heap.size]? = some (.cells (zk bs).toArray 252 (0, 0)))) (fun _ iv _ => (intOf iv).toNat)
 case atStart => exact ⟨0, u, ⟨by decide, h0, h1, h1⟩, rfl, rfl, HB1.out, List.replicate 65 0, by simp, zE _ _⟩
 case round =>
  obtain ⟨k, x, ⟨hk, hlo, hhi, hxx⟩, rfl, rfl, HB, HC⟩ := hrel;by_cases hk6 : k < 6
  ·obtain ⟨s1, s2, s3⟩ := zlB hk6 ⟨hlo, hhi⟩;have d1 : decide ((16 : Int) ≤ (x : Int)) = true := decide_eq_true (by omega);have d1' : decide (16 ≤ x) = true := decide_eq_true s1;have ha := zo3 x (by omega);obtain ⟨m, hm⟩ : ∃ m : Nat, m = 64 - k := ⟨_, rfl⟩;have hw1 : IntKind.i64.wrap (((65 - k : Nat) : Int) - 1) = (m : Int) := (by rw [zb _ (by omega) (by omega)]; omega);obtain ⟨bs, hbl, hblk⟩ := HC.out;have hm65 : (m : Int) < 65 ∧ m < 65 := (by omega);have c0 : wr.cell? ⟨w.heap.size, m, none⟩ = some (.int .u8 ((bs.getD m 0).toNat : Int)) := by
    rw [za hblk m];unfold zk;rw [List.getElem?_toArray, List.getElem?_map, List.getD_eq_getElem?_getD, List.getElem?_eq_getElem (by omega)];rfl
   have z0 : wr.frozen? ⟨w.heap.size, m, none⟩ = false := zy hblk m;have HBK := Lib.hid hblk;have HBL := Lib.hid hbl;have HM := Lib.hid hm;clear hblk hbl hm;go_wp2_with fail;have hmk : m = 65 - (k + 1) := (by have := HM.out; omega);refine ⟨⟨k + 1, x / 16, ⟨by omega, s2, s3, by omega⟩, by simp, by rw [hmk], HB.out.trans (ZW (zO (zr wr (some w.heap.size)) m _) HB.out.size (fun q hq => by injection hq with hq; omega)), _, ?_, (zw HBK.out m _).trans (by rw [zes])⟩, ?_⟩
   ·rw [List.length_set]; exact HBL.out
   ·simp [intOf]; have := HM.out; omega
  ·have hk : k = 6 := (by omega);subst hk;have hx1 : x = 1 := (by simp only [zeU] at hlo hhi; omega);subst hx1;obtain ⟨bs, hbl, hblk⟩ := HC.out;have c0 : wr.cell? ⟨w.heap.size, 58, none⟩ = some (.int .u8 ((bs.getD 58 0).toNat : Int)) := by
    rw [za hblk 58];unfold zk;rw [List.getElem?_toArray, List.getElem?_map, List.getD_eq_getElem?_getD, List.getElem?_eq_getElem (by omega)];rfl
   have z0 : wr.frozen? ⟨w.heap.size, 58, none⟩ = false := zy hblk 58;have HBK := Lib.hid hblk;have HBL := Lib.hid hbl;clear hblk hbl;go_upto_region 30 with fail;have HK2 : ∃ b : UInt8, Hid ((wr.setCell ⟨w.heap.size, 58, none⟩ (.int .u8 (b.toNat : Int))).heap[w.heap.size]? = some (.cells (zk (bs.set 58 b)).toArray 252 (0, 0)) ∧ b = 49) := ⟨49, (zw HBK.out 58 _).trans (by rw [zes]), rfl⟩;obtain ⟨b, HK2⟩ := HK2;have HB2 := Lib.hid (HB.out.trans (ZW (zO (zr wr (some w.heap.size)) 58 (.int .u8 (b.toNat : Int))) HB.out.size (fun q hq => by injection hq with hq; omega)));generalize hw2 : wr.setCell ⟨w.heap.size, 58, none⟩ (.int .u8 (b.toNat : Int)) = w2 at *;have hw3 : ∀ v, v = Value.int .u8 (b.toNat : Int) → wr.setCell ⟨w.heap.size, 58, none⟩ v = w2 := fun v hv => (by rw [hv, hw2]);rw [hw3 _ (by rw [HK2.out.2]; rfl)];have hbl : (bs.set 58 b).length = 65 := (by rw [List.length_set]; exact HBL.out);generalize bs.set 58 b = cs at *;have hrd : zaw w2 1 (.slice (some ⟨w.heap.size, 58, none⟩) 7 7) (cs.drop 58).length (zk (cs.drop 58)) := by
    have e : (cs.drop 58).length = 7 := (by rw [List.length_drop, hbl]);rw [e];refine .inr ⟨_, _, rfl, by unfold zk; rw [List.length_map, e], fun j v hv => ?_⟩;rw [zaO, za HK2.out.1 (58 + j), List.getElem?_toArray];unfold zk at hv ⊢;rw [List.map_drop, List.getElem?_drop] at hv;exact hv
   have hcv := zN (P := Tryz.prog) Tryz.underlying38 Tryz.underlying5 Tryz.underlying9 hrd;have HCL := Lib.hid (show (cs.drop 58).length = 7 by rw [List.length_drop, hbl]);clear hrd hbl hw2 hw3 c0 z0;generalize cs.drop 58 = ds at *;go_wp2_with fail;exact zo4 rfl rfl rfl rfl ⟨ds, HCL.out, rfl, HB2.out⟩
set_option maxRecDepth 100000 in
theorem zhz (u : Nat) (h0 : 16777216 ≤ u) (h1 : u < 33554432) (w : World) (hd : zn5 w.heap.size w) :
  Calls Tryz.prog 143 #[.int .i64 u, .int .i64 16] w fun e w' => ∃ l : List UInt8, l.length = 7 ∧ e = .returned (.string ⟨l.toArray⟩) ∧ Below w.heap.size w w' := by
 have d0 : decide ((u : Int) < 0) = false := decide_eq_false (by omega);have HD := Lib.hid hd;clear hd;go_enter Tryz.func143, Tryz.ntmps143;go_wp2_with fail;refine (zjC u h0 h1 w HD.out).mono ?_;rintro e w2 ⟨l, hl, rfl, b2⟩;have HL := Lib.hid hl;have HB := Lib.hid b2;clear hl b2;go_wp2_with fail;exact zT rfl rfl rfl ⟨l, HL.out, rfl, HB.out⟩
set_option maxRecDepth 100000 in
theorem ziE (u : Nat) (h0 : 16777216 ≤ u) (h1 : u < 33554432) (w : World) (hd : zn5 w.heap.size w) :
  Calls Tryz.prog 104 #[.int .i64 u, .int .i64 16] w fun e w' => ∃ l : List UInt8, l.length = 7 ∧ e = .returned (.string ⟨l.toArray⟩) ∧ Below w.heap.size w w' := by
 have HD := Lib.hid hd;clear hd;go_enter Tryz.func104, Tryz.ntmps104;go_wp2_with fail;refine (zhz u h0 h1 w HD.out).mono ?_;rintro e w2 ⟨l, hl, rfl, b2⟩;have HL := Lib.hid hl;have HB := Lib.hid b2;clear hl b2;go_wp2_with fail;exact zT rfl rfl rfl ⟨l, HL.out, rfl, HB.out⟩
end
section
open Go.RowKit
set_option maxHeartbeats 2000000 in
set_option maxRecDepth 100000 in
theorem zgo (B b : Nat) (bs : List Value) (c : Int) (w : World) (h : Lib.IsBuilderF 118 5 B b bs w) (hlen : bs.length + 1 ≤ 1000000000) (hBw : B ≤ w.heap.size) :
  Calls Tryz.prog 63 #[.pointer (some ⟨b, 0, none⟩), .int .u8 c] w fun e w' => e = .returned .nilIface ∧ Lib.IsBuilderF 118 5 B b (bs ++ [.int .u8 c]) w' ∧ Below B w w' := by
 obtain ⟨i0, hi, hz0, hz1, hz2⟩ := info_parts (Z6).info;have HC := Lib.hid (zeS B b bs w h);clear h;go_enter Tryz.func63, Tryz.ntmps63;go_wp2_with fail;refine HC.out.mono ?_;rintro e w1 ⟨rfl, h1, hb1⟩;obtain ⟨hB, v, hbk, hown, hne⟩ := h1;have c0 : w1.cell? ⟨b, 0, none⟩ = some (.pointer (some ⟨b, 0, none⟩)) := za hbk 0;have c1 : w1.cell? ⟨b, 1, none⟩ = some v := za hbk 1;have HI := Lib.hid hi;have HZ := Lib.hid hz0;have HZ1 := Lib.hid hz1;have HZ2 := Lib.hid hz2;clear hi hz0 hz1 hz2;go_wp2_with (at_builtin; refine zaz ?_);unfold zay;refine wpList_append_ownF _ rfl _ _ 38 rfl B 5 i0 (.int .u8 0) 1 1 Tryz.underlying38 HI.out HZ.out HZ1.out HZ2.out rfl (by decide) v bs.length bs rfl (hown.alloc _) ⟨w1.heap.size, 0, none⟩ 1 1 [.int .u8 c] rfl rfl ?c1 ?c2 ?c3 ?c4 ?c5 ?_
 case c1 =>
  intro j u hj
  match j, hj with
  | 0, hj => simp at hj; subst hj; simp [Addr.add]
 case c2 => intro u hu; simp at hu; subst hu; rfl
 case c3 => unfold maxLen; omega
 case c4 => omega
 case c5 => have := hb1.size; simp; omega
 intro v' w2 hown' hgrow _;have hlt : b < w1.heap.size := zj hbk;have hb2 : w2.heap[b]? = some (.cells #[.pointer (some ⟨b, 0, none⟩), v] 118 (0, 0)) := by
  rw [hgrow.block b (by simp; omega) (fun e => hne e.symm), heap_alloc_old w1 _ hlt];exact hbk
 have d0 : w2.cell? ⟨b, 0, none⟩ = some (.pointer (some ⟨b, 0, none⟩)) := za hb2 0;have d1 : w2.cell? ⟨b, 1, none⟩ = some v := za hb2 1;have f1 : w2.frozen? ⟨b, 1, none⟩ = false := zy hb2 1;obtain ⟨g, cap, rfl⟩ : ∃ g cap, v' = .slice (some ⟨g, 0, none⟩) (bs.length + 1) cap := by
  rcases hown'.2 with ⟨_, h0⟩ | ⟨g, cap, cur, fz, hv, _⟩
  ·omega
  ·exact ⟨g, cap, hv⟩
 have HP := Lib.hid (Lib.BuilderAtF.put (T := 118) (e := 5) hB hb2 (bs' := bs ++ [.int .u8 c]) (by simpa using hown') (by decide));have HBB := Lib.hid (((hb1.alloc (by have := hb1.size; omega) _).grown hgrow (by have := hb1.size; simp; omega) (fun k hk => (hown.lt k hk).1)).setCell (p := ⟨b, 1, none⟩) hB (.slice (some ⟨g, 0, none⟩) (bs.length + 1) cap));clear hown hown' hgrow hb1 hbk hb2 HC;go_wp2_with fail;exact zT rfl rfl rfl ⟨rfl, .inr HP.out, HBB.out⟩
set_option maxHeartbeats 2000000 in
set_option maxRecDepth 100000 in
theorem zc0 (B b : Nat) (bs : List Value) (s : ByteArray) (w : World) (h : Lib.IsBuilderF 118 5 B b bs w) (hlen : bs.length + s.size ≤ 1000000000) (hBw : B ≤ w.heap.size) :
  Calls Tryz.prog 64 #[.pointer (some ⟨b, 0, none⟩), .string s] w fun e w' => e = .returned (.tuple #[.int .i64 s.size, .nilIface]) ∧ Lib.IsBuilderF 118 5 B b (bs ++ Lib.strCells s) w' ∧ Below B w w' := by
 obtain ⟨i0, hi, hz0, hz1, hz2⟩ := info_parts (Z6).info;have HC := Lib.hid (zeS B b bs w h);clear h;go_enter Tryz.func64, Tryz.ntmps64;go_wp2_with fail;refine HC.out.mono ?_;rintro e w1 ⟨rfl, h1, hb1⟩;obtain ⟨hB, v, hbk, hown, hne⟩ := h1;have c0 : w1.cell? ⟨b, 0, none⟩ = some (.pointer (some ⟨b, 0, none⟩)) := za hbk 0;have c1 : w1.cell? ⟨b, 1, none⟩ = some v := za hbk 1;have HI := Lib.hid hi;have HZ := Lib.hid hz0;have HZ1 := Lib.hid hz1;have HZ2 := Lib.hid hz2;clear hi hz0 hz1 hz2;go_wp2_with (at_builtin; refine zaz ?_);unfold zay;refine Lib.wpList_append_own_stringF _ rfl _ _ 38 9 rfl B 5 i0 Tryz.underlying38 Tryz.underlying9 HI.out HZ.out HZ1.out HZ2.out _ _ _ rfl hown s rfl ?c3 ?c4 ?c5 ?_
 case c3 => unfold maxLen; omega
 case c4 => omega
 case c5 => have := hb1.size; omega
 intro v' w2 hown' hgrow _;have hlt : b < w1.heap.size := zj hbk;have hb2 : w2.heap[b]? = some (.cells #[.pointer (some ⟨b, 0, none⟩), v] 118 (0, 0)) := by
  rw [hgrow.block b hlt (fun e => hne e.symm)];exact hbk
 have d0 : w2.cell? ⟨b, 0, none⟩ = some (.pointer (some ⟨b, 0, none⟩)) := za hb2 0;have d1 : w2.cell? ⟨b, 1, none⟩ = some v := za hb2 1;have f1 : w2.frozen? ⟨b, 1, none⟩ = false := zy hb2 1;obtain ⟨ao, n', cap, rfl⟩ : ∃ ao n' cap, v' = .slice ao n' cap := by
  rcases hown'.2 with ⟨hv, _⟩ | ⟨g, cap, cur, fz, hv, _⟩
  ·exact ⟨_, _, _, hv⟩
  ·exact ⟨_, _, _, hv⟩
 have HP := Lib.hid (Lib.BuilderAtF.put (T := 118) (e := 5) hB hb2 (bs' := bs ++ Lib.strCells s) (by simpa [Lib.strCells_length] using hown') (by decide));have HBB := Lib.hid ((hb1.grown hgrow (by have := hb1.size; omega) (fun k hk => (hown.lt k hk).1)).setCell (p := ⟨b, 1, none⟩) hB (.slice ao n' cap));clear hown hown' hgrow hb1 hbk hb2 HC;go_wp2_with fail;exact zct rfl rfl rfl rfl ⟨rfl, .inr HP.out, HBB.out⟩
end
section
open Go.ChangeShapes Go.WideShapes Go.ChangeAt Go.RowKit Go.ChangeMaps
theorem zjD {n : Int} (h : (Lit.int .i64 n).wf = true) : -9223372036854775808 ≤ n ∧ n ≤ 9223372036854775807 := by
 simp only [Lit.wf, Bool.and_eq_true, decide_eq_true_eq] at h;exact h
end
end Go.Proofs.YtlfdgkiliegaiaaGreatDoor
