/- Texts laid together: Own4 G2 G3 M3 W6 W7. -/
import Derived.Test.YtlfdgkiliegaiaaGreatDoorY1
import Derived.Test.YtlfdgkiliegaiaaGreatDoorY2
import Derived.Test.YtlfdgkiliegaiaaGreatDoorY3
import Derived.Deep.RegionLaw
import Derived.Deep.DeepCutAuto
import Derived.Test.YtlfdgkiliegaiaaGreatDoorRows
import Derived.Deep.AppendSrc
import Derived.Lib.AppendStr
import Derived.Lib.FrozenHead
import Derived.ArgAppend
import Derived.Laws.IdiomCopy
import Derived.Laws.IdiomStrings
import Derived.Deep.Upon
import Derived.WalkKit
import Derived.WalkSpells
import Derived.WalkLawsBesides
import Derived.BigQuiet
import Derived.Lib.Hide
import Derived.Deep.QuietTactic
import Derived.Lib.AppendIntMem
import Derived.Lib.ItoaNum
import Derived.StillTailTactics
import Derived.Lib.SlBytesConst
import Derived.Test.YtlfdgkiliegaiaaGreatDoorShelf
import Derived.Lib.ItoaLen
import Derived.Laws.Cover4
set_option linter.unusedVariables false
namespace Go.Proofs.YtlfdgkiliegaiaaGreatDoor
section
open Go.RowKit
theorem zeN {P : Program} {ops : Array Oper} {o : Oper} {a : Act} {w : World} {K : Act → World → Prop} {Q : Exit → Act → World → Prop} {E : Prop}
  {t tx e : TypeId} {size bytes : Nat} {z : Value} (EI : zdC P t e size bytes z) (hgd : o.guard = none) (s x : Operand)
  (ho : o.op = .call { callee := .builtin .append, args := #[s, x], argTypes := #[t, tx] })
  (base : Nat) {v : Value} {n : Nat} {xs : List Value} (hown : zn w base size v n xs) (hs : a.eval s = v)
  {y : Value} {m : Nat} {news : List Value} (hr : Src P size tx y m news w) (hx : a.eval x = y)
  (h63 : n + m ≤ maxLen) (hbytes : (n + m) * bytes ≤ 140737488355328) (hbase : base ≤ w.heap.size)
  (h : ∀ v' w', zn w' base size v' (n + m) (xs ++ news) → w.grownBy w' v.ownBlock → (∀ k, v'.ownBlock = some k → v.ownBlock = some k ∨ w.heap.size ≤ k) → K (a.put o.dst v') w') :
  if Region.wanted o (yielded ops a.tmps) = true then Oper.wp P o a w K Q else E := by
 have hw : Region.wanted o (yielded ops a.tmps) = true := (by simp [Region.wanted, hgd]);rw [if_pos hw];obtain ⟨v', w', hrr, h2, h3, h4⟩ := zhO (P := P) w (ty := o.type) EI base hown hr h63 hbytes hbase;unfold Oper.wp execOp;simp only [ho, resolve, invoke, builtin, Sem.run_bind, Sem.run_pure, Result.andThen_ok, List.map_toArray, List.map_cons, List.map_nil, hs, hx, hrr];exact h _ _ h2 h3 h4
theorem znZ {P : Program} (w : World) {tx : TypeId} (hk : P.underlying tx = some .string) (s : ByteArray) : Src P 1 tx (.string s) s.data.toList.length (zk s.data.toList) w := by
 rw [Array.length_toList]; exact Src.ofString w hk s
section
variable {P : Program} {w : World} {ops : Array Oper} {rest : List Oper} {o : Oper} {a : Act} {Q : Exit → Act → World → Prop}
end
theorem zdY {w w' : World} {row : Option Nat} {size : Nat} {y : Value} {m : Nat} {news : List Value} (h : zaw w size y m news) (g : w.grownBy w' row) (hne : ∀ k, y.ownBlock = some k → row ≠ some k) : zaw w' size y m news := by
 rcases h with h | ⟨a, c, rfl, h1, h2⟩
 ·exact .inl h
 ·exact .inr ⟨a, c, rfl, h1, fun j u hu => g.cell (h2 j u hu) (by rw [zcR]; exact fun e => hne a.block rfl e.symm)⟩
theorem Z6 : zdC Tryz.prog 38 5 1 1 (.int .u8 0) := ⟨Tryz.underlying38, by kernel_rfl, rfl, by decide⟩
end
section
open Go.RowKit
theorem zb (n : Int) (h1 : -9223372036854775808 ≤ n) (h2 : n ≤ 9223372036854775807) : IntKind.i64.wrap n = n := by
 unfold IntKind.wrap;simp [IntKind.bits, IntKind.signed];omega
theorem zbq {w : World} {base b off n c : Nat} {l : List Cel} (h : zn w base 5 (.slice (some ⟨b, off, none⟩) n c) n (zp l)) (k : Nat) (hk : k < n) (hl : l.length = n) :
  w.cell? ⟨b, off + k * 5, none⟩ = some (.int .i32 (l.getD k noC).rune) ∧ w.cell? ⟨b, off + k * 5 + 1, none⟩ = some (.int .i64 (l.getD k noC).width) ∧ w.cell? ⟨b, off + k * 5 + 2, none⟩ = some (.int .i64 (l.getD k noC).sty.fg) ∧
  w.cell? ⟨b, off + k * 5 + 3, none⟩ = some (.int .i64 (l.getD k noC).sty.bg) ∧ w.cell? ⟨b, off + k * 5 + 4, none⟩ = some (.int .i64 (l.getD k noC).sty.attr) := by
 obtain ⟨e1, h2⟩ := h;rcases h2 with ⟨e, _⟩ | ⟨b', off', c', e, hb, hbs, hnc, hcm, hcells, hxs⟩
 ·simp at e
 ·simp only [Value.slice.injEq, Option.some.injEq, Addr.mk.injEq] at e;obtain ⟨⟨rfl, rfl, _⟩, _, rfl⟩ := e;have key : ∀ i u, i < 5 → (l.getD k noC).vals[i]? = some u → w.cell? ⟨b, off + (k * 5 + i), none⟩ = some u := fun i u hi hu => hxs _ u (by rw [zid l k (by omega) i hi]; exact hu);exact ⟨key 0 _ (by decide) rfl, key 1 _ (by decide) rfl, key 2 _ (by decide) rfl, key 3 _ (by decide) rfl, key 4 _ (by decide) rfl⟩
set_option maxRecDepth 100000 in
set_option maxHeartbeats 2000000 in
theorem zb3 (l : List Cel) (x : Int) (b off n c : Nat) (w : World) (h : zn w 0 5 (.slice (some ⟨b, off, none⟩) n c) n (zp l)) (hn : l.length = n) (hm : n ≤ 1000000) (hx : -4611686018427387904 ≤ x ∧ x ≤ 4611686018427387904) :
  Calls Tryz.prog 134 #[.slice (some ⟨b, off, none⟩) n c, .int .i64 x] w fun e w' => e = .returned (.tuple #[]) ∧ w.grownBy w' (some b) ∧ zn w' 0 5 (.slice (some ⟨b, off, none⟩) n c) n (zp (zC l x)) := by
 have HO := Lib.hid h;have hnc : n ≤ c := by
  rcases h.2 with ⟨e, _⟩ | ⟨b', off', c', e, _, _, hnc, _⟩
  ·simp at e
  ·simp only [Value.slice.injEq] at e; omega
 clear h;by_cases h0 : 0 < x ∧ x < (n : Int);rotate_left
 ·have HE := Lib.hid (show zC l x = l by unfold zC; rw [if_neg (by rw [hn]; omega)]);by_cases h1 : 0 < x
  ·have hd1 : decide (0 < x) = true := decide_eq_true h1;have hd2 : decide (x < (n : Int)) = false := decide_eq_false (by omega);go_enter Tryz.func134, Tryz.ntmps134;go_wp2_with fail;go_end0;refine ⟨rfl, zr _ _, ?_⟩;rw [HE.out]; exact HO.out
  ·have hd1 : decide (0 < x) = false := decide_eq_false h1;go_enter Tryz.func134, Tryz.ntmps134;go_wp2_with fail;go_end0;refine ⟨rfl, zr _ _, ?_⟩;rw [HE.out]; exact HO.out
 obtain ⟨k, rfl⟩ : ∃ k : Nat, x = (k : Int) := ⟨x.toNat, by omega⟩;have hd1 : decide (0 < (k : Int)) = true := decide_eq_true h0.1;have hd2 : decide ((k : Int) < (n : Int)) = true := decide_eq_true h0.2;have hd1' : decide (0 < k) = true := decide_eq_true (by omega);have hd2' : decide (k < n) = true := decide_eq_true (by omega);obtain ⟨c0, c1, c2, c3, c4⟩ := zbq HO.out k (by omega) hn;have hix := ZN (P := Tryz.prog) (size := 5) Tryz.underlying68 zI b off n c k (by omega);by_cases hw : (l.getD k noC).width = 0
 ·have HE := Lib.hid (show zC l k = zaX l (k - 1) 2 (l.getD k noC).sty by unfold zC; rw [if_pos ⟨h0.1, by rw [hn]; exact h0.2, by rw [Int.toNat_natCast]; exact hw⟩, Int.toNat_natCast]);have hd3 : ((l.getD k noC).width == 0) = true := (by rw [hw]; rfl);have hsl := zbP (P := Tryz.prog) (size := 5) Tryz.underlying68 zI b off n c (k - 1) (k + 1) (by omega) (by omega) (by omega);rw [show ((k - 1 : Nat) : Int) = (k : Int) - 1 by omega, show ((k + 1 : Nat) : Int) = (k : Int) + 1 by omega, show k + 1 - (k - 1) = 2 by omega] at hsl;have hw1 : IntKind.i64.wrap ((k : Int) - 1) = (k : Int) - 1 := zb _ (by omega) (by omega);have hw2 : IntKind.i64.wrap ((k : Int) + 1) = (k : Int) + 1 := zb _ (by omega) (by omega);generalize l.getD k noC = cc at *;obtain ⟨cr, cw, cs⟩ := cc;dsimp only at c0 c1 c2 c3 c4 hw hd3 HE;have HF := Lib.hid (fun wx (ho : zn wx 0 5 (.slice (some ⟨b, off, none⟩) n c) n (zp l)) => zdd l cs b off n c (k - 1) 2 (c - (k - 1)) wx ho hn (by omega) (by unfold maxLen; omega));unfold Sty.val at HF;go_enter Tryz.func134, Tryz.ntmps134;go_upto_region 1 with fail
  go_still_tail 11, (by kernel_rfl)
  change wpList _ _ _ _ _ w.drew;have HO1 := Lib.hid (show zn w.drew 0 5 (.slice (some ⟨b, off, none⟩) n c) n (zp l) from HO.out);generalize hwd : w.drew = wd at *;go_wp2_with fail;refine (HF.out _ HO1.out).mono ?_;rintro e w2 ⟨rfl, g2, o2⟩;have HG2 := Lib.hid (Zs (show w.grownBy wd (some b) by rw [← hwd]; exact zbV (zr _ _)) g2);have HO2 := Lib.hid o2;clear g2 o2;go_wp2_with fail;go_end0;refine ⟨rfl, HG2.out, ?_⟩;rw [HE.out]; exact HO2.out
 ·have HE := Lib.hid (show zC l k = l by unfold zC; rw [if_neg (by rw [Int.toNat_natCast]; intro hh; exact hw hh.2.2)]);have hd3 : ((l.getD k noC).width == 0) = false := beq_eq_false_iff_ne.2 hw;generalize l.getD k noC = cc at *;obtain ⟨cr, cw, cs⟩ := cc;dsimp only at c0 c1 c2 c3 c4 hw hd3;go_enter Tryz.func134, Tryz.ntmps134;go_wp2_with fail;go_end0;refine ⟨rfl, zr _ _, ?_⟩;rw [HE.out]; exact HO.out
theorem zn0 (x y : Int) (w : World) : Calls Tryz.prog 82 #[.int .i64 x, .int .i64 y] w fun e w' => e = .returned (.bool (zie x y)) ∧ w' = w := by
 by_cases h1 : 1 ≤ x;rotate_left
 ·have e : decide (1 ≤ x) = false := decide_eq_false h1;go_enter Tryz.func82, Tryz.ntmps82;go_wp2_with fail;go_ret;exact ⟨ZU (by unfold zie; rw [e]; rfl), rfl⟩
 have e1 : decide (1 ≤ x) = true := decide_eq_true h1;by_cases h2 : x ≤ 250;rotate_left
 ·have e : decide (x ≤ 250) = false := decide_eq_false h2;go_enter Tryz.func82, Tryz.ntmps82;go_wp2_with fail;go_ret;exact ⟨ZU (by unfold zie; rw [e, e1]; rfl), rfl⟩
 have e2 : decide (x ≤ 250) = true := decide_eq_true h2;by_cases h3 : 1 ≤ y;rotate_left
 ·have e : decide (1 ≤ y) = false := decide_eq_false h3;go_enter Tryz.func82, Tryz.ntmps82;go_wp2_with fail;go_ret;exact ⟨ZU (by unfold zie; rw [e, e1, e2]; rfl), rfl⟩
 have e3 : decide (1 ≤ y) = true := decide_eq_true h3;cases h4 : decide (y ≤ 120)
 ·go_enter Tryz.func82, Tryz.ntmps82;go_wp2_with fail;go_ret;exact ⟨ZU (by unfold zie; rw [e1, e2, e3, h4]; rfl), rfl⟩
 ·go_enter Tryz.func82, Tryz.ntmps82;go_wp2_with fail;go_ret;exact ⟨ZU (by unfold zie; rw [e1, e2, e3, h4]; rfl), rfl⟩
end
section
open Go.RowKit
def zf (L : List (Value × Rw)) : List Value := L.flatMap fun x => [x.1, .bool x.2.wrap]
theorem zS (L : List (Value × Rw)) : (zf L).length = L.length * 2 := by
 induction L with
 | nil => rfl
 | cons x L ih =>
  simp only [zf, List.flatMap_cons, List.length_append, List.length_cons, List.length_nil] at ih ⊢;omega
theorem Zq (L M : List (Value × Rw)) : zf (L ++ M) = zf L ++ zf M := by simp [zf]
theorem Z0 (l : List (Value × Rw)) (x : Nat) : (zf l).take (x * 2) = zf (l.take x) := by
 induction l generalizing x with
 | nil => simp [zf]
 | cons c l ih =>
  cases x with
  | zero => simp [zf]
  | succ x =>
   have e : zf (c :: l) = [c.1, .bool c.2.wrap] ++ zf l := rfl;have e2 : zf ((c :: l).take (x + 1)) = [c.1, .bool c.2.wrap] ++ zf (l.take x) := rfl;rw [e, e2, List.take_append, ← ih x];rw [List.take_of_length_le (by simp; omega), show (x + 1) * 2 - [c.1, Value.bool c.2.wrap].length = x * 2 by simp; omega]
theorem ZG (l : List (Value × Rw)) (x : Nat) : (zf l).drop (x * 2) = zf (l.drop x) := by
 induction l generalizing x with
 | nil => simp [zf]
 | cons c l ih =>
  cases x with
  | zero => simp [zf]
  | succ x =>
   have e : zf (c :: l) = [c.1, .bool c.2.wrap] ++ zf l := rfl;rw [e, List.drop_append, show (c :: l).drop (x + 1) = l.drop x from rfl, ← ih x];rw [List.drop_eq_nil_of_le (by simp; omega), show (x + 1) * 2 - [c.1, Value.bool c.2.wrap].length = x * 2 by simp; omega, List.nil_append]
theorem zb4 (l : List (Value × Rw)) (x : Nat) (m : List (Value × Rw)) : zf (z8 l x m) = z8 (zf l) (x * 2) (zf m) := by
 unfold z8;rw [Zq, Zq, ← Z0, ← ZG, zS, Nat.add_mul]
theorem zgW {α : Type} (A B : List α) (x y : α) (n : Nat) (hn : n = A.length) : z8 (A ++ x :: B) n [y] = A ++ y :: B := by
 subst hn;unfold z8;simp
structure zaU (base : Nat) (w : World) (v : Value) (L : List (Value × Rw)) : Prop where
 own : zn w base 2 v L.length (zf L)
 cells : ∀ x ∈ L, zn w base 5 x.1 x.2.cells.length (zp x.2.cells)
 nd : (L.map (·.1.ownBlock)).Nodup
 ap : ∀ x ∈ L, ∃ q, x.1.ownBlock = some q ∧ v.ownBlock ≠ some q
theorem zeO {P : Program} {t e : TypeId} {size bytes : Nat} {z : Value} (EI : zdC P t e size bytes z) (n : Nat) (hn : n ≤ 100000) (hs : size ≤ 100) (hb : bytes ≤ 1000) (w : World) :
  ∃ w', (Instr.makeSlice t (.int .i64 (n : Int)) (.int .i64 (n : Int))).run P w = .ok (.slice (some ⟨w.heap.size, 0, none⟩) n n) w' ∧
   zn w' w.heap.size size (.slice (some ⟨w.heap.size, 0, none⟩) n n) n (madeCells z.cells (n * size)).toList ∧ Below w.heap.size w w' ∧ w.heap.size < w'.heap.size := by
 obtain ⟨h1, h2, h3⟩ := EI;obtain ⟨i, hi, he⟩ := Option.map_eq_some_iff.1 h2;simp only [Prod.mk.injEq] at he;obtain ⟨hz, hsz, hby⟩ := he;have hnb : i.bytes * n ≤ 281474976710656 := by
  have h : i.bytes * n ≤ 1000 * 100000 := Nat.mul_le_mul (by omega) hn;omega
 have hcs : n * size ≤ 16777216 := by
  have h : n * size ≤ 100000 * 100 := Nat.mul_le_mul hn hs;omega
 obtain ⟨w', hr, ho, hg⟩ := run_makeSlice_full (P := P) w w.heap.size t e i z size h1 hi hz hsz .i64 .i64 n hcs hnb (by unfold maxLen; omega) (Nat.le_refl _);refine ⟨w', hr, zac ho, ZW hg (Nat.le_refl _) (fun q hq => by simp at hq), ?_⟩;have := zl (zac ho) w.heap.size rfl;omega
theorem zdZ : zdC Tryz.prog 68 133 5 40 (.agg #[.int .i32 0, .int .i64 0, .int .i64 0, .int .i64 0, .int .i64 0]) := ⟨Tryz.underlying68, by kernel_rfl, rfl, by decide⟩
theorem zcw : zdC Tryz.prog 126 130 2 32 (.agg #[.slice none 0 0, .bool false]) := ⟨Tryz.underlying126, by kernel_rfl, rfl, by decide⟩
theorem zjy (n : Nat) : (madeCells (Value.agg #[.int .i32 0, .int .i64 0, .int .i64 0, .int .i64 0, .int .i64 0]).cells (n * 5)).toList = zp (List.replicate n noC) := by
 apply List.ext_getElem?;intro j;by_cases hj : j < n * 5
 ·have e : j = (j / 5) * 5 + j % 5 := (by omega);have h5 : j % 5 < 5 := Nat.mod_lt _ (by decide);have hl : (madeCells (Value.agg #[.int .i32 0, .int .i64 0, .int .i64 0, .int .i64 0, .int .i64 0]).cells (n * 5)).toList[j]? = some ((#[.int .i32 0, .int .i64 0, .int .i64 0, .int .i64 0, .int .i64 0] : Array Value)[j % 5]!) := by
   unfold madeCells;rw [Array.getElem?_toList, Array.getElem?_map, Array.getElem?_eq_getElem (by simpa using hj), Array.getElem_range];rfl
  rw [hl]
  conv => rhs; rw [e]
  rw [zid _ _ (by rw [List.length_replicate]; omega) _ h5, List.getD_eq_getElem?_getD, List.getElem?_replicate, if_pos (by omega)];have hc : j % 5 = 0 ∨ j % 5 = 1 ∨ j % 5 = 2 ∨ j % 5 = 3 ∨ j % 5 = 4 := (by omega);rcases hc with h | h | h | h | h <;> rw [h] <;> rfl
 ·rw [List.getElem?_eq_none (by rw [Array.length_toList, size_madeCells]; omega), List.getElem?_eq_none (by rw [zbc, List.length_replicate]; omega)]
theorem zd0 (l : List (Value × Rw)) (x : Nat) (h : x < l.length) (i : Nat) (hi : i < 2) : (zf l)[x * 2 + i]? = [(l[x]).1, .bool (l[x]).2.wrap][i]? := by
 induction l generalizing x with
 | nil => simp at h
 | cons c l ih =>
  have e : zf (c :: l) = [c.1, .bool c.2.wrap] ++ zf l := rfl;cases x with
  | zero => rw [e, List.getElem?_append_left (by simp; omega)]; simp
  | succ x =>
   rw [e, List.getElem?_append_right (by simp; omega), show (x + 1) * 2 + i - [c.1, Value.bool c.2.wrap].length = x * 2 + i by simp; omega, ih x (by simpa using h)];rfl
theorem zlz (n : Nat) : (madeCells (Value.agg #[.slice none 0 0, .bool false]).cells (n * 2)).toList = zf (List.replicate n (.slice none 0 0, noR)) := by
 apply List.ext_getElem?;intro j;by_cases hj : j < n * 2
 ·have e : j = (j / 2) * 2 + j % 2 := (by omega);have h5 : j % 2 < 2 := Nat.mod_lt _ (by decide);have hl : (madeCells (Value.agg #[.slice none 0 0, .bool false]).cells (n * 2)).toList[j]? = some ((#[.slice none 0 0, .bool false] : Array Value)[j % 2]!) := by
   unfold madeCells;rw [Array.getElem?_toList, Array.getElem?_map, Array.getElem?_eq_getElem (by simpa using hj), Array.getElem_range];rfl
  rw [hl]
  conv => rhs; rw [e]
  rw [zd0 _ _ (by rw [List.length_replicate]; omega) _ h5, List.getElem_replicate];have hc : j % 2 = 0 ∨ j % 2 = 1 := (by omega);rcases hc with h | h <;> rw [h] <;> rfl
 ·rw [List.getElem?_eq_none (by rw [Array.length_toList, size_madeCells]; omega), List.getElem?_eq_none (by rw [zS, List.length_replicate]; omega)]
theorem zm1 (cols : Nat) (s : Sty) (c : Cel) : zaX (List.replicate cols c) 0 cols s = List.replicate cols (Zc s) := by
 unfold zaX z8;simp
set_option maxRecDepth 100000 in
set_option maxHeartbeats 4000000 in
theorem zeP (n cols : Nat) (s : Sty) (w : World) (hn : n ≤ 10000) (hc : cols ≤ 1000) :
  Calls Tryz.prog 83 #[.int .i64 n, .int .i64 cols, s.val] w fun e w' => ∃ v L, e = .returned v ∧ Below w.heap.size w w' ∧ L.map (·.2) = ZR n cols s ∧ zaU w.heap.size w' v L := by
 have hb0 := zE w (.cells #[.int .i64 s.fg, .int .i64 s.bg, .int .i64 s.attr] 35);have hB0 := (Below.refl w.heap.size w).alloc (Nat.le_refl _) (.cells #[.int .i64 s.fg, .int .i64 s.bg, .int .i64 s.attr] 35);obtain ⟨w1, hmk, ho1, b1, hs1⟩ := zeO zcw n (by omega) (by omega) (by omega) (w.alloc (.cells #[.int .i64 s.fg, .int .i64 s.bg, .int .i64 s.attr] 35));rw [zlz] at ho1;have hsz0 : (w.alloc (.cells #[.int .i64 s.fg, .int .i64 s.bg, .int .i64 s.attr] 35)).heap.size = w.heap.size + 1 := (by simp);rw [hsz0] at hmk ho1 hs1;have HO1 := Lib.hid (zM ho1 (show w.heap.size ≤ w.heap.size + 1 by omega));have HK1 := Lib.hid (zm hb0 b1 (by rw [hsz0]; omega));have HB1 := Lib.hid (hB0.trans (b1.mono (by rw [hsz0]; omega)));clear ho1 b1 hb0 hB0;go_enter Tryz.func83, Tryz.ntmps83;unfold Sty.val;go_wp2_with fail
 go_loopw [8, 13] (fun _ iv wr => ∃ (k : Nat) (L : List (Value × Rw)), k ≤ n ∧ iv = .int .i64 k ∧ L.length = k ∧ Below w.heap.size w wr ∧ wr.heap[w.heap.size]? = some (.cells #[.int .i64 s.fg, .int .i64 s.bg, .int .i64 s.attr] 35 (0, 0)) ∧ w.heap.size + 1 < wr.heap.size ∧
  zn wr w.heap.size 2 (.slice (some ⟨w.heap.size + 1, 0, none⟩) n n) n (zf (L ++ List.replicate (n - k) (.slice none 0 0, noR))) ∧
  Hid ((∀ x ∈ L, x.2 = ⟨List.replicate cols (Zc s), false⟩ ∧ zn wr w.heap.size 5 x.1 cols (zp (List.replicate cols (Zc s))) ∧ ∃ q, x.1.ownBlock = some q ∧ w.heap.size + 1 < q) ∧ (L.map (·.1.ownBlock)).Nodup)) (fun _ iv _ => n - (intOf iv).toNat)
 case atStart =>
  exact ⟨0, [], Nat.zero_le _, rfl, rfl, HB1.out, HK1.out, hs1, HO1.out, fun x hx => by simp at hx, by simp⟩
 case round =>
  obtain ⟨k, L, hk, rfl, hL, hb, hblk, hsz, ho, hcs⟩ := hrel;have HB := Lib.hid hb;have HO := Lib.hid ho;have HCS := Lib.hid hcs;have HK := Lib.hid hblk;clear hb ho hblk hcs;by_cases hlt : k < n
  ·obtain ⟨w2, hmk2, ho2, b2, hs2⟩ := zeO zdZ cols (by omega) (by omega) (by omega) wr;rw [zjy] at ho2;have hix := ZN (P := Tryz.prog) (size := 2) Tryz.underlying126 zH (w.heap.size + 1) 0 n n k hlt;simp only [Nat.zero_add] at hix;have HO2 := zh HO.out b2;have hsp : zf (L ++ List.replicate (n - k) (.slice none 0 0, noR)) = zf L ++ .slice none 0 0 :: (.bool false :: zf (List.replicate (n - (k + 1)) (.slice none 0 0, noR))) := by
    rw [Zq, show n - k = (n - (k + 1)) + 1 by omega, List.replicate_succ];rfl
   have hcell : w2.cell? ⟨w.heap.size + 1, k * 2, none⟩ = some (.slice none 0 0) ∧ w2.frozen? ⟨w.heap.size + 1, k * 2, none⟩ = false := by
    rcases HO2.2 with ⟨e, _⟩ | ⟨b', off', c', e, _, _, hnc, _, hcells, hxs⟩
    ·simp at e
    ·simp only [Value.slice.injEq, Option.some.injEq, Addr.mk.injEq] at e;obtain ⟨⟨rfl, rfl, _⟩, _, rfl⟩ := e;have a1 := hxs (k * 2) _ (by rw [hsp, List.getElem?_append_right (by rw [zS, hL]; omega), zS, hL, Nat.sub_self]; rfl);have a2 := (hcells (k * 2) (by omega)).2;rw [Nat.zero_add] at a1 a2;exact ⟨a1, a2⟩
   obtain ⟨hc2, hf2⟩ := hcell;have HP := zbo HO2 (k * 2) [.slice (some ⟨wr.heap.size, 0, none⟩) cols cols] (by simp; omega);rw [hsp, zgW _ _ _ _ _ (by rw [zS, hL]), Nat.zero_add] at HP;change zn (w2.setCell ⟨w.heap.size + 1, k * 2, none⟩ (.slice (some ⟨wr.heap.size, 0, none⟩) cols cols)) _ _ _ _ _ at HP;have hs3 : (w2.setCell ⟨w.heap.size + 1, k * 2, none⟩ (.slice (some ⟨wr.heap.size, 0, none⟩) cols cols)).heap.size = w2.heap.size := (by simp);have G3 : w2.grownBy (w2.setCell ⟨w.heap.size + 1, k * 2, none⟩ (.slice (some ⟨wr.heap.size, 0, none⟩) cols cols)) (some (w.heap.size + 1)) := zO (zr _ _) _ _;have hc3 : (w2.setCell ⟨w.heap.size + 1, k * 2, none⟩ (.slice (some ⟨wr.heap.size, 0, none⟩) cols cols)).cell? ⟨w.heap.size + 1, k * 2, none⟩ = some (.slice (some ⟨wr.heap.size, 0, none⟩) cols cols) :=
    World.cell?_setCell_same' w2 _ _ (by rw [hc2]; rfl)
   have HO3 := Lib.hid HP;have HF3 := Lib.hid (zx ho2 G3 (by intro q hq e; simp [Value.ownBlock] at hq; injection e with e; omega));have hk3 := zo (zm HK.out b2 (by omega)) G3 (by intro e; injection e with e; omega);have HB3 := Lib.hid ((HB.out.trans (b2.mono HB.out.size)).grown G3 (by have := HB.out.size; have := b2.size; omega) (by intro q hq; injection hq with hq; omega));have HCS3 := Lib.hid (show (∀ x ∈ L, x.2 = ⟨List.replicate cols (Zc s), false⟩ ∧ zn (w2.setCell ⟨w.heap.size + 1, k * 2, none⟩ (.slice (some ⟨wr.heap.size, 0, none⟩) cols cols)) w.heap.size 5 x.1 cols (zp (List.replicate cols (Zc s))) ∧ ∃ q, x.1.ownBlock = some q ∧ w.heap.size + 1 < q ∧ q < wr.heap.size) ∧ (L.map (·.1.ownBlock)).Nodup from
    ⟨fun x hx => by
     obtain ⟨e1, e2, q, e3, e4⟩ := HCS.out.1 x hx;exact ⟨e1, zx (zh e2 b2) G3 (by intro q' hq' e; rw [e3] at hq'; injection hq' with hq'; injection e with e; omega), q, e3, e4, (zl e2 q e3).2⟩, HCS.out.2⟩)
   clear HP ho2 HO2 G3;have hs2' := b2.size;go_upto_region 6 with fail;generalize hw3 : w2.setCell ⟨w.heap.size + 1, k * 2, none⟩ (.slice (some ⟨wr.heap.size, 0, none⟩) cols cols) = w3 at *;have c0 := za hk3 0;have c1 := za hk3 1;have c2 := za hk3 2;replace c0 : w3.cell? ⟨w.heap.size, 0, none⟩ = some (.int .i64 s.fg) := c0;replace c1 : w3.cell? ⟨w.heap.size, 1, none⟩ = some (.int .i64 s.bg) := c1;replace c2 : w3.cell? ⟨w.heap.size, 2, none⟩ = some (.int .i64 s.attr) := c2
   go_still_tail 6, (by kernel_rfl)
   change wpList _ _ _ _ _ w3.drew;have hFd := zM (show zn w3.drew wr.heap.size 5 (.slice (some ⟨wr.heap.size, 0, none⟩) cols cols) cols (zp (List.replicate cols noC)) from HF3.out) (Nat.zero_le _);have hod := show zn w3.drew w.heap.size 2 (.slice (some ⟨w.heap.size + 1, 0, none⟩) n n) n _ from HO3.out;have hkd := Zo hk3;have hbd := HB3.out.drew;have hcd := show (∀ x ∈ L, x.2 = ⟨List.replicate cols (Zc s), false⟩ ∧ zn w3.drew w.heap.size 5 x.1 cols (zp (List.replicate cols (Zc s))) ∧ ∃ q, x.1.ownBlock = some q ∧ w.heap.size + 1 < q ∧ q < wr.heap.size) ∧ (L.map (·.1.ownBlock)).Nodup from HCS3.out;have hsd : w3.drew.heap.size = w2.heap.size := hs3;generalize hwd : w3.drew = wd at *;have HFL := Lib.hid (zdd (List.replicate cols noC) s wr.heap.size 0 cols cols 0 cols cols wd hFd (by rw [List.length_replicate]) (by omega) (by unfold maxLen; omega));simp only [Nat.zero_mul, Nat.add_zero, zm1] at HFL;unfold Sty.val at HFL;go_wp2_with fail;refine HFL.out.mono ?_;rintro e w4 ⟨rfl, g4, o4⟩;have HO4 := Lib.hid (zx hod g4 (by intro q hq e; simp [Value.ownBlock] at hq; injection e with e; omega));have HK4 := Lib.hid (zo hkd g4 (by intro e; injection e with e; omega));have HB4 := Lib.hid (hbd.grown g4 (by have := hbd.size; omega) (by intro q hq; injection hq with hq; omega));have hs4 := g4.size;have hbk : ∀ q, (Value.slice (some ⟨wr.heap.size, 0, none⟩) cols cols).ownBlock = some q → wr.heap.size ≤ q := fun q hq => by
    simp [Value.ownBlock] at hq; omega
   have o4' : zn w4 w.heap.size 5 (.slice (some ⟨wr.heap.size, 0, none⟩) cols cols) cols (zp (List.replicate cols (Zc s))) := by
    refine ⟨o4.1, ?_⟩;rcases o4.2 with h | ⟨b', off', c', e, h1, h2⟩
    ·exact .inl h
    ·refine .inr ⟨b', off', c', e, ?_, h2⟩;have := hbk b' (by rw [e]; rfl);omega
   have HCS4 := Lib.hid (show (∀ x ∈ L ++ [((Value.slice (some ⟨wr.heap.size, 0, none⟩) cols cols), (⟨List.replicate cols (Zc s), false⟩ : Rw))], x.2 = ⟨List.replicate cols (Zc s), false⟩ ∧ zn w4 w.heap.size 5 x.1 cols (zp (List.replicate cols (Zc s))) ∧ ∃ q, x.1.ownBlock = some q ∧ w.heap.size + 1 < q) ∧ ((L ++ [((Value.slice (some ⟨wr.heap.size, 0, none⟩) cols cols), (⟨List.replicate cols (Zc s), false⟩ : Rw))]).map (·.1.ownBlock)).Nodup from by
    refine ⟨fun x hx => ?_, ?_⟩
    ·rcases List.mem_append.1 hx with hx | hx
     ·obtain ⟨e1, e2, q, e3, e4, e5⟩ := hcd.1 x hx;exact ⟨e1, zx e2 g4 (by intro q' hq' e; rw [e3] at hq'; injection hq' with hq'; injection e with e; omega), q, e3, e4⟩
     ·rw [List.mem_singleton] at hx;subst hx;exact ⟨rfl, o4', wr.heap.size, rfl, by omega⟩
    ·rw [List.map_append, List.nodup_append];refine ⟨hcd.2, by simp, fun a ha b hb => ?_⟩;obtain ⟨x, hx, rfl⟩ := List.mem_map.1 ha;obtain ⟨_, _, q, e3, _, e5⟩ := hcd.1 x hx;simp only [List.map_cons, List.map_nil, List.mem_singleton] at hb;subst hb;rw [e3];intro e;simp [Value.ownBlock] at e;omega)
   clear g4 o4 o4' hcd hod hkd hbd hFd;have hrow : zf L ++ Value.slice (some ⟨wr.heap.size, 0, none⟩) cols cols :: (.bool false :: zf (List.replicate (n - (k + 1)) (.slice none 0 0, noR))) = zf ((L ++ [((Value.slice (some ⟨wr.heap.size, 0, none⟩) cols cols), (⟨List.replicate cols (Zc s), false⟩ : Rw))]) ++ List.replicate (n - (k + 1)) (.slice none 0 0, noR)) := by
    rw [Zq, Zq];simp [zf]
   rw [hrow] at HO4;go_wp2_with fail;go_roundw
   case rel => exact ⟨k + 1, _, by omega, by go_num, by rw [List.length_append, hL]; rfl, HB4.out, HK4.out, by omega, HO4.out, HCS4.out⟩
   case measure => simp [intOf]; omega
  ·have hkn : k = n := (by omega);subst hkn;go_wp2_with fail;rw [Nat.sub_self, List.replicate_zero, List.append_nil] at HO;refine zT rfl rfl rfl ⟨_, L, rfl, HB.out, ?_, ?_⟩
   ·apply List.ext_getElem?;intro j;unfold ZR;rw [List.getElem?_map, List.getElem?_replicate];by_cases hj : j < L.length
    ·rw [List.getElem?_eq_getElem hj, if_pos (by omega), Option.map_some, (HCS.out.1 _ (List.getElem_mem hj)).1]
    ·rw [List.getElem?_eq_none (by omega), if_neg (by omega)]; rfl
   ·refine ⟨by rw [hL]; exact HO.out, fun x hx => ?_, HCS.out.2, fun x hx => ?_⟩
    ·obtain ⟨e1, e2, _⟩ := HCS.out.1 x hx;rw [e1];simp only [List.length_replicate];exact e2
    ·obtain ⟨_, _, q, e3, e4⟩ := HCS.out.1 x hx;refine ⟨q, e3, fun e => ?_⟩;simp [Value.ownBlock] at e;omega
end
section
open Go.RowKit
def Cel.Ok (c : Cel) : Prop := -2147483648 ≤ c.rune ∧ c.rune ≤ 2147483647
structure Gr.WF (g : Gr) : Prop where
 c1 : 1 ≤ g.cols
 c2 : g.cols ≤ 250
 r1 : 1 ≤ g.rows.length
 r2 : g.rows.length ≤ 120
 li : g.limit ≤ 2000
 ol : g.old.length ≤ g.limit
 ce : ∀ r ∈ g.rows ++ g.old, r.cells.length = g.cols ∧ ∀ c ∈ r.cells, c.Ok
structure CAt (T : Nat → Nat) (w : World) (x : Value × Rw) : Prop where
 own : zn w 0 5 x.1 x.2.cells.length (zp x.2.cells)
 tag : ∃ q, x.1.ownBlock = some q ∧ T q = 10 + q
structure GAt (T : Nat → Nat) (p : Nat) (vr vo : Value) (Lr Lo : List (Value × Rw)) (w : World) (g : Gr) : Prop where
 lt : ∀ k, T k ≠ 0 → k < w.heap.size
 blk : w.heap[p]? = some (.cells #[.int .i64 g.cols, .int .i64 g.limit, vr, vo] 128 (0, 0))
 tp : T p = 1
 rr : Row T 2 2 vr Lr.length (zf Lr) w
 ro : Row T 3 2 vo Lo.length (zf Lo) w
 er : Lr.map (·.2) = g.rows
 eo : Lo.map (·.2) = g.old
 ca : ∀ x ∈ Lr ++ Lo, CAt T w x
 nd : ((Lr ++ Lo).map (·.1.ownBlock)).Nodup
 wf : g.WF
def GM (T : Nat → Nat) (p : Nat) (w : World) (g : Gr) : Prop := ∃ vr vo Lr Lo, GAt T p vr vo Lr Lo w g
theorem CAt.mod {T : Nat → Nat} {w w' : World} {x : Value × Rw} {q : Nat → Prop} (h : CAt T w x) (m : Mod T q w w') (hq : ∀ k, x.1.ownBlock = some k → ¬ q (10 + k)) : CAt T w' x :=
 ⟨Zk h.own m.size fun k hk => m.block k (zl h.own k hk).2 (by
  obtain ⟨b, e1, e2⟩ := h.tag;have : b = k := (by rw [e1] at hk; injection hk);subst this;rw [e2]; exact hq b hk), h.tag⟩
theorem GAt.mod {T : Nat → Nat} {p : Nat} {vr vo : Value} {Lr Lo : List (Value × Rw)} {w w' : World} {g : Gr} {q : Nat → Prop} (h : GAt T p vr vo Lr Lo w g) (m : Mod T q w w') (h1 : ¬ q 1) (h2 : ¬ q 2) (h3 : ¬ q 3) (h4 : ∀ k, ¬ q (10 + k)) : GAt T p vr vo Lr Lo w' g :=
 ⟨fun k hk => Nat.lt_of_lt_of_le (h.lt k hk) m.size, (m.block p (zj h.blk) (by rw [h.tp]; exact h1)).trans h.blk, h.tp, h.rr.mod m h2, h.ro.mod m h3, h.er, h.eo, fun x hx => (h.ca x hx).mod m (fun k _ => h4 k), h.nd, h.wf⟩
theorem GM.below {T : Nat → Nat} {p : Nat} {w w' : World} {g : Gr} (h : GM T p w g) (b : Below w.heap.size w w') : GM T p w' g := by
 obtain ⟨vr, vo, Lr, Lo, h⟩ := h;exact ⟨vr, vo, Lr, Lo, h.mod (.of_below b) id id id (fun _ => id)⟩
theorem GM.wf {T : Nat → Nat} {p : Nat} {w : World} {g : Gr} (h : GM T p w g) : g.WF := by
 obtain ⟨_, _, _, _, h⟩ := h; exact h.wf
theorem GM.lt {T : Nat → Nat} {p : Nat} {w : World} {g : Gr} (h : GM T p w g) : ∀ k, T k ≠ 0 → k < w.heap.size := by
 obtain ⟨_, _, _, _, h⟩ := h; exact h.lt
theorem GM.own0 {T : Nat → Nat} {p : Nat} {w : World} {g : Gr} (h : GM T p w g) {k : Nat} (hk : w.heap.size ≤ k) : T k = 0 := by
 by_cases h0 : T k = 0
 ·exact h0
 ·have := h.lt k h0; omega
theorem GM.other {Tp Tq : Nat → Nat} {q : Nat} {w w' : World} {g : Gr} (h : GM Tq q w g) (hw : ze (own Tp w) w w') (hd : ∀ k, Tq k ≠ 0 → Tp k = 0) : GM Tq q w' g := by
 obtain ⟨vr, vo, Lr, Lo, h⟩ := h;have m : Mod Tq (fun x => x = 0) w w' := ⟨hw.os, hw.tape, hw.output, hw.size, fun k hk h0 => hw.block k hk (fun e => by
  rcases e with e | e
  ·exact e (hd k h0)
  ·omega)⟩
 exact ⟨vr, vo, Lr, Lo, h.mod m (by decide) (by decide) (by decide) (fun k => by omega)⟩
theorem Zf {T : Nat → Nat} {p : Nat} {vr vo : Value} {Lr Lo : List (Value × Rw)} {w : World} {g : Gr} (h : GAt T p vr vo Lr Lo w g) : Lr.length = g.rows.length ∧ Lo.length = g.old.length := by
 rw [← h.er, ← h.eo, List.length_map, List.length_map]; exact ⟨rfl, rfl⟩
theorem zn1 {cols rows limit : Nat} (h1 : 1 ≤ cols) (h2 : cols ≤ 250) (h3 : 1 ≤ rows) (h4 : rows ≤ 120) (h5 : limit ≤ 2000) : (ZY cols rows limit).WF := by
 refine ⟨h1, h2, ?_, ?_, h5, Nat.zero_le _, fun r hr => ?_⟩
 ·show 1 ≤ (ZR rows cols plainS).length;unfold ZR; rw [List.length_replicate]; exact h3
 ·show (ZR rows cols plainS).length ≤ 120;unfold ZR; rw [List.length_replicate]; exact h4
 ·have : r ∈ ZR rows cols plainS := (by simpa [ZY] using hr);unfold ZR at this;rw [List.eq_of_mem_replicate this];refine ⟨by rw [List.length_replicate]; rfl, fun c hc => ?_⟩;rw [List.eq_of_mem_replicate hc];exact ⟨by decide, by decide⟩
def zf4 (p : Nat) (v : Value) (a b : Nat) : Nat → Nat := fun k => if k = p then 1 else if v.ownBlock = some k then 2 else if a ≤ k ∧ k < b then 10 + k else 0
theorem zn2 {p B : Nat} {v : Value} {L : List (Value × Rw)} {w : World} {g : Gr} (hr : zaU B w v L) (hb : w.heap[p]? = some (.cells #[.int .i64 g.cols, .int .i64 g.limit, v, .slice none 0 0] 128 (0, 0)))
  (hv : v.ownBlock ≠ some p) (hp : ∀ x ∈ L, x.1.ownBlock ≠ some p) (_hB : B ≤ p) (he : L.map (·.2) = g.rows) (ho : g.old = []) (hwf : g.WF) : GM (zf4 p v B w.heap.size) p w g := by
 have hpl := zj hb;refine ⟨v, .slice none 0 0, L, [], ⟨fun k hk => ?_, hb, ?_, ⟨zM hr.own (Nat.zero_le _), fun k hk => ?_⟩, zbi _ _ _ _, he, by rw [ho]; rfl, fun x hx => ?_, ?_, hwf⟩⟩
 ·unfold zf4 at hk;by_cases h1 : k = p
  ·omega
  ·rw [if_neg h1] at hk;by_cases h2 : v.ownBlock = some k
   ·exact (zl hr.own k h2).2
   ·rw [if_neg h2] at hk;by_cases h3 : B ≤ k ∧ k < w.heap.size
    ·exact h3.2
    ·rw [if_neg h3] at hk; exact absurd rfl hk
 ·unfold zf4; rw [if_pos rfl]
 ·unfold zf4;rw [if_neg (fun e => hv (by rw [hk, e])), if_pos hk]
 ·rw [List.append_nil] at hx;obtain ⟨q, e1, e2⟩ := hr.ap x hx;have hc := hr.cells x hx;refine ⟨zM hc (Nat.zero_le _), q, e1, ?_⟩;unfold zf4;rw [if_neg (fun e => hp x hx (by rw [e1, e])), if_neg e2, if_pos (zl hc q e1)]
 ·rw [List.append_nil]; exact hr.nd
theorem zjz {p B b : Nat} {v : Value} {n : Nat} {xs : List Value} {w : World} (hB : B ≤ p) (hv : zn w B 2 v n xs) : ∀ k, zf4 p v B b k ≠ 0 → B ≤ k := fun k hk => by
 unfold zf4 at hk;by_cases h1 : k = p
 ·omega
 ·rw [if_neg h1] at hk;by_cases h2 : v.ownBlock = some k
  ·exact (zl hv k h2).1
  ·rw [if_neg h2] at hk;by_cases h3 : B ≤ k ∧ k < b
   ·exact h3.1
   ·rw [if_neg h3] at hk; exact absurd rfl hk
end
section
open Go.RowKit
set_option maxRecDepth 100000
def PSt.esced (s : PSt) (b : UInt8) : PSt × List VAct :=
 if Zd (b.toNat : Int) then (if s.inter.length = 2 then (s.passed, []) else ({ s with inter := s.inter ++ [b] }, []))
 else if s.inter.length = 0 then
  if (b.toNat : Int) = 91 then (s.begun 2, [])
  else if (b.toNat : Int) = 93 then (s.begun 4, [])
  else if (b.toNat : Int) = 80 then (s.begun 5, [])
  else if (b.toNat : Int) = 88 ∨ (b.toNat : Int) = 94 ∨ (b.toNat : Int) = 95 then (s.begun 7, [])
  else if (b.toNat : Int) = 92 ∧ s.ended = true then (s.begun 0, [])
  else (s.begun 0, [zaE b s.inter])
 else (s.begun 0, [zaE b s.inter])
theorem ZE {P : Program} {fn : Func} {R : Ending → World → Prop} {a : Act} {w : World} (h : fn.results = #[]) (hd : a.defers = []) (hR : R (.returned (.tuple #[])) w) :
  bodyPost P fn R .ret a w := bodyPost_ret (results_none h _ _ _) hd hR
set_option maxRecDepth 100000 in
set_option maxHeartbeats 2000000 in
theorem ziz {G : Nat → Prop} {T : Nat → Nat} {p o : Nat} {w : World} {s : PSt} {acts : List VAct} (b : UInt8) (h : zam G true T p o w s acts) (hi3 : s.inter.length ≤ 10) (hn : acts.length ≤ 1000000000) :
  Calls Tryz.prog 150 #[.pointer (some ⟨p, 0, none⟩), .int .u8 (b.toNat : Int)] w fun e w' => e = .returned (.tuple #[]) ∧ ze G w w' ∧ zhr G true p o w' (s.esced b).1 (acts ++ (s.esced b).2) := by
 have H := Lib.hid h;have HE := Lib.hid (show s.esced b = if Zd (b.toNat : Int) then (if s.inter.length = 2 then (s.passed, []) else ({ s with inter := s.inter ++ [b] }, []))
  else if s.inter.length = 0 then
   if (b.toNat : Int) = 91 then (s.begun 2, [])
   else if (b.toNat : Int) = 93 then (s.begun 4, [])
   else if (b.toNat : Int) = 80 then (s.begun 5, [])
   else if (b.toNat : Int) = 88 ∨ (b.toNat : Int) = 94 ∨ (b.toNat : Int) = 95 then (s.begun 7, [])
   else if (b.toNat : Int) = 92 ∧ s.ended = true then (s.begun 0, [])
   else (s.begun 0, [zaE b s.inter])
  else (s.begun 0, [zaE b s.inter]) from rfl)
 obtain ⟨d, vi, vp, vt, vo, L, hL, hA, hC, hT⟩ := h;have c2 : w.cell? ⟨p, 2, none⟩ = some (.func (.func 105) #[] #[.pointer (some ⟨o, 0, none⟩)]) := zR hC 2;have c3 : w.cell? ⟨p, 3, none⟩ = some vi := zR hC 3;have c8 : w.cell? ⟨p, 8, none⟩ = some (.bool s.ended) := zR hC 8;have fz := zy hC.blk;have hri := hC.ri;rw [zk] at hri;have hil : ∀ (ty : TypeId) (wx : World), (Builtin.len_ #[38] ty #[vi]).run Tryz.prog wx = .ok (.int .i64 s.inter.length) wx := zcu Tryz.underlying38 hC.ri.own;have hcti : (convert 38 9 vi).run Tryz.prog w.drew = .ok (.string ⟨s.inter.toArray⟩) w.drew := zN (P := Tryz.prog) (w := w.drew) Tryz.underlying38 Tryz.underlying5 Tryz.underlying9 (zU hC.ri.own);obtain ⟨xi, mi, ci, rfl⟩ := zu hC.ri.own;have HC := Lib.hid hC;have HA := Lib.hid hA;have HT := Lib.hid hT;have HL := Lib.hid hL;clear hA hC hT hL hri;have HB1 := Lib.hid (zD HC.out.blk (.cells #[.int .u8 (b.toNat : Int)] 5));cases hbt : Zd (b.toNat : Int);rotate_left
 ·rw [hbt, if_pos rfl] at HE;by_cases h2 : s.inter.length = 2
  ·rw [if_pos h2] at HE;have h2' : ((s.inter.length : Int) == 2) = true := (by simp; omega);go_enter Tryz.func150, Tryz.ntmps150;go_wp2_with fail;refine (zA (b.toNat : Int) _).mono ?_;rintro e w2 ⟨rfl, hw⟩;rw [hw];clear hw;go_wp2_with fail;refine (zbR H.out).mono ?_;rintro e w2 ⟨rfl, hw2, hi2⟩;have HW2 := Lib.hid hw2;have HI2 := Lib.hid hi2;clear hw2 hi2;go_wp2_with fail;refine ZE rfl rfl ?_;rw [HE.out, List.append_nil];exact ⟨rfl, HW2.out, T, HI2.out⟩
  ·rw [if_neg h2] at HE;have h2' : ((s.inter.length : Int) == 2) = false := (by simp; omega);go_enter Tryz.func150, Tryz.ntmps150;go_wp2_with fail;refine (zA (b.toNat : Int) _).mono ?_;rintro e w2 ⟨rfl, hw⟩;rw [hw];clear hw;go_wp2_with (at_builtin; refine zaz ?_);unfold zay;refine zG Z6 rfl rfl 0 (zB HC.out.ri.own _) rfl (zV _ _ _) rfl (zah _ _) (by unfold maxLen; omega) (by omega) (by omega) ?_;intro v6 w6 o6 g6 n6;obtain ⟨x6, m6, c6, rfl⟩ := zu o6;have hb6 := zo HB1.out g6 (fun e => by have h1 := HC.out.ri.tag p e.symm; have h2 := HC.out.tp; omega);have cc6 : w6.cell? ⟨p, 3, none⟩ = some (.slice xi mi ci) := za hb6 3;have fz6 := zy hb6;have HB6 := Lib.hid hb6;have ho6 : zn w6 0 1 (.slice x6 m6 c6) (s.inter ++ [b]).length (zk (s.inter ++ [b])) := by
    rw [List.length_append, ZB]; exact o6
   obtain ⟨T', hw', hr', hrow, hpb, hfin⟩ := zbp (t := 4) (.inl rfl) rfl HA.out HC.out HT.out HC.out.ri (World.grownBy_alloc w _ none) g6 ho6 n6;obtain ⟨hw'', hi''⟩ := hfin (w6.setCell ⟨p, 3, none⟩ (.slice x6 m6 c6)) { s with inter := s.inter ++ [b] } (.slice x6 m6 c6) vp vt (zO (zr _ _) _ _) (zw HB6.out 3 _) rfl hr' (hrow 5 1 _ _ _ (by decide) (HC.out.rp rfl)) (hrow 6 1 _ _ _ (by decide) HC.out.rt);have HW2 := Lib.hid hw'';have HI2 := Lib.hid hi'';clear o6 g6 n6 ho6 hw' hr' hrow hpb hfin hw'' hi'' hb6;go_wp2_with fail;refine ZE rfl rfl ?_;rw [HE.out, ← HL.out, List.append_nil];exact ⟨rfl, HW2.out, T', HI2.out⟩
 rw [hbt, if_neg (by decide)] at HE;by_cases h0 : s.inter.length = 0;rotate_left
 ·rw [if_neg h0] at HE;have h0' : ((s.inter.length : Int) == 0) = false := (by rw [beq_eq_false_iff_ne]; omega);go_enter Tryz.func150, Tryz.ntmps150;go_wp2_with fail;refine (zA (b.toNat : Int) _).mono ?_;rintro e w2 ⟨rfl, hw⟩;rw [hbt, hw];clear hw;go_upto_region 19 with fail
  go_still_tail 11, (by kernel_rfl)
  change wpList _ _ _ _ _ w.drew;have HTl := Lib.hid (zbQ (zaE b s.inter) rfl H.out.drew hn);generalize hwd : w.drew = wd at *;go_wp2_with fail;refine HTl.out.mono ?_;rintro e w2 ⟨rfl, hw2, m2, T2, ht2, hi2⟩;have HW2 := Lib.hid ((hwd ▸ ze.drew G w).trans hw2);have HI2 := Lib.hid hi2;clear hw2 m2 ht2 hi2;go_wp2_with fail;refine (z9 0 HI2.out).mono ?_;rintro e w3 ⟨rfl, hw3, hi3⟩;have HW3 := Lib.hid (HW2.out.trans hw3);have HI3 := Lib.hid hi3;clear hw3 hi3;go_wp2_with fail;go_end0;rw [HE.out];exact ⟨rfl, HW3.out, T2, HI3.out⟩
 rw [if_pos h0] at HE;have h0' : ((s.inter.length : Int) == 0) = true := (by rw [beq_iff_eq]; omega);clear h0;by_cases hb0 : (b.toNat : Int) = 91
 ·rw [if_pos hb0] at HE;have hb0' : ((b.toNat : Int) == 91) = true := beq_iff_eq.2 hb0;clear hb0;go_enter Tryz.func150, Tryz.ntmps150;go_wp2_with fail;refine (zA (b.toNat : Int) _).mono ?_;rintro e w2 ⟨rfl, hw⟩;rw [hbt, hw];clear hw;go_wp2_with fail;refine (z9 2 H.out).mono ?_;rintro e w2 ⟨rfl, hw2, hi2⟩;have HW2 := Lib.hid hw2;have HI2 := Lib.hid hi2;clear hw2 hi2;go_wp2_with fail;refine ZE rfl rfl ?_;rw [HE.out, List.append_nil];exact ⟨rfl, HW2.out, T, HI2.out⟩
 rw [if_neg hb0] at HE;have hb0' : ((b.toNat : Int) == 91) = false := beq_eq_false_iff_ne.2 hb0;by_cases hb1 : (b.toNat : Int) = 93
 ·rw [if_pos hb1] at HE;have hb1' : ((b.toNat : Int) == 93) = true := beq_iff_eq.2 hb1;clear hb1;go_enter Tryz.func150, Tryz.ntmps150;go_wp2_with fail;refine (zA (b.toNat : Int) _).mono ?_;rintro e w2 ⟨rfl, hw⟩;rw [hbt, hw];clear hw;go_wp2_with fail;refine (z9 4 H.out).mono ?_;rintro e w2 ⟨rfl, hw2, hi2⟩;have HW2 := Lib.hid hw2;have HI2 := Lib.hid hi2;clear hw2 hi2;go_wp2_with fail;refine ZE rfl rfl ?_;rw [HE.out, List.append_nil];exact ⟨rfl, HW2.out, T, HI2.out⟩
 rw [if_neg hb1] at HE;have hb1' : ((b.toNat : Int) == 93) = false := beq_eq_false_iff_ne.2 hb1;by_cases hb2 : (b.toNat : Int) = 80
 ·rw [if_pos hb2] at HE;have hb2' : ((b.toNat : Int) == 80) = true := beq_iff_eq.2 hb2;clear hb2;go_enter Tryz.func150, Tryz.ntmps150;go_wp2_with fail;refine (zA (b.toNat : Int) _).mono ?_;rintro e w2 ⟨rfl, hw⟩;rw [hbt, hw];clear hw;go_wp2_with fail;refine (z9 5 H.out).mono ?_;rintro e w2 ⟨rfl, hw2, hi2⟩;have HW2 := Lib.hid hw2;have HI2 := Lib.hid hi2;clear hw2 hi2;go_wp2_with fail;refine ZE rfl rfl ?_;rw [HE.out, List.append_nil];exact ⟨rfl, HW2.out, T, HI2.out⟩
 rw [if_neg hb2] at HE;have hb2' : ((b.toNat : Int) == 80) = false := beq_eq_false_iff_ne.2 hb2;by_cases hx : (b.toNat : Int) = 88 ∨ (b.toNat : Int) = 94 ∨ (b.toNat : Int) = 95
 ·rw [if_pos hx] at HE;rcases hx with hx | hx | hx
  ·have hx' : ((b.toNat : Int) == 88) = true := beq_iff_eq.2 hx;clear hx;go_enter Tryz.func150, Tryz.ntmps150;go_wp2_with fail;refine (zA (b.toNat : Int) _).mono ?_;rintro e w2 ⟨rfl, hw⟩;rw [hbt, hw];clear hw;go_wp2_with fail;refine (z9 7 H.out).mono ?_;rintro e w2 ⟨rfl, hw2, hi2⟩;have HW2 := Lib.hid hw2;have HI2 := Lib.hid hi2;clear hw2 hi2;go_wp2_with fail;refine ZE rfl rfl ?_;rw [HE.out, List.append_nil];exact ⟨rfl, HW2.out, T, HI2.out⟩
  ·have hx0 : ((b.toNat : Int) == 88) = false := (by rw [beq_eq_false_iff_ne]; omega);have hx' : ((b.toNat : Int) == 94) = true := beq_iff_eq.2 hx;clear hx;go_enter Tryz.func150, Tryz.ntmps150;go_wp2_with fail;refine (zA (b.toNat : Int) _).mono ?_;rintro e w2 ⟨rfl, hw⟩;rw [hbt, hw];clear hw;go_wp2_with fail;refine (z9 7 H.out).mono ?_;rintro e w2 ⟨rfl, hw2, hi2⟩;have HW2 := Lib.hid hw2;have HI2 := Lib.hid hi2;clear hw2 hi2;go_wp2_with fail;refine ZE rfl rfl ?_;rw [HE.out, List.append_nil];exact ⟨rfl, HW2.out, T, HI2.out⟩
  ·have hx0 : ((b.toNat : Int) == 88) = false := (by rw [beq_eq_false_iff_ne]; omega);have hx1 : ((b.toNat : Int) == 94) = false := (by rw [beq_eq_false_iff_ne]; omega);have hx' : ((b.toNat : Int) == 95) = true := beq_iff_eq.2 hx;clear hx;go_enter Tryz.func150, Tryz.ntmps150;go_wp2_with fail;refine (zA (b.toNat : Int) _).mono ?_;rintro e w2 ⟨rfl, hw⟩;rw [hbt, hw];clear hw;go_wp2_with fail;refine (z9 7 H.out).mono ?_;rintro e w2 ⟨rfl, hw2, hi2⟩;have HW2 := Lib.hid hw2;have HI2 := Lib.hid hi2;clear hw2 hi2;go_wp2_with fail;refine ZE rfl rfl ?_;rw [HE.out, List.append_nil];exact ⟨rfl, HW2.out, T, HI2.out⟩
 rw [if_neg hx] at HE;have hx0 : ((b.toNat : Int) == 88) = false := (by rw [beq_eq_false_iff_ne]; omega);have hx1 : ((b.toNat : Int) == 94) = false := (by rw [beq_eq_false_iff_ne]; omega);have hx2 : ((b.toNat : Int) == 95) = false := (by rw [beq_eq_false_iff_ne]; omega);clear hx hb0 hb1 hb2;by_cases h92 : (b.toNat : Int) = 92
 ·have h92' : ((b.toNat : Int) == 92) = true := beq_iff_eq.2 h92;cases hen : s.ended
  ·rw [hen, if_neg (by simp)] at HE;rw [hen] at c8;clear h92;go_enter Tryz.func150, Tryz.ntmps150;go_wp2_with fail;refine (zA (b.toNat : Int) _).mono ?_;rintro e w2 ⟨rfl, hw⟩;rw [hbt, hw];clear hw;go_upto_region 19 with fail
   go_still_tail 11, (by kernel_rfl)
   change wpList _ _ _ _ _ w.drew;have HTl := Lib.hid (zbQ (zaE b s.inter) rfl H.out.drew hn);generalize hwd : w.drew = wd at *;go_wp2_with fail;refine HTl.out.mono ?_;rintro e w2 ⟨rfl, hw2, m2, T2, ht2, hi2⟩;have HW2 := Lib.hid ((hwd ▸ ze.drew G w).trans hw2);have HI2 := Lib.hid hi2;clear hw2 m2 ht2 hi2;go_wp2_with fail;refine (z9 0 HI2.out).mono ?_;rintro e w3 ⟨rfl, hw3, hi3⟩;have HW3 := Lib.hid (HW2.out.trans hw3);have HI3 := Lib.hid hi3;clear hw3 hi3;go_wp2_with fail;go_end0;rw [HE.out];exact ⟨rfl, HW3.out, T2, HI3.out⟩
  ·rw [if_pos ⟨h92, hen⟩] at HE;rw [hen] at c8;clear h92;go_enter Tryz.func150, Tryz.ntmps150;go_wp2_with fail;refine (zA (b.toNat : Int) _).mono ?_;rintro e w2 ⟨rfl, hw⟩;rw [hbt, hw];clear hw;go_wp2_with fail;refine (z9 0 H.out).mono ?_;rintro e w2 ⟨rfl, hw2, hi2⟩;have HW2 := Lib.hid hw2;have HI2 := Lib.hid hi2;clear hw2 hi2;go_wp2_with fail;refine ZE rfl rfl ?_;rw [HE.out, List.append_nil];exact ⟨rfl, HW2.out, T, HI2.out⟩
 ·rw [if_neg (fun h => h92 h.1)] at HE;have h92' : ((b.toNat : Int) == 92) = false := beq_eq_false_iff_ne.2 h92;clear h92;go_enter Tryz.func150, Tryz.ntmps150;go_wp2_with fail;refine (zA (b.toNat : Int) _).mono ?_;rintro e w2 ⟨rfl, hw⟩;rw [hbt, hw];clear hw;go_upto_region 19 with fail
  go_still_tail 11, (by kernel_rfl)
  change wpList _ _ _ _ _ w.drew;have HTl := Lib.hid (zbQ (zaE b s.inter) rfl H.out.drew hn);generalize hwd : w.drew = wd at *;go_wp2_with fail;refine HTl.out.mono ?_;rintro e w2 ⟨rfl, hw2, m2, T2, ht2, hi2⟩;have HW2 := Lib.hid ((hwd ▸ ze.drew G w).trans hw2);have HI2 := Lib.hid hi2;clear hw2 m2 ht2 hi2;go_wp2_with fail;refine (z9 0 HI2.out).mono ?_;rintro e w3 ⟨rfl, hw3, hi3⟩;have HW3 := Lib.hid (HW2.out.trans hw3);have HI3 := Lib.hid hi3;clear hw3 hi3;go_wp2_with fail;go_end0;rw [HE.out];exact ⟨rfl, HW3.out, T2, HI3.out⟩
end
section
open Go.RowKit
set_option maxRecDepth 100000
def PSt.marked (s : PSt) : Bool := match s.inter with | [] => false | c :: _ => decide (60 ≤ (c.toNat : Int))
def PSt.btw (s : PSt) : Nat := if s.marked then s.inter.length - 1 else s.inter.length
def PSt.cut (s : PSt) : PSt := { s with params := s.params.take 32 }
def PSt.seqd (s : PSt) (b : UInt8) : PSt × List VAct :=
 if 64 ≤ (b.toNat : Int) then (if s.state = 2 then (s.cut.begun 0, [ZO b (s.params.take 32) s.inter]) else ({ s.cut with state := 6, final := b }, []))
 else if Zd (b.toNat : Int) = true ∧ s.btw < 2 then ({ s with inter := s.inter ++ [b] }, [])
 else if (b.toNat : Int) < 58 ∧ Zd (b.toNat : Int) = false ∧ s.btw = 0 then (s.digit ((b.toNat : Int) - 48), [])
 else if (b.toNat : Int) = 59 ∧ s.btw = 0 then (s.digit (-1), [])
 else if 60 ≤ (b.toNat : Int) ∧ s.inter.length = 0 ∧ s.any = false then ({ s with inter := s.inter ++ [b] }, [])
 else (s.passed, [])
theorem zgX {P : Program} {t e : TypeId} {w : World} {v : Value} {n : Nat} {xs : List Value} (ht : P.underlying t = some (.slice e)) (hs : (P.info? e).map (·.size) = some 1) (h : zn w 0 1 v n xs) (m : Nat) (hm : m ≤ n) :
  ∃ v', (∀ wx, (Instr.slice t v none (some (.int .i64 m)) none).run P wx = .ok v' wx) ∧ zn w 0 1 v' m (xs.take m) ∧ v'.ownBlock = v.ownBlock := by
 have hel : P.elem t = e := (by simp [Program.elem, ht]);obtain ⟨h1, h2⟩ := id h;rcases h2 with ⟨rfl, h0⟩ | ⟨b, off, c, rfl, hb, hbs, hnc, hcm, hcells, hxs⟩
 ·have : m = 0 := (by omega);subst this;refine ⟨.slice none 0 0, fun wx => ?_, ZX _ _ _, rfl⟩;rw [run_slice_h wx t none 0 0 (zcQ ht) .i64 _ (by omega) (by simp), hel, zdb hs];simp [Result.andThen, sliced]
 ·refine ⟨.slice (some ⟨b, off, none⟩) m c, fun wx => ?_, ⟨by rw [List.length_take]; omega, .inr ⟨b, off, c, rfl, hb, hbs, by omega, hcm, hcells, fun j u hu => ?_⟩⟩, rfl⟩
  ·rw [run_slice_h wx t _ _ c (zcQ ht) .i64 _ (by omega) (by omega), hel, zdb hs];simp [Result.andThen, sliced];intro _; rfl
  ·rw [List.getElem?_take] at hu;split at hu
   ·exact hxs j u hu
   ·simp at hu
set_option maxRecDepth 100000 in
set_option maxHeartbeats 4000000 in
theorem zer {G : Nat → Prop} {T : Nat → Nat} {p o : Nat} {w : World} {s : PSt} {acts : List VAct} (b : UInt8) (h : zam G true T p o w s acts) (hi3 : s.inter.length ≤ 10) (hn : acts.length ≤ 1000000000) (hb32 : 32 ≤ (b.toNat : Int))
  (hp : s.any = true → s.params ≠ []) (hl : s.params.length ≤ 40) (hr : ∀ x ∈ s.params, -1 ≤ x ∧ x ≤ 9999) :
  Calls Tryz.prog 151 #[.pointer (some ⟨p, 0, none⟩), .int .u8 (b.toNat : Int)] w fun e w' => e = .returned (.tuple #[]) ∧ ze G w w' ∧ zhr G true p o w' (s.seqd b).1 (acts ++ (s.seqd b).2) := by
 have H := Lib.hid h;have HP := Lib.hid (And.intro hp (And.intro hl hr));have HE := Lib.hid (show s.seqd b = if 64 ≤ (b.toNat : Int) then (if s.state = 2 then (s.cut.begun 0, [ZO b (s.params.take 32) s.inter]) else ({ s.cut with state := 6, final := b }, []))
  else if Zd (b.toNat : Int) = true ∧ s.btw < 2 then ({ s with inter := s.inter ++ [b] }, [])
  else if (b.toNat : Int) < 58 ∧ Zd (b.toNat : Int) = false ∧ s.btw = 0 then (s.digit ((b.toNat : Int) - 48), [])
  else if (b.toNat : Int) = 59 ∧ s.btw = 0 then (s.digit (-1), [])
  else if 60 ≤ (b.toNat : Int) ∧ s.inter.length = 0 ∧ s.any = false then ({ s with inter := s.inter ++ [b] }, [])
  else (s.passed, []) from rfl)
 obtain ⟨d, vi, vp, vt, vo, L, hL, hA, hC, hT⟩ := h;clear hp hl hr;have c0 : w.cell? ⟨p, 0, none⟩ = some (.int .i64 s.state) := zR hC 0;have c2 : w.cell? ⟨p, 2, none⟩ = some (.func (.func 105) #[] #[.pointer (some ⟨o, 0, none⟩)]) := zR hC 2;have c3 : w.cell? ⟨p, 3, none⟩ = some vi := zR hC 3;have c4 : w.cell? ⟨p, 4, none⟩ = some vp := zR hC 4;have c5 : w.cell? ⟨p, 5, none⟩ = some (.bool s.any) := zR hC 5;have fz := zy hC.blk;have hil : ∀ (ty : TypeId) (wx : World), (Builtin.len_ #[38] ty #[vi]).run Tryz.prog wx = .ok (.int .i64 s.inter.length) wx := zcu Tryz.underlying38 hC.ri.own;have hpl : ∀ (ty : TypeId) (wx : World), (Builtin.len_ #[63] ty #[vp]).run Tryz.prog wx = .ok (.int .i64 s.params.length) wx := zcu Tryz.underlying63 (hC.rp rfl).own;have HM0 := Lib.hid (fun (h0 : 0 < s.inter.length) => zcV Tryz.underlying38 (by kernel_rfl) hC.ri.own 0 h0);obtain ⟨vc, hsl, hoc, hbc⟩ := zgX Tryz.underlying63 (by kernel_rfl) (hC.rp rfl).own (min s.params.length 32) (Nat.min_le_left _ _);replace hsl : ∀ wx, (Instr.slice 63 vp none (some (.int .i64 (min (s.params.length : Int) 32))) none).run Tryz.prog wx = .ok vc wx := by
  intro wx;rw [← hsl wx];congr 4;omega
 have HOC := Lib.hid hoc;have HBC := Lib.hid hbc;clear hoc hbc;obtain ⟨xi, mi, ci, rfl⟩ := zu hC.ri.own;obtain ⟨xp, mp, cp', rfl⟩ := zu (hC.rp rfl).own;obtain ⟨xc, mc, cc', rfl⟩ := zu HOC.out;have HC := Lib.hid hC;have HA := Lib.hid hA;have HT := Lib.hid hT;have HL := Lib.hid hL;clear hA hC hT hL;have HB1 := Lib.hid (zD HC.out.blk (.cells #[.int .u8 (b.toNat : Int)] 5));have HBT := Lib.hid (show s.btw = if s.marked then s.inter.length - 1 else s.inter.length from rfl);have HMK := Lib.hid (show s.marked = match s.inter with | [] => false | c :: _ => decide (60 ≤ (c.toNat : Int)) from rfl);go_enter Tryz.func151, Tryz.ntmps151;go_upto_region 1 with fail
 go_cut [20] (fun v wx => v = .bool s.marked ∧ wx = w)
 case first =>
  by_cases h0 : 0 < s.inter.length
  ·obtain ⟨b0, off0, c0', hv0, had, ⟨x0, hx0, hx0c⟩, _, _⟩ := HM0.out h0;have h0' : decide (0 < (s.inter.length : Int)) = true := decide_eq_true (by omega);have h0'' : decide (0 < s.inter.length) = true := decide_eq_true h0;have hin : ∃ c r, s.inter = c :: r := by
    cases hs : s.inter with
    | nil => rw [hs] at h0; simp at h0
    | cons c r => exact ⟨c, r, rfl⟩
   obtain ⟨cc, rr, hin⟩ := hin;rw [hin] at hx0 HMK;have hxe : x0 = .int .u8 (cc.toNat : Int) := (by simp [zk] at hx0; exact hx0.symm);subst hxe;replace had : ∀ wx, (Instr.indexAt 38 (.slice xi mi ci) (.int .i64 0)).run Tryz.prog wx = .ok (.pointer (some ⟨b0, off0 + 0, none⟩)) wx := had;rw [Nat.add_zero] at had hx0c;clear hin hx0 h0 hv0;go_wp2_with fail;go_meet;rw [HMK.out];exact ⟨rfl, rfl⟩
  ·have h0' : decide (0 < (s.inter.length : Int)) = false := decide_eq_false (by omega);have h0'' : decide (0 < s.inter.length) = false := decide_eq_false h0;have hin : s.inter = [] := List.eq_nil_of_length_eq_zero (by omega);rw [hin] at HMK;clear hin h0;go_wp2_with fail;go_meet;rw [HMK.out];exact ⟨rfl, rfl⟩
 case rest =>
  obtain ⟨rfl, hw⟩ := hcut;rw [hw];clear hw;clear HMK HM0;go_upto_if 20 with fail
  go_cut [4] (fun v wx => v = .int .i64 s.btw ∧ wx = w)
  case first =>
   cases hmk : s.marked
   ·rw [hmk] at HBT;go_wp2_with fail;go_meet;rw [HBT.out, if_neg (by decide)];exact ⟨rfl, rfl⟩
   ·have hpos : 1 ≤ s.inter.length := by
     unfold PSt.marked at hmk;cases hs : s.inter with
     | nil => rw [hs] at hmk; simp at hmk
     | cons c r => simp
    have hsub : ((s.inter.length - 1 : Nat) : Int) = (s.inter.length : Int) - 1 := (by omega);have HSB := Lib.hid hsub;clear hsub;rw [hmk] at HBT;go_wp2_with fail;go_meet;refine ⟨?_, rfl⟩;rw [HBT.out];simp only [if_true, HSB.out]
  case rest =>
   obtain ⟨rfl, hw⟩ := hcut;rw [hw];clear hw HBT;generalize s.btw = bt at *;by_cases h64 : 64 ≤ (b.toNat : Int)
   ·rw [if_pos h64] at HE;have h64' : decide (64 ≤ (b.toNat : Int)) = true := decide_eq_true h64;go_upto_region 5 with fail
    go_still_tail 14, (by kernel_rfl)
    change wpList _ _ _ _ _ w.drew;have hCd : zbU true T p d (zaF o) (.slice xi mi ci) (.slice xp mp cp') vt w.drew s := HC.out.mod (zau T w) id id id id id;have hTd : zc1 G T o vo w.drew L := HT.out.mod (zau T w) id id id;have hAd : zaY G T w.drew := HA.out.mono (Nat.le_refl _);have fzd := zy hCd.blk;have d4 : w.drew.cell? ⟨p, 4, none⟩ = some (.slice xp mp cp') := zR hCd 4;have hRc : Row T 5 1 (.slice xc mc cc') (s.params.take 32).length ((s.params.take 32).map (Value.int .i64)) w.drew := by
     have e1 : (s.params.take 32).length = min s.params.length 32 := (by rw [List.length_take, Nat.min_comm]);have e2 : (s.params.take 32).map (Value.int .i64) = (s.params.map (Value.int .i64)).take (min s.params.length 32) := by
      rw [List.map_take];by_cases hle : s.params.length ≤ 32
      ·rw [Nat.min_eq_left hle, List.take_of_length_le (by rw [List.length_map]; exact hle), List.take_of_length_le (by rw [List.length_map]; exact Nat.le_refl _)]
      ·rw [Nat.min_eq_right (by omega)]
     rw [e1, e2];have hr : Row T 5 1 (.slice xc mc cc') (min s.params.length 32) ((s.params.map (Value.int .i64)).take (min s.params.length 32)) w := ⟨HOC.out, fun k hk => (HC.out.rp rfl).tag k (by rw [← HBC.out]; exact hk)⟩;exact hr.mod (zau T w) id
    have hC5 : zbU true T p d (zaF o) (.slice xi mi ci) (.slice xc mc cc') vt (w.drew.setCell ⟨p, 4, none⟩ (.slice xc mc cc')) s.cut := hCd.put (zO (zr _ _) _ _) (zw hCd.blk 4 _) rfl hCd.ri (fun _ => hRc) hCd.rt;have m5 : Mod T (fun x => x = 1) w.drew (w.drew.setCell ⟨p, 4, none⟩ (.slice xc mc cc')) := Mod.of_gb (zO (zr _ (some p)) _ _) (fun k hk => by injection hk with hk; subst hk; exact hCd.tp);have hT5 := hTd.mod m5 (by decide) (by decide) (by decide);have hA5 := hAd.mono (w' := w.drew.setCell ⟨p, 4, none⟩ (.slice xc mc cc')) (by simp);have hW5 : ze G w (w.drew.setCell ⟨p, 4, none⟩ (.slice xc mc cc')) := (ze.drew G w).trans (m5.within hAd (by decide));have HI5 := Lib.hid (show zam G true T p o (w.drew.setCell ⟨p, 4, none⟩ (.slice xc mc cc')) s.cut acts from ⟨d, .slice xi mi ci, .slice xc mc cc', vt, vo, L, HL.out, hA5, hC5, hT5⟩);have HC5 := Lib.hid hC5;have HT5 := Lib.hid hT5;have HA5 := Lib.hid hA5;have HW5 := Lib.hid hW5;clear hCd hTd hAd hRc hC5 m5 hT5 hA5 hW5;clear c0 c3 c4 c5 c2 fz;generalize hwd : w.drew = wd at *;generalize hw5 : wd.setCell ⟨p, 4, none⟩ (.slice xc mc cc') = w5 at *;have k0 : w5.cell? ⟨p, 0, none⟩ = some (.int .i64 s.state) := zR HC5.out 0;have k2 : w5.cell? ⟨p, 2, none⟩ = some (.func (.func 105) #[] #[.pointer (some ⟨o, 0, none⟩)]) := zR HC5.out 2;have k3 : w5.cell? ⟨p, 3, none⟩ = some (.slice xi mi ci) := zR HC5.out 3;have k4 : w5.cell? ⟨p, 4, none⟩ = some (.slice xc mc cc') := zR HC5.out 4;have k7 : w5.cell? ⟨p, 7, none⟩ = some (.int .u8 (s.final.toNat : Int)) := zR HC5.out 7;have kfz := zy HC5.out.blk;by_cases hst : s.state = 2
    ·rw [if_pos hst] at HE;have hst' : (s.state == 2) = true := beq_iff_eq.2 hst;have hcti : (convert 38 9 (.slice xi mi ci)).run Tryz.prog w5.drew = .ok (.string ⟨s.inter.toArray⟩) w5.drew := zN (P := Tryz.prog) (w := w5.drew) Tryz.underlying38 Tryz.underlying5 Tryz.underlying9 (zU HC5.out.ri.own);have HTl := Lib.hid (zfa (ZO b (s.params.take 32) s.inter) rfl (HA5.out.mono (w' := w5.drew) (Nat.le_refl _)) (HC5.out.mod (zau T w5) id id id id id) (HT5.out.mod (zau T w5) id id id) (by rw [← HL.out, List.length_map] at hn; exact hn));clear hst;go_wp2_with fail
     try simp only [hw5]
     go_upto_region 7 with fail
     go_still_tail 15, (by kernel_rfl)
     change wpList _ _ _ _ _ w5.drew;generalize hw5d : w5.drew = w5d at *;go_wp2_with fail;refine HTl.out.mono ?_;rintro e w6 ⟨rfl, hw6, T6, hi6⟩;have HW6 := Lib.hid ((HW5.out.trans (hw5d ▸ ze.drew G w5)).trans hw6);have HI6 := Lib.hid hi6;clear hw6 hi6;go_wp2_with fail;refine (z9 0 HI6.out).mono ?_;rintro e w7 ⟨rfl, hw7, hi7⟩;have HW7 := Lib.hid (HW6.out.trans hw7);have HI7 := Lib.hid hi7;clear hw7 hi7;go_wp2_with fail;refine ZE rfl rfl ?_;rw [HE.out, ← HL.out];exact ⟨rfl, HW7.out, T6, HI7.out⟩
    ·rw [if_neg hst] at HE;have hst' : (s.state == 2) = false := beq_eq_false_iff_ne.2 hst;have hi6 := HI5.out.set 0 (.int .i64 6) { s.cut with state := 6 } (fun _ _ _ _ _ => rfl) rfl rfl rfl rfl;have hi7 := hi6.set 7 (.int .u8 (b.toNat : Int)) { s.cut with state := 6, final := b } (fun _ _ _ _ _ => rfl) rfl rfl rfl rfl;have HW7 := Lib.hid ((HW5.out.trans (zcU HI5.out.inG w5 0 (.int .i64 6))).trans (zcU HI5.out.inG _ 7 (.int .u8 (b.toNat : Int))));have HI7 := Lib.hid hi7;clear hst hi6 hi7;go_wp2_with fail
     try simp only [hw5]
     go_wp2_with fail;go_end0;rw [HE.out, List.append_nil];exact ⟨rfl, HW7.out, T, HI7.out⟩
   rw [if_neg h64] at HE;have h64' : decide (64 ≤ (b.toNat : Int)) = false := decide_eq_false h64;cases hbt : Zd (b.toNat : Int)
   ·rw [hbt, if_neg (by simp)] at HE;by_cases h58 : (b.toNat : Int) < 58
    ·have h58' : decide ((b.toNat : Int) < 58) = true := decide_eq_true h58;by_cases hb0 : bt = 0
     ·rw [if_pos ⟨h58, rfl, hb0⟩] at HE;have hb0' : ((bt : Int) == 0) = true := (by rw [beq_iff_eq]; omega);have h48 : 48 ≤ (b.toNat : Int) := by
       unfold Zd at hbt;rw [Bool.and_eq_false_iff, decide_eq_false_iff_not, decide_eq_false_iff_not] at hbt;omega
      clear hb0;go_wp2_with fail;refine (zA (b.toNat : Int) _).mono ?_;rintro e w2 ⟨rfl, hw⟩;rw [hw, hbt];clear hw;go_wp2_with fail;refine (zA (b.toNat : Int) _).mono ?_;rintro e w2 ⟨rfl, hw⟩;rw [hw, hbt];clear hw;go_wp2_with fail;refine (zgP ((b.toNat : Int) - 48) H.out (by omega) (by omega) HP.out.1 HP.out.2.1 HP.out.2.2).mono ?_;rintro e w2 ⟨rfl, hw2, hi2⟩;have HW2 := Lib.hid hw2;have HI2 := Lib.hid hi2;clear hw2 hi2;go_wp2_with fail;go_end0;rw [HE.out, List.append_nil];exact ⟨rfl, HW2.out, HI2.out⟩
     ·rw [if_neg (fun h => hb0 h.2.2), if_neg (fun h => hb0 h.2), if_neg (fun h => by omega)] at HE;have hb0' : ((bt : Int) == 0) = false := (by rw [beq_eq_false_iff_ne]; omega);have h59' : ((b.toNat : Int) == 59) = false := (by rw [beq_eq_false_iff_ne]; omega);have h60' : decide (60 ≤ (b.toNat : Int)) = false := decide_eq_false (by omega);clear hb0;go_wp2_with fail;refine (zA (b.toNat : Int) _).mono ?_;rintro e w2 ⟨rfl, hw⟩;rw [hw, hbt];clear hw;go_wp2_with fail;refine (zA (b.toNat : Int) _).mono ?_;rintro e w2 ⟨rfl, hw⟩;rw [hw, hbt];clear hw;go_wp2_with fail;refine (zbR H.out).mono ?_;rintro e w2 ⟨rfl, hw2, hi2⟩;have HW2 := Lib.hid hw2;have HI2 := Lib.hid hi2;clear hw2 hi2;go_wp2_with fail;go_end0;rw [HE.out, List.append_nil];exact ⟨rfl, HW2.out, T, HI2.out⟩
    rw [if_neg (fun h => h58 h.1)] at HE;have h58' : decide ((b.toNat : Int) < 58) = false := decide_eq_false h58;by_cases h59 : (b.toNat : Int) = 59
    ·have h59' : ((b.toNat : Int) == 59) = true := beq_iff_eq.2 h59;by_cases hb0 : bt = 0
     ·rw [if_pos ⟨h59, hb0⟩] at HE;have hb0' : ((bt : Int) == 0) = true := (by rw [beq_iff_eq]; omega);clear hb0 h59;go_wp2_with fail;refine (zA (b.toNat : Int) _).mono ?_;rintro e w2 ⟨rfl, hw⟩;rw [hw, hbt];clear hw;go_wp2_with fail;refine (zgP (-1) H.out (by omega) (by omega) HP.out.1 HP.out.2.1 HP.out.2.2).mono ?_;rintro e w2 ⟨rfl, hw2, hi2⟩;have HW2 := Lib.hid hw2;have HI2 := Lib.hid hi2;clear hw2 hi2;go_wp2_with fail;go_end0;rw [HE.out, List.append_nil];exact ⟨rfl, HW2.out, HI2.out⟩
     ·rw [if_neg (fun h => hb0 h.2), if_neg (fun h => by omega)] at HE;have hb0' : ((bt : Int) == 0) = false := (by rw [beq_eq_false_iff_ne]; omega);have h60' : decide (60 ≤ (b.toNat : Int)) = false := decide_eq_false (by omega);clear hb0 h59;go_wp2_with fail;refine (zA (b.toNat : Int) _).mono ?_;rintro e w2 ⟨rfl, hw⟩;rw [hw, hbt];clear hw;go_wp2_with fail;refine (zbR H.out).mono ?_;rintro e w2 ⟨rfl, hw2, hi2⟩;have HW2 := Lib.hid hw2;have HI2 := Lib.hid hi2;clear hw2 hi2;go_wp2_with fail;go_end0;rw [HE.out, List.append_nil];exact ⟨rfl, HW2.out, T, HI2.out⟩
    rw [if_neg (fun h => h59 h.1)] at HE;have h59' : ((b.toNat : Int) == 59) = false := beq_eq_false_iff_ne.2 h59;by_cases h60 : 60 ≤ (b.toNat : Int);rotate_left
    ·rw [if_neg (fun h => h60 h.1)] at HE;have h60' : decide (60 ≤ (b.toNat : Int)) = false := decide_eq_false h60;clear h59;go_wp2_with fail;refine (zA (b.toNat : Int) _).mono ?_;rintro e w2 ⟨rfl, hw⟩;rw [hw, hbt];clear hw;go_wp2_with fail;refine (zbR H.out).mono ?_;rintro e w2 ⟨rfl, hw2, hi2⟩;have HW2 := Lib.hid hw2;have HI2 := Lib.hid hi2;clear hw2 hi2;go_wp2_with fail;go_end0;rw [HE.out, List.append_nil];exact ⟨rfl, HW2.out, T, HI2.out⟩
    have h60' : decide (60 ≤ (b.toNat : Int)) = true := decide_eq_true h60;by_cases hi0 : s.inter.length = 0;rotate_left
    ·rw [if_neg (fun h => hi0 h.2.1)] at HE;have hi0' : ((s.inter.length : Int) == 0) = false := (by rw [beq_eq_false_iff_ne]; omega);clear h59 hi0;go_wp2_with fail;refine (zA (b.toNat : Int) _).mono ?_;rintro e w2 ⟨rfl, hw⟩;rw [hw, hbt];clear hw;go_wp2_with fail;refine (zbR H.out).mono ?_;rintro e w2 ⟨rfl, hw2, hi2⟩;have HW2 := Lib.hid hw2;have HI2 := Lib.hid hi2;clear hw2 hi2;go_wp2_with fail;go_end0;rw [HE.out, List.append_nil];exact ⟨rfl, HW2.out, T, HI2.out⟩
    have hi0' : ((s.inter.length : Int) == 0) = true := (by rw [beq_iff_eq]; omega);cases hany : s.any;rotate_left
    ·rw [hany, if_neg (fun h => by simp at h)] at HE;rw [hany] at c5;clear h59 hi0;go_wp2_with fail;refine (zA (b.toNat : Int) _).mono ?_;rintro e w2 ⟨rfl, hw⟩;rw [hw, hbt];clear hw;go_wp2_with fail;refine (zbR H.out).mono ?_;rintro e w2 ⟨rfl, hw2, hi2⟩;have HW2 := Lib.hid hw2;have HI2 := Lib.hid hi2;clear hw2 hi2;go_wp2_with fail;go_end0;rw [HE.out, List.append_nil];exact ⟨rfl, HW2.out, T, HI2.out⟩
    rw [if_pos ⟨h60, hi0, hany⟩] at HE;rw [hany] at c5;clear h59 hi0;go_wp2_with fail;refine (zA (b.toNat : Int) _).mono ?_;rintro e w2 ⟨rfl, hw⟩;rw [hw, hbt];clear hw;go_wp2_with (at_builtin; refine zaz ?_);unfold zay;refine zG Z6 rfl rfl 0 (zB HC.out.ri.own _) rfl (zV _ _ _) rfl (zah _ _) (by unfold maxLen; omega) (by omega) (by omega) ?_;intro v6 w6 o6 g6 n6;obtain ⟨x6, m6, c6, rfl⟩ := zu o6;have hb6 := zo HB1.out g6 (fun e => by have h1 := HC.out.ri.tag p e.symm; have h2 := HC.out.tp; omega);have cc6 : w6.cell? ⟨p, 3, none⟩ = some (.slice xi mi ci) := za hb6 3;have fz6 := zy hb6;have HB6 := Lib.hid hb6;have ho6 : zn w6 0 1 (.slice x6 m6 c6) (s.inter ++ [b]).length (zk (s.inter ++ [b])) := by
     rw [List.length_append, ZB]; exact o6
    obtain ⟨T', hw', hr', hrow, hpb, hfin⟩ := zbp (t := 4) (.inl rfl) rfl HA.out HC.out HT.out HC.out.ri (World.grownBy_alloc w _ none) g6 ho6 n6;obtain ⟨hw'', hi''⟩ := hfin (w6.setCell ⟨p, 3, none⟩ (.slice x6 m6 c6)) { s with inter := s.inter ++ [b] } (.slice x6 m6 c6) (.slice xp mp cp') vt (zO (zr _ _) _ _) (zw HB6.out 3 _) rfl hr' (hrow 5 1 _ _ _ (by decide) (HC.out.rp rfl)) (hrow 6 1 _ _ _ (by decide) HC.out.rt);have HW2 := Lib.hid hw'';have HI2 := Lib.hid hi'';clear o6 g6 n6 ho6 hw' hr' hrow hpb hfin hw'' hi'' hb6;go_wp2_with fail;go_end0;rw [HE.out, ← HL.out, List.append_nil];exact ⟨rfl, HW2.out, T', HI2.out⟩
   ·rw [hbt] at HE;have hlt : (b.toNat : Int) < 48 := by
     unfold Zd at hbt;rw [Bool.and_eq_true, decide_eq_true_eq, decide_eq_true_eq] at hbt;omega
    have h58' : decide ((b.toNat : Int) < 58) = true := decide_eq_true (by omega);have h59' : ((b.toNat : Int) == 59) = false := (by rw [beq_eq_false_iff_ne]; omega);have h60' : decide (60 ≤ (b.toNat : Int)) = false := decide_eq_false (by omega);by_cases hb2 : bt < 2
    ·rw [if_pos ⟨rfl, hb2⟩] at HE;have hb2' : decide ((bt : Int) < 2) = true := decide_eq_true (by omega);have hb2'' : decide (bt < 2) = true := decide_eq_true (by omega);clear hb2;go_wp2_with fail;refine (zA (b.toNat : Int) _).mono ?_;rintro e w2 ⟨rfl, hw⟩;rw [hw, hbt];clear hw;go_wp2_with (at_builtin; refine zaz ?_);unfold zay;refine zG Z6 rfl rfl 0 (zB HC.out.ri.own _) rfl (zV _ _ _) rfl (zah _ _) (by unfold maxLen; omega) (by omega) (by omega) ?_;intro v6 w6 o6 g6 n6;obtain ⟨x6, m6, c6, rfl⟩ := zu o6;have hb6 := zo HB1.out g6 (fun e => by have h1 := HC.out.ri.tag p e.symm; have h2 := HC.out.tp; omega);have cc6 : w6.cell? ⟨p, 3, none⟩ = some (.slice xi mi ci) := za hb6 3;have fz6 := zy hb6;have HB6 := Lib.hid hb6;have ho6 : zn w6 0 1 (.slice x6 m6 c6) (s.inter ++ [b]).length (zk (s.inter ++ [b])) := by
      rw [List.length_append, ZB]; exact o6
     obtain ⟨T', hw', hr', hrow, hpb, hfin⟩ := zbp (t := 4) (.inl rfl) rfl HA.out HC.out HT.out HC.out.ri (World.grownBy_alloc w _ none) g6 ho6 n6;obtain ⟨hw'', hi''⟩ := hfin (w6.setCell ⟨p, 3, none⟩ (.slice x6 m6 c6)) { s with inter := s.inter ++ [b] } (.slice x6 m6 c6) (.slice xp mp cp') vt (zO (zr _ _) _ _) (zw HB6.out 3 _) rfl hr' (hrow 5 1 _ _ _ (by decide) (HC.out.rp rfl)) (hrow 6 1 _ _ _ (by decide) HC.out.rt);have HW2 := Lib.hid hw'';have HI2 := Lib.hid hi'';clear o6 g6 n6 ho6 hw' hr' hrow hpb hfin hw'' hi'' hb6;go_wp2_with fail;go_end0;rw [HE.out, ← HL.out, List.append_nil];exact ⟨rfl, HW2.out, T', HI2.out⟩
    ·rw [if_neg (fun h => hb2 h.2), if_neg (fun h => by simp at h), if_neg (fun h => by omega), if_neg (fun h => by omega)] at HE;have hb2' : decide ((bt : Int) < 2) = false := decide_eq_false (by omega);have hb2'' : decide (bt < 2) = false := decide_eq_false (by omega);clear hb2;go_wp2_with fail;refine (zA (b.toNat : Int) _).mono ?_;rintro e w2 ⟨rfl, hw⟩;rw [hw, hbt];clear hw;go_wp2_with fail;refine (zA (b.toNat : Int) _).mono ?_;rintro e w2 ⟨rfl, hw⟩;rw [hw, hbt];clear hw;go_wp2_with fail;refine (zbR H.out).mono ?_;rintro e w2 ⟨rfl, hw2, hi2⟩;have HW2 := Lib.hid hw2;have HI2 := Lib.hid hi2;clear hw2 hi2;go_wp2_with fail;go_end0;rw [HE.out, List.append_nil];exact ⟨rfl, HW2.out, T, HI2.out⟩
end
end Go.Proofs.YtlfdgkiliegaiaaGreatDoor
