/- Texts laid together: Q3zScreenLines G4zScreenLines G5zScreenLines Z6zScreenLines Z7zScreenLines Z8zScreenLines Z9zScreenLines Z13zScreenLines U6zScreenLines. -/
import Derived.Test.YtlfdgkiliegaiaaGreatDoorY1
import Derived.Test.YtlfdgkiliegaiaaGreatDoorY10
import Derived.Test.YtlfdgkiliegaiaaGreatDoorY11
import Derived.Test.YtlfdgkiliegaiaaGreatDoorY12
import Derived.Test.YtlfdgkiliegaiaaGreatDoorY14
import Derived.Test.YtlfdgkiliegaiaaGreatDoorY15
import Derived.Test.YtlfdgkiliegaiaaGreatDoorY17
import Derived.Test.YtlfdgkiliegaiaaGreatDoorY18
import Derived.Test.YtlfdgkiliegaiaaGreatDoorY2
import Derived.Test.YtlfdgkiliegaiaaGreatDoorY20
import Derived.Test.YtlfdgkiliegaiaaGreatDoorY25
import Derived.Test.YtlfdgkiliegaiaaGreatDoorY26
import Derived.Test.YtlfdgkiliegaiaaGreatDoorY28
import Derived.Test.YtlfdgkiliegaiaaGreatDoorY3
import Derived.Test.YtlfdgkiliegaiaaGreatDoorY4
import Derived.Test.YtlfdgkiliegaiaaGreatDoorY5
import Derived.Test.YtlfdgkiliegaiaaGreatDoorY6
import Derived.Test.YtlfdgkiliegaiaaGreatDoorY8
import Derived.Test.YtlfdgkiliegaiaaGreatDoorY9
import Derived.Deep.RegionLaw
import Derived.Deep.DeepCutAuto
import Derived.Test.YtlfdgkiliegaiaaGreatDoorRows
import Derived.Deep.AppendSrc
import Derived.Lib.AppendStr
import Derived.Lib.FrozenHead
import Derived.ArgAppend
import Derived.Laws.IdiomCopy
import Derived.Laws.IdiomStrings
import Derived.Deep.Upon
import Derived.WalkKit
import Derived.WalkSpells
import Derived.WalkLawsBesides
import Derived.BigQuiet
import Derived.Lib.Hide
import Derived.Deep.QuietTactic
import Derived.Lib.AppendIntMem
import Derived.Lib.ItoaNum
import Derived.StillTailTactics
import Derived.Lib.SliceRun
import Derived.Lib.ItoaLen
import Derived.Deep.RegionHeld3
import Derived.Test.YtlfdgkiliegaiaaGreatDoorShelf
import Derived.Lib.Builder
import Derived.Lib.RuneBytes
import Derived.Lib.UnsafeStr
import Derived.Laws.ResultCell
import Derived.Deep.CutBlock
import Derived.Laws.EntriesVeiled
import Derived.Laws.StructEq
import Derived.Deep.DrawnRows
import Derived.Laws.Cover4
import Derived.WalkMore
import Derived.ScopeJumps
import Derived.Lib.SlBytesConst
import Derived.Laws.Bits64b
import Derived.ProofKit
import Derived.OpenShut
import Derived.JoinedCond
import Derived.ChangeKeysEq
import Derived.Deep.MidRow
import Derived.Lib.FrozenHead2
import Derived.Lib.TrimU
import Derived.Lib.OthersKept
import Derived.Deep.LoopGhost
set_option linter.unusedVariables false
set_option linter.unusedSimpArgs false
namespace Go.Proofs.YtlfdgkiliegaiaaGreatDoor
section
open Go.RowKit
def blankR (cols : Nat) (s : Sty) : Rw := ⟨List.replicate cols (Zc s), false⟩
end
section
open Go.RowKit
theorem zhB {T : Nat → Nat} {p : Nat} {w : World} {g : Gr} (h : GM T p w g) :
  Calls Tryz.prog 31 #[.pointer (some ⟨p, 0, none⟩)] w fun e w' => e = .returned (.int .i64 g.old.length) ∧ w' = w := by
 obtain ⟨vr, vo, Lr, Lo, h⟩ := h;obtain ⟨c0, c1, c2, c3⟩ := zX h;have hl := Za Tryz.underlying126 h.ro.own;rw [(Zf h).2] at hl;clear h;go_enter Tryz.func31, Tryz.ntmps31;go_wp2_with fail;go_ret;exact ⟨rfl, rfl⟩
end
section
open Go.RowKit
theorem ziL (x y : Value) (wx : World) : (Instr.field 130 (.agg #[x, y]) 1).run Tryz.prog wx = .ok y wx := by kernel_rfl
set_option maxRecDepth 100000 in
theorem zhC {T : Nat → Nat} {p : Nat} {w : World} {g : Gr} (h : GM T p w g) (y : Int) :
  Calls Tryz.prog 34 #[.pointer (some ⟨p, 0, none⟩), .int .i64 y] w fun e w' => e = .returned (.bool (g.row y).wrap) ∧ Below w.heap.size w w' := by
 have HR := Lib.hid (zhw h y);go_enter Tryz.func34, Tryz.ntmps34;go_wp2_with fail;refine HR.out.mono ?_;rintro e w2 ⟨v, rfl, b2, o2⟩;have HB := Lib.hid b2;clear b2;obtain ⟨va, vc, rfl⟩ := zQ o2;clear o2;have hf := ziL (.slice va (g.row y).cells.length vc) (.bool (g.row y).wrap);go_wp2_with fail;go_ret;exact ⟨rfl, HB.out⟩
end
section
open Go.RowKit
def zaq (i : Nat) : Int := 97 + ((i % 26 : Nat) : Int)
def zg3 (i : Nat) : Cel := ⟨zaq i, 1, plainS⟩
def lnC (c n k : Nat) : List Cel := (List.range c).map fun j => if k * c + j < n then zg3 (k * c + j) else Zc plainS
def lnW (c n k : Nat) : Rw := ⟨lnC c n k, decide ((k + 1) * c < n)⟩
def zab (c R n : Nat) : Nat := (n - 1) / c - (R - 1)
def exG (c R l n : Nat) : Gr := ⟨c, l, (List.range R).map fun i => lnW c n (zab c R n + i), ZQ l ((List.range (zab c R n)).map fun k => lnW c n k)⟩
def exV (c R n : Nat) : Sav := { sav0 with x := if n % c = 0 then (if n = 0 then 0 else (c : Int) - 1) else ((n % c : Nat) : Int), y := (((n - 1) / c - zab c R n : Nat) : Int), wait := decide (0 < n ∧ n % c = 0) }
def exS (c R l n : Nat) : Scr := { za4 c R l with main := exG c R l n, now := exV c R n, last := if n = 0 then 0 else zaq (n - 1) }
theorem zdi (c n k : Nat) : (lnC c n k).length = c := by simp [lnC]
theorem ziM (c n k j : Nat) (h : j < c) : (lnC c n k)[j]'(by rw [zdi]; exact h) = if k * c + j < n then zg3 (k * c + j) else Zc plainS := by simp [lnC]
theorem znj (c n k : Nat) : ∀ q ∈ lnC c n k, q.width = 1 := fun q hq => by
 unfold lnC at hq;obtain ⟨j, _, rfl⟩ := List.mem_map.1 hq;split <;> rfl
theorem zhD {l : List Cel} (h : ∀ q ∈ l, q.width = 1) (x : Int) : zC l x = l := by
 unfold zC;rw [if_neg];rintro ⟨h1, h2, h3⟩;rw [List.getD_eq_getElem?_getD, List.getElem?_eq_getElem (by omega)] at h3;have := h _ (List.getElem_mem (show x.toNat < l.length by omega));simp only [Option.getD_some] at h3;omega
theorem zki {α : Type} (l : List α) (x : Nat) (q : α) (h : x < l.length) : z8 l x [q] = l.set x q := by
 unfold z8;rw [List.set_eq_take_append_cons_drop, if_pos h];simp
theorem znk {l : List Cel} (h : ∀ q ∈ l, q.width = 1) (x : Nat) (q : Cel) (hq : q.width = 1) (hx : x < l.length) : zeG l x q = l.set x q := by
 unfold zeG;rw [zhD h, zhD h, if_neg (by omega), zki l x q hx]
theorem ziN (l : Nat) (A B : List Rw) : ZQ l (ZQ l A ++ B) = ZQ l (A ++ B) := by
 unfold ZQ;by_cases h : A.length ≤ l
 ·rw [show A.length - l = 0 by omega, List.drop_zero]
 ·have e1 : (A.drop (A.length - l)).length = l := (by rw [List.length_drop]; omega);rw [List.length_append, e1, List.length_append, show l + B.length - l = B.length by omega, show A.length + B.length - l = (A.length - l) + B.length by omega, ← List.drop_drop,
   List.drop_append_of_le_length (l₂ := B) (show A.length - l ≤ A.length by omega)]
theorem zfm {c n k : Nat} (h : (k + 1) * c < n ∨ n < k * c) : lnW c (n + 1) k = lnW c n k := by
 rw [Nat.succ_mul] at h;unfold lnW;rw [Nat.succ_mul];have e1 : lnC c (n + 1) k = lnC c n k := by
  unfold lnC;refine List.map_congr_left fun j hj => ?_;rw [List.mem_range] at hj;by_cases h1 : k * c + j < n
  ·rw [if_pos h1, if_pos (by omega)]
  ·rw [if_neg h1, if_neg (by omega)]
 rw [e1];congr 1;exact decide_eq_decide.2 (by omega)
theorem znl {c n k x : Nat} (hn : n = k * c + x) (hx : x < c) : lnW c (n + 1) k = ⟨(lnC c n k).set x (zg3 n), (lnW c n k).wrap⟩ := by
 unfold lnW;rw [Nat.succ_mul];have e1 : lnC c (n + 1) k = (lnC c n k).set x (zg3 n) := by
  apply List.ext_getElem
  ·rw [List.length_set, zdi, zdi]
  ·intro j h1 h2;rw [zdi] at h1;rw [List.getElem_set, ziM c (n + 1) k j h1];by_cases hj : x = j
   ·rw [if_pos hj, if_pos (by omega), hn, hj]
   ·rw [if_neg hj, ziM c n k j h1];by_cases h3 : k * c + j < n
    ·rw [if_pos h3, if_pos (by omega)]
    ·rw [if_neg h3, if_neg (by omega)]
 rw [e1];congr 1;exact decide_eq_decide.2 (by omega)
theorem zlM {c n k : Nat} (hn : n = (k + 1) * c) : lnW c (n + 1) k = ⟨(lnW c n k).cells, true⟩ := by
 unfold lnW;rw [Nat.succ_mul] at hn ⊢;have e1 : lnC c (n + 1) k = lnC c n k := by
  unfold lnC;refine List.map_congr_left fun j hj => ?_;rw [List.mem_range] at hj;rw [if_pos (by omega), if_pos (by omega)]
 rw [e1];congr 1;exact decide_eq_true (by omega)
theorem zgp {c n k : Nat} (h : n ≤ k * c) : lnW c n k = blankR c plainS := by
 unfold lnW blankR;rw [Nat.succ_mul];congr 1
 ·unfold lnC;apply List.ext_getElem
  ·simp
  ·intro j h1 h2;simp;omega
 ·exact decide_eq_false (by omega)
theorem zjJ (i : Nat) : wid (zaq i) = 1 := by
 have h : i % 26 < 26 := Nat.mod_lt _ (by decide);unfold zaq;generalize i % 26 = m at h;have : ∀ m : Nat, m < 26 → wid (97 + (m : Int)) = 1 := (by decide);exact this m h
theorem zjK {c R l n i : Nat} (h : i < R) : (exG c R l n).rows[i]'(by simp [exG]; exact h) = lnW c n (zab c R n + i) := by simp [exG]
theorem zd6 {c R l n : Nat} : (exG c R l n).rows.length = R := by simp [exG]
theorem znm {g : Gr} {c R x y i : Nat} (hg : zaH c R g) (hx : x < c) (hy : y < R) (hl : (g.rows.getD y noR).cells.length = c) (h1 : ∀ q ∈ (g.rows.getD y noR).cells, q.width = 1) :
  g.put x y ⟨zaq i, 1, plainS⟩ = { g with rows := g.rows.set y ⟨(g.rows.getD y noR).cells.set x (zg3 i), (g.rows.getD y noR).wrap⟩ } := by
 have hok : g.putOk x y ⟨zaq i, 1, plainS⟩ = true := by
  unfold Gr.putOk Gr.onIt;dsimp only;rw [zjJ, zba, hg.1, hg.2];simp; omega
 unfold Gr.put;rw [if_pos hok];unfold Gr.turn;dsimp only;rw [Int.toNat_natCast, Int.toNat_natCast, znk h1 x _ rfl (by omega)];rfl
end
section
open Go.RowKit
theorem zet {g : Gr} {i : Nat} (h : i < g.rows.length) : g.rows.getD i noR = g.rows[i] := by
 rw [List.getD_eq_getElem?_getD, List.getElem?_eq_getElem h]; rfl
theorem zlN {c n : Nat} (hc : 1 ≤ c) (h : n = 0 ∨ n % c ≠ 0) : (n - 1) / c = n / c := by
 rcases Nat.eq_zero_or_pos n with h0 | h0
 ·subst h0; rfl
 ·have hm : n % c ≠ 0 := (by rcases h with h | h <;> omega);have h1 := Nat.div_add_mod n c;have h2 : n % c < c := Nat.mod_lt _ (by omega);generalize n / c = k at h1 ⊢;generalize n % c = x at h1 h2 hm;refine Nat.div_eq_of_lt_le ?_ ?_
  ·rw [Nat.mul_comm]; omega
  ·rw [Nat.add_mul, Nat.one_mul, Nat.mul_comm]; omega
theorem zfn {c R l n k x y o : Nat} (hx : x < c) (hn : n = k * c + x) (ho : o + y = k) (hy : y < R) (rows : List Rw) (old : List Rw) (hlen : rows.length = R)
  (hrow : ∀ i (hi : i < R), rows[i]'(by omega) = if o + i = k then lnW c n k else lnW c (n + 1) (o + i)) :
  (⟨c, l, rows, old⟩ : Gr).put ((x : Nat) : Int) ((y : Nat) : Int) ⟨zaq n, 1, plainS⟩ = ⟨c, l, (List.range R).map fun i => lnW c (n + 1) (o + i), old⟩ := by
 have hr0 : (⟨c, l, rows, old⟩ : Gr).rows.getD y noR = lnW c n k := by
  rw [zet (by show y < rows.length; omega)];show rows[y]'(by omega) = _;rw [hrow y hy, if_pos ho]
 rw [znm (c := c) (R := R) ⟨rfl, hlen⟩ hx hy (by rw [hr0]; exact zdi _ _ _) (by rw [hr0]; exact znj _ _ _), hr0];congr 1;apply List.ext_getElem
 ·simp [hlen]
 ·intro i h1 h2;have hi : i < R := (by simpa using h2);rw [List.getElem_set];simp only [List.getElem_map, List.getElem_range];by_cases hiy : y = i
  ·rw [if_pos hiy, ← hiy, ho, znl hn hx]; rfl
  ·rw [if_neg hiy, hrow i hi, if_neg (by omega)]
theorem zlO {c n k x i : Nat} (hn : n = k * c + x) (hx : x < c) (hx0 : x ≠ 0 ∨ n = 0) (hi : i ≠ k) : lnW c (n + 1) i = lnW c n i := by
 refine zfm ?_;rcases Nat.lt_or_gt_of_ne hi with h1 | h1
 ·have h3 : (i + 1) * c ≤ k * c := Nat.mul_le_mul_right c h1;refine .inl ?_;rcases hx0 with h | h
  ·omega
  ·have : k * c = 0 := (by omega);have h5 : c ≤ (i + 1) * c := Nat.le_mul_of_pos_left c (by omega);omega
 ·have h3 : (k + 1) * c ≤ i * c := Nat.mul_le_mul_right c h1;rw [Nat.succ_mul] at h3;exact .inr (by omega)
theorem zoi {c R l n k x : Nat} (hx : x < c) (hR : 1 ≤ R) (hn : n = k * c + x) (hx0 : x ≠ 0 ∨ n = 0) (ho : zab c R n = k - (R - 1)) (ho1 : zab c R (n + 1) = k - (R - 1)) :
  (exG c R l n).put (x : Int) ((k - zab c R n : Nat) : Int) ⟨zaq n, 1, plainS⟩ = exG c R l (n + 1) := by
 have hel := fun i (hi : i ≠ k) => zlO hn hx hx0 hi;unfold exG;rw [ho1, ho];rw [zfn (R := R) (y := k - (k - (R - 1))) (k := k) (o := k - (R - 1)) hx hn (by omega) (by omega) _ _ (by simp) (fun i hi => by
  simp only [List.getElem_map, List.getElem_range];by_cases h : k - (R - 1) + i = k
  ·rw [if_pos h, h]
  ·rw [if_neg h, hel _ h])]
 congr 2;refine List.map_congr_left fun i hi => ?_;rw [List.mem_range] at hi;exact (hel i (by omega)).symm
theorem zlP {c l n k : Nat} (hn : n = (k + 1) * c) (hc : 1 ≤ c) (o : Nat) (ho : o ≤ k) :
  ZQ l (ZQ l ((List.range o).map fun i => lnW c n i) ++ [lnW c (n + 1) o]) = ZQ l ((List.range (o + 1)).map fun i => lnW c (n + 1) i) := by
 rw [ziN, List.range_succ, List.map_append];congr 2;refine List.map_congr_left fun i hi => ?_;rw [List.mem_range] at hi;refine (zfm (.inl ?_)).symm;have h3 : (i + 1) * c ≤ k * c := Nat.mul_le_mul_right c (by omega);rw [Nat.succ_mul] at hn;omega
def mkS (c R l : Nat) (g : Gr) (v : Sav) (la : Int) : Scr := { za4 c R l with main := g, now := v, last := la }
theorem ziO (c R l n : Nat) : exS c R l n = mkS c R l (exG c R l n) (exV c R n) (if n = 0 then 0 else zaq (n - 1)) := rfl
theorem zfo (c R l : Nat) : (ZY c R l).rows.length = R := (Dim.new c R l).2.1
theorem zdK (c R l : Nat) (g : Gr) (v : Sav) (la : Int) : (mkS c R l g v la).bottom = (R : Int) - 1 := by
 show (((ZY c (ZY c R l).rows.length l).rows.length : Nat) : Int) - 1 = _;rw [zfo, zfo]
theorem zfp (c R l : Nat) (g : Gr) (v : Sav) (la : Int) (f : Gr → Gr) : (mkS c R l g v la).turn f = mkS c R l (f g) v la := rfl
theorem zfq (c R l : Nat) (g : Gr) (v : Sav) (la : Int) : (mkS c R l g v la).has 1 = true := by
 show (zee 9 1 != 0) = true;decide
theorem zlQ (c R l : Nat) (g : Gr) (v : Sav) (la : Int) : (mkS c R l g v la).has 2 = false := by
 show (zee 9 2 != 0) = false;decide
theorem zkj (c R l : Nat) (g : Gr) (v : Sav) (la : Int) (hp : v.pen = plainS) (hr : g.rows.length = R) : (mkS c R l g v la).index = if v.y = (R : Int) - 1 then mkS c R l (g.up 0 ((R : Int) - 1) 1 plainS true) v la else if v.y < (R : Int) - 1 then mkS c R l g { v with y := v.y + 1 } la else mkS c R l g v la := by
 have hb : (mkS c R l g v la).blank = plainS := (by show (⟨-1, v.pen.bg, 0⟩ : Sty) = _; rw [hp]; rfl);have hrw : (mkS c R l g v la).rows = R := (by show ((g.rows.length : Nat) : Int) = _; rw [hr]);unfold Scr.index;by_cases h : v.y = (R : Int) - 1
 ·rw [if_pos (show (mkS c R l g v la).now.y = (mkS c R l g v la).bottom by rw [zdK]; exact h), if_pos h, zfp, hb, zdK];rfl
 ·rw [if_neg (show ¬ (mkS c R l g v la).now.y = (mkS c R l g v la).bottom by rw [zdK]; exact h), if_neg h];by_cases h2 : v.y < (R : Int) - 1
  ·rw [if_pos (show (mkS c R l g v la).now.y < (mkS c R l g v la).rows - 1 by rw [hrw]; exact h2), if_pos h2];rfl
  ·rw [if_neg (show ¬ (mkS c R l g v la).now.y < (mkS c R l g v la).rows - 1 by rw [hrw]; exact h2), if_neg h2]
theorem zjL (c R l : Nat) (g : Gr) (v : Sav) (la : Int) (i : Nat) (hp : v.pen = plainS) (hg : (g.put v.x v.y ⟨zaq i, 1, plainS⟩).cols = c) :
  (mkS c R l g v la).lay (zaq i) 1 = mkS c R l (g.put v.x v.y ⟨zaq i, 1, plainS⟩) (if (c : Int) ≤ v.x + 1 then { v with x := (c : Int) - 1, wait := true } else { v with x := v.x + 1 }) la := by
 unfold Scr.lay;rw [zlQ, if_neg Bool.false_ne_true];dsimp only;rw [zfp];have e : g.put (mkS c R l g v la).now.x (mkS c R l g v la).now.y ⟨zaq i, 1, (mkS c R l g v la).now.pen⟩ = g.put v.x v.y ⟨zaq i, 1, plainS⟩ := by
  show g.put v.x v.y ⟨zaq i, 1, v.pen⟩ = _;rw [hp]
 rw [e];generalize g.put v.x v.y ⟨zaq i, 1, plainS⟩ = q at hg ⊢;have e2 : (mkS c R l q v la).cols = c := (by show ((q.cols : Nat) : Int) = _; rw [hg]);rw [e2, zfq];by_cases h : (c : Int) ≤ v.x + 1
 ·rw [if_pos (show (c : Int) ≤ (mkS c R l q v la).now.x + 1 from h), if_pos h];rfl
 ·rw [if_neg (show ¬ (c : Int) ≤ (mkS c R l q v la).now.x + 1 from h), if_neg h];rfl
end
section
open Go.RowKit
theorem zlR {c l R : Nat} {rows old : List Rw} (hlen : rows.length = R) (hR : 1 ≤ R) : (⟨c, l, rows, old⟩ : Gr).up 0 ((R : Int) - 1) 1 plainS true = ⟨c, l, rows.drop 1 ++ [blankR c plainS], ZQ l (old ++ rows.take 1)⟩ := by
 have h1 : zK (⟨c, l, rows, old⟩ : Gr) 0 ((R : Int) - 1) 1 plainS = 1 := by
  unfold zK;rw [zba];rw [if_neg (by simp; omega)];omega
 unfold Gr.up;rw [h1, if_neg (by decide), if_pos ⟨rfl, rfl⟩];have e1 : ((R : Int) - 1).toNat + 1 = R := (by omega);have e2 : zaQ rows (0 : Int).toNat ((R : Int) - 1).toNat 1 c plainS = rows.drop 1 ++ [blankR c plainS] := by
  unfold zaQ ZR blankR;rw [e1];show rows.take 0 ++ (rows.drop 1).take (R - 0 - 1) ++ [_] ++ rows.drop R = _;rw [List.take_zero, List.nil_append, List.drop_eq_nil_of_le (by omega : rows.length ≤ R), List.append_nil, List.take_of_length_le (by rw [List.length_drop]; omega)]
 dsimp only;rw [e2];rfl
theorem zeu {c R l n k : Nat} (hc : 1 ≤ c) (hn : n = (k + 1) * c) (hR : 1 ≤ R) :
  (exG c R l n).setWrap ((k - (k - (R - 1)) : Nat) : Int) true = ⟨c, l, (List.range R).map fun i => if k - (R - 1) + i = k + 1 then lnW c n (k + 1) else lnW c (n + 1) (k - (R - 1) + i), ZQ l ((List.range (k - (R - 1))).map fun i => lnW c n i)⟩ := by
 have hk : (n - 1) / c = k := by
  rw [hn, Nat.succ_mul];refine Nat.div_eq_of_lt_le ?_ ?_
  ·omega
  ·rw [Nat.succ_mul]; omega
 have ho : zab c R n = k - (R - 1) := (by unfold zab; rw [hk]);have hkk : lnW c (n + 1) k = ⟨(lnW c n k).cells, true⟩ := zlM hn;have hel : ∀ i, i ≠ k → i ≠ k + 1 → lnW c (n + 1) i = lnW c n i := fun i h1 h2 => by
  refine zfm ?_;rcases Nat.lt_or_gt_of_ne h1 with h | h
  ·have h3 : (i + 1) * c ≤ k * c := Nat.mul_le_mul_right c h;rw [Nat.succ_mul] at hn;exact .inl (by omega)
  ·have h3 : (k + 2) * c ≤ i * c := Nat.mul_le_mul_right c (by omega);rw [Nat.succ_mul] at h3;exact .inr (by omega)
 unfold Gr.setWrap;rw [zd6, if_pos (by omega), Int.toNat_natCast, zet (by rw [zd6]; omega), zjK (by omega), ho];unfold exG;rw [ho];dsimp only;congr 1;apply List.ext_getElem
 ·simp
 ·intro i h1 h2;have hi : i < R := (by simpa using h2);rw [List.getElem_set];simp only [List.getElem_map, List.getElem_range];by_cases hik : k - (k - (R - 1)) = i
  ·rw [if_pos hik, if_neg (by omega), ← hik, show k - (R - 1) + (k - (k - (R - 1))) = k by omega, hkk]
  ·rw [if_neg hik];by_cases h3 : k - (R - 1) + i = k + 1
   ·rw [if_pos h3, h3]
   ·rw [if_neg h3, hel _ (by omega) h3]
theorem zkk {c R l n : Nat} (hc : 1 ≤ c) (hR : 1 ≤ R) : (exS c R l n).print (zaq n) = exS c R l (n + 1) := by
 have hd : (exS c R l n).drawn (zaq n) = zaq n := rfl;have hcol : (exS c R l n).cols = c := rfl;have hla : ∀ s : Scr, ∀ g v la, s = mkS c R l g v la → ({ s with last := zaq n } : Scr) = mkS c R l g v (zaq n) := by
  intro s g v la h; rw [h]; rfl
 unfold Scr.print;dsimp only;rw [hd, zjJ, hcol, if_neg (by omega)];rw [ziO c R l (n + 1), if_neg (by omega)];show _ = mkS c R l (exG c R l (n + 1)) (exV c R (n + 1)) (zaq n);refine hla _ _ _ (if n = 0 then 0 else zaq (n - 1)) ?_;generalize hq : (if n = 0 then 0 else zaq (n - 1)) = la;by_cases hw : 0 < n ∧ n % c = 0
 ·
  obtain ⟨k, hk⟩ : ∃ k, n = (k + 1) * c := by
   obtain ⟨d, hd⟩ := Nat.dvd_of_mod_eq_zero hw.2;cases d with
   | zero => omega
   | succ d => exact ⟨d, by rw [hd, Nat.mul_comm]⟩
  have hk1 : (n - 1) / c = k := by
   rw [hk, Nat.succ_mul];refine Nat.div_eq_of_lt_le ?_ ?_
   ·omega
   ·rw [Nat.succ_mul]; omega
  have hk2 : (n + 1 - 1) / c = k + 1 := (by rw [Nat.add_sub_cancel, hk, Nat.mul_div_cancel _ hc]);have ho : zab c R n = k - (R - 1) := (by unfold zab; rw [hk1]);have ho2 : zab c R (n + 1) = k + 1 - (R - 1) := (by unfold zab; rw [hk2]);have hm : (n + 1) % c = if c = 1 then 0 else 1 := by
   rw [hk, Nat.add_mod, Nat.mul_mod_left, Nat.zero_add, Nat.mod_mod];split
   ·next h => subst h; rfl
   ·exact Nat.mod_eq_of_lt (by omega)
  have hfit : (exS c R l n).fit 1 = mkS c R l (if k < R - 1 then (exG c R l n).setWrap ((k - (k - (R - 1)) : Nat) : Int) true else ((exG c R l n).setWrap ((k - (k - (R - 1)) : Nat) : Int) true).up 0 ((R : Int) - 1) 1 plainS true)
    { exV c R n with x := 0, y := ((k + 1 - (k + 1 - (R - 1)) : Nat) : Int), wait := false } la := by
   have hwt : ((exS c R l n).now.wait && (exS c R l n).has 1) = true := by
    show (decide (0 < n ∧ n % c = 0) && (mkS c R l (exG c R l n) (exV c R n) 0).has 1) = true;rw [zfq, decide_eq_true hw];rfl
   unfold Scr.fit;rw [hwt, if_pos rfl];dsimp only;have hon : (exS c R l n).on.calm = mkS c R l (if k < R - 1 then (exG c R l n).setWrap ((k - (k - (R - 1)) : Nat) : Int) true else ((exG c R l n).setWrap ((k - (k - (R - 1)) : Nat) : Int) true).up 0 ((R : Int) - 1) 1 plainS true)
    { exV c R n with x := 0, y := ((k + 1 - (k + 1 - (R - 1)) : Nat) : Int), wait := false } la := by
    unfold Scr.on;have hy : (exS c R l n).now.y = ((k - (k - (R - 1)) : Nat) : Int) := by
     show (((n - 1) / c - zab c R n : Nat) : Int) = _;rw [hk1, ho]
    rw [hy, ziO, hq, zfp];have hx : (mkS c R l ((exG c R l n).setWrap ((k - (k - (R - 1)) : Nat) : Int) true) (exV c R n) la).toX 0 = mkS c R l ((exG c R l n).setWrap ((k - (k - (R - 1)) : Nat) : Int) true) { exV c R n with x := 0 } la := rfl;rw [hx, zkj c R l _ _ la rfl (by rw [zeu hc hk hR]; simp)];have hy2 : ({ exV c R n with x := 0 } : Sav).y = ((k - (k - (R - 1)) : Nat) : Int) := hy;rw [hy2];by_cases hR2 : k < R - 1
    ·rw [if_neg (by omega), if_pos (by omega), if_pos hR2, show ((k - (k - (R - 1)) : Nat) : Int) + 1 = ((k + 1 - (k + 1 - (R - 1)) : Nat) : Int) by omega];rfl
    ·rw [if_pos (by omega), if_neg hR2, show ((k + 1 - (k + 1 - (R - 1)) : Nat) : Int) = ((k - (k - (R - 1)) : Nat) : Int) by omega, ← hy2];rfl
   rw [hon];rw [if_neg];intro h;have hcc : (mkS c R l (if k < R - 1 then (exG c R l n).setWrap ((k - (k - (R - 1)) : Nat) : Int) true else ((exG c R l n).setWrap ((k - (k - (R - 1)) : Nat) : Int) true).up 0 ((R : Int) - 1) 1 plainS true)
    { exV c R n with x := 0, y := ((k + 1 - (k + 1 - (R - 1)) : Nat) : Int), wait := false } la).cols = c := by
    show ((Gr.cols _ : Nat) : Int) = _;rw [zeu hc hk hR];split
    ·rfl
    ·rw [zlR (by simp) hR];rfl
   rw [hcc] at h;have h0 : (c : Int) - 1 < 0 := h;omega
  have hput : (if k < R - 1 then (exG c R l n).setWrap ((k - (k - (R - 1)) : Nat) : Int) true else ((exG c R l n).setWrap ((k - (k - (R - 1)) : Nat) : Int) true).up 0 ((R : Int) - 1) 1 plainS true).put
    ((0 : Nat) : Int) ((k + 1 - (k + 1 - (R - 1)) : Nat) : Int) ⟨zaq n, 1, plainS⟩ = exG c R l (n + 1) := by
   rw [zeu hc hk hR];by_cases hR2 : k < R - 1
   ·rw [if_pos hR2];have e0 : k - (R - 1) = 0 := (by omega);have e1 : k + 1 - (R - 1) = 0 := (by omega);rw [e0, e1];rw [zfn (R := R) (k := k + 1) (y := k + 1 - 0) (o := 0) (x := 0) hc (by omega) (by omega) (by omega) _ _ (by simp) (fun i hi => by simp only [List.getElem_map, List.getElem_range])];unfold exG;rw [ho2, e1];rfl
   ·rw [if_neg hR2, zlR (by simp) hR];have hold : ZQ l (ZQ l ((List.range (k - (R - 1))).map fun i => lnW c n i) ++ ((List.range R).map fun i => if k - (R - 1) + i = k + 1 then lnW c n (k + 1) else lnW c (n + 1) (k - (R - 1) + i)).take 1)
      = ZQ l ((List.range (k + 1 - (R - 1))).map fun i => lnW c (n + 1) i) := by
     obtain ⟨R', rfl⟩ : ∃ R', R = R' + 1 := ⟨R - 1, by omega⟩;rw [List.range_succ_eq_map, List.map_cons];show ZQ l (_ ++ [if k - (R' + 1 - 1) + 0 = k + 1 then _ else _]) = _;rw [if_neg (by omega), Nat.add_zero (k - (R' + 1 - 1)), zlP hk hc _ (by omega), show k - (R' + 1 - 1) + 1 = k + 1 - (R' + 1 - 1) by omega]
    rw [hold];rw [zfn (R := R) (k := k + 1) (y := k + 1 - (k + 1 - (R - 1))) (o := k + 1 - (R - 1)) (x := 0) hc (by omega) (by omega) (by omega) _ _ (by simp; omega) (fun i hi => by
     by_cases hi2 : i < R - 1
     ·rw [List.getElem_append_left (by simp; omega), List.getElem_drop];simp only [List.getElem_map, List.getElem_range];rw [show k - (R - 1) + (1 + i) = k + 1 - (R - 1) + i by omega]
     ·rw [List.getElem_append_right (by simp; omega), if_pos (by omega), zgp (by omega)];simp)]
    unfold exG;rw [ho2]
  rw [hfit];rw [zjL c R l _ _ la n rfl (by
   show Gr.cols (Gr.put (if k < R - 1 then _ else _) ((0 : Nat) : Int) ((k + 1 - (k + 1 - (R - 1)) : Nat) : Int) ⟨zaq n, 1, plainS⟩) = c;rw [hput]; rfl)]
  show mkS c R l (Gr.put (if k < R - 1 then _ else _) ((0 : Nat) : Int) ((k + 1 - (k + 1 - (R - 1)) : Nat) : Int) ⟨zaq n, 1, plainS⟩) (if (c : Int) ≤ 0 + 1 then _ else _) la = _;rw [hput];congr 1;unfold exV;rw [hm, ho2, hk2];by_cases h1 : c = 1
  ·subst h1;rfl
  ·rw [if_neg (by omega), if_neg h1];simp only [Nat.one_ne_zero, and_false, decide_false, if_false];rfl
 ·
  have hx : n % c < c := Nat.mod_lt _ hc;have hdm : n = n / c * c + n % c := (by rw [Nat.mul_comm]; exact (Nat.div_add_mod n c).symm);have hor : n = 0 ∨ n % c ≠ 0 := (by omega);have hor2 : n % c ≠ 0 ∨ n = 0 := (by omega);have hdp := zlN hc hor;have ho : zab c R n = n / c - (R - 1) := (by unfold zab; rw [hdp]);have ho2 : zab c R (n + 1) = n / c - (R - 1) := rfl;have hvx : (exV c R n).x = ((n % c : Nat) : Int) := by
   show (if n % c = 0 then (if n = 0 then 0 else (c : Int) - 1) else ((n % c : Nat) : Int)) = _;rcases hor with h | h
   ·subst h; simp
   ·rw [if_neg h]
  have hvy : (exV c R n).y = ((n / c - zab c R n : Nat) : Int) := by
   show (((n - 1) / c - zab c R n : Nat) : Int) = _;rw [hdp]
  have hfit : (exS c R l n).fit 1 = mkS c R l (exG c R l n) { exV c R n with wait := false } la := by
   have hwt : ((exS c R l n).now.wait && (exS c R l n).has 1) = false := by
    show (decide (0 < n ∧ n % c = 0) && (mkS c R l (exG c R l n) (exV c R n) 0).has 1) = false;rw [zfq, decide_eq_false hw];rfl
   unfold Scr.fit;rw [hwt, if_neg Bool.false_ne_true];dsimp only;rw [if_neg]
   ·rw [ziO, hq];rfl
   ·show ¬ ((c : Int) - 1 < (exV c R n).x);rw [hvx];omega
  rw [hfit];have hput : (exG c R l n).put (exV c R n).x (exV c R n).y ⟨zaq n, 1, plainS⟩ = exG c R l (n + 1) := by
   rw [hvx, hvy];exact zoi hx hR hdm hor2 ho ho2
  rw [zjL c R l _ _ la n rfl (by show Gr.cols ((exG c R l n).put (exV c R n).x (exV c R n).y _) = c; rw [hput]; rfl)];show mkS c R l ((exG c R l n).put (exV c R n).x (exV c R n).y _) (if (c : Int) ≤ (exV c R n).x + 1 then { exV c R n with x := (c : Int) - 1, wait := true } else { exV c R n with x := (exV c R n).x + 1, wait := false }) la = _;rw [hput, hvx];congr 1;have hv2 : (exV c R (n + 1)) = { sav0 with x := if (n + 1) % c = 0 then (if n + 1 = 0 then 0 else (c : Int) - 1) else (((n + 1) % c : Nat) : Int), y := ((n / c - (n / c - (R - 1)) : Nat) : Int), wait := decide (0 < n + 1 ∧ (n + 1) % c = 0) } := rfl;have hv1 : ∀ x w, ({ exV c R n with x := x, wait := w } : Sav) = { sav0 with x := x, y := ((n / c - (n / c - (R - 1)) : Nat) : Int), wait := w } := by
   intro x w;show (⟨x, (exV c R n).y, w, plainS, false, false, false, 0⟩ : Sav) = _;rw [hvy, ho];rfl
  have hmod : (n + 1) % c = if n % c + 1 = c then 0 else n % c + 1 := by
   have e : (n + 1) % c = ((n % c + 1) + n / c * c) % c := (by congr 1; omega);rw [e, Nat.add_mul_mod_self_right];split
   ·next h => rw [h]; exact Nat.mod_self c
   ·exact Nat.mod_eq_of_lt (by omega)
  rw [hv1, hv1, hv2, hmod];by_cases h1 : n % c + 1 = c
  ·rw [if_pos (by omega), if_pos h1, if_pos rfl, if_neg (Nat.succ_ne_zero n), decide_eq_true ⟨Nat.succ_pos n, rfl⟩]
  ·rw [if_neg (by omega), if_neg h1, if_neg (Nat.succ_ne_zero _), decide_eq_false (fun h => Nat.succ_ne_zero _ h.2)];rfl
end
section
open Go.RowKit
def zev (i : Nat) : UInt8 := UInt8.ofNat (97 + i % 26)
def za0 (n : Nat) : List UInt8 := (List.range n).map zev
def ziP (c n : Nat) : Nat := max 1 ((n + c - 1) / c)
theorem zg4 {c n : Nat} (hc : 1 ≤ c) : ziP c n = (n - 1) / c + 1 := by
 unfold ziP;rcases Nat.eq_zero_or_pos n with h | h
 ·subst h;rw [Nat.zero_add, Nat.div_eq_of_lt (by omega), Nat.div_eq_of_lt (by omega)];rfl
 ·rw [show n + c - 1 = n - 1 + c by omega, Nat.add_div_right _ hc];exact Nat.max_eq_right (Nat.succ_le_succ (Nat.zero_le _))
theorem znn {c R n : Nat} (hc : 1 ≤ c) (hR : 1 ≤ R) : zab c R n = ziP c n - R := by
 rw [zg4 hc];unfold zab;generalize (n - 1) / c = d;omega
theorem zlS {c R l : Nat} : exS c R l 0 = za4 c R l := by
 have e0 : zab c R 0 = 0 := (by unfold zab; rw [show (0 - 1) / c = 0 from Nat.zero_div c]; exact Nat.zero_sub _);have e1 : exG c R l 0 = (za4 c R l).main := by
  show _ = ZY c (ZY c R l).rows.length l;rw [zfo];unfold exG ZY;rw [e0];congr 1
  ·unfold ZR;apply List.ext_getElem
   ·simp
   ·intro i h1 h2;simp only [List.getElem_map, List.getElem_range, List.getElem_replicate];rw [zgp (by omega)];rfl
  ·simp [ZQ]
 have e2 : exV c R 0 = sav0 := by
  unfold exV;rw [e0];simp [sav0]
 unfold exS;rw [e1, e2];rfl
theorem zkl (l : Nat) (m : List Rw) : (ZQ l m).length = min m.length l := by
 unfold ZQ;rw [List.length_drop];omega
theorem zjM {c R l n : Nat} : (exG c R l n).old.length = min (zab c R n) l := by
 show (ZQ l _).length = _;rw [zkl, List.length_map, List.length_range]
theorem zno {c R l n k : Nat} (h1 : zab c R n - min (zab c R n) l ≤ k) (h2 : k < zab c R n + R) : (exG c R l n).row ((k : Int) - (zab c R n : Int)) = lnW c n k := by
 unfold Gr.row;rw [zd6, zjM];by_cases h : zab c R n ≤ k
 ·rw [if_pos (by omega), show ((k : Int) - (zab c R n : Int)).toNat = k - zab c R n by omega, zet (by rw [zd6]; omega), zjK (by omega), show zab c R n + (k - zab c R n) = k by omega]
 ·rw [if_neg (by omega), if_pos (by omega)];rw [show (((min (zab c R n) l : Nat) : Int) + ((k : Int) - (zab c R n : Int))).toNat = k - (zab c R n - min (zab c R n) l) by omega];show (ZQ l ((List.range (zab c R n)).map fun i => lnW c n i)).getD _ noR = _;unfold ZQ;rw [List.getD_eq_getElem?_getD, List.getElem?_drop, List.length_map, List.length_range, List.getElem?_map, List.getElem?_range (by omega)];show lnW c n _ = _;congr 1;omega
theorem zlT {c n k : Nat} (hc : 1 ≤ c) (_h : k < ziP c n) : (lnW c n k).wrap = decide (k < ziP c n - 1) := by
 unfold lnW;dsimp only;rw [zg4 hc];refine decide_eq_decide.2 ?_;rw [Nat.add_sub_cancel, ← Nat.succ_le_iff (m := k), Nat.le_div_iff_mul_le hc, Nat.succ_eq_add_one];have := Nat.mul_pos (Nat.succ_pos k) hc;rw [Nat.succ_eq_add_one] at this;omega
theorem znp (i : Nat) : Lib.encodeRune (zaq i) = [zev i] := by
 have h : i % 26 < 26 := Nat.mod_lt _ (by decide);unfold zaq zev;generalize i % 26 = m at h;have : ∀ m : Nat, m < 26 → Lib.encodeRune (97 + (m : Int)) = [UInt8.ofNat (97 + m)] := (by decide);exact this m h
theorem zkm (c n k : Nat) : lnC c n k = ((List.range (min (n - k * c) c)).map fun j => zg3 (k * c + j)) ++ List.replicate (c - min (n - k * c) c) (Zc plainS) := by
 apply List.ext_getElem
 ·simp [lnC]; omega
 ·intro i h1 h2;have hi : i < c := (by rw [zdi] at h1; exact h1);rw [ziM c n k i hi];by_cases h : i < min (n - k * c) c
  ·rw [if_pos (by omega), List.getElem_append_left (by simpa using h)];simp
  ·rw [if_neg (by omega), List.getElem_append_right (by simp; omega)];simp
theorem zhE {A : List Cel} (h : ∀ q ∈ A, q.rune ≠ 32) (b : Nat) : zdH (A ++ List.replicate b (Zc plainS)) = A := by
 unfold zdH;rw [List.reverse_append, List.reverse_replicate, List.dropWhile_append_of_pos (by intro a ha; rw [List.eq_of_mem_replicate ha]; rfl)];have e : A.reverse.dropWhile (fun c => c.rune == 32) = A.reverse := by
  cases hA : A.reverse with
  | nil => rfl
  | cons q m =>
   have hq : q.rune ≠ 32 := h q (List.mem_reverse.1 (by rw [hA]; exact List.mem_cons_self ..));rw [List.dropWhile_cons, if_neg (by simpa using hq)]
 rw [e, List.reverse_reverse]
theorem znq (i : Nat) : zaq i ≠ 32 := by unfold zaq; omega
theorem znr (c n k : Nat) : zec (lnW c n k).cells = ((za0 n).drop (k * c)).take c := by
 show zec (lnC c n k) = _;unfold zec;rw [zkm, zhE (fun q hq => by
  obtain ⟨j, _, rfl⟩ := List.mem_map.1 hq;exact znq _)]
 unfold zae;rw [List.flatMap_map];have e : ∀ j, (if 0 < (zg3 (k * c + j)).width then Lib.encodeRune (zg3 (k * c + j)).rune else []) = [zev (k * c + j)] := fun j => by
  rw [if_pos (show (0 : Int) < (zg3 (k * c + j)).width from Int.one_pos)];exact znp _
 simp only [e];rw [← List.map_eq_flatMap];apply List.ext_getElem
 ·simp [za0]; omega
 ·intro i h1 h2;simp [za0]
end
section
open Go.RowKit
theorem zlU {s : PSt} (h : s.state = 0) (hd : s.dec.hav = 0) {b : UInt8} (h1 : 32 ≤ b.toNat) (h2 : b.toNat < 127) : ∃ q : PSt, s.step b = (q, [za7 b.toNat]) ∧ q.state = 0 ∧ q.dec.hav = 0 := by
 have ht : s.texts = false := (by unfold PSt.texts; rw [h]; rfl);have e1 : s.any1 b = (false, s, []) := by
  unfold PSt.any1;rw [if_neg (by omega), if_neg (by omega), if_neg (by omega), ht, if_neg (by simp; omega), if_neg (by omega), if_neg (by simp; omega)]
 have e2 : (Zg s.dec (b.toNat : Int)).2 = [(b.toNat : Int)] ∧ (Zg s.dec (b.toNat : Int)).1.hav = 0 := by
  unfold Zg;rw [if_pos hd];unfold zY;rw [if_pos (by omega)];exact ⟨rfl, hd⟩
 have e3 : s.took b = s.fed b := by
  unfold PSt.took;rw [if_neg (by omega), if_neg (by omega), if_neg (by omega), if_neg (by omega), if_neg (by omega)]
 refine ⟨(s.fed b).1, ?_, h, e2.2⟩;unfold PSt.step;rw [e1];simp only [Bool.false_eq_true, if_false, List.nil_append];rw [e3];unfold PSt.fed;rw [e2.1];rfl
theorem zhF (i : Nat) : (zev i).toNat = 97 + i % 26 := by
 unfold zev;rw [UInt8.toNat_ofNat'];omega
theorem zgq {c R l : Nat} (hc : 1 ≤ c) (hR : 1 ≤ R) : ∀ n, ∃ q : PSt, (⟨za4 c R l, s0⟩ : Trm).feed (za0 n) = (⟨exS c R l n, q⟩, []) ∧ q.state = 0 ∧ q.dec.hav = 0
 | 0 => ⟨s0, by rw [zlS]; rfl, rfl, rfl⟩
 | n + 1 => by
  have e : za0 (n + 1) = za0 n ++ [zev n] := (by unfold za0; rw [List.range_succ, List.map_append]; rfl);obtain ⟨q, e1, q1, q2⟩ := zgq (l := l) hc hR n;have hn := zhF n;obtain ⟨q', e2, q3, q4⟩ := zlU q1 q2 (b := zev n) (by omega) (by omega);refine ⟨q', ?_, q3, q4⟩;rw [e, zbm, e1];have hb : (⟨exS c R l n, q⟩ : Trm).byte (zev n) = (⟨exS c R l (n + 1), q'⟩, []) := by
   unfold Trm.byte;dsimp only;rw [e2];have hr : (((zev n).toNat : Nat) : Int) = zaq n := (by rw [hn]; unfold zaq; omega);rw [hr];have hp : (exS c R l n).act (za7 (zaq n)) = exS c R l (n + 1) := by
    show ({ exS c R l n with out := [] } : Scr).print (zaq n) = _;exact zkk hc hR
   unfold Trm.acts Trm.act;dsimp only;rw [hp];rfl
  simp only [Trm.feed, hb];rfl
end
section
open Go.RowKit
set_option maxRecDepth 100000
attribute [local go_sem ↓] Go.wp_at_zero Go.wp_at_succ
theorem GM.grow {T : Nat → Nat} {p : Nat} {w w' : World} {g : Gr} {row : Option Nat} (h : GM T p w g) (gr : w.grownBy w' row) (h0 : ∀ k, row = some k → T k = 0) : GM T p w' g := by
 refine h.other (Tp := fun k => if row = some k then 1 else 0) (ze.of_gb gr fun k hk => .inl (by show (if row = some k then 1 else 0) ≠ 0; rw [if_pos hk]; decide)) (fun k hk => ?_);show (if row = some k then 1 else 0) = 0;by_cases e : row = some k
 ·exact absurd (h0 k e) hk
 ·rw [if_neg e]
theorem GM.pre {T C C' : Nat → Nat} {p : Nat} {w w' : World} {g : Gr} (h : GM T p w g) (gr : Pre C w C' w') (h0 : ∀ k, T k ≠ 0 → C k = 0) : GM T p w' g := h.other gr.wi h0
def zdD (n i : Nat) : List UInt8 := (List.range n).map fun j => if j < i then zev j else 0
theorem zkn (n : Nat) : zdD n n = za0 n := by
 unfold zdD za0;refine List.map_congr_left fun j hj => ?_;rw [if_pos (List.mem_range.1 hj)]
theorem zko (n i : Nat) (hi : i < n) : (zk (zdD n i)).set i (.int .u8 ((zev i).toNat : Int)) = zk (zdD n (i + 1)) := by
 apply List.ext_getElem?;intro j;rw [List.getElem?_set];unfold zk zdD;rw [List.length_map, List.length_map, List.length_range];simp only [List.getElem?_map];by_cases hj : j < n
 ·rw [List.getElem?_range hj];by_cases e : i = j
  ·subst e;rw [if_pos rfl, if_pos hi];simp
  ·rw [if_neg e];by_cases h1 : j < i
   ·simp [h1, show j < i + 1 by omega]
   ·simp [h1, show ¬ j < i + 1 by omega]
 ·rw [List.getElem?_eq_none (by rw [List.length_range]; omega)];by_cases e : i = j
  ·omega
  ·rw [if_neg e]; rfl
theorem ziQ (n : Nat) : (madeCells (Value.int .u8 0).cells (n * 1)).toList = zk (zdD n 0) := by
 apply List.ext_getElem?;intro j;rw [Nat.mul_one];unfold zk zdD;simp only [List.getElem?_map];by_cases hj : j < n
 ·rw [List.getElem?_range hj];unfold madeCells;rw [Array.getElem?_toList, Array.getElem?_map, Array.getElem?_eq_getElem (by simpa using hj), Array.getElem_range];simp [Value.cells, Nat.mod_one]
 ·rw [List.getElem?_eq_none (by rw [Array.length_toList, size_madeCells]; omega), List.getElem?_eq_none (by rw [List.length_range]; omega)];rfl
theorem zlV (a b : Nat) : (a : Int).tdiv (b : Int) = ((a / b : Nat) : Int) := rfl
theorem zhG (a b : Nat) : (a : Int).tmod (b : Int) = ((a % b : Nat) : Int) := rfl
theorem zlW {w : World} {base b off n c : Nat} {l : List UInt8} (h : zn w base 1 (.slice (some ⟨b, off, none⟩) n c) l.length (zk l)) (i j : Nat) (hij : i ≤ j) (hj : j ≤ l.length) :
  zaw w 1 (.slice (some ⟨b, off + i, none⟩) (j - i) (c - i)) ((l.drop i).take (j - i)).length (zk ((l.drop i).take (j - i))) := by
 obtain ⟨e1, h2⟩ := h;have hl : ((l.drop i).take (j - i)).length = j - i := (by rw [List.length_take, List.length_drop]; omega);rcases h2 with ⟨e, _⟩ | ⟨b', off', c', e, hb, hbs, hnc, hcm, hcells, hxs⟩
 ·simp at e
 ·simp only [Value.slice.injEq, Option.some.injEq, Addr.mk.injEq] at e;obtain ⟨⟨rfl, rfl, _⟩, _, rfl⟩ := e;refine .inr ⟨⟨b, off + i, none⟩, c - i, by rw [hl], by rw [zaN, Nat.mul_one], fun k u hu => ?_⟩;rw [zaO];show w.cell? ⟨b, off + i + k, none⟩ = some u;rw [Nat.add_assoc];refine hxs (i + k) u ?_;rw [← hu];have hk : k < j - i := by
   have := (List.getElem?_eq_some_iff.1 hu).1;rw [zaN, hl] at this;exact this
  unfold zk;rw [List.getElem?_map, List.getElem?_map, List.getElem?_take, if_pos hk, List.getElem?_drop]
set_option maxHeartbeats 8000000 in
theorem zew (cols rows nn : Int) (w : World) (h1 : I64 cols) (h2 : I64 rows) (h3 : I64 nn) (ht : zcx w) :
  Calls Tryz.prog 6 #[.int .i64 cols, .int .i64 rows, .int .i64 nn] w fun e w' => e = .returned (.bool true) ∧ Below w.heap.size w w' := by
 have HSH := Lib.hid (zcP w ht);have HT := Lib.hid ht;have HMD := Lib.hid (fun w1 ht1 => zdv cols rows 39 w1 h1 h2 (by unfold I64; decide) ht1);have HPK := Lib.hid (fun w1 => zcd nn 400 w1 h3 (by decide) (by decide));have l1 := zat cols 40 (by decide);have l2 := zat rows 15 (by decide);have l3 := zat nn 400 (by decide);rw [show zap 39 40 = 39 from by decide] at HMD;generalize zap cols 40 = x1 at *;generalize zap rows 15 = x2 at *;obtain ⟨n, hn⟩ : ∃ n, n = zap nn 400 := ⟨_, rfl⟩;rw [← hn] at HPK l3;obtain ⟨m, hm⟩ : ∃ m : Nat, m = 1 + x1 := ⟨_, rfl⟩;obtain ⟨r, hr⟩ : ∃ r : Nat, r = 1 + x2 := ⟨_, rfl⟩;rw [← hm, ← hr] at HMD;have hm1 : 1 ≤ m ∧ m ≤ 40 := (by omega);have hr1 : 1 ≤ r ∧ r ≤ 15 := (by omega);have HON := Lib.hid (zfV (c := m) (r := r) (l := 39) hm1.1 hr1.1);have HFE := Lib.hid (zgq (c := m) (R := r) (l := 39) hm1.1 hr1.1 n);clear hm hr l1 l2 h1 h2 h3 ht hn;go_enter Tryz.func6, Tryz.ntmps6;go_wp2_with fail;refine HSH.out.mono ?_;rintro e w1 ⟨rfl, b1⟩;have HW1 := Lib.hid b1;have HM := Lib.hid (HMD.out w1 (HT.out.below b1));clear b1 HSH HMD HT;go_wp2_with fail;refine HM.out.mono ?_;rintro e w2 ⟨p, C2, rfl, h2⟩;have H2 := Lib.hid h2;clear h2 HM;go_wp2_with fail;refine (zdu H2.out).mono ?_;rintro e w3 ⟨q, T, rfl, b3, g3, n3⟩;have H3 := Lib.hid (H2.out.below b3);have G3 := Lib.hid g3;have HTC := Lib.hid (show ∀ k, T k ≠ 0 → C2 k = 0 ∧ k < w3.heap.size from fun k hk => ⟨H2.out.free (n3 k hk), g3.lt k hk⟩);clear b3 g3 n3 H2;go_wp2_with fail;refine (HPK.out w3).mono ?_;rintro e w4 ⟨rfl, hw4⟩;subst hw4;clear HPK;obtain ⟨w5, hmk, o5, b5, hs5⟩ := zeO Z6 n (by omega) (by decide) (by decide) w4;rw [ziQ] at o5;obtain ⟨bb, hbb⟩ : ∃ bb, bb = w4.heap.size := ⟨_, rfl⟩;have H5 := Lib.hid (H3.out.below b5);have G5 := Lib.hid (G3.out.below b5);have HFR := Lib.hid (show C2 bb = 0 by rw [hbb]; exact H3.out.free (Nat.le_refl _));have HTB := Lib.hid (show T bb = 0 from Classical.byContradiction fun e => by have := (HTC.out bb e).2; omega);have HBB := Lib.hid (show w1.heap.size ≤ bb by rw [hbb]; exact H3.out.bl.size);rw [← hbb] at o5 hmk;have O5 := Lib.hid (zM o5 (Nat.zero_le _));clear b5 o5 hbb H3 G3 hs5;go_wp2_with fail;clear hmk
 go_loopw [11] (fun iv wr => ∃ i : Nat, i ≤ n ∧ iv = .int .i64 i ∧ Hid (SR w1 C2 p wr (za4 m r 39) s0) ∧ Hid (GM T q wr (za4 m r 39).shown) ∧ Hid (zn wr 0 1 (.slice (some ⟨bb, 0, none⟩) n n) n (zk (zdD n i)))) (fun iv _ => n - (intOf iv).toNat)
 case atStart => exact ⟨0, Nat.zero_le _, rfl, H5, G5, O5⟩
 case round =>
  obtain ⟨i, hi, rfl, H6, G6, O6⟩ := hrel;obtain ⟨w6, rfl⟩ : ∃ z, z = wr := ⟨wr, rfl⟩;by_cases hlt : i < n
  ·have d1 : decide ((i : Int) < (n : Int)) = true := decide_eq_true (by omega);have d1' : decide (i < n) = true := decide_eq_true hlt;have hwi : IntKind.i64.wrap ((i : Int) + 1) = (i : Int) + 1 := zb _ (by omega) (by omega);obtain ⟨im, him⟩ : ∃ im : Nat, im = i % 26 := ⟨_, rfl⟩;have him2 : im < 26 := (by omega);have hmod : (i : Int).tmod 26 = (im : Int) := (by rw [him]; exact zhG i 26);have hmw : IntKind.i64.wrap (im : Int) = (im : Int) := zb _ (by omega) (by omega);obtain ⟨v, hv⟩ : ∃ v : Nat, v = 97 + im := ⟨_, rfl⟩;have hadd : IntKind.i64.wrap (97 + (im : Int)) = (v : Int) := (by rw [zb _ (by omega) (by omega)]; omega);have hu8 : IntKind.u8.wrap (v : Int) = (v : Int) := by
    have : v < 256 := (by omega);clear hv hadd;revert this;revert v;decide
   have hlb : v = (zev i).toNat := (by rw [zhF]; omega);obtain ⟨_, _, _, e1, hix, ⟨xx, _, hcx⟩, hfz, hset⟩ := zcV Tryz.underlying38 (by kernel_rfl) O6.out i hlt;simp only [Value.slice.injEq, Option.some.injEq, Addr.mk.injEq] at e1;obtain ⟨⟨rfl, rfl, _⟩, _, rfl⟩ := e1;have HS6 := Lib.hid (hset (.int .u8 (v : Int)));have HX6 := Lib.hid (H6.out.grow (zO (zr w6 (some bb)) (0 + i) (.int .u8 (v : Int))) (fun k hk => by injection hk with hk; rw [← hk]; exact HFR.out) (fun k hk => by injection hk with hk; rw [← hk]; exact HBB.out));have HY6 := Lib.hid (G6.out.grow (zO (zr w6 (some bb)) (0 + i) (.int .u8 (v : Int))) (fun k hk => by injection hk with hk; rw [← hk]; exact HTB.out));have HPT := Lib.hid (show (zk (zdD n i)).set i (.int .u8 (v : Int)) = zk (zdD n (i + 1)) by rw [hlb]; exact zko n i hlt);clear hset him hv hlb O6 H6 G6;rw [Nat.zero_add] at hcx hfz HS6 HX6 HY6;simp only [Nat.zero_add] at hix;go_wp2_with fail;go_roundw
   case rel =>
    refine ⟨i + 1, by omega, by go_num, HX6, HY6, ?_⟩;have := HS6.out;rw [HPT.out] at this;exact this
   case measure => simp [intOf]; omega
  ·have d1 : decide ((i : Int) < (n : Int)) = false := decide_eq_false (by omega);have d1' : decide (i < n) = false := decide_eq_false hlt;have ei : i = n := (by omega);have o6 := O6.out;rw [ei, zkn] at o6;have hll : (za0 n).length = n := (by unfold za0; rw [List.length_map, List.length_range]);have HAS := Lib.hid (show za3 C2 w6 1 (.slice (some ⟨bb, 0, none⟩) n n) (za0 n).length (zk (za0 n)) 0 from ⟨by rw [hll]; exact o6, fun k hk => by
    have : bb = k := (by simpa [Value.ownBlock] using hk);rw [← this]; exact HFR.out⟩)
   have HF := Lib.hid (ZJ (t := ⟨za4 m r 39, s0⟩) H6.out HON.out (.slice (some ⟨bb, 0, none⟩) n n) (za0 n) HAS.out (by omega));have HLL := Lib.hid hll;clear o6 O6 ei hll hi;go_wp2_with fail;refine HF.out.mono ?_;rintro e w7 ⟨v7, C7, rfl, h7, p7, _, o7⟩;obtain ⟨ps, e7, _, _⟩ := HFE.out;rw [e7] at h7 o7;have H7 := Lib.hid (show SR w1 C7 p w7 (exS m r 39 n) ps from h7);have O7 := Lib.hid (show (exS m r 39 n).Ok m r from o7.scr);have G7 := Lib.hid (G6.out.pre p7 (fun k hk => (HTC.out k hk).1));have A7 := Lib.hid (HAS.out.next p7);have HTC7 := Lib.hid (show C7 bb = 0 from (HAS.out.next p7).zero bb rfl);clear h7 p7 o7 e7 HF HAS H6 G6 HFE HON HTC;go_wp2_with fail;refine (zf5 G7.out).mono ?_;rintro e w8 ⟨rfl, hw8⟩;rw [show (za4 m r 39).shown.cols = m from rfl];subst hw8;obtain ⟨a1, ha1⟩ : ∃ a1 : Nat, a1 = n + m := ⟨_, rfl⟩;obtain ⟨a2, ha2⟩ : ∃ a2 : Nat, a2 = n + m - 1 := ⟨_, rfl⟩;obtain ⟨d, hd⟩ : ∃ d : Nat, d = a2 / m := ⟨_, rfl⟩;obtain ⟨al, hal⟩ : ∃ al : Nat, al = ziP m n := ⟨_, rfl⟩;have hal2 : al = max 1 d := (by rw [hal, hd, ha2]; rfl);have hdl : d ≤ 440 := (by rw [hd]; exact Nat.le_trans (Nat.div_le_self _ _) (by omega));have k1 : IntKind.i64.wrap ((n : Int) + (m : Int)) = (a1 : Int) := (by rw [zb _ (by omega) (by omega)]; omega);have k2 : IntKind.i64.wrap ((a1 : Int) - 1) = (a2 : Int) := (by rw [zb _ (by omega) (by omega)]; omega);have k3 : (a2 : Int).tdiv (m : Int) = (d : Int) := (by rw [hd]; exact zlV a2 m);have k4 : IntKind.i64.wrap (d : Int) = (d : Int) := zb _ (by omega) (by omega);have k5 : max 1 (d : Int) = (al : Int) := (by omega);have hz1 : ((m : Int) == 0) = false := beq_eq_false_iff_ne.2 (by omega);have hz2 : ¬ ((m : Int) = 0) := (by omega);have HAL := Lib.hid hal;have HD := Lib.hid hdl;have HAL2 := Lib.hid hal2;clear ha1 ha2 hd hal hal2 hdl;go_wp2_with fail;refine (zdu H7.out).mono ?_;rintro e w9 ⟨q2, T2, rfl, b9, g9, n9⟩;have H9 := Lib.hid (H7.out.below b9);have G9 := Lib.hid (show GM T2 q2 w9 (exG m r 39 n) from g9);have A9 := Lib.hid ((A7.out.below b9).own);obtain ⟨of, hof⟩ : ∃ of : Nat, of = zab m r n := ⟨_, rfl⟩;have hof2 : of = al - r := (by rw [hof, znn hm1.1 hr1.1, HAL.out]);obtain ⟨hi, hhi⟩ : ∃ hi : Nat, hi = min of 39 := ⟨_, rfl⟩;obtain ⟨e1, he1⟩ : ∃ e1 : Int, e1 = (al : Int) - (r : Int) := ⟨_, rfl⟩;have hal3 : al ≤ 441 ∧ 1 ≤ al := (by have := HAL2.out; have := HD.out; omega);have k6 : IntKind.i64.wrap ((al : Int) - (r : Int)) = e1 := (by rw [zb _ (by omega) (by omega), he1]);have k7 : max 0 e1 = (of : Int) := (by omega);have k8 : min (of : Int) 39 = (hi : Int) := (by omega);have hold : (exG m r 39 n).old.length = hi := (by rw [zjM, ← hof, hhi]);obtain ⟨st, hst⟩ : ∃ st : Nat, st = of - hi := ⟨_, rfl⟩;have k9 : IntKind.i64.wrap ((of : Int) - (hi : Int)) = (st : Int) := (by rw [zb _ (by omega) (by omega)]; omega);have k10 : max 0 (st : Int) = (st : Int) := (by omega);have HRN := Lib.hid (show Calls Tryz.prog 30 #[.pointer (some ⟨q2, 0, none⟩)] w9 fun e w' => e = .returned (.int .i64 r) ∧ w' = w9 by have := zeQ G9.out; rw [zd6] at this; exact this);have HHI := Lib.hid (show Calls Tryz.prog 31 #[.pointer (some ⟨q2, 0, none⟩)] w9 fun e w' => e = .returned (.int .i64 hi) ∧ w' = w9 by have := zhB G9.out; rw [hold] at this; exact this);have HLI := Lib.hid (show Calls Tryz.prog 32 #[.pointer (some ⟨q2, 0, none⟩)] w9 fun e w' => e = .returned (.int .i64 39) ∧ w' = w9 from zgY G9.out);have HOF := Lib.hid (show of = zab m r n ∧ of = al - r ∧ hi = min of 39 ∧ st = of - hi from ⟨hof, hof2, hhi, hst⟩);clear b9 g9 n9 H7 G7 A7 hof hof2 hhi he1 hold hst;go_wp2_with fail;refine HRN.out.mono ?_;rintro e wx ⟨rfl, hwx⟩;subst wx;go_wp2_with fail;refine HHI.out.mono ?_;rintro e wx ⟨rfl, hwx⟩;subst wx;go_wp2_with fail;refine HLI.out.mono ?_;rintro e wx ⟨rfl, hwx⟩;subst wx;go_wp2_with fail;refine HHI.out.mono ?_;rintro e wx ⟨rfl, hwx⟩;subst wx;obtain ⟨w10, rfl⟩ : ∃ z, z = w9 := ⟨w9, rfl⟩;go_wp2_with fail
   go_loopw [15] (fun iv wr => ∃ k : Nat, st ≤ k ∧ (k ≤ al ∨ k = st) ∧ iv = .int .i64 k ∧ Hid (Below w10.heap.size w10 wr)) (fun iv _ => al - (intOf iv).toNat)
   case atStart => exact ⟨st, Nat.le_refl _, .inr rfl, rfl, Below.refl _ _⟩
   case round =>
    obtain ⟨k, hk1, hk2, rfl, HB⟩ := hrel;obtain ⟨wk, rfl⟩ : ∃ z, z = wr := ⟨wr, rfl⟩;by_cases hkl : k < al
    ·have d2 : decide ((k : Int) < (al : Int)) = true := decide_eq_true (by omega);have d2' : decide (k < al) = true := decide_eq_true hkl;obtain ⟨ka, hka⟩ : ∃ ka : Nat, ka = k + 1 := ⟨_, rfl⟩;obtain ⟨km, hkm⟩ : ∃ km : Nat, km = ka * m := ⟨_, rfl⟩;obtain ⟨lo, hlo⟩ : ∃ lo : Nat, lo = k * m := ⟨_, rfl⟩;obtain ⟨tz, hto⟩ : ∃ tz : Nat, tz = min n km := ⟨_, rfl⟩;obtain ⟨y, hy⟩ : ∃ y : Int, y = (k : Int) - (of : Int) := ⟨_, rfl⟩;obtain ⟨al1, hal1⟩ : ∃ al1 : Nat, al1 = al - 1 := ⟨_, rfl⟩;obtain ⟨hof1, hof2, hhi2, hst2⟩ := HOF.out;have hkm2 : km = lo + m := (by rw [hkm, hka, hlo, Nat.succ_mul]);have hlb : lo ≤ 400 * 441 ∧ lo ≤ n ∧ (n = lo → lo = 0) := by
      have q1 := HAL2.out;have q2 := HAL.out;have q3 : k * m ≤ n ∧ (n = k * m → k * m = 0) := by
       by_cases hk0 : k = 0
       ·rw [hk0, Nat.zero_mul]; exact ⟨Nat.zero_le _, fun _ => rfl⟩
       ·have q4 : k < (n + m - 1) / m := by
         unfold ziP at q2;omega
        have q5 : (k + 1) * m ≤ n + m - 1 := Nat.le_trans (Nat.mul_le_mul_right m q4) (Nat.div_mul_le_self _ _);rw [Nat.succ_mul] at q5;omega
      rw [hlo];exact ⟨by have := q3.1; omega, q3⟩
     have hlz := hlb.2.2;have j1 : IntKind.i64.wrap ((k : Int) + 1) = (k : Int) + 1 := zb _ (by omega) (by omega);have j2 : IntKind.i64.wrap (((k : Int) + 1) * (m : Int)) = (km : Int) := by
      have e : ((k : Int) + 1) * (m : Int) = (km : Int) := (by rw [hkm, hka]; push_cast; rfl);rw [e]; exact zb _ (by omega) (by omega)
     have j3 : min (n : Int) (km : Int) = (tz : Int) := (by omega);have j4 : IntKind.i64.wrap ((k : Int) - (of : Int)) = y := (by rw [zb _ (by omega) (by omega), hy]);have j5 : IntKind.i64.wrap ((k : Int) * (m : Int)) = (lo : Int) := by
      have e : (k : Int) * (m : Int) = (lo : Int) := (by rw [hlo]; push_cast; rfl);rw [e]; exact zb _ (by omega) (by omega)
     have HGK := Lib.hid (G9.out.below HB.out);have hrow : (exG m r 39 n).row y = lnW m n k := by
      rw [hy, hof1];exact zno (by rw [← hof1]; omega) (by rw [← hof1]; omega)
     have htx : zec ((exG m r 39 n).row y).cells = ((za0 n).drop lo).take (tz - lo) := by
      rw [hrow, znr, hlo];rw [← hlo];refine List.take_eq_take_iff.2 ?_;rw [List.length_drop, HLL.out];omega
     have hwr : ((exG m r 39 n).row y).wrap = decide (k < al1) := by
      rw [hrow, zlT hm1.1 (by rw [← HAL.out]; exact hkl), ← HAL.out, hal1]
     obtain ⟨tx, htx2⟩ : ∃ tx : ByteArray, tx = ⟨(((za0 n).drop lo).take (tz - lo)).toArray⟩ := ⟨_, rfl⟩;obtain ⟨bv, hbv⟩ : ∃ bv : Bool, decide (k < al1) = bv := ⟨_, rfl⟩;have hbv2 : decide ((k : Int) < (al1 : Int)) = bv := (by rw [← hbv]; exact decide_eq_decide.2 (by omega));have hbv3 : decide ((k : Int) < (al : Int) - 1) = bv := (by rw [← hbv]; exact decide_eq_decide.2 (by omega));have j7 : IntKind.i64.wrap ((al : Int) - 1) = (al : Int) - 1 := zb _ (by omega) (by omega);have HTX := Lib.hid (fun wx hx => show Calls Tryz.prog 33 #[.pointer (some ⟨q2, 0, none⟩), .int .i64 y] wx fun e w' => e = .returned (.string tx) ∧ Below wx.heap.size wx w' by
      have := zhT (HGK.out.below (w' := wx) hx) y;rw [htx, ← htx2] at this;exact this)
     have HWX := Lib.hid (fun wx hx => show Calls Tryz.prog 34 #[.pointer (some ⟨q2, 0, none⟩), .int .i64 y] wx fun e w' => e = .returned (.bool bv) ∧ Below wx.heap.size wx w' by
      have := zhC (HGK.out.below (w' := wx) hx) y;rw [hwr, hbv] at this;exact this)
     have hlt2 : lo ≤ tz := (by omega);have hln2 : tz ≤ (za0 n).length := (by rw [HLL.out]; omega);have HCV := Lib.hid (fun wx (hx : Below wk.heap.size wk wx) => show (convert 38 9 (.slice (some ⟨bb, lo, none⟩) (tz - lo) (n - lo))).run Tryz.prog wx = .ok (.string tx) wx by
      have hA : zn wx 0 1 (.slice (some ⟨bb, 0, none⟩) n n) (za0 n).length (zk (za0 n)) := zh (zh (by rw [HLL.out]; have := A9.out; rw [HLL.out] at this; exact this) HB.out) hx;have hR := zlW hA lo tz hlt2 hln2;have hC := zN (P := Tryz.prog) Tryz.underlying38 Tryz.underlying5 Tryz.underlying9 hR;rw [← htx2, Nat.zero_add] at hC;exact hC)
     clear hrow htx hwr htx2 hbv hof1 hof2 hhi2 hst2 hkm hlo hto hy hal1 hkm2 hln2 HGK;have hif : (if n = lo then (some ⟨bb, 0, none⟩ : Option Addr) else some ⟨bb, lo, none⟩) = some ⟨bb, lo, none⟩ := by
      split
      ·next e => rw [hlz e]
      ·rfl
     clear hlz;have hto2 : (tz : Int) ≤ (n : Int) := (by omega);go_upto_region 23 with fail;refine Zl (c := 18) (S := (fun zz w' => ((convert 38 9 (.slice (some ⟨bb, lo, none⟩) (tz - lo) (n - lo))).run Tryz.prog w' = .ok (.string tx) w') ∧ (zz = false → True))) (by kernel_rfl) (⟨HCV.out _ (Below.refl wk.heap.size wk).drew, fun _ => trivial⟩) (fun _ => ?_);refine zd false 0 (⟨HCV.out _ (Below.refl wk.heap.size wk).drew, fun _ => trivial⟩) ?_;refine zd false 1 (⟨HCV.out _ (Below.refl wk.heap.size wk).drew, fun _ => trivial⟩) ?_;refine zd false 2 (⟨HCV.out _ (Below.refl wk.heap.size wk).drew, fun _ => trivial⟩) ?_;refine zd false 3 (⟨HCV.out _ (Below.refl wk.heap.size wk).drew, fun _ => trivial⟩) ?_;refine zd false 5 (⟨HCV.out _ (Below.refl wk.heap.size wk).drew, fun _ => trivial⟩) ?_;refine zd false 6 (⟨HCV.out _ (Below.refl wk.heap.size wk).drew, fun _ => trivial⟩) ?_;refine zd false 7 (⟨HCV.out _ (Below.refl wk.heap.size wk).drew, fun _ => trivial⟩) ?_;refine zd false 8 (⟨HCV.out _ (Below.refl wk.heap.size wk).drew, fun _ => trivial⟩) ?_;refine zd false 9 (⟨HCV.out _ (Below.refl wk.heap.size wk).drew, fun _ => trivial⟩) ?_;refine zd false 10 (⟨HCV.out _ (Below.refl wk.heap.size wk).drew, fun _ => trivial⟩) ?_;refine zd false 11 (⟨HCV.out _ (Below.refl wk.heap.size wk).drew, fun _ => trivial⟩) ?_;refine zt false 4 fun K hK => ?_;refine zi rfl ?_;go_wp2_with fail;refine (HTX.out wk.drew (Below.refl wk.heap.size wk).drew).mono ?_;rintro e w11 ⟨rfl, b11⟩;have HB11 := Lib.hid ((Below.refl wk.heap.size wk).drew.trans b11);refine hK.out _ _ (⟨HCV.out w11 HB11.out, fun _ => trivial⟩) (fun _ => ?_);clear hK K b11
     try simp only [Act.put, List.setIfInBounds_toArray, List.set_cons_zero, List.set_cons_succ]
     refine zd false 12 (⟨HCV.out w11 HB11.out, fun _ => trivial⟩) ?_;refine zd false 13 (⟨HCV.out w11 HB11.out, fun _ => trivial⟩) ?_;refine zd false 14 (⟨HCV.out w11 HB11.out, fun _ => trivial⟩) ?_;refine zd false 15 (⟨HCV.out w11 HB11.out, fun _ => trivial⟩) ?_;refine zd false 16 (⟨HCV.out w11 HB11.out, fun _ => trivial⟩) ?_;refine zd false 17 (⟨HCV.out w11 HB11.out, fun _ => trivial⟩) ?_;refine zd false 19 (⟨HCV.out w11 HB11.out, fun _ => trivial⟩) ?_;refine zd false 20 (⟨HCV.out w11 HB11.out, fun _ => trivial⟩) ?_;refine zd false 21 (⟨HCV.out w11 HB11.out, fun _ => trivial⟩) ?_;refine zd false 22 (⟨HCV.out w11 HB11.out, fun _ => trivial⟩) ?_;refine zt true 18 fun K hK => ?_;refine zbN rfl ?_;go_wp2_with fail;refine (HWX.out w11 HB11.out).mono ?_;rintro e w12 ⟨rfl, b12⟩;have HB12 := Lib.hid (HB11.out.trans (b12.mono HB11.out.size));refine hK.out _ _ (⟨HCV.out w12 HB12.out, fun e => by cases e⟩) (fun _ => ?_);clear hK K b12
     try simp only [Act.put, List.setIfInBounds_toArray, List.set_cons_zero, List.set_cons_succ]
     refine zd true 23 (⟨HCV.out w12 HB12.out, fun e => by cases e⟩) ?_;refine zd true 24 (⟨HCV.out w12 HB12.out, fun e => by cases e⟩) ?_;refine Zh (by kernel_rfl) ?_ _;go_wp2_with fail;go_roundw
     case rel => exact ⟨k + 1, by omega, by omega, by go_num, HB.out.trans (HB12.out.mono HB.out.size)⟩
     case measure => simp [intOf]; omega
    ·have d2 : decide ((k : Int) < (al : Int)) = false := decide_eq_false (by omega);have d2' : decide (k < al) = false := decide_eq_false hkl;have HK := Lib.hid (H9.out.below HB.out);clear hk1 hk2 hkl G9 A9;go_wp2_with fail;refine (zbz HK.out O7.out).mono ?_;rintro e w12 ⟨rv, L, rfl, _, hvr, b12⟩;obtain ⟨ra, rn, rc, rfl⟩ := zu hvr.row;obtain ⟨hof1, hof2, _, _⟩ := HOF.out;obtain ⟨yy, hyy⟩ : ∃ yy : Nat, yy = al - 1 - of := ⟨_, rfl⟩;have hq := HAL.out;have hsy : (exS m r 39 n).now.y = (yy : Int) := by
      show (((n - 1) / m - zab m r n : Nat) : Int) = (yy : Int);rw [← hof1, hyy, hq, zg4 hm1.1, Nat.add_sub_cancel]
     obtain ⟨wb, hwb⟩ : ∃ wb : Bool, decide (0 < n ∧ n % m = 0) = wb := ⟨_, rfl⟩;have hsw : (exS m r 39 n).now.wait = wb := hwb;unfold Scr.viewV;rw [hsy, hsw];generalize (exS m r 39 n).now.x = cx;generalize (exS m r 39 n).has 8 = sh;generalize (exS m r 39 n).modes = mo;generalize (exS m r 39 n).title.toArray = ti;have hfd : ∀ wx, (Instr.field 47 (.agg #[.slice ra rn rc, .int .i64 cx, .int .i64 (yy : Int), .bool sh, .bool wb, .int .i64 mo, .string ⟨ti⟩]) 1).run Tryz.prog wx = .ok (.agg #[.int .i64 cx, .int .i64 (yy : Int), .bool sh, .bool wb]) wx := fun wx => (by kernel_rfl);have HBK := Lib.hid (zE w12 (.cells #[.int .i64 cx, .int .i64 (yy : Int), .bool sh, .bool wb] 45));have HE := Lib.hid (show Below w.heap.size w (w12.alloc (.cells #[.int .i64 cx, .int .i64 (yy : Int), .bool sh, .bool wb] 45)) from
      HW1.out.trans ((((HK.out.below b12).below (Zy w12 (.cells #[.int .i64 cx, .int .i64 (yy : Int), .bool sh, .bool wb] 45))).bl).mono HW1.out.size))
     obtain ⟨rm, hrm⟩ : ∃ rm : Nat, rm = n % m := ⟨_, rfl⟩;have q1 : (n : Int).tmod (m : Int) = (rm : Int) := (by rw [hrm]; exact zhG n m);have hrl : rm < 40 := (by rw [hrm]; exact Nat.lt_of_lt_of_le (Nat.mod_lt _ hm1.1) hm1.2);have q2 : IntKind.i64.wrap (rm : Int) = (rm : Int) := zb _ (by omega) (by omega);have q3 : IntKind.i64.wrap ((al : Int) - 1) = (al : Int) - 1 := zb _ (by omega) (by omega);have q4 : IntKind.i64.wrap ((al : Int) - 1 - (of : Int)) = (yy : Int) := (by rw [zb _ (by omega) (by omega)]; omega);clear hof1 hof2 hyy hq hsy hsw hvr b12 HK O7;go_upto_region 26 with fail;obtain ⟨V, hV⟩ : ∃ V, V = w12.heap.size := ⟨_, rfl⟩;rw [← hV] at HBK;rw [← hV];clear hV hfd;generalize w12.alloc (.cells #[.int .i64 cx, .int .i64 (yy : Int), .bool sh, .bool wb] 45) = wv at *;have v1 : wv.cell? ⟨V, 1, none⟩ = some (.int .i64 (yy : Int)) := za HBK.out 1;have v3 : wv.cell? ⟨V, 3, none⟩ = some (.bool wb) := za HBK.out 3;by_cases hn0 : 0 < n
     ·have t1 : decide ((0 : Int) < (n : Int)) = true := decide_eq_true (by omega);have t2 : decide (0 < n) = true := decide_eq_true hn0;have t3 : ((rm : Int) == 0) = wb := by
       rw [← hwb, hrm, Bool.eq_iff_iff];simp [hn0];omega
      clear hwb hrm hn0;go_quiet (fail);have HF := Lib.hid (zg HE.out nq);go_wp2_with fail;go_ret;exact ⟨rfl, HF.out⟩
     ·have e0 : n = 0 := (by omega);have t1 : decide ((0 : Int) < (n : Int)) = false := decide_eq_false (by omega);have t2 : decide (0 < n) = false := decide_eq_false hn0;have t3 : wb = false := (by rw [← hwb]; exact decide_eq_false (fun e => hn0 e.1));subst t3;clear hwb hrm hn0;go_quiet (fail);have HF := Lib.hid (zg HE.out nq);go_wp2_with fail;go_ret;exact ⟨rfl, HF.out⟩
end
end Go.Proofs.YtlfdgkiliegaiaaGreatDoor
