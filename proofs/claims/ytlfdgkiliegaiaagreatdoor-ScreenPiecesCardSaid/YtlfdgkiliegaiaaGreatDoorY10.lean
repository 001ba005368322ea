/- Texts laid together: G7 G15 U2. -/
import Derived.Test.YtlfdgkiliegaiaaGreatDoorY1
import Derived.Test.YtlfdgkiliegaiaaGreatDoorY2
import Derived.Test.YtlfdgkiliegaiaaGreatDoorY3
import Derived.Test.YtlfdgkiliegaiaaGreatDoorY4
import Derived.Test.YtlfdgkiliegaiaaGreatDoorY5
import Derived.Test.YtlfdgkiliegaiaaGreatDoorY6
import Derived.Test.YtlfdgkiliegaiaaGreatDoorY7
import Derived.Test.YtlfdgkiliegaiaaGreatDoorShelf
import Derived.Lib.Builder
import Derived.Lib.FrozenHead
import Derived.Lib.RuneBytes
import Derived.Lib.UnsafeStr
import Derived.Lib.SliceRun
import Derived.WalkSpells
import Derived.StillTailTactics
import Derived.Deep.RegionLaw
import Derived.Deep.DeepCutAuto
import Derived.Test.YtlfdgkiliegaiaaGreatDoorRows
import Derived.Deep.AppendSrc
import Derived.Lib.AppendStr
import Derived.ArgAppend
import Derived.Laws.IdiomCopy
import Derived.Laws.IdiomStrings
import Derived.Deep.Upon
import Derived.WalkKit
import Derived.WalkLawsBesides
import Derived.BigQuiet
import Derived.Lib.Hide
import Derived.Deep.QuietTactic
import Derived.Lib.AppendIntMem
import Derived.Lib.ItoaNum
import Derived.Deep.RegionHeld3
import Derived.Laws.ResultCell
import Derived.Deep.CutBlock
import Derived.Laws.EntriesVeiled
import Derived.Laws.StructEq
import Derived.Deep.DrawnRows
import Derived.Lib.ItoaLen
import Derived.Laws.Bits64b
import Derived.ProofKit
import Derived.OpenShut
import Derived.JoinedCond
set_option linter.unusedVariables false
namespace Go.Proofs.YtlfdgkiliegaiaaGreatDoor
section
open Go.RowKit
def zae (l : List Cel) : List UInt8 := l.flatMap fun c => if 0 < c.width then Lib.encodeRune c.rune else []
def zec (l : List Cel) : List UInt8 := zae (zdH l)
theorem zgv (l : List Cel) (c : Cel) : zdH (l ++ [c]) = if c.rune == 32 then zdH l else l ++ [c] := by
 unfold zdH;rw [List.reverse_append, List.reverse_singleton, List.singleton_append, List.dropWhile_cons];split
 ·rfl
 ·rw [List.reverse_cons, List.reverse_reverse]
theorem zez (l : List Cel) (k : Nat) (h : k < l.length) : l.take (k + 1) = l.take k ++ [l.getD k noC] := Zx l noC k h
theorem zaG (a b : List UInt8) : Lib.byteCells (a ++ b) = Lib.byteCells a ++ Lib.byteCells b := by simp [Lib.byteCells]
theorem zfy (l : List Cel) (c : Cel) : zae (l ++ [c]) = zae l ++ (if 0 < c.width then Lib.encodeRune c.rune else []) := by
 simp [zae]
theorem zo6 (r : Int) : (Lib.byteCells (Lib.encodeRune r)).length ≤ 4 := by rw [Lib.byteCells_encodeRune]; exact (Lib.runeCells_le r).2
theorem zha (l : List Cel) : (Lib.byteCells (zae l)).length ≤ 4 * l.length := by
 induction l with
 | nil => simp [zae, Lib.byteCells]
 | cons c l ih =>
  have e : zae (c :: l) = (if 0 < c.width then Lib.encodeRune c.rune else []) ++ zae l := rfl;rw [e, zaG, List.length_append, List.length_cons];have := zo6 c.rune;split
  ·omega
  ·simp [Lib.byteCells] at ih ⊢; omega
theorem zkz {T e : TypeId} {B b : Nat} {bs : List Value} {w : World} (h : Lib.IsBuilderF T e B b bs w) (o : Obj) : Lib.IsBuilderF T e B b bs (w.alloc o) := h.elim (fun x => .inl (x.alloc o)) (fun x => .inr (x.alloc o))
set_option maxHeartbeats 4000000 in
set_option maxRecDepth 100000 in
theorem zhT {T : Nat → Nat} {p : Nat} {w : World} {g : Gr} (h : GM T p w g) (y : Int) :
  Calls Tryz.prog 33 #[.pointer (some ⟨p, 0, none⟩), .int .i64 y] w fun e w' => e = .returned (.string ⟨(zec (g.row y).cells).toArray⟩) ∧ Below w.heap.size w w' := by
 have HW := Lib.hid (zjA h.wf y);have HR := Lib.hid (zhw h y);clear h;generalize g.row y = r at *;obtain ⟨l, wrap⟩ := r;dsimp only at HW HR ⊢;go_enter Tryz.func33, Tryz.ntmps33;go_wp2_with fail;refine HR.out.mono ?_;rintro e w2 ⟨v, rfl, b2, o2⟩;have HB2 := Lib.hid b2;have o2' := zh o2 b2;clear b2 o2;obtain ⟨va, vc, rfl⟩ := zQ o2';have hln := HW.out.1;have hnc : l.length ≤ vc := by
  rcases o2'.2 with ⟨e, h0⟩ | ⟨_, _, _, e, _, _, h1, _⟩
  ·omega
  ·simp only [Value.slice.injEq] at e; omega
 have HO := Lib.hid o2';clear o2';have hf := zf6 (.slice va l.length vc) (.bool wrap);go_wp2_with fail;clear hf
 go_loopw [5] (fun sv wr => ∃ k : Nat, k ≤ l.length ∧ sv = .slice va k vc ∧ wr = w2 ∧ Hid (zdH (l.take k) = zdH l)) (fun sv _ => match sv with | .slice _ k _ => k | _ => 0)
 case atStart => exact ⟨l.length, Nat.le_refl _, rfl, rfl, Lib.hid (by rw [List.take_length])⟩
 case round =>
  obtain ⟨k, hk, rfl, hw, ht⟩ := hrel;have hw' := hw.symm;subst hw';have HT := Lib.hid ht.out;clear ht;by_cases hstop : 0 < k ∧ (l.getD (k - 1) noC).rune = 32
  ·obtain ⟨b, off, c, e2, _, _⟩ := zF HO.out (by omega);simp only [Value.slice.injEq] at e2;obtain ⟨rfl, _, rfl⟩ := e2;obtain ⟨c0, _⟩ := zbq HO.out (k - 1) (by omega) rfl;rw [hstop.2] at c0;have hix := ZN (P := Tryz.prog) (size := 5) Tryz.underlying68 zI b off k vc (k - 1) (by omega);rw [show ((k - 1 : Nat) : Int) = (k : Int) - 1 by omega] at hix;have hsl := zhq (P := Tryz.prog) (size := 5) Tryz.underlying68 zI (some ⟨b, off, none⟩) k vc (k - 1) (by omega);rw [show ((k - 1 : Nat) : Int) = (k : Int) - 1 by omega] at hsl;have d1 : decide (0 < (k : Int)) = true := decide_eq_true (by omega);have d1' : decide (0 < k) = true := decide_eq_true (by omega);go_wp2_with fail;go_roundw
   case rel =>
    refine ⟨k - 1, by omega, rfl, by trivial, ?_⟩;have := HT.out;rw [show k = (k - 1) + 1 by omega, zez _ _ (by omega), zgv, hstop.2] at this;exact this
   case measure => simp only []; omega
  ·have HE := Lib.hid (show zdH l = l.take k from by
    rw [← HT.out];rcases Nat.eq_zero_or_pos k with h0 | h0
    ·subst h0; simp [zdH]
    ·have e : l.take k = l.take (k - 1) ++ [l.getD (k - 1) noC] := by
      rw [← zez _ _ (by omega), show k - 1 + 1 = k by omega]
     rw [e, zgv, beq_eq_false_iff_ne.2 (fun e => hstop ⟨h0, e⟩)];simp)
   have hbld : Lib.IsBuilderF 118 5 w2.heap.size w2.heap.size (Lib.byteCells (zae (l.take 0))) (w2.alloc (.cells #[.pointer none, .slice none 0 0] 118)) :=
    Lib.IsBuilderF.of (.inl ⟨Nat.le_refl _, .slice none 0 0, zE _ _, World.ownsRow_nil _ _ _ _, by simp [Value.ownBlock]⟩)
   have hBb := Below.alloc (Below.refl w2.heap.size w2) (Nat.le_refl _) (.cells #[.pointer none, .slice none 0 0] 118);rcases Nat.eq_zero_or_pos k with h0 | h0
   case' inl =>
    have d1 : decide (0 < (k : Int)) = false := decide_eq_false (by omega);have d1' : decide (0 < k) = false := decide_eq_false (by omega);go_wp2_with fail
   case' inr =>
    have d1 : decide (0 < (k : Int)) = true := decide_eq_true (by omega);have d1' : decide (0 < k) = true := decide_eq_true (by omega);obtain ⟨b, off, c, e2, _, _⟩ := zF HO.out (by omega);simp only [Value.slice.injEq] at e2;obtain ⟨rfl, _, rfl⟩ := e2;obtain ⟨c0, _⟩ := zbq HO.out (k - 1) (by omega) rfl;have d3 : ((l.getD (k - 1) noC).rune == 32) = false := beq_eq_false_iff_ne.2 (fun e => hstop ⟨h0, e⟩);have hix := ZN (P := Tryz.prog) (size := 5) Tryz.underlying68 zI b off k vc (k - 1) (by omega);rw [show ((k - 1 : Nat) : Int) = (k : Int) - 1 by omega] at hix;generalize (l.getD (k - 1) noC).rune = rn at *;go_wp2_with fail
   all_goals
    go_loopw [8, 33] (fun _ iv wx => ∃ i : Nat, i ≤ k ∧ iv = .int .i64 i ∧ Below w2.heap.size w2 wx ∧ Lib.IsBuilderF 118 5 w2.heap.size w2.heap.size (Lib.byteCells (zae (l.take i))) wx) (fun _ iv _ => k - (intOf iv).toNat)
    case atStart => exact ⟨0, Nat.zero_le _, rfl, hBb, hbld⟩
    case round =>
     obtain ⟨i, hi, rfl, hb, hbd⟩ := hrel;have HB := Lib.hid hb;have HD := Lib.hid hbd;have hbs := hb.size;clear hb hbd;by_cases hlt : i < k
     ·(try (exfalso; omega))
      all_goals
       have ho := zh HO.out HB.out;obtain ⟨b', off', c', e2, _, _⟩ := zF ho (by omega);simp only [Value.slice.injEq, Option.some.injEq] at e2;obtain ⟨e3, _, rfl⟩ := e2
       first | subst e3 | (simp only [Addr.mk.injEq] at e3; obtain ⟨e4, e5, _⟩ := e3; have e4' := e4.symm; have e5' := e5.symm; subst e4'; subst e5')
       obtain ⟨q0, q1, q2, q3, q4⟩ := zbq ho i (by omega) rfl;have hix2 := ZN (P := Tryz.prog) (size := 5) Tryz.underlying68 zI b' off' k vc i hlt;have hok := HW.out.2 (l.getD i noC) (by rw [List.getD_eq_getElem?_getD, List.getElem?_eq_getElem (by omega)]; exact List.getElem_mem _);have hsn := zfy (l.take i) (l.getD i noC);rw [← zez l i (by omega)] at hsn;have HSN := Lib.hid hsn;have hcl := zha (l.take i);rw [List.length_take, Nat.min_eq_left (by omega)] at hcl;clear ho hsn;generalize l.getD i noC = cc at *;obtain ⟨cr, cw, cs⟩ := cc;obtain ⟨hr0, hr1⟩ := hok;dsimp only at q0 q1 q2 q3 q4 hr0 hr1 HSN;have HD2 := Lib.hid (zkz HD.out (.cells #[.int .i32 cr, .int .i64 cw, .int .i64 cs.fg, .int .i64 cs.bg, .int .i64 cs.attr] 133));have HB2' := Lib.hid (HB.out.alloc hbs (.cells #[.int .i32 cr, .int .i64 cw, .int .i64 cs.fg, .int .i64 cs.bg, .int .i64 cs.attr] 133));by_cases hcw : 0 < cw
       ·have dw : decide (0 < cw) = true := decide_eq_true hcw;have HWR := Lib.hid (zgn w2.heap.size w2.heap.size _ cr hr0 hr1 _ HD2.out (by omega) (by simp; omega));go_wp2_with fail;refine HWR.out.mono ?_;rintro e w5 ⟨⟨nn, rfl⟩, h5, b5⟩;have HD5 := Lib.hid h5;have HB5 := Lib.hid (HB2'.out.trans b5);clear h5 b5 HWR;go_wp2_with fail;go_roundw
        case rel =>
         refine ⟨i + 1, by omega, by go_num, HB5.out, ?_⟩;rw [HSN.out, if_pos hcw, zaG, Lib.byteCells_encodeRune];exact HD5.out
        case measure => simp [intOf] <;> omega
       ·have dw : decide (0 < cw) = false := decide_eq_false hcw;go_wp2_with fail;go_roundw
        case rel =>
         refine ⟨i + 1, by omega, by go_num, HB2'.out, ?_⟩;rw [HSN.out, if_neg hcw, List.append_nil];exact HD2.out
        case measure => simp [intOf] <;> omega
     ·have hik : i = k := (by omega);subst hik;have HST := Lib.hid (Tryz.Builder_String_any_f w2.heap.size w2.heap.size _ wr HD.out hbs);go_wp2_with fail;refine HST.out.mono ?_;rintro e w6 ⟨rfl, _, b6⟩;have HB6 := Lib.hid (HB2.out.trans ((HB.out.trans b6).mono HB2.out.size));clear b6;go_wp2_with fail;go_ret;refine ⟨?_, HB6.out⟩;unfold zec;rw [HE.out]
      first | rfl | (rw [h0]; rfl)
end
section
open Go.RowKit
theorem za9 {w : World} {base size b off n c : Nat} {xs : List Value} (h : zn w base size (.slice (some ⟨b, off, none⟩) n c) n xs) (j : Nat) (hj : j < n * size) :
  w.cell? ⟨b, off + j, none⟩ = xs[j]? ∧ w.frozen? ⟨b, off + j, none⟩ = false := by
 obtain ⟨e1, h2⟩ := h;rcases h2 with ⟨e, _⟩ | ⟨b', off', c', e, hb, hbs, hnc, hcm, hcells, hxs⟩
 ·simp at e
 ·simp only [Value.slice.injEq, Option.some.injEq, Addr.mk.injEq] at e;obtain ⟨⟨rfl, rfl, _⟩, _, rfl⟩ := e;have hc : j < c * size := Nat.lt_of_lt_of_le hj (Nat.mul_le_mul_right _ hnc);refine ⟨?_, (hcells j hc).2⟩;have hjx : j < xs.length := (by rw [e1]; exact hj);rw [hxs j _ (List.getElem?_eq_getElem hjx), List.getElem?_eq_getElem hjx]
theorem zdE (A B : List (Value × Rw)) (x : Value × Rw) : zf (A ++ x :: B) = (zf A ++ [x.1]) ++ .bool x.2.wrap :: zf B := by
 rw [Zq, List.append_assoc];rfl
theorem zhb (L : List (Value × Rw)) (k : Nat) (hk : k < L.length) (is : Bool) : z8 (zf L) (k * 2 + 1) [.bool is] = zf (L.set k (L[k].1, { L[k].2 with wrap := is })) := by
 have e : L = L.take k ++ L[k] :: L.drop (k + 1) := by
  rw [List.getElem_cons_drop, List.take_append_drop]
 have hl : (L.take k).length = k := (by rw [List.length_take]; omega);rw [List.set_eq_take_append_cons_drop, if_pos hk];generalize hx : L[k] = x at *;generalize L.take k = A at *;generalize L.drop (k + 1) = B at *;rw [e, zdE, zdE, zgW _ _ _ _ _ (by rw [List.length_append, zS, hl]; rfl)]
theorem GAt.rewrap {T : Nat → Nat} {p : Nat} {vr vo : Value} {Lr Lo : List (Value × Rw)} {w w' : World} {g : Gr} (h : GAt T p vr vo Lr Lo w g) (k : Nat) (hk : k < Lr.length) (is : Bool) (m : Mod T (fun t => t = 2) w w')
  (ho : zn w' 0 2 vr Lr.length (zf (Lr.set k (Lr[k].1, { Lr[k].2 with wrap := is })))) : GM T p w' { g with rows := g.rows.set k { g.rows.getD k noR with wrap := is } } := by
 have hr : g.rows.getD k noR = Lr[k].2 := by
  rw [← h.er, List.getD_eq_getElem?_getD, List.getElem?_map, List.getElem?_eq_getElem hk]; rfl
 have hset : (Lr.set k (Lr[k].1, { Lr[k].2 with wrap := is })).map (·.1.ownBlock) = Lr.map (·.1.ownBlock) := by
  rw [List.map_set];apply List.ext_getElem?;intro j;by_cases hj : j = k
  ·subst hj;rw [List.getElem?_set_self (by simpa using hk), List.getElem?_map, List.getElem?_eq_getElem hk]; rfl
  ·rw [List.getElem?_set_ne (fun e => hj e.symm)]
 refine ⟨vr, vo, Lr.set k (Lr[k].1, { Lr[k].2 with wrap := is }), Lo, ⟨fun k' hk' => Nat.lt_of_lt_of_le (h.lt k' hk') m.size, ?_, h.tp, ?_, h.ro.mod m (by decide), ?_, h.eo, fun x hx => ?_, ?_, ?_⟩⟩
 ·exact (m.block p (zj h.blk) (by rw [h.tp]; decide)).trans h.blk
 ·rw [List.length_set];exact ⟨ho, h.rr.tag⟩
 ·rw [List.map_set, h.er, hr]
 ·rcases List.mem_append.1 hx with hx | hx
  ·rcases List.mem_or_eq_of_mem_set hx with hx | rfl
   ·exact (h.ca x (List.mem_append_left _ hx)).mod m (fun q hq => by omega)
   ·have := (h.ca Lr[k] (List.mem_append_left _ (List.getElem_mem hk))).mod m (fun q hq => by omega);exact ⟨this.own, this.tag⟩
  ·exact (h.ca x (List.mem_append_right _ hx)).mod m (fun q hq => by omega)
 ·rw [List.map_append, hset, ← List.map_append]; exact h.nd
 ·have wf := h.wf;refine ⟨wf.c1, wf.c2, ?_, ?_, wf.li, wf.ol, fun r hr' => ?_⟩
  ·show 1 ≤ (g.rows.set k _).length;rw [List.length_set]; exact wf.r1
  ·show (g.rows.set k _).length ≤ 120;rw [List.length_set]; exact wf.r2
  ·have hr2 : r ∈ g.rows.set k { g.rows.getD k noR with wrap := is } ++ g.old := hr';rcases List.mem_append.1 hr2 with hm | hm
   ·rcases List.mem_or_eq_of_mem_set hm with hm | rfl
    ·exact wf.ce r (List.mem_append_left _ hm)
    ·rw [hr];have hmem : Lr[k].2 ∈ g.rows := (by rw [← h.er]; exact List.mem_map_of_mem (List.getElem_mem hk));exact wf.ce Lr[k].2 (List.mem_append_left _ hmem)
   ·exact wf.ce r (List.mem_append_right _ hm)
set_option maxRecDepth 100000 in
theorem zed {T : Nat → Nat} {p : Nat} {w : World} {g : Gr} (h : GM T p w g) (y : Int) (is : Bool) :
  Calls Tryz.prog 205 #[.pointer (some ⟨p, 0, none⟩), .int .i64 y, .bool is] w fun e w' => e = .returned (.tuple #[]) ∧ ze (own T w) w w' ∧ GM T p w' (g.setWrap y is) := by
 have H0 := Lib.hid h;obtain ⟨vr, vo, Lr, Lo, h⟩ := h;obtain ⟨c0, c1, c2, c3⟩ := zX h;have hl := Za Tryz.underlying126 h.rr.own;have hlen := (Zf h).1;by_cases hy : 0 ≤ y ∧ y < (g.rows.length : Int)
 ·obtain ⟨k, rfl⟩ : ∃ k : Nat, y = (k : Int) := ⟨y.toNat, by omega⟩;have hE := Lib.hid (show g.setWrap k is = { g with rows := g.rows.set k { g.rows.getD k noR with wrap := is } } by
   unfold Gr.setWrap; rw [if_pos hy, Int.toNat_natCast])
  have hkl : k < Lr.length := (by omega);obtain ⟨b, off, c, rfl, hnc, hcm⟩ := zF h.rr.own (by omega);have hix := ZN (P := Tryz.prog) (size := 2) Tryz.underlying126 zH b off Lr.length c k hkl;obtain ⟨r1, f1⟩ := za9 h.rr.own (k * 2 + 1) (by omega);rw [zd0 Lr k hkl 1 (by decide), ← Nat.add_assoc] at r1;rw [← Nat.add_assoc] at f1;replace r1 : w.cell? ⟨b, off + k * 2 + 1, none⟩ = some (.bool Lr[k].2.wrap) := r1;have d1 : decide (0 ≤ (k : Int)) = true := decide_eq_true (by omega);have d2 : decide ((k : Int) < (Lr.length : Int)) = true := decide_eq_true (by omega);have d2' : decide (k < Lr.length) = true := decide_eq_true hkl;have hP := zbo h.rr.own (k * 2 + 1) [.bool is] (by simp; omega);rw [zhb Lr k hkl] at hP;change zn (w.setCell ⟨b, off + (k * 2 + 1), none⟩ (.bool is)) _ _ _ _ _ at hP;rw [← Nat.add_assoc] at hP;have g1 : w.grownBy (w.setCell ⟨b, off + k * 2 + 1, none⟩ (.bool is)) (some b) := zO (zr _ _) _ _;have tb : T b = 2 := h.rr.tag b rfl;have HM := Lib.hid (h.rewrap k hkl is (Mod.of_gb g1 (fun q hq => by injection hq with hq; rw [← hq]; exact tb)) hP);have HW := Lib.hid (show ze (own T w) w (w.setCell ⟨b, off + k * 2 + 1, none⟩ (.bool is)) from ze.of_gb g1 (fun q hq => by injection hq with hq; rw [← hq]; exact .inl (by rw [tb]; decide)));clear h hP g1 hlen hy;generalize Lr[k].2.wrap = bo at *;go_enter Tryz.func205, Tryz.ntmps205;go_wp2_with fail;go_end0;exact ⟨rfl, HW.out, by rw [hE.out]; exact HM.out⟩
 ·have hE := Lib.hid (show g.setWrap y is = g by unfold Gr.setWrap; rw [if_neg hy]);rw [hlen] at hl;clear h;by_cases h0 : 0 ≤ y
  ·have d1 : decide (0 ≤ y) = true := decide_eq_true h0;have d2 : decide (y < (g.rows.length : Int)) = false := decide_eq_false (by omega);go_enter Tryz.func205, Tryz.ntmps205;go_wp2_with fail;go_end0;exact ⟨rfl, ze.refl _ _, by rw [hE.out]; exact H0.out⟩
  ·have d1 : decide (0 ≤ y) = false := decide_eq_false h0;go_enter Tryz.func205, Tryz.ntmps205;go_wp2_with fail;go_end0;exact ⟨rfl, ze.refl _ _, by rw [hE.out]; exact H0.out⟩
end
section
open Go.RowKit
attribute [local go_sem ↓] Go.wp_at_zero Go.wp_at_succ
theorem zcd (c : Int) (n : Nat) (w : World) (h : I64 c) (hn : 0 < n) (hn2 : n ≤ 1000000) :
  Calls Tryz.prog 28 #[.int .i64 c, .int .i64 n] w fun e w' => e = .returned (.int .i64 (zap c n)) ∧ w' = w := by
 obtain ⟨h0, h1⟩ := h;by_cases hc : c < 0
 ·have d1 : decide (c < 0) = true := decide_eq_true hc;have hw1 : IntKind.i64.wrap (c + 1) = c + 1 := zb _ (by omega) (by omega);have hw2 : IntKind.i64.wrap (-(c + 1)) = -(c + 1) := zb _ (by omega) (by omega);have hne : ((n : Int) == 0) = false := beq_eq_false_iff_ne.2 (by omega);have hne2 : ¬ ((n : Int) = 0) := (by omega);have hb : 0 ≤ (-(c + 1)).tmod (n : Int) ∧ (-(c + 1)).tmod (n : Int) < n := ⟨Int.tmod_nonneg _ (by omega), Int.tmod_lt_of_pos _ (by omega)⟩;have hw3 : IntKind.i64.wrap ((-(c + 1)).tmod (n : Int)) = (-(c + 1)).tmod (n : Int) := zb _ (by omega) (by omega);have HV := Lib.hid (show zap c n = ((-(c + 1)).tmod (n : Int)).toNat by unfold zap; rw [if_pos hc]);go_enter Tryz.func28, Tryz.ntmps28;go_wp2_with fail;refine zT (v := .int .i64 (((-(c + 1)).tmod (n : Int)).toNat : Int)) rfl rfl (by show Value.int _ _ = _; rw [Int.toNat_of_nonneg hb.1, Int.neg_tmod]) ⟨by rw [HV.out], rfl⟩
 ·have d1 : decide (c < 0) = false := decide_eq_false hc;have hne : ((n : Int) == 0) = false := beq_eq_false_iff_ne.2 (by omega);have hne2 : ¬ ((n : Int) = 0) := (by omega);have hb : 0 ≤ c.tmod (n : Int) ∧ c.tmod (n : Int) < n := ⟨Int.tmod_nonneg _ (by omega), Int.tmod_lt_of_pos _ (by omega)⟩;have hw3 : IntKind.i64.wrap (c.tmod (n : Int)) = c.tmod (n : Int) := zb _ (by omega) (by omega);have HV := Lib.hid (show zap c n = (c.tmod (n : Int)).toNat by unfold zap; rw [if_neg hc]);go_enter Tryz.func28, Tryz.ntmps28;go_wp2_with fail;refine zT (v := .int .i64 ((c.tmod (n : Int)).toNat : Int)) rfl rfl (by show Value.int _ _ = _; rw [Int.toNat_of_nonneg hb.1, Int.tmod_eq_emod_of_nonneg (by omega)]) ⟨by rw [HV.out], rfl⟩
set_option maxRecDepth 100000 in
set_option maxHeartbeats 2000000 in
theorem ziZ (la lb : List Cel) (va vb : Value) (w : World) (ha : zn w 0 5 va la.length (zp la)) (hb : zn w 0 5 vb lb.length (zp lb)) (hl : la.length ≤ 1000000) (hl2 : lb.length ≤ 1000000) :
  Calls Tryz.prog 70 #[va, vb] w fun e w' => ∃ bv : Bool, e = .returned (.bool bv) ∧ (bv = true ↔ la = lb) ∧ Below w.heap.size w w' := by
 have HA := Lib.hid ha;have HB := Lib.hid hb;have ha0 := Za Tryz.underlying68 ha;have hb0 := Za Tryz.underlying68 hb;clear ha hb;by_cases hne : la.length = lb.length;rotate_left
 ·have t1 : ((la.length : Int) != (lb.length : Int)) = true := (by simp [bne, beq_eq_false_iff_ne.2 (show ¬ (la.length : Int) = (lb.length : Int) by omega)]);have t2 : (la.length != lb.length) = true := (by simp [bne, beq_eq_false_iff_ne.2 hne]);have HN := Lib.hid (show ¬ la = lb from fun e => hne (by rw [e]));have HNE := Lib.hid hne;clear hne;go_enter Tryz.func70, Tryz.ntmps70;have t3 : decide ((la.length : Int) = (lb.length : Int)) = false := decide_eq_false (by have := HNE.out; omega);have t4 : decide (la.length = lb.length) = false := decide_eq_false HNE.out;go_wp2_with fail;exact zT rfl rfl rfl ⟨false, rfl, ⟨fun e => (by cases e), fun e => absurd e HN.out⟩, Below.refl _ _⟩
 ·have HNE := Lib.hid hne;rw [← hne] at hb0;clear hne;go_enter Tryz.func70, Tryz.ntmps70;go_upto_region 4 with fail
  go_loopw [5] (fun iv wr => ∃ k : Nat, k ≤ la.length ∧ iv = .int .i64 k ∧ Hid (Below w.heap.size w wr) ∧ Hid (la.take k = lb.take k)) (fun iv _ => la.length - (intOf iv).toNat)
  case atStart => exact ⟨0, Nat.zero_le _, rfl, Below.refl _ _, by simp [Hid]⟩
  case round =>
   obtain ⟨k, hk, rfl, HW, HT⟩ := hrel;by_cases hlt : k < la.length
   ·have d1 : decide ((k : Int) < (la.length : Int)) = true := decide_eq_true (by omega);have d1' : decide (k < la.length) = true := decide_eq_true hlt;have hlb : k < lb.length := (by have := HNE.out; omega);have oa := zh HA.out HW.out;have ob := zh HB.out HW.out;obtain ⟨ba, fa, ca, e1, _, _⟩ := zF oa (by omega);obtain ⟨bb, fb, cb, e2, _, _⟩ := zF ob (by omega);subst e1 e2;obtain ⟨p0, p1, p2, p3, p4⟩ := zbq oa k (by omega) rfl;obtain ⟨q0, q1, q2, q3, q4⟩ := zbq ob k (by omega) rfl;have hix1 := ZN (P := Tryz.prog) (size := 5) Tryz.underlying68 zI ba fa la.length ca k hlt;have hix2 := ZN (P := Tryz.prog) (size := 5) Tryz.underlying68 zI bb fb lb.length cb k hlb;have HTS := Lib.hid (fun e => zlu k hlt hlb HT.out e);have HGA := Lib.hid (show la.getD k noC = lb.getD k noC ∨ ¬ la = lb from by
     by_cases e : la = lb
     ·exact .inl (by rw [e])
     ·exact .inr e)
    have hneq := fun (wx : World) => zj3 (la.getD k noC) (lb.getD k noC) wx;have hgd := fun (x y : Operand) (wx : World) => zgH .neq x y (la.getD k noC) (lb.getD k noC) wx;have hw6 : IntKind.i64.wrap ((k : Int) + 1) = (k : Int) + 1 := zb _ (by omega) (by omega);clear oa ob;generalize la.getD k noC = xa at *;generalize lb.getD k noC = xb at *;obtain ⟨ar, aw, ⟨af, ag, at'⟩⟩ := xa;obtain ⟨br, bw, ⟨bf, bg, bt⟩⟩ := xb;unfold Cel.val at hneq hgd;dsimp only at p0 p1 p2 p3 p4 q0 q1 q2 q3 q4 hneq hgd;have HEQ := Lib.hid (Cel.eqb_iff ⟨ar, aw, ⟨af, ag, at'⟩⟩ ⟨br, bw, ⟨bf, bg, bt⟩⟩);generalize hbv : Cel.eqb ⟨ar, aw, ⟨af, ag, at'⟩⟩ ⟨br, bw, ⟨bf, bg, bt⟩⟩ = bv at *;clear hbv;go_upto_region 6 with fail
    go_region_held3 (fun w' => w'.cell? ⟨ba, fa + k * 5, none⟩ = some (.int .i32 ar) ∧ w'.cell? ⟨ba, fa + k * 5 + 1, none⟩ = some (.int .i64 aw) ∧ w'.cell? ⟨ba, fa + k * 5 + 2, none⟩ = some (.int .i64 af) ∧ w'.cell? ⟨ba, fa + k * 5 + 3, none⟩ = some (.int .i64 ag) ∧ w'.cell? ⟨ba, fa + k * 5 + 4, none⟩ = some (.int .i64 at') ∧
     w'.cell? ⟨bb, fb + k * 5, none⟩ = some (.int .i32 br) ∧ w'.cell? ⟨bb, fb + k * 5 + 1, none⟩ = some (.int .i64 bw) ∧ w'.cell? ⟨bb, fb + k * 5 + 2, none⟩ = some (.int .i64 bf) ∧ w'.cell? ⟨bb, fb + k * 5 + 3, none⟩ = some (.int .i64 bg) ∧ w'.cell? ⟨bb, fb + k * 5 + 4, none⟩ = some (.int .i64 bt)) (go_keep) (fail)
    clear p0 p1 p2 p3 p4 q0 q1 q2 q3 q4;cases bv
    ·go_wp2_with fail;refine zT rfl rfl rfl ⟨false, rfl, ⟨fun e => (by cases e), fun e => ?_⟩, HW.out.drew⟩;rcases HGA.out with h1 | h1
     ·have h2 := HEQ.out.2 h1;cases h2
     ·exact absurd e h1
    ·go_wp2_with fail;go_roundw
     case rel => exact ⟨k + 1, by omega, by go_num, HW.out.drew, HTS.out (HEQ.out.1 rfl)⟩
     case measure => simp [intOf]; omega
   ·have d1 : decide ((k : Int) < (la.length : Int)) = false := decide_eq_false (by omega);have d1' : decide (k < la.length) = false := decide_eq_false hlt;have HEQ := Lib.hid (show la = lb from by
     have h1 := HT.out;rw [List.take_of_length_le (by omega), List.take_of_length_le (by have := HNE.out; omega)] at h1;exact h1)
    go_wp2_with fail;exact zT rfl rfl rfl ⟨true, rfl, ⟨fun _ => HEQ.out, fun _ => rfl⟩, HW.out⟩
end
end Go.Proofs.YtlfdgkiliegaiaaGreatDoor
