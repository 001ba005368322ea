/- Texts laid together: G4 G5 G8 G9 W8. -/
import Derived.Test.YtlfdgkiliegaiaaGreatDoorY1
import Derived.Test.YtlfdgkiliegaiaaGreatDoorY2
import Derived.Test.YtlfdgkiliegaiaaGreatDoorY3
import Derived.Test.YtlfdgkiliegaiaaGreatDoorY4
import Derived.Test.YtlfdgkiliegaiaaGreatDoorY5
import Derived.StillTailTactics
import Derived.Deep.RegionLaw
import Derived.Deep.DeepCutAuto
import Derived.Test.YtlfdgkiliegaiaaGreatDoorRows
import Derived.Deep.AppendSrc
import Derived.Lib.AppendStr
import Derived.Lib.FrozenHead
import Derived.ArgAppend
import Derived.Laws.IdiomCopy
import Derived.Laws.IdiomStrings
import Derived.Deep.Upon
import Derived.WalkKit
import Derived.WalkSpells
import Derived.WalkLawsBesides
import Derived.BigQuiet
import Derived.Lib.Hide
import Derived.Deep.QuietTactic
import Derived.Lib.AppendIntMem
import Derived.Lib.ItoaNum
import Derived.Lib.SliceRun
import Derived.Test.YtlfdgkiliegaiaaGreatDoorShelf
import Derived.Lib.Builder
import Derived.Lib.RuneBytes
import Derived.Lib.UnsafeStr
import Derived.Deep.RegionHeld3
import Derived.WalkMore
import Derived.ScopeJumps
import Derived.Lib.SlBytesConst
import Derived.Lib.ItoaLen
import Derived.Laws.Cover4
set_option linter.unusedVariables false
namespace Go.Proofs.YtlfdgkiliegaiaaGreatDoor
section
open Go.RowKit
theorem zde (cols rows hist : Nat) (w : World) (h1 : 1 ≤ cols) (h2 : cols ≤ 250) (h3 : 1 ≤ rows) (h4 : rows ≤ 120) (h5 : hist ≤ 2000) :
  Calls Tryz.prog 43 #[.int .i64 cols, .int .i64 rows, .int .i64 hist] w fun e w' => ∃ p T, e = .returned (.tuple #[.pointer (some ⟨p, 0, none⟩), .int .i64 0]) ∧ Below w.heap.size w w' ∧ GM T p w' (ZY cols rows hist) ∧ ∀ k, T k ≠ 0 → w.heap.size ≤ k := by
 have hm : zie cols rows = true := by
  unfold zie;rw [decide_eq_true (by omega), decide_eq_true (by omega), decide_eq_true (by omega), decide_eq_true (by omega)]; rfl
 have HM := Lib.hid (zn0 cols rows w);rw [hm] at HM;have e0 : decide ((hist : Int) < 0) = false := decide_eq_false (by omega);have e1 : decide (2000 < (hist : Int)) = false := decide_eq_false (by omega);have e1' : decide (2000 < hist) = false := decide_eq_false (by omega);go_enter Tryz.func43, Tryz.ntmps43;go_wp2_with fail;refine HM.out.mono ?_;rintro e w2 ⟨rfl, rfl⟩;go_wp2_with fail;refine (zaZ _).mono ?_;rintro e w3 ⟨rfl, b3⟩;have HB3 := Lib.hid b3;clear b3;go_wp2_with fail;refine (zeP rows cols plainS w3 (by omega) (by omega)).mono ?_;rintro e w4 ⟨v, L, rfl, b4, hL, hR⟩;obtain ⟨va, vc, rfl⟩ := zQ hR.own;have HB4 := Lib.hid (HB3.out.trans (b4.mono HB3.out.size));have HR4 := Lib.hid hR;have HL := Lib.hid hL;have hs3 := HB3.out.size;have hs4 := b4.size;clear b4 hR hL;go_wp2_with fail;have hbk := zE w4 (.cells #[.int .i64 cols, .int .i64 hist, .slice va L.length vc, .slice none 0 0] 128);have hb5 := Below.alloc (Below.refl w4.heap.size w4) (Nat.le_refl _) (.cells #[.int .i64 cols, .int .i64 hist, .slice va L.length vc, .slice none 0 0] 128);have hr5 : zaU w3.heap.size (w4.alloc (.cells #[.int .i64 cols, .int .i64 hist, .slice va L.length vc, .slice none 0 0] 128)) (.slice va L.length vc) L :=
  ⟨zh HR4.out.own hb5, fun x hx => zh (HR4.out.cells x hx) hb5, HR4.out.nd, HR4.out.ap⟩
 refine zct rfl rfl rfl rfl ⟨w4.heap.size, _, rfl, HB4.out.trans (hb5.mono (by omega)), zn2 (g := ZY cols rows hist) hr5 hbk ?_ ?_ (by omega) HL.out rfl (zn1 h1 h2 h3 h4 h5), fun k hk => ?_⟩
 ·intro e;have := (zl HR4.out.own _ e).2;omega
 ·intro x hx e;have := (zl (HR4.out.cells x hx) _ e).2;omega
 ·have := zjz (by omega) hr5.own k hk;omega
theorem zX {T : Nat → Nat} {p : Nat} {vr vo : Value} {Lr Lo : List (Value × Rw)} {w : World} {g : Gr} (h : GAt T p vr vo Lr Lo w g) :
  w.cell? ⟨p, 0, none⟩ = some (.int .i64 g.cols) ∧ w.cell? ⟨p, 1, none⟩ = some (.int .i64 g.limit) ∧ w.cell? ⟨p, 2, none⟩ = some vr ∧ w.cell? ⟨p, 3, none⟩ = some vo :=
 ⟨za h.blk 0, za h.blk 1, za h.blk 2, za h.blk 3⟩
theorem zf5 {T : Nat → Nat} {p : Nat} {w : World} {g : Gr} (h : GM T p w g) :
  Calls Tryz.prog 29 #[.pointer (some ⟨p, 0, none⟩)] w fun e w' => e = .returned (.int .i64 g.cols) ∧ w' = w := by
 obtain ⟨vr, vo, Lr, Lo, h⟩ := h;obtain ⟨c0, c1, c2, c3⟩ := zX h;clear h;go_enter Tryz.func29, Tryz.ntmps29;go_wp2_with fail;go_ret;exact ⟨rfl, rfl⟩
theorem zgY {T : Nat → Nat} {p : Nat} {w : World} {g : Gr} (h : GM T p w g) :
  Calls Tryz.prog 32 #[.pointer (some ⟨p, 0, none⟩)] w fun e w' => e = .returned (.int .i64 g.limit) ∧ w' = w := by
 obtain ⟨vr, vo, Lr, Lo, h⟩ := h;obtain ⟨c0, c1, c2, c3⟩ := zX h;clear h;go_enter Tryz.func32, Tryz.ntmps32;go_wp2_with fail;go_ret;exact ⟨rfl, rfl⟩
theorem zeQ {T : Nat → Nat} {p : Nat} {w : World} {g : Gr} (h : GM T p w g) :
  Calls Tryz.prog 30 #[.pointer (some ⟨p, 0, none⟩)] w fun e w' => e = .returned (.int .i64 g.rows.length) ∧ w' = w := by
 obtain ⟨vr, vo, Lr, Lo, h⟩ := h;obtain ⟨c0, c1, c2, c3⟩ := zX h;have hl := Za Tryz.underlying126 h.rr.own;rw [(Zf h).1] at hl;clear h;go_enter Tryz.func30, Tryz.ntmps30;go_wp2_with fail;go_ret;exact ⟨rfl, rfl⟩
end
section
open Go.RowKit
theorem zf6 (x y : Value) (wx : World) : (Instr.field 130 (.agg #[x, y]) 0).run Tryz.prog wx = .ok x wx := by kernel_rfl
theorem zbf {w : World} {base b off n c : Nat} {L : List (Value × Rw)} (h : zn w base 2 (.slice (some ⟨b, off, none⟩) n c) n (zf L)) (k : Nat) (hk : k < L.length) :
  w.cell? ⟨b, off + k * 2, none⟩ = some L[k].1 ∧ w.cell? ⟨b, off + k * 2 + 1, none⟩ = some (.bool L[k].2.wrap) := by
 obtain ⟨e1, h2⟩ := h;rcases h2 with ⟨e, _⟩ | ⟨b', off', c', e, hb, hbs, hnc, hcm, hcells, hxs⟩
 ·simp at e
 ·simp only [Value.slice.injEq, Option.some.injEq, Addr.mk.injEq] at e;obtain ⟨⟨rfl, rfl, _⟩, _, rfl⟩ := e;have key : ∀ i u, i < 2 → [L[k].1, Value.bool L[k].2.wrap][i]? = some u → w.cell? ⟨b, off + (k * 2 + i), none⟩ = some u := fun i u hi hu => hxs _ u (by rw [zd0 L k hk i hi]; exact hu);exact ⟨key 0 _ (by decide) rfl, key 1 _ (by decide) rfl⟩
theorem zF {w : World} {base size : Nat} {v : Value} {n : Nat} {xs : List Value} (h : zn w base size v n xs) (hn : 0 < n) : ∃ b off c, v = .slice (some ⟨b, off, none⟩) n c ∧ n ≤ c ∧ c ≤ maxLen := by
 rcases h.2 with ⟨_, h0⟩ | ⟨b, off, c, hv, _, _, h1, h2, _⟩
 ·omega
 ·exact ⟨b, off, c, hv, h1, h2⟩
theorem zm2 {T : Nat → Nat} {p : Nat} {w : World} {g : Gr} (h : GM T p w g) (y : Int) (hy : ¬ (0 ≤ y ∧ y < (g.rows.length : Int)) ∧ ¬ (y < 0 ∧ -(g.old.length : Int) ≤ y)) :
  Calls Tryz.prog 72 #[.pointer (some ⟨p, 0, none⟩), .int .i64 y] w fun e w' => e = .returned (.agg #[.slice none 0 0, .bool false]) ∧ Below w.heap.size w w' := by
 obtain ⟨vr, vo, Lr, Lo, h0⟩ := h;have hBz := Below.alloc (Below.refl w.heap.size w) (Nat.le_refl _) (.cells #[.slice none 0 0, .bool false] 130);have h := h0.mod (.of_below hBz) id id id (fun _ => id);obtain ⟨c0, c1, c2, c3⟩ := zX h;have hl := Za Tryz.underlying126 h.rr.own;have ho := Za Tryz.underlying126 h.ro.own;rw [(Zf h).1] at hl;rw [(Zf h).2] at ho;have w1 := h.wf.r2;have w2 := h.wf.ol;have w3 := h.wf.li;clear h h0;have hB := Below.alloc (Below.refl w.heap.size w) (Nat.le_refl _) (.cells #[.slice none 0 0, .bool false] 130);by_cases h0 : 0 ≤ y
 ·have d1 : decide (0 ≤ y) = true := decide_eq_true h0;have d2 : decide (y < (g.rows.length : Int)) = false := decide_eq_false (by omega);have d3 : decide (y < 0) = false := decide_eq_false (by omega);go_enter Tryz.func72, Tryz.ntmps72;go_wp2_with fail;(try simp only [Exit.inBlock, Exit.then]);exact zca rfl rfl rfl (zE _ _) Tryz.underlying130 rfl (by exact zH) ⟨rfl, hB⟩
 ·have d1 : decide (0 ≤ y) = false := decide_eq_false h0;have d3 : decide (y < 0) = true := decide_eq_true (by omega);have d4 : decide (-(g.old.length : Int) ≤ y) = false := decide_eq_false (by omega);go_enter Tryz.func72, Tryz.ntmps72;go_wp2_with fail;(try simp only [Exit.inBlock, Exit.then]);exact zca rfl rfl rfl (zE _ _) Tryz.underlying130 rfl (by exact zH) ⟨rfl, hB⟩
theorem zm3 {T : Nat → Nat} {p : Nat} {w : World} {g : Gr} (h : GM T p w g) (k : Nat) (hk : k < g.rows.length) :
  Calls Tryz.prog 72 #[.pointer (some ⟨p, 0, none⟩), .int .i64 k] w fun e w' => ∃ v, e = .returned (.agg #[v, .bool (g.rows.getD k noR).wrap]) ∧ Below w.heap.size w w' ∧ zn w 0 5 v (g.rows.getD k noR).cells.length (zp (g.rows.getD k noR).cells) := by
 obtain ⟨vr, vo, Lr, Lo, h0⟩ := h;have hBz := Below.alloc (Below.refl w.heap.size w) (Nat.le_refl _) (.cells #[.slice none 0 0, .bool false] 130);have h := h0.mod (.of_below hBz) id id id (fun _ => id);obtain ⟨c0, c1, c2, c3⟩ := zX h;have hlen := (Zf h).1;have w1 := h.wf.r2;obtain ⟨b, off, c, rfl, hnc, hcm⟩ := zF h.rr.own (by omega);have hkl : k < Lr.length := (by omega);obtain ⟨r0, r1⟩ := zbf h.rr.own k hkl;have hx : (g.rows.getD k noR) = Lr[k].2 := by
  rw [← h.er, List.getD_eq_getElem?_getD, List.getElem?_map, List.getElem?_eq_getElem hkl]; rfl
 have hown := (h0.ca Lr[k] (List.mem_append_left _ (List.getElem_mem hkl))).own;rw [hx];generalize Lr[k] = x at *;obtain ⟨xv, xr⟩ := x;dsimp only at r0 r1 hown hx ⊢;have HO := Lib.hid hown;obtain ⟨va, vc, rfl⟩ := zQ hown;have hl := Za Tryz.underlying126 h.rr.own;have hix := ZN (P := Tryz.prog) (size := 2) Tryz.underlying126 zH b off Lr.length c k hkl;clear h h0 hown;have d1 : decide (0 ≤ (k : Int)) = true := decide_eq_true (by omega);have d2 : decide ((k : Int) < (Lr.length : Int)) = true := decide_eq_true (by omega);have d2' : decide (k < Lr.length) = true := decide_eq_true hkl;have hB := Below.alloc (Below.refl w.heap.size w) (Nat.le_refl _) (.cells #[.slice va xr.cells.length vc, .bool xr.wrap] 130);go_enter Tryz.func72, Tryz.ntmps72;go_wp2_with fail;(try simp only [Exit.inBlock, Exit.then]);exact zca rfl rfl rfl (zE _ _) Tryz.underlying130 rfl (by exact zH) ⟨_, rfl, hB, HO.out⟩
set_option maxRecDepth 100000 in
theorem zn3 {T : Nat → Nat} {p : Nat} {w : World} {g : Gr} (h : GM T p w g) (k : Nat) (hk : k < g.old.length) :
  Calls Tryz.prog 72 #[.pointer (some ⟨p, 0, none⟩), .int .i64 ((k : Int) - g.old.length)] w fun e w' => ∃ v, e = .returned (.agg #[v, .bool (g.old.getD k noR).wrap]) ∧ Below w.heap.size w w' ∧ zn w 0 5 v (g.old.getD k noR).cells.length (zp (g.old.getD k noR).cells) := by
 obtain ⟨vr, vo, Lr, Lo, h0⟩ := h;have hBz := Below.alloc (Below.refl w.heap.size w) (Nat.le_refl _) (.cells #[.slice none 0 0, .bool false] 130);have h := h0.mod (.of_below hBz) id id id (fun _ => id);obtain ⟨c0, c1, c2, c3⟩ := zX h;have hlen := (Zf h).2;have w1 := h.wf.r2;have w2 := h.wf.ol;have w3 := h.wf.li;obtain ⟨b, off, c, rfl, hnc, hcm⟩ := zF h.ro.own (by omega);have hkl : k < Lo.length := (by omega);obtain ⟨r0, r1⟩ := zbf h.ro.own k hkl;have hx : (g.old.getD k noR) = Lo[k].2 := by
  rw [← h.eo, List.getD_eq_getElem?_getD, List.getElem?_map, List.getElem?_eq_getElem hkl]; rfl
 have hown := (h0.ca Lo[k] (List.mem_append_right _ (List.getElem_mem hkl))).own;rw [hx];generalize Lo[k] = x at *;obtain ⟨xv, xr⟩ := x;dsimp only at r0 r1 hown hx ⊢;have HO := Lib.hid hown;obtain ⟨va, vc, rfl⟩ := zQ hown;have hl := Za Tryz.underlying126 h.ro.own;have hix := ZN (P := Tryz.prog) (size := 2) Tryz.underlying126 zH b off Lo.length c k hkl;rw [← hlen];rw [← hlen] at w2;clear h h0 hown hlen;have hy : (Lo.length : Int) + ((k : Int) - (Lo.length : Int)) = (k : Int) := (by omega);have d1 : decide (0 ≤ (k : Int) - (Lo.length : Int)) = false := decide_eq_false (by omega);have d3 : decide ((k : Int) - (Lo.length : Int) < 0) = true := decide_eq_true (by omega);have d4 : decide (-(Lo.length : Int) ≤ (k : Int) - (Lo.length : Int)) = true := decide_eq_true (by omega);have hwk : IntKind.i64.wrap (k : Int) = (k : Int) := zb _ (by omega) (by omega);have hB := Lib.hid (Below.alloc (Below.refl w.heap.size w) (Nat.le_refl _) (.cells #[.slice va xr.cells.length vc, .bool xr.wrap] 130));go_enter Tryz.func72, Tryz.ntmps72;go_upto_region 4 with fail;have hbk0 := zE w (.cells #[.slice none 0 0, .bool false] 130);generalize w.alloc (.cells #[.slice none 0 0, .bool false] 130) = wa at *
 go_still_tail 13, (by kernel_rfl)
 change wpList _ _ _ _ _ wa.drew;have hbk := Zo hbk0;have hBd := hBz.drew;generalize hwd : wa.drew = wd at *;have hst := run_storeVar_row (P := Tryz.prog) wd w.heap.size 130 130 _ #[.slice va xr.cells.length vc, .bool xr.wrap] hbk zH rfl (by simp [Value.oneCell']);have hr2 := zaS (cells := #[.slice va xr.cells.length vc, .bool xr.wrap]) hbk;have hB3 := Lib.hid (zbB hBd (g := w.heap.size) (Nat.le_refl _) #[.slice va xr.cells.length vc, .bool xr.wrap]);generalize wd.setRow w.heap.size #[.slice va xr.cells.length vc, .bool xr.wrap] = w3 at *;go_wp2_with (refine zJ rfl _ _ _ rfl hst rfl rfl ?_);(try simp only [Exit.inBlock, Exit.then]);exact zca rfl rfl rfl hr2 Tryz.underlying130 rfl (by exact zH) ⟨_, rfl, hB3.out, HO.out⟩
theorem zhw {T : Nat → Nat} {p : Nat} {w : World} {g : Gr} (h : GM T p w g) (y : Int) :
  Calls Tryz.prog 72 #[.pointer (some ⟨p, 0, none⟩), .int .i64 y] w fun e w' => ∃ v, e = .returned (.agg #[v, .bool (g.row y).wrap]) ∧ Below w.heap.size w w' ∧ zn w 0 5 v (g.row y).cells.length (zp (g.row y).cells) := by
 by_cases h1 : 0 ≤ y ∧ y < (g.rows.length : Int)
 ·obtain ⟨k, rfl⟩ : ∃ k : Nat, y = (k : Int) := ⟨y.toNat, by omega⟩;have e : g.row k = g.rows.getD k noR := (by unfold Gr.row; rw [if_pos h1, Int.toNat_natCast]);rw [e];exact zm3 h k (by omega)
 ·by_cases h2 : y < 0 ∧ -(g.old.length : Int) ≤ y
  ·obtain ⟨k, hk⟩ : ∃ k : Nat, (g.old.length : Int) + y = (k : Int) := ⟨((g.old.length : Int) + y).toNat, by omega⟩;have e : g.row y = g.old.getD k noR := (by unfold Gr.row; rw [if_neg h1, if_pos h2, hk, Int.toNat_natCast]);rw [e, show y = (k : Int) - g.old.length by omega];exact zn3 h k (by omega)
  ·have e : g.row y = noR := (by unfold Gr.row; rw [if_neg h1, if_neg h2]);rw [e];refine (zm2 h y ⟨h1, h2⟩).mono ?_;rintro e w' ⟨rfl, b⟩;exact ⟨_, rfl, b, ZX _ _ _⟩
theorem zeR (w : World) (e : TypeId) (size : Nat) : zn (w.alloc (.cells #[] e)) w.heap.size size (.slice (some ⟨w.heap.size, 0, none⟩) 0 0) 0 [] :=
 ⟨by simp, .inr ⟨w.heap.size, 0, 0, rfl, Nat.le_refl _, by simp, Nat.le_refl _, Nat.zero_le _, fun j hj => by omega, fun j u hu => by simp at hu⟩⟩
set_option maxRecDepth 100000 in
theorem zd1 (l : List Cel) (v : Value) (w : World) (h : zn w 0 5 v l.length (zp l)) (hl : l.length ≤ 100000) :
  Calls Tryz.prog 78 #[v] w fun e w' => ∃ v', e = .returned v' ∧ Below w.heap.size w w' ∧ zn w' w.heap.size 5 v' l.length (zp l) := by
 rcases Nat.eq_zero_or_pos l.length with h0 | h0
 ·have hnil : l = [] := List.eq_nil_of_length_eq_zero h0;subst hnil;obtain ⟨va, vc, rfl⟩ := zQ h;rw [List.length_nil] at h ⊢;have hq := fun (wx : World) => Lib.run_eql_slice_nil (P := Tryz.prog) wx 68 133 va 0 vc 0 0 Tryz.underlying68;cases va with
  | none =>
   clear h;go_enter Tryz.func78, Tryz.ntmps78;go_wp2_with fail;exact zT rfl rfl rfl ⟨_, rfl, Below.refl _ _, ZX _ _ _⟩
  | some a =>
   have HR := Lib.hid (zU h);clear h;go_enter Tryz.func78, Tryz.ntmps78;go_wp2_with (at_builtin; refine zaz ?_);unfold zay;refine zbW zdZ rfl rfl w.heap.size (zeR w 133 5) rfl (zdY HR.out (World.grownBy_alloc w _ none) (by intro _ _ e; simp at e)) rfl (zcr []) (by decide) (by decide) (by simp) ?_;intro v6 w6 o6 g6;have HB6 := Lib.hid ((Below.alloc (Below.refl w.heap.size w) (Nat.le_refl _) (.cells #[] 133)).grown g6 (by simp) (by intro q hq; simp [Value.ownBlock] at hq; omega));have HO6 := Lib.hid o6;clear o6 g6;go_wp2_with fail;exact zT rfl rfl rfl ⟨_, rfl, HB6.out, HO6.out⟩
 ·obtain ⟨b, off, c, rfl, hnc, hcm⟩ := zF h h0;have hq := fun (wx : World) => Lib.run_eql_slice_nil (P := Tryz.prog) wx 68 133 (some ⟨b, off, none⟩) l.length c 0 0 Tryz.underlying68;have HR := Lib.hid (zU h);clear h;go_enter Tryz.func78, Tryz.ntmps78;go_wp2_with (at_builtin; refine zaz ?_);unfold zay;refine zbW zdZ rfl rfl w.heap.size (zeR w 133 5) rfl (zdY HR.out (World.grownBy_alloc w _ none) (by intro _ _ e; simp at e)) rfl (zcr l) (by unfold maxLen; omega) (by omega) (by simp) ?_;intro v6 w6 o6 g6;rw [Nat.zero_add, List.nil_append] at o6;have HB6 := Lib.hid ((Below.alloc (Below.refl w.heap.size w) (Nat.le_refl _) (.cells #[] 133)).grown g6 (by simp) (by intro q hq; simp [Value.ownBlock] at hq; omega));have HO6 := Lib.hid o6;clear o6 g6;go_wp2_with fail;exact zT rfl rfl rfl ⟨_, rfl, HB6.out, HO6.out⟩
theorem zm4 {T : Nat → Nat} {p : Nat} {w : World} {g : Gr} (h : GM T p w g) (y : Int) (hl : (g.row y).cells.length ≤ 1000) :
  Calls Tryz.prog 39 #[.pointer (some ⟨p, 0, none⟩), .int .i64 y] w fun e w' => ∃ v, e = .returned v ∧ Below w.heap.size w w' ∧ zn w' w.heap.size 5 v (g.row y).cells.length (zp (g.row y).cells) := by
 have HR := Lib.hid (zhw h y);go_enter Tryz.func39, Tryz.ntmps39;go_wp2_with fail;refine HR.out.mono ?_;rintro e w2 ⟨v, rfl, b2, o2⟩;have HB := Lib.hid b2;have HC := Lib.hid (zd1 (g.row y).cells v w2 (zh o2 b2) (by omega));clear b2;obtain ⟨va, vc, rfl⟩ := zQ o2;clear o2;have hf := zf6 (.slice va (g.row y).cells.length vc) (.bool (g.row y).wrap);go_wp2_with fail;refine HC.out.mono ?_;rintro e w3 ⟨v3, rfl, b3, o3⟩;have HB3 := Lib.hid (HB.out.trans (b3.mono HB.out.size));have HO3 := Lib.hid (zM o3 HB.out.size);clear b3 o3;go_wp2_with fail;exact zT rfl rfl rfl ⟨_, rfl, HB3.out, HO3.out⟩
theorem zjA {g : Gr} (h : g.WF) (y : Int) : (g.row y).cells.length ≤ 250 ∧ ∀ c ∈ (g.row y).cells, c.Ok := by
 have key : ∀ r, r ∈ g.rows ++ g.old → r.cells.length ≤ 250 ∧ ∀ c ∈ r.cells, c.Ok := fun r hr => by
  obtain ⟨e1, e2⟩ := h.ce r hr;have := h.c2;exact ⟨by omega, e2⟩
 have hget : ∀ (l : List Rw) (k : Nat), k < l.length → l.getD k noR ∈ l := fun l k hk => by
  rw [List.getD_eq_getElem?_getD, List.getElem?_eq_getElem hk]; exact List.getElem_mem hk
 unfold Gr.row;split
 ·exact key _ (List.mem_append_left _ (hget _ _ (by omega)))
 ·split
  ·exact key _ (List.mem_append_right _ (hget _ _ (by omega)))
  ·exact ⟨by show 0 ≤ 250; omega, fun c hc => by simp [noR] at hc⟩
end
section
open Go.RowKit
def zaa (w0 : World) (s : Sty) : Prop := ∀ w, Below w0.heap.size w0 w → Calls Tryz.prog 18 #[s.val] w fun e w' => e = .returned (.bool (okS s)) ∧ Below w.heap.size w w'
theorem zaa.below {w0 w1 : World} {s : Sty} (h : zaa w0 s) (b : Below w0.heap.size w0 w1) : zaa w1 s := fun w hb => h w (b.trans (hb.mono b.size))
theorem zd2 (w : World) : Calls Tryz.prog 59 #[.int .i64 (-1)] w fun e w' => e = .returned (.string ⟨#[100, 101, 102, 97, 117, 108, 116]⟩) ∧ w' = w := by
 go_enter Tryz.func59, Tryz.ntmps59;go_wp2_with fail;go_ret;exact ⟨rfl, rfl⟩
set_option maxRecDepth 100000 in
theorem ziA {w0 : World} : zaa w0 plainS := by
 intro w _;have HB := Lib.hid ((Below.refl w.heap.size w).alloc (Nat.le_refl _) (.cells #[.int .i64 (-1), .int .i64 (-1), .int .i64 0] 35));unfold Sty.val plainS;go_enter Tryz.func18, Tryz.ntmps18;go_wp2_with fail;refine (zd2 _).mono ?_;rintro e w2 ⟨rfl, rfl⟩;go_wp2_with fail;refine (zd2 _).mono ?_;rintro e w2 ⟨rfl, rfl⟩;go_wp2_with fail;go_ret;exact ⟨rfl, HB.out⟩
set_option maxRecDepth 100000 in
theorem zkc {T : Nat → Nat} {p : Nat} {w : World} {g : Gr} (h : GM T p w g) (x y : Int) (s : Sty) (hs : zaa w s) (hn : g.onIt x y s = false) :
  Calls Tryz.prog 206 #[.pointer (some ⟨p, 0, none⟩), .int .i64 x, .int .i64 y, s.val] w fun e w' => e = .returned (.slice none 0 0) ∧ Below w.heap.size w w' := by
 have hBz := Below.alloc (Below.refl w.heap.size w) (Nat.le_refl _) (.cells #[.int .i64 s.fg, .int .i64 s.bg, .int .i64 s.attr] 35);have HB := Lib.hid hBz;have h' := h.below hBz;have wf := h.wf;clear h;obtain ⟨vr, vo, Lr, Lo, h⟩ := h';obtain ⟨c0, c1, c2, c3⟩ := zX h;have hl := Za Tryz.underlying126 h.rr.own;rw [(Zf h).1] at hl;clear h;have HN := Lib.hid hn;have w1 := wf.r2;have w2 := wf.c2;clear hn wf;unfold Gr.onIt at HN;unfold Sty.val;by_cases h0 : 0 ≤ y;rotate_left
 ·have d0 : decide (y < 0) = true := decide_eq_true (by omega);go_enter Tryz.func206, Tryz.ntmps206;go_wp2_with fail;go_ret;exact ⟨rfl, HB.out⟩
 have d0 : decide (y < 0) = false := decide_eq_false (by omega);by_cases h1 : y < (g.rows.length : Int);rotate_left
 ·have d1 : decide ((g.rows.length : Int) ≤ y) = true := decide_eq_true (by omega);go_enter Tryz.func206, Tryz.ntmps206;go_wp2_with fail;go_ret;exact ⟨rfl, HB.out⟩
 have d1 : decide ((g.rows.length : Int) ≤ y) = false := decide_eq_false (by omega);by_cases h2 : 0 ≤ x;rotate_left
 ·have d2 : decide (x < 0) = true := decide_eq_true (by omega);go_enter Tryz.func206, Tryz.ntmps206;go_wp2_with fail;go_ret;exact ⟨rfl, HB.out⟩
 have d2 : decide (x < 0) = false := decide_eq_false (by omega);by_cases h3 : x < (g.cols : Int);rotate_left
 ·have d3 : decide ((g.cols : Int) ≤ x) = true := decide_eq_true (by omega);go_enter Tryz.func206, Tryz.ntmps206;go_wp2_with fail;go_ret;exact ⟨rfl, HB.out⟩
 have d3 : decide ((g.cols : Int) ≤ x) = false := decide_eq_false (by omega);have hok : okS s = false := by
  have := HN.out;rw [decide_eq_true h0, decide_eq_true h1, decide_eq_true h2, decide_eq_true h3] at this;simpa using this
 have HR := Lib.hid hs;clear hs;go_enter Tryz.func206, Tryz.ntmps206;go_wp2_with fail;refine (HR.out _ HB.out).mono ?_;rintro e w3 ⟨rfl, b3⟩;rw [hok];have HB3 := Lib.hid (HB.out.trans (b3.mono (by simp)));clear b3;go_wp2_with fail;go_ret;exact ⟨rfl, HB3.out⟩
set_option maxRecDepth 100000 in
theorem zhx {T : Nat → Nat} {p : Nat} {vr vo : Value} {Lr Lo : List (Value × Rw)} {w : World} {g : Gr} (h0 : GAt T p vr vo Lr Lo w g) (x y : Nat) (s : Sty) (hs : zaa w s) (hx : x < g.cols) (hy : y < Lr.length) (hok : okS s = true) :
  Calls Tryz.prog 206 #[.pointer (some ⟨p, 0, none⟩), .int .i64 x, .int .i64 y, s.val] w fun e w' => e = .returned Lr[y].1 ∧ Below w.heap.size w w' := by
 have hBz := Below.alloc (Below.refl w.heap.size w) (Nat.le_refl _) (.cells #[.int .i64 s.fg, .int .i64 s.bg, .int .i64 s.attr] 35);have HB := Lib.hid hBz;have H := Lib.hid (h0.mod (.of_below hBz) id id id (fun _ => id));have wf := h0.wf;have w1 := wf.r2;have w2 := wf.c2;have hlen := (Zf h0).1;clear h0 wf;obtain ⟨c0, c1, c2, c3⟩ := zX H.out;have hl := Za Tryz.underlying126 H.out.rr.own;have d0 : decide ((y : Int) < 0) = false := decide_eq_false (by omega);have d1 : decide ((Lr.length : Int) ≤ (y : Int)) = false := decide_eq_false (by omega);have d1' : decide (Lr.length ≤ y) = false := decide_eq_false (by omega);have d2 : decide ((x : Int) < 0) = false := decide_eq_false (by omega);have d3 : decide ((g.cols : Int) ≤ (x : Int)) = false := decide_eq_false (by omega);have d3' : decide (g.cols ≤ x) = false := decide_eq_false (by omega);clear hlen;have HR := Lib.hid hs;clear hs hBz;unfold Sty.val;go_enter Tryz.func206, Tryz.ntmps206;go_wp2_with fail;refine (HR.out _ HB.out).mono ?_;rintro e w3 ⟨rfl, b3⟩;rw [hok];have HB3 := Lib.hid (HB.out.trans (b3.mono (by simp)));have H3 := H.out.mod (.of_below b3) id id id (fun _ => id);clear b3 c0 c1 c2 c3;obtain ⟨c0, c1, c2, c3⟩ := zX H3;obtain ⟨b, off, c, rfl, _, _⟩ := zF H3.rr.own (by omega);obtain ⟨r0, r1⟩ := zbf H3.rr.own y hy;have hix := ZN (P := Tryz.prog) (size := 2) Tryz.underlying126 zH b off Lr.length c y hy;have hxs := zQ (H3.ca Lr[y] (List.mem_append_left _ (List.getElem_mem hy))).own;generalize hxv : Lr[y].1 = xv at *;obtain ⟨xa, xc, rfl⟩ := hxs;clear H3;go_wp2_with fail;exact zT rfl rfl rfl ⟨by rw [hxv]; rfl, HB3.out⟩
theorem GAt.turned {T : Nat → Nat} {p : Nat} {vr vo : Value} {Lr Lo : List (Value × Rw)} {w w' : World} {g : Gr} (h : GAt T p vr vo Lr Lo w g) (k : Nat) (hk : k < Lr.length) {b : Nat} (hb : Lr[k].1.ownBlock = some b)
  (m : Mod T (fun t => t = 10 + b) w w') (f : List Cel → List Cel) (ho : zn w' 0 5 Lr[k].1 (f Lr[k].2.cells).length (zp (f Lr[k].2.cells))) (hl : (f Lr[k].2.cells).length = g.cols) (hok : ∀ c ∈ f Lr[k].2.cells, c.Ok) :
  GM T p w' (g.turn k f) := by
 have hlen := (Zf h).1;have hr : g.rows.getD k noR = Lr[k].2 := by
  rw [← h.er, List.getD_eq_getElem?_getD, List.getElem?_map, List.getElem?_eq_getElem hk]; rfl
 have hkb : ∀ k', Lr[k].1.ownBlock = some k' → k' = b := fun k' e => (by rw [hb] at e; injection e with e; exact e.symm);have hcb : ∀ x ∈ Lr ++ Lo, x.1.ownBlock = some b → x ∈ Lr ++ Lo := fun x hx _ => hx;have hset : (Lr.set k (Lr[k].1, { Lr[k].2 with cells := f Lr[k].2.cells })).map (·.1.ownBlock) = Lr.map (·.1.ownBlock) := by
  rw [List.map_set];apply List.ext_getElem?;intro j;by_cases hj : j = k
  ·subst hj;rw [List.getElem?_set_self (by simpa using hk), List.getElem?_map, List.getElem?_eq_getElem hk]; rfl
  ·rw [List.getElem?_set_ne (fun e => hj e.symm)]
 have hrv : zf (Lr.set k (Lr[k].1, { Lr[k].2 with cells := f Lr[k].2.cells })) = zf Lr := by
  unfold zf;rw [List.flatMap_def, List.flatMap_def, List.map_set];congr 1;apply List.ext_getElem?;intro j;by_cases hj : j = k
  ·subst hj;rw [List.getElem?_set_self (by simpa using hk), List.getElem?_map, List.getElem?_eq_getElem hk]; rfl
  ·rw [List.getElem?_set_ne (fun e => hj e.symm)]
 refine ⟨vr, vo, Lr.set k (Lr[k].1, { Lr[k].2 with cells := f Lr[k].2.cells }), Lo, ⟨fun k' hk' => Nat.lt_of_lt_of_le (h.lt k' hk') m.size, ?_, h.tp, ?_, h.ro.mod m (by omega), ?_, h.eo, fun x hx => ?_, ?_, ?_⟩⟩
 ·exact (m.block p (zj h.blk) (by rw [h.tp]; omega)).trans h.blk
 ·rw [List.length_set, hrv];exact h.rr.mod m (by omega)
 ·rw [List.map_set, h.er];unfold Gr.turn;rw [hr]
 ·rcases List.mem_append.1 hx with hx | hx
  ·obtain ⟨j, hj⟩ := List.mem_iff_getElem?.1 hx;by_cases hjk : j = k
   ·subst hjk;rw [List.getElem?_set_self hk] at hj;injection hj with hj;subst hj;exact ⟨ho, (h.ca _ (List.mem_append_left _ (List.getElem_mem hk))).tag⟩
   ·rw [List.getElem?_set_ne (fun e => hjk e.symm)] at hj;have hjl : j < Lr.length := (List.getElem?_eq_some_iff.1 hj).1;have hje : Lr[j] = x := (List.getElem?_eq_some_iff.1 hj).2;have hxm : x ∈ Lr ++ Lo := List.mem_append_left _ (List.mem_of_getElem? hj);refine (h.ca x hxm).mod m (fun q hq e => ?_);have e' : q = b := (by omega);subst e';have hnd := h.nd;rw [List.map_append, List.nodup_append] at hnd;have hn1 := hnd.1;have hh := List.pairwise_iff_getElem.1 hn1;have g1 : ∀ i (hi : i < Lr.length), (Lr.map (·.1.ownBlock))[i]'(by simpa using hi) = Lr[i].1.ownBlock := fun i hi => (by rw [List.getElem_map]);rcases Nat.lt_trichotomy j k with hlt | heq | hgt
    ·refine hh j k (by simpa using hjl) (by simpa using hk) hlt ?_;rw [g1 j hjl, g1 k hk, hje, hq, hb]
    ·exact hjk heq
    ·refine hh k j (by simpa using hk) (by simpa using hjl) hgt ?_;rw [g1 j hjl, g1 k hk, hje, hq, hb]
  ·have hxm : x ∈ Lr ++ Lo := List.mem_append_right _ hx;refine (h.ca x hxm).mod m (fun q hq e => ?_);have e' : q = b := (by omega);subst e';have hnd := h.nd;rw [List.map_append, List.nodup_append] at hnd;exact hnd.2.2 _ (List.mem_map_of_mem (List.getElem_mem hk)) _ (List.mem_map_of_mem hx) (by rw [hb, hq])
 ·rw [List.map_append, hset, ← List.map_append]; exact h.nd
 ·have wf := h.wf;refine ⟨wf.c1, wf.c2, ?_, ?_, wf.li, wf.ol, fun r hr' => ?_⟩
  ·show 1 ≤ (g.rows.set k _).length;rw [List.length_set]; exact wf.r1
  ·show (g.rows.set k _).length ≤ 120;rw [List.length_set]; exact wf.r2
  ·have hr2 : r ∈ g.rows.set k { g.rows.getD k noR with cells := f (g.rows.getD k noR).cells } ++ g.old := hr';rcases List.mem_append.1 hr2 with hm | hm
   ·rcases List.mem_or_eq_of_mem_set hm with hm | rfl
    ·exact wf.ce r (List.mem_append_left _ hm)
    ·rw [hr];exact ⟨hl, hok⟩
   ·exact wf.ce r (List.mem_append_right _ hm)
end
section
open Go.RowKit
def Gr.putOk (g : Gr) (x y : Int) (c : Cel) : Bool := g.onIt x y c.sty && (decide (1 ≤ c.width) && (c.width == wid c.rune && decide (x + c.width ≤ (g.cols : Int))))
def Gr.put (g : Gr) (x y : Int) (c : Cel) : Gr := if g.putOk x y c = true then g.turn y.toNat (fun l => zeG l x.toNat c) else g
theorem zm5 (r : Int) : wid r ≤ 2 := by
 unfold wid
 repeat' split
 all_goals decide
theorem zbC {α : Type} {l m : List α} {i : Nat} {x : α} (h : x ∈ z8 l i m) : x ∈ l ∨ x ∈ m := by
 unfold z8 at h;rcases List.mem_append.1 h with h | h
 ·rcases List.mem_append.1 h with h | h
  ·exact .inl (List.mem_of_mem_take h)
  ·exact .inr h
 ·exact .inl (List.mem_of_mem_drop h)
theorem zdf (s : Sty) : (Zc s).Ok := ⟨by show (-2147483648 : Int) ≤ 32; decide, by show (32 : Int) ≤ 2147483647; decide⟩
theorem ziB {l : List Cel} {x n : Nat} {s : Sty} (h : ∀ c ∈ l, c.Ok) : ∀ c ∈ zaX l x n s, c.Ok := fun c hc => by
 rcases zbC hc with hc | hc
 ·exact h c hc
 ·rw [List.eq_of_mem_replicate hc]; exact zdf s
theorem zb5 {l : List Cel} {x : Int} (h : ∀ c ∈ l, c.Ok) : ∀ c ∈ zC l x, c.Ok := by
 unfold zC;split
 ·exact ziB h
 ·exact h
theorem zlA {α : Type} (l : List α) (x : Nat) (a b : α) (h : x + 2 ≤ l.length) : z8 (z8 l x [a]) (x + 1) [b] = z8 l x [a, b] := by
 apply List.ext_getElem?;intro j;rw [zbe _ _ _ (by rw [ZT _ _ _ (by simp; omega)]; simp; omega), zbe _ _ _ (by simp; omega), zbe _ _ _ (by simp; omega)];simp only [List.length_cons, List.length_nil];by_cases c1 : j < x
 ·rw [if_pos (by omega), if_pos c1, if_pos c1]
 rw [if_neg c1, if_neg c1];by_cases c2 : j < x + 1
 ·rw [if_pos c2, if_pos c2, if_pos (by omega), show j - x = 0 by omega]; rfl
 rw [if_neg c2];by_cases c3 : j < x + 1 + 1
 ·rw [if_pos c3, if_pos (by omega), show j - (x + 1) = 0 by omega, show j - x = 1 by omega]; rfl
 ·rw [if_neg c3, if_neg c2, if_neg (by omega)]
theorem zm6 {l : List Cel} {x : Nat} {c : Cel} (h : x + (if c.width = 2 then 2 else 1) ≤ l.length) : (zeG l x c).length = l.length := by
 unfold zeG;rw [ZT _ _ _ (by
  rw [zW, zW];split
  ·rename_i h2; rw [if_pos h2] at h; exact h
  ·rename_i h2; rw [if_neg h2] at h; exact h), zW, zW]
theorem zn4 {l : List Cel} {x : Nat} {c : Cel} (h : ∀ c ∈ l, c.Ok) (hc : c.Ok) : ∀ d ∈ zeG l x c, d.Ok := fun d hd => by
 unfold zeG at hd;rcases zbC hd with hd | hd
 ·exact zb5 (zb5 h) d hd
 ·split at hd
  ·rcases List.mem_cons.1 hd with rfl | hd
   ·exact hc
   ·rw [List.mem_singleton] at hd; subst hd; exact ⟨by show (-2147483648 : Int) ≤ 0; decide, by show (0 : Int) ≤ 2147483647; decide⟩
  ·rw [List.mem_singleton] at hd; subst hd; exact hc
set_option maxRecDepth 100000 in
set_option maxHeartbeats 8000000 in
theorem zkd {T : Nat → Nat} {p : Nat} {w : World} {g : Gr} (h : GM T p w g) (x y : Int) (c : Cel) (hs : zaa w c.sty) (hck : c.Ok) :
  Calls Tryz.prog 156 #[.pointer (some ⟨p, 0, none⟩), .int .i64 x, .int .i64 y, c.val] w fun e w' => e = .returned (.tuple #[]) ∧ ze (own T w) w w' ∧ GM T p w' (g.put x y c) := by
 obtain ⟨cr, cw, cs⟩ := c;dsimp only at hs;have hBz := Below.alloc (Below.refl w.heap.size w) (Nat.le_refl _) (.cells #[.int .i32 cr, .int .i64 cw, .int .i64 cs.fg, .int .i64 cs.bg, .int .i64 cs.attr] 133);have hbk0 := zE w (.cells #[.int .i32 cr, .int .i64 cw, .int .i64 cs.fg, .int .i64 cs.bg, .int .i64 cs.attr] 133);have HG0 := Lib.hid (h.below hBz);have HLT := Lib.hid h.lt;clear h;cases hon : g.onIt x y cs
 ·have HE := Lib.hid (show g.put x y ⟨cr, cw, cs⟩ = g by unfold Gr.put Gr.putOk; rw [hon]; rfl);have HON := Lib.hid (zkc HG0.out x y cs (hs.below hBz) hon);have hq := fun (wx : World) => Lib.run_eql_slice_nil (P := Tryz.prog) wx 68 133 none 0 0 0 0 Tryz.underlying68;unfold Sty.val at HON;unfold Cel.val;go_enter Tryz.func156, Tryz.ntmps156;go_wp2_with fail;refine HON.out.mono ?_;rintro e w2 ⟨rfl, b2⟩;have HG2 := Lib.hid (HG0.out.below b2);have HB2 := Lib.hid (hBz.trans (b2.mono (by simp)));clear b2 HON;go_wp2_with fail;go_quiet (fail);go_wp2_with fail;refine zcZ rfl rfl ⟨rfl, ze.of_below (zg HB2.out nq), ?_⟩;rw [HE.out];exact HG2.out.below (zg (Below.refl _ _) nq)
 ·have hon' := hon;unfold Gr.onIt at hon';simp only [Bool.and_eq_true, decide_eq_true_eq] at hon';obtain ⟨n1, n2, n3, n4, n5⟩ := hon';obtain ⟨xn, rfl⟩ : ∃ k : Nat, x = (k : Int) := ⟨x.toNat, by omega⟩;obtain ⟨yn, rfl⟩ : ∃ k : Nat, y = (k : Int) := ⟨y.toNat, by omega⟩;obtain ⟨vr, vo, Lr, Lo, hA⟩ := HG0.out;have hlen := (Zf hA).1;have hyl : yn < Lr.length := (by omega);have hcols := hA.wf.c2;have hrc : Lr[yn].2.cells.length = g.cols := (hA.wf.ce _ (List.mem_append_left _ (by rw [← hA.er]; exact List.mem_map_of_mem (List.getElem_mem hyl)))).1;have hrok : ∀ c ∈ Lr[yn].2.cells, c.Ok := (hA.wf.ce _ (List.mem_append_left _ (by rw [← hA.er]; exact List.mem_map_of_mem (List.getElem_mem hyl)))).2;have hgr : g.rows.getD yn noR = Lr[yn].2 := by
   rw [← hA.er, List.getD_eq_getElem?_getD, List.getElem?_map, List.getElem?_eq_getElem hyl]; rfl
  have HON := Lib.hid (zhx hA xn yn cs (hs.below hBz) (by omega) hyl n5);have hcx := hA.ca Lr[yn] (List.mem_append_left _ (List.getElem_mem hyl));have HC := Lib.hid hcx;obtain ⟨b, off, vc, hxv, hnc, hcm⟩ := zF hcx.own (by omega);rw [hrc] at hxv hnc;have HA := Lib.hid hA;clear hA hcx;rw [hxv] at HON;have hq := fun (wx : World) => Lib.run_eql_slice_nil (P := Tryz.prog) wx 68 133 (some ⟨b, off, none⟩) g.cols vc 0 0 Tryz.underlying68;unfold Sty.val at HON;unfold Cel.val;go_enter Tryz.func156, Tryz.ntmps156;go_wp2_with fail;refine HON.out.mono ?_;rintro e w2 ⟨rfl, b2⟩;have HG2 := Lib.hid (HG0.out.below b2);have HA2 := Lib.hid (HA.out.mod (.of_below b2) id id id (fun _ => id));have HB2 := Lib.hid (hBz.trans (b2.mono (by simp)));have hbk2 := zm hbk0 b2 (by simp);have c0 : w2.cell? ⟨w.heap.size, 0, none⟩ = some (.int .i32 cr) := za hbk2 0;have c1 : w2.cell? ⟨w.heap.size, 1, none⟩ = some (.int .i64 cw) := za hbk2 1;have c2 : w2.cell? ⟨w.heap.size, 2, none⟩ = some (.int .i64 cs.fg) := za hbk2 2;have c3 : w2.cell? ⟨w.heap.size, 3, none⟩ = some (.int .i64 cs.bg) := za hbk2 3;have c4 : w2.cell? ⟨w.heap.size, 4, none⟩ = some (.int .i64 cs.attr) := za hbk2 4;clear b2 HON hbk0;by_cases hw1 : 1 ≤ cw;rotate_left
  ·have d1 : decide (cw < 1) = true := decide_eq_true (by omega);have HE := Lib.hid (show g.put xn yn ⟨cr, cw, cs⟩ = g by unfold Gr.put Gr.putOk; rw [decide_eq_false hw1]; simp);go_wp2_with fail;go_quiet (fail);go_wp2_with fail;refine zcZ rfl rfl ⟨rfl, ze.of_below (zg HB2.out nq), ?_⟩;rw [HE.out];exact HG2.out.below (zg (Below.refl _ _) nq)
  have d1 : decide (cw < 1) = false := decide_eq_false (by omega);have hwl := zm5 cr;have hlt3 : w.heap.size < w2.heap.size := zj hbk2;have g0 := (zX HA2.out).1;have hbw := Below.refl w2.heap.size w2;have HA3 := Lib.hid (HA2.out.mod (.of_below (Below.refl _ _).drew) id id id (fun _ => id));have HB3 := Lib.hid HB2.out.drew;by_cases hw2 : cw = wid cr;rotate_left
  ·have d2 : (cw != wid cr) = true := (by simp [bne, beq_eq_false_iff_ne.2 hw2]);have HE := Lib.hid (show g.put xn yn ⟨cr, cw, cs⟩ = g by unfold Gr.put Gr.putOk; rw [beq_eq_false_iff_ne.2 hw2]; simp);go_upto_region 2 with fail;refine wp_region_held_drew (S := (fun w' => w'.cell? ⟨w.heap.size, 0, none⟩ = some (.int .i32 cr) ∧ w'.cell? ⟨w.heap.size, 1, none⟩ = some (.int .i64 cw) ∧ w'.cell? ⟨p, 0, none⟩ = some (.int .i64 g.cols))) (by kernel_rfl) ⟨c0, c1, g0⟩ (fun hHeld => ?_);refine wpAnyH_take (i := 0) (oi := ?o201) (v := ?v0) ?h201 (by kernel_rfl) (by kernel_rfl) (by kernel_rfl) ?q201 (Or.inl ⟨?w201, ?y0⟩) hHeld ?r0
   case h201 => (simp only [List.getElem?_toArray, List.getElem?_cons_zero]; rfl)
   case q201 => exact fun _ _ _ h => h
   case w201 => rfl
   case y0 =>
    intro wS hSw;(try dsimp only at hSw)
    go_simp
    (try (with_reducible rfl))
   try simp only [Act.put, List.setIfInBounds_toArray, List.set_cons_zero, List.set_cons_succ]
   refine wpAnyH_take (i := 1) (oi := ?o202) (v := ?v1) ?h202 (by kernel_rfl) (by kernel_rfl) (by kernel_rfl) ?q202 (Or.inl ⟨?w202, ?y1⟩) hHeld ?r1
   case h202 => (simp only [List.getElem?_toArray, List.getElem?_cons_succ, List.getElem?_cons_zero]; rfl)
   case q202 => exact fun _ _ _ h => h
   case w202 => rfl
   case y1 =>
    intro wS hSw;(try dsimp only at hSw)
    go_simp
    (try (with_reducible rfl))
   try simp only [Act.put, List.setIfInBounds_toArray, List.set_cons_zero, List.set_cons_succ]
   refine wpAnyH_take (i := 2) (oi := ?o203) (v := ?v2) ?h203 (by kernel_rfl) (by kernel_rfl) (by kernel_rfl) ?q203 (Or.inl ⟨?w203, ?y2⟩) hHeld ?r2
   case h203 => (simp only [List.getElem?_toArray, List.getElem?_cons_succ, List.getElem?_cons_zero]; rfl)
   case q203 => exact fun _ _ _ h => h
   case w203 => rfl
   case y2 =>
    intro wS hSw;(try dsimp only at hSw)
    go_simp
    (try (with_reducible rfl))
   try simp only [Act.put, List.setIfInBounds_toArray, List.set_cons_zero, List.set_cons_succ]
   refine wpAnyH_take (i := 3) (oi := ?o204) (v := ?v3) ?h204 (by kernel_rfl) (by kernel_rfl) (by kernel_rfl) ?q204 (Or.inl ⟨?w204, ?y3⟩) hHeld ?r3
   case h204 => (simp only [List.getElem?_toArray, List.getElem?_cons_succ, List.getElem?_cons_zero]; rfl)
   case q204 => exact fun _ _ _ h => h
   case w204 => rfl
   case y3 =>
    intro wS hSw;(try dsimp only at hSw)
    go_simp
    (try (with_reducible rfl))
   try simp only [Act.put, List.setIfInBounds_toArray, List.set_cons_zero, List.set_cons_succ]
   refine wpAnyH_take (i := 4) (oi := ?o205) (v := ?v4) ?h205 (by kernel_rfl) (by kernel_rfl) (by kernel_rfl) ?q205 (Or.inl ⟨?w205, ?y4⟩) hHeld ?r4
   case h205 => (simp only [List.getElem?_toArray, List.getElem?_cons_succ, List.getElem?_cons_zero]; rfl)
   case q205 => exact fun _ _ _ h => h
   case w205 => rfl
   case y4 =>
    intro wS hSw;(try dsimp only at hSw)
    go_simp
    (try (with_reducible rfl))
   try simp only [Act.put, List.setIfInBounds_toArray, List.set_cons_zero, List.set_cons_succ]
   refine wpAnyH_take (i := 5) (oi := ?o206) (v := ?v5) ?h206 (by kernel_rfl) (by kernel_rfl) (by kernel_rfl) ?q206 (Or.inl ⟨?w206, ?y5⟩) hHeld ?r5
   case h206 => (simp only [List.getElem?_toArray, List.getElem?_cons_succ, List.getElem?_cons_zero]; rfl)
   case q206 => exact fun _ _ _ h => h
   case w206 => rfl
   case y5 =>
    intro wS hSw;(try dsimp only at hSw)
    go_simp
    (try (with_reducible rfl))
   try simp only [Act.put, List.setIfInBounds_toArray, List.set_cons_zero, List.set_cons_succ]
   refine wpAnyH_take (i := 6) (oi := ?o207) (v := ?v6) ?h207 (by kernel_rfl) (by kernel_rfl) (by kernel_rfl) ?q207 (Or.inl ⟨?w207, ?y6⟩) hHeld ?r6
   case h207 => (simp only [List.getElem?_toArray, List.getElem?_cons_succ, List.getElem?_cons_zero]; rfl)
   case q207 => exact fun _ _ _ h => h
   case w207 => rfl
   case y6 =>
    intro wS hSw;(try dsimp only at hSw)
    go_simp
    (try (with_reducible rfl))
   try simp only [Act.put, List.setIfInBounds_toArray, List.set_cons_zero, List.set_cons_succ]
   refine wpAnyH_take (i := 7) (oi := ?o208) (v := ?v7) ?h208 (by kernel_rfl) (by kernel_rfl) (by kernel_rfl) ?q208 (Or.inl ⟨?w208, ?y7⟩) hHeld ?r7
   case h208 => (simp only [List.getElem?_toArray, List.getElem?_cons_succ, List.getElem?_cons_zero]; rfl)
   case q208 => exact fun _ _ _ h => h
   case w208 => rfl
   case y7 =>
    intro wS hSw;(try dsimp only at hSw)
    go_simp
    (try (with_reducible rfl))
   try simp only [Act.put, List.setIfInBounds_toArray, List.set_cons_zero, List.set_cons_succ]
   refine wpAnyH_take (i := 8) (oi := ?o209) (v := ?v8) ?h209 (by kernel_rfl) (by kernel_rfl) (by kernel_rfl) ?q209 (Or.inl ⟨?w209, ?y8⟩) hHeld ?r8
   case h209 => (simp only [List.getElem?_toArray, List.getElem?_cons_succ, List.getElem?_cons_zero]; rfl)
   case q209 => exact fun _ _ _ h => h
   case w209 => rfl
   case y8 =>
    intro wS hSw;(try dsimp only at hSw)
    go_simp
    (try (with_reducible rfl))
   try simp only [Act.put, List.setIfInBounds_toArray, List.set_cons_zero, List.set_cons_succ]
   refine wpAnyH_take (i := 9) (oi := ?o210) (v := ?v9) ?h210 (by kernel_rfl) (by kernel_rfl) (by kernel_rfl) ?q210 (Or.inl ⟨?w210, ?y9⟩) hHeld ?r9
   case h210 => (simp only [List.getElem?_toArray, List.getElem?_cons_succ, List.getElem?_cons_zero]; rfl)
   case q210 => exact fun _ _ _ h => h
   case w210 => rfl
   case y9 =>
    intro wS hSw;(try dsimp only at hSw)
    go_simp
    (try (with_reducible rfl))
   try simp only [Act.put, List.setIfInBounds_toArray, List.set_cons_zero, List.set_cons_succ]
   refine wpAnyH_take (i := 10) (oi := ?o211) (v := ?v10) ?h211 (by kernel_rfl) (by kernel_rfl) (by kernel_rfl) ?q211 (Or.inl ⟨?w211, ?y10⟩) hHeld ?r10
   case h211 => (simp only [List.getElem?_toArray, List.getElem?_cons_succ, List.getElem?_cons_zero]; rfl)
   case q211 => exact fun _ _ _ h => h
   case w211 => rfl
   case y10 =>
    intro wS hSw;(try dsimp only at hSw)
    go_simp
    (try (with_reducible rfl))
   try simp only [Act.put, List.setIfInBounds_toArray, List.set_cons_zero, List.set_cons_succ]
   refine wpAnyH_take (i := 11) (oi := ?o212) (v := ?v11) ?h212 (by kernel_rfl) (by kernel_rfl) (by kernel_rfl) ?q212 (Or.inl ⟨?w212, ?y11⟩) hHeld ?r11
   case h212 => (simp only [List.getElem?_toArray, List.getElem?_cons_succ, List.getElem?_cons_zero]; rfl)
   case q212 => exact fun _ _ _ h => h
   case w212 => rfl
   case y11 =>
    intro wS hSw;(try dsimp only at hSw)
    go_simp
    (try (with_reducible rfl))
   try simp only [Act.put, List.setIfInBounds_toArray, List.set_cons_zero, List.set_cons_succ]
   refine wpAnyH_ready (rs := [12]) (by kernel_rfl) (by simp) ?_;refine AllReadyH.cons (o := ?o213) ?h213 ?k213 AllReadyH.nil
   case h213 => (simp only [List.getElem?_toArray, List.getElem?_cons_succ, List.getElem?_cons_zero]; rfl)
   intro K hK;rw [if_pos (by rfl)];go_wp2_with fail;refine (zcv cr _).mono ?_;rintro e w4 ⟨rfl, b4⟩;have HA4 := Lib.hid (HA3.out.mod (.of_below b4) id id id (fun _ => id));have HB4 := Lib.hid (HB3.out.trans (b4.mono HB3.out.size));have hbk4 := zm (Zo hbk2) b4 hlt3;refine hK.out _ _ ⟨za hbk4 0, za hbk4 1, (zX HA4.out).1⟩ (fun hHeld2 => ?_);clear hK K hHeld hbk4 b4
   try simp only [Act.put, List.setIfInBounds_toArray, List.set_cons_zero, List.set_cons_succ]
   refine wpAnyH_take (i := 13) (oi := ?o214) (v := ?v13) ?h214 (by kernel_rfl) (by kernel_rfl) (by kernel_rfl) ?q214 (Or.inl ⟨?w214, ?y13⟩) hHeld2 ?r13
   case h214 => (simp only [List.getElem?_toArray, List.getElem?_cons_succ, List.getElem?_cons_zero]; rfl)
   case q214 => exact fun _ _ _ h => h
   case w214 => rfl
   case y13 =>
    intro wS hSw;(try dsimp only at hSw)
    go_simp
    (try (with_reducible rfl))
   try simp only [Act.put, List.setIfInBounds_toArray, List.set_cons_zero, List.set_cons_succ]
   refine wpAnyH_take (i := 14) (oi := ?o215) (v := ?v14) ?h215 (by kernel_rfl) (by kernel_rfl) (by kernel_rfl) ?q215 (Or.inl ⟨?w215, ?y14⟩) hHeld2 ?r14
   case h215 => (simp only [List.getElem?_toArray, List.getElem?_cons_succ, List.getElem?_cons_zero]; rfl)
   case q215 => exact fun _ _ _ h => h
   case w215 => rfl
   case y14 =>
    intro wS hSw;(try dsimp only at hSw)
    go_simp
    (try (with_reducible rfl))
   try simp only [Act.put, List.setIfInBounds_toArray, List.set_cons_zero, List.set_cons_succ]
   refine wpAnyH_take (i := 15) (oi := ?o216) (v := ?v15) ?h216 (by kernel_rfl) (by kernel_rfl) (by kernel_rfl) ?q216 (Or.inl ⟨?w216, ?y15⟩) hHeld2 ?r15
   case h216 => (simp only [List.getElem?_toArray, List.getElem?_cons_succ, List.getElem?_cons_zero]; rfl)
   case q216 => exact fun _ _ _ h => h
   case w216 => rfl
   case y15 =>
    intro wS hSw;(try dsimp only at hSw)
    go_simp
    (try (with_reducible rfl))
   try simp only [Act.put, List.setIfInBounds_toArray, List.set_cons_zero, List.set_cons_succ]
   refine wpAnyH_take (i := 16) (oi := ?o217) (v := undef) ?h217 (by kernel_rfl) (by kernel_rfl) (by kernel_rfl) ?q217 (Or.inr ⟨?w217, rfl⟩) hHeld2 ?s217
   case h217 => (simp only [List.getElem?_toArray, List.getElem?_cons_succ, List.getElem?_cons_zero]; rfl)
   case q217 => exact fun _ _ _ h => h
   case w217 => rfl
   try simp only [Act.put, List.setIfInBounds_toArray, List.set_cons_zero, List.set_cons_succ]
   refine wpAnyH_take (i := 17) (oi := ?o218) (v := undef) ?h218 (by kernel_rfl) (by kernel_rfl) (by kernel_rfl) ?q218 (Or.inr ⟨?w218, rfl⟩) hHeld2 ?s218
   case h218 => (simp only [List.getElem?_toArray, List.getElem?_cons_succ, List.getElem?_cons_zero]; rfl)
   case q218 => exact fun _ _ _ h => h
   case w218 => rfl
   try simp only [Act.put, List.setIfInBounds_toArray, List.set_cons_zero, List.set_cons_succ]
   refine wpAnyH_take (i := 18) (oi := ?o219) (v := undef) ?h219 (by kernel_rfl) (by kernel_rfl) (by kernel_rfl) ?q219 (Or.inr ⟨?w219, rfl⟩) hHeld2 ?s219
   case h219 => (simp only [List.getElem?_toArray, List.getElem?_cons_succ, List.getElem?_cons_zero]; rfl)
   case q219 => exact fun _ _ _ h => h
   case w219 => rfl
   try simp only [Act.put, List.setIfInBounds_toArray, List.set_cons_zero, List.set_cons_succ]
   refine wpAnyH_take (i := 19) (oi := ?o220) (v := undef) ?h220 (by kernel_rfl) (by kernel_rfl) (by kernel_rfl) ?q220 (Or.inr ⟨?w220, rfl⟩) hHeld2 ?s220
   case h220 => (simp only [List.getElem?_toArray, List.getElem?_cons_succ, List.getElem?_cons_zero]; rfl)
   case q220 => exact fun _ _ _ h => h
   case w220 => rfl
   try simp only [Act.put, List.setIfInBounds_toArray, List.set_cons_zero, List.set_cons_succ]
   refine wpAnyH_take (i := 20) (oi := ?o221) (v := undef) ?h221 (by kernel_rfl) (by kernel_rfl) (by kernel_rfl) ?q221 (Or.inr ⟨?w221, rfl⟩) hHeld2 ?s221
   case h221 => (simp only [List.getElem?_toArray, List.getElem?_cons_succ, List.getElem?_cons_zero]; rfl)
   case q221 => exact fun _ _ _ h => h
   case w221 => rfl
   try simp only [Act.put, List.setIfInBounds_toArray, List.set_cons_zero, List.set_cons_succ]
   refine wpAnyH_take (i := 21) (oi := ?o222) (v := undef) ?h222 (by kernel_rfl) (by kernel_rfl) (by kernel_rfl) ?q222 (Or.inr ⟨?w222, rfl⟩) hHeld2 ?s222
   case h222 => (simp only [List.getElem?_toArray, List.getElem?_cons_succ, List.getElem?_cons_zero]; rfl)
   case q222 => exact fun _ _ _ h => h
   case w222 => rfl
   try simp only [Act.put, List.setIfInBounds_toArray, List.set_cons_zero, List.set_cons_succ]
   refine wpAnyH_take (i := 22) (oi := ?o223) (v := undef) ?h223 (by kernel_rfl) (by kernel_rfl) (by kernel_rfl) ?q223 (Or.inr ⟨?w223, rfl⟩) hHeld2 ?s223
   case h223 => (simp only [List.getElem?_toArray, List.getElem?_cons_succ, List.getElem?_cons_zero]; rfl)
   case q223 => exact fun _ _ _ h => h
   case w223 => rfl
   try simp only [Act.put, List.setIfInBounds_toArray, List.set_cons_zero, List.set_cons_succ]
   refine wpAnyH_take (i := 23) (oi := ?o224) (v := undef) ?h224 (by kernel_rfl) (by kernel_rfl) (by kernel_rfl) ?q224 (Or.inr ⟨?w224, rfl⟩) hHeld2 ?s224
   case h224 => (simp only [List.getElem?_toArray, List.getElem?_cons_succ, List.getElem?_cons_zero]; rfl)
   case q224 => exact fun _ _ _ h => h
   case w224 => rfl
   try simp only [Act.put, List.setIfInBounds_toArray, List.set_cons_zero, List.set_cons_succ]
   refine wpAnyH_take (i := 24) (oi := ?o225) (v := undef) ?h225 (by kernel_rfl) (by kernel_rfl) (by kernel_rfl) ?q225 (Or.inr ⟨?w225, rfl⟩) hHeld2 ?s225
   case h225 => (simp only [List.getElem?_toArray, List.getElem?_cons_succ, List.getElem?_cons_zero]; rfl)
   case q225 => exact fun _ _ _ h => h
   case w225 => rfl
   try simp only [Act.put, List.setIfInBounds_toArray, List.set_cons_zero, List.set_cons_succ]
   refine wpAnyH_take (i := 25) (oi := ?o226) (v := ?v25) ?h226 (by kernel_rfl) (by kernel_rfl) (by kernel_rfl) ?q226 (Or.inl ⟨?w226, ?y25⟩) hHeld2 ?r25
   case h226 => (simp only [List.getElem?_toArray, List.getElem?_cons_succ, List.getElem?_cons_zero]; rfl)
   case q226 => exact fun _ _ _ h => h
   case w226 => rfl
   case y25 =>
    intro wS hSw;(try dsimp only at hSw)
    go_simp
    (try (with_reducible rfl))
   try simp only [Act.put, List.setIfInBounds_toArray, List.set_cons_zero, List.set_cons_succ]
   refine wpAnyH_done (by kernel_rfl) ?_ _;go_wp2_with fail;refine zcZ rfl rfl ⟨rfl, ze.of_below HB4.out, ?_⟩;rw [HE.out];exact ⟨_, _, _, _, HA4.out⟩
  have d2 : (cw != wid cr) = false := (by simp [bne, hw2]);have hcw2 : cw ≤ 2 := (by omega);have HW2 := Lib.hid hw2;clear hw2 hwl;have hwrap : IntKind.i64.wrap ((xn : Int) + cw) = (xn : Int) + cw := zb _ (by omega) (by omega);by_cases hw3 : (xn : Int) + cw ≤ (g.cols : Int);rotate_left
  ·have d3 : decide ((g.cols : Int) < (xn : Int) + cw) = true := decide_eq_true (by omega);have HE := Lib.hid (show g.put xn yn ⟨cr, cw, cs⟩ = g by unfold Gr.put Gr.putOk; rw [decide_eq_false hw3]; simp);go_upto_region 2 with fail
   go_region_held3 (fun w' => w'.cell? ⟨w.heap.size, 0, none⟩ = some (.int .i32 cr) ∧ w'.cell? ⟨w.heap.size, 1, none⟩ = some (.int .i64 cw) ∧ w'.cell? ⟨p, 0, none⟩ = some (.int .i64 g.cols)) (go_keep)
    (first | (go_at_call 77; refine (zcv cr _).mono ?_; rintro e w4 ⟨rfl, b4⟩; have HA4 := Lib.hid (HA3.out.mod (.of_below b4) id id id (fun _ => id)); have HB4 := Lib.hid (HB3.out.trans (b4.mono HB3.out.size)); have hbk4 := zm (Zo hbk2) b4 hlt3; have z0 : w4.cell? ⟨w.heap.size, 0, none⟩ = some (.int .i32 cr) := za hbk4 0; have z1 : w4.cell? ⟨w.heap.size, 1, none⟩ = some (.int .i64 cw) := za hbk4 1; have z2 := (zX HA4.out).1; have hHB4 := Lib.hid hbk4; clear b4 hbk4))
   go_wp2_with fail;refine zcZ rfl rfl ⟨rfl, ze.of_below HB4.out, ?_⟩;rw [HE.out];exact ⟨_, _, _, _, HA4.out⟩
  have d3 : decide ((g.cols : Int) < (xn : Int) + cw) = false := decide_eq_false (by omega);have HE := Lib.hid (show g.put xn yn ⟨cr, cw, cs⟩ = g.turn yn (fun l => zeG l xn ⟨cr, cw, cs⟩) by
   unfold Gr.put Gr.putOk;rw [hon, decide_eq_true hw1, decide_eq_true hw3, beq_iff_eq.2 HW2.out, Int.toNat_natCast, Int.toNat_natCast]; rfl)
  go_upto_region 2 with fail
  go_region_held3 (fun w' => w'.cell? ⟨w.heap.size, 0, none⟩ = some (.int .i32 cr) ∧ w'.cell? ⟨w.heap.size, 1, none⟩ = some (.int .i64 cw) ∧ w'.cell? ⟨p, 0, none⟩ = some (.int .i64 g.cols)) (go_keep)
   (first | (go_at_call 77; refine (zcv cr _).mono ?_; rintro e w4 ⟨rfl, b4⟩; have HA4 := Lib.hid (HA3.out.mod (.of_below b4) id id id (fun _ => id)); have HB4 := Lib.hid (HB3.out.trans (b4.mono HB3.out.size)); have hbk4 := zm (Zo hbk2) b4 hlt3; have z0 : w4.cell? ⟨w.heap.size, 0, none⟩ = some (.int .i32 cr) := za hbk4 0; have z1 : w4.cell? ⟨w.heap.size, 1, none⟩ = some (.int .i64 cw) := za hbk4 1; have z2 := (zX HA4.out).1; have hHB4 := Lib.hid hbk4; clear b4 hbk4))
  go_wp2_with fail;have hbt : T b = 10 + b := by
   obtain ⟨q, e1, e2⟩ := HC.out.tag;rw [hxv] at e1;simp only [Value.ownBlock] at e1;injection e1 with e1;subst e1; exact e2
  have hbl : b < w.heap.size := HLT.out b (by omega);have O4 := (HA4.out.ca Lr[yn] (List.mem_append_left _ (List.getElem_mem hyl))).own;rw [hxv, hrc] at O4;generalize hlx : Lr[yn].2.cells = lx at *;have hgc : g.cols ≤ 1000000 := (by omega);refine (zb3 lx xn b off g.cols vc w4 O4 hrc hgc (by omega)).mono ?_;rintro e w5 ⟨rfl, g5, o5⟩;have hbk4 := hHB4.out;have hbk5 := zo hbk4 g5 (by intro e; injection e with e; omega);have e0 : w5.cell? ⟨w.heap.size, 0, none⟩ = some (.int .i32 cr) := za hbk5 0;have e1 : w5.cell? ⟨w.heap.size, 1, none⟩ = some (.int .i64 cw) := za hbk5 1;have HO5 := Lib.hid o5;have HK5 := Lib.hid hbk5;have HG5 := Lib.hid g5;clear o5 hbk5 g5 O4 z0 z1 z2 hbk4 hHB4 c0 c1 c2 c3 c4 g0 hbk2;go_wp2_with fail;refine (zb3 (zC lx xn) ((xn : Int) + cw) b off g.cols vc w5 HO5.out (by rw [zW]; exact hrc) hgc (by omega)).mono ?_;rintro e w6 ⟨rfl, g6, o6⟩;have hbk6 := zo HK5.out g6 (by intro e; injection e with e; omega);have HG6 := Lib.hid (Zs HG5.out g6);have HK6 := Lib.hid hbk6;have f0 : w6.cell? ⟨w.heap.size, 0, none⟩ = some (.int .i32 cr) := za hbk6 0;have f1 : w6.cell? ⟨w.heap.size, 1, none⟩ = some (.int .i64 cw) := za hbk6 1;have f2 : w6.cell? ⟨w.heap.size, 2, none⟩ = some (.int .i64 cs.fg) := za hbk6 2;have f3 : w6.cell? ⟨w.heap.size, 3, none⟩ = some (.int .i64 cs.bg) := za hbk6 3;have f4 : w6.cell? ⟨w.heap.size, 4, none⟩ = some (.int .i64 cs.attr) := za hbk6 4;have hlen2 : (zC (zC lx xn) ((xn : Int) + cw)).length = g.cols := (by rw [zW, zW]; exact hrc);have hix := ZN (P := Tryz.prog) (size := 5) Tryz.underlying68 zI b off g.cols vc xn (by omega);have hst := zeM (P := Tryz.prog) zI o6 xn (by omega) #[.int .i32 cr, .int .i64 cw, .int .i64 cs.fg, .int .i64 cs.bg, .int .i64 cs.attr] rfl (zdU ⟨cr, cw, cs⟩);have HP := zbo o6 (xn * 5) (zp [(⟨cr, cw, cs⟩ : Cel)]) (by rw [zbc]; simp; omega);rw [← zcq] at HP;have g7 := zP w6 b (off + xn * 5) (zp [(⟨cr, cw, cs⟩ : Cel)]);replace hst : (storeVar 133 ⟨b, off + xn * 5, none⟩ (.agg #[.int .i32 cr, .int .i64 cw, .int .i64 cs.fg, .int .i64 cs.bg, .int .i64 cs.attr])).run Tryz.prog w6 = .ok () (w6.setCells b (off + xn * 5) (zp [(⟨cr, cw, cs⟩ : Cel)])) := hst;have HG7 := Lib.hid (Zs HG6.out g7);have hbk7 := zo HK6.out g7 (by intro e; injection e with e; omega);have HO7 := Lib.hid HP;clear HP g7 o6 g6 e0 e1;generalize w6.setCells b (off + xn * 5) (zp [(⟨cr, cw, cs⟩ : Cel)]) = w7 at *;have i1 : w7.cell? ⟨w.heap.size, 1, none⟩ = some (.int .i64 cw) := za hbk7 1;have i2 : w7.cell? ⟨w.heap.size, 2, none⟩ = some (.int .i64 cs.fg) := za hbk7 2;have i3 : w7.cell? ⟨w.heap.size, 3, none⟩ = some (.int .i64 cs.bg) := za hbk7 3;have i4 : w7.cell? ⟨w.heap.size, 4, none⟩ = some (.int .i64 cs.attr) := za hbk7 4;have HWI := Lib.hid (show ∀ w', w4.grownBy w' (some b) → ze (own T w) w w' from fun w' g' => (ze.of_below HB4.out).trans (ze.of_gb g' (fun k hk => .inl (by injection hk with hk; subst hk; omega))));have HFIN := Lib.hid (show ∀ w', w4.grownBy w' (some b) → zn w' 0 5 (.slice (some ⟨b, off, none⟩) g.cols vc) g.cols (zp (zeG lx xn ⟨cr, cw, cs⟩)) → GM T p w' (g.turn yn (fun l => zeG l xn ⟨cr, cw, cs⟩)) from fun w' g' o' => by
   have hll : (zeG lx xn ⟨cr, cw, cs⟩).length = g.cols := by
    rw [zm6 (by
     show xn + (if cw = 2 then 2 else 1) ≤ lx.length;split <;> omega)]
    exact hrc
   refine HA4.out.turned yn hyl (b := b) (by rw [hxv]; rfl) (Mod.of_gb g' (fun k hk => by injection hk with hk; subst hk; exact hbt)) _ ?_ ?_ ?_
   ·rw [hlx, hll, hxv]; exact o'
   ·rw [hlx]; exact hll
   ·rw [hlx]; exact zn4 hrok hck)
  by_cases h2 : cw = 2
  ·have d5 : (cw == 2) = true := beq_iff_eq.2 h2;have H2 := Lib.hid h2;have hxn2 : xn + 2 ≤ g.cols := (by omega);clear h2;have hwrap2 : IntKind.i64.wrap ((xn : Int) + 1) = (xn : Int) + 1 := zb _ (by omega) (by omega);have hix2 := ZN (P := Tryz.prog) (size := 5) Tryz.underlying68 zI b off g.cols vc (xn + 1) (by omega);rw [show ((xn + 1 : Nat) : Int) = (xn : Int) + 1 by omega] at hix2;have hst2 := zeM (P := Tryz.prog) zI HO7.out (xn + 1) (by omega) #[.int .i32 0, .int .i64 0, .int .i64 cs.fg, .int .i64 cs.bg, .int .i64 cs.attr] rfl (zdU ⟨0, 0, cs⟩);have HP := zbo HO7.out ((xn + 1) * 5) (zp [(⟨0, 0, cs⟩ : Cel)]) (by rw [zbc]; simp; omega);rw [← zcq, zlA _ _ _ _ (by omega)] at HP;have g8 := zP w7 b (off + (xn + 1) * 5) (zp [(⟨0, 0, cs⟩ : Cel)]);replace hst2 : (storeVar 133 ⟨b, off + (xn + 1) * 5, none⟩ (.agg #[.int .i32 0, .int .i64 0, .int .i64 cs.fg, .int .i64 cs.bg, .int .i64 cs.attr])).run Tryz.prog w7 = .ok () (w7.setCells b (off + (xn + 1) * 5) (zp [(⟨0, 0, cs⟩ : Cel)])) := hst2;have HG8 := Lib.hid (Zs HG7.out g8);have HO8 := Lib.hid HP;clear HP g8;generalize w7.setCells b (off + (xn + 1) * 5) (zp [(⟨0, 0, cs⟩ : Cel)]) = w8 at *;go_wp2_with (first | refine zJ rfl _ _ _ rfl hst rfl rfl ?_ | refine zJ rfl _ _ _ rfl hst2 rfl rfl ?_);go_end0;refine ⟨rfl, HWI.out _ HG8.out, ?_⟩;rw [HE.out];refine HFIN.out _ HG8.out ?_;unfold zeG;rw [if_pos H2.out];exact HO8.out
  ·have d5 : (cw == 2) = false := beq_eq_false_iff_ne.2 h2;go_wp2_with (refine zJ rfl _ _ _ rfl hst rfl rfl ?_);go_end0;refine ⟨rfl, HWI.out _ HG7.out, ?_⟩;rw [HE.out];refine HFIN.out _ HG7.out ?_;unfold zeG;rw [if_neg h2];exact HO7.out
end
section
open Go.RowKit
set_option maxRecDepth 100000
def PSt.fed (s : PSt) (b : UInt8) : PSt × List VAct := ({ s with dec := (Zg s.dec (b.toNat : Int)).1 }, (Zg s.dec (b.toNat : Int)).2.map za7)
def PSt.took (s : PSt) (b : UInt8) : PSt × List VAct :=
 if s.state = 1 then s.esced b
 else if s.state = 2 ∨ s.state = 5 then s.seqd b
 else if s.state = 3 then (if 64 ≤ (b.toNat : Int) ∨ (48 ≤ (b.toNat : Int) ∧ s.frm = 1) then (s.begun (if s.frm = 5 then 7 else 0), []) else (s, []))
 else if s.state = 4 ∨ s.state = 6 then (if s.text.length < 1024 then ({ s with text := s.text ++ [b] }, []) else (s, []))
 else if s.state = 7 then (s, [])
 else s.fed b
theorem zhy {G : Nat → Prop} {w : World} (hg : ∀ k, w.heap.size ≤ k → G k) (o : Obj) : ze G w (w.alloc o) := by
 have _ := hg;exact ⟨rfl, rfl, rfl, by simp, fun k hk _ => heap_alloc_old w o hk⟩
theorem zam.alloc {G : Nat → Prop} {u : Bool} {T : Nat → Nat} {p o : Nat} {w : World} {s : PSt} {acts : List VAct} (h : zam G u T p o w s acts) (ob : Obj) : zam G u T p o (w.alloc ob) s acts := by
 obtain ⟨d, vi, vp, vt, vo, L, hL, hA, hC, hT⟩ := h;have m : Mod T (fun _ => False) w (w.alloc ob) := Mod.of_gb (World.grownBy_alloc w ob none) (by intro k hk; simp at hk);exact ⟨d, vi, vp, vt, vo, L, hL, hA.mono m.size, hC.mod m id id id id id, hT.mod m id id id⟩
theorem Zi {P : Program} {a : Act} {w : World} {Q : Exit → Act → World → Prop} {c rest : Code} (l : Nat) (hf : findLabel c l = some rest)
  (first : c.wp P (Exit.jump l (fun a w => rest.wp P (Exit.noGoto Q) a w) Q) a w) : (Code.scope c).wp P Q a w := by
 refine wp_scope_jumps l (fun a w => rest.wp P (Exit.noGoto Q) a w) (fun _ _ => 0) hf first fun a w h => ?_
 intro b k cs;obtain ⟨e, a', w', hq, harr⟩ := h b k cs;refine ⟨e, a', w', ?_, harr⟩;cases e <;> first | exact hq | exact hq.elim
structure PSt.Fine (s : PSt) : Prop where
 il : s.inter.length ≤ 3
 pne : s.any = true → s.params ≠ []
 pl : s.params.length ≤ 33
 pr : ∀ x ∈ s.params, -1 ≤ x ∧ x ≤ 9999
 tl : s.text.length ≤ 1024
 st : 0 ≤ s.state ∧ s.state ≤ 7
 e1 : s.state = 1 → s.inter.length ≤ 2
theorem zfk {G : Nat → Prop} {u : Bool} {T : Nat → Nat} {p o d : Nat} {vi vp vt vo v : Value} {w w' : World} {s : PSt} {L : List (VAct × Value)} {D : Dec} {l : List Int} (hA : zaY G T w) (hC : zbU u T p d (zaF o) vi vp vt w s) (hT : zc1 G T o vo w L)
  (g : w.grownBy w' (some d)) (hd : zbX w' d D) (hok : D.ok) (hv : w'.ownsRow w.heap.size 21 1 v l.length (l.map (Value.int .i32))) :
  ze G w w' ∧ zam G u T p o w' { s with dec := D } (L.map (·.1)) ∧ Row T 0 1 v l.length (l.map (Value.int .i32)) w' := by
 have m : Mod T (fun x => x = 2) w w' := Mod.of_gb g (fun k hk => by injection hk with hk; subst hk; exact hC.td);refine ⟨m.within hA (by decide), ⟨d, vi, vp, vt, vo, L, rfl, hA.mono g.size, ?_, hT.mod m (by decide) (by decide) (by decide)⟩, zac (zhN hv (Nat.zero_le _)), fun k hk => ?_⟩
 ·exact ⟨(m.block p (zj hC.blk) (by rw [hC.tp]; decide)).trans hC.blk, hd, hok, hC.ri.mod m (by decide), fun hu => (hC.rp hu).mod m (by decide), hC.rt.mod m (by decide), hC.tp, hC.td⟩
 ·have h1 := (hv.lt k hk).1;by_cases h0 : T k = 0
  ·exact h0
  ·have := (hA.tl k h0).1; omega
set_option maxRecDepth 100000 in
set_option maxHeartbeats 4000000 in
theorem zm7 {G : Nat → Prop} {T : Nat → Nat} {p o : Nat} {w : World} {s : PSt} {acts : List VAct} (b : UInt8) (h : zam G true T p o w s acts) (hf : s.Fine) (hn : acts.length + 10 ≤ 1000000000) (hb32 : 32 ≤ (b.toNat : Int)) :
  Calls Tryz.prog 107 #[.pointer (some ⟨p, 0, none⟩), .int .u8 (b.toNat : Int)] w fun e w' => e = .returned (.tuple #[]) ∧ ze G w w' ∧ zhr G true p o w' (s.took b).1 (acts ++ (s.took b).2) := by
 have H := Lib.hid h;have HE := Lib.hid (show s.took b = if s.state = 1 then s.esced b
  else if s.state = 2 ∨ s.state = 5 then s.seqd b
  else if s.state = 3 then (if 64 ≤ (b.toNat : Int) ∨ (48 ≤ (b.toNat : Int) ∧ s.frm = 1) then (s.begun (if s.frm = 5 then 7 else 0), []) else (s, []))
  else if s.state = 4 ∨ s.state = 6 then (if s.text.length < 1024 then ({ s with text := s.text ++ [b] }, []) else (s, []))
  else if s.state = 7 then (s, [])
  else s.fed b from rfl)
 obtain ⟨d, vi, vp, vt, vo, L, hL, hA, hC, hT⟩ := h;have c0 : w.cell? ⟨p, 0, none⟩ = some (.int .i64 s.state) := zR hC 0;have c1 : w.cell? ⟨p, 1, none⟩ = some (.pointer (some ⟨d, 0, none⟩)) := zR hC 1;have c6 : w.cell? ⟨p, 6, none⟩ = some vt := zR hC 6;have c9 : w.cell? ⟨p, 9, none⟩ = some (.int .i64 s.frm) := zR hC 9;have fz := zy hC.blk;have htl : ∀ (ty : TypeId) (wx : World), (Builtin.len_ #[38] ty #[vt]).run Tryz.prog wx = .ok (.int .i64 s.text.length) wx := zcu Tryz.underlying38 hC.rt.own;obtain ⟨xt, mt, ct, rfl⟩ := zu hC.rt.own;have HF := Lib.hid hf;have HC := Lib.hid hC;have HA := Lib.hid hA;have HT := Lib.hid hT;have HL := Lib.hid hL;have hac : acts.length = L.length := (by rw [← hL, List.length_map]);clear hA hC hT hL hf;have HB1 := Lib.hid (zD HC.out.blk (.cells #[.int .u8 (b.toNat : Int)] 5));by_cases h1 : s.state = 1
 ·rw [if_pos h1] at HE;have h1' : (s.state == 1) = true := beq_iff_eq.2 h1;clear h1;go_enter Tryz.func107, Tryz.ntmps107;go_wp2_with fail;refine Zi 0 rfl ?_;go_wp2_with fail
  go_step3
  refine ⟨rfl, ?_⟩;go_wp2_with fail;refine (ziz b H.out (by have := HF.out.il; omega) (by omega)).mono ?_;rintro e w2 ⟨rfl, hw2, hi2⟩;have HW2 := Lib.hid hw2;have HI2 := Lib.hid hi2;clear hw2 hi2;go_wp2_with fail;simp only [Exit.noGoto];refine ZE rfl rfl ?_;rw [HE.out];exact ⟨rfl, HW2.out, HI2.out⟩
 rw [if_neg h1] at HE;have h1' : (s.state == 1) = false := beq_eq_false_iff_ne.2 h1;by_cases h2 : s.state = 2 ∨ s.state = 5
 ·rw [if_pos h2] at HE;rcases h2 with h2 | h2
  ·have h2' : (s.state == 2) = true := beq_iff_eq.2 h2;clear h1 h2;go_enter Tryz.func107, Tryz.ntmps107;go_wp2_with fail;refine Zi 1 rfl ?_;go_wp2_with fail
   go_step3
   refine ⟨rfl, ?_⟩;go_wp2_with fail;refine (zer b H.out (by have := HF.out.il; omega) (by omega) hb32 HF.out.pne (by have := HF.out.pl; omega) HF.out.pr).mono ?_;rintro e w2 ⟨rfl, hw2, hi2⟩;have HW2 := Lib.hid hw2;have HI2 := Lib.hid hi2;clear hw2 hi2;go_wp2_with fail;simp only [Exit.noGoto];refine ZE rfl rfl ?_;rw [HE.out];exact ⟨rfl, HW2.out, HI2.out⟩
  ·have h2' : (s.state == 2) = false := (by rw [beq_eq_false_iff_ne]; omega);have h5' : (s.state == 5) = true := beq_iff_eq.2 h2;clear h1 h2;go_enter Tryz.func107, Tryz.ntmps107;go_wp2_with fail;refine Zi 1 rfl ?_;go_wp2_with fail
   go_step3
   refine ⟨rfl, ?_⟩;go_wp2_with fail;refine (zer b H.out (by have := HF.out.il; omega) (by omega) hb32 HF.out.pne (by have := HF.out.pl; omega) HF.out.pr).mono ?_;rintro e w2 ⟨rfl, hw2, hi2⟩;have HW2 := Lib.hid hw2;have HI2 := Lib.hid hi2;clear hw2 hi2;go_wp2_with fail;simp only [Exit.noGoto];refine ZE rfl rfl ?_;rw [HE.out];exact ⟨rfl, HW2.out, HI2.out⟩
 rw [if_neg h2] at HE;have h2' : (s.state == 2) = false := (by rw [beq_eq_false_iff_ne]; omega);have h5' : (s.state == 5) = false := (by rw [beq_eq_false_iff_ne]; omega);by_cases h3 : s.state = 3
 ·rw [if_pos h3] at HE;have h3' : (s.state == 3) = true := beq_iff_eq.2 h3;clear h1 h2 h3;by_cases hg : 64 ≤ (b.toNat : Int) ∨ (48 ≤ (b.toNat : Int) ∧ s.frm = 1)
  ·rw [if_pos hg] at HE;have hgo : decide (64 ≤ (b.toNat : Int)) = true ∨ (decide (64 ≤ (b.toNat : Int)) = false ∧ decide (48 ≤ (b.toNat : Int)) = true ∧ (s.frm == 1) = true) := by
    by_cases h64 : 64 ≤ (b.toNat : Int)
    ·exact .inl (decide_eq_true h64)
    ·rcases hg with h | ⟨h, h'⟩
     ·exact absurd h h64
     ·exact .inr ⟨decide_eq_false h64, decide_eq_true h, beq_iff_eq.2 h'⟩
   have HAL := Lib.hid (H.out.alloc (.cells #[.int .i64 0, .int .i64 7] 3));have HWA := Lib.hid (zhy HA.out.gn (.cells #[.int .i64 0, .int .i64 7] 3));have a9 : (w.alloc (.cells #[.int .i64 0, .int .i64 7] 3)).cell? ⟨p, 9, none⟩ = some (.int .i64 s.frm) := za (zD HC.out.blk _) 9;clear hg;rcases hgo with h64' | ⟨h64', h48', hf1'⟩
   ·skip
    go_enter Tryz.func107, Tryz.ntmps107;go_wp2_with fail;refine Zi 2 rfl ?_;go_wp2_with fail
    go_step3
    refine ⟨rfl, ?_⟩;go_wp2_with fail;refine (zhQ _ _).mono ?_;rintro e w2 ⟨rfl, rfl⟩;cases hf5 : (s.frm == 5)
    ·have hfx : ¬ s.frm = 5 := (by rw [beq_eq_false_iff_ne] at hf5; exact hf5);rw [if_neg hfx] at HE;clear hfx;go_wp2_with fail;refine (z9 0 HAL.out).mono ?_;rintro e w2 ⟨rfl, hw2, hi2⟩;have HW2 := Lib.hid (HWA.out.trans hw2);have HI2 := Lib.hid hi2;clear hw2 hi2;go_wp2_with fail;simp only [Exit.noGoto];refine ZE rfl rfl ?_;rw [HE.out, List.append_nil];exact ⟨rfl, HW2.out, T, HI2.out⟩
    ·have hfx : s.frm = 5 := beq_iff_eq.1 hf5;rw [if_pos hfx] at HE;clear hfx;go_wp2_with fail;refine (z9 7 HAL.out).mono ?_;rintro e w2 ⟨rfl, hw2, hi2⟩;have HW2 := Lib.hid (HWA.out.trans hw2);have HI2 := Lib.hid hi2;clear hw2 hi2;go_wp2_with fail;simp only [Exit.noGoto];refine ZE rfl rfl ?_;rw [HE.out, List.append_nil];exact ⟨rfl, HW2.out, T, HI2.out⟩
   ·skip
    go_enter Tryz.func107, Tryz.ntmps107;go_wp2_with fail;refine Zi 2 rfl ?_;go_wp2_with fail
    go_step3
    refine ⟨rfl, ?_⟩;go_wp2_with fail;refine (zhQ _ _).mono ?_;rintro e w2 ⟨rfl, rfl⟩;cases hf5 : (s.frm == 5)
    ·have hfx : ¬ s.frm = 5 := (by rw [beq_eq_false_iff_ne] at hf5; exact hf5);rw [if_neg hfx] at HE;clear hfx;go_wp2_with fail;refine (z9 0 HAL.out).mono ?_;rintro e w2 ⟨rfl, hw2, hi2⟩;have HW2 := Lib.hid (HWA.out.trans hw2);have HI2 := Lib.hid hi2;clear hw2 hi2;go_wp2_with fail;simp only [Exit.noGoto];refine ZE rfl rfl ?_;rw [HE.out, List.append_nil];exact ⟨rfl, HW2.out, T, HI2.out⟩
    ·have hfx : s.frm = 5 := beq_iff_eq.1 hf5;rw [if_pos hfx] at HE;clear hfx;go_wp2_with fail;refine (z9 7 HAL.out).mono ?_;rintro e w2 ⟨rfl, hw2, hi2⟩;have HW2 := Lib.hid (HWA.out.trans hw2);have HI2 := Lib.hid hi2;clear hw2 hi2;go_wp2_with fail;simp only [Exit.noGoto];refine ZE rfl rfl ?_;rw [HE.out, List.append_nil];exact ⟨rfl, HW2.out, T, HI2.out⟩
  ·rw [if_neg hg] at HE;have h64' : decide (64 ≤ (b.toNat : Int)) = false := decide_eq_false (fun h => hg (.inl h));by_cases h48 : 48 ≤ (b.toNat : Int)
   ·have h48' : decide (48 ≤ (b.toNat : Int)) = true := decide_eq_true h48;have hf1' : (s.frm == 1) = false := beq_eq_false_iff_ne.2 (fun h => hg (.inr ⟨h48, h⟩));clear hg;go_enter Tryz.func107, Tryz.ntmps107;go_wp2_with fail;refine Zi 2 rfl ?_;go_wp2_with fail
    go_step3
    refine ⟨rfl, ?_⟩;go_wp2_with fail;simp only [Exit.noGoto];refine ZE rfl rfl ?_;rw [HE.out, List.append_nil];exact ⟨rfl, ze.refl _ _, T, H.out⟩
   ·have h48' : decide (48 ≤ (b.toNat : Int)) = false := decide_eq_false h48;clear hg;go_enter Tryz.func107, Tryz.ntmps107;go_wp2_with fail;refine Zi 2 rfl ?_;go_wp2_with fail
    go_step3
    refine ⟨rfl, ?_⟩;go_wp2_with fail;simp only [Exit.noGoto];refine ZE rfl rfl ?_;rw [HE.out, List.append_nil];exact ⟨rfl, ze.refl _ _, T, H.out⟩
 rw [if_neg h3] at HE;have h3' : (s.state == 3) = false := beq_eq_false_iff_ne.2 h3;by_cases h4 : s.state = 4 ∨ s.state = 6
 ·rw [if_pos h4] at HE;have hst : (s.state == 4) = true ∨ ((s.state == 4) = false ∧ (s.state == 6) = true) := by
   rcases h4 with h | h
   ·exact .inl (beq_iff_eq.2 h)
   ·exact .inr ⟨by rw [beq_eq_false_iff_ne]; omega, beq_iff_eq.2 h⟩
  clear h1 h2 h3 h4;by_cases htx : s.text.length < 1024
  ·rw [if_pos htx] at HE;have htx' : decide ((s.text.length : Int) < 1024) = true := decide_eq_true (by omega);have htx'' : decide (s.text.length < 1024) = true := decide_eq_true htx;rcases hst with h4' | ⟨h4', h6'⟩
   ·skip
    go_enter Tryz.func107, Tryz.ntmps107;go_wp2_with fail;refine Zi 3 rfl ?_;go_wp2_with fail
    go_step3
    refine ⟨rfl, ?_⟩;go_wp2_with (at_builtin; refine zaz ?_);unfold zay;refine zG Z6 rfl rfl 0 (zB HC.out.rt.own _) rfl (zV _ _ _) rfl (zah _ _) (by unfold maxLen; omega) (by omega) (by omega) ?_;intro v6 w6 o6 g6 n6;obtain ⟨x6, m6, c6, rfl⟩ := zu o6;have hb6 := zo HB1.out g6 (fun e => by have h1 := HC.out.rt.tag p e.symm; have h2 := HC.out.tp; omega);have cc6 : w6.cell? ⟨p, 6, none⟩ = some (.slice xt mt ct) := za hb6 6;have fz6 := zy hb6;have HB6 := Lib.hid hb6;have ho6 : zn w6 0 1 (.slice x6 m6 c6) (s.text ++ [b]).length (zk (s.text ++ [b])) := by
     rw [List.length_append, ZB]; exact o6
    obtain ⟨T', hw', hr', hrow, hpb, hfin⟩ := zbp (t := 6) (.inr (.inr rfl)) rfl HA.out HC.out HT.out HC.out.rt (World.grownBy_alloc w _ none) g6 ho6 n6;obtain ⟨hw'', hi''⟩ := hfin (w6.setCell ⟨p, 6, none⟩ (.slice x6 m6 c6)) { s with text := s.text ++ [b] } vi vp (.slice x6 m6 c6) (zO (zr _ _) _ _) (zw HB6.out 6 _) rfl (hrow 4 1 _ _ _ (by decide) HC.out.ri) (hrow 5 1 _ _ _ (by decide) (HC.out.rp rfl)) hr';have HW2 := Lib.hid hw'';have HI2 := Lib.hid hi'';clear o6 g6 n6 ho6 hw' hr' hrow hpb hfin hw'' hi'' hb6;go_wp2_with fail;simp only [Exit.noGoto];go_end0;rw [HE.out, ← HL.out, List.append_nil];exact ⟨rfl, HW2.out, T', HI2.out⟩
   ·skip
    go_enter Tryz.func107, Tryz.ntmps107;go_wp2_with fail;refine Zi 3 rfl ?_;go_wp2_with fail
    go_step3
    refine ⟨rfl, ?_⟩;go_wp2_with (at_builtin; refine zaz ?_);unfold zay;refine zG Z6 rfl rfl 0 (zB HC.out.rt.own _) rfl (zV _ _ _) rfl (zah _ _) (by unfold maxLen; omega) (by omega) (by omega) ?_;intro v6 w6 o6 g6 n6;obtain ⟨x6, m6, c6, rfl⟩ := zu o6;have hb6 := zo HB1.out g6 (fun e => by have h1 := HC.out.rt.tag p e.symm; have h2 := HC.out.tp; omega);have cc6 : w6.cell? ⟨p, 6, none⟩ = some (.slice xt mt ct) := za hb6 6;have fz6 := zy hb6;have HB6 := Lib.hid hb6;have ho6 : zn w6 0 1 (.slice x6 m6 c6) (s.text ++ [b]).length (zk (s.text ++ [b])) := by
     rw [List.length_append, ZB]; exact o6
    obtain ⟨T', hw', hr', hrow, hpb, hfin⟩ := zbp (t := 6) (.inr (.inr rfl)) rfl HA.out HC.out HT.out HC.out.rt (World.grownBy_alloc w _ none) g6 ho6 n6;obtain ⟨hw'', hi''⟩ := hfin (w6.setCell ⟨p, 6, none⟩ (.slice x6 m6 c6)) { s with text := s.text ++ [b] } vi vp (.slice x6 m6 c6) (zO (zr _ _) _ _) (zw HB6.out 6 _) rfl (hrow 4 1 _ _ _ (by decide) HC.out.ri) (hrow 5 1 _ _ _ (by decide) (HC.out.rp rfl)) hr';have HW2 := Lib.hid hw'';have HI2 := Lib.hid hi'';clear o6 g6 n6 ho6 hw' hr' hrow hpb hfin hw'' hi'' hb6;go_wp2_with fail;simp only [Exit.noGoto];go_end0;rw [HE.out, ← HL.out, List.append_nil];exact ⟨rfl, HW2.out, T', HI2.out⟩
  ·rw [if_neg htx] at HE;have htx' : decide ((s.text.length : Int) < 1024) = false := decide_eq_false (by omega);have htx'' : decide (s.text.length < 1024) = false := decide_eq_false htx;rcases hst with h4' | ⟨h4', h6'⟩
   ·skip
    go_enter Tryz.func107, Tryz.ntmps107;go_wp2_with fail;refine Zi 3 rfl ?_;go_wp2_with fail
    go_step3
    refine ⟨rfl, ?_⟩;go_wp2_with fail;simp only [Exit.noGoto];go_end0;rw [HE.out, List.append_nil];exact ⟨rfl, ze.refl _ _, T, H.out⟩
   ·skip
    go_enter Tryz.func107, Tryz.ntmps107;go_wp2_with fail;refine Zi 3 rfl ?_;go_wp2_with fail
    go_step3
    refine ⟨rfl, ?_⟩;go_wp2_with fail;simp only [Exit.noGoto];go_end0;rw [HE.out, List.append_nil];exact ⟨rfl, ze.refl _ _, T, H.out⟩
 rw [if_neg h4] at HE;have h4' : (s.state == 4) = false := (by rw [beq_eq_false_iff_ne]; omega);have h6' : (s.state == 6) = false := (by rw [beq_eq_false_iff_ne]; omega);by_cases h7 : s.state = 7
 ·rw [if_pos h7] at HE;have h7' : (s.state == 7) = true := beq_iff_eq.2 h7;clear h1 h2 h3 h4 h7;go_enter Tryz.func107, Tryz.ntmps107;go_wp2_with fail
  go_step3
  go_wp2_with fail;simp only [Exit.noGoto];refine ZE rfl rfl ?_;rw [HE.out, List.append_nil];exact ⟨rfl, ze.refl _ _, T, H.out⟩
 rw [if_neg h7] at HE;have h7' : (s.state == 7) = false := beq_eq_false_iff_ne.2 h7;clear h1 h2 h3 h4 h7;have HFD := Lib.hid (show s.fed b = ({ s with dec := (Zg s.dec (b.toNat : Int)).1 }, (Zg s.dec (b.toNat : Int)).2.map za7) from rfl);have hfl := zdz s.dec (b.toNat : Int);have HOK := Lib.hid (ziu s.dec (b.toNat : Int) (by omega) (zdy b) HC.out.dok);have HFE := Lib.hid (zhP d s.dec (b.toNat : Int) w HC.out.dec (by omega) (zdy b) HC.out.dok);generalize Zg s.dec (b.toNat : Int) = D at *;obtain ⟨D, l⟩ := D;dsimp only at hfl HOK HFE HFD;go_enter Tryz.func107, Tryz.ntmps107;go_wp2_with fail
 go_step3
 go_wp2_with fail;refine HFE.out.mono ?_;rintro e w2 ⟨v, rfl, o2, g2, d2⟩;obtain ⟨hw2, hi2, hr2⟩ := zfk HA.out HC.out HT.out g2 d2 HOK.out o2;have HW2 := Lib.hid hw2;have HI2 := Lib.hid hi2;have HR2 := Lib.hid hr2;clear o2 g2 d2 hw2 hi2 hr2;go_wp2_with fail;refine (zbx v l HI2.out HR2.out (by rw [List.length_map]; omega)).mono ?_;rintro e w3 ⟨rfl, hw3, hi3⟩;have HW3 := Lib.hid (HW2.out.trans hw3);have HI3 := Lib.hid hi3;clear hw3 hi3;go_wp2_with fail;simp only [Exit.noGoto];refine ZE rfl rfl ?_;rw [HE.out, HFD.out, ← HL.out];exact ⟨rfl, HW3.out, HI3.out⟩
end
end Go.Proofs.YtlfdgkiliegaiaaGreatDoor
