/- Texts laid together: K34 K35 K27 Z15 Z22. -/
import Derived.Test.YtlfdgkiliegaiaaGreatDoorY1
import Derived.Test.YtlfdgkiliegaiaaGreatDoorY10
import Derived.Test.YtlfdgkiliegaiaaGreatDoorY11
import Derived.Test.YtlfdgkiliegaiaaGreatDoorY12
import Derived.Test.YtlfdgkiliegaiaaGreatDoorY13
import Derived.Test.YtlfdgkiliegaiaaGreatDoorY14
import Derived.Test.YtlfdgkiliegaiaaGreatDoorY15
import Derived.Test.YtlfdgkiliegaiaaGreatDoorY17
import Derived.Test.YtlfdgkiliegaiaaGreatDoorY2
import Derived.Test.YtlfdgkiliegaiaaGreatDoorY3
import Derived.Test.YtlfdgkiliegaiaaGreatDoorY4
import Derived.Test.YtlfdgkiliegaiaaGreatDoorY5
import Derived.Test.YtlfdgkiliegaiaaGreatDoorY6
import Derived.Test.YtlfdgkiliegaiaaGreatDoorY8
import Derived.Test.YtlfdgkiliegaiaaGreatDoorY9
import Derived.Laws.EntriesVeiled
import Derived.ChangeKeysEq
import Derived.Deep.RegionHeld3
import Derived.Deep.MidRow
import Derived.Lib.ItoaLen
import Derived.Test.YtlfdgkiliegaiaaGreatDoorShelf
import Derived.Lib.Builder
import Derived.Lib.FrozenHead
import Derived.Lib.RuneBytes
import Derived.Lib.UnsafeStr
import Derived.Lib.SliceRun
import Derived.WalkSpells
import Derived.StillTailTactics
import Derived.Deep.RegionLaw
import Derived.Deep.DeepCutAuto
import Derived.Test.YtlfdgkiliegaiaaGreatDoorRows
import Derived.Deep.AppendSrc
import Derived.Lib.AppendStr
import Derived.ArgAppend
import Derived.Laws.IdiomCopy
import Derived.Laws.IdiomStrings
import Derived.Deep.Upon
import Derived.WalkKit
import Derived.WalkLawsBesides
import Derived.BigQuiet
import Derived.Lib.Hide
import Derived.Deep.QuietTactic
import Derived.Lib.AppendIntMem
import Derived.Lib.ItoaNum
import Derived.Laws.ResultCell
import Derived.Deep.CutBlock
import Derived.Laws.StructEq
import Derived.Deep.DrawnRows
import Derived.Laws.Cover4
import Derived.WalkMore
import Derived.ScopeJumps
import Derived.Lib.SlBytesConst
import Derived.Laws.Bits64b
import Derived.Lib.TrimU
import Derived.Lib.OthersKept
import Derived.Deep.LoopGhost
set_option linter.unusedVariables false
set_option linter.unusedSimpArgs false
namespace Go.Proofs.YtlfdgkiliegaiaaGreatDoor
section
open Go.RowKit
set_option maxRecDepth 100000
section
variable {B : World} {C : Nat → Nat} {p c r : Nat} {w : World} {s : Scr} {ps : PSt}
theorem zc9 (h : SR B C p w s ps) :
  Calls Tryz.prog 24 #[.pointer (some ⟨p, 0, none⟩)] w fun e w' => e = .returned (.tuple #[.int .i64 s.top, .int .i64 s.bottom]) ∧ Below w.heap.size w w' := by
 have c33 : w.cell? ⟨p, 33, none⟩ = some (.int .i64 s.top) := h.at_ 33 _;have c34 : w.cell? ⟨p, 34, none⟩ = some (.int .i64 s.bottom) := h.at_ 34 _;clear h;go_enter Tryz.func24, Tryz.ntmps24;go_upto_region 1 with fail;go_quiet (fail);have HB := Lib.hid (zg (Below.refl w.heap.size w) nq);go_wp2_with fail;exact zct rfl rfl rfl rfl ⟨rfl, HB.out⟩
theorem zbO (h : SR B C p w s ps) :
  Calls Tryz.prog 22 #[.pointer (some ⟨p, 0, none⟩)] w fun e w' => e = .returned s.now.pen.val ∧ Below w.heap.size w w' := by
 have c3 : w.cell? ⟨p, 3, none⟩ = some (.int .i64 s.now.pen.fg) := h.at_ 3 _;have c4 : w.cell? ⟨p, 4, none⟩ = some (.int .i64 s.now.pen.bg) := h.at_ 4 _;have c5 : w.cell? ⟨p, 5, none⟩ = some (.int .i64 s.now.pen.attr) := h.at_ 5 _;have hc3 := fun o => (show (w.alloc o).cell? ⟨p, 3, none⟩ = some (.int .i64 s.now.pen.fg) from zc ((Below.refl w.heap.size w).alloc (Nat.le_refl _) o) c3);have hc4 := fun o => (show (w.alloc o).cell? ⟨p, 4, none⟩ = some (.int .i64 s.now.pen.bg) from zc ((Below.refl w.heap.size w).alloc (Nat.le_refl _) o) c4);have hc5 := fun o => (show (w.alloc o).cell? ⟨p, 5, none⟩ = some (.int .i64 s.now.pen.attr) from zc ((Below.refl w.heap.size w).alloc (Nat.le_refl _) o) c5);clear h;unfold Sty.val;go_enter Tryz.func22, Tryz.ntmps22;go_wp2_with fail;exact zca rfl rfl rfl (zE _ _) Tryz.underlying35 rfl (by exact zdc) ⟨rfl, (Below.refl w.heap.size w).alloc (Nat.le_refl _) _⟩
theorem zdu (h : SR B C p w s ps) :
  Calls Tryz.prog 27 #[.pointer (some ⟨p, 0, none⟩)] w fun e w' => ∃ q T, e = .returned (.pointer (some ⟨q, 0, none⟩)) ∧ Below w.heap.size w w' ∧ GM T q w' s.shown ∧ ∀ k, T k ≠ 0 → w.heap.size ≤ k := by
 obtain ⟨T, q, hg, hq, _⟩ := h.grid;have HC := Lib.hid (zlC hg);have HQ := Lib.hid hq;clear h hg hq;go_enter Tryz.func27, Tryz.ntmps27;go_wp2_with fail;refine (zL HQ.out).mono ?_;rintro e w2 ⟨rfl, hw2⟩;subst hw2;go_wp2_with fail;refine HC.out.mono ?_;rintro e w3 ⟨q2, T2, rfl, b2, g2, n2⟩;have HB := Lib.hid b2;have HG := Lib.hid g2;have HN := Lib.hid n2;clear b2 g2 n2;go_wp2_with fail;go_ret;exact ⟨q2, T2, rfl, HB.out, HG.out, HN.out⟩
def Scr.texts (s : Scr) : List (List UInt8) := (List.range s.main.rows.length).map fun y : Nat => zec (s.shown.row (y : Int)).cells
def zcO (l : List (List UInt8)) : List Value := l.map fun t => .string ⟨t.toArray⟩
theorem zif (l m : List (List UInt8)) : zcO (l ++ m) = zcO l ++ zcO m := by unfold zcO; rw [List.map_append]
theorem zk8 : zdC Tryz.prog 66 9 1 16 (.string ⟨#[]⟩) := ⟨Tryz.underlying66, by kernel_rfl, rfl, by decide⟩
theorem zjm (s : Scr) (k : Nat) (hk : k < s.main.rows.length) : s.texts.take (k + 1) = s.texts.take k ++ [zec (s.shown.row (k : Int)).cells] := by
 unfold Scr.texts;rw [← List.map_take, ← List.map_take, List.take_range, List.take_range, Nat.min_eq_left (by omega), Nat.min_eq_left (by omega), List.range_succ, List.map_append];rfl
theorem zk9 (s : Scr) : s.texts.length = s.main.rows.length := by unfold Scr.texts; rw [List.length_map, List.length_range]
set_option maxHeartbeats 2000000 in
theorem zjn (h : SR B C p w s ps) (hok : s.Ok c r) :
  Calls Tryz.prog 42 #[.pointer (some ⟨p, 0, none⟩)] w fun e w' => ∃ v, e = .returned v ∧ zn w' w.heap.size 1 v s.texts.length (zcO s.texts) ∧ Below w.heap.size w w' := by
 have hr2 := (h.nums hok).r2;have H := Lib.hid h;have HTL := Lib.hid (zk9 s);clear h hok;go_enter Tryz.func42, Tryz.ntmps42;go_wp2_with fail;refine (ZI H.out).mono ?_;rintro e w2 ⟨rfl, hw2⟩;subst hw2;go_wp2_with fail
 go_loopw [3, 7] (fun vv iv wr => ∃ (k : Nat) (ov : Value), ov = vv ∧ k ≤ s.main.rows.length ∧ iv = .int .i64 k ∧ Hid (Below w2.heap.size w2 wr) ∧ Hid (zn wr w2.heap.size 1 ov (s.texts.take k).length (zcO (s.texts.take k)))) (fun _ iv _ => s.main.rows.length - (intOf iv).toNat)
 case atStart => exact ⟨0, _, rfl, Nat.zero_le _, rfl, Below.refl _ _, ZX _ _ _⟩
 case round =>
  obtain ⟨k, ov, rfl, hk, rfl, HB, HO⟩ := hrel;obtain ⟨wo, rfl⟩ : ∃ wo, wo = wr := ⟨wr, rfl⟩;by_cases hlt : k < s.main.rows.length;rotate_left
  ·have d1 : decide ((k : Int) < (s.main.rows.length : Int)) = false := decide_eq_false (by omega);have d1' : decide (k < s.main.rows.length) = false := decide_eq_false hlt;have ho := HO.out;rw [List.take_of_length_le (by rw [HTL.out]; omega)] at ho;have HO2 := Lib.hid ho;clear ho;go_wp2_with fail;exact zT rfl rfl rfl ⟨_, rfl, HO2.out, HB.out⟩
  have d1 : decide ((k : Int) < (s.main.rows.length : Int)) = true := decide_eq_true (by omega);have d1' : decide (k < s.main.rows.length) = true := decide_eq_true hlt;have hwk : IntKind.i64.wrap ((k : Int) + 1) = (k : Int) + 1 := zb _ (by omega) (by omega);obtain ⟨T, q, hg, hq, _⟩ := (H.out.below HB.out).grid;have HTX := Lib.hid (zhT hg (k : Int));have HQ := Lib.hid hq;have HTT := Lib.hid (zjm s k hlt);have hll : (s.texts.take k).length ≤ 120 := (by rw [List.length_take]; omega);clear hg hq;go_wp2_with fail;refine (zL HQ.out).mono ?_;rintro e w4 ⟨rfl, hw4⟩;subst hw4;go_wp2_with fail;refine HTX.out.mono ?_;rintro e w5 ⟨rfl, b5⟩;have hs5 := b5.size;have hsb := HB.out.size;have HB5 := Lib.hid (HB.out.trans (b5.mono HB.out.size));have HO5 := Lib.hid (zh HO.out b5);clear b5;generalize zec (s.shown.row (k : Int)).cells = tx at *;generalize s.texts.take k = L at *;go_wp2_with (at_builtin; refine zaz ?_);unfold zay;refine zbW zk8 rfl rfl w2.heap.size (zB HO5.out _) rfl (zV _ _ _) rfl (by intro u hu; rw [List.mem_singleton] at hu; subst hu; rfl) (by unfold maxLen; omega) (by omega) (by simp; omega) ?_;intro v6 w6 o6 g6;have lt5 := zl HO5.out;have O6 := Lib.hid o6;have HB6 := Lib.hid ((HB5.out.alloc HB5.out.size _).grown g6 (by simp; omega) (by intro q hq; exact (lt5 q hq).1));clear o6 g6 lt5;go_wp2_with fail;go_roundw
  case rel =>
   refine ⟨k + 1, _, rfl, by omega, by go_num, HB6.out, ?_⟩;rw [HTT.out, List.length_append, zif];exact O6.out
  case measure => simp [intOf]; omega
end
end
section
open Go.RowKit
set_option maxRecDepth 100000
def Scr.viewV (s : Scr) (rv : Value) : Value := .agg #[rv, .int .i64 s.now.x, .int .i64 s.now.y, .bool (s.has 8), .bool s.now.wait, .int .i64 s.modes, .string ⟨s.title.toArray⟩]
structure zbv (B : Nat) (w : World) (rv : Value) (L : List (Value × List Cel)) : Prop where
 row : zn w B 1 rv L.length (L.map (·.1))
 cel : ∀ x ∈ L, zn w B 5 x.1 x.2.length (zp x.2)
theorem zbv.below {B : Nat} {w w' : World} {rv : Value} {L : List (Value × List Cel)} (h : zbv B w rv L) (b : Below w.heap.size w w') : zbv B w' rv L := ⟨zh h.row b, fun x hx => zh (h.cel x hx) b⟩
def Scr.viewL (s : Scr) : List (List Cel) := (List.range s.main.rows.length).map fun y : Nat => (s.shown.row (y : Int)).cells
theorem zjo (s : Scr) (k : Nat) (hk : k < s.main.rows.length) : s.viewL.take (k + 1) = s.viewL.take k ++ [(s.shown.row (k : Int)).cells] := by
 unfold Scr.viewL;rw [← List.map_take, ← List.map_take, List.take_range, List.take_range, Nat.min_eq_left (by omega), Nat.min_eq_left (by omega), List.range_succ, List.map_append];rfl
theorem zgJ (s : Scr) : s.viewL.length = s.main.rows.length := by unfold Scr.viewL; rw [List.length_map, List.length_range]
theorem zjp : zdC Tryz.prog 43 68 1 24 (.slice none 0 0) := ⟨Tryz.underlying43, by kernel_rfl, rfl, by decide⟩
theorem zla : (Tryz.prog.info? 47).map (·.size) = some 7 := by kernel_rfl
section
variable {B : World} {C : Nat → Nat} {p c r : Nat} {w : World} {s : Scr} {ps : PSt}
structure VAt (w0 : World) (V : Nat) (w : World) (s : Scr) (rv : Value) (L : List (Value × List Cel)) : Prop where
 bl : Below w0.heap.size w0 w
 ge : w0.heap.size < V
 blk : w.heap[V]? = some (.cells #[rv, .int .i64 s.now.x, .int .i64 s.now.y, .bool (s.has 8), .bool s.now.wait, .int .i64 s.modes, .string ⟨s.title.toArray⟩] 47 (0, 0))
 res : w.heap[w0.heap.size]? = some (.cells #[.slice none 0 0, .int .i64 0, .int .i64 0, .bool false, .bool false, .int .i64 0, .string ⟨#[]⟩] 47 (0, 0))
 row : zn w w0.heap.size 1 rv L.length (L.map (·.1))
 ne : ∀ k, rv.ownBlock = some k → k ≠ V ∧ k ≠ w0.heap.size
 cel : ∀ x ∈ L, zn w w0.heap.size 5 x.1 x.2.length (zp x.2)
 nc : ∀ x ∈ L, ∀ k, x.1.ownBlock = some k → k ≠ V ∧ k ≠ w0.heap.size ∧ rv.ownBlock ≠ some k
theorem VAt.push {w0 w w5 w7 : World} {V : Nat} {s : Scr} {rv rv' lv : Value} {L : List (Value × List Cel)} {cl : List Cel} {ob : Obj} (h : VAt w0 V w s rv L) (hb : Below w.heap.size w w5) (hl : zn w5 w.heap.size 5 lv cl.length (zp cl))
  (o7 : zn w7 w0.heap.size 1 rv' (L.length + 1) (L.map (·.1) ++ [lv])) (g7 : (w5.alloc ob).grownBy w7 rv.ownBlock) (n7 : ∀ k, rv'.ownBlock = some k → rv.ownBlock = some k ∨ (w5.alloc ob).heap.size ≤ k) :
  VAt w0 V (w7.setCell ⟨V, 0, none⟩ rv') s rv' (L ++ [(lv, cl)]) := by
 have hs5 : (w5.alloc ob).heap.size = w5.heap.size + 1 := (by simp);have hvl := zj h.blk;have hrl := zj h.res;have hw5 := hb.size;have hsb := h.bl.size;have hrv := zl h.row;have hlv := zl hl;have b6 : Below w.heap.size w (w5.alloc ob) := hb.alloc hb.size ob;have hbv : w7.heap[V]? = _ := zo (zm h.blk b6 hvl) g7 (fun e => (h.ne V e.symm).1 rfl);have hbr : w7.heap[w0.heap.size]? = _ := zo (zm h.res b6 hrl) g7 (fun e => (h.ne _ e.symm).2 rfl);have gs : w7.grownBy (w7.setCell ⟨V, 0, none⟩ rv') (some V) := zO (zr _ _) 0 rv';have hne' : ∀ k, rv'.ownBlock = some k → k ≠ V ∧ k ≠ w0.heap.size := fun k hk => by
  rcases n7 k hk with e | e
  ·exact h.ne k e
  ·omega
 refine ⟨?_, h.ge, ?_, zo hbr gs (fun e => by injection e with e; have := h.ge; omega), ?_, hne', fun x hx => ?_, fun x hx k hk => ?_⟩
 ·exact ((h.bl.trans (b6.mono h.bl.size)).grown g7 (by omega) (fun q hq => (hrv q hq).1)).grown gs (by have := g7.size; omega) (fun q hq => by injection hq with hq; have := h.ge; omega)
 ·have := zw hbv 0 rv';simp only [List.setIfInBounds_toArray, List.set_cons_zero] at this;exact this
 ·have := zx o7 gs (fun k hk e => by injection e with e; exact (hne' k hk).1 e.symm);rw [List.length_append, List.map_append];exact this
 ·rcases List.mem_append.1 hx with hx | hx
  ·have hn := fun k hk => h.nc x hx k hk;exact zx (zx (zh (h.cel x hx) b6) g7 (fun k hk => (hn k hk).2.2)) gs (fun k hk e => by injection e with e; exact (hn k hk).1 e.symm)
  ·rw [List.mem_singleton] at hx;subst hx;exact zM (zx (zx (zB hl ob) g7 (fun k hk e => by have := hlv k hk; have := hrv k e; omega)) gs (fun k hk e => by injection e with e; have := hlv k hk; omega)) hsb
 ·rcases List.mem_append.1 hx with hx | hx
  ·have hn := h.nc x hx k hk;have hk2 := (zl (h.cel x hx) k hk).2;refine ⟨hn.1, hn.2.1, fun e => ?_⟩;rcases n7 k e with e | e
   ·exact hn.2.2 e
   ·omega
  ·rw [List.mem_singleton] at hx;subst hx;have hk2 := hlv k hk;refine ⟨by omega, by omega, fun e => ?_⟩;rcases n7 k e with e | e
   ·have := hrv k e; omega
   ·omega
set_option maxHeartbeats 8000000 in
theorem zbz (h : SR B C p w s ps) (hok : s.Ok c r) :
  Calls Tryz.prog 23 #[.pointer (some ⟨p, 0, none⟩)] w fun e w' => ∃ rv L, e = .returned (s.viewV rv) ∧ L.map (·.2) = s.viewL ∧ zbv w.heap.size w' rv L ∧ Below w.heap.size w w' := by
 have hr2 := (h.nums hok).r2;have HVL := Lib.hid (zgJ s);have b1 := (Below.refl w.heap.size w).alloc (Nat.le_refl _) (.cells #[.slice none 0 0, .int .i64 0, .int .i64 0, .bool false, .bool false, .int .i64 0, .string ⟨#[]⟩] 47);have HBK := Lib.hid (zE w (.cells #[.slice none 0 0, .int .i64 0, .int .i64 0, .bool false, .bool false, .int .i64 0, .string ⟨#[]⟩] 47));have H := Lib.hid (h.below b1);have HW := Lib.hid h;have HB1 := Lib.hid b1;clear h hok b1;go_enter Tryz.func23, Tryz.ntmps23;go_upto_region 1 with fail;generalize (w.alloc (.cells #[.slice none 0 0, .int .i64 0, .int .i64 0, .bool false, .bool false, .int .i64 0, .string ⟨#[]⟩] 47)) = wa at *;have c0 : wa.cell? ⟨p, 0, none⟩ = some (.int .i64 s.now.x) := H.out.at_ 0 _;have c1 : wa.cell? ⟨p, 1, none⟩ = some (.int .i64 s.now.y) := H.out.at_ 1 _;have c2 : wa.cell? ⟨p, 2, none⟩ = some (.bool s.now.wait) := H.out.at_ 2 _;have c32 : wa.cell? ⟨p, 32, none⟩ = some (.int .i64 s.modes) := H.out.at_ 32 _;have c36 : wa.cell? ⟨p, 36, none⟩ = some (.string ⟨s.title.toArray⟩) := H.out.at_ 36 _;have HA := fun o => ((Below.refl wa.heap.size wa).alloc (Nat.le_refl _) o).drew
 go_cut [3] (fun v wz => v = .pointer (some ⟨wa.heap.size, 0, none⟩) ∧ wz = (wa.alloc (.cells #[.slice none 0 0, .int .i64 s.now.x, .int .i64 s.now.y, .bool (s.has 8), .bool s.now.wait, .int .i64 s.modes, .string ⟨s.title.toArray⟩] 47)).drew)
 case first =>
  go_region_held3 (fun w' => w'.cell? ⟨p, 0, none⟩ = some (.int .i64 s.now.x) ∧ w'.cell? ⟨p, 1, none⟩ = some (.int .i64 s.now.y) ∧ w'.cell? ⟨p, 2, none⟩ = some (.bool s.now.wait) ∧ w'.cell? ⟨p, 32, none⟩ = some (.int .i64 s.modes) ∧ w'.cell? ⟨p, 36, none⟩ = some (.string ⟨s.title.toArray⟩)) (first | exact ⟨c0, c1, c2, c32, c36⟩ | exact ⟨zc (HA _) c0, zc (HA _) c1, zc (HA _) c2, zc (HA _) c32, zc (HA _) c36⟩)
   (first
    | (go_at_call 67; (first | refine (zaI (H.out.below (Below.refl _ _).drew) 8).mono ?_ | refine (zaI (H.out.below (HA _)) 8).mono ?_); rintro e w4 ⟨rfl, rfl⟩))
  all_goals
   go_wp2_with fail;go_meet
   try exact ⟨rfl, rfl⟩
 case rest =>
 obtain ⟨rfl, HWC⟩ := hcut;have hb2 := (HA (.cells #[.slice none 0 0, .int .i64 s.now.x, .int .i64 s.now.y, .bool (s.has 8), .bool s.now.wait, .int .i64 s.modes, .string ⟨s.title.toArray⟩] 47));have hv2 := Zo (zE wa (.cells #[.slice none 0 0, .int .i64 s.now.x, .int .i64 s.now.y, .bool (s.has 8), .bool s.now.wait, .int .i64 s.modes, .string ⟨s.title.toArray⟩] 47));rw [← HWC] at hb2 hv2;have HVB := Lib.hid hv2;have H2 := Lib.hid (H.out.below hb2);have HBB := Lib.hid (HB1.out.trans (hb2.mono HB1.out.size));have hwz : wa.heap.size < wc.heap.size := zj hv2;have hws := HB1.out.size;obtain ⟨V, hV⟩ : ∃ V, V = wa.heap.size := ⟨_, rfl⟩;rw [← hV] at hwz HVB hws;rw [← hV];have HA0 := Lib.hid (show w.heap.size < V by rw [hV]; exact zj HBK.out);have HRS := Lib.hid (zm HBK.out hb2 (zj HBK.out));clear HA c0 c1 c2 c32 c36 hb2 hv2 HWC hV HBK H;obtain ⟨w2, rfl⟩ : ∃ z, z = wc := ⟨wc, rfl⟩;go_wp2_with fail;refine (ZI H2.out).mono ?_;rintro e w3 ⟨rfl, hw3⟩;subst hw3;go_wp2_with fail;have HV0 := Lib.hid (show VAt w V w3 s (.slice none 0 0) [] from ⟨HBB.out, HA0.out, HVB.out, HRS.out, ZX _ _ _, fun k hk => by simp [Value.ownBlock] at hk, fun x hx => (by cases hx), fun x hx => (by cases hx)⟩);clear HBB HVB HRS
 go_loopw [34] (fun iv wr => ∃ (k : Nat) (rv : Value) (L : List (Value × List Cel)), k ≤ s.main.rows.length ∧ iv = .int .i64 k ∧ Hid (VAt w V wr s rv L) ∧ Hid (L.map (·.2) = s.viewL.take k) ∧ Hid (Below w3.heap.size w3 wr ∨ True)) (fun iv _ => s.main.rows.length - (intOf iv).toNat)
 case atStart => exact ⟨0, _, [], Nat.zero_le _, rfl, HV0, rfl, .inr trivial⟩
 case round =>
  obtain ⟨k, rv, L, hk, rfl, HV, HL, _⟩ := hrel;obtain ⟨wo, rfl⟩ : ∃ wo, wo = wr := ⟨wr, rfl⟩;by_cases hlt : k < s.main.rows.length;rotate_left
  ·have d1 : decide ((k : Int) < (s.main.rows.length : Int)) = false := decide_eq_false (by omega);have d1' : decide (k < s.main.rows.length) = false := decide_eq_false hlt;have hst := run_storeVar_row (P := Tryz.prog) wo w.heap.size 47 47 _ #[rv, .int .i64 s.now.x, .int .i64 s.now.y, .bool (s.has 8), .bool s.now.wait, .int .i64 s.modes, .string ⟨s.title.toArray⟩] HV.out.res (by kernel_rfl) rfl (by obtain ⟨x0, m0, c0, rfl⟩ := zu HV.out.row; simp [Value.oneCell']);have hr7 := zaS (cells := #[rv, .int .i64 s.now.x, .int .i64 s.now.y, .bool (s.has 8), .bool s.now.wait, .int .i64 s.modes, .string ⟨s.title.toArray⟩]) HV.out.res;have HG7 := Lib.hid (zgI wo w.heap.size #[rv, .int .i64 s.now.x, .int .i64 s.now.y, .bool (s.has 8), .bool s.now.wait, .int .i64 s.modes, .string ⟨s.title.toArray⟩]);have HB7 := Lib.hid (zbB HV.out.bl (g := w.heap.size) (Nat.le_refl _) #[rv, .int .i64 s.now.x, .int .i64 s.now.y, .bool (s.has 8), .bool s.now.wait, .int .i64 s.modes, .string ⟨s.title.toArray⟩]);have k0 : wo.cell? ⟨V, 0, none⟩ = some rv := za HV.out.blk 0;have k1 : wo.cell? ⟨V, 1, none⟩ = some (.int .i64 s.now.x) := za HV.out.blk 1;have k2 : wo.cell? ⟨V, 2, none⟩ = some (.int .i64 s.now.y) := za HV.out.blk 2;have k3 : wo.cell? ⟨V, 3, none⟩ = some (.bool (s.has 8)) := za HV.out.blk 3;have k4 : wo.cell? ⟨V, 4, none⟩ = some (.bool s.now.wait) := za HV.out.blk 4;have k5 : wo.cell? ⟨V, 5, none⟩ = some (.int .i64 s.modes) := za HV.out.blk 5;have k6 : wo.cell? ⟨V, 6, none⟩ = some (.string ⟨s.title.toArray⟩) := za HV.out.blk 6;have HVR := Lib.hid (show zbv w.heap.size (wo.setRow w.heap.size #[rv, .int .i64 s.now.x, .int .i64 s.now.y, .bool (s.has 8), .bool s.now.wait, .int .i64 s.modes, .string ⟨s.title.toArray⟩]) rv L from
    ⟨zx HV.out.row HG7.out (fun k hk e => by injection e with e; exact (HV.out.ne k hk).2 e.symm), fun x hx => zx (HV.out.cel x hx) HG7.out (fun k hk e => by injection e with e; exact (HV.out.nc x hx k hk).2.1 e.symm)⟩)
   have hl := HL.out;rw [List.take_of_length_le (by rw [HVL.out]; omega)] at hl;have HL2 := Lib.hid hl;obtain ⟨ra, rn, rc, rfl⟩ := zu HV.out.row;clear hl HG7;generalize wo.setRow w.heap.size #[.slice ra rn rc, .int .i64 s.now.x, .int .i64 s.now.y, .bool (s.has 8), .bool s.now.wait, .int .i64 s.modes, .string ⟨s.title.toArray⟩] = w8 at *;go_wp2_with (refine zJ rfl _ _ _ rfl hst rfl rfl ?_);(try simp only [Exit.inBlock, Exit.then]);exact zca rfl rfl rfl hr7 Tryz.underlying47 rfl (by exact zla) ⟨_, L, rfl, HL2.out, HVR.out, HB7.out⟩
  have d1 : decide ((k : Int) < (s.main.rows.length : Int)) = true := decide_eq_true (by omega);have d1' : decide (k < s.main.rows.length) = true := decide_eq_true hlt;have hwk : IntKind.i64.wrap ((k : Int) + 1) = (k : Int) + 1 := zb _ (by omega) (by omega);have HS := Lib.hid (HW.out.below HV.out.bl);obtain ⟨T, q, hg, hq, _⟩ := HS.out.grid;have HQ := Lib.hid hq;have hbd := (Below.refl wo.heap.size wo).drew;have HLN := Lib.hid (zm4 (hg.below hbd) (k : Int) (by have := (zjA hg.wf (k : Int)).1; omega));have HLT := Lib.hid (zjo s k hlt);have hll : L.length = k := by
   have e := congrArg List.length HL.out;rw [List.length_map, List.length_take, HVL.out] at e;omega
  have v0 : wo.cell? ⟨V, 0, none⟩ = some rv := za HV.out.blk 0;have f0 : wo.frozen? ⟨V, 0, none⟩ = false := zy HV.out.blk 0;have HVL2 := Lib.hid (zj HV.out.blk);obtain ⟨ra, rn, rc, rfl⟩ := zu HV.out.row;have HVR := Lib.hid HV.out.row;clear hg hq hbd;generalize (s.shown.row (k : Int)).cells = cl at *;go_upto_region 5 with fail;refine Zl (c := 9) (S := (fun bb w' => True ∧ (bb = false → w'.cell? ⟨V, 0, none⟩ = some (.slice ra rn rc)))) (by kernel_rfl) (⟨trivial, fun _ => v0⟩) (fun _ => ?_);refine zd false 0 (⟨trivial, fun _ => v0⟩) ?_;refine zht 1 (⟨trivial, fun _ => v0⟩) ?_;refine zd false 2 (⟨trivial, fun _ => v0⟩) ?_;refine zd false 4 (⟨trivial, fun _ => v0⟩) ?_;refine zt false 3 fun K hK => ?_;refine zi rfl ?_;go_wp2_with fail;refine (zL (w := wo.drew) HQ.out).mono ?_;rintro e w4 ⟨rfl, rfl⟩;refine hK.out _ _ (⟨trivial, fun _ => v0⟩) (fun _ => ?_);clear hK K
  try simp only [Act.put, List.setIfInBounds_toArray, List.set_cons_zero, List.set_cons_succ]
  refine zt false 5 fun K hK => ?_;refine zi rfl ?_;go_wp2_with fail;refine HLN.out.mono ?_;rintro e w5 ⟨lv, rfl, b5, o5⟩;obtain ⟨la, lm, lc, rfl⟩ := zu o5;have v5 : w5.cell? ⟨V, 0, none⟩ = some (.slice ra rn rc) := zc b5 v0;have HB5 := Lib.hid (show Below wo.heap.size wo w5 from (Below.refl wo.heap.size wo).drew.trans b5);have HO5 := Lib.hid (show zn w5 wo.heap.size 5 (.slice la lm lc) cl.length (zp cl) from o5);refine hK.out _ _ (⟨trivial, fun _ => v5⟩) (fun _ => ?_);clear hK K b5 o5
  try simp only [Act.put, List.setIfInBounds_toArray, List.set_cons_zero, List.set_cons_succ]
  refine zt false 6 fun K hK => ?_;refine zi rfl ?_;go_wp2_with fail;refine hK.out _ _ (⟨trivial, fun _ => zc (Below.alloc (Below.refl w5.heap.size w5) (Nat.le_refl _) _) v5⟩) (fun _ => ?_);clear hK K
  try simp only [Act.put, List.setIfInBounds_toArray, List.set_cons_zero, List.set_cons_succ]
  refine zt false 7 fun K hK => ?_;apply zeN zjp
  case hgd => rfl
  case ho => rfl
  case hown => exact zB (zh HVR.out HB5.out) _
  case hs => rfl
  case hr => exact zdk Tryz.underlying43 (zV _ _ _) (by intro u hu; rw [List.mem_singleton] at hu; subst hu; rfl)
  case hx => rfl
  case h63 => unfold maxLen; omega
  case hbytes => omega
  case hbase => (have := HB5.out.size; have := HV.out.bl.size; simp; omega)
  intro v7 w7 o7 g7 n7;obtain ⟨a7, m7, c7, rfl⟩ := zu o7;have hb7 : w7.heap[V]? = _ := zo (zm HV.out.blk (HB5.out.alloc HB5.out.size _) HVL2.out) g7 (fun e => (HV.out.ne V e.symm).1 rfl);have v7 : w7.cell? ⟨V, 0, none⟩ = some (.slice ra rn rc) := za hb7 0;have f7 : w7.frozen? ⟨V, 0, none⟩ = false := zy hb7 0;have HO7 := Lib.hid o7;have HG7 := Lib.hid g7;have HN7 := Lib.hid n7;refine hK.out _ _ (⟨trivial, fun _ => v7⟩) (fun _ => ?_);clear hK K o7 g7 n7 hb7
  try simp only [Act.put, List.setIfInBounds_toArray, List.set_cons_zero, List.set_cons_succ]
  refine zd false 8 (⟨trivial, fun _ => v7⟩) ?_;refine zt true 9 fun K hK => ?_;refine zi rfl ?_;go_wp2_with fail;refine hK.out _ _ (⟨trivial, fun e => by cases e⟩) (fun _ => ?_);clear hK K
  try simp only [Act.put]
  refine Zh (by kernel_rfl) ?_ _;go_wp2_with fail;go_roundw
  case rel =>
   refine ⟨k + 1, _, L ++ [(.slice la lm lc, cl)], by omega, by go_num, HV.out.push HB5.out HO5.out HO7.out HG7.out HN7.out, ?_, .inr trivial⟩;show _ = _;rw [HLT.out, List.map_append, HL.out];rfl
  case measure => simp [intOf]; omega
end
end
section
open Go.RowKit
set_option maxRecDepth 100000
theorem ze7 {w : World} {base : Nat} {v : Value} {l : List Int} (h : zn w base 1 v l.length (l.map (Value.int .i32))) :
  (convert 191 9 v).run Tryz.prog w = .ok (.string ⟨(zaT l).toArray⟩) w := by
 rcases h.2 with ⟨rfl, h0⟩ | ⟨b, off, cap, rfl, _⟩
 ·have : l = [] := List.eq_nil_of_length_eq_zero h0;subst this;exact run_convert_runes_nil w 191 9 21 0 0 Tryz.underlying191 Tryz.underlying21 Tryz.underlying9
 ·have := run_convert_runes (P := Tryz.prog) w 191 9 21 ⟨b, off, none⟩ l.length cap l (Nat.le_refl _) Tryz.underlying191 Tryz.underlying21 Tryz.underlying9 (fun j hj => by
   have := (za9 h j (by omega)).1;rw [List.getElem?_map, zeb l j hj] at this;rw [zaO];exact this)
  rw [List.take_length, zgm] at this;exact this
theorem zoS {w : World} {base b off n c : Nat} {l : List Int} (h : zn w base 1 (.slice (some ⟨b, off, none⟩) n c) n (l.map (Value.int .i32))) (k : Nat) (hk : k < l.length) (hl : l.length = n) :
  w.cell? ⟨b, off + k, none⟩ = some (.int .i32 (l.getD k 0)) := by
 rw [(za9 h k (by omega)).1, List.getElem?_map, zeb l k hk]; rfl
theorem zoT (t : ByteArray) (a b : UInt8) : (Lib.hasPrefix t.data.toList [a, b] = true ↔ t.data.toList.take 2 = [a, b]) ∧ (Lib.hasPrefix t.data.toList [a, b] = true → 2 ≤ t.size) := by
 have e : t.size = t.data.toList.length := (Array.length_toList).symm;rw [e];generalize t.data.toList = l;unfold Lib.hasPrefix
 match l with
 | [] => exact ⟨⟨fun e => (Bool.noConfusion e), fun e => by cases e⟩, fun e => Bool.noConfusion e⟩
 | [x] =>
  have e0 : List.isPrefixOf [a, b] [x] = false := by
   show (a == x && false) = false;rw [Bool.and_false]
  rw [e0];exact ⟨⟨fun e => (Bool.noConfusion e), fun e => by cases e⟩, fun e => Bool.noConfusion e⟩
 | x :: y :: m =>
  have e0 : List.isPrefixOf [a, b] (x :: y :: m) = (a == x && (b == y && true)) := rfl;rw [e0, show (x :: y :: m).take 2 = [x, y] from rfl, Bool.and_true, Bool.and_eq_true, beq_iff_eq, beq_iff_eq];refine ⟨⟨fun e => by rw [e.1, e.2], fun e => ?_⟩, fun _ => by rw [List.length_cons, List.length_cons]; omega⟩;injection e with e1 e2;injection e2 with e2;exact ⟨e1.symm, e2.symm⟩
theorem zox (l : List Int) (k : Nat) (hk : k < l.length) : l.drop k = l.getD k 0 :: l.drop (k + 1) := by
 rw [List.drop_eq_getElem_cons hk, List.getD_eq_getElem?_getD, List.getElem?_eq_getElem hk]; rfl
theorem zig (n : Int) (l : List Int) (k : Nat) (hk : k < l.length) : zaP n (l.drop k) = if wid (l.getD k 0) < 1 then zaP n (l.drop (k + 1)) else if 64 < n + wid (l.getD k 0) then [] else l.getD k 0 :: zaP (n + wid (l.getD k 0)) (l.drop (k + 1)) := by
 rw [zox l k hk];rfl
set_option maxHeartbeats 4000000 in
theorem zjq {B : World} {C : Nat → Nat} {p : Nat} {w : World} {s : Scr} {ps : PSt} (h : SR B C p w s ps) (t : ByteArray) (hl : t.size ≤ 1000000) :
  Calls Tryz.prog 112 #[.pointer (some ⟨p, 0, none⟩), .string t] w fun e w' => e = .returned (.tuple #[]) ∧ zq B C p w w' (s.named t.data.toList) ps := by
 have HR := Lib.hid h;have HL := Lib.hid hl;obtain ⟨pa1, pa2⟩ := zoT t 48 59;obtain ⟨pb1, pb2⟩ := zoT t 50 59;by_cases hp : Lib.hasPrefix t.data.toList [48, 59] = true ∨ Lib.hasPrefix t.data.toList [50, 59] = true;rotate_left
 ·have ea : Lib.hasPrefix t.data.toList [48, 59] = false := by
   cases e : Lib.hasPrefix t.data.toList [48, 59] with
   | false => rfl
   | true => exact absurd (.inl e) hp
  have eb : Lib.hasPrefix t.data.toList [50, 59] = false := by
   cases e : Lib.hasPrefix t.data.toList [50, 59] with
   | false => rfl
   | true => exact absurd (.inr e) hp
  have HE := Lib.hid (show s.named t.data.toList = s by
   unfold Scr.named;rw [if_neg (fun e => hp (e.elim (fun e => .inl (pa1.2 e)) (fun e => .inr (pb1.2 e))))])
  clear hp pa1 pa2 pb1 pb2 hl h;go_enter Tryz.func112, Tryz.ntmps112;go_wp2_with fail;refine (Tryz.strings_HasPrefix t ⟨#[48, 59]⟩ _).mono ?_;rintro e wx ⟨rfl, rfl⟩;rw [show Lib.hasPrefix t.data.toList (⟨#[48, 59]⟩ : ByteArray).data.toList = false from ea];go_wp2_with fail;refine (Tryz.strings_HasPrefix t ⟨#[50, 59]⟩ _).mono ?_;rintro e wx ⟨rfl, rfl⟩;rw [show Lib.hasPrefix t.data.toList (⟨#[50, 59]⟩ : ByteArray).data.toList = false from eb];go_wp2_with fail;refine ZE rfl rfl ?_;refine ⟨rfl, ?_⟩;rw [HE.out];exact zq.refl HR.out
 have h2 : 2 ≤ t.size := hp.elim pa2 pb2;have HE0 := Lib.hid (show s.named t.data.toList = { s with title := zaT (zaP 0 (zcW (t.data.toList.drop 2))) } by
  unfold Scr.named;rw [if_pos (hp.imp pa1.1 pb1.1)];rfl)
 have HX := Lib.hid (show (t.extract 2 t.size).data.toList = t.data.toList.drop 2 by
  rw [ByteArray.data_extract, Array.toList_extract];show (t.data.toList.drop 2).take (t.size - 2) = _;rw [List.take_of_length_le (by rw [List.length_drop]; show t.data.toList.length - 2 ≤ t.data.size - 2; rw [Array.length_toList]; omega)])
 have hp' : Lib.hasPrefix t.data.toList [48, 59] = true ∨ (Lib.hasPrefix t.data.toList [48, 59] = false ∧ Lib.hasPrefix t.data.toList [50, 59] = true) := by
  cases e : Lib.hasPrefix t.data.toList [48, 59] with
  | true => exact .inl rfl
  | false => exact .inr ⟨rfl, hp.resolve_left (by rw [e]; decide)⟩
 clear hp pa1 pa2 pb1 pb2;have hsz : (t.extract 2 t.size).size ≤ 1000000 := (by simp; omega);have HRU := Lib.hid (fun wx => zlx (t.extract 2 t.size) wx (by omega));have HLEN := Lib.hid (show (zcW (t.extract 2 t.size).data.toList).length ≤ 2000001 by have := zjw (t.extract 2 t.size); omega);rw [HX.out] at HRU HLEN;clear h hl hsz HX;go_enter Tryz.func112, Tryz.ntmps112;go_upto_region 0 with fail
 go_cut [16] (fun v wz => v = .bool false ∧ wz = w)
 case first =>
  go_wp2_with fail;refine (Tryz.strings_HasPrefix t ⟨#[48, 59]⟩ _).mono ?_;rintro e wx ⟨rfl, hx⟩;subst wx;rcases hp' with e1 | ⟨e1, e2⟩
  ·rw [show Lib.hasPrefix t.data.toList (⟨#[48, 59]⟩ : ByteArray).data.toList = true from e1];clear e1;go_wp2_with fail;go_meet;exact ⟨rfl, rfl⟩
  ·rw [show Lib.hasPrefix t.data.toList (⟨#[48, 59]⟩ : ByteArray).data.toList = false from e1];clear e1;go_wp2_with fail;refine (Tryz.strings_HasPrefix t ⟨#[50, 59]⟩ _).mono ?_;rintro e wx ⟨rfl, hx⟩;subst wx;rw [show Lib.hasPrefix t.data.toList (⟨#[50, 59]⟩ : ByteArray).data.toList = true from e2];clear e2;go_wp2_with fail;go_meet;exact ⟨rfl, rfl⟩
 case rest =>
 obtain ⟨rfl, hwc⟩ := hcut;subst wc;have h2' : (2 : Int) ≤ (t.size : Int) := (by omega);go_wp2_with fail;refine (HRU.out w).mono ?_;rintro e w2 ⟨lv, rfl, ol, b2⟩;have HB2 := Lib.hid b2;have hv := fun k hk => zis (t.data.toList.drop 2) _ (ziy _ k hk);have HRL := Lib.hid (zac ol);have hlen := HLEN.out;generalize hL : zcW (t.data.toList.drop 2) = L at *;clear hL ol b2 hv HRU HLEN;have hln := Za Tryz.underlying191 HRL.out;go_wp2_with fail;clear hln
 go_loopw [4, 5, 21] (fun vv nv iv wr => ∃ (k n : Nat) (o : List Int) (ov : Value), ov = vv ∧ nv = .int .i64 n ∧ iv = .int .i64 k ∧ k ≤ L.length ∧ n ≤ 64 ∧ o.length ≤ n ∧ Hid (zaP 0 L = o ++ zaP n (L.drop k)) ∧ Hid (Below w.heap.size w wr) ∧ Hid (zn wr w.heap.size 1 ov o.length (o.map (Value.int .i32))) ∧ Hid (zn wr w.heap.size 1 lv L.length (L.map (Value.int .i32))) ∧ Hid (∀ q, ov.ownBlock = some q → lv.ownBlock ≠ some q)) (fun _ _ iv _ => L.length - (intOf iv).toNat)
 case atStart => exact ⟨0, 0, [], _, rfl, rfl, rfl, Nat.zero_le _, by omega, Nat.le_refl _, Lib.hid rfl, HB2, Lib.hid (ZX _ _ _), HRL, Lib.hid (fun q h => by simp [Value.ownBlock] at h)⟩
 case round =>
  obtain ⟨k, n, o, ov, rfl, rfl, rfl, hk, hn, ho, HT, HB, HO, HLi, HD⟩ := hrel;obtain ⟨wi, rfl⟩ : ∃ wi, wi = wr := ⟨wr, rfl⟩;by_cases hlt : k < L.length;rotate_left
  ·have hkl : k = L.length := (by omega);have HE := Lib.hid (show s.named t.data.toList = { s with title := zaT o } by
    rw [HE0.out, HT.out, hkl, List.drop_length];show ({ s with title := zaT (o ++ zaP n []) } : Scr) = _;rw [show zaP n [] = [] from rfl, List.append_nil])
   have d1 : decide ((k : Int) < (L.length : Int)) = false := decide_eq_false (by omega);have d1' : decide (k < L.length) = false := decide_eq_false hlt;have hcv := ze7 HO.out;have HBX := Lib.hid (HR.out.below HB.out);have HPX := Lib.hid ((Pre.refl C w).below HB.out);clear hkl hlt;obtain ⟨h9, g9⟩ := HBX.out.set 36 (.string ⟨(zaT o).toArray⟩) { s with title := zaT o };have H9 := Lib.hid h9;have P9 := Lib.hid (HPX.out.trans g9);clear h9 g9;have f36 := HBX.out.fz 36;have c36 := HBX.out.at_ 36 (.string ⟨s.title.toArray⟩);go_wp2_with fail;go_end0;refine ⟨rfl, ?_⟩;rw [HE.out];exact ⟨_, H9.out, P9.out⟩
  have d1 : decide ((k : Int) < (L.length : Int)) = true := decide_eq_true (by omega);have d1' : decide (k < L.length) = true := decide_eq_true hlt;obtain ⟨lb, lo, lc, e1, _, _⟩ := zF HLi.out (by omega);subst e1;have p0 := zoS HLi.out k hlt rfl;have hix := ZN (P := Tryz.prog) (size := 1) Tryz.underlying191 (by kernel_rfl) lb lo L.length lc k hlt;rw [Nat.mul_one] at hix;have HS := Lib.hid (zig n L k hlt);have hwk : IntKind.i64.wrap ((k : Int) + 1) = (k : Int) + 1 := zb _ (by omega) (by omega);generalize L.getD k 0 = r at *;go_wp2_with fail;refine (zcv r _).mono ?_;rintro e w3 ⟨rfl, b3⟩;have HB3 := Lib.hid (HB.out.trans (b3.mono HB.out.size));have HO3 := Lib.hid (zh HO.out b3);have HL3 := Lib.hid (zh HLi.out b3);have hwr := zly r;obtain ⟨m, hm⟩ : ∃ m, m = wid r := ⟨_, rfl⟩;rw [← hm] at HS hwr;rw [← hm];clear hm b3 p0 hix;by_cases hm1 : m < 1
  ·have HT1 := Lib.hid (show zaP 0 L = o ++ zaP n (L.drop (k + 1)) by rw [HT.out, HS.out, if_pos hm1]);have d2 : decide (m < 1) = true := decide_eq_true hm1;go_wp2_with fail;go_roundw
   case rel => exact ⟨k + 1, n, o, ov, rfl, rfl, by go_num, by omega, hn, ho, HT1, HB3, HO3, HL3, HD⟩
   case measure => simp [intOf]; omega
  have d2 : decide (m < 1) = false := decide_eq_false hm1;obtain ⟨n2, hn2⟩ : ∃ n2 : Nat, (n2 : Int) = n + m := ⟨((n : Int) + m).toNat, by omega⟩;have hwn : IntKind.i64.wrap ((n : Int) + m) = (n2 : Int) := (by rw [hn2]; exact zb _ (by omega) (by omega));by_cases h64 : (64 : Int) < n + m
  ·have HE := Lib.hid (show s.named t.data.toList = { s with title := zaT o } by
    rw [HE0.out, HT.out, HS.out, if_neg hm1, if_pos h64, List.append_nil])
   have d3 : decide ((64 : Int) < (n2 : Int)) = true := decide_eq_true (by omega);have d3' : decide (64 < n2) = true := decide_eq_true (by omega);have hcv := ze7 HO3.out;have HBX := Lib.hid (HR.out.below HB3.out);have HPX := Lib.hid ((Pre.refl C w).below HB3.out);clear hm1 h64 hn2;obtain ⟨h9, g9⟩ := HBX.out.set 36 (.string ⟨(zaT o).toArray⟩) { s with title := zaT o };have H9 := Lib.hid h9;have P9 := Lib.hid (HPX.out.trans g9);clear h9 g9;have f36 := HBX.out.fz 36;have c36 := HBX.out.at_ 36 (.string ⟨s.title.toArray⟩);go_wp2_with fail;go_end0;refine ⟨rfl, ?_⟩;rw [HE.out];exact ⟨_, H9.out, P9.out⟩
  have HT1 := Lib.hid (show zaP 0 L = (o ++ [r]) ++ zaP n2 (L.drop (k + 1)) by rw [HT.out, HS.out, if_neg hm1, if_neg h64, hn2, List.append_assoc]; rfl);have hN := Lib.hid (show n2 ≤ 64 ∧ o.length + 1 ≤ n2 ∧ o.length ≤ 64 by omega);have d3 : decide ((64 : Int) < (n2 : Int)) = false := decide_eq_false (by omega);have d3' : decide (64 < n2) = false := decide_eq_false (by omega);clear hm1 h64 hn2 HS hwr;go_wp2_with (at_builtin; refine zaz ?_);unfold zay;refine zG zcB rfl rfl w.heap.size (zB HO3.out _) rfl (zV _ _ _) rfl (zah _ _) (by have := hN.out; unfold maxLen; omega) (by have := hN.out; omega) (by have := HB3.out.size; simp; omega) ?_;intro ov6 w6 o6 g6 n6;have hsz : (w3.alloc (.cells #[.int .i32 r] 21)).heap.size = w3.heap.size + 1 := (by simp);have B6 := Lib.hid ((HB3.out.alloc HB3.out.size _).grown g6 (by have := HB3.out.size; simp; omega) (fun q hq => (zl HO3.out q hq).1));have O6 := Lib.hid o6;have L6 := Lib.hid (zx (zB HL3.out (.cells #[.int .i32 r] 21)) g6 (fun q hq e => HD.out q e hq));have D6 := Lib.hid (show ∀ q, ov6.ownBlock = some q → (Value.slice (some ⟨lb, lo, none⟩) L.length lc).ownBlock ≠ some q from fun q h1 h2 => by
   rcases n6 q h1 with h3 | h3
   ·exact HD.out q h3 h2
   ·have h4 := (zl HL3.out q h2).2;rw [hsz] at h3;omega)
  clear o6 g6 n6;go_wp2_with fail;go_roundw
  case rel => exact ⟨k + 1, n2, o ++ [r], _, rfl, rfl, by go_num, by omega, hN.out.1, by rw [List.length_append]; exact hN.out.2.1, HT1, B6, Lib.hid (by rw [List.length_append, List.map_append]; exact O6.out), L6, D6⟩
  case measure => simp [intOf]; omega
end
section
open Go.RowKit
theorem zei {b : UInt8} {ps : List Int} (h : zaB (ZO b ps []) = true) (t : Trm) (ht : t.par.Clear) :
  ∃ q : PSt, t.feed ([27, 91] ++ (Ze false ps ++ [b])) = (⟨({ t.scr with out := [] } : Scr).csi b ps [], q⟩, (({ t.scr with out := [] } : Scr).csi b ps []).out) ∧ q.Clear := by
 obtain ⟨q, e, hq⟩ := zmD h t.par ht;have ew : wrL (ZO b ps []) = [27, 91] ++ (Ze false ps ++ [b]) := by
  unfold wrL;rw [h];show [27, 91] ++ zfx (ZO b ps []) = _;unfold zfx;show [27, 91] ++ ([] ++ Ze false ps ++ [] ++ [b]) = _;simp
 rw [ew] at e;refine ⟨q, ?_, hq⟩;rw [zh8 _ t (by rw [e]; intro a ha; rw [List.mem_singleton] at ha; subst ha; rfl), e];have ea : t.scr.act (ZO b ps []) = ({ t.scr with out := [] } : Scr).csi b ps [] := rfl;unfold Scr.acts Scr.acts;rw [ea, List.append_nil]
theorem zj5 {c d : Int} (h : Zp c = true) (hd : d = 0 ∨ d = 10) : (ZL c d).length ≤ 5 ∧ ∀ x ∈ ZL c d, 0 ≤ x ∧ x ≤ 9999 := by
 have hc := zc5 h;unfold ZL
 repeat' split
 all_goals
  refine ⟨by simp, fun x hx => ?_⟩;simp only [List.mem_cons, List.not_mem_nil, or_false] at hx;omega
theorem zj6 {f t : Sty} (ht : okS t = true) : (zdO f t).length ≤ 19 ∧ ∀ x ∈ zdO f t, 0 ≤ x ∧ x ≤ 9999 := by
 obtain ⟨_, _, _, c1, c2⟩ := zhf ht;have hn1 := zj5 c1 (.inl rfl);have hn2 := zj5 c2 (.inr rfl);have hA : ∀ a b : Int, (zhW a b).length ≤ 8 ∧ ∀ x ∈ zhW a b, 0 ≤ x ∧ x ≤ 9999 := fun a b => by
  unfold zhW;refine ⟨by rw [List.length_map]; exact List.length_filter_le _ _, fun x hx => ?_⟩;obtain ⟨kc, hk, rfl⟩ := List.mem_map.1 hx;have := (zgD plainS (List.mem_filter.1 hk).1).2;omega
 have hA := hA (zcH f t).attr t.attr;have h1 : (if Zm f.attr t.attr ≠ 0 then [0] else [] : List Int).length ≤ 1 ∧ ∀ x ∈ (if Zm f.attr t.attr ≠ 0 then [0] else [] : List Int), 0 ≤ x ∧ x ≤ 9999 := by
  split <;> simp
 have h2 : (if t.fg ≠ (zcH f t).fg then ZL t.fg 0 else []).length ≤ 5 ∧ ∀ x ∈ (if t.fg ≠ (zcH f t).fg then ZL t.fg 0 else []), 0 ≤ x ∧ x ≤ 9999 := by
  split
  ·exact hn1
  ·simp
 have h3 : (if t.bg ≠ (zcH f t).bg then ZL t.bg 10 else []).length ≤ 5 ∧ ∀ x ∈ (if t.bg ≠ (zcH f t).bg then ZL t.bg 10 else []), 0 ≤ x ∧ x ≤ 9999 := by
  split
  ·exact hn2
  ·simp
 unfold zdO;refine ⟨?_, fun x hx => ?_⟩
 ·simp only [List.length_append];omega
 ·simp only [List.mem_append] at hx;rcases hx with ((hx | hx) | hx) | hx
  ·exact h1.2 x hx
  ·exact hA.2 x hx
  ·exact h2.2 x hx
  ·exact h3.2 x hx
end
section
open Go.RowKit
def R32 (n : Int) : Prop := -2147483648 ≤ n ∧ n ≤ 2147483647
def Lv (o : List UInt8) (s : Scr) : Prop := s.out = o ∧ R32 s.last
section
variable {o : List UInt8} {s : Scr}
theorem Lv.turn (h : Lv o s) (f : Gr → Gr) : Lv o (s.turn f) := by
 unfold Scr.turn;cases ho : s.other with
 | none => exact h
 | some g => exact h
theorem Lv.index (h : Lv o s) : Lv o s.index := by
 unfold Scr.index;split
 ·exact h.turn _
 ·split
  ·exact h
  ·exact h
theorem Lv.reverse (h : Lv o s) : Lv o s.reverse := by
 unfold Scr.reverse;split
 ·exact h.turn _
 ·split
  ·exact h
  ·exact h
theorem Lv.toX (h : Lv o s) (x : Int) : Lv o (s.toX x) := h
theorem Lv.calm (h : Lv o s) : Lv o s.calm := h
theorem Lv.on (h : Lv o s) : Lv o s.on := ((h.turn _).toX 0).index
theorem Lv.fit (h : Lv o s) (w : Int) : Lv o (s.fit w) := by
 unfold Scr.fit;have h1 : Lv o (if s.now.wait && s.has 1 then s.on else s) := by
  split
  ·exact h.on
  ·exact h
 generalize (if s.now.wait && s.has 1 then s.on else s) = t at h1;dsimp only;split
 ·split
  ·exact h1.calm.on
  ·exact h1
 ·exact h1
theorem Lv.lay (h : Lv o s) (c w : Int) : Lv o (s.lay c w) := by
 unfold Scr.lay;have h1 : Lv o (if s.has 2 then s.turn (fun g => g.ins s.now.x s.now.y w s.blank) else s) := by
  split
  ·exact h.turn _
  ·exact h
 generalize (if s.has 2 then s.turn (fun g => g.ins s.now.x s.now.y w s.blank) else s) = t at h1;dsimp only;have h2 : Lv o (t.turn (fun g => g.put t.now.x t.now.y ⟨c, w, t.now.pen⟩)) := h1.turn _;split
 ·exact h2
 ·exact h2
theorem Lv.print (h : Lv o s) {r : Int} (hr : R32 r) : Lv o (s.print r) := by
 unfold Scr.print;dsimp only;split
 ·exact h
 ·exact ⟨((h.fit _).lay _ _).1, hr⟩
theorem Lv.control (h : Lv o s) (b : UInt8) : Lv o (s.control b) := by
 unfold Scr.control;have h1 : Lv o (if 8 ≤ (b.toNat : Int) ∧ (b.toNat : Int) ≤ 13 then s.calm else s) := by
  split
  ·exact h
  ·exact h
 dsimp only;generalize (if 8 ≤ (b.toNat : Int) ∧ (b.toNat : Int) ≤ 13 then s.calm else s) = t at h1 ⊢;have hi := h1.index;split
 ·exact h1
 split
 ·exact h1
 split
 ·exact h1
 split
 ·split
  ·exact hi
  ·exact hi
 split
 ·exact h1
 split
 ·exact h1
 ·exact h1
theorem Lv.setSlot (h : Lv o s) (v : Sav) : Lv o (s.setSlot v) := by
 unfold Scr.setSlot;split
 ·exact h
 ·exact h
theorem Lv.save (h : Lv o s) : Lv o s.save := by
 have h1 : Lv o { s with now := { s.now with origin := s.has 4 } } := h;exact h1.setSlot _
theorem Lv.keep (h : Lv o s) (on : Bool) : Lv o (s.keep on) := by
 unfold Scr.keep;split
 ·exact h.save
 ·exact h
theorem Lv.swap (h : Lv o s) (on : Bool) : Lv o (s.swap on) := by
 unfold Scr.swap;split
 ·exact h
 ·exact h
theorem Lv.fill (h : Lv o s) : Lv o s.fill := by
 have h1 : Lv o ((s.whole).place 0 0) := h;exact h1.turn _
theorem Lv.reset (h : Lv o s) : Lv o s.reset := ⟨h.1, by show R32 0; unfold R32; decide⟩
def Lb (s : Scr) : Prop := s.out.length ≤ 600 ∧ R32 s.last
theorem Lv.lb (h : Lv [] s) : Lb s := ⟨by rw [h.1]; exact Nat.zero_le _, h.2⟩
theorem Lv.say (h : Lv [] s) {t : List UInt8} (ht : t.length ≤ 600) : Lb (s.say t) := ⟨by show (s.out ++ t).length ≤ 600; rw [h.1]; exact ht, h.2⟩
theorem Lv.bare (h : Lv [] s) (b : UInt8) : Lb (s.bare b) := by
 have h0 : Lv [] (s.toX 0) := h;unfold Scr.bare;dsimp only;split
 ·exact h.save.lb
 split
 ·exact h.lb
 split
 ·exact h0.index.calm.lb
 split
 ·exact h.index.calm.lb
 split
 ·exact h.reverse.calm.lb
 split
 ·exact h.lb
 split
 ·exact h.reset.lb
 split
 ·exact h.lb
 split
 ·exact h.say (by decide)
 ·exact h.lb
theorem Lv.escape (h : Lv [] s) (b : UInt8) (i : List UInt8) : Lb (s.escape b i) := by
 unfold Scr.escape;dsimp only
 repeat' split
 all_goals first | exact h.lb | exact h.fill.lb | exact h.bare b
theorem zhl {f : Scr → Scr} (hf : ∀ t : Scr, Lv o t → Lv o (f t)) : ∀ (n : Nat) (t : Scr), Lv o t → Lv o (itF f n t)
 | 0, _, h => h
 | n + 1, t, h => zhl hf n (f t) (hf t h)
theorem zfU {f : Scr → Nat → Scr} (hf : ∀ (t : Scr) i, Lv o t → Lv o (f t i)) : ∀ (l : List Nat) (t : Scr), Lv o t → Lv o (l.foldl f t)
 | [], _, h => h
 | i :: l, t, h => zfU hf l (f t i) (hf t i h)
theorem Lv.move (h : Lv o s) (k n : Int) : ∀ t, s.move k n = some t → Lv o t := by
 intro t ht;unfold Scr.move at ht
 repeat' split at ht
 all_goals first
  | (cases ht; exact h)
  | (injection ht with ht; subst ht; exact zhl (f := Scr.tab) (fun _ hu => hu) _ _ h)
  | (injection ht with ht; subst ht; exact zhl (f := Scr.back) (fun _ hu => hu) _ _ h)
  | cases ht
theorem Lv.edit (h : Lv o s) (k n : Int) : ∀ t, s.edit k n = some t → Lv o t := by
 intro t ht;unfold Scr.edit at ht;split at ht
 ·cases ht; exact h.turn _
 split at ht
 ·cases ht; exact h.turn _
 split at ht
 ·cases ht; exact h.turn _
 split at ht
 ·cases ht;split
  ·have h1 : Lv o ((s.toX 0).calm) := h;exact h1.turn _
  ·exact h
 split at ht
 ·cases ht;split
  ·have h1 : Lv o ((s.toX 0).calm) := h;exact h1.turn _
  ·exact h
 split at ht
 ·cases ht; exact h.turn _
 split at ht
 ·cases ht; exact h.turn _
 split at ht
 ·cases ht;refine zhl (fun u hu => ?_) _ _ h;split
  ·exact hu.print hu.2
  ·exact hu
 ·cases ht
theorem Lv.clean (h : Lv o s) (y z : Int) : Lv o (s.clean y z) := h.turn _
theorem Lv.inRow (h : Lv o s) (k : Int) : Lv o (s.inRow k) := by
 have hc : Lv o s.calm := h;unfold Scr.inRow;split
 ·exact hc.turn _
 split
 ·exact hc.turn _
 split
 ·exact hc.clean _ _
 ·exact hc
theorem Lv.inAll (h : Lv o s) (k : Int) : Lv o (s.inAll k) := by
 have hc : Lv o s.calm := h;unfold Scr.inAll;split
 ·exact (h.inRow 0).clean _ _
 split
 ·exact (h.inRow 1).clean _ _
 split
 ·exact hc.clean _ _
 split
 ·exact hc
 ·exact hc
theorem Lv.region (h : Lv o s) (ps : List Int) : Lv o (s.region ps) := by
 unfold Scr.region;dsimp only
 repeat' split
 all_goals exact h
theorem Lv.setMode1 (h : Lv o s) (k : Int) (on : Bool) : Lv o (s.setMode1 k on) := by
 unfold Scr.setMode1
 repeat' split
 all_goals exact h
theorem Lv.private (h : Lv o s) (k : Int) (on : Bool) : Lv o (s.private k on) := by
 unfold Scr.private;dsimp only;split
 ·exact h
 split
 ·exact h
 split
 ·exact h
 split
 ·exact h
 split
 ·exact h.swap _
 split
 ·exact h.keep _
 split
 ·split
  ·exact h.save.swap _
  ·exact h.swap _
 split
 ·exact h
 split
 ·exact h
 ·exact h
theorem Lv.soft (h : Lv o s) : Lv o s.soft := by
 unfold Scr.soft;dsimp only;refine Lv.setSlot (o := o) ?_ _;exact h
variable {c r : Nat}
theorem zbd {n : Int} (h : -1000000 ≤ n ∧ n ≤ 1000000) : (Lib.itoa n).length ≤ 21 := Lib.itoa_length_le n (by omega) (by omega)
theorem Lv.report (h : Lv [] s) (hok : s.Ok c r) (hc : c ≤ 1000) (hr : r ≤ 1000) (k : Int) : Lb (s.report k) := by
 unfold Scr.report;split
 ·exact h.say (by decide)
 split
 ·have n := hok.now;have e1 : (Lib.itoa ((if s.has 4 then max 0 (s.now.y - s.top) else s.now.y) + 1)).length ≤ 21 := zbd (by
   have := n.y0;have := n.y1;have := hok.t0;have := hok.tb;have := hok.b1;split <;> omega)
  have e2 : (Lib.itoa (s.now.x + 1)).length ≤ 21 := zbd (by
   have := n.x0;have := n.x1;omega)
  refine h.say ?_;simp only [List.length_append, List.length_cons, List.length_nil];omega
 ·exact h.lb
theorem Lv.others (h : Lv [] s) (hok : s.Ok c r) (hc : c ≤ 1000) (hr : r ≤ 1000) (k : Int) (ps : List Int) : Lb (s.others k ps) := by
 unfold Scr.others;dsimp only;split
 ·exact h.lb
 split
 ·exact (h.inAll _).lb
 split
 ·exact (h.inRow _).lb
 split
 ·split
  ·exact h.say (by decide)
  ·exact h.lb
 split
 ·exact h.report hok hc hr _
 split
 ·split
  ·exact h.lb
  ·split
   ·exact h.lb
   ·exact h.lb
 split
 ·exact (zfU (fun t i ht => ht.setMode1 _ _) _ _ h).lb
 split
 ·exact h.lb
 split
 ·exact (h.region _).lb
 split
 ·exact (h.keep _).lb
 ·exact h.lb
theorem Lv.csi (h : Lv [] s) (hok : s.Ok c r) (hc : c ≤ 1000) (hr : r ≤ 1000) (b : UInt8) (ps : List Int) (i : List UInt8) : Lb (s.csi b ps i) := by
 unfold Scr.csi;dsimp only;split
 ·cases hm : s.move (b.toNat : Int) (max 1 (par ps 0 1)) with
  | some t => exact (h.move _ _ t hm).lb
  | none =>
   cases he : s.edit (b.toNat : Int) (max 1 (par ps 0 1)) with
   | some t => exact (h.edit _ _ t he).lb
   | none => exact h.others hok hc hr _ _
 split
 ·split
  ·exact (zfU (fun t i ht => ht.private _ _) _ _ h).lb
  ·exact h.lb
 split
 ·split
  ·exact h.soft.lb
  ·exact h.lb
 split
 ·split
  ·exact h.say (by decide)
  ·exact h.lb
 ·exact h.lb
theorem Lv.named (h : Lv o s) (t : List UInt8) : Lv o (s.named t) := by
 unfold Scr.named;split
 ·exact h
 ·exact h
theorem zmN {f t : Sty} (ht : okS t = true) : (zcn f t).length ≤ 430 := by
 have ho := zj6 (f := f) ht;have h1 := zgV (zdO f t) false (by
  rw [List.all_eq_true];intro x hx;have := ho.2 x hx;unfold zc4;rw [Bool.and_eq_true, decide_eq_true_eq, decide_eq_true_eq];omega)
 unfold zcn;split
 ·exact Nat.zero_le _
 ·simp only [List.length_append, List.length_cons, List.length_nil];omega
theorem Lv.asked (h : Lv [] s) (hok : s.Ok c r) (hr : r ≤ 1000) (b : UInt8) (i t : List UInt8) : Lb (s.asked b i t) := by
 unfold Scr.asked;split
 ·split
  ·refine h.say ?_;have hl := zmN (f := plainS) hok.now.pen;simp only [List.length_append, List.length_cons, List.length_nil, List.length_drop];split
   ·simp
   ·omega
  split
  ·have e1 : (Lib.itoa (s.top + 1)).length ≤ 21 := zbd (by
    have := hok.t0;have := hok.tb;have := hok.b1;omega)
   have e2 : (Lib.itoa (s.bottom + 1)).length ≤ 21 := zbd (by
    have := hok.t0;have := hok.tb;have := hok.b1;omega)
   refine h.say ?_;simp only [List.length_append, List.length_cons, List.length_nil];omega
  ·exact h.say (by decide)
 ·exact h.lb
theorem zoy {a : VAct} (hok : s.Ok c r) (hl : R32 s.last) (hc : c ≤ 1000) (hr : r ≤ 1000) (ha : R32 a.rune) : Lb (s.act a) := by
 have h : Lv [] { s with out := [] } := ⟨rfl, hl⟩;have hk : ({ s with out := [] } : Scr).Ok c r := ⟨hok.main, hok.other, hok.now, hok.k0, hok.k1, hok.t0, hok.tb, hok.b1, hok.tl, hok.md⟩;unfold Scr.act;dsimp only;split
 ·exact (h.print ha).lb
 split
 ·exact (h.control _).lb
 split
 ·exact h.escape _ _
 split
 ·exact h.csi hk hc hr _ _ _
 split
 ·exact (h.named _).lb
 split
 ·exact h.asked hk hr _ _ _
 ·exact h.lb
theorem zoz {a : VAct} (hok : s.Ok c r) (hc : 1 ≤ c) (hr : 1 ≤ r) : (s.act a).Ok c r := by
 have hk : ({ s with out := [] } : Scr).Ok c r := ⟨hok.main, hok.other, hok.now, hok.k0, hok.k1, hok.t0, hok.tb, hok.b1, hok.tl, hok.md⟩;unfold Scr.act;dsimp only;split
 ·exact hk.print hc _
 split
 ·exact hk.control hc hr _
 split
 ·exact hk.escape hc hr _ _
 split
 ·exact hk.csi hc hr _ _ _
 split
 ·exact hk.named _
 split
 ·unfold Scr.asked;split
  ·split
   ·exact hk.say _
   split
   ·exact hk.say _
   ·exact hk.say _
  ·exact hk
 ·exact hk
end
structure Trm.Ok (c r : Nat) (t : Trm) : Prop where
 scr : t.scr.Ok c r
 last : R32 t.scr.last
 par : t.par.Good
section
variable {c r : Nat}
theorem zih {a : VAct} (h : AOk a) : R32 a.rune ∧ a.text.size ≤ 1000000 := by
 have := h.bnd;have h1 := this.rn;have h2 := this.tl;exact ⟨⟨by omega, by omega⟩, by omega⟩
theorem Trm.Ok.act {t : Trm} (h : t.Ok c r) (hc : 1 ≤ c) (hr : 1 ≤ r) (hc2 : c ≤ 1000) (hr2 : r ≤ 1000) {a : VAct} (ha : AOk a) : (t.act a).Ok c r ∧ (t.act a).scr.out.length ≤ 600 := by
 have hb := zoy (a := a) h.scr h.last hc2 hr2 (zih ha).1;refine ⟨⟨zoz h.scr hc hr, hb.2, ?_⟩, hb.1⟩;show (if a.ris then s0 else t.par).Good;split
 ·exact zjV
 ·exact h.par
theorem Trm.Ok.acts (hc : 1 ≤ c) (hr : 1 ≤ r) (hc2 : c ≤ 1000) (hr2 : r ≤ 1000) : ∀ (l : List VAct) {t : Trm}, t.Ok c r → (∀ a ∈ l, AOk a) → (t.acts l).1.Ok c r ∧ (t.acts l).2.length ≤ 600 * l.length
 | [], _, h, _ => ⟨h, Nat.le_refl _⟩
 | a :: l, t, h, ha => by
  obtain ⟨k1, k2⟩ := h.act hc hr hc2 hr2 (ha a (List.mem_cons_self ..));obtain ⟨i1, i2⟩ := Trm.Ok.acts hc hr hc2 hr2 l k1 (fun x hx => ha x (List.mem_cons_of_mem _ hx));refine ⟨i1, ?_⟩;show ((t.act a).scr.out ++ ((t.act a).acts l).2).length ≤ _;rw [List.length_append, List.length_cons];omega
theorem Trm.Ok.byte (hc : 1 ≤ c) (hr : 1 ≤ r) (hc2 : c ≤ 1000) (hr2 : r ≤ 1000) {t : Trm} (h : t.Ok c r) (b : UInt8) : (t.byte b).1.Ok c r ∧ (t.byte b).2.length ≤ 2400 := by
 obtain ⟨g1, g2, _⟩ := zgE b h.par;have h1 : (⟨t.scr, (t.par.step b).1⟩ : Trm).Ok c r := ⟨h.scr, h.last, g1⟩;obtain ⟨i1, i2⟩ := Trm.Ok.acts hc hr hc2 hr2 (t.par.step b).2 h1 g2;have := zgb t.par b;exact ⟨i1, by show ((⟨t.scr, (t.par.step b).1⟩ : Trm).acts (t.par.step b).2).2.length ≤ 2400; omega⟩
theorem Trm.Ok.feed (hc : 1 ≤ c) (hr : 1 ≤ r) (hc2 : c ≤ 1000) (hr2 : r ≤ 1000) : ∀ (l : List UInt8) {t : Trm}, t.Ok c r → (t.feed l).1.Ok c r ∧ (t.feed l).2.length ≤ 2400 * l.length
 | [], _, h => ⟨h, Nat.le_refl _⟩
 | b :: l, t, h => by
  obtain ⟨k1, k2⟩ := h.byte hc hr hc2 hr2 b;obtain ⟨i1, i2⟩ := Trm.Ok.feed hc hr hc2 hr2 l k1;refine ⟨i1, ?_⟩;show ((t.byte b).2 ++ ((t.byte b).1.feed l).2).length ≤ _;rw [List.length_append, List.length_cons];omega
theorem zfV {l : Nat} (hc : 1 ≤ c) (hr : 1 ≤ r) : (⟨za4 c r l, s0⟩ : Trm).Ok c r := by
 have hm : zaH c r (ZY c r l) := zef;have e1 := hm.1;have e2 := hm.2;have hm2 : zaH c r (ZY (ZY c r l).cols (ZY c r l).rows.length (ZY c r l).limit) := (by rw [e1, e2]; exact zef);have h : (za4 c r l).Ok c r := by
  refine ⟨hm2, fun g hg => (by cases hg), zcE hc hr, zcE hc hr, zcE hc hr, Int.le_refl 0, ?_, ?_, ?_, (show M10 9 from ⟨by decide, by decide⟩)⟩
  ·show (0 : Int) ≤ ((ZY (ZY c r l).cols (ZY c r l).rows.length (ZY c r l).limit).rows.length : Int) - 1;rw [hm2.2]; omega
  ·show ((ZY (ZY c r l).cols (ZY c r l).rows.length (ZY c r l).limit).rows.length : Int) - 1 < r;rw [hm2.2]; omega
  ·show (zb6 [] (ZY (ZY c r l).cols (ZY c r l).rows.length (ZY c r l).limit).cols).length = c;rw [zdN, hm2.1]
 exact ⟨h, by show R32 0; unfold R32; decide, zjV⟩
end
end
end Go.Proofs.YtlfdgkiliegaiaaGreatDoor
