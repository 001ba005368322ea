/- Texts laid together: Q1 Q2 Q3 G17 F2 S1 ArgO E6 W14 V5 LaidG J5 U9. -/
import Derived.Deep.RegionLaw
import Derived.Deep.DeepCutAuto
import Derived.Test.YtlfdgkiliegaiaaGreatDoorRows
import Derived.Deep.AppendSrc
import Derived.Lib.AppendStr
import Derived.Lib.FrozenHead
import Derived.ArgAppend
import Derived.Laws.IdiomCopy
import Derived.Laws.IdiomStrings
import Derived.Deep.Upon
import Derived.WalkKit
import Derived.WalkSpells
import Derived.WalkLawsBesides
import Derived.BigQuiet
import Derived.Lib.Hide
import Derived.Deep.QuietTactic
import Derived.Lib.AppendIntMem
import Derived.Lib.ItoaNum
import Derived.Laws.StructEq
import Derived.Deep.DrawnRows
import Derived.Deep.RegionHeld3
import Derived.Test.YtlfdgkiliegaiaaGreatDoorShelf
import Derived.Lib.Builder
import Derived.Lib.RuneBytes
import Derived.Lib.UnsafeStr
import Derived.Lib.SliceRun
import Derived.StillTailTactics
import Derived.Deep.CutBlock
import Derived.Laws.EntriesVeiled
import Derived.ProofKit
import Derived.OpenShut
import Derived.JoinedCond
import Derived.Laws.ResultCell
import Derived.Lib.ItoaLen
import Derived.Laws.Bits64b
import Derived.WalkMore
import Derived.ScopeJumps
import Derived.Lib.SlBytesConst
import Derived.Laws.Cover4
import Derived.Test.YtlfdgkiliegaiaaGreatDoorCards
import Derived.Test.YtlfdgkiliegaiaaGreatDoorTie
import Derived.Deep.DeepHandedRow
import Derived.ChangeKeysEq
import Derived.Deep.MidRow
import Derived.Lib.FrozenHead2
import Derived.Lib.TrimU
import Derived.Lib.OthersKept
import Derived.Deep.LoopGhost
set_option linter.unusedVariables false
namespace Go.Proofs.YtlfdgkiliegaiaaGreatDoor
section
open Go.RowKit
structure Sty where
 fg : Int
 bg : Int
 attr : Int
structure Cel where
 rune : Int
 width : Int
 sty : Sty
def Sty.val (s : Sty) : Value := .agg #[.int .i64 s.fg, .int .i64 s.bg, .int .i64 s.attr]
def Cel.vals (c : Cel) : List Value := [.int .i32 c.rune, .int .i64 c.width, .int .i64 c.sty.fg, .int .i64 c.sty.bg, .int .i64 c.sty.attr]
def Cel.val (c : Cel) : Value := .agg #[.int .i32 c.rune, .int .i64 c.width, .int .i64 c.sty.fg, .int .i64 c.sty.bg, .int .i64 c.sty.attr]
def zp (l : List Cel) : List Value := l.flatMap Cel.vals
structure Rw where
 cells : List Cel
 wrap : Bool
structure Gr where
 cols : Nat
 limit : Nat
 rows : List Rw
 old : List Rw
def plainS : Sty := ⟨-1, -1, 0⟩
def Zc (s : Sty) : Cel := ⟨32, 1, s⟩
def noC : Cel := ⟨0, 0, ⟨0, 0, 0⟩⟩
def noR : Rw := ⟨[], false⟩
def z8 {α : Type} (l : List α) (x : Nat) (m : List α) : List α := l.take x ++ m ++ l.drop (x + m.length)
theorem ZT {α : Type} (l : List α) (x : Nat) (m : List α) (h : x + m.length ≤ l.length) : (z8 l x m).length = l.length := by
 unfold z8;rw [List.length_append, List.length_append, List.length_take, List.length_drop]; omega
def zaX (l : List Cel) (x n : Nat) (s : Sty) : List Cel := z8 l x (List.replicate n (Zc s))
def zC (l : List Cel) (x : Int) : List Cel :=
 if 0 < x ∧ x < (l.length : Int) ∧ (l.getD x.toNat noC).width = 0 then zaX l (x.toNat - 1) 2 (l.getD x.toNat noC).sty else l
theorem zds (l : List Cel) (x n : Nat) (s : Sty) (h : x + n ≤ l.length) : (zaX l x n s).length = l.length :=
 ZT _ _ _ (by rw [List.length_replicate]; exact h)
theorem zW (l : List Cel) (x : Int) : (zC l x).length = l.length := by
 unfold zC;split
 ·exact zds _ _ _ _ (by omega)
 ·rfl
theorem zbc (l : List Cel) : (zp l).length = l.length * 5 := by
 induction l with
 | nil => rfl
 | cons x l ih =>
  simp only [zp, List.flatMap_cons, List.length_append, Cel.vals, List.length_cons, List.length_nil] at ih ⊢;omega
theorem zeh (l m : List Cel) : zp (l ++ m) = zp l ++ zp m := by simp [zp]
theorem zbM (l : List Cel) (x : Nat) : (zp l).take (x * 5) = zp (l.take x) := by
 induction l generalizing x with
 | nil => simp [zp]
 | cons c l ih =>
  cases x with
  | zero => simp [zp]
  | succ x =>
   have e : zp (c :: l) = c.vals ++ zp l := rfl;have e2 : zp ((c :: l).take (x + 1)) = c.vals ++ zp (l.take x) := rfl;rw [e, e2, List.take_append, ← ih x];have h5 : c.vals.length = 5 := rfl;rw [List.take_of_length_le (by rw [h5]; omega), h5, show (x + 1) * 5 - 5 = x * 5 by omega]
theorem zdQ (l : List Cel) (x : Nat) : (zp l).drop (x * 5) = zp (l.drop x) := by
 induction l generalizing x with
 | nil => simp [zp]
 | cons c l ih =>
  cases x with
  | zero => simp [zp]
  | succ x =>
   have e : zp (c :: l) = c.vals ++ zp l := rfl;rw [e, List.drop_append, show (c :: l).drop (x + 1) = l.drop x from rfl, ← ih x];have h5 : c.vals.length = 5 := rfl;rw [List.drop_eq_nil_of_le (by rw [h5]; omega), h5, show (x + 1) * 5 - 5 = x * 5 by omega, List.nil_append]
theorem zcq (l : List Cel) (x : Nat) (m : List Cel) : zp (z8 l x m) = z8 (zp l) (x * 5) (zp m) := by
 unfold z8;rw [zeh, zeh, ← zbM, ← zdQ, zbc, Nat.add_mul]
theorem zid (l : List Cel) (x : Nat) (h : x < l.length) (i : Nat) (hi : i < 5) : (zp l)[x * 5 + i]? = (l.getD x noC).vals[i]? := by
 induction l generalizing x with
 | nil => simp at h
 | cons c l ih =>
  have e : zp (c :: l) = c.vals ++ zp l := rfl;have h5 : c.vals.length = 5 := rfl;cases x with
  | zero => rw [e, List.getElem?_append_left (by omega)]; simp
  | succ x =>
   rw [e, List.getElem?_append_right (by omega), h5, show (x + 1) * 5 + i - 5 = x * 5 + i by omega, ih x (by simpa using h)];rfl
theorem zcr (l : List Cel) : ∀ u ∈ zp l, u.oneCell' = true := by
 intro u hu;obtain ⟨c, _, hu⟩ := List.mem_flatMap.1 hu;simp only [Cel.vals, List.mem_cons, List.not_mem_nil, or_false] at hu;rcases hu with rfl | rfl | rfl | rfl | rfl <;> rfl
end
section
open Go.RowKit
def Zp (c : Int) : Bool := decide (-1 ≤ c ∧ c ≤ 255) || decide (16777216 ≤ c ∧ c < 33554432)
def okS (s : Sty) : Bool := Zp s.fg && (Zp s.bg && (decide (0 ≤ s.attr) && decide (s.attr ≤ 255)))
def ZR (n cols : Nat) (s : Sty) : List Rw := List.replicate n ⟨List.replicate cols (Zc s), false⟩
def zie (cols rows : Int) : Bool := decide (1 ≤ cols) && (decide (cols ≤ 250) && (decide (1 ≤ rows) && decide (rows ≤ 120)))
def ZY (cols rows limit : Nat) : Gr := ⟨cols, limit, ZR rows cols plainS, []⟩
def Gr.row (g : Gr) (y : Int) : Rw :=
 if 0 ≤ y ∧ y < (g.rows.length : Int) then g.rows.getD y.toNat noR
 else if y < 0 ∧ -(g.old.length : Int) ≤ y then g.old.getD ((g.old.length : Int) + y).toNat noR
 else noR
def zdH (l : List Cel) : List Cel := (l.reverse.dropWhile fun c => c.rune == 32).reverse
def Gr.setWrap (g : Gr) (y : Int) (is : Bool) : Gr :=
 if 0 ≤ y ∧ y < (g.rows.length : Int) then { g with rows := g.rows.set y.toNat { g.rows.getD y.toNat noR with wrap := is } } else g
def Gr.turn (g : Gr) (y : Nat) (f : List Cel → List Cel) : Gr := { g with rows := g.rows.set y { g.rows.getD y noR with cells := f (g.rows.getD y noR).cells } }
def Gr.onIt (g : Gr) (x y : Int) (s : Sty) : Bool := decide (0 ≤ y) && (decide (y < (g.rows.length : Int)) && (decide (0 ≤ x) && (decide (x < (g.cols : Int)) && okS s)))
def zeG (l : List Cel) (x : Nat) (c : Cel) : List Cel := z8 (zC (zC l x) ((x : Int) + c.width)) x (if c.width = 2 then [c, ⟨0, 0, c.sty⟩] else [c])
def ZQ (limit : Nat) (l : List Rw) : List Rw := l.drop (l.length - limit)
def zK (g : Gr) (top bottom n : Int) (s : Sty) : Nat :=
 if top < 0 ∨ bottom < top ∨ (g.rows.length : Int) ≤ bottom ∨ okS s = false then 0 else (max 0 (min n (bottom - top + 1))).toNat
def zaQ (rows : List Rw) (top bottom n cols : Nat) (s : Sty) : List Rw :=
 rows.take top ++ (rows.drop (top + n)).take (bottom + 1 - top - n) ++ ZR n cols s ++ rows.drop (bottom + 1)
def zak (rows : List Rw) (top bottom n cols : Nat) (s : Sty) : List Rw :=
 rows.take top ++ ZR n cols s ++ (rows.drop top).take (bottom + 1 - top - n) ++ rows.drop (bottom + 1)
def Gr.up (g : Gr) (top bottom n : Int) (s : Sty) (keep : Bool) : Gr :=
 if zK g top bottom n s = 0 then g
 else { g with rows := zaQ g.rows top.toNat bottom.toNat (zK g top bottom n s) g.cols s, old := if keep = true ∧ top = 0 then ZQ g.limit (g.old ++ (g.rows.drop top.toNat).take (zK g top bottom n s)) else g.old }
def Gr.down (g : Gr) (top bottom n : Int) (s : Sty) : Gr :=
 if zK g top bottom n s = 0 then g else { g with rows := zak g.rows top.toNat bottom.toNat (zK g top bottom n s) g.cols s }
def zpb (n most : Int) : Int := max 0 (min n most)
end
section
open Go.RowKit
theorem zjk {rows : List Rw} {t b n c : Nat} {s : Sty} (h1 : t ≤ b) (h2 : b < rows.length) (h3 : n ≤ b + 1 - t) : (zaQ rows t b n c s).length = rows.length := by
 unfold zaQ ZR;simp only [List.length_append, List.length_take, List.length_drop, List.length_replicate]; omega
theorem zfQ {rows : List Rw} {t b n c : Nat} {s : Sty} (h1 : t ≤ b) (h2 : b < rows.length) (h3 : n ≤ b + 1 - t) : (zak rows t b n c s).length = rows.length := by
 unfold zak ZR;simp only [List.length_append, List.length_take, List.length_drop, List.length_replicate]; omega
end
section
open Go.RowKit
attribute [local go_sem ↓] Go.wp_at_zero Go.wp_at_succ
def Sty.eqb (a b : Sty) : Bool := a.fg == b.fg && (a.bg == b.bg && a.attr == b.attr)
def Cel.eqb (a b : Cel) : Bool := a.rune == b.rune && (a.width == b.width && (a.sty.fg == b.sty.fg && (a.sty.bg == b.sty.bg && a.sty.attr == b.sty.attr)))
theorem Cel.eqb_iff (a b : Cel) : a.eqb b = true ↔ a = b := by
 obtain ⟨r, w, f, g, t⟩ := a;obtain ⟨r', w', f', g', t'⟩ := b;simp [Cel.eqb]
theorem Sty.eqb_iff (a b : Sty) : a.eqb b = true ↔ a = b := by
 obtain ⟨f, g, t⟩ := a;obtain ⟨f', g', t'⟩ := b;simp [Sty.eqb]
theorem zgG (a b : Sty) (d : Nat) (w : World) : (Op.equalIn (d + 2) 35 a.val b.val).run Tryz.prog w = .ok (a.eqb b) w := by
 have hS : Tryz.prog.underlying 35 = some (.struct (Tryz.prog.fieldsOf 35)) := (by kernel_rfl);have hp : Tryz.prog.stoodInHeld 35 = false := (by kernel_rfl);unfold Sty.val;rw [run_equalIn_agg w (d + 1) 35 _ _ hS hp];simp only [Program.fieldsOf, Tryz.underlying35]
 go_simp
 unfold Sty.eqb;by_cases h1 : a.fg = b.fg <;> by_cases h2 : a.bg = b.bg <;> by_cases h3 : a.attr = b.attr <;> simp [h1, h2, h3]
theorem zk5 (a b : Cel) (d : Nat) (w : World) : (Op.equalIn (d + 3) 133 a.val b.val).run Tryz.prog w = .ok (a.eqb b) w := by
 have hS : Tryz.prog.underlying 133 = some (.struct (Tryz.prog.fieldsOf 133)) := (by kernel_rfl);have hp : Tryz.prog.stoodInHeld 133 = false := (by kernel_rfl);unfold Cel.val;rw [run_equalIn_agg w (d + 2) 133 _ _ hS hp];simp only [Program.fieldsOf, Tryz.underlying133]
 go_simp
 unfold Cel.eqb;by_cases h1 : a.rune = b.rune <;> by_cases h2 : a.width = b.width <;> by_cases h3 : a.sty.fg = b.sty.fg <;> by_cases h4 : a.sty.bg = b.sty.bg <;> by_cases h5 : a.sty.attr = b.sty.attr <;> simp [h1, h2, h3, h4, h5]
theorem zj3 (a b : Cel) (w : World) : (binOp .neq 133 a.val b.val).run Tryz.prog w = .ok (.bool (!a.eqb b)) w := by
 have := zk5 a b 9997 w;unfold Cel.val at *;rw [run_neq_struct, show (10000 : Nat) = 9997 + 3 from rfl, this]; rfl
theorem zdt (a b : Sty) (w : World) : (binOp .eql 35 a.val b.val).run Tryz.prog w = .ok (.bool (a.eqb b)) w := by
 have := zgG a b 9998 w;unfold Sty.val at *;rw [run_eql_struct, show (10000 : Nat) = 9998 + 2 from rfl, this]; rfl
theorem zgH (op : BinOp) (x y : Operand) (a b : Cel) (w : World) : (eqGuard op 133 x y a.val b.val).run Tryz.prog w = .ok () w := run_eqGuard_agg w op 133 x y _ _ (by kernel_rfl)
theorem zby (op : BinOp) (x y : Operand) (a b : Sty) (w : World) : (eqGuard op 35 x y a.val b.val).run Tryz.prog w = .ok () w := run_eqGuard_agg w op 35 x y _ _ (by kernel_rfl)
end
section
open Go.RowKit
attribute [local go_sem ↓] Go.wp_at_zero Go.wp_at_succ
theorem zgI (w : World) (g : Nat) (cs : Array Value) : w.grownBy (w.setRow g cs) (some g) := by
 refine ⟨rfl, rfl, rfl, ?_, fun k hk hne => ?_⟩
 ·simp [World.setRow]
 ·show (w.heap.modify g _)[k]? = _;rw [Array.getElem?_modify, if_neg (fun e => hne (by rw [e]))]
end
section
open Go.RowKit
def zcM (l : List Cel) (x n : Nat) (s : Sty) : List Cel := zaX (zC (zC l x) ((x + n : Nat) : Int)) x n s
def zfR (l : List Cel) (x n : Nat) (s : Sty) : List Cel :=
 (zC (zC l x) ((l.length - n : Nat) : Int)).take x ++ List.replicate n (Zc s) ++ ((zC (zC l x) ((l.length - n : Nat) : Int)).drop x).take (l.length - n - x)
def zfS (l : List Cel) (x n : Nat) (s : Sty) : List Cel :=
 (zC (zC l x) ((x + n : Nat) : Int)).take x ++ (zC (zC l x) ((x + n : Nat) : Int)).drop (x + n) ++ List.replicate n (Zc s)
theorem zjl {l : List Cel} {x n : Nat} (s : Sty) (h : x + n ≤ l.length) : (zcM l x n s).length = l.length := by
 unfold zcM;rw [zds _ _ _ _ (by rw [zW, zW]; exact h), zW, zW]
theorem zmK {l : List Cel} {x n : Nat} (s : Sty) (h : x + n ≤ l.length) : (zfR l x n s).length = l.length := by
 unfold zfR;simp only [List.length_append, List.length_take, List.length_drop, List.length_replicate, zW];omega
theorem zmL {l : List Cel} {x n : Nat} (s : Sty) (h : x + n ≤ l.length) : (zfS l x n s).length = l.length := by
 unfold zfS;simp only [List.length_append, List.length_take, List.length_drop, List.length_replicate, zW];omega
end
section
open Go.ChangeShapes Go.WideShapes Go.ChangeAt Go.RowKit Go.ChangeMaps
def I64 (x : Int) : Prop := -9223372036854775808 ≤ x ∧ x ≤ 9223372036854775807
end
section
open Go.RowKit
def zap (c : Int) (n : Nat) : Nat := ((if c < 0 then -(c + 1) else c).tmod (n : Int)).toNat
theorem zat (c : Int) (n : Nat) (hn : 0 < n) : zap c n < n := by
 unfold zap;split
 ·have hb : 0 ≤ (-(c + 1)).tmod (n : Int) ∧ (-(c + 1)).tmod (n : Int) < n := ⟨Int.tmod_nonneg _ (by omega), Int.tmod_lt_of_pos _ (by omega)⟩;omega
 ·have hb : 0 ≤ c.tmod (n : Int) ∧ c.tmod (n : Int) < n := ⟨Int.tmod_nonneg _ (by omega), Int.tmod_lt_of_pos _ (by omega)⟩;omega
end
section
open Go.RowKit
theorem zal (s : ByteArray) : s.data.toList.length = s.size := by rw [Array.length_toList]; rfl
end
section
open Go.RowKit
theorem zhk (n : Nat) : Lib.itoa (n : Int) = Lib.decDigits n := Lib.itoa_nonneg n
theorem zfT (n : Nat) (h : ¬ n < 10) : Lib.decDigits n = Lib.decDigits (n / 10) ++ [UInt8.ofNat (48 + n % 10)] := by
 rw [Lib.decDigits, dif_neg h]
end
section
open Go.ChangeShapes Go.WideShapes Go.ChangeAt Go.RowKit
def zj4 : DataW Unit → Value
 | .lit (.int k z) => .int k z
 | _ => undef
def zk6 : DataW Unit → Array Value
 | .agg l => (l.map zj4).toArray
 | _ => #[]
def zk7 : DataW Unit → List Value
 | .agg l => l.map zj4
 | _ => []
def zeH : DataW Unit → Array Value
 | .ptr (.agg (.slice l _ :: _)) => (l.flatMap zk7).toArray
 | _ => #[]
def zfi (heap : Array Obj) (g : Nat) (d : DataW Unit) : Array Obj := heap.modify g fun
 | .cells _ t frozen => .cells (zk6 d) t frozen
 | o => o
def zmM (heap : Array Obj) (g : Nat) (d : DataW Unit) : Array Obj :=
 ((heap.modify g fun
  | .cells _ t frozen => .cells #[.pointer (some ⟨heap.size, 0, none⟩)] t frozen
  | o => o).push (.cells #[.slice (some ⟨heap.size + 1, 0, none⟩) ((zeH d).size / 3) ((zeH d).size / 3), .slice none 0 0, .int .i64 2] 243 (0, 0))).push (.cells (zeH d) 246 (0, 0))
noncomputable def ZD (os : Os) (args : Array Value) : World :=
 { World.holding Tryz.prog os ⟨#[], args, []⟩ with heap := zmM (zfi (zfi (zfi (zfi (World.holding Tryz.prog os ⟨#[], args, []⟩).heap 2 Rows.laid_internal_strconv_uint64pow10) 3 Rows.laid_math_bits_deBruijn32tab) 4 Rows.laid_math_bits_deBruijn64tab) 0 Rows.laid_strings_asciiSpace) 1 Rows.laid_unicode_White_Space }
end
section
open Go.RowKit
attribute [local go_sem ↓] Go.wp_at_zero Go.wp_at_succ
theorem zbN {ops : Array Oper} {o : Oper} {a : Act} {X E : Prop} (hg : Region.wanted o (yielded ops a.tmps) = true) (h : X) : if Region.wanted o (yielded ops a.tmps) = true then X else E := by
 rw [if_pos hg];exact h
end
section
open Go.RowKit
set_option maxRecDepth 100000
attribute [local go_sem ↓] Go.wp_at_zero Go.wp_at_succ
theorem zoc {s : ByteArray} {l : List UInt8} (h : s.data.toList = l) : s = ⟨l.toArray⟩ := by
 cases s with
 | mk d => cases d; simp at h; subst h; rfl
theorem zod {s t : ByteArray} (h : s.data.toList = t.data.toList) : s = t := by rw [zoc h, ← zoc rfl]
theorem zcN (a b : ByteArray) : (a ++ b).data.toList = a.data.toList ++ b.data.toList := by rw [ByteArray.data_append, Array.toList_append]
end
end Go.Proofs.YtlfdgkiliegaiaaGreatDoor
