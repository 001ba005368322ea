/- Package grid, plain: cells, rows, grids as lists. -/
import Derived.Test.YtjclgoiclbkgjaaDoorM1
namespace Go.Proofs.YtjclgoiclbkgjaaDoor
open Go.RowKit

structure Sty where
  fg : Int
  bg : Int
  attr : Int
structure Cel where
  rune : Int
  width : Int
  sty : Sty
def Sty.vals (s : Sty) : List Value := [.int .i64 s.fg, .int .i64 s.bg, .int .i64 s.attr]
def Sty.val (s : Sty) : Value := .agg #[.int .i64 s.fg, .int .i64 s.bg, .int .i64 s.attr]
def Cel.vals (c : Cel) : List Value := [.int .i32 c.rune, .int .i64 c.width, .int .i64 c.sty.fg, .int .i64 c.sty.bg, .int .i64 c.sty.attr]
def Cel.val (c : Cel) : Value := .agg #[.int .i32 c.rune, .int .i64 c.width, .int .i64 c.sty.fg, .int .i64 c.sty.bg, .int .i64 c.sty.attr]
def cvals (l : List Cel) : List Value := l.flatMap Cel.vals
structure Rw where
  cells : List Cel
  wrap : Bool
structure Gr where
  cols : Nat
  limit : Nat
  rows : List Rw
  old : List Rw
def plainS : Sty := ⟨-1, -1, 0⟩
def blankC (s : Sty) : Cel := ⟨32, 1, s⟩
def noC : Cel := ⟨0, 0, ⟨0, 0, 0⟩⟩
def noR : Rw := ⟨[], false⟩
/-- m laid over l, from x on. -/
def putAt {α : Type} (l : List α) (x : Nat) (m : List α) : List α := l.take x ++ m ++ l.drop (x + m.length)
theorem putAt_len {α : Type} (l : List α) (x : Nat) (m : List α) (h : x + m.length ≤ l.length) : (putAt l x m).length = l.length := by
  unfold putAt
  rw [List.length_append, List.length_append, List.length_take, List.length_drop]; omega
def fillL (l : List Cel) (x n : Nat) (s : Sty) : List Cel := putAt l x (List.replicate n (blankC s))
def cutL (l : List Cel) (x : Int) : List Cel :=
  if 0 < x ∧ x < (l.length : Int) ∧ (l.getD x.toNat noC).width = 0 then fillL l (x.toNat - 1) 2 (l.getD x.toNat noC).sty else l
theorem fillL_len (l : List Cel) (x n : Nat) (s : Sty) (h : x + n ≤ l.length) : (fillL l x n s).length = l.length :=
  putAt_len _ _ _ (by rw [List.length_replicate]; exact h)
theorem cutL_len (l : List Cel) (x : Int) : (cutL l x).length = l.length := by
  unfold cutL
  split
  · exact fillL_len _ _ _ _ (by omega)
  · rfl
theorem cvals_len (l : List Cel) : (cvals l).length = l.length * 5 := by
  induction l with
  | nil => rfl
  | cons x l ih =>
    simp only [cvals, List.flatMap_cons, List.length_append, Cel.vals, List.length_cons, List.length_nil] at ih ⊢
    omega
theorem cvals_append (l m : List Cel) : cvals (l ++ m) = cvals l ++ cvals m := by simp [cvals]
theorem cvals_take (l : List Cel) (x : Nat) : (cvals l).take (x * 5) = cvals (l.take x) := by
  induction l generalizing x with
  | nil => simp [cvals]
  | cons c l ih =>
    cases x with
    | zero => simp [cvals]
    | succ x =>
      have e : cvals (c :: l) = c.vals ++ cvals l := rfl
      have e2 : cvals ((c :: l).take (x + 1)) = c.vals ++ cvals (l.take x) := rfl
      rw [e, e2, List.take_append, ← ih x]
      have h5 : c.vals.length = 5 := rfl
      rw [List.take_of_length_le (by rw [h5]; omega), h5, show (x + 1) * 5 - 5 = x * 5 by omega]
theorem cvals_drop (l : List Cel) (x : Nat) : (cvals l).drop (x * 5) = cvals (l.drop x) := by
  induction l generalizing x with
  | nil => simp [cvals]
  | cons c l ih =>
    cases x with
    | zero => simp [cvals]
    | succ x =>
      have e : cvals (c :: l) = c.vals ++ cvals l := rfl
      rw [e, List.drop_append, show (c :: l).drop (x + 1) = l.drop x from rfl, ← ih x]
      have h5 : c.vals.length = 5 := rfl
      rw [List.drop_eq_nil_of_le (by rw [h5]; omega), h5, show (x + 1) * 5 - 5 = x * 5 by omega, List.nil_append]
theorem cvals_put (l : List Cel) (x : Nat) (m : List Cel) : cvals (putAt l x m) = putAt (cvals l) (x * 5) (cvals m) := by
  unfold putAt
  rw [cvals_append, cvals_append, ← cvals_take, ← cvals_drop, cvals_len, Nat.add_mul]
theorem cvals_at (l : List Cel) (x : Nat) (h : x < l.length) (i : Nat) (hi : i < 5) : (cvals l)[x * 5 + i]? = (l.getD x noC).vals[i]? := by
  induction l generalizing x with
  | nil => simp at h
  | cons c l ih =>
    have e : cvals (c :: l) = c.vals ++ cvals l := rfl
    have h5 : c.vals.length = 5 := rfl
    cases x with
    | zero => rw [e, List.getElem?_append_left (by omega)]; simp
    | succ x =>
      rw [e, List.getElem?_append_right (by omega), h5, show (x + 1) * 5 + i - 5 = x * 5 + i by omega, ih x (by simpa using h)]
      rfl
theorem cvals_one (l : List Cel) : ∀ u ∈ cvals l, u.oneCell' = true := by
  intro u hu
  obtain ⟨c, _, hu⟩ := List.mem_flatMap.1 hu
  simp only [Cel.vals, List.mem_cons, List.not_mem_nil, or_false] at hu
  rcases hu with rfl | rfl | rfl | rfl | rfl <;> rfl
end Go.Proofs.YtjclgoiclbkgjaaDoor
