/- Package vtparse, the parser in memory; begin, texts, what is told. -/
import Derived.Test.YtkdicejlfagaeaaDoorV3
namespace Go.Proofs.YtkdicejlfagaeaaDoor
open Go.RowKit

structure PSt where
  state : Int
  dec : Dec
  inter : List UInt8
  params : List Int
  any : Bool
  text : List UInt8
  final : UInt8
  ended : Bool
  frm : Int
def PSt.cells (s : PSt) (d : Nat) (tell vi vp vt : Value) : Array Value :=
  #[.int .i64 s.state, .pointer (some ⟨d, 0, none⟩), tell, vi, vp, .bool s.any, vt, .int .u8 (s.final.toNat : Int), .bool s.ended, .int .i64 s.frm]
def PSt.begun (s : PSt) (st : Int) : PSt := { s with state := st, inter := [], params := [], any := false, text := [], ended := false }
def nilS : Value := .slice none 0 0
def tellV (o : Nat) : Value := .func (.func 19) #[] #[.pointer (some ⟨o, 0, none⟩)]
def VAct.cells (a : VAct) (v : Value) : List Value := [.int .i64 a.kind, .int .i32 a.rune, .int .u8 (a.byte.toNat : Int), v, .string a.inter, .string a.text]
def actCells (l : List (VAct × Value)) : List Value := l.flatMap fun x => x.1.cells x.2
theorem actCells_snoc (l : List (VAct × Value)) (a : VAct) (v : Value) : actCells (l ++ [(a, v)]) = actCells l ++ a.cells v := by simp [actCells]

theorem parBegin_any (p d : Nat) (s : PSt) (tell vi vp vt : Value) (st : Int) (w : World) (hb : w.heap[p]? = some (.cells (s.cells d tell vi vp vt) 45 (0, 0))) :
    Calls Tryd.prog 32 #[.pointer (some ⟨p, 0, none⟩), .int .i64 st] w fun e w' => e = .returned (.tuple #[]) ∧ w.grownBy w' (some p) ∧
      w'.heap[p]? = some (.cells ((s.begun st).cells d tell nilS nilS nilS) 45 (0, 0)) := by
  have fz := blk_free hb
  have c0 : w.cell? ⟨p, 0, none⟩ = some (.int .i64 s.state) := blk_cell hb 0
  have c3 : w.cell? ⟨p, 3, none⟩ = some vi := blk_cell hb 3
  have c4 : w.cell? ⟨p, 4, none⟩ = some vp := blk_cell hb 4
  have c5 : w.cell? ⟨p, 5, none⟩ = some (.bool s.any) := blk_cell hb 5
  have c6 : w.cell? ⟨p, 6, none⟩ = some vt := blk_cell hb 6
  have c8 : w.cell? ⟨p, 8, none⟩ = some (.bool s.ended) := blk_cell hb 8
  have HD := Lib.hid hb
  clear hb
  go_enter Tryd.func32, Tryd.ntmps32
  go_wp2_with fail
  go_end0
  refine ⟨rfl, ?_, ?_⟩
  · repeat (with_reducible first | refine gb_set ?_ _ _ | exact gb_refl _ _)
  · have h := blk_set (blk_set (blk_set (blk_set (blk_set (blk_set HD.out 0 (.int .i64 st)) 3 nilS) 4 nilS) 5 (.bool false)) 6 nilS) 8 (.bool false)
    exact h
theorem ownC_form {w : World} {base size : Nat} {v : Value} {n : Nat} {xs : List Value} (h : OwnC w base size v n xs) : ∃ x m c, v = Value.slice x m c := by
  rcases h.2 with ⟨h, _⟩ | ⟨b, off, cap, h, _⟩
  · exact ⟨_, _, _, h⟩
  · exact ⟨_, _, _, h⟩
theorem act_elem : Elem Tryd.prog 22 37 6 72 (.agg #[.int .i64 0, .int .i32 0, .int .u8 0, .slice none 0 0, .string ⟨#[]⟩, .string ⟨#[]⟩]) := ⟨Tryd.underlying22, by kernel_rfl, rfl, by decide⟩
theorem tell_any (a : VAct) (v : Value) (o : Nat) (vo : Value) (n : Nat) (xs : List Value) (w : World) (hv : ∃ x m c, v = .slice x m c) (hb : w.heap[o]? = some (.cells #[vo] 22 (0, 0))) (hr : OwnC w 0 6 vo n xs) (hne : vo.ownBlock ≠ some o) (hn : n ≤ 1000000000) :
    Calls Tryd.prog 19 #[a.val v, .pointer (some ⟨o, 0, none⟩)] w fun e w' => e = .returned (.tuple #[]) ∧ ∃ vo', w'.heap[o]? = some (.cells #[vo'] 22 (0, 0)) ∧ OwnC w' 0 6 vo' (n + 1) (xs ++ a.cells v) ∧
      (∀ k, vo'.ownBlock = some k → vo.ownBlock = some k ∨ w.heap.size ≤ k) ∧ w'.os = w.os ∧ w'.tape = w.tape ∧ w'.output = w.output ∧ w.heap.size ≤ w'.heap.size ∧ ∀ k, k < w.heap.size → k ≠ o → vo.ownBlock ≠ some k → w'.heap[k]? = w.heap[k]? := by
  obtain ⟨kind, rune, byte, params, inter, text⟩ := a
  obtain ⟨x, m, c, rfl⟩ := hv
  unfold VAct.val VAct.cells
  dsimp only
  have hol := heap_lt hb
  have hb1 := blk_alloc hb (.cells #[.int .i64 kind, .int .i32 rune, .int .u8 (byte.toNat : Int), .slice x m c, .string inter, .string text] 37)
  have c0 := blk_cell hb1 0
  have hb2 := blk_alloc hb1 (.cells #[.int .i64 kind, .int .i32 rune, .int .u8 (byte.toNat : Int), .slice x m c, .string inter, .string text] 37)
  replace c0 : (w.alloc (.cells #[.int .i64 kind, .int .i32 rune, .int .u8 (byte.toNat : Int), .slice x m c, .string inter, .string text] 37)).cell? ⟨o, 0, none⟩ = some vo := c0
  have HD := Lib.hid hb2
  have HR := Lib.hid hr
  clear hb hr hb1 hb2
  go_enter Tryd.func19, Tryd.ntmps19
  go_wp2_with (at_builtin; refine held ?_)
  unfold Held
  have ho1 : OwnC ((w.alloc (.cells #[.int .i64 kind, .int .i32 rune, .int .u8 (byte.toNat : Int), .slice x m c, .string inter, .string text] 37)).alloc (.cells #[.int .i64 kind, .int .i32 rune, .int .u8 (byte.toNat : Int), .slice x m c, .string inter, .string text] 37)) 0 6 vo n xs := ownC_alloc (ownC_alloc HR.out _) _
  refine wpList_appD act_elem rfl rfl 0 ho1 rfl (reads_own (ownsRow_new (w := w.alloc (.cells #[.int .i64 kind, .int .i32 rune, .int .u8 (byte.toNat : Int), .slice x m c, .string inter, .string text] 37)) (base := 0) (g := w.heap.size + 1) (n := 1) (e := 37) (size := 6) #[.int .i64 kind, .int .i32 rune, .int .u8 (byte.toNat : Int), .slice x m c, .string inter, .string text] [.int .i64 kind, .int .i32 rune, .int .u8 (byte.toNat : Int), .slice x m c, .string inter, .string text] (by simp) (by omega) (by decide) rfl rfl)) rfl (by intro u hu; simp at hu; rcases hu with rfl | rfl | rfl | rfl | rfl | rfl <;> rfl) (by unfold maxLen; omega) (by omega) (by omega) ?_
  intro v6 w6 o6 g6 n6
  obtain ⟨x6, m6, c6, rfl⟩ := ownC_form o6
  have hb6 := blk_grown HD.out g6 (fun e => hne e.symm)
  have cc6 : w6.cell? ⟨o, 0, none⟩ = some vo := blk_cell hb6 0
  have fz6 := blk_free hb6
  have H6 := Lib.hid hb6
  have O6 := Lib.hid o6
  have G6 := Lib.hid g6
  have N6 := Lib.hid n6
  clear hb6 o6 g6 n6 ho1
  go_wp2_with fail
  go_end0
  have hs6 := G6.out.size
  simp at hs6
  refine ⟨rfl, _, blk_set H6.out 0 _, ?_, fun k hk => ?_, G6.out.os, G6.out.tape, G6.out.output, by simp; omega, fun k h1 h2 h3 => ?_⟩
  · refine ownC_grown O6.out (gb_set (gb_refl w6 (some o)) 0 _) (fun k hk e => ?_)
    injection e with e
    subst e
    rcases N6.out _ hk with h | h
    · exact hne h
    · simp at h; omega
  · rcases N6.out k hk with h | h
    · exact .inl h
    · simp at h; exact .inr (by omega)
  · rw [heap_setCell_other w6 ⟨o, 0, none⟩ k _ h2, G6.out.block k (by simp; omega) (fun e => h3 e.symm)]
    rw [heap_alloc_old _ _ (by simp; omega), heap_alloc_old _ _ h1]
end Go.Proofs.YtkdicejlfagaeaaDoor
