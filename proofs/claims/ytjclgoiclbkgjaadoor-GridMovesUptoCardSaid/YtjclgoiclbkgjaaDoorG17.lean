/- Cells compared; plain. -/
import Derived.Test.YtjclgoiclbkgjaaDoorG16
import Derived.Laws.StructEq
namespace Go.Proofs.YtjclgoiclbkgjaaDoor
open Go.RowKit
attribute [local go_sem ↓] Go.wp_at_zero Go.wp_at_succ

def Sty.eqb (a b : Sty) : Bool := a.fg == b.fg && (a.bg == b.bg && a.attr == b.attr)
def Cel.eqb (a b : Cel) : Bool := a.rune == b.rune && (a.width == b.width && (a.sty.fg == b.sty.fg && (a.sty.bg == b.sty.bg && a.sty.attr == b.sty.attr)))
theorem Cel.eqb_iff (a b : Cel) : a.eqb b = true ↔ a = b := by
  obtain ⟨r, w, f, g, t⟩ := a
  obtain ⟨r', w', f', g', t'⟩ := b
  simp [Cel.eqb]
theorem Sty.eqb_iff (a b : Sty) : a.eqb b = true ↔ a = b := by
  obtain ⟨f, g, t⟩ := a
  obtain ⟨f', g', t'⟩ := b
  simp [Sty.eqb]
theorem eq_sty_in (a b : Sty) (d : Nat) (w : World) : (Op.equalIn (d + 2) 33 a.val b.val).run Tryd.prog w = .ok (a.eqb b) w := by
  have hS : Tryd.prog.underlying 33 = some (.struct (Tryd.prog.fieldsOf 33)) := by kernel_rfl
  have hp : Tryd.prog.stoodInHeld 33 = false := by kernel_rfl
  unfold Sty.val
  rw [run_equalIn_agg w (d + 1) 33 _ _ hS hp]
  simp only [Program.fieldsOf, Tryd.underlying33]
  go_simp
  unfold Sty.eqb
  by_cases h1 : a.fg = b.fg <;> by_cases h2 : a.bg = b.bg <;> by_cases h3 : a.attr = b.attr <;> simp [h1, h2, h3]
theorem eq_cel_in (a b : Cel) (d : Nat) (w : World) : (Op.equalIn (d + 3) 38 a.val b.val).run Tryd.prog w = .ok (a.eqb b) w := by
  have hS : Tryd.prog.underlying 38 = some (.struct (Tryd.prog.fieldsOf 38)) := by kernel_rfl
  have hp : Tryd.prog.stoodInHeld 38 = false := by kernel_rfl
  unfold Cel.val
  rw [run_equalIn_agg w (d + 2) 38 _ _ hS hp]
  simp only [Program.fieldsOf, Tryd.underlying38]
  go_simp
  unfold Cel.eqb
  by_cases h1 : a.rune = b.rune <;> by_cases h2 : a.width = b.width <;> by_cases h3 : a.sty.fg = b.sty.fg <;> by_cases h4 : a.sty.bg = b.sty.bg <;> by_cases h5 : a.sty.attr = b.sty.attr <;> simp [h1, h2, h3, h4, h5]
theorem eql_cel (a b : Cel) (w : World) : (binOp .eql 38 a.val b.val).run Tryd.prog w = .ok (.bool (a.eqb b)) w := by
  have := eq_cel_in a b 9997 w
  unfold Cel.val at *
  rw [run_eql_struct, show (10000 : Nat) = 9997 + 3 from rfl, this]; rfl
theorem neq_cel (a b : Cel) (w : World) : (binOp .neq 38 a.val b.val).run Tryd.prog w = .ok (.bool (!a.eqb b)) w := by
  have := eq_cel_in a b 9997 w
  unfold Cel.val at *
  rw [run_neq_struct, show (10000 : Nat) = 9997 + 3 from rfl, this]; rfl
theorem eql_sty (a b : Sty) (w : World) : (binOp .eql 33 a.val b.val).run Tryd.prog w = .ok (.bool (a.eqb b)) w := by
  have := eq_sty_in a b 9998 w
  unfold Sty.val at *
  rw [run_eql_struct, show (10000 : Nat) = 9998 + 2 from rfl, this]; rfl
theorem neq_sty (a b : Sty) (w : World) : (binOp .neq 33 a.val b.val).run Tryd.prog w = .ok (.bool (!a.eqb b)) w := by
  have := eq_sty_in a b 9998 w
  unfold Sty.val at *
  rw [run_neq_struct, show (10000 : Nat) = 9998 + 2 from rfl, this]; rfl
theorem guard_cel (op : BinOp) (x y : Operand) (a b : Cel) (w : World) : (eqGuard op 38 x y a.val b.val).run Tryd.prog w = .ok () w := run_eqGuard_agg w op 38 x y _ _ (by kernel_rfl)
theorem guard_sty (op : BinOp) (x y : Operand) (a b : Sty) (w : World) : (eqGuard op 33 x y a.val b.val).run Tryd.prog w = .ok () w := run_eqGuard_agg w op 33 x y _ _ (by kernel_rfl)
theorem plain_eqb (c : Cel) : c.eqb (blankC plainS) = isPlain c := rfl
end Go.Proofs.YtjclgoiclbkgjaaDoor
