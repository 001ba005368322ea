/- Walks of package cell: the decoder. -/
import Derived.Test.YtkdicejlfagaeaaDoorRows
import Derived.Test.YtkdicejlfagaeaaDoorBase
import Derived.Test.YtkdicejlfagaeaaDoorP3
namespace Go.Proofs.YtkdicejlfagaeaaDoor
open Go.RowKit

def Dec.cells (d : Dec) : Array Value := #[.int .i32 d.r, .int .i64 d.hav, .int .i64 d.more, .int .u8 d.lo, .int .u8 d.hi]
/-- The decoder at block p. -/
def DecAt (w : World) (p : Nat) (d : Dec) : Prop := w.heap[p]? = some (.cells d.cells 60 (0, 0))

theorem DecAt_of {w : World} {p : Nat} {c : Array Value} {d : Dec} (h : w.heap[p]? = some (.cells c 60 (0, 0))) (e : c = d.cells) : DecAt w p d := by subst e; exact h
theorem beginD_1 (d : Dec) (b : Int) (h : b < 128) : beginD d b = ({ d with lo := 128, hi := 191 }, [b]) := by unfold beginD; rw [if_pos h]
theorem beginD_2 (d : Dec) (b : Int) (h : 194 ≤ b ∧ b ≤ 223) : beginD d b = (⟨b % 32, 1, 1, 128, 191⟩, []) := by unfold beginD; rw [if_neg (by omega), if_pos h]
theorem beginD_3 (d : Dec) (b : Int) (h : 224 ≤ b ∧ b ≤ 239) : beginD d b = (⟨b % 16, 1, 2, if b = 224 then 160 else 128, if b = 237 then 159 else 191⟩, []) := by
  unfold beginD; rw [if_neg (by omega), if_neg (by omega), if_pos h]
theorem beginD_4 (d : Dec) (b : Int) (h : 240 ≤ b ∧ b ≤ 244) : beginD d b = (⟨b % 8, 1, 3, if b = 240 then 144 else 128, if b = 244 then 143 else 191⟩, []) := by
  unfold beginD; rw [if_neg (by omega), if_neg (by omega), if_neg (by omega), if_pos h]
theorem beginD_5 (d : Dec) (b : Int) (h : 128 ≤ b) (h2 : ¬ (194 ≤ b ∧ b ≤ 223)) (h3 : ¬ (224 ≤ b ∧ b ≤ 239)) (h4 : ¬ (240 ≤ b ∧ b ≤ 244)) : beginD d b = ({ d with lo := 128, hi := 191 }, [65533]) := by
  unfold beginD; rw [if_neg (by omega), if_neg h2, if_neg h3, if_neg h4]

theorem beginD_len (d : Dec) (b : Int) : (beginD d b).2.length ≤ 1 := by
  unfold beginD; repeat' split
  all_goals simp

set_option maxHeartbeats 1000000 in
theorem begin_any (p : Nat) (d : Dec) (b : Int) (w : World) (hd : DecAt w p d) (h0 : 0 ≤ b) (h1 : b ≤ 255) :
    Calls Tryd.prog 43 #[.pointer (some ⟨p, 0, none⟩), .int .u8 b] w fun e w' => ∃ v, e = .returned v ∧
      w'.ownsRow w.heap.size 21 1 v (beginD d b).2.length ((beginD d b).2.map (Value.int .i32)) ∧ w.grownBy w' (some p) ∧ DecAt w' p (beginD d b).1 := by
  have c0 : w.cell? ⟨p, 0, none⟩ = some (.int .i32 d.r) := blk_cell hd 0
  have c1 : w.cell? ⟨p, 1, none⟩ = some (.int .i64 d.hav) := blk_cell hd 1
  have c2 : w.cell? ⟨p, 2, none⟩ = some (.int .i64 d.more) := blk_cell hd 2
  have c3 : w.cell? ⟨p, 3, none⟩ = some (.int .u8 d.lo) := blk_cell hd 3
  have c4 : w.cell? ⟨p, 4, none⟩ = some (.int .u8 d.hi) := blk_cell hd 4
  have fz := blk_free hd
  have HD : w.heap[p]? = some (.cells d.cells 60 (0, 0)) := hd
  replace HD := Lib.hid HD
  clear hd
  go_enter Tryd.func43, Tryd.ntmps43
  go_wp2
  all_goals
    apply ret1v rfl rfl
    · simp only [Array.getD_eq_getD_getElem?, List.getElem?_toArray, List.getElem?_cons_succ, List.getElem?_cons_zero, Option.getD_some]; rfl
    refine ⟨_, rfl, ?own, ?gb, ?dec⟩
    case gb => repeat (with_reducible first | refine gb_set ?_ _ _ | refine gb_alloc ?_ _ | exact gb_refl _ _)
    all_goals first | rw [beginD_1 d b (by omega)] | rw [beginD_2 d b (by omega)] | rw [beginD_3 d b (by omega)] | rw [beginD_4 d b (by omega)] | rw [beginD_5 d b (by omega) (by omega) (by omega) (by omega)] | skip
    case dec =>
      apply DecAt_of
      · repeat (with_reducible first | apply blk_set | apply blk_alloc | exact HD.out)
      · first | rfl | (simp only [beq_iff_eq, beq_eq_false_iff_ne, ne_eq] at *; simp [Dec.cells, *]; done)
    case own =>
      simp only [List.length_cons, List.length_nil, List.map_cons, List.map_nil, Nat.zero_add]
      with_reducible first | exact World.ownsRow_nil _ _ _ _ | apply ownsRow_new
      all_goals first | rfl | simp | decide

end Go.Proofs.YtkdicejlfagaeaaDoor
