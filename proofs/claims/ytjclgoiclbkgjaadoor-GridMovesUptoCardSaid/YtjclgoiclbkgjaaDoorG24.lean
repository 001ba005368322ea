/- The examples that stand at the head of each law of package grid: what they come to. -/
import Derived.Test.YtjclgoiclbkgjaaDoorG23
namespace Go.Proofs.YtjclgoiclbkgjaaDoor
open Go.RowKit

def sh1 : Gr := (((newG 3 2 5).put 0 0 ⟨97, 1, plainS⟩).put 1 0 ⟨20013, 2, plainS⟩).put 1 0 ⟨98, 1, plainS⟩
def sh2 : Nat → Gr
  | 0 => newG 4 2 5
  | k + 1 => (sh2 k).put ((k % 4 : Nat) : Int) ((k / 4 : Nat) : Int) ⟨97 + k, 1, plainS⟩
def sh3 : Gr := (sh2 6).setWrap 0 true
def sh4 : Gr × Int × Int := sh3.resize 2 2 1 1 true
def sh5 : Gr × Int × Int := sh4.1.resize 6 2 1 1 true
theorem sh1_text : textL (sh1.row 0).cells = [97, 98] := by kernel_rfl
theorem sh1_cell : sh1.cell 2 0 = ⟨32, 1, plainS⟩ := by kernel_rfl
theorem sh4_pos : sh4.2 = (1, 1) := by kernel_rfl
theorem sh4_t0 : textL (sh4.1.row 0).cells = [99, 100] := by kernel_rfl
theorem sh4_t1 : textL (sh4.1.row 1).cells = [101, 102] := by kernel_rfl
theorem sh4_tm : textL (sh4.1.row (-1)).cells = [97, 98] := by kernel_rfl
theorem sh4_wr : (sh4.1.row (-1)).wrap = true := by kernel_rfl
theorem sh5_pos : sh5.2 = (5, 0) := by kernel_rfl
theorem sh5_t0 : textL (sh5.1.row 0).cells = [97, 98, 99, 100, 101, 102] := by kernel_rfl
theorem sh5_t1 : textL (sh5.1.row 1).cells = [] := by kernel_rfl
theorem sh5_old : sh5.1.old.length = 0 := by kernel_rfl
end Go.Proofs.YtjclgoiclbkgjaaDoor
