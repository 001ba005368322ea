import Derived.Test.YtjclgoiclbkgjaaDoorK19
import Derived.Test.YtjclgoiclbkgjaaDoorK15
import Derived.Lib.LaidTab
/- What the rows' list of variables gives: the tables that style.Name reads. -/
namespace Go.Proofs.YtjclgoiclbkgjaaDoor
open Go.ChangeShapes Go.WideShapes Go.ChangeAt Go.RowKit

theorem gPow : Tryd.prog.globalNamed "internal/strconv.uint64pow10" = some 2 := by kernel_rfl
theorem gPowType : (Tryd.prog.globals[2]?).map (·.type) = some 142 := by kernel_rfl
theorem gSp : Tryd.prog.globalNamed "strings.asciiSpace" = some 0 := by kernel_rfl
theorem gSpType : (Tryd.prog.globals[0]?).map (·.type) = some 115 := by kernel_rfl
theorem gDb : Tryd.prog.globalNamed "math/bits.deBruijn64tab" = some 4 := by kernel_rfl
theorem gDbType : (Tryd.prog.globals[4]?).map (·.type) = some 149 := by kernel_rfl
theorem cellsPow : Tryd.prog.cellsOf 142 = 20 := by kernel_rfl
theorem cellsSp : Tryd.prog.cellsOf 115 = 256 := by kernel_rfl
theorem cellsDb : Tryd.prog.cellsOf 149 = 64 := by kernel_rfl
theorem cellsU64T : Tryd.prog.cellsOf 124 = 1 := by kernel_rfl
theorem cellsU8T : Tryd.prog.cellsOf 5 = 1 := by kernel_rfl
def litInt : DataW Unit → Int
  | .lit (.int _ z) => z
  | _ => 0
def aggInts : DataW Unit → List Int
  | .agg l => l.map litInt
  | _ => []
def dbTab : List Int := aggInts Rows.laid_math_bits_deBruijn64tab
theorem powData_eq : (Rows.laid_internal_strconv_uint64pow10 : DataW Unit) = Lib.tabData .u64 Lib.pow10Tab := by kernel_rfl
theorem spData_eq : (Rows.laid_strings_asciiSpace : DataW Unit) = Lib.tabData .u8 Lib.asciiSpaceTab := by kernel_rfl
theorem dbData_eq : (Rows.laid_math_bits_deBruijn64tab : DataW Unit) = Lib.tabData .u8 dbTab := by kernel_rfl
theorem dbTab_at : dbTab.length = 64 ∧ dbTab.getD 15 0 = 4 := by decide +kernel
theorem tabs_of {W : World} (h : laidMetH Tryd.prog [("math/bits.deBruijn32tab", Rows.laid_math_bits_deBruijn32tab), ("math/bits.deBruijn64tab", Rows.laid_math_bits_deBruijn64tab), ("internal/strconv.uint64pow10", Rows.laid_internal_strconv_uint64pow10), ("unicode.White_Space", Rows.laid_unicode_White_Space), ("strings.asciiSpace", Rows.laid_strings_asciiSpace)] W) : Tabs W := by
  have h' : laidMet Tryd.prog [("math/bits.deBruijn32tab", Rows.laid_math_bits_deBruijn32tab), ("math/bits.deBruijn64tab", Rows.laid_math_bits_deBruijn64tab), ("internal/strconv.uint64pow10", Rows.laid_internal_strconv_uint64pow10), ("unicode.White_Space", Rows.laid_unicode_White_Space), ("strings.asciiSpace", Rows.laid_strings_asciiSpace)] W := h
  obtain ⟨_, ⟨_, _, _, _, _, _, _, _, _, _, r1, _⟩, _⟩ := h'
  obtain ⟨g1, t1, cs1, fu1, p1, q1, hg1, ht1, hv1, hd1, r2, _⟩ := r1
  obtain ⟨g2, t2, cs2, fu2, p2, q2, hg2, ht2, hv2, hd2, r3, _⟩ := r2
  obtain ⟨_, _, _, _, _, _, _, _, _, _, r4, _⟩ := r3
  obtain ⟨g4, t4, cs4, fu4, p4, q4, hg4, ht4, hv4, hd4, _, _⟩ := r4
  obtain rfl := Option.some.inj (gDb.symm.trans hg1)
  obtain rfl := Option.some.inj (gDbType.symm.trans ht1)
  obtain rfl := Option.some.inj (gPow.symm.trans hg2)
  obtain rfl := Option.some.inj (gPowType.symm.trans ht2)
  obtain rfl := Option.some.inj (gSp.symm.trans hg4)
  obtain rfl := Option.some.inj (gSpType.symm.trans ht4)
  rw [dbData_eq] at hd1
  rw [powData_eq] at hd2
  rw [spData_eq] at hd4
  have hdb : Lib.TabIs Tryd.prog W "math/bits.deBruijn64tab" .u8 dbTab := by
    unfold Lib.TabIs
    rw [hv1, ← Lib.cells_of_tab Tryd.underlying149 Tryd.underlying5 cellsU8T cellsDb hd1]
  refine ⟨Lib.tabBelow_of_tabIs ?_, Lib.tabBelow_of_tabIs ?_, fun w' hb => ?_⟩
  · unfold Lib.TabIs
    rw [hv4, ← Lib.cells_of_tab Tryd.underlying115 Tryd.underlying5 cellsU8T cellsSp hd4]
  · unfold Lib.TabIs
    rw [hv2, ← Lib.cells_of_tab Tryd.underlying142 Tryd.underlying124 cellsU64T cellsPow hd2]
  · have h5 := (Lib.tabBelow_of_tabIs hdb w' hb).cell gDb 15 (by rw [dbTab_at.1]; decide)
    rw [dbTab_at.2] at h5
    exact h5
end Go.Proofs.YtjclgoiclbkgjaaDoor
