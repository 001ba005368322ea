/- Texts laid together: P8 LaidT. -/
import Derived.Test.YtlfdgkiliegaiaaGreatDoorY1
import Derived.Test.YtlfdgkiliegaiaaGreatDoorY3
import Derived.Test.YtlfdgkiliegaiaaGreatDoorY6
import Derived.Test.YtlfdgkiliegaiaaGreatDoorY8
import Derived.Test.YtlfdgkiliegaiaaGreatDoorY9
import Derived.Deep.RegionLaw
import Derived.Deep.DeepCutAuto
import Derived.Test.YtlfdgkiliegaiaaGreatDoorRows
import Derived.Deep.AppendSrc
import Derived.Lib.AppendStr
import Derived.Lib.FrozenHead
import Derived.ArgAppend
import Derived.Laws.IdiomCopy
import Derived.Laws.IdiomStrings
import Derived.Deep.Upon
import Derived.WalkKit
import Derived.WalkSpells
import Derived.WalkLawsBesides
import Derived.BigQuiet
import Derived.Lib.Hide
import Derived.Deep.QuietTactic
import Derived.Lib.AppendIntMem
import Derived.Lib.ItoaNum
import Derived.Laws.EntriesVeiled
import Derived.WalkMore
import Derived.ScopeJumps
import Derived.StillTailTactics
import Derived.Lib.SlBytesConst
import Derived.Test.YtlfdgkiliegaiaaGreatDoorShelf
import Derived.Lib.ItoaLen
import Derived.Laws.Cover4
import Derived.Lib.LaidTab
import Derived.Test.YtlfdgkiliegaiaaGreatDoorCards
import Derived.Test.YtlfdgkiliegaiaaGreatDoorTie
import Derived.ProofKit
import Derived.OpenShut
import Derived.Deep.DeepHandedRow
import Derived.JoinedCond
import Derived.Laws.Bits64b
import Derived.Lib.Builder
import Derived.Lib.RuneBytes
import Derived.Lib.UnsafeStr
import Derived.Lib.SliceRun
set_option linter.unusedVariables false
namespace Go.Proofs.YtlfdgkiliegaiaaGreatDoor
section
open Go.RowKit
theorem zgA {s : PSt} {b : UInt8} (h32 : 32 ≤ (b.toNat : Int)) (hx : s.texts = true ∨ (b.toNat : Int) < 127 ∨ (s.state = 0 ∧ (b.toNat : Int) ≠ 127)) : s.step b = s.took b := by
 have e : s.any1 b = (false, s, []) := by
  unfold PSt.any1;rw [if_neg (by omega), if_neg (by omega), if_neg (by omega)];rw [if_neg (by
   rintro (⟨h1, h2⟩ | ⟨h1, h2⟩)
   ·rcases hx with hx | hx | hx
    ·rw [h2] at hx; simp at hx
    ·omega
    ·omega
   ·omega)]
  rw [if_neg (by omega)];split
  ·rename_i h;rcases hx with hx | hx | hx
   ·rw [h.2] at hx; simp at hx
   ·omega
   ·rw [if_pos hx.1]
  ·rfl
 unfold PSt.step;rw [e];simp
theorem zbl {s s1 : PSt} {b : UInt8} {l : List UInt8} {A : List VAct} (h : s.step b = (s1, A)) : s.run (b :: l) = ((s1.run l).1, A ++ (s1.run l).2) := by
 show (((s.step b).1.run l).1, (s.step b).2 ++ ((s.step b).1.run l).2) = _;rw [h]
theorem zcj {s s1 : PSt} {l m : List UInt8} {A : List VAct} (h : s.run l = (s1, A)) : s.run (l ++ m) = ((s1.run m).1, A ++ (s1.run m).2) := by
 rw [zd3, h]
def PSt.Clear (s : PSt) : Prop := s.state = 0 ∧ s.dec.hav = 0
theorem zkE {s : PSt} (hs : s.Clear) : ∃ s1, s.step 27 = (s1, []) ∧ s1.state = 1 ∧ s1.inter = [] ∧ s1.params = [] ∧ s1.any = false ∧ s1.text = [] ∧ s1.ended = false ∧ s1.dec.hav = 0 := by
 have ht : s.texts = false := (by unfold PSt.texts; rw [hs.1]; rfl);have hd : zaA s.dec = (s.dec, []) := (by unfold zaA; rw [if_pos hs.2]);have hend : s.endActs = [] := (by unfold PSt.endActs; rw [hs.1]; rfl);have ea : s.any1 27 = (true, { ({ s with dec := s.dec } : PSt).begun 1 with ended := s.texts }, []) := by
  unfold PSt.any1;rw [if_neg (by decide), if_pos (by decide), hd, hend];rfl
 refine ⟨{ ({ s with dec := s.dec } : PSt).begun 1 with ended := s.texts }, ?_, rfl, rfl, rfl, rfl, rfl, ht, hs.2⟩;unfold PSt.step;rw [ea]; rfl
theorem zo8 {b : UInt8} : Zd (b.toNat : Int) = true ↔ 32 ≤ (b.toNat : Int) ∧ (b.toNat : Int) ≤ 47 := by
 unfold Zd; simp
theorem zbG {b : UInt8} (h : 48 ≤ (b.toNat : Int)) : Zd (b.toNat : Int) = false := by
 unfold Zd; simp; omega
end
section
open Go.ChangeShapes Go.WideShapes Go.ChangeAt Go.RowKit
theorem zpg : Tryz.prog.globalNamed "internal/strconv.uint64pow10" = some 2 := by kernel_rfl
theorem zpd : (Tryz.prog.globals[2]?).map (·.type) = some 251 := by kernel_rfl
theorem gSp : Tryz.prog.globalNamed "strings.asciiSpace" = some 0 := by kernel_rfl
theorem zpe : (Tryz.prog.globals[0]?).map (·.type) = some 192 := by kernel_rfl
theorem gDb : Tryz.prog.globalNamed "math/bits.deBruijn64tab" = some 4 := by kernel_rfl
theorem zpf : (Tryz.prog.globals[4]?).map (·.type) = some 264 := by kernel_rfl
theorem zms : Tryz.prog.cellsOf 251 = 20 := by kernel_rfl
theorem znE : Tryz.prog.cellsOf 192 = 256 := by kernel_rfl
theorem znF : Tryz.prog.cellsOf 264 = 64 := by kernel_rfl
theorem zkF : Tryz.prog.cellsOf 224 = 1 := by kernel_rfl
theorem zhV : Tryz.prog.cellsOf 5 = 1 := by kernel_rfl
def zor : DataW Unit → Int
 | .lit (.int _ z) => z
 | _ => 0
def znG : DataW Unit → List Int
 | .agg l => l.map zor
 | _ => []
def dbTab : List Int := znG Rows.laid_math_bits_deBruijn64tab
theorem zi7 : (Rows.laid_internal_strconv_uint64pow10 : DataW Unit) = Lib.tabData .u64 Lib.pow10Tab := by kernel_rfl
theorem zkG : (Rows.laid_strings_asciiSpace : DataW Unit) = Lib.tabData .u8 Lib.asciiSpaceTab := by kernel_rfl
theorem zkH : (Rows.laid_math_bits_deBruijn64tab : DataW Unit) = Lib.tabData .u8 dbTab := by kernel_rfl
theorem zpc : dbTab.length = 64 ∧ dbTab.getD 15 0 = 4 := by decide +kernel
theorem zfh {W : World} (h : laidMetH Tryz.prog [("math/bits.deBruijn32tab", Rows.laid_math_bits_deBruijn32tab), ("math/bits.deBruijn64tab", Rows.laid_math_bits_deBruijn64tab), ("internal/strconv.uint64pow10", Rows.laid_internal_strconv_uint64pow10), ("unicode.White_Space", Rows.laid_unicode_White_Space), ("strings.asciiSpace", Rows.laid_strings_asciiSpace)] W) : zcx W := by
 have h' : laidMet Tryz.prog [("math/bits.deBruijn32tab", Rows.laid_math_bits_deBruijn32tab), ("math/bits.deBruijn64tab", Rows.laid_math_bits_deBruijn64tab), ("internal/strconv.uint64pow10", Rows.laid_internal_strconv_uint64pow10), ("unicode.White_Space", Rows.laid_unicode_White_Space), ("strings.asciiSpace", Rows.laid_strings_asciiSpace)] W := h;obtain ⟨_, ⟨_, _, _, _, _, _, _, _, _, _, r1, _⟩, _⟩ := h';obtain ⟨g1, t1, cs1, fu1, p1, q1, hg1, ht1, hv1, hd1, r2, _⟩ := r1;obtain ⟨g2, t2, cs2, fu2, p2, q2, hg2, ht2, hv2, hd2, r3, _⟩ := r2;obtain ⟨_, _, _, _, _, _, _, _, _, _, r4, _⟩ := r3;obtain ⟨g4, t4, cs4, fu4, p4, q4, hg4, ht4, hv4, hd4, _, _⟩ := r4;obtain rfl := Option.some.inj (gDb.symm.trans hg1);obtain rfl := Option.some.inj (zpf.symm.trans ht1);obtain rfl := Option.some.inj (zpg.symm.trans hg2);obtain rfl := Option.some.inj (zpd.symm.trans ht2);obtain rfl := Option.some.inj (gSp.symm.trans hg4);obtain rfl := Option.some.inj (zpe.symm.trans ht4);rw [zkH] at hd1;rw [zi7] at hd2;rw [zkG] at hd4;have hdb : Lib.TabIs Tryz.prog W "math/bits.deBruijn64tab" .u8 dbTab := by
  unfold Lib.TabIs;rw [hv1, ← Lib.cells_of_tab Tryz.underlying264 Tryz.underlying5 zhV znF hd1]
 refine ⟨Lib.tabBelow_of_tabIs ?_, Lib.tabBelow_of_tabIs ?_, fun w' hb => ?_⟩
 ·unfold Lib.TabIs;rw [hv4, ← Lib.cells_of_tab Tryz.underlying192 Tryz.underlying5 zhV znE hd4]
 ·unfold Lib.TabIs;rw [hv2, ← Lib.cells_of_tab Tryz.underlying251 Tryz.underlying224 zkF zms hd2]
 ·have h5 := (Lib.tabBelow_of_tabIs hdb w' hb).cell gDb 15 (by rw [zpc.1]; decide);rw [zpc.2] at h5;exact h5
end
end Go.Proofs.YtlfdgkiliegaiaaGreatDoor
