/- The reference's Fit; the law CellTexts' walk. -/
import Derived.Test.YthildbehkmhioaaB5
import Derived.Test.YthildbehkmhioaaOwn
namespace Go.Proofs.Ythildbehkmhioaa
open Go.RowKit

def byteVals (l : List UInt8) : List Value := l.map fun b => Value.int .u8 (b.toNat : Int)
theorem conv_nil_bytes (w : World) : (convert 54 9 (.slice none 0 0)).run Try.prog w = .ok (.string ⟨#[]⟩) w := by
  rw [run_convert_bytes_string w 54 9 5 none 0 0 Try.underlying54 Try.underlying5 Try.underlying9]
  rfl
theorem run_bytes_own {w : World} {base : Nat} {v : Value} {l : List UInt8} (h : OwnC w base 1 v l.length (byteVals l)) :
    (convert 54 9 v).run Try.prog w = .ok (.string ⟨l.toArray⟩) w := by
  rcases h.2 with ⟨rfl, hn⟩ | ⟨b, off, cap, rfl, _, _, _, _, _, h6⟩
  · have : l = [] := List.eq_nil_of_length_eq_zero hn
    subst this
    exact conv_nil_bytes w
  · exact run_convert_bytes_back w 54 9 5 ⟨b, off, none⟩ cap l Try.underlying54 Try.underlying5 Try.underlying9 (fun j hj => by
      rw [add_eq]; exact h6 j _ (by unfold byteVals; rw [List.getElem?_map, List.getElem?_eq_getElem hj]; rfl))

set_option maxHeartbeats 2000000 in
theorem refFit_any (s : ByteArray) (n : Int) (w : World) (hs : s.size ≤ 68719476736) :
    Calls Try.prog 28 #[.string s, .int .i64 n] w fun e w' => e = .returned (.string (fitT s.data.toList n)) ∧ Below w.heap.size w w' := by
  have HF := Lib.hid (show fitT s.data.toList n = cutT s.data.toList (min n 10000) ++ spaces (min n 10000 - cols (runes (cutT s.data.toList (min n 10000)).data.toList)).toNat from rfl)
  have hc0 := cutT_size s.data.toList (min n 10000)
  have hc1 := runesB_len s
  have hl1 := runesB_len (cutT s.data.toList (min n 10000))
  have hr1 := cols_range (runes (cutT s.data.toList (min n 10000)).data.toList)
  go_enter Try.func28, Try.ntmps28
  go_wp2_with fail
  refine (refCut_any s _ _ (by omega)).mono ?_
  rintro e w1 ⟨rfl, hb1⟩
  have HB1 := Lib.hid hb1
  clear hb1
  generalize hm : min n 10000 = m at *
  have hm2 : m ≤ 10000 := by omega
  have HM := Lib.hid hm
  clear hm
  generalize cutT s.data.toList m = c at *
  obtain ⟨v, w2, hcv, ho, hg⟩ := conv_bytes (P := Try.prog) w1 9 54 5 c Try.underlying9 Try.underlying54 Try.underlying5 (by unfold maxLen; omega)
  have HO := Lib.hid ho
  have HB2 := Lib.hid (HB1.out.grown hg HB1.out.size (by intro k hk; simp at hk))
  clear ho hg
  go_wp2_with fail
  refine (refColumns_any _ _ (by omega)).mono ?_
  rintro e w3 ⟨rfl, b3⟩
  have HB3 := Lib.hid (HB2.out.trans (b3.mono HB2.out.size))
  have HO3 := Lib.hid (ownC_mono (ownC_below HO.out b3) HB1.out.size)
  clear b3 HO
  generalize cols (runes c.data.toList) = x at *
  go_wp2_with fail
  have hxs := encS_size
  go_loopw [6, 7] (fun bv iv wr => ∃ j : Nat, iv = .int .i64 (x + j) ∧ j ≤ (m - x).toNat ∧ Below w.heap.size w wr ∧
    OwnC wr w.heap.size 1 bv (c.data.toList ++ List.replicate j 32).length (byteVals (c.data.toList ++ List.replicate j 32))) (fun _ iv _ => (m - intOf iv).toNat)
  case atStart =>
    refine ⟨0, by simp, by omega, HB3.out, ?_⟩
    have := HO3.out
    rw [show c.data.toList ++ List.replicate 0 32 = c.data.toList by simp]
    rw [show c.data.toList.length = c.size by rw [Array.length_toList]; rfl]
    exact this
  case round =>
    obtain ⟨j, rfl, hj, hb, ho⟩ := hrel
    have HB := Lib.hid hb
    have HO := Lib.hid ho
    have hcl : (c.data.toList ++ List.replicate j 32).length = c.size + j := by
      rw [List.length_append, List.length_replicate, Array.length_toList]; rfl
    rw [hcl] at HO
    have HCL := Lib.hid hcl
    clear hb ho hcl hxs
    by_cases hlt : x + j < m
    · have HBS := Lib.hid HB.out.size
      go_wp2_with (at_builtin; refine held ?_)
      unfold Held
      refine wpList_appC bytes_elem rfl rfl w.heap.size (ownC_alloc HO.out _) rfl (reads_one _ _ _) rfl (int_one _ _) (by unfold maxLen; omega) (by omega) (by have := HBS.out; simp; omega) ?_
      intro bv w5 o5 g5
      have B5 := Lib.hid ((HB.out.alloc HB.out.size _).grown g5 (by have := HB.out.size; simp; omega) (fun q hq => (ownC_lt HO.out q hq).1))
      have O5 := Lib.hid o5
      clear o5 g5
      go_wp2_with fail
      go_roundw
      case rel =>
        refine ⟨j + 1, int_eq (by omega), by omega, B5.out, ?_⟩
        have h1 : c.data.toList ++ List.replicate (j + 1) 32 = (c.data.toList ++ List.replicate j 32) ++ [32] := by rw [List.replicate_succ', List.append_assoc]
        rw [h1, List.length_append, HCL.out, List.length_singleton]
        unfold byteVals
        rw [List.map_append]
        exact O5.out
      case measure => simp [intOf]; omega
    · have hj2 : j = (m - x).toNat := by omega
      have hcv2 := run_bytes_own (by rw [HCL.out]; exact HO.out)
      have HF2 := Lib.hid (show fitT s.data.toList n = ⟨(c.data.toList ++ List.replicate j 32).toArray⟩ by
        rw [HF.out, hj2]
        apply ByteArray.ext
        apply Array.ext'
        simp [spaces])
      clear hj2
      go_wp2_with fail
      go_ret
      exact ⟨ret_str HF2.out.symm, HB.out⟩
end Go.Proofs.Ythildbehkmhioaa
