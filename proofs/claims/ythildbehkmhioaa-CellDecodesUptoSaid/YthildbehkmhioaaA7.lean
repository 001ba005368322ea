/- Walks of package cell: Fit. -/
import Derived.Test.YthildbehkmhioaaA6
import Derived.Test.YthildbehkmhioaaShelf
namespace Go.Proofs.Ythildbehkmhioaa
open Go.RowKit

def spaces (k : Nat) : ByteArray := ⟨(List.replicate k 32).toArray⟩
theorem repeatL_one : ∀ c : Nat, Lib.repeatL [32] c = List.replicate c 32
  | 0 => rfl
  | c + 1 => by rw [Lib.repeatL, repeatL_one c]; rfl
/-- cell.Fit. -/
def fitT (l : List UInt8) (n : Int) : ByteArray :=
  cutT l (min n 10000) ++ spaces (min n 10000 - cols (runes (cutT l (min n 10000)).data.toList)).toNat
theorem cutT_size (l : List UInt8) (n : Int) : (cutT l n).size ≤ 4 * (runes l).length := by
  unfold cutT
  rw [encS_size]
  have := encAll_le ((runes l).take (cutN (runes l) n))
  have h3 : ((runes l).take (cutN (runes l) n)).length ≤ (runes l).length := by rw [List.length_take]; omega
  omega
theorem cutT_neg (l : List UInt8) (n : Int) (h : n < 0) : cols (runes (cutT l n).data.toList) = 0 := by
  unfold cutT; rw [cutN_neg _ _ h]; rfl
set_option maxHeartbeats 1000000 in
theorem fit_any (s : ByteArray) (n : Int) (w : World) (hs : s.size ≤ 68719476736) (hn0 : -9223372036854775808 ≤ n) (hn : n ≤ 9223372036854775807) :
    Calls Try.prog 27 #[.string s, .int .i64 n] w fun e w' => e = .returned (.string (fitT s.data.toList n)) ∧ Below w.heap.size w w' := by
  have HF := Lib.hid (show fitT s.data.toList n = cutT s.data.toList (min n 10000) ++ spaces (min n 10000 - cols (runes (cutT s.data.toList (min n 10000)).data.toList)).toNat from rfl)
  have hc0 := cutT_size s.data.toList (min n 10000)
  have hc1 := runesB_len s
  have hc2 := cutT_neg s.data.toList (min n 10000)
  have hl1 := runesB_len (cutT s.data.toList (min n 10000))
  have hr1 := cols_range (runes (cutT s.data.toList (min n 10000)).data.toList)
  have hlow : -9223372036854775808 ≤ min n 10000 - cols (runes (cutT s.data.toList (min n 10000)).data.toList) := by
    by_cases h : min n 10000 < 0
    · rw [hc2 h]; omega
    · omega
  clear hc2
  go_enter Try.func27, Try.ntmps27
  go_wp2_with fail
  refine (cut_any s _ _ (by omega) (by omega)).mono ?_
  rintro e w1 ⟨rfl, hb1⟩
  have HB1 := Lib.hid hb1
  clear hb1
  go_wp2_with fail
  refine (columns_any _ _ (by omega)).mono ?_
  rintro e w2 ⟨rfl, hb2⟩
  have HB2 := Lib.hid (HB1.out.trans (hb2.mono HB1.out.size))
  clear hb2
  have hK : ∃ K : Nat, max (min n 10000 - cols (runes (cutT s.data.toList (min n 10000)).data.toList)) 0 = (K : Int) ∧ (min n 10000 - cols (runes (cutT s.data.toList (min n 10000)).data.toList)).toNat = K ∧ K ≤ 10000 :=
    ⟨(min n 10000 - cols (runes (cutT s.data.toList (min n 10000)).data.toList)).toNat, by omega, rfl, by omega⟩
  obtain ⟨K, hK1, hK2, hK3⟩ := hK
  rw [hK2] at HF
  have HK := Lib.hid hK1
  clear hK1 hK2
  go_wp2_with fail
  rw [HK.out]
  refine (Try.strings_Repeat ⟨#[32]⟩ K _ (by omega) (by show 1 * K ≤ _; omega)).mono ?_
  rintro e w3 ⟨rfl, hb3⟩
  have HB3 := Lib.hid (HB2.out.trans (hb3.mono HB2.out.size))
  clear hb3
  have hl3 : (Lib.repeatL [32] K).length ≤ K := by rw [repeatL_one]; simp
  go_wp2_with fail
  go_ret
  refine ⟨ret_str ?_, HB3.out⟩
  rw [HF.out, spaces, ← repeatL_one]
end Go.Proofs.Ythildbehkmhioaa
