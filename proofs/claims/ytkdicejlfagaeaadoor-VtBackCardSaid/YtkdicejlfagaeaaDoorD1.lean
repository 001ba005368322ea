/- Plain facts of the decoder. -/
import Derived.Test.YtkdicejlfagaeaaDoorA3
namespace Go.Proofs.YtkdicejlfagaeaaDoor
open Go.RowKit

theorem beginD_ok (d : Dec) (b : Int) (hr : 0 ≤ d.r) (hh : d.hav = 0) (hm : 0 ≤ d.more) (hm4 : d.more ≤ 4) : (beginD d b).1.ok := by
  unfold beginD
  split
  · exact ⟨by simp [hh], by simp [hh]; omega, hm, hr, fun h => absurd hh h, fun h => absurd hh h, fun h => absurd hh h, fun h => absurd hh h⟩
  split
  · exact ⟨by simp, by simp, by simp, by simp; omega, fun _ => by simp; omega, fun _ => by simp, fun _ => by simp, fun _ => by simp⟩
  split
  · exact ⟨by simp, by simp, by simp, by simp; omega, fun _ => by simp; omega, fun _ => by simp, fun _ => by simp only []; split <;> omega, fun _ => by simp only []; split <;> omega⟩
  split
  · exact ⟨by simp, by simp, by simp, by simp; omega, fun _ => by simp; omega, fun _ => by simp, fun _ => by simp only []; split <;> omega, fun _ => by simp only []; split <;> omega⟩
  · exact ⟨by simp [hh], by simp [hh]; omega, hm, hr, fun h => absurd hh h, fun h => absurd hh h, fun h => absurd hh h, fun h => absurd hh h⟩

theorem feedD_ok (d : Dec) (b : Int) (h0 : 0 ≤ b) (h1 : b ≤ 255) (hok : d.ok) : (feedD d b).1.ok := by
  have _ := h0; have _ := h1
  have k0 := hok.h0; have k1 := hok.h1; have k2 := hok.m0; have k3 := hok.r0
  unfold feedD
  split
  · rename_i h; exact beginD_ok d b k3 h k2 (by omega)
  rename_i hh
  have k4 := hok.r1 hh; have k5 := hok.m1 hh; have k6 := hok.lo hh; have k7 := hok.hi hh
  split
  · exact beginD_ok _ b k3 rfl k2 (by simp only []; omega)
  rename_i hb
  split
  · rename_i hm
    refine ⟨by simp only []; omega, by simp only []; omega, by simp only []; omega, by simp only []; omega, fun _ => ?_, fun _ => by simp only []; omega, fun _ => by simp, fun _ => by simp⟩
    simp only []
    have e : d.more.toNat = (d.more - 1).toNat + 1 := by omega
    rw [e, Int.pow_succ] at k4
    have hcase : (d.more - 1).toNat = 1 ∨ (d.more - 1).toNat = 2 := by omega
    rcases hcase with h | h <;> rw [h] at k4 ⊢ <;> omega
  · exact ⟨by simp, by simp only []; omega, by simp only []; omega, by simp only []; omega, fun h => absurd rfl h, fun h => absurd rfl h, fun h => absurd rfl h, fun h => absurd rfl h⟩

theorem byte_le (b : UInt8) : (b.toNat : Int) ≤ 255 := by have := b.toNat_lt; omega
theorem runD_ok : ∀ (l : List UInt8) (d : Dec), d.ok → (runD d l).1.ok
  | [], _, h => h
  | b :: l, d, h => runD_ok l _ (feedD_ok d _ (by omega) (byte_le b) h)
theorem feedD_len (d : Dec) (b : Int) : (feedD d b).2.length ≤ 2 := by
  unfold feedD
  repeat' split
  · have := beginD_len d b; omega
  · have := beginD_len { d with hav := 0 } b; simp; omega
  · simp
  · simp
theorem runD_len : ∀ (l : List UInt8) (d : Dec), (runD d l).2.length ≤ 2 * l.length
  | [], _ => by simp [runD]
  | b :: l, d => by
    have := runD_len l (feedD d b.toNat).1
    have := feedD_len d b.toNat
    simp [runD]; omega
theorem endD_len (d : Dec) : (endD d).2.length ≤ 1 := by unfold endD; split <;> simp
theorem runesB_len (s : ByteArray) : (runes s.data.toList).length ≤ 2 * s.size + 1 := by
  have h1 := runD_len s.data.toList dec0
  have h2 := endD_len (runD dec0 s.data.toList).1
  have h3 : s.data.toList.length = s.size := by simp
  unfold runes; rw [List.length_append]; omega

end Go.Proofs.YtkdicejlfagaeaaDoor
