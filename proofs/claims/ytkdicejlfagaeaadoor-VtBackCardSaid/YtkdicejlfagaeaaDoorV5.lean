/- Walks of mullionref5: digits, head, One, Print. -/
import Derived.Test.YtkdicejlfagaeaaDoorV4
namespace Go.Proofs.YtkdicejlfagaeaaDoor
open Go.RowKit

/-- The reference's digits. -/
theorem itoa_of (n : Nat) : Lib.itoa (n : Int) = Lib.decDigits n := Lib.itoa_nonneg n
theorem dec_step (n : Nat) (h : ¬ n < 10) : Lib.decDigits n = Lib.decDigits (n / 10) ++ [UInt8.ofNat (48 + n % 10)] := by
  rw [Lib.decDigits, dif_neg h]
theorem dec_pre (n : Nat) : Lib.decDigits n = (if n / 10 = 0 then [] else Lib.decDigits (n / 10)) ++ [UInt8.ofNat (48 + n % 10)] := by
  by_cases h : n < 10
  · rw [Lib.decDigits_one h, if_pos (by omega), Nat.mod_eq_of_lt h]; rfl
  · rw [if_neg (by omega)]; exact dec_step n h
theorem conv_one (w : World) (b : UInt8) (x : Int) (hx : x = (b.toNat : Int)) : (convert 24 9 (.slice (some ⟨w.heap.size, 0, none⟩) 1 1)).run Tryd.prog (w.alloc (.cells #[.int .u8 x] 5)) = .ok (.string ⟨#[b]⟩) (w.alloc (.cells #[.int .u8 x] 5)) := by
  subst hx
  exact run_bytes_reads (l := [b]) Tryd.underlying24 Tryd.underlying5 Tryd.underlying9 (reads_one w (.int .u8 (b.toNat : Int)) 5)
theorem dig_byte (m : Nat) : 48 + (m : Int) % 10 = ((UInt8.ofNat (48 + m % 10)).toNat : Int) := by
  rw [byte_of _ (by omega)]; omega
theorem str_of {s : ByteArray} {l : List UInt8} (h : s.data.toList = l) : s = ⟨l.toArray⟩ := by
  subst h; rfl
def DigB (k m : Nat) : Prop := (k = 0 ∧ m ≤ 9999) ∨ (k = 1 ∧ m ≤ 999) ∨ (k = 2 ∧ m ≤ 99) ∨ (k = 3 ∧ m ≤ 9) ∨ (k = 4 ∧ m = 0)
set_option maxRecDepth 100000 in
theorem digits_any (x : Int) (w : World) (h0 : 0 ≤ x) (h1 : x ≤ 9999) :
    Calls Tryd.prog 42 #[.int .i64 x] w fun e w' => e = .returned (.string ⟨(Lib.itoa x).toArray⟩) ∧ Below w.heap.size w w' := by
  obtain ⟨n, rfl⟩ : ∃ n : Nat, x = (n : Int) := ⟨x.toNat, by omega⟩
  go_enter Tryd.func42, Tryd.ntmps42
  go_wp2_with fail
  go_loopw [0, 3] (fun iv sv wr => ∃ (m : Nat) (s : ByteArray), iv = .int .i64 m ∧ sv = .string s ∧ m ≤ 9999 ∧ s.size ≤ 4 ∧ Below w.heap.size w wr ∧ DigB s.size m ∧
    Hid ((s.size = 0 ∧ m = n) ∨ (s.size ≠ 0 ∧ Lib.decDigits n = (if m = 0 then [] else Lib.decDigits m) ++ s.data.toList))) (fun iv sv _ => (intOf iv).toNat + (match sv with | .string s => if s.size = 0 then 1 else 0 | _ => 0))
  case atStart => exact ⟨n, ByteArray.empty, rfl, rfl, by omega, by decide, Below.refl _ _, by unfold DigB; left; exact ⟨rfl, by omega⟩, .inl ⟨rfl, rfl⟩⟩
  case round =>
    obtain ⟨m, s, rfl, rfl, hm, hs, hb, hsm, HI⟩ := hrel
    have HB := Lib.hid hb
    clear hb
    have hcb := conv_one wr _ _ (dig_byte m)
    by_cases hz : s.size = 0
    · have hem : s = ByteArray.empty := by apply ByteArray.ext; apply Array.ext'; exact List.eq_nil_of_length_eq_zero (by simpa using hz)
      subst hem
      have HN := Lib.hid (show Lib.decDigits n = (if m / 10 = 0 then [] else Lib.decDigits (m / 10)) ++ [UInt8.ofNat (48 + m % 10)] by
        rcases HI.out with ⟨_, rfl⟩ | ⟨h, _⟩
        · exact dec_pre _
        · exact absurd rfl h)
      generalize hbb : UInt8.ofNat (48 + m % 10) = bb at *
      clear hbb HI hs hsm hz
      go_wp2_with fail
      go_roundw
      case rel =>
        refine ⟨m / 10, ⟨#[bb]⟩ ++ ByteArray.empty, ?_, rfl, by omega, by show 1 ≤ 4; decide, HB.out.alloc HB.out.size _, ?_, .inr ⟨by show ¬ (1 = 0); decide, ?_⟩⟩
        · go_num
        · show DigB 1 (m / 10); unfold DigB; omega
        · rw [HN.out]; rfl
      case measure =>
        simp only [intOf]
        show _ + (if (⟨#[bb]⟩ ++ ByteArray.empty : ByteArray).size = 0 then 1 else 0) < _ + (if ByteArray.empty.size = 0 then 1 else 0)
        rw [if_neg (by show ¬ (1 = 0); decide), if_pos (show ByteArray.empty.size = 0 from rfl)]
        omega
    · have hne := ne_empty s hz
      have hne' : s.toList.isEmpty = false := by simpa using hne
      have HI2 := Lib.hid (show Lib.decDigits n = (if m = 0 then [] else Lib.decDigits m) ++ s.data.toList by
        rcases HI.out with ⟨h, _⟩ | ⟨_, h⟩
        · exact absurd h hz
        · exact h)
      clear HI
      by_cases hm0 : m = 0
      · subst hm0
        go_wp2_with fail
        go_ret
        refine ⟨?_, HB.out⟩
        have := HI2.out
        simp only [if_true, List.nil_append] at this
        rw [itoa_of, this]
        rfl
      · have hm1 : decide (0 < m) = true := decide_eq_true (by omega)
        have HN := Lib.hid (show Lib.decDigits n = (if m / 10 = 0 then [] else Lib.decDigits (m / 10)) ++ ([UInt8.ofNat (48 + m % 10)] ++ s.data.toList) by
          rw [HI2.out, if_neg hm0, ← List.append_assoc]
          congr 1
          exact dec_pre m)
        have hs3 : s.size ≤ 3 := by unfold DigB at hsm; omega
        have hbig : ¬ (9223372036854775807 < 1 + s.size) := by omega
        generalize hbb : UInt8.ofNat (48 + m % 10) = bb at *
        clear hbb HI2
        replace hsm := Lib.hid hsm
        go_wp2_with fail
        go_roundw
        case rel =>
          refine ⟨m / 10, ⟨#[bb]⟩ ++ s, ?_, rfl, by omega, ?_, HB.out.alloc HB.out.size _, ?_, .inr ⟨?_, ?_⟩⟩
          · go_num
          · rw [ByteArray.size_append]; show 1 + s.size ≤ 4; omega
          · rw [ByteArray.size_append]; show DigB (1 + s.size) (m / 10); have := hsm.out; unfold DigB at this ⊢; omega
          · rw [ByteArray.size_append]; show ¬ 1 + s.size = 0; omega
          · rw [HN.out, cat_list]
        case measure => simp [intOf, hz]; omega
end Go.Proofs.YtkdicejlfagaeaaDoor
