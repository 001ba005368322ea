/- Walks of package vtparse: the small ones. -/
import Derived.Test.YtkdicejlfagaeaaDoorOwn2
import Derived.Test.YtkdicejlfagaeaaDoorD1
namespace Go.Proofs.YtkdicejlfagaeaaDoor
open Go.RowKit

def onlyL (l : List UInt8) (lo hi : Int) : Bool := l.all fun b => decide (lo ≤ (b.toNat : Int)) && decide ((b.toNat : Int) ≤ hi)
theorem only_take (l : List UInt8) (lo hi : Int) (k : Nat) (h : k < l.length) : onlyL (l.take (k + 1)) lo hi = (onlyL (l.take k) lo hi && (decide (lo ≤ (l[k].toNat : Int)) && decide ((l[k].toNat : Int) ≤ hi))) := by
  unfold onlyL
  rw [List.take_succ_eq_append_getElem h, List.all_append]; simp
theorem only_hit (l : List UInt8) (lo hi : Int) (k : Nat) (h : k < l.length) (h2 : (l[k].toNat : Int) < lo ∨ hi < (l[k].toNat : Int)) : onlyL l lo hi = false := by
  unfold onlyL
  rw [List.all_eq_false]
  refine ⟨l[k], List.getElem_mem h, ?_⟩
  simp; omega

theorem only_any (s : ByteArray) (lo hi : Int) (w : World) (hs : s.size ≤ 4611686018427387904) :
    Calls Tryd.prog 28 #[.string s, .int .u8 lo, .int .u8 hi] w fun e w' => e = .returned (.bool (onlyL s.data.toList lo hi)) ∧ w' = w := by
  go_enter Tryd.func28, Tryd.ntmps28
  go_wp2_with fail
  go_loopw [10] (fun i wr => ∃ k : Nat, k ≤ s.size ∧ i = .int .i64 k ∧ wr = w ∧ Hid (onlyL (s.data.toList.take k) lo hi = true)) (fun i _ => s.size - (intOf i).toNat)
  case atStart => exact ⟨0, by omega, rfl, rfl, rfl⟩
  case round =>
    obtain ⟨k, hk, rfl, rfl, hO⟩ := hrel
    by_cases hlt : k < s.size
    · have hlt' : k < s.data.toList.length := by simpa using hlt
      have Hsnoc := Lib.hid (only_take s.data.toList lo hi k hlt')
      have Hhit := Lib.hid (only_hit s.data.toList lo hi k hlt')
      have hbyte : s.data.toList[k] = s[k] := rfl
      rw [hbyte] at Hsnoc Hhit
      clear hbyte
      by_cases h1 : (s[k].toNat : Int) < lo
      · go_wp2_with fail
        go_ret
        exact ⟨ret_bool (Hhit.out (.inl h1)).symm, by trivial⟩
      by_cases h2 : hi < (s[k].toNat : Int)
      · go_wp2_with fail
        go_ret
        exact ⟨ret_bool (Hhit.out (.inr h2)).symm, by trivial⟩
      have H12 := Lib.hid (And.intro h1 h2)
      go_wp2_with fail
      go_roundw
      case rel =>
        refine ⟨k + 1, by omega, rfl, by trivial, ?_⟩
        have h3 := H12.out
        show onlyL _ _ _ = true
        rw [Hsnoc.out, hO.out]
        simp; omega
      case measure => simp [intOf]; omega
    · have hk2 : k = s.data.toList.length := by rw [Array.length_toList]; have : s.data.size = s.size := rfl; omega
      have H := Lib.hid (show onlyL s.data.toList lo hi = true by have := hO.out; rwa [hk2, List.take_length] at this)
      clear hk2
      go_wp2_with fail
      go_ret
      exact ⟨ret_bool H.out.symm, by trivial⟩
theorem onlyR_any (s : ByteArray) (lo hi : Int) (w : World) (hs : s.size ≤ 4611686018427387904) :
    Calls Tryd.prog 29 #[.string s, .int .u8 lo, .int .u8 hi] w fun e w' => e = .returned (.bool (onlyL s.data.toList lo hi)) ∧ w' = w := by
  go_enter Tryd.func29, Tryd.ntmps29
  go_wp2_with fail
  go_loopw [7] (fun i wr => ∃ k : Nat, k ≤ s.size ∧ i = .int .i64 k ∧ wr = w ∧ Hid (onlyL (s.data.toList.take k) lo hi = true)) (fun i _ => s.size - (intOf i).toNat)
  case atStart => exact ⟨0, by omega, rfl, rfl, rfl⟩
  case round =>
    obtain ⟨k, hk, rfl, rfl, hO⟩ := hrel
    by_cases hlt : k < s.size
    · have hlt' : k < s.data.toList.length := by simpa using hlt
      have Hsnoc := Lib.hid (only_take s.data.toList lo hi k hlt')
      have Hhit := Lib.hid (only_hit s.data.toList lo hi k hlt')
      have hbyte : s.data.toList[k] = s[k] := rfl
      rw [hbyte] at Hsnoc Hhit
      clear hbyte
      by_cases h1 : (s[k].toNat : Int) < lo
      · go_wp2_with fail
        go_ret
        exact ⟨ret_bool (Hhit.out (.inl h1)).symm, by trivial⟩
      by_cases h2 : hi < (s[k].toNat : Int)
      · go_wp2_with fail
        go_ret
        exact ⟨ret_bool (Hhit.out (.inr h2)).symm, by trivial⟩
      have H12 := Lib.hid (And.intro h1 h2)
      go_wp2_with fail
      go_roundw
      case rel =>
        refine ⟨k + 1, by omega, rfl, by trivial, ?_⟩
        have h3 := H12.out
        show onlyL _ _ _ = true
        rw [Hsnoc.out, hO.out]
        simp; omega
      case measure => simp [intOf]; omega
    · have hk2 : k = s.data.toList.length := by rw [Array.length_toList]; have : s.data.size = s.size := rfl; omega
      have H := Lib.hid (show onlyL s.data.toList lo hi = true by have := hO.out; rwa [hk2, List.take_length] at this)
      clear hk2
      go_wp2_with fail
      go_ret
      exact ⟨ret_bool H.out.symm, by trivial⟩

def betweenL (b : Int) : Bool := decide (32 ≤ b) && decide (b ≤ 47)
def beginsL (b : Int) : Bool := b == 91 || b == 93 || b == 80 || b == 88 || b == 94 || b == 95
def betweensL (l : List UInt8) : Bool := decide (l.length ≤ 2) && onlyL l 32 47
theorem betweens_any (s : ByteArray) (w : World) (hs : s.size ≤ 4611686018427387904) :
    Calls Tryd.prog 25 #[.string s] w fun e w' => e = .returned (.bool (betweensL s.data.toList)) ∧ w' = w := by
  have hl : s.data.toList.length = s.size := by rw [Array.length_toList]; rfl
  have HB := Lib.hid (show betweensL s.data.toList = (decide (s.size ≤ 2) && onlyL s.data.toList 32 47) by unfold betweensL; rw [hl])
  clear hl
  by_cases h : s.size ≤ 2
  · go_enter Tryd.func25, Tryd.ntmps25
    go_wp2_with fail
    refine (only_any s 32 47 _ hs).mono ?_
    rintro e w2 ⟨rfl, rfl⟩
    go_wp2_with fail
    go_ret
    exact ⟨ret_bool (by rw [HB.out]; simp [h]), by trivial⟩
  · go_enter Tryd.func25, Tryd.ntmps25
    go_wp2_with fail
    go_ret
    exact ⟨ret_bool (by rw [HB.out]; simp [h]), by trivial⟩
theorem between_any (b : Int) (w : World) :
    Calls Tryd.prog 44 #[.int .u8 b] w fun e w' => e = .returned (.bool (betweenL b)) ∧ w' = w := by
  have HB := Lib.hid (show betweenL b = (decide (32 ≤ b) && decide (b ≤ 47)) from rfl)
  by_cases h : 32 ≤ b
  all_goals
    go_enter Tryd.func44, Tryd.ntmps44
    go_wp2_with fail
    go_ret
    exact ⟨ret_bool (by rw [HB.out]; simp [h] <;> omega), by trivial⟩
theorem flag_any (b : Bool) (w : World) :
    Calls Tryd.prog 39 #[.bool b] w fun e w' => e = .returned (.int .i64 (if b then 1 else 0)) ∧ w' = w := by
  cases b
  all_goals
    go_enter Tryd.func39, Tryd.ntmps39
    go_wp2_with fail
    go_ret
    exact ⟨rfl, by trivial⟩
theorem begins_any (b : Int) (w : World) :
    Calls Tryd.prog 26 #[.int .u8 b] w fun e w' => e = .returned (.bool (beginsL b)) ∧ w' = w := by
  by_cases h : b = 91 ∨ b = 93 ∨ b = 80 ∨ b = 88 ∨ b = 94 ∨ b = 95
  · rcases h with rfl | rfl | rfl | rfl | rfl | rfl
    all_goals
      go_enter Tryd.func26, Tryd.ntmps26
      go_wp2_with fail
      go_ret
      exact ⟨rfl, by trivial⟩
  · have H := Lib.hid (show beginsL b = false by unfold beginsL; simp; omega)
    have h1 : (b == 91) = false := by simp; omega
    have h2 : (b == 93) = false := by simp; omega
    have h3 : (b == 80) = false := by simp; omega
    have h4 : (b == 88) = false := by simp; omega
    have h5 : (b == 94) = false := by simp; omega
    have h6 : (b == 95) = false := by simp; omega
    clear h
    go_enter Tryd.func26, Tryd.ntmps26
    go_wp2_with fail
    go_ret
    exact ⟨ret_bool H.out.symm, by trivial⟩
end Go.Proofs.YtkdicejlfagaeaaDoor
