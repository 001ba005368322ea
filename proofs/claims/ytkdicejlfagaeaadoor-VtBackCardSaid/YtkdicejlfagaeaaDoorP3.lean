/- Plain laws of UTF-8: ranging over what was encoded. No program here. -/
import Derived.Test.YtkdicejlfagaeaaDoorP2
namespace Go.Proofs.YtkdicejlfagaeaaDoor

theorem get_list (s : ByteArray) (i : Nat) (b : UInt8) (h : s.data.toList[i]? = some b) : s.get! i = b := by
  obtain ⟨hi, hb⟩ := List.getElem?_eq_some_iff.1 h
  have hi' : i < s.data.size := by simpa using hi
  show s.data[i]! = b
  rw [getElem!_pos s.data i hi', ← hb]
  exact (Array.getElem_toList hi')

theorem decode_enc (s : ByteArray) (A B : List UInt8) (r : Int) (h : s.data.toList = A ++ (encL r ++ B)) :
    Utf8.decode s A.length = (cp r, (encL r).length) := by
  have hg : ∀ k b, (encL r)[k]? = some b → s.get! (A.length + k) = b := by
    intro k b hk
    apply get_list
    rw [h, List.getElem?_append_right (by omega), show A.length + k - A.length = k from by omega, List.getElem?_append_left (List.getElem?_eq_some_iff.1 hk).1]
    exact hk
  have hsz : s.size = A.length + ((encL r).length + B.length) := by
    have := congrArg List.length h
    simpa using this
  obtain ⟨c1, c2⟩ := cp_range r
  rw [encL_eq] at hg hsz ⊢
  generalize cp r = c at *
  by_cases h1 : c < 128
  · rw [if_pos h1] at hg hsz ⊢
    have g0 := hg 0 _ rfl
    simp only [Utf8.decode, g0, byte_of c (by omega)]
    rw [if_pos h1]; rfl
  by_cases h2 : c < 2048
  · rw [if_neg h1, if_pos h2] at hg hsz ⊢
    have g0 := hg 0 _ rfl
    have g1 := hg 1 _ rfl
    simp only [List.length_cons, List.length_nil] at hsz
    simp only [Utf8.decode, g0, g1, byte_of (192 + c / 64) (by omega), byte_of (128 + c % 64) (by omega)]
    rw [if_neg (by omega), if_pos (by simp; omega), if_pos (by omega)]
    simp only [List.length_cons, List.length_nil, Prod.mk.injEq]
    exact ⟨by omega, trivial⟩
  by_cases h3 : c < 65536
  · rw [if_neg h1, if_neg h2, if_pos h3] at hg hsz ⊢
    have g0 := hg 0 _ rfl
    have g1 := hg 1 _ rfl
    have g2 := hg 2 _ rfl
    simp only [List.length_cons, List.length_nil] at hsz
    simp only [Utf8.decode, g0, g1, g2, byte_of (224 + c / 4096) (by omega), byte_of (128 + c / 64 % 64) (by omega), byte_of (128 + c % 64) (by omega)]
    rw [if_neg (by omega), if_neg (by simp; omega), if_pos (by simp; omega)]
    have e : (224 + c / 4096) % 16 * 4096 + (128 + c / 64 % 64) % 64 * 64 + (128 + c % 64) % 64 = c := by omega
    rw [e, if_pos (by simp; refine ⟨by omega, ?_⟩; rw [valid_iff]; omega)]
    rfl
  · rw [if_neg h1, if_neg h2, if_neg h3] at hg hsz ⊢
    have g0 := hg 0 _ rfl
    have g1 := hg 1 _ rfl
    have g2 := hg 2 _ rfl
    have g3 := hg 3 _ rfl
    simp only [List.length_cons, List.length_nil] at hsz
    simp only [Utf8.decode, g0, g1, g2, g3, byte_of (240 + c / 262144) (by omega), byte_of (128 + c / 4096 % 64) (by omega), byte_of (128 + c / 64 % 64) (by omega), byte_of (128 + c % 64) (by omega)]
    rw [if_neg (by omega), if_neg (by simp; omega), if_neg (by simp; omega), if_pos (by simp; omega)]
    have e : (240 + c / 262144) % 8 * 262144 + (128 + c / 4096 % 64) % 64 * 4096 + (128 + c / 64 % 64) % 64 * 64 + (128 + c % 64) % 64 = c := by omega
    rw [e, if_pos (by simp; refine ⟨by omega, ?_⟩; rw [valid_iff]; omega)]
    rfl

theorem encAll_append (a b : List Int) : encAll (a ++ b) = encAll a ++ encAll b := by simp [encAll]
theorem encAll_cons (r : Int) (l : List Int) : encAll (r :: l) = encL r ++ encAll l := by simp [encAll]
theorem encAll_nil : encAll [] = [] := rfl
theorem encAll_le : ∀ l : List Int, (encAll l).length ≤ 4 * l.length ∧ l.length ≤ (encAll l).length
  | [] => by simp [encAll]
  | r :: l => by
    have := encAll_le l
    have := encL_pos r
    rw [encAll_cons]; simp; omega
theorem runesBytes_eq (l : List Int) : runesBytes l = ⟨(encAll l).toArray⟩ := by
  have : ∀ (l : List Int) (s : ByteArray), l.foldl (fun r n => r ++ Utf8.encode n) s = ⟨(s.data.toList ++ encAll l).toArray⟩ := by
    intro l
    induction l with
    | nil => intro s; simp [encAll]
    | cons r l ih =>
      intro s
      rw [List.foldl_cons, ih]
      congr 1
      rw [encAll_cons]
      simp [encL]
  rw [runesBytes, this]; rfl
/-- The k-th rune of what was encoded. -/
theorem decode_all (l : List Int) (s : ByteArray) (hs : s.data.toList = encAll l) (k : Nat) (hk : k < l.length) :
    Utf8.decode s (encAll (l.take k)).length = (cp (l.getD k 0), (encL (l.getD k 0)).length) := by
  apply decode_enc s _ (encAll (l.drop (k + 1)))
  rw [hs, ← encAll_cons, ← encAll_append]
  congr 1
  rw [List.getD_eq_getElem?_getD, List.getElem?_eq_getElem hk, Option.getD_some, ← List.drop_eq_getElem_cons hk, List.take_append_drop]
theorem enc_take_succ (l : List Int) (k : Nat) (hk : k < l.length) : (encAll (l.take (k + 1))).length = (encAll (l.take k)).length + (encL (l.getD k 0)).length := by
  rw [List.take_succ_eq_append_getElem hk, encAll_append, List.length_append, List.getD_eq_getElem?_getD, List.getElem?_eq_getElem hk]
  simp [encAll]
theorem enc_take_lt (l : List Int) (k : Nat) (hk : k < l.length) : (encAll (l.take k)).length < (encAll l).length := by
  have := enc_take_succ l k hk
  have h1 := encL_pos (l.getD k 0)
  have h2 : encAll l = encAll (l.take (k + 1)) ++ encAll (l.drop (k + 1)) := by rw [← encAll_append, List.take_append_drop]
  rw [h2, List.length_append]; omega
theorem runesFrom_all (l : List Int) (s : ByteArray) (hs : s.data.toList = encAll l) : ∀ (n k : Nat) (acc : Array Value), l.length - k ≤ n → k ≤ l.length →
    Conv.runesFrom s n (encAll (l.take k)).length acc = acc ++ ((l.drop k).map (fun r => Value.int .i32 (cp r : Int))).toArray
  | 0, k, acc, h, h2 => by
    rw [List.drop_eq_nil_of_le (by omega)]; simp [Conv.runesFrom]
  | n + 1, k, acc, h, h2 => by
    unfold Conv.runesFrom
    by_cases hk : k < l.length
    · have hlt := enc_take_lt l k hk
      have hsz : s.size = (encAll l).length := by rw [← hs]; simp
      rw [if_pos (by omega), decode_all l s hs k hk]
      dsimp only
      rw [← enc_take_succ l k hk, runesFrom_all l s hs n (k + 1) _ (by omega) (by omega), List.drop_eq_getElem_cons hk, List.getD_eq_getElem?_getD, List.getElem?_eq_getElem hk]
      apply Array.ext'
      simp
      rw [List.drop_eq_getElem_cons (i := k) (l := List.map _ l) (by simpa using hk)]; simp
    · have hsz : s.size = (encAll l).length := by rw [← hs]; simp
      rw [List.take_of_length_le (by omega), if_neg (by omega), List.drop_eq_nil_of_le (by omega)]; simp
end Go.Proofs.YtkdicejlfagaeaaDoor
