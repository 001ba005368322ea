/- Package grid, plain: rows scrolled up and down. -/
import Derived.Test.YtjclgoiclbkgjaaDoorQ2
namespace Go.Proofs.YtjclgoiclbkgjaaDoor
open Go.RowKit

def blankR (cols : Nat) (s : Sty) : Rw := ⟨List.replicate cols (blankC s), false⟩
theorem up_len {rows : List Rw} {t b n c : Nat} {s : Sty} (h1 : t ≤ b) (h2 : b < rows.length) (h3 : n ≤ b + 1 - t) : (upRows rows t b n c s).length = rows.length := by
  unfold upRows freshL
  simp only [List.length_append, List.length_take, List.length_drop, List.length_replicate]; omega
theorem down_len {rows : List Rw} {t b n c : Nat} {s : Sty} (h1 : t ≤ b) (h2 : b < rows.length) (h3 : n ≤ b + 1 - t) : (downRows rows t b n c s).length = rows.length := by
  unfold downRows freshL
  simp only [List.length_append, List.length_take, List.length_drop, List.length_replicate]; omega
theorem up_get {rows : List Rw} {t b n c : Nat} {s : Sty} (h1 : t ≤ b) (h2 : b < rows.length) (h3 : n ≤ b + 1 - t) (y : Nat) :
    (upRows rows t b n c s)[y]? = if y < t then rows[y]? else if y + n ≤ b then rows[y + n]? else if y ≤ b then some (blankR c s) else rows[y]? := by
  unfold upRows freshL
  have e1 : (rows.take t).length = t := by rw [List.length_take]; omega
  have e2 : ((rows.drop (t + n)).take (b + 1 - t - n)).length = b + 1 - t - n := by rw [List.length_take, List.length_drop]; omega
  by_cases c1 : y < t
  · rw [if_pos c1, List.getElem?_append_left (by simp only [List.length_append]; omega), List.getElem?_append_left (by simp only [List.length_append]; omega), List.getElem?_append_left (by omega), List.getElem?_take, if_pos c1]
  rw [if_neg c1]
  by_cases c2 : y + n ≤ b
  · rw [if_pos c2, List.getElem?_append_left (by simp only [List.length_append]; omega), List.getElem?_append_left (by simp only [List.length_append]; omega), List.getElem?_append_right (by omega), e1, List.getElem?_take, if_pos (by omega), List.getElem?_drop]
    congr 1; omega
  rw [if_neg c2]
  by_cases c3 : y ≤ b
  · rw [if_pos c3, List.getElem?_append_left (by simp only [List.length_append, List.length_replicate]; omega), List.getElem?_append_right (by simp only [List.length_append]; omega), List.getElem?_replicate, if_pos (by simp only [List.length_append]; omega)]
    rfl
  · rw [if_neg c3, List.getElem?_append_right (by simp only [List.length_append, List.length_replicate]; omega), List.getElem?_drop]
    congr 1
    simp only [List.length_append, List.length_replicate]; omega
theorem down_get {rows : List Rw} {t b n c : Nat} {s : Sty} (h1 : t ≤ b) (h2 : b < rows.length) (h3 : n ≤ b + 1 - t) (y : Nat) :
    (downRows rows t b n c s)[y]? = if y < t then rows[y]? else if y < t + n then some (blankR c s) else if y ≤ b then rows[y - n]? else rows[y]? := by
  unfold downRows freshL
  have e1 : (rows.take t).length = t := by rw [List.length_take]; omega
  have e2 : ((rows.drop t).take (b + 1 - t - n)).length = b + 1 - t - n := by rw [List.length_take, List.length_drop]; omega
  by_cases c1 : y < t
  · rw [if_pos c1, List.getElem?_append_left (by simp only [List.length_append]; omega), List.getElem?_append_left (by simp only [List.length_append]; omega), List.getElem?_append_left (by omega), List.getElem?_take, if_pos c1]
  rw [if_neg c1]
  by_cases c2 : y < t + n
  · rw [if_pos c2, List.getElem?_append_left (by simp only [List.length_append, List.length_replicate]; omega), List.getElem?_append_left (by simp only [List.length_append, List.length_replicate]; omega), List.getElem?_append_right (by omega), List.getElem?_replicate, if_pos (by omega)]
    rfl
  rw [if_neg c2]
  by_cases c3 : y ≤ b
  · rw [if_pos c3, List.getElem?_append_left (by simp only [List.length_append, List.length_replicate]; omega), List.getElem?_append_right (by simp only [List.length_append, List.length_replicate]; omega), List.getElem?_take, if_pos (by simp only [List.length_append, List.length_replicate]; omega), List.getElem?_drop]
    congr 1
    simp only [List.length_append, List.length_replicate]; omega
  · rw [if_neg c3, List.getElem?_append_right (by simp only [List.length_append, List.length_replicate]; omega), List.getElem?_drop]
    congr 1
    simp only [List.length_append, List.length_replicate]; omega
theorem trim_blank (n : Nat) (s : Sty) : trimL (List.replicate n (blankC s)) = [] := by
  unfold trimL
  rw [List.reverse_replicate, List.reverse_eq_nil_iff]
  induction n with
  | zero => rfl
  | succ n ih => rw [List.replicate_succ, List.dropWhile_cons]; exact ih
end Go.Proofs.YtjclgoiclbkgjaaDoor
