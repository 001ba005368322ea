/- Package vtparse, plain: a byte, some bytes; what is always so. -/
import Derived.Test.YtkdicejlfagaeaaDoorW9
namespace Go.Proofs.YtkdicejlfagaeaaDoor
open Go.RowKit

def PSt.step (s : PSt) (b : UInt8) : PSt × List VAct :=
  if (s.any1 b).1 then (s.any1 b).2 else ((((s.any1 b).2.1).took b).1, (s.any1 b).2.2 ++ (((s.any1 b).2.1).took b).2)
def PSt.run : PSt → List UInt8 → PSt × List VAct
  | s, [] => (s, [])
  | s, b :: l => (((s.step b).1.run l).1, (s.step b).2 ++ ((s.step b).1.run l).2)
theorem run_append : ∀ (l m : List UInt8) (s : PSt), s.run (l ++ m) = (((s.run l).1.run m).1, (s.run l).2 ++ ((s.run l).1.run m).2)
  | [], m, s => by simp [PSt.run]
  | b :: l, m, s => by
    rw [List.cons_append]
    simp only [PSt.run]
    rw [run_append l m]
    simp
theorem run_snoc (l : List UInt8) (b : UInt8) (s : PSt) : s.run (l ++ [b]) = (((s.run l).1.step b).1, (s.run l).2 ++ ((s.run l).1.step b).2) := by
  rw [run_append]
  simp [PSt.run]
def s0 : PSt := ⟨0, dec0, [], [], false, [], 0, false, 0⟩
theorem s0_fine : s0.Fine := ⟨by decide, fun h => by simp [s0] at h, by decide, fun x hx => by simp [s0] at hx, by decide, by decide, fun _ => by decide⟩

theorem begun_fine {s : PSt} {st : Int} (h : 0 ≤ st ∧ st ≤ 7) : (s.begun st).Fine :=
  ⟨by simp [PSt.begun], fun h => by simp [PSt.begun] at h, by simp [PSt.begun], fun x hx => by simp [PSt.begun] at hx, by simp [PSt.begun], h, fun _ => by simp [PSt.begun]⟩
theorem passed_fine (s : PSt) : s.passed.Fine := begun_fine (by decide)
theorem any1_fine {s : PSt} (b : UInt8) (h : s.Fine) : (s.any1 b).2.1.Fine := by
  unfold PSt.any1
  repeat' split
  · exact begun_fine (by decide)
  · have := begun_fine (s := { s with dec := (endD s.dec).1 }) (st := 1) (by decide)
    exact ⟨this.il, this.pne, this.pl, this.pr, this.tl, this.st, this.e1⟩
  · exact begun_fine (by decide)
  · exact h
  · exact ⟨h.il, h.pne, h.pl, h.pr, h.tl, h.st, h.e1⟩
  · exact h
  · exact begun_fine (by decide)
  · exact h
theorem esced_fine {s : PSt} (b : UInt8) (h : s.Fine) (h1 : s.state = 1) : (s.esced b).1.Fine := by
  have hi := h.e1 h1
  unfold PSt.esced
  repeat' split
  all_goals first | exact passed_fine s | exact begun_fine (by decide) | skip
  have hk : (s.inter ++ [b]).length ≤ 2 := by rw [List.length_append, List.length_singleton]; omega
  exact ⟨by show (s.inter ++ [b]).length ≤ 3; omega, h.pne, h.pl, h.pr, h.tl, h.st, fun _ => hk⟩
theorem clamp_range (x d : Int) (h : 0 ≤ d) : -1 ≤ clamp x d ∧ clamp x d ≤ 9999 := by
  unfold clamp; omega
theorem digit_fine {s : PSt} (d : Int) (h : s.Fine) : (s.digit d).Fine := by
  have hs : s.started.params ≠ [] ∧ s.started.params.length ≤ 33 ∧ (∀ x ∈ s.started.params, -1 ≤ x ∧ x ≤ 9999) ∧ s.started.inter = s.inter ∧ s.started.text = s.text ∧ s.started.state = s.state := by
    unfold PSt.started
    cases ha : s.any
    · exact ⟨by simp, by simp, by simp, rfl, rfl, rfl⟩
    · exact ⟨h.pne ha, h.pl, h.pr, rfl, rfl, rfl⟩
  obtain ⟨h1, h2, h3, h4, h5, h6⟩ := hs
  unfold PSt.digit
  split
  · rename_i hd
    refine ⟨by show s.started.inter.length ≤ 3; rw [h4]; exact h.il, fun _ => ?_, ?_, ?_, by show s.started.text.length ≤ 1024; rw [h5]; exact h.tl, by show 0 ≤ s.started.state ∧ s.started.state ≤ 7; rw [h6]; exact h.st, fun e => by have e' : s.started.state = 1 := e; show s.started.inter.length ≤ 2; rw [h4]; exact h.e1 (h6 ▸ e')⟩
    · show setLast s.started.params d ≠ []
      intro e
      have := congrArg List.length e
      simp [setLast] at this
      exact h1 this
    · show (setLast s.started.params d).length ≤ 33
      simp [setLast]; exact h2
    · intro x hx
      have hx' : x ∈ setLast s.started.params d := hx
      unfold setLast at hx'
      rcases List.mem_or_eq_of_mem_set hx' with hm | rfl
      · exact h3 x hm
      · exact clamp_range _ _ hd
  · split
    · rename_i h32
      refine ⟨by show s.started.inter.length ≤ 3; rw [h4]; exact h.il, fun _ => by simp, ?_, ?_, by show s.started.text.length ≤ 1024; rw [h5]; exact h.tl, by show 0 ≤ s.started.state ∧ s.started.state ≤ 7; rw [h6]; exact h.st, fun e => by have e' : s.started.state = 1 := e; show s.started.inter.length ≤ 2; rw [h4]; exact h.e1 (h6 ▸ e')⟩
      · show (s.started.params ++ [-1]).length ≤ 33
        rw [List.length_append, List.length_singleton]; omega
      · intro x hx
        have hx' : x ∈ s.started.params ++ [-1] := hx
        rw [List.mem_append, List.mem_singleton] at hx'
        rcases hx' with hm | rfl
        · exact h3 x hm
        · decide
    · exact ⟨by rw [h4]; exact h.il, fun _ => h1, h2, h3, by rw [h5]; exact h.tl, by rw [h6]; exact h.st, fun e => by rw [h4]; exact h.e1 (h6 ▸ e)⟩
theorem btw_len {s : PSt} : s.inter.length ≤ s.btw + 1 := by
  unfold PSt.btw; split <;> omega
theorem seqd_fine {s : PSt} (b : UInt8) (h : s.Fine) (h1 : ¬ s.state = 1) : (s.seqd b).1.Fine := by
  have hi := h.il
  have hb := btw_len (s := s)
  have hap : s.inter.length ≤ 2 → ({ s with inter := s.inter ++ [b] } : PSt).Fine := fun h2 =>
    ⟨by show (s.inter ++ [b]).length ≤ 3; rw [List.length_append, List.length_singleton]; omega, h.pne, h.pl, h.pr, h.tl, h.st, fun e => absurd e h1⟩
  unfold PSt.seqd
  split
  · split
    · exact begun_fine (by decide)
    · refine ⟨h.il, fun ha => ?_, ?_, ?_, h.tl, ⟨by show (0 : Int) ≤ 6; decide, by show (6 : Int) ≤ 7; decide⟩, fun e => by have e' : (6 : Int) = 1 := e; omega⟩
      · show s.params.take 32 ≠ []
        have := h.pne ha
        cases hp : s.params with
        | nil => exact absurd hp this
        | cons x l => simp
      · show (s.params.take 32).length ≤ 33
        rw [List.length_take]; omega
      · intro x hx
        exact h.pr x (List.mem_of_mem_take hx)
  split
  · exact hap (by omega)
  split
  · exact digit_fine ((b.toNat : Int) - 48) h
  split
  · exact digit_fine (-1) h
  split
  · exact hap (by omega)
  · exact passed_fine s
theorem took_fine {s : PSt} (b : UInt8) (h : s.Fine) : (s.took b).1.Fine := by
  unfold PSt.took
  split
  · rename_i h1; exact esced_fine b h h1
  rename_i h1
  split
  · exact seqd_fine b h h1
  split
  · split
    · by_cases hf : s.frm = 5
      · rw [if_pos hf]; exact begun_fine (by decide)
      · rw [if_neg hf]; exact begun_fine (by decide)
    · exact h
  split
  · split
    · rename_i ht
      exact ⟨h.il, h.pne, h.pl, h.pr, by show (s.text ++ [b]).length ≤ 1024; rw [List.length_append, List.length_singleton]; omega, h.st, h.e1⟩
    · exact h
  split
  · exact h
  · exact ⟨h.il, h.pne, h.pl, h.pr, h.tl, h.st, h.e1⟩
theorem step_fine {s : PSt} (b : UInt8) (h : s.Fine) : (s.step b).1.Fine := by
  unfold PSt.step
  split
  · exact any1_fine b h
  · exact took_fine b (any1_fine b h)
theorem run_fine : ∀ (l : List UInt8) {s : PSt}, s.Fine → (s.run l).1.Fine
  | [], _, h => h
  | b :: l, _, h => run_fine l (step_fine b h)
theorem any1_32 {s : PSt} {b : UInt8} (h : (s.any1 b).1 = false) : 32 ≤ (b.toNat : Int) := by
  unfold PSt.any1 at h
  repeat' split at h
  all_goals first | (simp at h; done) | omega | skip
theorem endActs_len (s : PSt) : s.endActs.length ≤ 1 := by
  unfold PSt.endActs
  split
  · simp
  · split <;> simp
theorem any1_len (s : PSt) (b : UInt8) : (s.any1 b).2.2.length ≤ 2 := by
  have h1 := endActs_len s
  have h2 := endD_len s.dec
  unfold PSt.any1
  repeat' split
  all_goals simp only [List.length_append, List.length_map, List.length_nil, List.length_singleton] <;> omega
theorem took_len (s : PSt) (b : UInt8) : (s.took b).2.length ≤ 2 := by
  have h1 := feedD_len s.dec (b.toNat : Int)
  unfold PSt.took PSt.esced PSt.seqd PSt.fed
  repeat' split
  all_goals simp only [List.length_map, List.length_nil, List.length_singleton] <;> omega
theorem step_len (s : PSt) (b : UInt8) : (s.step b).2.length ≤ 4 := by
  have h1 := any1_len s b
  have h2 := took_len (s.any1 b).2.1 b
  unfold PSt.step
  split
  · omega
  · rw [List.length_append]; omega
theorem run_len : ∀ (l : List UInt8) (s : PSt), (s.run l).2.length ≤ 4 * l.length
  | [], s => by simp [PSt.run]
  | b :: l, s => by
    have h1 := step_len s b
    have h2 := run_len l (s.step b).1
    simp only [PSt.run, List.length_append, List.length_cons]
    omega
end Go.Proofs.YtkdicejlfagaeaaDoor
