/- Package vtparse, plain: what is told, written down, tells itself again. -/
import Derived.Test.YtkdicejlfagaeaaDoorP7
import Derived.Test.YtkdicejlfagaeaaDoorV5
namespace Go.Proofs.YtkdicejlfagaeaaDoor
open Go.RowKit

theorem step_took {s : PSt} {b : UInt8} (h32 : 32 ≤ (b.toNat : Int)) (hx : s.texts = true ∨ (b.toNat : Int) < 127 ∨ (s.state = 0 ∧ (b.toNat : Int) ≠ 127)) : s.step b = s.took b := by
  have e : s.any1 b = (false, s, []) := by
    unfold PSt.any1
    rw [if_neg (by omega), if_neg (by omega), if_neg (by omega)]
    rw [if_neg (by
      rintro (⟨h1, h2⟩ | ⟨h1, h2⟩)
      · rcases hx with hx | hx | hx
        · rw [h2] at hx; simp at hx
        · omega
        · omega
      · omega)]
    rw [if_neg (by omega)]
    split
    · rename_i h
      rcases hx with hx | hx | hx
      · rw [h.2] at hx; simp at hx
      · omega
      · rw [if_pos hx.1]
    · rfl
  unfold PSt.step
  rw [e]
  simp
theorem run_cons {s s1 : PSt} {b : UInt8} {l : List UInt8} {A : List VAct} (h : s.step b = (s1, A)) : s.run (b :: l) = ((s1.run l).1, A ++ (s1.run l).2) := by
  show (((s.step b).1.run l).1, (s.step b).2 ++ ((s.step b).1.run l).2) = _
  rw [h]
theorem run_then {s s1 : PSt} {l m : List UInt8} {A : List VAct} (h : s.run l = (s1, A)) : s.run (l ++ m) = ((s1.run m).1, A ++ (s1.run m).2) := by
  rw [run_append, h]
theorem run_ground : ∀ (l : List UInt8) (s : PSt), s.state = 0 → (∀ b ∈ l, 32 ≤ (b.toNat : Int) ∧ (b.toNat : Int) ≠ 127) →
    s.run l = ({ s with dec := (runD s.dec l).1 }, (runD s.dec l).2.map prAct)
  | [], s, _, _ => rfl
  | b :: l, s, h0, h => by
    have hb := h b List.mem_cons_self
    have e : s.step b = ({ s with dec := (feedD s.dec (b.toNat : Int)).1 }, (feedD s.dec (b.toNat : Int)).2.map prAct) := by
      rw [step_took hb.1 (.inr (.inr ⟨h0, hb.2⟩))]
      unfold PSt.took
      rw [if_neg (by omega), if_neg (by omega), if_neg (by omega), if_neg (by omega), if_neg (by omega)]
      rfl
    rw [run_cons e, run_ground l _ (by exact h0) (fun c hc => h c (List.mem_cons_of_mem _ hc))]
    simp only [runD, List.map_append]
theorem enc_bytes {r : Int} (h1 : 32 ≤ r) (h2 : r ≠ 127) (hv : Utf8.valid r = true) : ∀ b ∈ encL r, 32 ≤ (b.toNat : Int) ∧ (b.toNat : Int) ≠ 127 := by
  have hc := cp_valid r hv
  have hr := cp_range r
  have hb : ∀ n, n < 256 → 128 ≤ n → 32 ≤ ((UInt8.ofNat n).toNat : Int) ∧ ((UInt8.ofNat n).toNat : Int) ≠ 127 := fun n h k => by
    rw [byte_of n h]; omega
  intro b hm
  rw [encL_eq] at hm
  split at hm
  · rw [List.mem_singleton] at hm
    subst hm
    rw [byte_of _ (by omega)]; omega
  split at hm
  · simp only [List.mem_cons, List.not_mem_nil, or_false] at hm
    rcases hm with rfl | rfl <;> exact hb _ (by omega) (by omega)
  split at hm
  · simp only [List.mem_cons, List.not_mem_nil, or_false] at hm
    rcases hm with rfl | rfl | rfl <;> exact hb _ (by omega) (by omega)
  · simp only [List.mem_cons, List.not_mem_nil, or_false] at hm
    rcases hm with rfl | rfl | rfl | rfl <;> exact hb _ (by omega) (by omega)
/-- Nothing has begun. -/
def PSt.Clear (s : PSt) : Prop := s.state = 0 ∧ s.dec.hav = 0
theorem pr_back {r : Int} (h : prOk r = true) (s : PSt) (hs : s.Clear) : ∃ s', s.run (wrL (prAct r)) = (s', [prAct r]) ∧ s'.Clear := by
  have e : wrL (prAct r) = encL r := by unfold wrL; simp [prAct, h]
  have hv : 32 ≤ r ∧ r ≠ 127 ∧ Utf8.valid r = true := by
    unfold prOk Lib.validRune at h
    simp only [Bool.and_eq_true, decide_eq_true_eq, Bool.not_eq_true', beq_eq_false_iff_ne] at h
    refine ⟨h.1, h.2.1, ?_⟩
    rw [valid_iff]; omega
  have hw := whole_enc r []
  rw [List.append_nil, whole_nil] at hw
  obtain ⟨r1, r2⟩ := runs_whole (encL r) s.dec hs.2
  rw [hw] at r1 r2
  rw [e, run_ground _ s hs.1 (enc_bytes hv.1 hv.2.1 hv.2.2)]
  refine ⟨{ s with dec := (runD s.dec (encL r)).1 }, ?_, hs.1, ?_⟩
  · rw [r1, cp_valid r hv.2.2]; rfl
  · show (runD s.dec (encL r)).1.hav = 0
    rw [r2]; rfl
theorem ctl_back {b : UInt8} (h : ctlOk b = true) (s : PSt) (hs : s.Clear) : ∃ s', s.run (wrL (ctlAct b)) = (s', [ctlAct b]) ∧ s'.Clear := by
  have e : wrL (ctlAct b) = [b] := by unfold wrL; simp [ctlAct, h]
  unfold ctlOk at h
  simp only [Bool.and_eq_true, decide_eq_true_eq, Bool.not_eq_true', beq_eq_false_iff_ne] at h
  have ht : s.texts = false := by unfold PSt.texts; rw [hs.1]; rfl
  have hd : endD s.dec = (s.dec, []) := by unfold endD; rw [if_pos hs.2]
  have ea : s.any1 b = (true, s, [ctlAct b]) := by
    unfold PSt.any1
    rw [if_neg (by omega), if_neg (by omega), if_neg (by have := hs.1; omega), if_neg (by
      rintro (⟨h1, _⟩ | ⟨_, h2⟩)
      · omega
      · rw [ht] at h2; simp at h2), if_pos h.1, hd]
    rfl
  have es : s.step b = (s, [ctlAct b]) := by
    unfold PSt.step
    rw [ea]; rfl
  refine ⟨s, ?_, hs⟩
  rw [e, run_cons es]
  rfl
/-- ESC, from a state in which nothing is told by it. -/
theorem esc_first {s : PSt} (hs : s.Clear) : ∃ s1, s.step 27 = (s1, []) ∧ s1.state = 1 ∧ s1.inter = [] ∧ s1.params = [] ∧ s1.any = false ∧ s1.text = [] ∧ s1.ended = false ∧ s1.dec.hav = 0 := by
  have ht : s.texts = false := by unfold PSt.texts; rw [hs.1]; rfl
  have hd : endD s.dec = (s.dec, []) := by unfold endD; rw [if_pos hs.2]
  have hend : s.endActs = [] := by unfold PSt.endActs; rw [hs.1]; rfl
  have ea : s.any1 27 = (true, { ({ s with dec := s.dec } : PSt).begun 1 with ended := s.texts }, []) := by
    unfold PSt.any1
    rw [if_neg (by decide), if_pos (by decide), hd, hend]
    rfl
  refine ⟨{ ({ s with dec := s.dec } : PSt).begun 1 with ended := s.texts }, ?_, rfl, rfl, rfl, rfl, rfl, ht, hs.2⟩
  unfold PSt.step
  rw [ea]; rfl
theorem texts_of {s : PSt} (h : s.state = 1 ∨ s.state = 2 ∨ s.state = 5) : s.texts = false := by
  unfold PSt.texts; rcases h with h | h | h <;> rw [h] <;> rfl
theorem btwn {b : UInt8} : betweenL (b.toNat : Int) = true ↔ 32 ≤ (b.toNat : Int) ∧ (b.toNat : Int) ≤ 47 := by
  unfold betweenL; simp
theorem btwn_not {b : UInt8} (h : 48 ≤ (b.toNat : Int)) : betweenL (b.toNat : Int) = false := by
  unfold betweenL; simp; omega
theorem esc_inter : ∀ (l : List UInt8) (s : PSt), s.state = 1 → onlyL l 32 47 = true → s.inter.length + l.length ≤ 2 → s.run l = ({ s with inter := s.inter ++ l }, [])
  | [], s, _, _, _ => by simp [PSt.run]
  | b :: l, s, h1, ho, hl => by
    unfold onlyL at ho
    rw [List.all_cons, Bool.and_eq_true, Bool.and_eq_true, decide_eq_true_eq, decide_eq_true_eq] at ho
    rw [List.length_cons] at hl
    have e : s.step b = ({ s with inter := s.inter ++ [b] }, []) := by
      rw [step_took ho.1.1 (.inr (.inl (by omega)))]
      unfold PSt.took
      rw [if_pos h1]
      unfold PSt.esced
      rw [if_pos (btwn.2 ho.1), if_neg (by omega)]
    rw [run_cons e, esc_inter l _ (by exact h1) (by unfold onlyL; exact ho.2) (by show (s.inter ++ [b]).length + _ ≤ 2; rw [List.length_append, List.length_singleton]; omega)]
    simp
theorem esc_back {b : UInt8} {inter : List UInt8} (h : escOk inter b = true) (s : PSt) (hs : s.Clear) : ∃ s', s.run (wrL (escAct b inter)) = (s', [escAct b inter]) ∧ s'.Clear := by
  have e : wrL (escAct b inter) = 27 :: (inter ++ [b]) := by unfold wrL; simp [escAct, h]
  unfold escOk betweensL at h
  simp only [Bool.and_eq_true, decide_eq_true_eq, Bool.or_eq_true, Bool.not_eq_true'] at h
  obtain ⟨⟨h1, h2⟩, h3, h4, h5⟩ := h
  obtain ⟨s1, es, t1, t2, t3, t4, t5, t6, t7⟩ := esc_first hs
  have e2 := esc_inter inter s1 t1 h2 (by rw [t2]; simpa using h1)
  rw [t2, List.nil_append] at e2
  have e3 : ({ s1 with inter := inter } : PSt).step b = (({ s1 with inter := inter } : PSt).begun 0, [escAct b inter]) := by
    rw [step_took (by omega) (.inr (.inl (by omega)))]
    unfold PSt.took
    rw [if_pos (by exact t1)]
    unfold PSt.esced
    rw [if_neg (by rw [btwn_not h3]; decide)]
    by_cases hi : inter.length = 0
    · have hbg : beginsL (b.toNat : Int) = false := by
        rcases h5 with h5 | h5
        · rw [List.eq_nil_of_length_eq_zero hi] at h5; simp at h5
        · exact h5
      unfold beginsL at hbg
      simp only [Bool.or_eq_false_iff, beq_eq_false_iff_ne] at hbg
      rw [if_pos (by exact hi), if_neg (by omega), if_neg (by omega), if_neg (by omega), if_neg (by omega), if_neg (by rintro ⟨_, k⟩; have k' : s1.ended = true := k; rw [t6] at k'; simp at k')]
    · rw [if_neg (by exact hi)]
  refine ⟨_, ?_, show (({ s1 with inter := inter } : PSt).begun 0).Clear from ⟨rfl, t7⟩⟩
  rw [e, run_cons es, run_then e2, run_cons e3]
  rfl
end Go.Proofs.YtkdicejlfagaeaaDoor
