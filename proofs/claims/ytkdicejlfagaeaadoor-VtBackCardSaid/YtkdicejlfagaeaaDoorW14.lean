/- Two parsers at once; bytes of a string. -/
import Derived.Test.YtkdicejlfagaeaaDoorW13
namespace Go.Proofs.YtkdicejlfagaeaaDoor
open Go.RowKit

theorem size_eq' (s : ByteArray) : s.data.toList.length = s.size := by rw [Array.length_toList]; rfl
theorem rest_other {Tp Tq : Nat → Nat} {q : Nat} {w w' : World} {s : PSt} (hq : Rest Tq q w s) (hw : Within (own Tp w) w w') (hd : ∀ k, Tq k ≠ 0 → Tp k = 0) : Rest Tq q w' s := by
  obtain ⟨hl, hf, d, vi, vp, vt, hC⟩ := hq
  have m : Mod Tq (fun x => x = 0) w w' := ⟨hw.os, hw.tape, hw.output, hw.size, fun k hk h0 => hw.block k hk (fun e => by
    rcases e with e | e
    · exact e (hd k h0)
    · omega)⟩
  exact ⟨fun k hk => Nat.lt_of_lt_of_le (hl k hk) hw.size, hf, d, vi, vp, vt, hC.mod m (by decide) (by decide) (by decide) (by decide) (by decide)⟩
theorem apart_next {Tp Tp' Tq : Nat → Nat} {q : Nat} {w : World} {s : PSt} (hq : Rest Tq q w s) (hd : ∀ k, Tq k ≠ 0 → Tp k = 0) (ht : ∀ k, Tp' k ≠ 0 → own Tp w k) : ∀ k, Tq k ≠ 0 → Tp' k = 0 := fun k hk => by
  by_cases h0 : Tp' k = 0
  · exact h0
  · rcases ht k h0 with e | e
    · exact absurd (hd k hk) e
    · have := hq.1 k hk; omega
/-- What one parser told is not the other's. -/
theorem own_apart {Tp Tq : Nat → Nat} {q : Nat} {w : World} {s : PSt} (hq : Rest Tq q w s) (hd : ∀ k, Tq k ≠ 0 → Tp k = 0) : ∀ k, own Tp w k → Tq k = 0 := fun k hk => by
  by_cases h0 : Tq k = 0
  · exact h0
  · rcases hk with e | e
    · exact absurd (hd k h0) e
    · have := hq.1 k h0; omega
theorem acts_for {T Tq : Nat → Nat} {G : Nat → Prop} {w : World} {v : Value} {L : List (VAct × Value)} (h : Acts T w v L) (h1 : ∀ k, v.ownBlock = some k → G k) (h2 : ∀ x ∈ L, ∀ k, x.2.ownBlock = some k → G k) (hq : ∀ k, G k → Tq k = 0) : Acts Tq w v L :=
  ⟨⟨h.1.own, fun k hk => hq k (h1 k hk)⟩, fun x hx => ⟨(h.2 x hx).own, fun k hk => hq k (h2 x hx k hk)⟩⟩
/-- []byte(s), for a parser at rest. -/
theorem conv_row (w : World) (s : ByteArray) (hm : s.size ≤ maxLen) :
    ∃ v w', (convert 9 24 (.string s)).run Tryd.prog w = .ok v w' ∧ Below w.heap.size w w' ∧ ∀ T p st, Rest T p w st → Row T 0 1 v s.data.toList.length (byteVals s.data.toList) w' := by
  obtain ⟨v, w', h1, h2, h3⟩ := conv_bytes (P := Tryd.prog) w 9 24 5 s Tryd.underlying9 Tryd.underlying24 Tryd.underlying5 hm
  refine ⟨v, w', h1, below_gb0 h3, fun T p st hr => ⟨ownC_mono (reads_bytes h2 rfl) (Nat.zero_le _), fun k hk => hr.own0 (ownC_lt h2 k hk).1⟩⟩
/-- Steps of a parser that has no string to end leave 'final' and 'from' aside. -/
structure Sim (s t : PSt) : Prop where
  st : s.state = t.state
  dec : s.dec = t.dec
  inter : s.inter = t.inter
  params : s.params = t.params
  any : s.any = t.any
  text : s.text = t.text
  ended : s.ended = t.ended
  fin : s.state = 6 → s.final = t.final
  frm : s.state = 3 → s.frm = t.frm
theorem Sim.begun {s t : PSt} (h : Sim s t) (n : Int) (h6 : n ≠ 6) (h3 : n ≠ 3) : Sim (s.begun n) (t.begun n) :=
  ⟨rfl, h.dec, rfl, rfl, rfl, rfl, rfl, fun e => absurd e h6, fun e => absurd e h3⟩
theorem Sim.passed {s t : PSt} (h : Sim s t) : Sim s.passed t.passed :=
  ⟨rfl, h.dec, rfl, rfl, rfl, rfl, rfl, fun e => absurd e (by show ¬ (3 : Int) = 6; decide), fun _ => h.st⟩
theorem Sim.endActs {s t : PSt} (h : Sim s t) : s.endActs = t.endActs := by
  unfold PSt.endActs
  rw [← h.st, h.text, h.params, h.inter]
  by_cases h6 : s.state = 6
  · rw [h.fin h6]
  · simp only [if_neg h6]
theorem Sim.texts {s t : PSt} (h : Sim s t) : s.texts = t.texts := by unfold PSt.texts; rw [h.st]
theorem Sim.dec_to {s t : PSt} (h : Sim s t) (D : Dec) : Sim { s with dec := D } { t with dec := D } := ⟨h.st, rfl, h.inter, h.params, h.any, h.text, h.ended, h.fin, h.frm⟩
theorem any1_sim {s t : PSt} (b : UInt8) (h : Sim s t) : (s.any1 b).1 = (t.any1 b).1 ∧ (s.any1 b).2.2 = (t.any1 b).2.2 ∧ Sim (s.any1 b).2.1 (t.any1 b).2.1 := by
  have h1 := h.texts
  have h2 := h.endActs
  unfold PSt.any1
  rw [← h1, ← h2, ← h.dec, ← h.st]
  split
  · exact ⟨rfl, rfl, (h.dec_to dec0).begun 0 (by decide) (by decide)⟩
  split
  · have := (h.dec_to (endD s.dec).1).begun 1 (by decide) (by decide)
    exact ⟨rfl, rfl, this.st, this.dec, this.inter, this.params, this.any, this.text, rfl, this.fin, this.frm⟩
  split
  · exact ⟨rfl, rfl, h.begun 0 (by decide) (by decide)⟩
  split
  · exact ⟨rfl, rfl, h⟩
  split
  · refine ⟨rfl, rfl, ?_⟩
    (constructor <;> first | rfl | exact h.st | exact h.dec | exact h.inter | exact h.params | exact h.any | exact h.text | exact h.ended | exact h.fin | exact h.frm)
  split
  · refine ⟨rfl, rfl, ?_⟩
    by_cases h0 : s.state = 0
    · rw [if_pos h0, if_pos h0]; exact h
    · rw [if_neg h0, if_neg h0]; exact h.begun 0 (by decide) (by decide)
  · exact ⟨rfl, rfl, h⟩
theorem esced_sim {s t : PSt} (b : UInt8) (h : Sim s t) (h1 : s.state = 1) : (s.esced b).2 = (t.esced b).2 ∧ Sim (s.esced b).1 (t.esced b).1 := by
  unfold PSt.esced
  rw [← h.inter, ← h.ended]
  split
  · split
    · exact ⟨rfl, h.passed⟩
    · refine ⟨rfl, ?_⟩
      (constructor <;> first | rfl | exact h.st | exact h.dec | exact h.inter | exact h.params | exact h.any | exact h.text | exact h.ended | exact h.fin | exact h.frm)
  split
  · repeat' split
    all_goals exact ⟨rfl, h.begun _ (by decide) (by decide)⟩
  · exact ⟨rfl, h.begun 0 (by decide) (by decide)⟩
theorem digit_sim {s t : PSt} (d : Int) (h : Sim s t) : Sim (s.digit d) (t.digit d) := by
  have hs : Sim s.started t.started := by
    unfold PSt.started
    rw [← h.any]
    split
    · exact h
    · exact ⟨h.st, h.dec, h.inter, rfl, rfl, h.text, h.ended, h.fin, h.frm⟩
  unfold PSt.digit
  rw [← hs.params]
  split
  · exact ⟨hs.st, hs.dec, hs.inter, rfl, hs.any, hs.text, hs.ended, hs.fin, hs.frm⟩
  split
  · exact ⟨hs.st, hs.dec, hs.inter, rfl, hs.any, hs.text, hs.ended, hs.fin, hs.frm⟩
  · exact hs
theorem seqd_sim {s t : PSt} (b : UInt8) (h : Sim s t) : (s.seqd b).2 = (t.seqd b).2 ∧ Sim (s.seqd b).1 (t.seqd b).1 := by
  have hb : s.btw = t.btw := by unfold PSt.btw PSt.marked; rw [h.inter]
  unfold PSt.seqd
  rw [← hb, ← h.st, ← h.params, ← h.inter, ← h.any]
  split
  · split
    · exact ⟨rfl, ⟨rfl, h.dec, rfl, rfl, rfl, rfl, rfl, fun e => absurd e (by show ¬ (0 : Int) = 6; decide), fun e => absurd e (by show ¬ (0 : Int) = 3; decide)⟩⟩
    · exact ⟨rfl, ⟨rfl, h.dec, h.inter, by show s.params.take 32 = t.params.take 32; rw [h.params], h.any, h.text, h.ended, fun _ => rfl, fun e => absurd e (by show ¬ (6 : Int) = 3; decide)⟩⟩
  split
  · refine ⟨rfl, ?_⟩
    (constructor <;> first | rfl | exact h.st | exact h.dec | exact h.inter | exact h.params | exact h.any | exact h.text | exact h.ended | exact h.fin | exact h.frm)
  split
  · exact ⟨rfl, digit_sim ((b.toNat : Int) - 48) h⟩
  split
  · exact ⟨rfl, digit_sim (-1) h⟩
  split
  · refine ⟨rfl, ?_⟩
    (constructor <;> first | rfl | exact h.st | exact h.dec | exact h.inter | exact h.params | exact h.any | exact h.text | exact h.ended | exact h.fin | exact h.frm)
  · exact ⟨rfl, h.passed⟩
theorem took_sim {s t : PSt} (b : UInt8) (h : Sim s t) : (s.took b).2 = (t.took b).2 ∧ Sim (s.took b).1 (t.took b).1 := by
  unfold PSt.took PSt.fed
  rw [← h.st, ← h.text, ← h.dec]
  split
  · rename_i h1; exact esced_sim b h h1
  split
  · exact seqd_sim b h
  split
  · rename_i h3
    rw [← h.frm h3]
    split
    · refine ⟨rfl, ?_⟩
      by_cases h5 : s.frm = 5
      · rw [if_pos h5]; exact h.begun 7 (by decide) (by decide)
      · rw [if_neg h5]; exact h.begun 0 (by decide) (by decide)
    · exact ⟨rfl, h⟩
  split
  · split
    · refine ⟨rfl, ?_⟩
      (constructor <;> first | rfl | exact h.st | exact h.dec | exact h.inter | exact h.params | exact h.any | exact h.text | exact h.ended | exact h.fin | exact h.frm)
    · exact ⟨rfl, h⟩
  split
  · exact ⟨rfl, h⟩
  · refine ⟨rfl, ?_⟩
    (constructor <;> first | rfl | exact h.st | exact h.dec | exact h.inter | exact h.params | exact h.any | exact h.text | exact h.ended | exact h.fin | exact h.frm)
theorem step_sim {s t : PSt} (b : UInt8) (h : Sim s t) : (s.step b).2 = (t.step b).2 ∧ Sim (s.step b).1 (t.step b).1 := by
  obtain ⟨h1, h2, h3⟩ := any1_sim b h
  obtain ⟨h4, h5⟩ := took_sim b h3
  unfold PSt.step
  rw [← h1]
  split
  · exact ⟨h2, h3⟩
  · exact ⟨by show _ ++ _ = _ ++ _; rw [h2, h4], h5⟩
theorem run_sim : ∀ (l : List UInt8) {s t : PSt}, Sim s t → (s.run l).2 = (t.run l).2 ∧ Sim (s.run l).1 (t.run l).1
  | [], _, _, h => ⟨rfl, h⟩
  | b :: l, s, t, h => by
    obtain ⟨h1, h2⟩ := step_sim b h
    obtain ⟨h3, h4⟩ := run_sim l h2
    exact ⟨by show _ ++ _ = _ ++ _; rw [h1, h3], h4⟩
/-- Behind a CAN. -/
theorem can_sim (l : List UInt8) : (s0.run (l ++ [24])).1.state = 0 ∧ Sim (s0.run (l ++ [24])).1 s0 := by
  have e : (s0.run (l ++ [24])).1 = ({ (s0.run l).1 with dec := dec0 } : PSt).begun 0 := by rw [run_snoc]; rfl
  rw [e]
  exact ⟨rfl, ⟨rfl, rfl, rfl, rfl, rfl, rfl, rfl, fun h => absurd h (by show ¬ (0 : Int) = 6; decide), fun h => absurd h (by show ¬ (0 : Int) = 3; decide)⟩⟩
end Go.Proofs.YtkdicejlfagaeaaDoor
