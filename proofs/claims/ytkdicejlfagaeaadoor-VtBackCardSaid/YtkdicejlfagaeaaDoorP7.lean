/- Package vtparse, plain: each byte tells what keeps its limits; of all bytes no more actions than bytes. -/
import Derived.Test.YtkdicejlfagaeaaDoorP6
namespace Go.Proofs.YtkdicejlfagaeaaDoor
open Go.RowKit

theorem mark_cons (c : UInt8) (r : List UInt8) : markL (c :: r) = if 60 ≤ (c.toNat : Int) ∧ (c.toNat : Int) ≤ 63 then ([c], r) else ([], c :: r) := rfl
theorem btw_cons {s : PSt} {c : UInt8} {r : List UInt8} (hs : s.inter = c :: r) : s.btw = if 60 ≤ (c.toNat : Int) then r.length else r.length + 1 := by
  unfold PSt.btw PSt.marked
  rw [hs]
  by_cases h : 60 ≤ (c.toNat : Int)
  · simp [h]
  · simp [h]
theorem btw_eq {s : PSt} (h : betweensL (markL s.inter).2 = true) : s.btw = (markL s.inter).2.length := by
  cases hs : s.inter with
  | nil => unfold PSt.btw PSt.marked; rw [hs]; rfl
  | cons c r =>
    rw [hs, mark_cons] at h
    rw [btw_cons hs, mark_cons]
    by_cases hc : 60 ≤ (c.toNat : Int) ∧ (c.toNat : Int) ≤ 63
    · rw [if_pos hc, if_pos hc.1]
    · rw [if_neg hc] at h ⊢
      have hn : ¬ 60 ≤ (c.toNat : Int) := fun h60 => by
        unfold betweensL onlyL at h
        simp only [Bool.and_eq_true, List.all_cons, decide_eq_true_eq] at h
        omega
      rw [if_neg hn]; rfl
theorem mark_snoc (l : List UInt8) (b : UInt8) (hb : (b.toNat : Int) ≤ 47) : (markL (l ++ [b])).2 = (markL l).2 ++ [b] := by
  cases l with
  | nil =>
    show (markL [b]).2 = [b]
    rw [mark_cons, if_neg (by omega)]
  | cons c r =>
    show (markL (c :: (r ++ [b]))).2 = _
    rw [mark_cons, mark_cons]
    split <;> rfl
theorem betweens_snoc (l : List UInt8) (b : UInt8) (h : betweensL l = true) (hl : l.length < 2) (hb : betweenL (b.toNat : Int) = true) : betweensL (l ++ [b]) = true := by
  unfold betweensL at h ⊢
  rw [Bool.and_eq_true, decide_eq_true_eq] at h
  unfold betweenL at hb
  rw [only_snoc, h.2, hb, decide_eq_true (by rw [List.length_append, List.length_singleton]; omega)]
  rfl
theorem digit_np {s : PSt} (d : Int) (h : s.Good) : (s.digit d).params ≠ [-1] := by
  have hs : s.started.params ≠ [] ∧ (s.any = true → s.started.params = s.params) ∧ (s.any = false → s.started.params = [-1]) := by
    unfold PSt.started
    cases ha : s.any
    · exact ⟨by simp, by simp, by simp⟩
    · exact ⟨h.fine.pne ha, fun _ => rfl, by simp⟩
  unfold PSt.digit
  split
  · rename_i hd
    show setLast s.started.params d ≠ [-1]
    intro e
    have hc := clamp_range (s.started.params.getD (s.started.params.length - 1) 0) d hd
    have hlen : s.started.params.length = 1 := by
      have := congrArg List.length e
      unfold setLast at this
      simpa using this
    have hx : clamp (s.started.params.getD (s.started.params.length - 1) 0) d = -1 := by
      have := congrArg (fun l => l.getD 0 0) e
      unfold setLast at this
      rw [hlen] at this ⊢
      cases hp : s.started.params with
      | nil => rw [hp] at hlen; simp at hlen
      | cons x r => rw [hp] at this; simpa using this
    unfold clamp at hx
    omega
  · split
    · show s.started.params ++ [-1] ≠ [-1]
      intro e
      have := congrArg List.length e
      simp at this
      exact hs.1 this
    · rename_i hl
      show s.started.params ≠ [-1]
      intro e
      rw [e] at hl
      simp at hl
theorem digit_good {s : PSt} (d : Int) (h : s.Good) (h1 : s.state = 2 ∨ s.state = 5) : (s.digit d).Good ∧ (s.digit d).owes = s.owes := by
  have e : (s.digit d).inter = s.inter ∧ (s.digit d).text = s.text ∧ (s.digit d).state = s.state ∧ (s.digit d).dec = s.dec := by
    have e0 : s.started.inter = s.inter ∧ s.started.text = s.text ∧ s.started.state = s.state ∧ s.started.dec = s.dec := by
      unfold PSt.started; split <;> exact ⟨rfl, rfl, rfl, rfl⟩
    unfold PSt.digit
    split
    · exact e0
    split
    · exact e0
    · exact e0
  obtain ⟨e1, e2, e3, e4⟩ := e
  refine ⟨⟨digit_fine d h.fine, digit_np d h, by rw [e2]; exact h.tx, by rw [e3, e1]; exact h.i1, by rw [e3, e1]; exact h.i2, fun h6 => by rw [e3] at h6; omega, by rw [e4]; exact h.dg, by rw [e3, e4]; exact h.dh⟩, ?_⟩
  unfold PSt.owes
  rw [e3, e4]
theorem seqd_good {s : PSt} (b : UInt8) (h : s.Good) (h1 : s.state = 2 ∨ s.state = 5) (hb : 32 ≤ (b.toNat : Int) ∧ (b.toNat : Int) ≤ 126) :
    (s.seqd b).1.Good ∧ (∀ a ∈ (s.seqd b).2, AOk a) ∧ (s.seqd b).2.length + (s.seqd b).1.owes ≤ 1 + s.owes := by
  have hi2 := h.i2 (h1.elim .inl (fun e => .inr (.inl e)))
  have hbt := btw_eq hi2
  have hh : s.dec.hav = 0 := by
    by_cases h0 : s.dec.hav = 0
    · exact h0
    · have := h.dh h0; omega
  have hne1 : ¬ s.state = 1 := by omega
  have hfi := seqd_fine b h.fine hne1
  have hnil : ∀ a ∈ ([] : List VAct), AOk a := fun a ha => by simp at ha
  have h32 : (s.params.take 32) ≠ [-1] := by
    intro e
    have hl := congrArg List.length e
    rw [List.length_take, List.length_singleton] at hl
    rw [List.take_of_length_le (by omega)] at e
    exact h.np e
  have hpr32 : ∀ x ∈ s.params.take 32, -1 ≤ x ∧ x ≤ 9999 := fun x hx => h.fine.pr x (List.mem_of_mem_take hx)
  have hl32 : (s.params.take 32).length ≤ 32 := by rw [List.length_take]; omega
  revert hfi
  unfold PSt.seqd
  split
  · rename_i h64
    split
    · intro hfi
      refine ⟨begun_good (s := s.cut) (by decide) (by decide) h.dg (fun e => absurd hh e), fun a ha => ?_, ?_⟩
      · rw [List.mem_singleton] at ha; subst ha
        exact csi_ok hl32 h.fine.il hpr32 (headOk_of ⟨h64, hb.2⟩ hl32 h32 hpr32 hi2 4 0 _)
      · show 1 + ((if s.dec.hav = 0 then 0 else 1) + 0) ≤ _
        rw [if_pos hh]; omega
    · intro hfi
      refine ⟨⟨hfi, h32, h.tx, fun e => ?_, fun _ => hi2, fun _ => ⟨h64, hb.2, hl32⟩, h.dg, fun e => absurd hh e⟩, hnil, ?_⟩
      · have e' : (6 : Int) = 1 := e; omega
      · show 0 + ((if s.dec.hav = 0 then 0 else 1) + 1) ≤ _
        rw [if_pos hh]; omega
  rename_i n64
  split
  · rename_i hbe
    intro hfi
    have hb47 : (b.toNat : Int) ≤ 47 := by
      have := hbe.1
      unfold betweenL at this
      rw [Bool.and_eq_true, decide_eq_true_eq, decide_eq_true_eq] at this
      omega
    refine ⟨⟨hfi, h.np, h.tx, fun e => absurd e hne1, fun _ => ?_, fun e => ?_, h.dg, h.dh⟩, hnil, ?_⟩
    · show betweensL (markL (s.inter ++ [b])).2 = true
      rw [mark_snoc _ _ hb47]
      exact betweens_snoc _ _ hi2 (by omega) hbe.1
    · have e' : s.state = 6 := e; omega
    · show 0 + s.owes ≤ _; omega
  split
  · intro _
    obtain ⟨g1, g2⟩ := digit_good ((b.toNat : Int) - 48) h h1
    exact ⟨g1, hnil, by rw [g2]; simp only [List.length_nil]; omega⟩
  split
  · intro _
    obtain ⟨g1, g2⟩ := digit_good (-1) h h1
    exact ⟨g1, hnil, by rw [g2]; simp only [List.length_nil]; omega⟩
  split
  · rename_i hm
    intro hfi
    refine ⟨⟨hfi, h.np, h.tx, fun e => absurd e hne1, fun _ => ?_, fun e => ?_, h.dg, h.dh⟩, hnil, ?_⟩
    · show betweensL (markL (s.inter ++ [b])).2 = true
      rw [List.length_eq_zero_iff.1 hm.2.1]
      show betweensL (markL [b]).2 = true
      rw [mark_cons, if_pos ⟨hm.1, by omega⟩]
      rfl
    · have e' : s.state = 6 := e; omega
    · show 0 + s.owes ≤ _; omega
  · intro _
    refine ⟨begun_good (s := { s with frm := s.state }) (by decide) (by decide) h.dg (fun e => absurd hh e), hnil, ?_⟩
    show 0 + ((if s.dec.hav = 0 then 0 else 1) + 0) ≤ _
    rw [if_pos hh]; omega
theorem took_good {s : PSt} (b : UInt8) (h : s.Good) (h32 : 32 ≤ (b.toNat : Int)) (hb : s.texts = false → (b.toNat : Int) ≠ 127 ∧ (127 < (b.toNat : Int) → s.state = 0)) :
    (s.took b).1.Good ∧ (∀ a ∈ (s.took b).2, AOk a) ∧ (s.took b).2.length + (s.took b).1.owes ≤ 1 + s.owes := by
  have hnil : ∀ a ∈ ([] : List VAct), AOk a := fun a ha => by simp at ha
  have htx : ¬ s.state = 4 → ¬ s.state = 6 → ¬ s.state = 7 → s.texts = false := fun a1 a2 a3 => by
    cases ht : s.texts
    · rfl
    · have := (texts_iff s).1 ht; omega
  have hdz : ¬ s.state = 0 → s.dec.hav = 0 := fun e => by
    by_cases h0 : s.dec.hav = 0
    · exact h0
    · exact absurd (h.dh h0) e
  unfold PSt.took
  split
  · rename_i h1
    have hx := hb (htx (by omega) (by omega) (by omega))
    refine esced_good b h h1 ⟨h32, ?_⟩
    by_cases hc : 127 < (b.toNat : Int)
    · have := hx.2 hc; omega
    · have := hx.1; omega
  rename_i n1
  split
  · rename_i h1
    have hx := hb (htx (by omega) (by omega) (by omega))
    refine seqd_good b h h1 ⟨h32, ?_⟩
    by_cases hc : 127 < (b.toNat : Int)
    · have := hx.2 hc; omega
    · have := hx.1; omega
  rename_i n2
  split
  · rename_i h3
    have hh := hdz (by omega)
    split
    · refine ⟨?_, hnil, ?_⟩
      · split
        · exact begun_good (by decide) (by decide) h.dg (fun e => absurd hh e)
        · exact begun_good (by decide) (by decide) h.dg (fun e => absurd hh e)
      · split
        · show 0 + ((if s.dec.hav = 0 then 0 else 1) + 0) ≤ _
          rw [if_pos hh]; omega
        · show 0 + ((if s.dec.hav = 0 then 0 else 1) + 0) ≤ _
          rw [if_pos hh]; omega
    · exact ⟨h, hnil, by simp only [List.length_nil]; omega⟩
  rename_i n3
  split
  · rename_i h4
    split
    · rename_i hl
      refine ⟨⟨⟨h.fine.il, h.fine.pne, h.fine.pl, h.fine.pr, by show (s.text ++ [b]).length ≤ 1024; rw [List.length_append, List.length_singleton]; omega, h.fine.st, h.fine.e1⟩, h.np, fun c hc => ?_, h.i1, h.i2, h.f6, h.dg, h.dh⟩, hnil, ?_⟩
      · have hc' : c ∈ s.text ++ [b] := hc
        rcases List.mem_append.1 hc' with hc | hc
        · exact h.tx c hc
        · rw [List.mem_singleton] at hc; subst hc; exact h32
      · show 0 + s.owes ≤ _; omega
    · exact ⟨h, hnil, by simp only [List.length_nil]; omega⟩
  rename_i n4
  split
  · exact ⟨h, hnil, by simp only [List.length_nil]; omega⟩
  rename_i n7
  have h0 : s.state = 0 := by have := h.fine.st; omega
  have hx := hb (htx (by omega) (by omega) (by omega))
  obtain ⟨g1, g2, g3⟩ := feed_good s.dec (b.toNat : Int) h.dg (by omega) (byte_le b)
  unfold PSt.fed
  refine ⟨good_dec h _ g1 (fun _ => h0), fun a ha => ?_, ?_⟩
  · obtain ⟨r, hr, rfl⟩ := List.mem_map.1 ha
    exact pr_ok (g2 h32 hx.1 r hr)
  · simp only [List.length_map, PSt.owes]
    rw [if_neg (show ¬ (s.state = 4 ∨ s.state = 6) by omega)]
    omega
theorem step_good {s : PSt} (b : UInt8) (h : s.Good) : (s.step b).1.Good ∧ (∀ a ∈ (s.step b).2, AOk a) ∧ (s.step b).2.length + (s.step b).1.owes ≤ 1 + s.owes := by
  obtain ⟨g1, g2, g3, g4⟩ := any1_good b h
  unfold PSt.step
  split
  · rename_i ht
    exact ⟨g1, g2, g3 ht⟩
  · rename_i hf
    obtain ⟨k1, k2, k3, k4⟩ := g4 (by simpa using hf)
    obtain ⟨t1, t2, t3⟩ := took_good b g1 k3 k4
    rw [k1, List.nil_append]
    exact ⟨t1, t2, by dsimp only; omega⟩
theorem run_good : ∀ (l : List UInt8) {s : PSt}, s.Good → (s.run l).1.Good ∧ (∀ a ∈ (s.run l).2, AOk a) ∧ (s.run l).2.length + (s.run l).1.owes ≤ l.length + s.owes
  | [], s, h => ⟨h, fun a ha => by simp [PSt.run] at ha, by simp [PSt.run]⟩
  | b :: l, s, h => by
    obtain ⟨g1, g2, g3⟩ := step_good b h
    obtain ⟨k1, k2, k3⟩ := run_good l g1
    simp only [PSt.run]
    refine ⟨k1, fun a ha => ?_, ?_⟩
    · rcases List.mem_append.1 ha with ha | ha
      · exact g2 a ha
      · exact k2 a ha
    · rw [List.length_append, List.length_cons]; omega
/-- Of all bytes no more actions than bytes, and each keeps its limits. -/
theorem told_good (l : List UInt8) : (∀ a ∈ (s0.run l).2, AOk a) ∧ (s0.run l).2.length ≤ l.length := by
  obtain ⟨_, g2, g3⟩ := run_good l s0_good
  refine ⟨g2, ?_⟩
  have : s0.owes = 0 := rfl
  omega
end Go.Proofs.YtkdicejlfagaeaaDoor
