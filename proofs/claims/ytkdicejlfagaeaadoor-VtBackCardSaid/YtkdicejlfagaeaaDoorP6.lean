/- Package vtparse, plain: each byte tells what keeps its limits; how many are told. -/
import Derived.Test.YtkdicejlfagaeaaDoorP5
namespace Go.Proofs.YtkdicejlfagaeaaDoor
open Go.RowKit

/-- What may yet be told of what came. -/
def PSt.owes (s : PSt) : Nat := (if s.dec.hav = 0 then 0 else 1) + (if s.state = 4 ∨ s.state = 6 then 1 else 0)
theorem texts_iff (s : PSt) : s.texts = true ↔ s.state = 4 ∨ s.state = 6 ∨ s.state = 7 := by
  unfold PSt.texts
  simp [or_assoc]
theorem texts_no {s : PSt} (h : s.texts = false) : ¬ s.state = 4 ∧ ¬ s.state = 6 ∧ ¬ s.state = 7 := by
  have : ¬ (s.state = 4 ∨ s.state = 6 ∨ s.state = 7) := fun e => by rw [(texts_iff s).2 e] at h; simp at h
  exact ⟨fun e => this (.inl e), fun e => this (.inr (.inl e)), fun e => this (.inr (.inr e))⟩
theorem good_dec {s : PSt} (h : s.Good) (D : Dec) (hd : DGood D) (hh : D.hav ≠ 0 → s.state = 0) : ({ s with dec := D } : PSt).Good :=
  ⟨⟨h.fine.il, h.fine.pne, h.fine.pl, h.fine.pr, h.fine.tl, h.fine.st, h.fine.e1⟩, h.np, h.tx, h.i1, h.i2, h.f6, hd, hh⟩
theorem any1_good {s : PSt} (b : UInt8) (h : s.Good) :
    (s.any1 b).2.1.Good ∧ (∀ a ∈ (s.any1 b).2.2, AOk a) ∧ ((s.any1 b).1 = true → (s.any1 b).2.2.length + (s.any1 b).2.1.owes ≤ 1 + s.owes) ∧
      ((s.any1 b).1 = false → (s.any1 b).2.2 = [] ∧ (s.any1 b).2.1.owes ≤ s.owes ∧ 32 ≤ (b.toNat : Int) ∧ ((s.any1 b).2.1.texts = false → (b.toNat : Int) ≠ 127 ∧ (127 < (b.toNat : Int) → (s.any1 b).2.1.state = 0))) := by
  obtain ⟨e1, e2, e3, e4⟩ := end_good s.dec h.dg
  have hends := ends_good h
  have hel := ends_len s
  unfold PSt.any1
  split
  · refine ⟨begun_good (s := { s with dec := dec0 }) (by decide) (by decide) (fun h => absurd rfl h) (fun _ => rfl), fun a ha => by simp at ha, fun _ => ?_, fun h => by simp at h⟩
    show 0 + (0 + 0) ≤ _; omega
  split
  · have g := begun_good (s := { s with dec := (endD s.dec).1 }) (n := 1) (by decide) (by decide) e1 (fun h => absurd e3 h)
    refine ⟨⟨⟨g.fine.il, g.fine.pne, g.fine.pl, g.fine.pr, g.fine.tl, g.fine.st, g.fine.e1⟩, g.np, g.tx, g.i1, g.i2, g.f6, g.dg, g.dh⟩, fun a ha => ?_, fun _ => ?_, fun h => by simp at h⟩
    · rcases List.mem_append.1 ha with ha | ha
      · obtain ⟨r, hr, rfl⟩ := List.mem_map.1 ha
        exact pr_ok (e2 r hr)
      · exact hends a ha
    · simp only [List.length_append, List.length_map, e4, hel, PSt.owes]
      show _ + ((if (endD s.dec).1.hav = 0 then 0 else 1) + 0) ≤ _
      rw [if_pos e3]
      omega
  split
  · rename_i h7
    refine ⟨begun_good (by decide) (by decide) h.dg (fun _ => rfl), hends, fun _ => ?_, fun h => by simp at h⟩
    have hh : s.dec.hav = 0 := by
      by_cases h0 : s.dec.hav = 0
      · exact h0
      · have := h.dh h0; omega
    simp only [hel, PSt.owes]
    show _ + ((if s.dec.hav = 0 then 0 else 1) + 0) ≤ _
    rw [if_pos hh, if_pos (show s.state = 4 ∨ s.state = 6 from .inl h7.2)]
    omega
  split
  · exact ⟨h, fun a ha => by simp at ha, fun _ => by simp, fun h => by simp at h⟩
  rename_i n24 n27 n7 nq
  split
  · rename_i h32
    have htx : s.texts = false := by
      cases ht : s.texts
      · rfl
      · exact absurd (.inr ⟨h32, ht⟩) nq
    obtain ⟨t4, t6, t7⟩ := texts_no htx
    refine ⟨good_dec h _ e1 (fun h => absurd e3 h), fun a ha => ?_, fun _ => ?_, fun h => by simp at h⟩
    · rcases List.mem_append.1 ha with ha | ha
      · obtain ⟨r, hr, rfl⟩ := List.mem_map.1 ha
        exact pr_ok (e2 r hr)
      · simp at ha; subst ha
        refine ctl_ok ?_
        unfold ctlOk
        rw [decide_eq_true h32, beq_eq_false_iff_ne.2 (fun e => n24 (.inl e)), beq_eq_false_iff_ne.2 (fun e => n24 (.inr e)), beq_eq_false_iff_ne.2 n27]
        rfl
    · simp only [List.length_append, List.length_map, List.length_singleton, e4, PSt.owes]
      rw [if_pos e3]
      omega
  rename_i n32
  split
  · rename_i h127
    by_cases h0 : s.state = 0
    · rw [if_pos h0]
      exact ⟨h, fun a ha => by simp at ha, fun h => by simp at h, fun _ => ⟨rfl, Nat.le_refl _, by omega, fun _ => ⟨by omega, fun _ => h0⟩⟩⟩
    · rw [if_neg h0]
      have hh : s.dec.hav = 0 := by
        by_cases hv : s.dec.hav = 0
        · exact hv
        · exact absurd (h.dh hv) h0
      refine ⟨begun_good (by decide) (by decide) h.dg (fun _ => rfl), fun a ha => by simp at ha, fun h => by simp at h, fun _ => ⟨rfl, ?_, by omega, fun _ => ⟨by omega, fun _ => rfl⟩⟩⟩
      simp only [PSt.owes]
      show (if s.dec.hav = 0 then 0 else 1) + 0 ≤ _
      omega
  · rename_i n127
    refine ⟨h, fun a ha => by simp at ha, fun h => by simp at h, fun _ => ⟨rfl, Nat.le_refl _, by omega, fun ht => ?_⟩⟩
    have ht' : s.texts = false := ht
    refine ⟨fun e => nq (.inl ⟨e, ht'⟩), fun hg => absurd ⟨hg, ht'⟩ n127⟩
theorem only_snoc (l : List UInt8) (b : UInt8) (lo hi : Int) : onlyL (l ++ [b]) lo hi = (onlyL l lo hi && (decide (lo ≤ (b.toNat : Int)) && decide ((b.toNat : Int) ≤ hi))) := by
  unfold onlyL; simp
theorem esced_good {s : PSt} (b : UInt8) (h : s.Good) (h1 : s.state = 1) (hb : 32 ≤ (b.toNat : Int) ∧ (b.toNat : Int) ≤ 126) :
    (s.esced b).1.Good ∧ (∀ a ∈ (s.esced b).2, AOk a) ∧ (s.esced b).2.length + (s.esced b).1.owes ≤ 1 + s.owes := by
  have hi := h.fine.e1 h1
  have hon := h.i1 h1
  have hh : s.dec.hav = 0 := by
    by_cases h0 : s.dec.hav = 0
    · exact h0
    · have := h.dh h0; omega
  have ho : ∀ n, (s.begun n).owes = if n = 4 ∨ n = 6 then 1 else 0 := fun n => by
    unfold PSt.owes
    show (if s.dec.hav = 0 then 0 else 1) + _ = _
    rw [if_pos hh, Nat.zero_add]
    rfl
  have hbg : ∀ n, 0 ≤ n ∧ n ≤ 7 → n ≠ 6 → (s.begun n).Good := fun n hn h6 => begun_good hn h6 h.dg (fun e => absurd hh e)
  unfold PSt.esced
  split
  · rename_i hbt
    split
    · refine ⟨?_, fun a ha => by simp at ha, ?_⟩
      · exact begun_good (s := { s with frm := s.state }) (by decide) (by decide) h.dg (fun e => absurd hh e)
      · show 0 + ((if s.dec.hav = 0 then 0 else 1) + 0) ≤ _
        rw [if_pos hh]; omega
    · rename_i h2
      have hk : (s.inter ++ [b]).length ≤ 2 := by rw [List.length_append, List.length_singleton]; omega
      refine ⟨⟨⟨by show (s.inter ++ [b]).length ≤ 3; omega, h.fine.pne, h.fine.pl, h.fine.pr, h.fine.tl, h.fine.st, fun _ => hk⟩, h.np, h.tx, fun _ => ?_, fun e => ?_, h.f6, h.dg, h.dh⟩, fun a ha => by simp at ha, ?_⟩
      · show onlyL (s.inter ++ [b]) 32 47 = true
        rw [only_snoc, hon]
        unfold betweenL at hbt
        rw [hbt]; rfl
      · have e' : s.state = 2 ∨ s.state = 5 ∨ s.state = 6 := e
        omega
      · simp only [List.length_nil, PSt.owes]; omega
  rename_i hbt
  have hb48 : 48 ≤ (b.toNat : Int) := by
    unfold betweenL at hbt
    rw [Bool.and_eq_true, decide_eq_true_eq, decide_eq_true_eq] at hbt
    omega
  have hesc : ∀ (hc : s.inter.length ≠ 0 ∨ beginsL b.toNat = false), AOk (escAct b s.inter) := fun hc => by
    refine esc_ok hi ?_
    unfold escOk betweensL
    rw [decide_eq_true hi, hon, decide_eq_true hb48, decide_eq_true hb.2]
    rcases hc with hc | hc
    · have : s.inter.isEmpty = false := by cases hs : s.inter with
        | nil => rw [hs] at hc; simp at hc
        | cons c r => rfl
      rw [this]; rfl
    · rw [hc]; simp
  have tellok : ∀ (hc : s.inter.length ≠ 0 ∨ beginsL b.toNat = false), (s.begun 0).Good ∧ (∀ a ∈ [escAct b s.inter], AOk a) ∧ [escAct b s.inter].length + (s.begun 0).owes ≤ 1 + s.owes := fun hc => by
    refine ⟨hbg 0 (by decide) (by decide), fun a ha => ?_, ?_⟩
    · rw [List.mem_singleton] at ha; subst ha; exact hesc hc
    · rw [ho 0]; simp
  have beg : ∀ n, 0 ≤ n ∧ n ≤ 7 → n ≠ 6 → (s.begun n).Good ∧ (∀ a ∈ ([] : List VAct), AOk a) ∧ ([] : List VAct).length + (s.begun n).owes ≤ 1 + s.owes := fun n hn h6 => by
    refine ⟨hbg n hn h6, fun a ha => by simp at ha, ?_⟩
    rw [ho n]; simp only [List.length_nil]; split <;> omega
  split
  · rename_i h0
    split
    · exact beg 2 (by decide) (by decide)
    split
    · exact beg 4 (by decide) (by decide)
    split
    · exact beg 5 (by decide) (by decide)
    split
    · exact beg 7 (by decide) (by decide)
    rename_i n1 n2 n3 n4
    split
    · exact beg 0 (by decide) (by decide)
    · refine tellok (.inr ?_)
      unfold beginsL
      simp only [Bool.or_eq_false_iff, beq_eq_false_iff_ne]
      omega
  · rename_i h0
    exact tellok (.inl h0)
end Go.Proofs.YtkdicejlfagaeaaDoor
