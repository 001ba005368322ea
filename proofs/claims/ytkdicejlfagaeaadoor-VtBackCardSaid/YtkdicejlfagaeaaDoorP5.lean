/- Package vtparse, plain: what is told keeps its limits, and can be written. -/
import Derived.Test.YtkdicejlfagaeaaDoorW14
namespace Go.Proofs.YtkdicejlfagaeaaDoor
open Go.RowKit

/-- What has begun in a decoder can become a rune. -/
def DGood (d : Dec) : Prop := d.hav ≠ 0 → 128 ≤ d.lo ∧ d.hi ≤ 191 ∧
  ((d.more = 1 ∧ 2 ≤ d.r ∧ d.r ≤ 17407 ∧ (d.r < 864 ∨ 895 < d.r)) ∨ (d.more = 2 ∧ 0 ≤ d.r ∧ d.r ≤ 271 ∧ (d.r = 0 → 160 ≤ d.lo) ∧ (d.r = 13 → d.hi ≤ 159)) ∨
    (d.more = 3 ∧ 0 ≤ d.r ∧ d.r ≤ 4 ∧ (d.r = 0 → 144 ≤ d.lo) ∧ (d.r = 4 → d.hi ≤ 143)))
theorem prOk_of {r : Int} (h1 : 32 ≤ r) (h2 : r ≠ 127) (h3 : (0 ≤ r ∧ r < 55296) ∨ (57343 < r ∧ r ≤ 1114111)) : prOk r = true := by
  unfold prOk Lib.validRune
  rw [decide_eq_true h1, beq_eq_false_iff_ne.2 h2, decide_eq_true (show (0 ≤ r ∧ r < 0xD800) ∨ (0xDFFF < r ∧ r ≤ 0x10FFFF) from h3)]
  rfl
theorem prOk_bad : prOk 65533 = true := prOk_of (by decide) (by decide) (by omega)
theorem begin_good (d : Dec) (b : Int) (hd : d.hav = 0) (h0 : 0 ≤ b) (h1 : b ≤ 255) :
    DGood (beginD d b).1 ∧ (32 ≤ b → b ≠ 127 → ∀ r ∈ (beginD d b).2, prOk r = true) ∧ (beginD d b).2.length + (if (beginD d b).1.hav = 0 then 0 else 1) = 1 := by
  unfold beginD
  split
  · rename_i hb
    refine ⟨fun h => absurd hd h, fun h2 h3 r hr => ?_, by simp⟩
    simp at hr; subst hr
    exact prOk_of h2 h3 (by omega)
  split
  · exact ⟨fun _ => ⟨by simp, by simp, .inl ⟨rfl, by simp only []; omega, by simp only []; omega, by simp only []; omega⟩⟩, fun _ _ r hr => by simp at hr, by simp⟩
  split
  · refine ⟨fun _ => ⟨?_, ?_, .inr (.inl ⟨rfl, ?_, ?_, ?_, ?_⟩)⟩, fun _ _ r hr => by simp at hr, by simp⟩
    · simp only []; split <;> omega
    · simp only []; split <;> omega
    · simp only []; omega
    · simp only []; omega
    · simp only []; intro h; rw [if_pos (by omega)]; omega
    · simp only []; intro h; rw [if_pos (by omega)]; omega
  split
  · refine ⟨fun _ => ⟨?_, ?_, .inr (.inr ⟨rfl, ?_, ?_, ?_, ?_⟩)⟩, fun _ _ r hr => by simp at hr, by simp⟩
    · simp only []; split <;> omega
    · simp only []; split <;> omega
    · simp only []; omega
    · simp only []; omega
    · simp only []; intro h; rw [if_pos (by omega)]; omega
    · simp only []; intro h; rw [if_pos (by omega)]; omega
  · refine ⟨fun h => absurd hd h, fun _ _ r hr => ?_, by simp⟩
    simp at hr; subst hr
    exact prOk_bad
theorem feed_good (d : Dec) (b : Int) (hd : DGood d) (h0 : 0 ≤ b) (h1 : b ≤ 255) :
    DGood (feedD d b).1 ∧ (32 ≤ b → b ≠ 127 → ∀ r ∈ (feedD d b).2, prOk r = true) ∧ (feedD d b).2.length + (if (feedD d b).1.hav = 0 then 0 else 1) ≤ 1 + (if d.hav = 0 then 0 else 1) := by
  unfold feedD
  by_cases hh : d.hav = 0
  · rw [if_pos hh, if_pos hh]
    obtain ⟨g1, g2, g3⟩ := begin_good d b hh h0 h1
    exact ⟨g1, g2, by omega⟩
  rw [if_neg hh, if_neg hh]
  by_cases hb : b < d.lo ∨ d.hi < b
  · rw [if_pos hb]
    obtain ⟨g1, g2, g3⟩ := begin_good { d with hav := 0 } b rfl h0 h1
    refine ⟨g1, fun k1 k2 r hr => ?_, ?_⟩
    · rcases List.mem_cons.1 hr with rfl | hr
      · exact prOk_bad
      · exact g2 k1 k2 r hr
    · simp only [List.length_cons]; omega
  rw [if_neg hb]
  obtain ⟨k1, k2, k3⟩ := hd hh
  by_cases hm : 1 < d.more
  · rw [if_pos hm]
    refine ⟨fun _ => ⟨by simp, by simp, ?_⟩, fun _ _ r hr => by simp at hr, by simp only [List.length_nil]; split <;> omega⟩
    simp only []
    rcases k3 with ⟨m1, _⟩ | ⟨m2, r0, r1, r2, r3⟩ | ⟨m3, r0, r1, r2, r3⟩
    · omega
    · left
      refine ⟨by omega, ?_, ?_, ?_⟩
      · by_cases h : d.r = 0
        · have := r2 h; omega
        · omega
      · omega
      · by_cases h : d.r = 13
        · have := r3 h; omega
        · omega
    · right; left
      refine ⟨by omega, ?_, ?_, ?_, ?_⟩
      · omega
      · by_cases h : d.r = 4
        · have := r3 h; omega
        · omega
      · intro h
        by_cases h' : d.r = 0
        · have := r2 h'; omega
        · omega
      · intro h
        by_cases h' : d.r = 0
        · have := r2 h'; omega
        · omega
  · rw [if_neg hm]
    refine ⟨fun h => absurd rfl h, fun _ _ r hr => ?_, by simp⟩
    simp at hr; subst hr
    rcases k3 with ⟨m1, r0, r1, r2⟩ | ⟨m2, _⟩ | ⟨m3, _⟩
    · exact prOk_of (by omega) (by omega) (by omega)
    · omega
    · omega
theorem end_good (d : Dec) (hd : DGood d) : DGood (endD d).1 ∧ (∀ r ∈ (endD d).2, prOk r = true) ∧ (endD d).1.hav = 0 ∧ (endD d).2.length = (if d.hav = 0 then 0 else 1) := by
  unfold endD
  by_cases h : d.hav = 0
  · rw [if_pos h, if_pos h]
    exact ⟨hd, fun r hr => by simp at hr, h, rfl⟩
  · rw [if_neg h, if_neg h]
    exact ⟨fun h => absurd rfl h, fun r hr => by simp at hr; subst hr; exact prOk_bad, rfl, rfl⟩

structure ABnd (a : VAct) : Prop where
  k : 1 ≤ a.kind ∧ a.kind ≤ 6
  pl : a.params.length ≤ 32
  tl : a.text.size ≤ 1024
  il : a.inter.size ≤ 3
  pr : ∀ x ∈ a.params, -1 ≤ x ∧ x ≤ 9999
  wr : 0 < (wrL a).length
  rn : 0 ≤ a.rune ∧ a.rune ≤ 1114111
structure PSt.Good (s : PSt) : Prop where
  fine : s.Fine
  np : s.params ≠ [-1]
  tx : ∀ b ∈ s.text, 32 ≤ (b.toNat : Int)
  i1 : s.state = 1 → onlyL s.inter 32 47 = true
  i2 : s.state = 2 ∨ s.state = 5 ∨ s.state = 6 → betweensL (markL s.inter).2 = true
  f6 : s.state = 6 → 64 ≤ (s.final.toNat : Int) ∧ (s.final.toNat : Int) ≤ 126 ∧ s.params.length ≤ 32
  dg : DGood s.dec
  dh : s.dec.hav ≠ 0 → s.state = 0
theorem s0_good : s0.Good := ⟨s0_fine, by decide, fun b hb => by simp [s0] at hb, fun h => absurd h (by decide), fun h => absurd h (by decide), fun h => absurd h (by decide), fun h => absurd rfl h, fun h => absurd rfl h⟩
theorem begun_good {s : PSt} {n : Int} (hn : 0 ≤ n ∧ n ≤ 7) (h6 : n ≠ 6) (hd : DGood s.dec) (hh : s.dec.hav ≠ 0 → n = 0) : (s.begun n).Good :=
  ⟨begun_fine hn, by simp [PSt.begun], fun b hb => by simp [PSt.begun] at hb, fun _ => rfl, fun _ => rfl, fun h => absurd h h6, hd, hh⟩
theorem pr_bnd {r : Int} (h : prOk r = true) : ABnd (prAct r) :=
  ⟨by show 1 ≤ (1 : Int) ∧ (1 : Int) ≤ 6; decide, by show 0 ≤ 32; decide, by show 0 ≤ 1024; decide, by show 0 ≤ 3; decide, fun x hx => by simp [prAct] at hx, by
    have e : wrL (prAct r) = encL r := by unfold wrL; simp [prAct, h]
    rw [e]; exact (encL_pos r).1, by
    unfold prOk Lib.validRune at h
    simp only [Bool.and_eq_true, decide_eq_true_eq] at h
    show 0 ≤ r ∧ r ≤ 1114111
    omega⟩
theorem ctl_bnd {b : UInt8} (h : ctlOk b = true) : ABnd (ctlAct b) :=
  ⟨by show 1 ≤ (2 : Int) ∧ (2 : Int) ≤ 6; decide, by show 0 ≤ 32; decide, by show 0 ≤ 1024; decide, by show 0 ≤ 3; decide, fun x hx => by simp [ctlAct] at hx, by
    have e : wrL (ctlAct b) = [b] := by unfold wrL; simp [ctlAct, h]
    rw [e]; simp, by show 0 ≤ (0 : Int) ∧ (0 : Int) ≤ 1114111; decide⟩
theorem esc_bnd {b : UInt8} {inter : List UInt8} (hi : inter.length ≤ 2) (h : escOk inter b = true) : ABnd (escAct b inter) :=
  ⟨by show 1 ≤ (3 : Int) ∧ (3 : Int) ≤ 6; decide, by show 0 ≤ 32; decide, by show 0 ≤ 1024; decide, by show inter.length ≤ 3; omega, fun x hx => by simp [escAct] at hx, by
    have e : wrL (escAct b inter) = 27 :: inter ++ [b] := by unfold wrL; simp [escAct, h]
    rw [e]; simp, by show 0 ≤ (0 : Int) ∧ (0 : Int) ≤ 1114111; decide⟩
theorem csi_bnd {b : UInt8} {params : List Int} {inter : List UInt8} (hp : params.length ≤ 32) (hi : inter.length ≤ 3) (hr : ∀ x ∈ params, -1 ≤ x ∧ x ≤ 9999) (h : headOk (csiAct b params inter) = true) : ABnd (csiAct b params inter) :=
  ⟨by show 1 ≤ (4 : Int) ∧ (4 : Int) ≤ 6; decide, hp, by show 0 ≤ 1024; decide, hi, hr, by
    have e : wrL (csiAct b params inter) = [27, 91] ++ headL (csiAct b params inter) := by unfold wrL; rw [h]; simp [csiAct]
    rw [e]; simp, by show 0 ≤ (0 : Int) ∧ (0 : Int) ≤ 1114111; decide⟩
theorem txt_ok {t : List UInt8} (hl : t.length ≤ 1024) (h : ∀ b ∈ t, 32 ≤ (b.toNat : Int)) : txtOk t = true := by
  unfold txtOk onlyL
  rw [decide_eq_true hl, Bool.and_true, List.all_eq_true]
  intro b hb
  rw [decide_eq_true (h b hb), decide_eq_true (byte_le b)]
  rfl
theorem osc_bnd {t : List UInt8} (hl : t.length ≤ 1024) (h : ∀ b ∈ t, 32 ≤ (b.toNat : Int)) : ABnd (oscAct t) :=
  ⟨by show 1 ≤ (5 : Int) ∧ (5 : Int) ≤ 6; decide, by show 0 ≤ 32; decide, hl, by show 0 ≤ 3; decide, fun x hx => by simp [oscAct] at hx, by
    have e : wrL (oscAct t) = [27, 93] ++ t ++ [7] := by unfold wrL; simp [oscAct, txt_ok hl h]
    rw [e]; simp, by show 0 ≤ (0 : Int) ∧ (0 : Int) ≤ 1114111; decide⟩
theorem dcs_bnd {b : UInt8} {params : List Int} {inter t : List UInt8} (hp : params.length ≤ 32) (hi : inter.length ≤ 3) (hr : ∀ x ∈ params, -1 ≤ x ∧ x ≤ 9999) (hl : t.length ≤ 1024) (ht : ∀ b ∈ t, 32 ≤ (b.toNat : Int)) (h : headOk (dcsAct b params inter t) = true) : ABnd (dcsAct b params inter t) :=
  ⟨by show 1 ≤ (6 : Int) ∧ (6 : Int) ≤ 6; decide, hp, hl, hi, hr, by
    have e : wrL (dcsAct b params inter t) = [27, 80] ++ headL (dcsAct b params inter t) ++ t ++ [27, 92] := by unfold wrL; rw [h]; simp [dcsAct, txt_ok hl ht]
    rw [e]; simp, by show 0 ≤ (0 : Int) ∧ (0 : Int) ≤ 1114111; decide⟩
theorem headOk_of {b : UInt8} {params : List Int} {inter : List UInt8} (hb : 64 ≤ (b.toNat : Int) ∧ (b.toNat : Int) ≤ 126) (hp : params.length ≤ 32) (hn : params ≠ [-1]) (hr : ∀ x ∈ params, -1 ≤ x ∧ x ≤ 9999) (hi : betweensL (markL inter).2 = true) (k r : Int) (t : ByteArray) :
    headOk ⟨k, r, b, params, ⟨inter.toArray⟩, t⟩ = true := by
  unfold headOk preOk
  show ((betweensL (markL inter).2 && (decide (64 ≤ (b.toNat : Int)) && (decide ((b.toNat : Int) ≤ 126) && (decide (params.length ≤ 32) && !(decide (params = [-1])))))) && params.all parOk) = true
  rw [hi, decide_eq_true hb.1, decide_eq_true hb.2, decide_eq_true hp, decide_eq_false hn]
  simp only [Bool.not_false, Bool.and_self, Bool.true_and, List.all_eq_true]
  intro x hx
  have := hr x hx
  unfold parOk
  rw [decide_eq_true this.1, decide_eq_true this.2]
  rfl
/-- What can be told. -/
inductive AOk : VAct → Prop
  | pr {r : Int} : prOk r = true → AOk (prAct r)
  | ctl {b : UInt8} : ctlOk b = true → AOk (ctlAct b)
  | esc {b : UInt8} {inter : List UInt8} : inter.length ≤ 2 → escOk inter b = true → AOk (escAct b inter)
  | csi {b : UInt8} {params : List Int} {inter : List UInt8} : params.length ≤ 32 → inter.length ≤ 3 → (∀ x ∈ params, -1 ≤ x ∧ x ≤ 9999) → headOk (csiAct b params inter) = true → AOk (csiAct b params inter)
  | osc {t : List UInt8} : t.length ≤ 1024 → (∀ b ∈ t, 32 ≤ (b.toNat : Int)) → AOk (oscAct t)
  | dcs {b : UInt8} {params : List Int} {inter t : List UInt8} : params.length ≤ 32 → inter.length ≤ 3 → (∀ x ∈ params, -1 ≤ x ∧ x ≤ 9999) → t.length ≤ 1024 → (∀ b ∈ t, 32 ≤ (b.toNat : Int)) → headOk (dcsAct b params inter t) = true → AOk (dcsAct b params inter t)
theorem AOk.bnd {a : VAct} (h : AOk a) : ABnd a := by
  cases h with
  | pr h => exact pr_bnd h
  | ctl h => exact ctl_bnd h
  | esc h1 h2 => exact esc_bnd h1 h2
  | csi h1 h2 h3 h4 => exact csi_bnd h1 h2 h3 h4
  | osc h1 h2 => exact osc_bnd h1 h2
  | dcs h1 h2 h3 h4 h5 h6 => exact dcs_bnd h1 h2 h3 h4 h5 h6
theorem pr_ok {r : Int} (h : prOk r = true) : AOk (prAct r) := .pr h
theorem ctl_ok {b : UInt8} (h : ctlOk b = true) : AOk (ctlAct b) := .ctl h
theorem esc_ok {b : UInt8} {inter : List UInt8} (hi : inter.length ≤ 2) (h : escOk inter b = true) : AOk (escAct b inter) := .esc hi h
theorem csi_ok {b : UInt8} {params : List Int} {inter : List UInt8} (hp : params.length ≤ 32) (hi : inter.length ≤ 3) (hr : ∀ x ∈ params, -1 ≤ x ∧ x ≤ 9999) (h : headOk (csiAct b params inter) = true) : AOk (csiAct b params inter) := .csi hp hi hr h
theorem osc_ok {t : List UInt8} (hl : t.length ≤ 1024) (h : ∀ b ∈ t, 32 ≤ (b.toNat : Int)) : AOk (oscAct t) := .osc hl h
theorem dcs_ok {b : UInt8} {params : List Int} {inter t : List UInt8} (hp : params.length ≤ 32) (hi : inter.length ≤ 3) (hr : ∀ x ∈ params, -1 ≤ x ∧ x ≤ 9999) (hl : t.length ≤ 1024) (ht : ∀ b ∈ t, 32 ≤ (b.toNat : Int)) (h : headOk (dcsAct b params inter t) = true) : AOk (dcsAct b params inter t) := .dcs hp hi hr hl ht h
theorem ends_good {s : PSt} (h : s.Good) : ∀ a ∈ s.endActs, AOk a := by
  intro a ha
  unfold PSt.endActs at ha
  split at ha
  · simp at ha; subst ha
    exact osc_ok h.fine.tl h.tx
  split at ha
  · rename_i h6
    simp at ha; subst ha
    have hf := h.f6 h6
    exact dcs_ok hf.2.2 h.fine.il h.fine.pr h.fine.tl h.tx (headOk_of ⟨hf.1, hf.2.1⟩ hf.2.2 h.np h.fine.pr (h.i2 (.inr (.inr h6))) 6 0 _)
  · simp at ha
theorem ends_len (s : PSt) : s.endActs.length = if s.state = 4 ∨ s.state = 6 then 1 else 0 := by
  unfold PSt.endActs
  by_cases h4 : s.state = 4
  · rw [if_pos h4, if_pos (.inl h4)]; rfl
  · by_cases h6 : s.state = 6
    · rw [if_neg h4, if_pos h6, if_pos (.inr h6)]; rfl
    · rw [if_neg h4, if_neg h6, if_neg (fun h => h.elim h4 h6)]; rfl
end Go.Proofs.YtkdicejlfagaeaaDoor
