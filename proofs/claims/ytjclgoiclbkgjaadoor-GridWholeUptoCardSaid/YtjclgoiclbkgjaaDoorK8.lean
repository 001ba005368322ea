import Derived.Test.YtjclgoiclbkgjaaDoorK1
import Derived.Deep.RegionHeld3
/- A drawing region in whose course what is held of the world turns once: behind its operation c another condition holds. -/
namespace Go.Proofs.YtjclgoiclbkgjaaDoor
open Go
section
variable {P : Program} {ops : Array Oper} {Q : Exit → Act → World → Prop} {md : Region.Mode} {c : Nat} {S : Bool → World → Prop}

/-- Has operation c come up? -/
def upC (c : Nat) (listed : Array Bool) : Bool := listed.getD c false
def wpL (P : Program) (md : Region.Mode) (ops : Array Oper) (Q : Exit → Act → World → Prop) (c : Nat) (S : Bool → World → Prop) : Nat → Array Bool → Act → World → Prop
  | 0, listed, a, w => Region.ready md ops listed = [] ∧ Q .normal a w
  | n + 1, listed, a, w => (Region.ready md ops listed = [] → Q .normal a w) ∧
    (∀ i ∈ Region.ready md ops listed, wpOp P ops Q i (fun a2 w2 => S (upC c (listed.setIfInBounds i true)) w2 ∧ wpL P md ops Q c S n (listed.setIfInBounds i true) a2 w2) a w)
theorem wpL_any : ∀ (n : Nat) (listed : Array Bool) (a : Act) (w : World), wpL P md ops Q c S n listed a w → wpAny P md ops Q n listed a w
  | 0, _, _, _, h => h
  | n + 1, _, _, _, h => ⟨h.1, fun i hi => wpOp_mono (fun a2 w2 h2 => wpL_any n _ a2 w2 h2.2) (h.2 i hi)⟩
theorem wpL_begin {id : Nat} {a : Act} {w : World} (hm : P.follows .mixedOrders = true) (hS : S false w.drew) (h : S false w.drew → wpL P .any ops Q c S ops.size (Array.replicate ops.size false) a w.drew) : (Code.region id ops true).wp P Q a w :=
  wp_region_any hm (wpL_any _ _ _ _ (h hS))
theorem wpL_done {listed : Array Bool} {a : Act} {w : World} (hr : Region.ready md ops listed = []) (h : Q .normal a w) : ∀ n, wpL P md ops Q c S n listed a w
  | 0 => ⟨hr, h⟩
  | _ + 1 => ⟨fun _ => h, by rw [hr]; simp⟩
theorem wpL_first {i : Nat} {oi : Oper} {v : Value} {dep : Bool} (hi : ops[i]? = some oi) (hsel : ∀ (j : Nat) (o : Oper) cs b, ops[j]? = some o → o.op ≠ .select cs b)
    (hQ : ∀ k a w, Q (.panic k) (a.put oi.dst v) w → Q (.panic k) a w) (hic : i ≠ c)
    (hdep : dep = true → ∃ oc, ops[c]? = some oc ∧ ∃ e ∈ oc.after, Region.binds md e = true ∧ e.on = i) :
    ∀ (n : Nat) (listed : Array Bool) (a : Act) (w : World),
      (∀ j oj, ops[j]? = some oj → j ≠ i → listed.getD j true = false → (∀ e ∈ oj.after, Region.binds md e = true → e.on ≠ i) → oi.apart ops oj = true) →
      i ∈ Region.ready md ops listed → (dep = true → upC c listed = false) → YieldsIf P ops (fun w => ∃ b, S b w ∧ (dep = true → b = false)) oi v a → S (upC c listed) w →
      wpL P md ops Q c S n (listed.setIfInBounds i true) (a.put oi.dst v) w → wpL P md ops Q c S (n + 1) listed a w := by
  have hset : ∀ listed : Array Bool, upC c (listed.setIfInBounds i true) = upC c listed := fun listed => getD_set_ne false hic
  intro n
  induction n with
  | zero =>
    intro listed a w _ hr hd hy hS H
    refine ⟨fun h => (by rw [h] at hr; cases hr), fun j hj => ?_⟩
    by_cases hji : j = i
    · subst hji
      exact hy.wpOp hi ⟨_, hS, hd⟩ ⟨by rw [hset]; exact hS, H⟩
    · have := ready_mono hj hji
      rw [H.1] at this
      cases this
  | succ n ih =>
    intro listed a w hfree hr hd hy hS H
    refine ⟨fun h => (by rw [h] at hr; cases hr), fun j hj => ?_⟩
    by_cases hji : j = i
    · subst hji
      exact hy.wpOp hi ⟨_, hS, hd⟩ ⟨by rw [hset]; exact hS, H⟩
    · have h1 := H.2 j (ready_mono hj hji)
      obtain ⟨hjun, oj, hoj, hall⟩ := mem_ready.1 hj
      have hnot : ∀ e ∈ oj.after, Region.binds md e = true → e.on ≠ i := fun e he hb heq => by
        have h1 := hall e he hb
        have h0 := (mem_ready.1 hr).1
        rw [heq] at h1
        rcases Nat.lt_or_ge i listed.size with h2 | h2
        · simp [h2] at h0 h1; rw [h0] at h1; cases h1
        · simp [Array.getElem?_eq_none h2] at h1
      have h2 := wpOp_putIf hoj (hfree j oj hoj hji hjun hnot) (fun cs b => hsel i oi cs b hi) (fun cs b => hsel j oj cs b hoj) hQ hy h1
      have hfree2 : ∀ k ok, ops[k]? = some ok → k ≠ i → (listed.setIfInBounds j true).getD k true = false →
          (∀ e ∈ ok.after, Region.binds md e = true → e.on ≠ i) → oi.apart ops ok = true := fun k ok hk hki hun hno => by
        refine hfree k ok hk hki ?_ hno
        by_cases hjk : j = k
        · subst hjk; exact hjun
        · rw [getD_set_ne true hjk] at hun; exact hun
      have hd2 : dep = true → upC c (listed.setIfInBounds j true) = false := fun e => by
        have hjc : j ≠ c := fun hjc => by
          subst hjc
          obtain ⟨oc, h3, e3, h4, h5, h6⟩ := hdep e
          rw [hoj] at h3
          injection h3 with h3
          subst h3
          exact hnot e3 h4 h5 h6
        unfold upC
        rw [getD_set_ne false hjc]
        exact hd e
      refine wpOp_mono (fun a2 w2 h3 => ?_) h2
      have hS2 : S (upC c (listed.setIfInBounds j true)) w2 := by
        have := h3.2.1
        rw [Array.setIfInBounds_comm _ _ (Ne.symm hji), hset] at this
        exact this
      refine ⟨hS2, ih (listed.setIfInBounds j true) a2 w2 hfree2 (ready_mono hr (Ne.symm hji)) hd2 h3.1 hS2 ?_⟩
      rw [Array.setIfInBounds_comm _ _ hji]
      exact h3.2.2
/-- What yields its value at either condition is taken first. -/
theorem wpL_take {i : Nat} {oi : Oper} {v : Value} {n : Nat} {listed : Array Bool} {a : Act} {w : World} {b : Bool} (hi : ops[i]? = some oi)
    (hs : Region.noSelect ops = true) (hf : Region.free md ops listed i = true) (hr : (Region.ready md ops listed).contains i = true) (hic : (i == c) = false)
    (hQ : ∀ k a w, Q (.panic k) (a.put oi.dst v) w → Q (.panic k) a w) (hb : upC c listed = b) (hS : S b w) (hy : YieldsIf P ops (fun w => ∃ b, S b w) oi v a)
    (h : wpL P md ops Q c S n (listed.setIfInBounds i true) (a.put oi.dst v) w) : wpL P md ops Q c S (n + 1) listed a w :=
  wpL_first (dep := false) hi (Region.noSelect_spec hs) hQ (by simpa using hic) (fun e => by cases e) n listed a w (Region.free_spec hi hf) (by simpa using hr) (fun e => by cases e)
    (hy.imp (fun ⟨hw, hv⟩ => ⟨hw, fun w ⟨b, hb, _⟩ => hv w ⟨b, hb⟩⟩) id) (by rw [hb]; exact hS) h
/-- What operation c waits for, and yields its value at the first condition, is taken first. -/
theorem wpL_takeD {i : Nat} {oi oc : Oper} {v : Value} {n : Nat} {listed : Array Bool} {a : Act} {w : World} (hi : ops[i]? = some oi) (hc : ops[c]? = some oc)
    (hd : (oc.after.any fun e => Region.binds md e && e.on == i) = true)
    (hs : Region.noSelect ops = true) (hf : Region.free md ops listed i = true) (hr : (Region.ready md ops listed).contains i = true) (hic : (i == c) = false)
    (hQ : ∀ k a w, Q (.panic k) (a.put oi.dst v) w → Q (.panic k) a w) (hb : upC c listed = false) (hS : S false w) (hy : YieldsIf P ops (S false) oi v a)
    (h : wpL P md ops Q c S n (listed.setIfInBounds i true) (a.put oi.dst v) w) : wpL P md ops Q c S (n + 1) listed a w :=
  wpL_first (dep := true) hi (Region.noSelect_spec hs) hQ (by simpa using hic) (fun _ => by
      rw [Array.any_eq_true'] at hd
      obtain ⟨e, he, h2⟩ := hd
      rw [Bool.and_eq_true] at h2
      exact ⟨oc, hc, e, he, h2.1, by simpa using h2.2⟩) n listed a w (Region.free_spec hi hf) (by simpa using hr) (fun _ => hb)
    (hy.imp (fun ⟨hw, hv⟩ => ⟨hw, fun w ⟨b, h1, h2⟩ => hv w (by have := h2 rfl; subst this; exact h1)⟩) id) (by rw [hb]; exact hS) h
/-- The one operation that may come up is carried out. -/
theorem wpL_one {i : Nat} {o : Oper} {n : Nat} {listed : Array Bool} {a : Act} {w : World} {b : Bool} (hr : Region.ready md ops listed = [i]) (ho : ops[i]? = some o) (hb : upC c (listed.setIfInBounds i true) = b)
    (h : ∀ K : Act → World → Prop, Shut (∀ a w, S b w → (S b w → wpL P md ops Q c S n (listed.setIfInBounds i true) a w) → K a w) → if Region.wanted o (yielded ops a.tmps) = true then Oper.wp P o a w K Q else K (a.put o.dst undef) w) :
    wpL P md ops Q c S (n + 1) listed a w :=
  ⟨fun h0 => (by rw [hr] at h0; cases h0), fun j hj => by
    rw [hr, List.mem_singleton] at hj
    subst hj
    refine wpOp_step ho (fun K hK => h K (fun a w hS hW => hK a w ⟨?_, hW hS⟩))
    rw [hb]; exact hS⟩
/-- Either of two may come up. -/
theorem wpL_two {i j : Nat} {oi oj : Oper} {n : Nat} {listed : Array Bool} {a : Act} {w : World} {b1 b2 : Bool} (hr : Region.ready md ops listed = [i, j]) (hi : ops[i]? = some oi) (hj : ops[j]? = some oj)
    (hb1 : upC c (listed.setIfInBounds i true) = b1) (hb2 : upC c (listed.setIfInBounds j true) = b2)
    (h1 : ∀ K : Act → World → Prop, Shut (∀ a w, S b1 w → (S b1 w → wpL P md ops Q c S n (listed.setIfInBounds i true) a w) → K a w) → if Region.wanted oi (yielded ops a.tmps) = true then Oper.wp P oi a w K Q else K (a.put oi.dst undef) w)
    (h2 : ∀ K : Act → World → Prop, Shut (∀ a w, S b2 w → (S b2 w → wpL P md ops Q c S n (listed.setIfInBounds j true) a w) → K a w) → if Region.wanted oj (yielded ops a.tmps) = true then Oper.wp P oj a w K Q else K (a.put oj.dst undef) w) :
    wpL P md ops Q c S (n + 1) listed a w :=
  ⟨fun h0 => (by rw [hr] at h0; cases h0), fun k hk => by
    rw [hr, List.mem_cons, List.mem_singleton] at hk
    rcases hk with rfl | rfl
    · refine wpOp_step hi (fun K hK => h1 K (fun a w hS hW => hK a w ⟨?_, hW hS⟩))
      rw [hb1]; exact hS
    · refine wpOp_step hj (fun K hK => h2 K (fun a w hS hW => hK a w ⟨?_, hW hS⟩))
      rw [hb2]; exact hS⟩
theorem wanted_on {ops : Array Oper} {o : Oper} {a : Act} {X E : Prop} (hg : o.guard = none) (h : X) : if Region.wanted o (yielded ops a.tmps) = true then X else E := by
  rw [if_pos (by simp [Region.wanted, hg])]
  exact h
end
end Go.Proofs.YtjclgoiclbkgjaaDoor
