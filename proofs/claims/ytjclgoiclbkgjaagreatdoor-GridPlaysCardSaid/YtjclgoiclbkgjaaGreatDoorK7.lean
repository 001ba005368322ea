/- Package grid, texts laid together: RegL G16 G17. -/
import Derived.Test.YtjclgoiclbkgjaaGreatDoorK1
import Derived.Deep.RegionHeld3
import Derived.Test.YtjclgoiclbkgjaaGreatDoorK6
import Derived.Deep.DrawnRows
import Derived.Laws.StructEq
/- A drawing region in whose course what is held of the world turns once: behind its operation c another condition holds. -/
namespace Go.Proofs.YtjclgoiclbkgjaaGreatDoor
open Go
section
variable {P : Program} {ops : Array Oper} {Q : Exit → Act → World → Prop} {md : Region.Mode} {c : Nat} {S : Bool → World → Prop}

/-- Has operation c come up? -/
def upC (c : Nat) (listed : Array Bool) : Bool := listed.getD c false
def wpL (P : Program) (md : Region.Mode) (ops : Array Oper) (Q : Exit → Act → World → Prop) (c : Nat) (S : Bool → World → Prop) : Nat → Array Bool → Act → World → Prop
  | 0, listed, a, w => Region.ready md ops listed = [] ∧ Q .normal a w
  | n + 1, listed, a, w => (Region.ready md ops listed = [] → Q .normal a w) ∧
    (∀ i ∈ Region.ready md ops listed, wpOp P ops Q i (fun a2 w2 => S (upC c (listed.setIfInBounds i true)) w2 ∧ wpL P md ops Q c S n (listed.setIfInBounds i true) a2 w2) a w)
theorem wpL_any : ∀ (n : Nat) (listed : Array Bool) (a : Act) (w : World), wpL P md ops Q c S n listed a w → wpAny P md ops Q n listed a w
  | 0, _, _, _, h => h
  | n + 1, _, _, _, h => ⟨h.1, fun i hi => wpOp_mono (fun a2 w2 h2 => wpL_any n _ a2 w2 h2.2) (h.2 i hi)⟩
theorem wpL_begin {id : Nat} {a : Act} {w : World} (hm : P.follows .mixedOrders = true) (hS : S false w.drew) (h : S false w.drew → wpL P .any ops Q c S ops.size (Array.replicate ops.size false) a w.drew) : (Code.region id ops true).wp P Q a w :=
  wp_region_any hm (wpL_any _ _ _ _ (h hS))
theorem wpL_done {listed : Array Bool} {a : Act} {w : World} (hr : Region.ready md ops listed = []) (h : Q .normal a w) : ∀ n, wpL P md ops Q c S n listed a w
  | 0 => ⟨hr, h⟩
  | _ + 1 => ⟨fun _ => h, by rw [hr]; simp⟩
theorem wpL_first {i : Nat} {oi : Oper} {v : Value} {dep : Bool} (hi : ops[i]? = some oi) (hsel : ∀ (j : Nat) (o : Oper) cs b, ops[j]? = some o → o.op ≠ .select cs b)
    (hQ : ∀ k a w, Q (.panic k) (a.put oi.dst v) w → Q (.panic k) a w) (hic : i ≠ c)
    (hdep : dep = true → ∃ oc, ops[c]? = some oc ∧ ∃ e ∈ oc.after, Region.binds md e = true ∧ e.on = i) :
    ∀ (n : Nat) (listed : Array Bool) (a : Act) (w : World),
      (∀ j oj, ops[j]? = some oj → j ≠ i → listed.getD j true = false → (∀ e ∈ oj.after, Region.binds md e = true → e.on ≠ i) → oi.apart ops oj = true) →
      i ∈ Region.ready md ops listed → (dep = true → upC c listed = false) → YieldsIf P ops (fun w => ∃ b, S b w ∧ (dep = true → b = false)) oi v a → S (upC c listed) w →
      wpL P md ops Q c S n (listed.setIfInBounds i true) (a.put oi.dst v) w → wpL P md ops Q c S (n + 1) listed a w := by
  have hset : ∀ listed : Array Bool, upC c (listed.setIfInBounds i true) = upC c listed := fun listed => getD_set_ne false hic
  intro n
  induction n with
  | zero =>
    intro listed a w _ hr hd hy hS H
    refine ⟨fun h => (by rw [h] at hr; cases hr), fun j hj => ?_⟩
    by_cases hji : j = i
    · subst hji
      exact hy.wpOp hi ⟨_, hS, hd⟩ ⟨by rw [hset]; exact hS, H⟩
    · have := ready_mono hj hji
      rw [H.1] at this
      cases this
  | succ n ih =>
    intro listed a w hfree hr hd hy hS H
    refine ⟨fun h => (by rw [h] at hr; cases hr), fun j hj => ?_⟩
    by_cases hji : j = i
    · subst hji
      exact hy.wpOp hi ⟨_, hS, hd⟩ ⟨by rw [hset]; exact hS, H⟩
    · have h1 := H.2 j (ready_mono hj hji)
      obtain ⟨hjun, oj, hoj, hall⟩ := mem_ready.1 hj
      have hnot : ∀ e ∈ oj.after, Region.binds md e = true → e.on ≠ i := fun e he hb heq => by
        have h1 := hall e he hb
        have h0 := (mem_ready.1 hr).1
        rw [heq] at h1
        rcases Nat.lt_or_ge i listed.size with h2 | h2
        · simp [h2] at h0 h1; rw [h0] at h1; cases h1
        · simp [Array.getElem?_eq_none h2] at h1
      have h2 := wpOp_putIf hoj (hfree j oj hoj hji hjun hnot) (fun cs b => hsel i oi cs b hi) (fun cs b => hsel j oj cs b hoj) hQ hy h1
      have hfree2 : ∀ k ok, ops[k]? = some ok → k ≠ i → (listed.setIfInBounds j true).getD k true = false →
          (∀ e ∈ ok.after, Region.binds md e = true → e.on ≠ i) → oi.apart ops ok = true := fun k ok hk hki hun hno => by
        refine hfree k ok hk hki ?_ hno
        by_cases hjk : j = k
        · subst hjk; exact hjun
        · rw [getD_set_ne true hjk] at hun; exact hun
      have hd2 : dep = true → upC c (listed.setIfInBounds j true) = false := fun e => by
        have hjc : j ≠ c := fun hjc => by
          subst hjc
          obtain ⟨oc, h3, e3, h4, h5, h6⟩ := hdep e
          rw [hoj] at h3
          injection h3 with h3
          subst h3
          exact hnot e3 h4 h5 h6
        unfold upC
        rw [getD_set_ne false hjc]
        exact hd e
      refine wpOp_mono (fun a2 w2 h3 => ?_) h2
      have hS2 : S (upC c (listed.setIfInBounds j true)) w2 := by
        have := h3.2.1
        rw [Array.setIfInBounds_comm _ _ (Ne.symm hji), hset] at this
        exact this
      refine ⟨hS2, ih (listed.setIfInBounds j true) a2 w2 hfree2 (ready_mono hr (Ne.symm hji)) hd2 h3.1 hS2 ?_⟩
      rw [Array.setIfInBounds_comm _ _ hji]
      exact h3.2.2
/-- What yields its value at either condition is taken first. -/
theorem wpL_take {i : Nat} {oi : Oper} {v : Value} {n : Nat} {listed : Array Bool} {a : Act} {w : World} {b : Bool} (hi : ops[i]? = some oi)
    (hs : Region.noSelect ops = true) (hf : Region.free md ops listed i = true) (hr : (Region.ready md ops listed).contains i = true) (hic : (i == c) = false)
    (hQ : ∀ k a w, Q (.panic k) (a.put oi.dst v) w → Q (.panic k) a w) (hb : upC c listed = b) (hS : S b w) (hy : YieldsIf P ops (fun w => ∃ b, S b w) oi v a)
    (h : wpL P md ops Q c S n (listed.setIfInBounds i true) (a.put oi.dst v) w) : wpL P md ops Q c S (n + 1) listed a w :=
  wpL_first (dep := false) hi (Region.noSelect_spec hs) hQ (by simpa using hic) (fun e => by cases e) n listed a w (Region.free_spec hi hf) (by simpa using hr) (fun e => by cases e)
    (hy.imp (fun ⟨hw, hv⟩ => ⟨hw, fun w ⟨b, hb, _⟩ => hv w ⟨b, hb⟩⟩) id) (by rw [hb]; exact hS) h
/-- What operation c waits for, and yields its value at the first condition, is taken first. -/
theorem wpL_takeD {i : Nat} {oi oc : Oper} {v : Value} {n : Nat} {listed : Array Bool} {a : Act} {w : World} (hi : ops[i]? = some oi) (hc : ops[c]? = some oc)
    (hd : (oc.after.any fun e => Region.binds md e && e.on == i) = true)
    (hs : Region.noSelect ops = true) (hf : Region.free md ops listed i = true) (hr : (Region.ready md ops listed).contains i = true) (hic : (i == c) = false)
    (hQ : ∀ k a w, Q (.panic k) (a.put oi.dst v) w → Q (.panic k) a w) (hb : upC c listed = false) (hS : S false w) (hy : YieldsIf P ops (S false) oi v a)
    (h : wpL P md ops Q c S n (listed.setIfInBounds i true) (a.put oi.dst v) w) : wpL P md ops Q c S (n + 1) listed a w :=
  wpL_first (dep := true) hi (Region.noSelect_spec hs) hQ (by simpa using hic) (fun _ => by
      rw [Array.any_eq_true'] at hd
      obtain ⟨e, he, h2⟩ := hd
      rw [Bool.and_eq_true] at h2
      exact ⟨oc, hc, e, he, h2.1, by simpa using h2.2⟩) n listed a w (Region.free_spec hi hf) (by simpa using hr) (fun _ => hb)
    (hy.imp (fun ⟨hw, hv⟩ => ⟨hw, fun w ⟨b, h1, h2⟩ => hv w (by have := h2 rfl; subst this; exact h1)⟩) id) (by rw [hb]; exact hS) h
/-- The one operation that may come up is carried out. -/
theorem wpL_one {i : Nat} {o : Oper} {n : Nat} {listed : Array Bool} {a : Act} {w : World} {b : Bool} (hr : Region.ready md ops listed = [i]) (ho : ops[i]? = some o) (hb : upC c (listed.setIfInBounds i true) = b)
    (h : ∀ K : Act → World → Prop, Shut (∀ a w, S b w → (S b w → wpL P md ops Q c S n (listed.setIfInBounds i true) a w) → K a w) → if Region.wanted o (yielded ops a.tmps) = true then Oper.wp P o a w K Q else K (a.put o.dst undef) w) :
    wpL P md ops Q c S (n + 1) listed a w :=
  ⟨fun h0 => (by rw [hr] at h0; cases h0), fun j hj => by
    rw [hr, List.mem_singleton] at hj
    subst hj
    refine wpOp_step ho (fun K hK => h K (fun a w hS hW => hK a w ⟨?_, hW hS⟩))
    rw [hb]; exact hS⟩
/-- Either of two may come up. -/
theorem wpL_two {i j : Nat} {oi oj : Oper} {n : Nat} {listed : Array Bool} {a : Act} {w : World} {b1 b2 : Bool} (hr : Region.ready md ops listed = [i, j]) (hi : ops[i]? = some oi) (hj : ops[j]? = some oj)
    (hb1 : upC c (listed.setIfInBounds i true) = b1) (hb2 : upC c (listed.setIfInBounds j true) = b2)
    (h1 : ∀ K : Act → World → Prop, Shut (∀ a w, S b1 w → (S b1 w → wpL P md ops Q c S n (listed.setIfInBounds i true) a w) → K a w) → if Region.wanted oi (yielded ops a.tmps) = true then Oper.wp P oi a w K Q else K (a.put oi.dst undef) w)
    (h2 : ∀ K : Act → World → Prop, Shut (∀ a w, S b2 w → (S b2 w → wpL P md ops Q c S n (listed.setIfInBounds j true) a w) → K a w) → if Region.wanted oj (yielded ops a.tmps) = true then Oper.wp P oj a w K Q else K (a.put oj.dst undef) w) :
    wpL P md ops Q c S (n + 1) listed a w :=
  ⟨fun h0 => (by rw [hr] at h0; cases h0), fun k hk => by
    rw [hr, List.mem_cons, List.mem_singleton] at hk
    rcases hk with rfl | rfl
    · refine wpOp_step hi (fun K hK => h1 K (fun a w hS hW => hK a w ⟨?_, hW hS⟩))
      rw [hb1]; exact hS
    · refine wpOp_step hj (fun K hK => h2 K (fun a w hS hW => hK a w ⟨?_, hW hS⟩))
      rw [hb2]; exact hS⟩
/-! The same in short: what is the same at each operation is found by itself. -/
theorem wpL_tk (b : Bool) (i : Nat) {oi : Oper} {v : Value} {n : Nat} {listed l' : Array Bool} {a a' : Act} {w : World} (hS : S b w) (h : wpL P md ops Q c S n l' a' w)
    (hi : ops[i]? = some oi := by (simp only [List.getElem?_toArray, List.getElem?_cons_succ, List.getElem?_cons_zero]; rfl))
    (hs : Region.noSelect ops = true := by kernel_rfl) (hf : Region.free md ops listed i = true := by kernel_rfl) (hr : (Region.ready md ops listed).contains i = true := by kernel_rfl)
    (hic : (i == c) = false := by rfl) (hb : upC c listed = b := by rfl) (hw : Region.wanted oi (yielded ops a.tmps) = true := by rfl)
    (hy : ∀ wS, (∃ b, S b wS) → (execOp a.eval oi).run P wS = .ok (.value v) wS := by (intro wS hSw; obtain ⟨hSb, hSw, hSx⟩ := hSw; clear hSx; go_simp; (try (with_reducible rfl))))
    (hQ : ∀ k a w, Q (.panic k) (a.put oi.dst v) w → Q (.panic k) a w := by exact fun _ _ _ h => h)
    (ha : a.put oi.dst v = a' := by ((try simp only [Act.put, List.setIfInBounds_toArray, List.set_cons_zero, List.set_cons_succ]) <;> rfl))
    (hl : listed.setIfInBounds i true = l' := by ((try simp only [List.setIfInBounds_toArray, List.set_cons_zero, List.set_cons_succ]) <;> rfl)) :
    wpL P md ops Q c S (n + 1) listed a w := by
  subst ha hl
  exact wpL_take hi hs hf hr hic hQ hb hS (Or.inl ⟨hw, hy⟩) h
theorem wpL_un (b : Bool) (i : Nat) {oi : Oper} {n : Nat} {listed l' : Array Bool} {a a' : Act} {w : World} (hS : S b w) (h : wpL P md ops Q c S n l' a' w)
    (hi : ops[i]? = some oi := by (simp only [List.getElem?_toArray, List.getElem?_cons_succ, List.getElem?_cons_zero]; rfl))
    (hs : Region.noSelect ops = true := by kernel_rfl) (hf : Region.free md ops listed i = true := by kernel_rfl) (hr : (Region.ready md ops listed).contains i = true := by kernel_rfl)
    (hic : (i == c) = false := by rfl) (hb : upC c listed = b := by rfl) (hw : Region.wanted oi (yielded ops a.tmps) = false := by rfl)
    (hQ : ∀ k a w, Q (.panic k) (a.put oi.dst undef) w → Q (.panic k) a w := by exact fun _ _ _ h => h)
    (ha : a.put oi.dst undef = a' := by ((try simp only [Act.put, List.setIfInBounds_toArray, List.set_cons_zero, List.set_cons_succ]) <;> rfl))
    (hl : listed.setIfInBounds i true = l' := by ((try simp only [List.setIfInBounds_toArray, List.set_cons_zero, List.set_cons_succ]) <;> rfl)) :
    wpL P md ops Q c S (n + 1) listed a w := by
  subst ha hl
  exact wpL_take hi hs hf hr hic hQ hb hS (Or.inr ⟨hw, rfl⟩) h
theorem wpL_td (i : Nat) {oi oc : Oper} {v : Value} {n : Nat} {listed l' : Array Bool} {a a' : Act} {w : World} (hS : S false w) (h : wpL P md ops Q c S n l' a' w)
    (hi : ops[i]? = some oi := by (simp only [List.getElem?_toArray, List.getElem?_cons_succ, List.getElem?_cons_zero]; rfl))
    (hc : ops[c]? = some oc := by (simp only [List.getElem?_toArray, List.getElem?_cons_succ, List.getElem?_cons_zero]; rfl))
    (hd : (oc.after.any fun e => Region.binds md e && e.on == i) = true := by kernel_rfl)
    (hs : Region.noSelect ops = true := by kernel_rfl) (hf : Region.free md ops listed i = true := by kernel_rfl) (hr : (Region.ready md ops listed).contains i = true := by kernel_rfl)
    (hic : (i == c) = false := by rfl) (hb : upC c listed = false := by rfl) (hw : Region.wanted oi (yielded ops a.tmps) = true := by rfl)
    (hy : ∀ wS, S false wS → (execOp a.eval oi).run P wS = .ok (.value v) wS := by (intro wS hSw; obtain ⟨hSw, hSx⟩ := hSw; have hSx := hSx rfl; go_simp; (try (with_reducible rfl))))
    (hQ : ∀ k a w, Q (.panic k) (a.put oi.dst v) w → Q (.panic k) a w := by exact fun _ _ _ h => h)
    (ha : a.put oi.dst v = a' := by ((try simp only [Act.put, List.setIfInBounds_toArray, List.set_cons_zero, List.set_cons_succ]) <;> rfl))
    (hl : listed.setIfInBounds i true = l' := by ((try simp only [List.setIfInBounds_toArray, List.set_cons_zero, List.set_cons_succ]) <;> rfl)) :
    wpL P md ops Q c S (n + 1) listed a w := by
  subst ha hl
  exact wpL_takeD hi hc hd hs hf hr hic hQ hb hS (Or.inl ⟨hw, hy⟩) h
theorem wpL_on (b : Bool) (i : Nat) {o : Oper} {n : Nat} {listed l' : Array Bool} {a : Act} {w : World}
    (h : ∀ K : Act → World → Prop, Shut (∀ a w, S b w → (S b w → wpL P md ops Q c S n l' a w) → K a w) → if Region.wanted o (yielded ops a.tmps) = true then Oper.wp P o a w K Q else K (a.put o.dst undef) w)
    (hr : Region.ready md ops listed = [i] := by kernel_rfl)
    (ho : ops[i]? = some o := by (simp only [List.getElem?_toArray, List.getElem?_cons_succ, List.getElem?_cons_zero]; rfl))
    (hl : listed.setIfInBounds i true = l' := by ((try simp only [List.setIfInBounds_toArray, List.set_cons_zero, List.set_cons_succ]) <;> rfl))
    (hb : upC c l' = b := by rfl) : wpL P md ops Q c S (n + 1) listed a w := by
  subst hl
  exact wpL_one hr ho hb h
theorem wpL_tw (b1 b2 : Bool) (i j : Nat) {oi oj : Oper} {n : Nat} {listed l1 l2 : Array Bool} {a : Act} {w : World}
    (h1 : ∀ K : Act → World → Prop, Shut (∀ a w, S b1 w → (S b1 w → wpL P md ops Q c S n l1 a w) → K a w) → if Region.wanted oi (yielded ops a.tmps) = true then Oper.wp P oi a w K Q else K (a.put oi.dst undef) w)
    (h2 : ∀ K : Act → World → Prop, Shut (∀ a w, S b2 w → (S b2 w → wpL P md ops Q c S n l2 a w) → K a w) → if Region.wanted oj (yielded ops a.tmps) = true then Oper.wp P oj a w K Q else K (a.put oj.dst undef) w)
    (hr : Region.ready md ops listed = [i, j] := by kernel_rfl)
    (hi : ops[i]? = some oi := by (simp only [List.getElem?_toArray, List.getElem?_cons_succ, List.getElem?_cons_zero]; rfl))
    (hj : ops[j]? = some oj := by (simp only [List.getElem?_toArray, List.getElem?_cons_succ, List.getElem?_cons_zero]; rfl))
    (hl1 : listed.setIfInBounds i true = l1 := by ((try simp only [List.setIfInBounds_toArray, List.set_cons_zero, List.set_cons_succ]) <;> rfl))
    (hl2 : listed.setIfInBounds j true = l2 := by ((try simp only [List.setIfInBounds_toArray, List.set_cons_zero, List.set_cons_succ]) <;> rfl))
    (hb1 : upC c l1 = b1 := by rfl) (hb2 : upC c l2 = b2 := by rfl) : wpL P md ops Q c S (n + 1) listed a w := by
  subst hl1 hl2
  exact wpL_two hr hi hj hb1 hb2 h1 h2
theorem wanted_on {ops : Array Oper} {o : Oper} {a : Act} {X E : Prop} (hg : o.guard = none) (h : X) : if Region.wanted o (yielded ops a.tmps) = true then X else E := by
  rw [if_pos (by simp [Region.wanted, hg])]
  exact h
end
end Go.Proofs.YtjclgoiclbkgjaaGreatDoor

/- Walks of package grid: Clone. -/
namespace Go.Proofs.YtjclgoiclbkgjaaGreatDoor
open Go.RowKit
attribute [local go_sem ↓] Go.wp_at_zero Go.wp_at_succ

theorem RowsAt.snoc {B : Nat} {w w2 w3 : World} {v v' xv : Value} {xr : Rw} {L : List (Value × Rw)} {q : Nat} (h : RowsAt B w v L) (b : Below w.heap.size w w2) (hxo : OwnC w2 w.heap.size 5 xv xr.cells.length (cvals xr.cells)) (hxb : xv.ownBlock = some q)
    (o3 : OwnC w3 B 2 v' (L.length + 1) (rowVals L ++ [xv, .bool xr.wrap])) (g : w2.grownBy w3 v.ownBlock) (hn : ∀ k, v'.ownBlock = some k → v.ownBlock = some k ∨ w2.heap.size ≤ k) (hB : B ≤ w.heap.size) : RowsAt B w3 v' (L ++ [(xv, xr)]) := by
  have hq := ownC_lt hxo q hxb
  have hbs := b.size
  refine ⟨?_, fun x hx => ?_, ?_, fun x hx => ?_⟩
  · rw [List.length_append, rowVals_append]; exact o3
  · rcases List.mem_append.1 hx with hx | hx
    · refine ownC_grown (ownC_below (h.cells x hx) b) g (fun k hk e => ?_)
      obtain ⟨q', e1, e2⟩ := h.ap x hx
      rw [e1] at hk
      injection hk with hk
      exact e2 (by rw [e, hk])
    · rw [List.mem_singleton] at hx
      subst hx
      refine ownC_mono (ownC_grown hxo g (fun k hk e => ?_)) hB
      have := (ownC_lt h.own k e).2
      dsimp only at hk
      rw [hxb] at hk
      injection hk with hk
      omega
  · rw [List.map_append, List.nodup_append]
    refine ⟨h.nd, by simp, fun a ha c hc e => ?_⟩
    obtain ⟨x, hx, rfl⟩ := List.mem_map.1 ha
    simp only [List.map_cons, List.map_nil, List.mem_singleton] at hc
    subst hc
    have := (ownC_lt (h.cells x hx) q (by rw [e, hxb])).2
    omega
  · rcases List.mem_append.1 hx with hx | hx
    · obtain ⟨q', e1, e2⟩ := h.ap x hx
      refine ⟨q', e1, fun e => ?_⟩
      have hlt := (ownC_lt (h.cells x hx) q' e1).2
      rcases hn q' e with h' | h'
      · exact e2 h'
      · omega
    · rw [List.mem_singleton] at hx
      subst hx
      refine ⟨q, hxb, fun e => ?_⟩
      rcases hn q e with h' | h'
      · have := (ownC_lt h.own q h').2
        omega
      · omega
theorem RowsAt.nil (B : Nat) (w : World) : RowsAt B w (.slice none 0 0) [] := ⟨ownC_nil _ _ _, fun x hx => by simp at hx, by simp, fun x hx => by simp at hx⟩
theorem RowsAt.below {B : Nat} {w w' : World} {v : Value} {L : List (Value × Rw)} (h : RowsAt B w v L) (b : Below w.heap.size w w') : RowsAt B w' v L :=
  ⟨ownC_below h.own b, fun x hx => ownC_below (h.cells x hx) b, h.nd, h.ap⟩
theorem RowsAt.grown {B : Nat} {w w' : World} {v : Value} {L : List (Value × Rw)} {row : Option Nat} (h : RowsAt B w v L) (g : w.grownBy w' row) (hr : ∀ k, row = some k → k < B) : RowsAt B w' v L :=
  ⟨ownC_grown h.own g (fun k hk e => by have := (ownC_lt h.own k hk).1; have := hr k e; omega), fun x hx => ownC_grown (h.cells x hx) g (fun k hk e => by have := (ownC_lt (h.cells x hx) k hk).1; have := hr k e; omega), h.nd, h.ap⟩
theorem reads_row (w : World) (v : Value) (b : Bool) (T : TypeId) : Reads (w.alloc (.cells #[v, .bool b] T)) 2 (.slice (some ⟨w.heap.size, 0, none⟩) 1 1) 1 [v, .bool b] := by
  refine .inr ⟨⟨w.heap.size, 0, none⟩, 1, rfl, rfl, fun j u hu => ?_⟩
  rw [add_eq, Nat.zero_add, World.cell?_alloc_new]
  simpa using hu
theorem row_one (a : Option Addr) (n c : Nat) (b : Bool) : ∀ u ∈ [Value.slice a n c, Value.bool b], u.oneCell' = true := by
  intro u hu
  simp only [List.mem_cons, List.not_mem_nil, or_false] at hu
  rcases hu with rfl | rfl <;> rfl
set_option maxRecDepth 100000 in
set_option maxHeartbeats 4000000 in
theorem clone_any {T : Nat → Nat} {p : Nat} {w : World} {g : Gr} (h : GM T p w g) :
    Calls Tryz.prog 43 #[.pointer (some ⟨p, 0, none⟩)] w fun e w' => ∃ p' T', e = .returned (.pointer (some ⟨p', 0, none⟩)) ∧ Below w.heap.size w w' ∧ GM T' p' w' g ∧ ∀ k, T' k ≠ 0 → w.heap.size ≤ k := by
  obtain ⟨vr, vo, Lr, Lo, h0⟩ := h
  obtain ⟨c0, c1, c2, c3⟩ := gm_cells h0
  have HG := Lib.hid h0
  have wf := h0.wf
  have hlr := (rows_len h0).1
  have hlo := (rows_len h0).2
  have w1 := wf.r2
  have w2 := wf.ol
  have w3 := wf.li
  have w4 := wf.c2
  have w5 := wf.c1
  have hrr := h0.rr.own
  have hro := h0.ro.own
  have hpl := heap_lt h0.blk
  have hn1 : Lr.length ≤ 2000 := by omega
  have hn2 : Lo.length ≤ 2000 := by omega
  have HCE := Lib.hid (show ∀ x ∈ Lr ++ Lo, x.2.cells.length = g.cols from fun x hx => by
    refine (wf.ce x.2 ?_).1
    rcases List.mem_append.1 hx with hx | hx
    · exact List.mem_append_left _ (by rw [← h0.er]; exact List.mem_map_of_mem hx)
    · exact List.mem_append_right _ (by rw [← h0.eo]; exact List.mem_map_of_mem hx))
  clear h0 hlr hlo wf
  obtain ⟨ra, rc, rfl⟩ := ownC_sl hrr
  obtain ⟨oa, oc, rfl⟩ := ownC_sl hro
  have hl1 := ownC_ln Tryz.underlying57 hrr
  have hl2 := ownC_ln Tryz.underlying57 hro
  clear hrr hro
  have HNB := Lib.hid (blk_new w (.cells #[.int .i64 g.cols, .int .i64 g.limit, .slice none 0 0, .slice none 0 0] 61))
  have HBW := Lib.hid (Below.alloc (Below.refl w.heap.size w) (Nat.le_refl _) (.cells #[.int .i64 g.cols, .int .i64 g.limit, .slice none 0 0, .slice none 0 0] 61))
  go_enter Tryz.func43, Tryz.ntmps43
  go_upto_region 1 with fail
  go_still_tail 9, (by kernel_rfl)
  change wpList _ _ _ _ _ w.drew
  go_upto_region 3 with fail
  have HNB0 := Lib.hid (show ((w.alloc (.cells #[.int .i64 g.cols, .int .i64 g.limit, .slice none 0 0, .slice none 0 0] 61)).drew).heap[w.heap.size]? = some (.cells #[.int .i64 g.cols, .int .i64 g.limit, .slice none 0 0, .slice none 0 0] 61) from blk_new w _)
  have HBW0 := Lib.hid (show Below w.heap.size w ((w.alloc (.cells #[.int .i64 g.cols, .int .i64 g.limit, .slice none 0 0, .slice none 0 0] 61)).drew) from HBW.out.drew)
  have hsz0 : ((w.alloc (.cells #[.int .i64 g.cols, .int .i64 g.limit, .slice none 0 0, .slice none 0 0] 61)).drew).heap.size = w.heap.size + 1 := by show (w.alloc _).heap.size = _; simp
  generalize (w.alloc (.cells #[.int .i64 g.cols, .int .i64 g.limit, .slice none 0 0, .slice none 0 0] 61)).drew = W0 at *
  clear HNB HBW
  have HG0 := Lib.hid (HG.out.mod (.of_below HBW0.out) id id id (fun _ => id))
  go_loopw [5, 23] (fun _ iv wr => ∃ (k : Nat) (L : List (Value × Rw)) (v : Value), k ≤ Lr.length ∧ iv = .int .i64 k ∧ Hid (L.length = k) ∧ Hid (W0.grownBy wr (some w.heap.size)) ∧ Hid (RowsAt W0.heap.size wr v L) ∧ Hid (wr.heap[w.heap.size]? = some (.cells #[.int .i64 g.cols, .int .i64 g.limit, v, .slice none 0 0] 61 (0, 0))) ∧ Hid (L.map (·.2) = (Lr.map (·.2)).take k)) (fun _ iv _ => Lr.length - (intOf iv).toNat)
  case atStart =>
    exact ⟨0, [], .slice none 0 0, Nat.zero_le _, rfl, rfl, gb_refl _ _, RowsAt.nil _ _, HNB0.out, by simp [Hid]⟩
  case round =>
    obtain ⟨k, L, v, hk, rfl, HL, HGB, HRA, HBK, HMP⟩ := hrel
    by_cases hlt : k < Lr.length
    · have d1 : decide ((k : Int) < (Lr.length : Int)) = true := decide_eq_true (by omega)
      have d1' : decide (k < Lr.length) = true := decide_eq_true hlt
      have hszr := HGB.out.size
      have HGr := Lib.hid (HG0.out.rr.own)
      have HSO := Lib.hid (ownC_grown HGr.out HGB.out (fun q hq e => by have := (ownC_lt HG.out.rr.own q hq).2; injection e with e; omega))
      have HCO := Lib.hid (ownC_grown (HG0.out.ca Lr[k] (List.mem_append_left _ (List.getElem_mem hlt))).own HGB.out (fun q hq e => by have := (ownC_lt (HG.out.ca Lr[k] (List.mem_append_left _ (List.getElem_mem hlt))).own q hq).2; injection e with e; omega))
      obtain ⟨qx, hqx1, hqx2⟩ := (HG0.out.ca Lr[k] (List.mem_append_left _ (List.getElem_mem hlt))).tag
      have hcl : Lr[k].2.cells.length = g.cols := HCE.out _ (List.mem_append_left _ (List.getElem_mem hlt))
      have htk : (Lr.map (·.2)).take (k + 1) = (Lr.map (·.2)).take k ++ [Lr[k].2] := by
        rw [List.take_add_one, List.getElem?_map, List.getElem?_eq_getElem hlt]; rfl
      obtain ⟨sb, soff, sc, hsv, hsn, hsm⟩ := ownC_pos HSO.out (by omega)
      simp only [Value.slice.injEq] at hsv
      obtain ⟨rfl, _, rfl⟩ := hsv
      obtain ⟨r0, r1⟩ := ownC_row2 HSO.out k hlt
      have hix := idx_at (P := Tryz.prog) (size := 2) Tryz.underlying57 row_info sb soff Lr.length rc k hlt
      have HTK := Lib.hid htk
      clear htk
      generalize Lr[k] = x at *
      obtain ⟨xv, xr⟩ := x
      dsimp only at r0 r1 hcl hqx1 HCO HTK
      obtain ⟨xa, xc, rfl⟩ := ownC_sl HCO.out
      rw [hcl] at r0 hqx1
      have hql : w.heap.size < wr.heap.size := heap_lt HBK.out
      have HBA := Lib.hid (Below.alloc (Below.refl wr.heap.size wr) (Nat.le_refl _) (.cells #[.slice none 0 0, .bool false] 77))
      have HZ := Lib.hid (blk_new wr (.cells #[.slice none 0 0, .bool false] 77))
      have q0 := World.cell?_alloc_new wr #[.slice none 0 0, .bool false] 77 0
      have q1 := World.cell?_alloc_new wr #[.slice none 0 0, .bool false] 77 1
      have hst := run_storeVar_row (P := Tryz.prog) (wr.alloc (.cells #[.slice none 0 0, .bool false] 77)) wr.heap.size 77 77 _ #[.slice xa g.cols xc, .bool xr.wrap] HZ.out row_info rfl (by simp [Value.oneCell'])
      have hr2 := setRow_blk (cells := #[.slice xa g.cols xc, .bool xr.wrap]) HZ.out
      have hB3 := below_row HBA.out (g := wr.heap.size) (Nat.le_refl _) #[.slice xa g.cols xc, .bool xr.wrap]
      go_upto_region 5 with (refine wpList_storeR rfl _ _ _ rfl hst rfl rfl ?_)
      try simp only [Act.put]
      have HR2 := Lib.hid hr2
      have HB3 := Lib.hid hB3
      clear hr2 hB3 hst r0 r1 hix q0 q1
      generalize (wr.alloc (.cells #[.slice none 0 0, .bool false] 77)).setRow wr.heap.size #[.slice xa g.cols xc, .bool xr.wrap] = w3 at *
      obtain ⟨va, vc, rfl⟩ := ownC_sl HRA.out.own
      have hs3 := HB3.out.size
      have hrl3 : wr.heap.size < w3.heap.size := heap_lt HR2.out
      have HCO3 := Lib.hid (show OwnC w3.drew 0 5 (.slice xa g.cols xc) xr.cells.length (cvals xr.cells) by
        rw [← hcl]
        exact ownC_below HCO.out (show Below wr.heap.size wr w3.drew from HB3.out.drew))
      have HOW3 := Lib.hid (show OwnC w3.drew W0.heap.size 2 (.slice va L.length vc) L.length (rowVals L) from ownC_below HRA.out.own (show Below wr.heap.size wr w3.drew from HB3.out.drew))
      have HBK3 := Lib.hid (show w3.drew.heap[w.heap.size]? = some (.cells #[.int .i64 g.cols, .int .i64 g.limit, .slice va L.length vc, .slice none 0 0] 61 (0, 0)) from blk_below HBK.out HB3.out.drew hql)
      have HR3 := Lib.hid (show w3.drew.heap[wr.heap.size]? = some (.cells #[.slice xa g.cols xc, .bool xr.wrap] 77 (0, 0)) from HR2.out)
      have s0 : w3.cell? ⟨wr.heap.size, 0, none⟩ = some (.slice xa g.cols xc) := blk_cell HR2.out 0
      have s1 : w3.cell? ⟨wr.heap.size, 1, none⟩ = some (.bool xr.wrap) := blk_cell HR2.out 1
      have s2 : w3.drew.cell? ⟨w.heap.size, 2, none⟩ = some (.slice va L.length vc) := blk_cell HBK3.out 2
      have hne : w.heap.size ≠ wr.heap.size := by omega
      have hs3d : w3.drew.heap.size = w3.heap.size := rfl
      have HLc := Lib.hid hcl
      have hc5 : xr.cells.length ≤ 100000 := by omega
      have hLl : L.length ≤ 2000 := by have := HL.out; omega
      have hW0s : W0.heap.size ≤ wr.heap.size := hszr
      clear hcl d1 d1'
      refine wpL_begin (c := 15) (S := (fun bb w' => (w'.cell? ⟨wr.heap.size, 0, none⟩ = some (.slice xa g.cols xc) ∧ w'.cell? ⟨wr.heap.size, 1, none⟩ = some (.bool xr.wrap)) ∧ (bb = false → w'.cell? ⟨w.heap.size, 2, none⟩ = some (.slice va L.length vc)))) (by kernel_rfl) (⟨⟨s0, s1⟩, fun _ => s2⟩) (fun _ => ?_)
      refine wpL_tk false 0 (⟨⟨s0, s1⟩, fun _ => s2⟩) ?_
      refine wpL_tk false 1 (⟨⟨s0, s1⟩, fun _ => s2⟩) ?_
      refine wpL_tk false 2 (⟨⟨s0, s1⟩, fun _ => s2⟩) ?_
      refine wpL_tk false 3 (⟨⟨s0, s1⟩, fun _ => s2⟩) ?_
      refine wpL_td 4 (⟨⟨s0, s1⟩, fun _ => s2⟩) ?_
      refine wpL_tk false 5 (⟨⟨s0, s1⟩, fun _ => s2⟩) ?_
      refine wpL_tk false 6 (⟨⟨s0, s1⟩, fun _ => s2⟩) ?_
      refine wpL_tk false 8 (⟨⟨s0, s1⟩, fun _ => s2⟩) ?_
      refine wpL_tk false 9 (⟨⟨s0, s1⟩, fun _ => s2⟩) ?_
      refine wpL_on false 7 fun K hK => ?_
      refine wanted_on rfl ?_
      go_wp2_with fail
      refine (cloneC_any xr.cells (.slice xa g.cols xc) w3.drew HCO3.out hc5).mono ?_
      rintro e w6 ⟨v6, rfl, b6, o6⟩
      have hbk6 := blk_below HBK3.out b6 (show w.heap.size < w3.heap.size by omega)
      have hrk6 := blk_below HR3.out b6 (show wr.heap.size < w3.heap.size by omega)
      obtain ⟨va6, vc6, rfl⟩ := ownC_sl o6
      have z0 : w6.cell? ⟨wr.heap.size, 0, none⟩ = some (.slice xa g.cols xc) := blk_cell hrk6 0
      have z1 : w6.cell? ⟨wr.heap.size, 1, none⟩ = some (.bool xr.wrap) := blk_cell hrk6 1
      have z2 : w6.cell? ⟨w.heap.size, 2, none⟩ = some (.slice va L.length vc) := blk_cell hbk6 2
      have z3 : ∀ o, (w6.alloc o).cell? ⟨w.heap.size, 2, none⟩ = some (.slice va L.length vc) := fun o => blk_cell (blk_alloc hbk6 o) 2
      have HB6 := Lib.hid b6
      have HO6 := Lib.hid o6
      have HBK6 := Lib.hid hbk6
      have HRK6 := Lib.hid hrk6
      refine hK.out _ _ (⟨⟨z0, z1⟩, fun _ => z2⟩) (fun _ => ?_)
      clear hK K b6 o6 hbk6 hrk6
      try simp only [Act.put, List.setIfInBounds_toArray, List.set_cons_zero, List.set_cons_succ]
      refine wpL_tk false 10 (⟨⟨z0, z1⟩, fun _ => z2⟩) ?_
      refine wpL_on false 11 fun K hK => ?_
      refine wanted_on rfl ?_
      go_wp2_with fail
      refine hK.out _ _ (⟨⟨blk_cell (blk_alloc HRK6.out _) 0, blk_cell (blk_alloc HRK6.out _) 1⟩, fun _ => z3 _⟩) (fun _ => ?_)
      clear hK K 
      try simp only [Act.put, List.setIfInBounds_toArray, List.set_cons_zero, List.set_cons_succ]
      refine wpL_on false 12 fun K hK => ?_
      apply step_appS rows_elem
      case hgd => rfl
      case ho => rfl
      case hown => exact ownC_alloc (ownC_below HOW3.out HB6.out) _
      case hs => rfl
      case hr => exact src_reads Tryz.underlying57 (reads_row _ _ _ _) (row_one _ _ _ _)
      case hx => rfl
      case h63 => unfold maxLen; omega
      case hbytes => omega
      case hbase => (have := HB6.out.size; simp; (try (show _ ≤ w3.heap.size + 1; omega)); omega)
      intro v7 w7 o7 g7 n7
      have hbk7 := blk_grown (blk_alloc HBK6.out _) g7 (fun e => by have := (ownC_lt HRA.out.own w.heap.size e.symm).1; omega)
      have hrk7 := blk_grown (blk_alloc HRK6.out _) g7 (fun e => by have := (ownC_lt HRA.out.own wr.heap.size e.symm).2; omega)
      have y0 : w7.cell? ⟨wr.heap.size, 0, none⟩ = some (.slice xa g.cols xc) := blk_cell hrk7 0
      have y1 : w7.cell? ⟨wr.heap.size, 1, none⟩ = some (.bool xr.wrap) := blk_cell hrk7 1
      have y2 : w7.cell? ⟨w.heap.size, 2, none⟩ = some (.slice va L.length vc) := blk_cell hbk7 2
      have y3 : w7.frozen? ⟨w.heap.size, 2, none⟩ = false := blk_free hbk7 2
      obtain ⟨va7, vc7, rfl⟩ := ownC_sl o7
      have HBK7 := Lib.hid hbk7
      have HO7 := Lib.hid o7
      have HG7 := Lib.hid g7
      have HN7 := Lib.hid n7
      have HRK7 := Lib.hid hrk7
      refine hK.out _ _ (⟨⟨y0, y1⟩, fun _ => y2⟩) (fun _ => ?_)
      clear hK K hbk7 hrk7 o7 g7 n7
      try simp only [Act.put, List.setIfInBounds_toArray, List.set_cons_zero, List.set_cons_succ]
      refine wpL_tk false 13 (⟨⟨y0, y1⟩, fun _ => y2⟩) ?_
      refine wpL_tk false 14 (⟨⟨y0, y1⟩, fun _ => y2⟩) ?_
      refine wpL_on true 15 fun K hK => ?_
      refine wanted_on rfl ?_
      go_wp2_with fail
      refine hK.out _ _ (⟨⟨blk_cell (blk_set_other HRK7.out hne.symm _ _) 0, blk_cell (blk_set_other HRK7.out hne.symm _ _) 1⟩, fun e => by cases e⟩) (fun _ => ?_)
      clear hK K 
      try simp only [Act.put]
      refine wpL_done (by kernel_rfl) ?_ _
      have hs6 := HB6.out.size
      have HB26 := Lib.hid (show Below wr.heap.size wr (w6.alloc (.cells #[.slice va6 xr.cells.length vc6, .bool xr.wrap] 77)) from
        ((HB3.out.drew.trans (HB6.out.mono (by omega))).alloc (by omega) _))
      obtain ⟨qb, hqb⟩ : ∃ q, (Value.slice va6 xr.cells.length vc6).ownBlock = some q := by
        obtain ⟨b, off, c, e, _, _⟩ := ownC_pos HO6.out (by rw [HLc.out]; omega)
        exact ⟨b, by rw [e]; rfl⟩
      have HRA7 := Lib.hid (HRA.out.snoc (xr := xr) HB26.out (ownC_mono (ownC_alloc HO6.out _) (by omega)) hqb HO7.out HG7.out HN7.out hW0s)
      have HGB7 := Lib.hid (show W0.grownBy w7 (some w.heap.size) from gb_trans_new (gb_below HGB.out HB26.out hW0s) HG7.out (fun q hq => (ownC_lt HRA.out.own q hq).1))
      have hqW : w.heap.size < W0.heap.size := heap_lt HNB0.out
      have HRA8 := Lib.hid (HRA7.out.grown (gb_set (gb_refl w7 (some w.heap.size)) 2 (.slice va7 (L.length + 1) vc7)) (fun k' hk' => by injection hk' with hk'; omega))
      have HGB8 := Lib.hid (gb_set HGB7.out 2 (.slice va7 (L.length + 1) vc7))
      have HBK8 := Lib.hid (blk_set HBK7.out 2 (.slice va7 (L.length + 1) vc7))
      clear y0 y1 y2 y3 z0 z1 z2 z3 s0 s1 s2
      generalize w7.setCell ⟨w.heap.size, 2, none⟩ (.slice va7 (L.length + 1) vc7) = w8 at *
      go_wp2_with fail
      go_roundw
      case rel => exact ⟨k + 1, L ++ [(.slice va6 xr.cells.length vc6, xr)], .slice va7 (L.length + 1) vc7, by omega, by go_num, by show _ = _; rw [List.length_append, HL.out]; rfl, HGB8, HRA8, HBK8, by show _ = _; rw [List.map_append, HMP.out, HTK.out]; rfl⟩
      case measure => simp [intOf]; omega
    · have hkn : k = Lr.length := by omega
      subst hkn
      have d1 : decide ((Lr.length : Int) < (Lr.length : Int)) = false := decide_eq_false (by omega)
      have d1' : decide (Lr.length < Lr.length) = false := decide_eq_false (by omega)
      have HL1 := HL
      have HMP1 := HMP
      have HGB1 := HGB
      have HRA1 := HRA
      have HNB1 := HBK
      clear HL HMP HGB HRA HBK
      obtain ⟨na, nc, rfl⟩ := ownC_sl HRA1.out.own
      have hplq : p ≠ w.heap.size := by omega
      have HP1 := Lib.hid (blk_grown HG0.out.blk HGB1.out (by intro e; injection e with e; omega))
      have t3 : wr.cell? ⟨p, 3, none⟩ = some (.slice oa Lo.length oc) := blk_cell HP1.out 3
      have tq : T w.heap.size = 0 := by
        by_cases h0 : T w.heap.size = 0
        · exact h0
        · have := HG.out.lt _ h0; omega
      have HG1 := Lib.hid (HG0.out.mod (Mod.of_gb (t := fun t => t = 0) HGB1.out (fun k hk => by injection hk with hk; rw [← hk]; exact tq)) (by decide) (by decide) (by decide) (fun k => by omega))
      have hsW1 := HGB1.out.size
      generalize L = Ln at *
      generalize wr = W1 at *
      go_upto_region 8 with fail
      go_loopw [7, 48] (fun _ iv wr => ∃ (k : Nat) (L : List (Value × Rw)) (v : Value), k ≤ Lo.length ∧ iv = .int .i64 k ∧ Hid (L.length = k) ∧ Hid (W1.grownBy wr (some w.heap.size)) ∧ Hid (RowsAt W1.heap.size wr v L) ∧ Hid (wr.heap[w.heap.size]? = some (.cells #[.int .i64 g.cols, .int .i64 g.limit, .slice na Ln.length nc, v] 61 (0, 0))) ∧ Hid (L.map (·.2) = (Lo.map (·.2)).take k)) (fun _ iv _ => Lo.length - (intOf iv).toNat)
      case atStart =>
        exact ⟨0, [], .slice none 0 0, Nat.zero_le _, rfl, rfl, gb_refl _ _, RowsAt.nil _ _, HNB1.out, by simp [Hid]⟩
      case round =>
        obtain ⟨k, L, v, hk, rfl, HL, HGB, HRA, HBK, HMP⟩ := hrel
        by_cases hlt : k < Lo.length
        · have d1 : decide ((k : Int) < (Lo.length : Int)) = true := decide_eq_true (by omega)
          have d1' : decide (k < Lo.length) = true := decide_eq_true hlt
          have hszr := HGB.out.size
          have HGr := Lib.hid (HG1.out.ro.own)
          have HSO := Lib.hid (ownC_grown HGr.out HGB.out (fun q hq e => by have := (ownC_lt HG.out.ro.own q hq).2; injection e with e; omega))
          have HCO := Lib.hid (ownC_grown (HG1.out.ca Lo[k] (List.mem_append_right _ (List.getElem_mem hlt))).own HGB.out (fun q hq e => by have := (ownC_lt (HG.out.ca Lo[k] (List.mem_append_right _ (List.getElem_mem hlt))).own q hq).2; injection e with e; omega))
          obtain ⟨qx, hqx1, hqx2⟩ := (HG1.out.ca Lo[k] (List.mem_append_right _ (List.getElem_mem hlt))).tag
          have hcl : Lo[k].2.cells.length = g.cols := HCE.out _ (List.mem_append_right _ (List.getElem_mem hlt))
          have htk : (Lo.map (·.2)).take (k + 1) = (Lo.map (·.2)).take k ++ [Lo[k].2] := by
            rw [List.take_add_one, List.getElem?_map, List.getElem?_eq_getElem hlt]; rfl
          obtain ⟨sb, soff, sc, hsv, hsn, hsm⟩ := ownC_pos HSO.out (by omega)
          simp only [Value.slice.injEq] at hsv
          obtain ⟨rfl, _, rfl⟩ := hsv
          obtain ⟨r0, r1⟩ := ownC_row2 HSO.out k hlt
          have hix := idx_at (P := Tryz.prog) (size := 2) Tryz.underlying57 row_info sb soff Lo.length oc k hlt
          have HTK := Lib.hid htk
          clear htk
          generalize Lo[k] = x at *
          obtain ⟨xv, xr⟩ := x
          dsimp only at r0 r1 hcl hqx1 HCO HTK
          obtain ⟨xa, xc, rfl⟩ := ownC_sl HCO.out
          rw [hcl] at r0 hqx1
          have hql : w.heap.size < wr.heap.size := heap_lt HBK.out
          have HBA := Lib.hid (Below.alloc (Below.refl wr.heap.size wr) (Nat.le_refl _) (.cells #[.slice none 0 0, .bool false] 77))
          have HZ := Lib.hid (blk_new wr (.cells #[.slice none 0 0, .bool false] 77))
          have q0 := World.cell?_alloc_new wr #[.slice none 0 0, .bool false] 77 0
          have q1 := World.cell?_alloc_new wr #[.slice none 0 0, .bool false] 77 1
          have hst := run_storeVar_row (P := Tryz.prog) (wr.alloc (.cells #[.slice none 0 0, .bool false] 77)) wr.heap.size 77 77 _ #[.slice xa g.cols xc, .bool xr.wrap] HZ.out row_info rfl (by simp [Value.oneCell'])
          have hr2 := setRow_blk (cells := #[.slice xa g.cols xc, .bool xr.wrap]) HZ.out
          have hB3 := below_row HBA.out (g := wr.heap.size) (Nat.le_refl _) #[.slice xa g.cols xc, .bool xr.wrap]
          go_upto_region 10 with (refine wpList_storeR rfl _ _ _ rfl hst rfl rfl ?_)
          try simp only [Act.put]
          have HR2 := Lib.hid hr2
          have HB3 := Lib.hid hB3
          clear hr2 hB3 hst r0 r1 hix q0 q1
          generalize (wr.alloc (.cells #[.slice none 0 0, .bool false] 77)).setRow wr.heap.size #[.slice xa g.cols xc, .bool xr.wrap] = w3 at *
          obtain ⟨va, vc, rfl⟩ := ownC_sl HRA.out.own
          have hs3 := HB3.out.size
          have hrl3 : wr.heap.size < w3.heap.size := heap_lt HR2.out
          have HCO3 := Lib.hid (show OwnC w3.drew 0 5 (.slice xa g.cols xc) xr.cells.length (cvals xr.cells) by
            rw [← hcl]
            exact ownC_below HCO.out (show Below wr.heap.size wr w3.drew from HB3.out.drew))
          have HOW3 := Lib.hid (show OwnC w3.drew W1.heap.size 2 (.slice va L.length vc) L.length (rowVals L) from ownC_below HRA.out.own (show Below wr.heap.size wr w3.drew from HB3.out.drew))
          have HBK3 := Lib.hid (show w3.drew.heap[w.heap.size]? = some (.cells #[.int .i64 g.cols, .int .i64 g.limit, .slice na Ln.length nc, .slice va L.length vc] 61 (0, 0)) from blk_below HBK.out HB3.out.drew hql)
          have HR3 := Lib.hid (show w3.drew.heap[wr.heap.size]? = some (.cells #[.slice xa g.cols xc, .bool xr.wrap] 77 (0, 0)) from HR2.out)
          have s0 : w3.cell? ⟨wr.heap.size, 0, none⟩ = some (.slice xa g.cols xc) := blk_cell HR2.out 0
          have s1 : w3.cell? ⟨wr.heap.size, 1, none⟩ = some (.bool xr.wrap) := blk_cell HR2.out 1
          have s2 : w3.drew.cell? ⟨w.heap.size, 3, none⟩ = some (.slice va L.length vc) := blk_cell HBK3.out 3
          have hne : w.heap.size ≠ wr.heap.size := by omega
          have hs3d : w3.drew.heap.size = w3.heap.size := rfl
          have HLc := Lib.hid hcl
          have hc5 : xr.cells.length ≤ 100000 := by omega
          have hLl : L.length ≤ 2000 := by have := HL.out; omega
          have hW0s : W1.heap.size ≤ wr.heap.size := hszr
          clear hcl d1 d1'
          refine wpL_begin (c := 15) (S := (fun bb w' => (w'.cell? ⟨wr.heap.size, 0, none⟩ = some (.slice xa g.cols xc) ∧ w'.cell? ⟨wr.heap.size, 1, none⟩ = some (.bool xr.wrap)) ∧ (bb = false → w'.cell? ⟨w.heap.size, 3, none⟩ = some (.slice va L.length vc)))) (by kernel_rfl) (⟨⟨s0, s1⟩, fun _ => s2⟩) (fun _ => ?_)
          refine wpL_tk false 0 (⟨⟨s0, s1⟩, fun _ => s2⟩) ?_
          refine wpL_tk false 1 (⟨⟨s0, s1⟩, fun _ => s2⟩) ?_
          refine wpL_tk false 2 (⟨⟨s0, s1⟩, fun _ => s2⟩) ?_
          refine wpL_tk false 3 (⟨⟨s0, s1⟩, fun _ => s2⟩) ?_
          refine wpL_td 4 (⟨⟨s0, s1⟩, fun _ => s2⟩) ?_
          refine wpL_tk false 5 (⟨⟨s0, s1⟩, fun _ => s2⟩) ?_
          refine wpL_tk false 6 (⟨⟨s0, s1⟩, fun _ => s2⟩) ?_
          refine wpL_tk false 8 (⟨⟨s0, s1⟩, fun _ => s2⟩) ?_
          refine wpL_tk false 9 (⟨⟨s0, s1⟩, fun _ => s2⟩) ?_
          refine wpL_on false 7 fun K hK => ?_
          refine wanted_on rfl ?_
          go_wp2_with fail
          refine (cloneC_any xr.cells (.slice xa g.cols xc) w3.drew HCO3.out hc5).mono ?_
          rintro e w6 ⟨v6, rfl, b6, o6⟩
          have hbk6 := blk_below HBK3.out b6 (show w.heap.size < w3.heap.size by omega)
          have hrk6 := blk_below HR3.out b6 (show wr.heap.size < w3.heap.size by omega)
          obtain ⟨va6, vc6, rfl⟩ := ownC_sl o6
          have z0 : w6.cell? ⟨wr.heap.size, 0, none⟩ = some (.slice xa g.cols xc) := blk_cell hrk6 0
          have z1 : w6.cell? ⟨wr.heap.size, 1, none⟩ = some (.bool xr.wrap) := blk_cell hrk6 1
          have z2 : w6.cell? ⟨w.heap.size, 3, none⟩ = some (.slice va L.length vc) := blk_cell hbk6 3
          have z3 : ∀ o, (w6.alloc o).cell? ⟨w.heap.size, 3, none⟩ = some (.slice va L.length vc) := fun o => blk_cell (blk_alloc hbk6 o) 3
          have HB6 := Lib.hid b6
          have HO6 := Lib.hid o6
          have HBK6 := Lib.hid hbk6
          have HRK6 := Lib.hid hrk6
          refine hK.out _ _ (⟨⟨z0, z1⟩, fun _ => z2⟩) (fun _ => ?_)
          clear hK K b6 o6 hbk6 hrk6
          try simp only [Act.put, List.setIfInBounds_toArray, List.set_cons_zero, List.set_cons_succ]
          refine wpL_tk false 10 (⟨⟨z0, z1⟩, fun _ => z2⟩) ?_
          refine wpL_on false 11 fun K hK => ?_
          refine wanted_on rfl ?_
          go_wp2_with fail
          refine hK.out _ _ (⟨⟨blk_cell (blk_alloc HRK6.out _) 0, blk_cell (blk_alloc HRK6.out _) 1⟩, fun _ => z3 _⟩) (fun _ => ?_)
          clear hK K 
          try simp only [Act.put, List.setIfInBounds_toArray, List.set_cons_zero, List.set_cons_succ]
          refine wpL_on false 12 fun K hK => ?_
          apply step_appS rows_elem
          case hgd => rfl
          case ho => rfl
          case hown => exact ownC_alloc (ownC_below HOW3.out HB6.out) _
          case hs => rfl
          case hr => exact src_reads Tryz.underlying57 (reads_row _ _ _ _) (row_one _ _ _ _)
          case hx => rfl
          case h63 => unfold maxLen; omega
          case hbytes => omega
          case hbase => (have := HB6.out.size; simp; (try (show _ ≤ w3.heap.size + 1; omega)); omega)
          intro v7 w7 o7 g7 n7
          have hbk7 := blk_grown (blk_alloc HBK6.out _) g7 (fun e => by have := (ownC_lt HRA.out.own w.heap.size e.symm).1; omega)
          have hrk7 := blk_grown (blk_alloc HRK6.out _) g7 (fun e => by have := (ownC_lt HRA.out.own wr.heap.size e.symm).2; omega)
          have y0 : w7.cell? ⟨wr.heap.size, 0, none⟩ = some (.slice xa g.cols xc) := blk_cell hrk7 0
          have y1 : w7.cell? ⟨wr.heap.size, 1, none⟩ = some (.bool xr.wrap) := blk_cell hrk7 1
          have y2 : w7.cell? ⟨w.heap.size, 3, none⟩ = some (.slice va L.length vc) := blk_cell hbk7 3
          have y3 : w7.frozen? ⟨w.heap.size, 3, none⟩ = false := blk_free hbk7 3
          obtain ⟨va7, vc7, rfl⟩ := ownC_sl o7
          have HBK7 := Lib.hid hbk7
          have HO7 := Lib.hid o7
          have HG7 := Lib.hid g7
          have HN7 := Lib.hid n7
          have HRK7 := Lib.hid hrk7
          refine hK.out _ _ (⟨⟨y0, y1⟩, fun _ => y2⟩) (fun _ => ?_)
          clear hK K hbk7 hrk7 o7 g7 n7
          try simp only [Act.put, List.setIfInBounds_toArray, List.set_cons_zero, List.set_cons_succ]
          refine wpL_tk false 13 (⟨⟨y0, y1⟩, fun _ => y2⟩) ?_
          refine wpL_tk false 14 (⟨⟨y0, y1⟩, fun _ => y2⟩) ?_
          refine wpL_on true 15 fun K hK => ?_
          refine wanted_on rfl ?_
          go_wp2_with fail
          refine hK.out _ _ (⟨⟨blk_cell (blk_set_other HRK7.out hne.symm _ _) 0, blk_cell (blk_set_other HRK7.out hne.symm _ _) 1⟩, fun e => by cases e⟩) (fun _ => ?_)
          clear hK K 
          try simp only [Act.put]
          refine wpL_done (by kernel_rfl) ?_ _
          have hs6 := HB6.out.size
          have HB26 := Lib.hid (show Below wr.heap.size wr (w6.alloc (.cells #[.slice va6 xr.cells.length vc6, .bool xr.wrap] 77)) from
            ((HB3.out.drew.trans (HB6.out.mono (by omega))).alloc (by omega) _))
          obtain ⟨qb, hqb⟩ : ∃ q, (Value.slice va6 xr.cells.length vc6).ownBlock = some q := by
            obtain ⟨b, off, c, e, _, _⟩ := ownC_pos HO6.out (by rw [HLc.out]; omega)
            exact ⟨b, by rw [e]; rfl⟩
          have HRA7 := Lib.hid (HRA.out.snoc (xr := xr) HB26.out (ownC_mono (ownC_alloc HO6.out _) (by omega)) hqb HO7.out HG7.out HN7.out hW0s)
          have HGB7 := Lib.hid (show W1.grownBy w7 (some w.heap.size) from gb_trans_new (gb_below HGB.out HB26.out hW0s) HG7.out (fun q hq => (ownC_lt HRA.out.own q hq).1))
          have hqW : w.heap.size < W1.heap.size := heap_lt HNB1.out
          have HRA8 := Lib.hid (HRA7.out.grown (gb_set (gb_refl w7 (some w.heap.size)) 3 (.slice va7 (L.length + 1) vc7)) (fun k' hk' => by injection hk' with hk'; omega))
          have HGB8 := Lib.hid (gb_set HGB7.out 3 (.slice va7 (L.length + 1) vc7))
          have HBK8 := Lib.hid (blk_set HBK7.out 3 (.slice va7 (L.length + 1) vc7))
          clear y0 y1 y2 y3 z0 z1 z2 z3 s0 s1 s2
          generalize w7.setCell ⟨w.heap.size, 3, none⟩ (.slice va7 (L.length + 1) vc7) = w8 at *
          go_wp2_with fail
          go_roundw
          case rel => exact ⟨k + 1, L ++ [(.slice va6 xr.cells.length vc6, xr)], .slice va7 (L.length + 1) vc7, by omega, by go_num, by show _ = _; rw [List.length_append, HL.out]; rfl, HGB8, HRA8, HBK8, by show _ = _; rw [List.map_append, HMP.out, HTK.out]; rfl⟩
          case measure => simp [intOf]; omega
        · have hkn : k = Lo.length := by omega
          subst hkn
          have d1 : decide ((Lo.length : Int) < (Lo.length : Int)) = false := decide_eq_false (by omega)
          have d1' : decide (Lo.length < Lo.length) = false := decide_eq_false (by omega)
          have hsW2 := HGB.out.size
          have HRN := Lib.hid (HRA1.out.grown HGB.out (fun k' hk' => by injection hk' with hk'; omega))
          have hfin : ∃ T', GM T' w.heap.size wr g ∧ ∀ k, T' k ≠ 0 → own (fun k => if k = w.heap.size then 1 else 0) W0 k := by
            have b1 : ∀ k, (Value.slice na Ln.length nc).ownBlock = some k → W0.heap.size ≤ k ∧ k < W1.heap.size := fun k hk => ownC_lt HRA1.out.own k hk
            have b2 : ∀ k, v.ownBlock = some k → W1.heap.size ≤ k := fun k hk => (ownC_lt HRA.out.own k hk).1
            have b3 : ∀ x ∈ Ln, ∀ k, x.1.ownBlock = some k → W0.heap.size ≤ k ∧ k < W1.heap.size := fun x hx k hk => ownC_lt (HRA1.out.cells x hx) k hk
            have b4 : ∀ x ∈ L, ∀ k, x.1.ownBlock = some k → W1.heap.size ≤ k := fun x hx k hk => (ownC_lt (HRA.out.cells x hx) k hk).1
            refine gat_build (vr := .slice na Ln.length nc) (vo := v) (Lr := Ln) (Lo := L) (fun k hk => ?_) (if_pos rfl) (by omega) HBK.out (ownC_mono HRN.out.own (Nat.zero_le _)) (ownC_mono HRA.out.own (Nat.zero_le _)) (fun k hk => .inr ⟨(b1 k hk).1, fun e => ?_⟩) (fun k hk => .inr ?_) (fun x hx => ?_) ?_ ?_ ?_ HG.out.wf
            · by_cases hkq : k = w.heap.size
              · omega
              · exact absurd (if_neg hkq) hk
            · have := b1 k hk; have := b2 k e; omega
            · have := b2 k hk; omega
            · rcases List.mem_append.1 hx with hx | hx
              · obtain ⟨q, e1, e2⟩ := HRN.out.ap x hx
                refine ⟨ownC_mono (HRN.out.cells x hx) (Nat.zero_le _), q, e1, .inr ⟨(b3 x hx q e1).1, fun e => ?_, e2⟩⟩
                have := b3 x hx q e1; have := b2 q e; omega
              · obtain ⟨q, e1, e2⟩ := HRA.out.ap x hx
                have hq4 := b4 x hx q e1
                refine ⟨ownC_mono (HRA.out.cells x hx) (Nat.zero_le _), q, e1, .inr ⟨by omega, e2, fun e => ?_⟩⟩
                have := b1 q e; omega
            · rw [List.map_append, List.nodup_append]
              refine ⟨HRN.out.nd, HRA.out.nd, fun a ha c hc e => ?_⟩
              obtain ⟨x, hx, rfl⟩ := List.mem_map.1 ha
              obtain ⟨y, hy, rfl⟩ := List.mem_map.1 hc
              obtain ⟨q, e1, _⟩ := HRA1.out.ap x hx
              have := b3 x hx q e1
              have := b4 y hy q (by rw [← e]; exact e1)
              omega
            · have := HMP1.out
              rw [← List.length_map (f := (·.2)), List.take_length] at this
              rw [this]; exact HG.out.er
            · have := HMP.out
              rw [← List.length_map (f := (·.2)), List.take_length] at this
              rw [this]; exact HG.out.eo
          have HF := Lib.hid hfin
          have HBB := Lib.hid (show Below w.heap.size w wr from (HBW0.out.grown HGB1.out (by omega) (by intro k' hk'; injection hk' with hk'; omega)).grown HGB.out (by omega) (by intro k' hk'; injection hk' with hk'; omega))
          clear hfin
          go_wp2_with fail
          obtain ⟨T', f1, f2⟩ := HF.out
          refine ret1v rfl rfl rfl ⟨w.heap.size, rfl, HBB.out, T', f1, fun k hk => ?_⟩
          rcases f2 k hk with h | h
          · by_cases hkq : k = w.heap.size
            · omega
            · exact absurd (if_neg hkq) h
          · omega

end Go.Proofs.YtjclgoiclbkgjaaGreatDoor

/- Cells compared; plain. -/
namespace Go.Proofs.YtjclgoiclbkgjaaGreatDoor
open Go.RowKit
attribute [local go_sem ↓] Go.wp_at_zero Go.wp_at_succ

def Sty.eqb (a b : Sty) : Bool := a.fg == b.fg && (a.bg == b.bg && a.attr == b.attr)
def Cel.eqb (a b : Cel) : Bool := a.rune == b.rune && (a.width == b.width && (a.sty.fg == b.sty.fg && (a.sty.bg == b.sty.bg && a.sty.attr == b.sty.attr)))
theorem Cel.eqb_iff (a b : Cel) : a.eqb b = true ↔ a = b := by
  obtain ⟨r, w, f, g, t⟩ := a
  obtain ⟨r', w', f', g', t'⟩ := b
  simp [Cel.eqb]
theorem Sty.eqb_iff (a b : Sty) : a.eqb b = true ↔ a = b := by
  obtain ⟨f, g, t⟩ := a
  obtain ⟨f', g', t'⟩ := b
  simp [Sty.eqb]
theorem eq_cel_in (a b : Cel) (d : Nat) (w : World) : (Op.equalIn (d + 3) 38 a.val b.val).run Tryz.prog w = .ok (a.eqb b) w := by
  have hS : Tryz.prog.underlying 38 = some (.struct (Tryz.prog.fieldsOf 38)) := by kernel_rfl
  have hp : Tryz.prog.stoodInHeld 38 = false := by kernel_rfl
  unfold Cel.val
  rw [run_equalIn_agg w (d + 2) 38 _ _ hS hp]
  simp only [Program.fieldsOf, Tryz.underlying38]
  go_simp
  unfold Cel.eqb
  by_cases h1 : a.rune = b.rune <;> by_cases h2 : a.width = b.width <;> by_cases h3 : a.sty.fg = b.sty.fg <;> by_cases h4 : a.sty.bg = b.sty.bg <;> by_cases h5 : a.sty.attr = b.sty.attr <;> simp [h1, h2, h3, h4, h5]
theorem eql_cel (a b : Cel) (w : World) : (binOp .eql 38 a.val b.val).run Tryz.prog w = .ok (.bool (a.eqb b)) w := by
  have := eq_cel_in a b 9997 w
  unfold Cel.val at *
  rw [run_eql_struct, show (10000 : Nat) = 9997 + 3 from rfl, this]; rfl
theorem neq_cel (a b : Cel) (w : World) : (binOp .neq 38 a.val b.val).run Tryz.prog w = .ok (.bool (!a.eqb b)) w := by
  have := eq_cel_in a b 9997 w
  unfold Cel.val at *
  rw [run_neq_struct, show (10000 : Nat) = 9997 + 3 from rfl, this]; rfl
theorem guard_cel (op : BinOp) (x y : Operand) (a b : Cel) (w : World) : (eqGuard op 38 x y a.val b.val).run Tryz.prog w = .ok () w := run_eqGuard_agg w op 38 x y _ _ (by kernel_rfl)
end Go.Proofs.YtjclgoiclbkgjaaGreatDoor
