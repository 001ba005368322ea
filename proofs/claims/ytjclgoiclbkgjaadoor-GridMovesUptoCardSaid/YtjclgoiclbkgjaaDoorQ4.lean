/- What a reflow computes: plain laws. -/
import Derived.Test.YtjclgoiclbkgjaaDoorM4
namespace Go.Proofs.YtjclgoiclbkgjaaDoor
open Go.RowKit

theorem trimM_step (l : List Cel) (mark : Int) : trimM l mark = if mark < (l.length : Int) - 1 ∧ l ≠ [] ∧ isPlain (l.getD (l.length - 1) noC) = true then trimM (l.take (l.length - 1)) mark else l := by
  cases l with
  | nil => rw [if_neg (fun e => e.2.1 rfl)]; rfl
  | cons c l =>
    have e1 : ((c :: l).take ((c :: l).length - 1)).length = l.length := by rw [List.length_take, List.length_cons]; omega
    unfold trimM
    rw [e1]
    rfl
theorem trimF_take (n : Nat) (l : List Cel) (mark : Int) : ∃ k, k ≤ l.length ∧ trimF n l mark = l.take k := by
  induction n generalizing l with
  | zero => exact ⟨l.length, Nat.le_refl _, (List.take_length (l := l)).symm⟩
  | succ n ih =>
    unfold trimF
    split
    · obtain ⟨k, hk, e⟩ := ih (l.take (l.length - 1))
      rw [List.length_take] at hk
      refine ⟨k, by omega, ?_⟩
      rw [e, List.take_take, Nat.min_eq_left (by omega)]
    · exact ⟨l.length, Nat.le_refl _, (List.take_length (l := l)).symm⟩
theorem trimM_len (l : List Cel) (mark : Int) : (trimM l mark).length ≤ l.length := by
  obtain ⟨k, hk, e⟩ := trimF_take l.length l mark
  unfold trimM
  rw [e, List.length_take]; omega
theorem trimM_mem {l : List Cel} {mark : Int} {c : Cel} (h : c ∈ trimM l mark) : c ∈ l := by
  obtain ⟨k, hk, e⟩ := trimF_take l.length l mark
  unfold trimM at h
  rw [e] at h
  exact List.mem_of_mem_take h
theorem trimR_step (l : List Rw) (py : Int) : trimR l.length l py = if py < (l.length : Int) - 1 ∧ l ≠ [] ∧ (l.getD (l.length - 1) noR).wrap = false ∧ (l.getD (l.length - 1) noR).cells.all isPlain = true then trimR (l.take (l.length - 1)).length (l.take (l.length - 1)) py else l := by
  cases l with
  | nil => rw [if_neg (fun e => e.2.1 rfl)]; rfl
  | cons c l =>
    have e1 : ((c :: l).take ((c :: l).length - 1)).length = l.length := by rw [List.length_take, List.length_cons]; omega
    rw [e1]
    have e2 : trimR (c :: l).length (c :: l) py = if py < ((c :: l).length : Int) - 1 ∧ ((c :: l).getD ((c :: l).length - 1) noR).wrap = false ∧ ((c :: l).getD ((c :: l).length - 1) noR).cells.all isPlain = true then trimR l.length ((c :: l).take ((c :: l).length - 1)) py else c :: l := rfl
    rw [e2]
    simp only [ne_eq, reduceCtorEq, not_false_eq_true, true_and]
theorem trimR_take (n : Nat) (l : List Rw) (py : Int) (h0 : 0 ≤ py) (hl : py < l.length) : ∃ k, k ≤ l.length ∧ py < k ∧ trimR n l py = l.take k := by
  induction n generalizing l with
  | zero => exact ⟨l.length, Nat.le_refl _, hl, (List.take_length (l := l)).symm⟩
  | succ n ih =>
    unfold trimR
    split
    · rename_i hc
      have e1 : (l.take (l.length - 1)).length = l.length - 1 := by rw [List.length_take]; omega
      obtain ⟨k, hk, hk2, e⟩ := ih (l.take (l.length - 1)) (by rw [e1]; omega)
      rw [e1] at hk
      refine ⟨k, by omega, hk2, ?_⟩
      rw [e, List.take_take, Nat.min_eq_left (by omega)]
    · exact ⟨l.length, Nat.le_refl _, hl, (List.take_length (l := l)).symm⟩
/-- A row as a grid of so many columns wants it. -/
def Rw.Good (cols : Nat) (r : Rw) : Prop := r.cells.length = cols ∧ ∀ c ∈ r.cells, c.Ok
structure SpI (cols : Nat) (st : Sp) : Prop where
  cur : st.cur.length ≤ cols
  ok : ∀ c ∈ st.cur, c.Ok
  done : ∀ r ∈ st.done, r.Good cols
  told : ∀ q, st.told = some q → 0 ≤ q.2 ∧ q.2 ≤ (st.done.length : Int)
theorem spLay_i {cols : Nat} {mark : Int} {st : Sp} (h : SpI cols st) (i : Nat) (c : Cel) (hc : c.Ok) (h1 : 1 ≤ cols) : SpI cols (spLay cols mark st i c) ∧ (spLay cols mark st i c).done.length ≤ st.done.length + 1 := by
  unfold spLay
  generalize hcur1 : (if c.width = 2 ∧ st.cur.length = cols - 1 then st.cur ++ [blankC plainS] else st.cur) = cur1
  have a1 : cur1.length ≤ cols ∧ ∀ c ∈ cur1, c.Ok := by
    rw [← hcur1]
    split
    · rename_i h2
      refine ⟨by rw [List.length_append]; simp; omega, fun x hx => ?_⟩
      rcases List.mem_append.1 hx with hx | hx
      · exact h.ok x hx
      · rw [List.mem_singleton] at hx; subst hx; exact blank_ok _
    · exact ⟨h.cur, h.ok⟩
  dsimp only
  by_cases hf : cur1.length = cols
  · simp only [if_pos hf]
    refine ⟨⟨by show ([] ++ [c]).length ≤ cols; simpa using h1, fun x hx => ?_, fun r hr => ?_, fun q hq => ?_⟩, by rw [List.length_append]; simp⟩
    · simp only [List.nil_append, List.mem_singleton] at hx; subst hx; exact hc
    · rcases List.mem_append.1 hr with hr | hr
      · exact h.done r hr
      · rw [List.mem_singleton] at hr; subst hr; exact ⟨hf, a1.2⟩
    · dsimp only at hq
      split at hq
      · injection hq with hq; subst hq; dsimp only; omega
      · have := h.told q hq
        rw [List.length_append]; simp; omega
  · simp only [if_neg hf]
    refine ⟨⟨by rw [List.length_append]; simp; omega, fun x hx => ?_, h.done, fun q hq => ?_⟩, by omega⟩
    · rcases List.mem_append.1 hx with hx | hx
      · exact a1.2 x hx
      · rw [List.mem_singleton] at hx; subst hx; exact hc
    · dsimp only at hq
      split at hq
      · injection hq with hq; subst hq; dsimp only; omega
      · exact h.told q hq
theorem spStep_i {cols : Nat} {mark : Int} {st : Sp} (h : SpI cols st) (i : Nat) (c : Cel) (hc : c.Ok) (h1 : 1 ≤ cols) : SpI cols (spStep cols mark st i c) ∧ (spStep cols mark st i c).done.length ≤ st.done.length + 1 := by
  unfold spStep
  split
  · split
    · refine ⟨⟨h.cur, h.ok, h.done, fun q hq => ?_⟩, by dsimp only; omega⟩
      dsimp only at hq
      split at hq
      · injection hq with hq; subst hq; dsimp only; omega
      · exact h.told q hq
    · exact spLay_i h i _ (blank_ok _) h1
  · exact spLay_i h i c hc h1
theorem spRun_i {cols : Nat} {mark : Int} (l : List Cel) (hl : ∀ c ∈ l, c.Ok) (h1 : 1 ≤ cols) : ∀ (st : Sp) (i : Nat), SpI cols st → SpI cols (spRun cols mark st i l) ∧ (spRun cols mark st i l).done.length ≤ st.done.length + l.length := by
  induction l with
  | nil => intro st i h; exact ⟨h, Nat.le_refl _⟩
  | cons c l ih =>
    intro st i h
    obtain ⟨a, b⟩ := spStep_i (mark := mark) h i c (hl c (List.mem_cons_self ..)) h1
    obtain ⟨a2, b2⟩ := ih (fun x hx => hl x (List.mem_cons_of_mem _ hx)) _ (i + 1) a
    refine ⟨a2, ?_⟩
    show (spRun cols mark (spStep cols mark st i c) (i + 1) l).done.length ≤ _
    rw [List.length_cons]; omega
theorem splitG_i (l : List Cel) (cols : Nat) (mark : Int) (hl : ∀ c ∈ l, c.Ok) (h1 : 1 ≤ cols) : SpI cols (splitG l cols mark) ∧ (splitG l cols mark).done.length ≤ l.length := by
  have := spRun_i (mark := mark) l hl h1 ⟨[], [], none⟩ 0 ⟨by simp, by simp, by simp, by simp⟩
  refine ⟨this.1, ?_⟩
  have h2 := this.2
  simp only [List.length_nil, Nat.zero_add] at h2
  exact h2
theorem spEnd_len (cols : Nat) (st : Sp) : (spEnd cols st).length = st.done.length + 1 := by unfold spEnd; simp
theorem spEnd_good {cols : Nat} {st : Sp} (h : SpI cols st) : ∀ r ∈ spEnd cols st, r.Good cols := fun r hr => by
  unfold spEnd at hr
  rcases List.mem_append.1 hr with hr | hr
  · exact h.done r hr
  · rw [List.mem_singleton] at hr
    subst hr
    refine ⟨?_, fun c hc => ?_⟩
    · show (st.cur ++ List.replicate _ _).length = cols
      rw [List.length_append, List.length_replicate]; have := h.cur; omega
    · rcases List.mem_append.1 hc with hc | hc
      · exact h.ok c hc
      · rw [List.eq_of_mem_replicate hc]; exact blank_ok _
theorem wrapLast_len (l : List Rw) (is : Bool) : (wrapLast l is).length = l.length := by unfold wrapLast; rw [List.length_set]
theorem wrapLast_good {cols : Nat} {l : List Rw} (is : Bool) (hne : l ≠ []) (h : ∀ r ∈ l, r.Good cols) : ∀ r ∈ wrapLast l is, r.Good cols := fun r hr => by
  unfold wrapLast at hr
  rcases List.mem_or_eq_of_mem_set hr with hr | hr
  · exact h r hr
  · have hm : l.getD (l.length - 1) noR ∈ l := by
      have : 0 < l.length := List.length_pos_iff.2 hne
      rw [List.getD_eq_getElem?_getD, List.getElem?_eq_getElem (by omega)]
      exact List.getElem_mem _
    have h2 := h _ hm
    rw [hr]
    exact ⟨h2.1, h2.2⟩
structure FlI (cols : Nat) (st : Fl) : Prop where
  good : ∀ r ∈ st.out, r.Good cols
  p0 : 0 ≤ st.py
  p1 : st.py ≤ (st.out.length : Int)
theorem flEnd_i {cols : Nat} {st : Fl} (h : FlI cols st) (line : List Cel) (mark : Int) (wrap : Bool) (hl : ∀ c ∈ line, c.Ok) (h1 : 1 ≤ cols) : FlI cols (flEnd cols line mark wrap st) ∧ (flEnd cols line mark wrap st).out.length ≤ st.out.length + line.length + 1 ∧ st.out.length + 1 ≤ (flEnd cols line mark wrap st).out.length ∧ (flEnd cols line mark wrap st).py < (flEnd cols line mark wrap st).out.length := by
  obtain ⟨a, b⟩ := splitG_i (trimM line mark) cols mark (fun c hc => hl c (trimM_mem hc)) h1
  have hll := trimM_len line mark
  have e : (flEnd cols line mark wrap st).out = st.out ++ wrapLast (spEnd cols (splitG (trimM line mark) cols mark)) wrap := rfl
  have e2 : (flEnd cols line mark wrap st).out.length = st.out.length + (splitG (trimM line mark) cols mark).done.length + 1 := by
    rw [e, List.length_append, wrapLast_len, spEnd_len]; omega
  have e3 : (flEnd cols line mark wrap st).py = match (splitG (trimM line mark) cols mark).told with | some q => (st.out.length : Int) + q.2 | none => st.py := rfl
  have h3 : 0 ≤ (flEnd cols line mark wrap st).py ∧ (flEnd cols line mark wrap st).py < (flEnd cols line mark wrap st).out.length := by
    rw [e2, e3]
    split
    · rename_i q hq
      have := a.told q hq
      show 0 ≤ (st.out.length : Int) + q.2 ∧ (st.out.length : Int) + q.2 < _
      omega
    · have := h.p0; have := h.p1; omega
  refine ⟨⟨fun r hr => ?_, h3.1, by omega⟩, by omega, by omega, h3.2⟩
  rw [e] at hr
  rcases List.mem_append.1 hr with hr | hr
  · exact h.good r hr
  · exact wrapLast_good wrap (by unfold spEnd; simp) (spEnd_good a) r hr
theorem flRun_i {cols : Nat} {place atx : Int} (h1 : 1 ≤ cols) (m : Nat) (l : List Rw) (hl : ∀ r ∈ l, r.Good m) : ∀ (i : Nat) (line : List Cel) (mark : Int) (st : Fl), FlI cols st → (∀ c ∈ line, c.Ok) →
    FlI cols (flRun cols place atx l i line mark st) ∧ (l ≠ [] → (flRun cols place atx l i line mark st).py < (flRun cols place atx l i line mark st).out.length) := by
  induction l with
  | nil => intro i line mark st h _; exact ⟨h, fun e => absurd rfl e⟩
  | cons r l ih =>
    intro i line mark st h ho
    have hr := hl r (List.mem_cons_self ..)
    have ho2 : ∀ c ∈ line ++ r.cells, c.Ok := fun c hc => by
      rcases List.mem_append.1 hc with hc | hc
      · exact ho c hc
      · exact hr.2 c hc
    have ih2 := ih (fun x hx => hl x (List.mem_cons_of_mem _ hx))
    show FlI cols (if _ then _ else _) ∧ (_ → (if _ then _ else _ : Fl).py < (if _ then _ else _ : Fl).out.length)
    by_cases hc : r.wrap = false ∨ l = []
    · simp only [if_pos hc]
      obtain ⟨a, _, _, d⟩ := flEnd_i h (line ++ r.cells) (if (i : Int) = place then (line.length : Int) + atx else mark) r.wrap ho2 h1
      obtain ⟨a2, b2⟩ := ih2 (i + 1) [] (-1) _ a (by simp)
      refine ⟨a2, fun _ => ?_⟩
      by_cases hne : l = []
      · subst hne; exact d
      · exact b2 hne
    · simp only [if_neg hc]
      have hne : l ≠ [] := fun e => hc (.inr e)
      obtain ⟨a2, b2⟩ := ih2 (i + 1) (line ++ r.cells) (if (i : Int) = place then (line.length : Int) + atx else mark) st h ho2
      exact ⟨a2, fun _ => b2 hne⟩
/-- Where the rows are parted: those that go to the past, and those that are shown. -/
structure FlowAt (g : Gr) (cols rows : Nat) (ax ay : Int) (out : List Rw) (first : Nat) (px py : Int) : Prop where
  fst : first < out.length
  fit : (out.drop first).length ≤ rows → True
  good : ∀ r ∈ out, r.Good cols
  eq : g.flow cols rows ax ay = (⟨cols, g.limit, (out.drop first).take rows ++ freshL (rows - ((out.drop first).take rows).length) cols plainS, keepL g.limit (out.take first)⟩, px, py - first)
theorem flow_wf {g : Gr} (h : g.WF) (cols rows : Nat) (out : List Rw) (first : Nat) (c1 : 1 ≤ cols) (c2 : cols ≤ 250) (r1 : 1 ≤ rows) (r2 : rows ≤ 120) (hg : ∀ r ∈ out, r.Good cols) :
    (⟨cols, g.limit, (out.drop first).take rows ++ freshL (rows - ((out.drop first).take rows).length) cols plainS, keepL g.limit (out.take first)⟩ : Gr).WF := by
  have hlt : ((out.drop first).take rows).length ≤ rows := by rw [List.length_take]; omega
  refine ⟨c1, c2, ?_, ?_, h.li, ?_, fun r hr => ?_⟩
  · show 1 ≤ (_ ++ freshL _ _ _).length
    unfold freshL; rw [List.length_append, List.length_replicate]; omega
  · show (_ ++ freshL _ _ _).length ≤ 120
    unfold freshL; rw [List.length_append, List.length_replicate]; omega
  · show (keepL g.limit _).length ≤ g.limit
    unfold keepL; rw [List.length_drop]; omega
  · have hr : r ∈ ((out.drop first).take rows ++ freshL (rows - ((out.drop first).take rows).length) cols plainS) ++ keepL g.limit (out.take first) := hr
    show r.cells.length = cols ∧ _
    rcases List.mem_append.1 hr with hr | hr
    · rcases List.mem_append.1 hr with hr | hr
      · exact hg r (List.mem_of_mem_drop (List.mem_of_mem_take hr))
      · unfold freshL at hr
        rw [List.eq_of_mem_replicate hr]
        exact ⟨List.length_replicate, fun c hc => by rw [List.eq_of_mem_replicate hc]; exact blank_ok _⟩
    · unfold keepL at hr
      exact hg r (List.mem_of_mem_take (List.mem_of_mem_drop hr))
end Go.Proofs.YtjclgoiclbkgjaaDoor
