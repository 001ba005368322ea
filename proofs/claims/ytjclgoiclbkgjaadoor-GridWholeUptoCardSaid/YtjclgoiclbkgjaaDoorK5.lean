/- Package grid, texts laid together: Q4 Q5 I1 J1. -/
import Derived.Test.YtjclgoiclbkgjaaDoorK4
/- What a reflow computes: plain laws. -/
namespace Go.Proofs.YtjclgoiclbkgjaaDoor
open Go.RowKit

theorem trimM_step (l : List Cel) (mark : Int) : trimM l mark = if mark < (l.length : Int) - 1 ∧ l ≠ [] ∧ isPlain (l.getD (l.length - 1) noC) = true then trimM (l.take (l.length - 1)) mark else l := by
  cases l with
  | nil => rw [if_neg (fun e => e.2.1 rfl)]; rfl
  | cons c l =>
    have e1 : ((c :: l).take ((c :: l).length - 1)).length = l.length := by rw [List.length_take, List.length_cons]; omega
    unfold trimM
    rw [e1]
    rfl
theorem trimF_take (n : Nat) (l : List Cel) (mark : Int) : ∃ k, k ≤ l.length ∧ trimF n l mark = l.take k := by
  induction n generalizing l with
  | zero => exact ⟨l.length, Nat.le_refl _, (List.take_length (l := l)).symm⟩
  | succ n ih =>
    unfold trimF
    split
    · obtain ⟨k, hk, e⟩ := ih (l.take (l.length - 1))
      rw [List.length_take] at hk
      refine ⟨k, by omega, ?_⟩
      rw [e, List.take_take, Nat.min_eq_left (by omega)]
    · exact ⟨l.length, Nat.le_refl _, (List.take_length (l := l)).symm⟩
theorem trimM_len (l : List Cel) (mark : Int) : (trimM l mark).length ≤ l.length := by
  obtain ⟨k, hk, e⟩ := trimF_take l.length l mark
  unfold trimM
  rw [e, List.length_take]; omega
theorem trimM_mem {l : List Cel} {mark : Int} {c : Cel} (h : c ∈ trimM l mark) : c ∈ l := by
  obtain ⟨k, hk, e⟩ := trimF_take l.length l mark
  unfold trimM at h
  rw [e] at h
  exact List.mem_of_mem_take h
theorem trimR_step (l : List Rw) (py : Int) : trimR l.length l py = if py < (l.length : Int) - 1 ∧ l ≠ [] ∧ (l.getD (l.length - 1) noR).wrap = false ∧ (l.getD (l.length - 1) noR).cells.all isPlain = true then trimR (l.take (l.length - 1)).length (l.take (l.length - 1)) py else l := by
  cases l with
  | nil => rw [if_neg (fun e => e.2.1 rfl)]; rfl
  | cons c l =>
    have e1 : ((c :: l).take ((c :: l).length - 1)).length = l.length := by rw [List.length_take, List.length_cons]; omega
    rw [e1]
    have e2 : trimR (c :: l).length (c :: l) py = if py < ((c :: l).length : Int) - 1 ∧ ((c :: l).getD ((c :: l).length - 1) noR).wrap = false ∧ ((c :: l).getD ((c :: l).length - 1) noR).cells.all isPlain = true then trimR l.length ((c :: l).take ((c :: l).length - 1)) py else c :: l := rfl
    rw [e2]
    simp only [ne_eq, reduceCtorEq, not_false_eq_true, true_and]
theorem trimR_take (n : Nat) (l : List Rw) (py : Int) (h0 : 0 ≤ py) (hl : py < l.length) : ∃ k, k ≤ l.length ∧ py < k ∧ trimR n l py = l.take k := by
  induction n generalizing l with
  | zero => exact ⟨l.length, Nat.le_refl _, hl, (List.take_length (l := l)).symm⟩
  | succ n ih =>
    unfold trimR
    split
    · rename_i hc
      have e1 : (l.take (l.length - 1)).length = l.length - 1 := by rw [List.length_take]; omega
      obtain ⟨k, hk, hk2, e⟩ := ih (l.take (l.length - 1)) (by rw [e1]; omega)
      rw [e1] at hk
      refine ⟨k, by omega, hk2, ?_⟩
      rw [e, List.take_take, Nat.min_eq_left (by omega)]
    · exact ⟨l.length, Nat.le_refl _, hl, (List.take_length (l := l)).symm⟩
/-- A row as a grid of so many columns wants it. -/
def Rw.Good (cols : Nat) (r : Rw) : Prop := r.cells.length = cols ∧ ∀ c ∈ r.cells, c.Ok
structure SpI (cols : Nat) (st : Sp) : Prop where
  cur : st.cur.length ≤ cols
  ok : ∀ c ∈ st.cur, c.Ok
  done : ∀ r ∈ st.done, r.Good cols
  told : ∀ q, st.told = some q → 0 ≤ q.2 ∧ q.2 ≤ (st.done.length : Int)
theorem spLay_i {cols : Nat} {mark : Int} {st : Sp} (h : SpI cols st) (i : Nat) (c : Cel) (hc : c.Ok) (h1 : 1 ≤ cols) : SpI cols (spLay cols mark st i c) ∧ (spLay cols mark st i c).done.length ≤ st.done.length + 1 := by
  unfold spLay
  generalize hcur1 : (if c.width = 2 ∧ st.cur.length = cols - 1 then st.cur ++ [blankC plainS] else st.cur) = cur1
  have a1 : cur1.length ≤ cols ∧ ∀ c ∈ cur1, c.Ok := by
    rw [← hcur1]
    split
    · rename_i h2
      refine ⟨by rw [List.length_append]; simp; omega, fun x hx => ?_⟩
      rcases List.mem_append.1 hx with hx | hx
      · exact h.ok x hx
      · rw [List.mem_singleton] at hx; subst hx; exact blank_ok _
    · exact ⟨h.cur, h.ok⟩
  dsimp only
  by_cases hf : cur1.length = cols
  · simp only [if_pos hf]
    refine ⟨⟨by show ([] ++ [c]).length ≤ cols; simpa using h1, fun x hx => ?_, fun r hr => ?_, fun q hq => ?_⟩, by rw [List.length_append]; simp⟩
    · simp only [List.nil_append, List.mem_singleton] at hx; subst hx; exact hc
    · rcases List.mem_append.1 hr with hr | hr
      · exact h.done r hr
      · rw [List.mem_singleton] at hr; subst hr; exact ⟨hf, a1.2⟩
    · dsimp only at hq
      split at hq
      · injection hq with hq; subst hq; dsimp only; omega
      · have := h.told q hq
        rw [List.length_append]; simp; omega
  · simp only [if_neg hf]
    refine ⟨⟨by rw [List.length_append]; simp; omega, fun x hx => ?_, h.done, fun q hq => ?_⟩, by omega⟩
    · rcases List.mem_append.1 hx with hx | hx
      · exact a1.2 x hx
      · rw [List.mem_singleton] at hx; subst hx; exact hc
    · dsimp only at hq
      split at hq
      · injection hq with hq; subst hq; dsimp only; omega
      · exact h.told q hq
theorem spStep_i {cols : Nat} {mark : Int} {st : Sp} (h : SpI cols st) (i : Nat) (c : Cel) (hc : c.Ok) (h1 : 1 ≤ cols) : SpI cols (spStep cols mark st i c) ∧ (spStep cols mark st i c).done.length ≤ st.done.length + 1 := by
  unfold spStep
  split
  · split
    · refine ⟨⟨h.cur, h.ok, h.done, fun q hq => ?_⟩, by dsimp only; omega⟩
      dsimp only at hq
      split at hq
      · injection hq with hq; subst hq; dsimp only; omega
      · exact h.told q hq
    · exact spLay_i h i _ (blank_ok _) h1
  · exact spLay_i h i c hc h1
theorem spRun_i {cols : Nat} {mark : Int} (l : List Cel) (hl : ∀ c ∈ l, c.Ok) (h1 : 1 ≤ cols) : ∀ (st : Sp) (i : Nat), SpI cols st → SpI cols (spRun cols mark st i l) ∧ (spRun cols mark st i l).done.length ≤ st.done.length + l.length := by
  induction l with
  | nil => intro st i h; exact ⟨h, Nat.le_refl _⟩
  | cons c l ih =>
    intro st i h
    obtain ⟨a, b⟩ := spStep_i (mark := mark) h i c (hl c (List.mem_cons_self ..)) h1
    obtain ⟨a2, b2⟩ := ih (fun x hx => hl x (List.mem_cons_of_mem _ hx)) _ (i + 1) a
    refine ⟨a2, ?_⟩
    show (spRun cols mark (spStep cols mark st i c) (i + 1) l).done.length ≤ _
    rw [List.length_cons]; omega
theorem splitG_i (l : List Cel) (cols : Nat) (mark : Int) (hl : ∀ c ∈ l, c.Ok) (h1 : 1 ≤ cols) : SpI cols (splitG l cols mark) ∧ (splitG l cols mark).done.length ≤ l.length := by
  have := spRun_i (mark := mark) l hl h1 ⟨[], [], none⟩ 0 ⟨by simp, by simp, by simp, by simp⟩
  refine ⟨this.1, ?_⟩
  have h2 := this.2
  simp only [List.length_nil, Nat.zero_add] at h2
  exact h2
theorem spEnd_len (cols : Nat) (st : Sp) : (spEnd cols st).length = st.done.length + 1 := by unfold spEnd; simp
theorem spEnd_good {cols : Nat} {st : Sp} (h : SpI cols st) : ∀ r ∈ spEnd cols st, r.Good cols := fun r hr => by
  unfold spEnd at hr
  rcases List.mem_append.1 hr with hr | hr
  · exact h.done r hr
  · rw [List.mem_singleton] at hr
    subst hr
    refine ⟨?_, fun c hc => ?_⟩
    · show (st.cur ++ List.replicate _ _).length = cols
      rw [List.length_append, List.length_replicate]; have := h.cur; omega
    · rcases List.mem_append.1 hc with hc | hc
      · exact h.ok c hc
      · rw [List.eq_of_mem_replicate hc]; exact blank_ok _
theorem wrapLast_len (l : List Rw) (is : Bool) : (wrapLast l is).length = l.length := by unfold wrapLast; rw [List.length_set]
theorem wrapLast_good {cols : Nat} {l : List Rw} (is : Bool) (hne : l ≠ []) (h : ∀ r ∈ l, r.Good cols) : ∀ r ∈ wrapLast l is, r.Good cols := fun r hr => by
  unfold wrapLast at hr
  rcases List.mem_or_eq_of_mem_set hr with hr | hr
  · exact h r hr
  · have hm : l.getD (l.length - 1) noR ∈ l := by
      have : 0 < l.length := List.length_pos_iff.2 hne
      rw [List.getD_eq_getElem?_getD, List.getElem?_eq_getElem (by omega)]
      exact List.getElem_mem _
    have h2 := h _ hm
    rw [hr]
    exact ⟨h2.1, h2.2⟩
structure FlI (cols : Nat) (st : Fl) : Prop where
  good : ∀ r ∈ st.out, r.Good cols
  p0 : 0 ≤ st.py
  p1 : st.py ≤ (st.out.length : Int)
theorem flEnd_i {cols : Nat} {st : Fl} (h : FlI cols st) (line : List Cel) (mark : Int) (wrap : Bool) (hl : ∀ c ∈ line, c.Ok) (h1 : 1 ≤ cols) : FlI cols (flEnd cols line mark wrap st) ∧ (flEnd cols line mark wrap st).out.length ≤ st.out.length + line.length + 1 ∧ st.out.length + 1 ≤ (flEnd cols line mark wrap st).out.length ∧ (flEnd cols line mark wrap st).py < (flEnd cols line mark wrap st).out.length := by
  obtain ⟨a, b⟩ := splitG_i (trimM line mark) cols mark (fun c hc => hl c (trimM_mem hc)) h1
  have hll := trimM_len line mark
  have e : (flEnd cols line mark wrap st).out = st.out ++ wrapLast (spEnd cols (splitG (trimM line mark) cols mark)) wrap := rfl
  have e2 : (flEnd cols line mark wrap st).out.length = st.out.length + (splitG (trimM line mark) cols mark).done.length + 1 := by
    rw [e, List.length_append, wrapLast_len, spEnd_len]; omega
  have e3 : (flEnd cols line mark wrap st).py = match (splitG (trimM line mark) cols mark).told with | some q => (st.out.length : Int) + q.2 | none => st.py := rfl
  have h3 : 0 ≤ (flEnd cols line mark wrap st).py ∧ (flEnd cols line mark wrap st).py < (flEnd cols line mark wrap st).out.length := by
    rw [e2, e3]
    split
    · rename_i q hq
      have := a.told q hq
      show 0 ≤ (st.out.length : Int) + q.2 ∧ (st.out.length : Int) + q.2 < _
      omega
    · have := h.p0; have := h.p1; omega
  refine ⟨⟨fun r hr => ?_, h3.1, by omega⟩, by omega, by omega, h3.2⟩
  rw [e] at hr
  rcases List.mem_append.1 hr with hr | hr
  · exact h.good r hr
  · exact wrapLast_good wrap (by unfold spEnd; simp) (spEnd_good a) r hr
theorem flRun_i {cols : Nat} {place atx : Int} (h1 : 1 ≤ cols) (m : Nat) (l : List Rw) (hl : ∀ r ∈ l, r.Good m) : ∀ (i : Nat) (line : List Cel) (mark : Int) (st : Fl), FlI cols st → (∀ c ∈ line, c.Ok) →
    FlI cols (flRun cols place atx l i line mark st) ∧ (l ≠ [] → (flRun cols place atx l i line mark st).py < (flRun cols place atx l i line mark st).out.length) := by
  induction l with
  | nil => intro i line mark st h _; exact ⟨h, fun e => absurd rfl e⟩
  | cons r l ih =>
    intro i line mark st h ho
    have hr := hl r (List.mem_cons_self ..)
    have ho2 : ∀ c ∈ line ++ r.cells, c.Ok := fun c hc => by
      rcases List.mem_append.1 hc with hc | hc
      · exact ho c hc
      · exact hr.2 c hc
    have ih2 := ih (fun x hx => hl x (List.mem_cons_of_mem _ hx))
    show FlI cols (if _ then _ else _) ∧ (_ → (if _ then _ else _ : Fl).py < (if _ then _ else _ : Fl).out.length)
    by_cases hc : r.wrap = false ∨ l = []
    · simp only [if_pos hc]
      obtain ⟨a, _, _, d⟩ := flEnd_i h (line ++ r.cells) (if (i : Int) = place then (line.length : Int) + atx else mark) r.wrap ho2 h1
      obtain ⟨a2, b2⟩ := ih2 (i + 1) [] (-1) _ a (by simp)
      refine ⟨a2, fun _ => ?_⟩
      by_cases hne : l = []
      · subst hne; exact d
      · exact b2 hne
    · simp only [if_neg hc]
      have hne : l ≠ [] := fun e => hc (.inr e)
      obtain ⟨a2, b2⟩ := ih2 (i + 1) (line ++ r.cells) (if (i : Int) = place then (line.length : Int) + atx else mark) st h ho2
      exact ⟨a2, fun _ => b2 hne⟩
/-- Where the rows are parted: those that go to the past, and those that are shown. -/
structure FlowAt (g : Gr) (cols rows : Nat) (ax ay : Int) (out : List Rw) (first : Nat) (px py : Int) : Prop where
  fst : first < out.length
  fit : (out.drop first).length ≤ rows → True
  good : ∀ r ∈ out, r.Good cols
  eq : g.flow cols rows ax ay = (⟨cols, g.limit, (out.drop first).take rows ++ freshL (rows - ((out.drop first).take rows).length) cols plainS, keepL g.limit (out.take first)⟩, px, py - first)
theorem flow_wf {g : Gr} (h : g.WF) (cols rows : Nat) (out : List Rw) (first : Nat) (c1 : 1 ≤ cols) (c2 : cols ≤ 250) (r1 : 1 ≤ rows) (r2 : rows ≤ 120) (hg : ∀ r ∈ out, r.Good cols) :
    (⟨cols, g.limit, (out.drop first).take rows ++ freshL (rows - ((out.drop first).take rows).length) cols plainS, keepL g.limit (out.take first)⟩ : Gr).WF := by
  have hlt : ((out.drop first).take rows).length ≤ rows := by rw [List.length_take]; omega
  refine ⟨c1, c2, ?_, ?_, h.li, ?_, fun r hr => ?_⟩
  · show 1 ≤ (_ ++ freshL _ _ _).length
    unfold freshL; rw [List.length_append, List.length_replicate]; omega
  · show (_ ++ freshL _ _ _).length ≤ 120
    unfold freshL; rw [List.length_append, List.length_replicate]; omega
  · show (keepL g.limit _).length ≤ g.limit
    unfold keepL; rw [List.length_drop]; omega
  · have hr : r ∈ ((out.drop first).take rows ++ freshL (rows - ((out.drop first).take rows).length) cols plainS) ++ keepL g.limit (out.take first) := hr
    show r.cells.length = cols ∧ _
    rcases List.mem_append.1 hr with hr | hr
    · rcases List.mem_append.1 hr with hr | hr
      · exact hg r (List.mem_of_mem_drop (List.mem_of_mem_take hr))
      · unfold freshL at hr
        rw [List.eq_of_mem_replicate hr]
        exact ⟨List.length_replicate, fun c hc => by rw [List.eq_of_mem_replicate hc]; exact blank_ok _⟩
    · unfold keepL at hr
      exact hg r (List.mem_of_mem_take (List.mem_of_mem_drop hr))
end Go.Proofs.YtjclgoiclbkgjaaDoor

/- What a reflow keeps: the runes, in their order. -/
namespace Go.Proofs.YtjclgoiclbkgjaaDoor
open Go.RowKit

/-- The runes of cells, but blanks and paddings. -/
def runesL (l : List Cel) : List Int := (l.filter fun c => decide (0 < c.width) && !(c.rune == 32)).map (·.rune)
def runesR (l : List Rw) : List Int := l.flatMap fun r => runesL r.cells
theorem runesL_append (a b : List Cel) : runesL (a ++ b) = runesL a ++ runesL b := by simp [runesL]
theorem runesR_append (a b : List Rw) : runesR (a ++ b) = runesR a ++ runesR b := by simp [runesR]
theorem runesR_one (r : Rw) : runesR [r] = runesL r.cells := by simp [runesR]
theorem runesL_blank (s : Sty) : runesL [blankC s] = [] := rfl
theorem runesL_blanks (n : Nat) (s : Sty) : runesL (List.replicate n (blankC s)) = [] := by
  induction n with
  | zero => rfl
  | succ n ih => rw [List.replicate_succ, show blankC s :: List.replicate n (blankC s) = [blankC s] ++ List.replicate n (blankC s) from rfl, runesL_append, ih, runesL_blank]; rfl
theorem spLay_runes (cols : Nat) (mark : Int) (st : Sp) (i : Nat) (c : Cel) : runesR (spLay cols mark st i c).done ++ runesL (spLay cols mark st i c).cur = runesR st.done ++ runesL st.cur ++ runesL [c] := by
  unfold spLay
  have h1 : runesL (if c.width = 2 ∧ st.cur.length = cols - 1 then st.cur ++ [blankC plainS] else st.cur) = runesL st.cur := by
    split
    · rw [runesL_append, runesL_blank, List.append_nil]
    · rfl
  generalize (if c.width = 2 ∧ st.cur.length = cols - 1 then st.cur ++ [blankC plainS] else st.cur) = cur1 at *
  dsimp only
  by_cases hf : cur1.length = cols
  · rw [if_pos hf, if_pos hf, runesR_append, runesR_one, runesL_append, h1]
    show _ ++ runesL st.cur ++ ([] ++ runesL [c]) = _
    rw [List.nil_append]
  · rw [if_neg hf, if_neg hf, runesL_append, h1, List.append_assoc]
theorem spStep_runes {cols : Nat} (h : 2 ≤ cols) (mark : Int) (st : Sp) (i : Nat) (c : Cel) : runesR (spStep cols mark st i c).done ++ runesL (spStep cols mark st i c).cur = runesR st.done ++ runesL st.cur ++ runesL [c] := by
  unfold spStep
  rw [if_neg (fun e => by omega)]
  exact spLay_runes cols mark st i c
theorem spRun_runes {cols : Nat} (h : 2 ≤ cols) (mark : Int) (l : List Cel) : ∀ (st : Sp) (i : Nat), runesR (spRun cols mark st i l).done ++ runesL (spRun cols mark st i l).cur = runesR st.done ++ runesL st.cur ++ runesL l := by
  induction l with
  | nil => intro st i; show runesR st.done ++ runesL st.cur = _ ++ []; rw [List.append_nil]
  | cons c l ih =>
    intro st i
    show runesR (spRun cols mark (spStep cols mark st i c) (i + 1) l).done ++ runesL (spRun cols mark (spStep cols mark st i c) (i + 1) l).cur = _
    rw [ih, spStep_runes h, show c :: l = [c] ++ l from rfl, runesL_append, ← List.append_assoc]
theorem spEnd_runes {cols : Nat} (h : 2 ≤ cols) (l : List Cel) (mark : Int) : runesR (spEnd cols (splitG l cols mark)) = runesL l := by
  unfold spEnd
  rw [runesR_append, runesR_one]
  show _ ++ runesL ((splitG l cols mark).cur ++ List.replicate _ _) = _
  rw [runesL_append, runesL_blanks, List.append_nil]
  have := spRun_runes h mark l ⟨[], [], none⟩ 0
  exact this
theorem plain_runes {c : Cel} (h : isPlain c = true) : runesL [c] = [] := by
  have h1 : (c.rune == 32) = true := by
    unfold isPlain at h
    exact (Bool.and_eq_true _ _ ▸ h).1
  unfold runesL
  rw [List.filter_cons, h1]
  simp
theorem take_lastC (l : List Cel) (h : l ≠ []) : l = l.take (l.length - 1) ++ [l.getD (l.length - 1) noC] := by
  have hp : 0 < l.length := List.length_pos_iff.2 h
  have := take_succ_getD l noC (l.length - 1) (by omega)
  rw [show l.length - 1 + 1 = l.length by omega, List.take_length] at this
  exact this
theorem trimF_runes (n : Nat) (l : List Cel) (mark : Int) : runesL (trimF n l mark) = runesL l := by
  induction n generalizing l with
  | zero => rfl
  | succ n ih =>
    unfold trimF
    split
    · rename_i hc
      rw [ih]
      have h1 := take_lastC l hc.2.1
      have h2 := congrArg runesL h1
      rw [runesL_append, plain_runes hc.2.2, List.append_nil] at h2
      exact h2.symm
    · rfl
theorem wrapLast_runes (l : List Rw) (is : Bool) : runesR (wrapLast l is) = runesR l := by
  rcases List.eq_nil_or_concat l with h | ⟨d, r, h⟩
  · rw [h]; rfl
  · rw [h, List.concat_eq_append]
    unfold wrapLast
    have e1 : (d ++ [r]).length - 1 = d.length := by simp
    rw [e1, List.set_append_right _ _ (Nat.le_refl _), Nat.sub_self, List.getD_eq_getElem?_getD, List.getElem?_append_right (Nat.le_refl _), Nat.sub_self, runesR_append, runesR_append]
    rfl
theorem flEnd_runes {cols : Nat} (h : 2 ≤ cols) (line : List Cel) (mark : Int) (wrap : Bool) (st : Fl) : runesR (flEnd cols line mark wrap st).out = runesR st.out ++ runesL line := by
  show runesR (st.out ++ wrapLast (spEnd cols (splitG (trimM line mark) cols mark)) wrap) = _
  rw [runesR_append, wrapLast_runes, spEnd_runes h]
  unfold trimM
  rw [trimF_runes]
theorem flRun_runes {cols : Nat} (h : 2 ≤ cols) (place atx : Int) (l : List Rw) : ∀ (i : Nat) (line : List Cel) (mark : Int) (st : Fl), (l ≠ [] ∨ line = []) → runesR (flRun cols place atx l i line mark st).out = runesR st.out ++ runesL line ++ runesR l := by
  induction l with
  | nil =>
    intro i line mark st hl
    have : line = [] := by
      rcases hl with h | h
      · exact absurd rfl h
      · exact h
    subst this
    show runesR st.out = _ ++ [] ++ []
    rw [List.append_nil, List.append_nil]
  | cons r l ih =>
    intro i line mark st _
    have hr : runesR (r :: l) = runesL r.cells ++ runesR l := rfl
    show runesR (if _ then _ else _ : Fl).out = _
    by_cases hc : r.wrap = false ∨ l = []
    · simp only [if_pos hc]
      rw [ih (i + 1) [] (-1) _ (.inr rfl), flEnd_runes h, runesL_append, hr]
      show _ ++ (_ ++ _) ++ [] ++ _ = _
      simp only [List.append_assoc, List.nil_append]
    · simp only [if_neg hc]
      rw [ih (i + 1) _ _ st (.inl (fun e => hc (.inr e))), runesL_append, hr]
      simp only [List.append_assoc]
end Go.Proofs.YtjclgoiclbkgjaaDoor

/- The law GridFlows, plain: a reflow keeps all runes, and tells where the last place's cell lies. -/
namespace Go.Proofs.YtjclgoiclbkgjaaDoor
open Go.RowKit

theorem spRun_snocI (cols : Nat) (mark : Int) (l : List Cel) (c : Cel) : ∀ (st : Sp) (i : Nat), spRun cols mark st i (l ++ [c]) = spStep cols mark (spRun cols mark st i l) (i + l.length) c := by
  induction l with
  | nil => intro st i; rfl
  | cons d l ih =>
    intro st i
    show spRun cols mark (spStep cols mark st i d) (i + 1) (l ++ [c]) = spStep cols mark (spRun cols mark (spStep cols mark st i d) (i + 1) l) _ c
    rw [ih, List.length_cons, show i + 1 + l.length = i + (l.length + 1) by omega]
theorem split_last {cols : Nat} (h : 2 ≤ cols) (l : List Cel) (c : Cel) : ∃ d u, splitG (l ++ [c]) cols (l.length : Int) = ⟨d, u ++ [c], some ((u.length : Int), (d.length : Int))⟩ := by
  unfold splitG
  rw [spRun_snocI, Nat.zero_add]
  unfold spStep
  rw [if_neg (fun e => by omega)]
  unfold spLay
  dsimp only
  rw [if_pos rfl]
  exact ⟨_, _, rfl⟩
theorem wrapLast_snocI (d : List Rw) (r : Rw) (is : Bool) : wrapLast (d ++ [r]) is = d ++ [{ r with wrap := is }] := by
  unfold wrapLast
  have e1 : (d ++ [r]).length - 1 = d.length := by simp
  rw [e1, List.set_append_right _ _ (Nat.le_refl _), Nat.sub_self, List.getD_eq_getElem?_getD, List.getElem?_append_right (Nat.le_refl _), Nat.sub_self]
  rfl
theorem trimM_all (l : List Cel) (c : Cel) : trimM (l ++ [c]) (l.length : Int) = l ++ [c] := by
  rw [trimM_step, if_neg (fun e => by
    have := e.1
    rw [List.length_append] at this
    simp at this)]
theorem flEnd_last {cols : Nat} (h : 2 ≤ cols) (l : List Cel) (c : Cel) (wrap : Bool) (st : Fl) :
    ∃ pre u b, flEnd cols (l ++ [c]) (l.length : Int) wrap st = ⟨pre ++ [⟨u ++ c :: b, wrap⟩], (u.length : Int), (pre.length : Int)⟩ := by
  obtain ⟨d, u, e⟩ := split_last h l c
  refine ⟨st.out ++ d, u, List.replicate (cols - (u ++ [c]).length) (blankC plainS), ?_⟩
  unfold flEnd
  rw [trimM_all, e]
  dsimp only
  unfold spEnd
  dsimp only
  rw [wrapLast_snocI, List.length_append, ← List.append_assoc]
  congr 1
  · simp
  · rw [List.length_append]; omega
theorem flRun_last {cols : Nat} (h : 2 ≤ cols) (pre : List Rw) (r : Rw) (m : List Cel) (c : Cel) (hr : r.cells = m ++ [c]) : ∀ (i : Nat) (line : List Cel) (mark : Int) (st : Fl),
    ∃ pre' u b wr, flRun cols ((i + pre.length : Nat) : Int) (m.length : Int) (pre ++ [r]) i line mark st = ⟨pre' ++ [⟨u ++ c :: b, wr⟩], (u.length : Int), (pre'.length : Int)⟩ := by
  induction pre with
  | nil =>
    intro i line mark st
    have e0 : flRun cols ((i + ([] : List Rw).length : Nat) : Int) (m.length : Int) ([] ++ [r]) i line mark st = flEnd cols (line ++ r.cells) (if (i : Int) = ((i + ([] : List Rw).length : Nat) : Int) then (line.length : Int) + (m.length : Int) else mark) r.wrap st := by
      show flRun cols ((i + ([] : List Rw).length : Nat) : Int) (m.length : Int) (r :: []) i line mark st = _
      unfold flRun
      dsimp only
      rw [if_pos (.inr rfl)]
      rfl
    rw [e0, if_pos (by simp), hr, ← List.append_assoc, show (line.length : Int) + (m.length : Int) = ((line ++ m).length : Int) by simp]
    obtain ⟨p, u, b, e⟩ := flEnd_last h (line ++ m) c r.wrap st
    exact ⟨p, u, b, _, e⟩
  | cons x pre ih =>
    intro i line mark st
    have hne : ¬ ((i : Int) = ((i + (x :: pre).length : Nat) : Int)) := by rw [List.length_cons]; omega
    have hi : i + (x :: pre).length = i + 1 + pre.length := by rw [List.length_cons]; omega
    rw [hi]
    have e0 : ∀ pl : Int, flRun cols pl (m.length : Int) (x :: pre ++ [r]) i line mark st =
        if x.wrap = false ∨ pre ++ [r] = [] then flRun cols pl (m.length : Int) (pre ++ [r]) (i + 1) [] (-1) (flEnd cols (line ++ x.cells) (if (i : Int) = pl then (line.length : Int) + (m.length : Int) else mark) x.wrap st)
        else flRun cols pl (m.length : Int) (pre ++ [r]) (i + 1) (line ++ x.cells) (if (i : Int) = pl then (line.length : Int) + (m.length : Int) else mark) st := fun pl => rfl
    rw [e0]
    split
    · exact ih (i + 1) _ _ _
    · exact ih (i + 1) _ _ _
/-- How many rows a reflow makes. -/
def sizeR (l : List Rw) : Nat := (l.map fun r => r.cells.length + 1).sum
theorem flRun_len {cols m : Nat} {place atx : Int} (h1 : 1 ≤ cols) (l : List Rw) (hl : ∀ r ∈ l, r.Good m) : ∀ (i : Nat) (line : List Cel) (mark : Int) (st : Fl), FlI cols st → (∀ c ∈ line, c.Ok) →
    (flRun cols place atx l i line mark st).out.length ≤ st.out.length + line.length + sizeR l := by
  induction l with
  | nil =>
    intro i line mark st _ _
    show st.out.length ≤ _
    omega
  | cons r l ih =>
    intro i line mark st h ho
    have hr := hl r (List.mem_cons_self ..)
    have ho2 : ∀ c ∈ line ++ r.cells, c.Ok := fun c hc => by
      rcases List.mem_append.1 hc with hc | hc
      · exact ho c hc
      · exact hr.2 c hc
    have ih2 := ih (fun x hx => hl x (List.mem_cons_of_mem _ hx))
    have hs : sizeR (r :: l) = r.cells.length + 1 + sizeR l := by unfold sizeR; simp
    rw [hs]
    show (if _ then _ else _ : Fl).out.length ≤ _
    split
    · obtain ⟨a, b, _, _⟩ := flEnd_i h (line ++ r.cells) (if (i : Int) = place then (line.length : Int) + atx else mark) r.wrap ho2 h1
      have := ih2 (i + 1) [] (-1) _ a (by simp)
      rw [List.length_append] at b
      rw [List.length_nil] at this
      omega
    · have := ih2 (i + 1) (line ++ r.cells) (if (i : Int) = place then (line.length : Int) + atx else mark) st h ho2
      rw [List.length_append] at this
      omega
theorem sizeR_le (m : Nat) (l : List Rw) (hl : ∀ r ∈ l, r.Good m) : sizeR l = l.length * (m + 1) := by
  induction l with
  | nil => simp [sizeR]
  | cons r l ih =>
    have hs : sizeR (r :: l) = r.cells.length + 1 + sizeR l := by unfold sizeR; simp
    rw [hs, ih (fun x hx => hl x (List.mem_cons_of_mem _ hx)), (hl r (List.mem_cons_self ..)).1, List.length_cons, Nat.add_mul]
    omega
theorem freshL_runes (n cols : Nat) (s : Sty) : runesR (freshL n cols s) = [] := by
  unfold freshL
  induction n with
  | zero => rfl
  | succ n ih =>
    rw [List.replicate_succ]
    show runesL (List.replicate cols (blankC s)) ++ runesR (List.replicate n _) = []
    rw [ih, runesL_blanks]; rfl
theorem trimR_none (l : List Rw) : ∀ n, trimR n l ((l.length : Int) - 1) = l
  | 0 => rfl
  | n + 1 => by
    unfold trimR
    rw [if_neg (fun e => by have := e.1; omega)]
theorem snoc_of {α : Type} (l : List α) (h : l ≠ []) : ∃ p x, l = p ++ [x] := by
  rcases List.eq_nil_or_concat l with e | ⟨p, x, e⟩
  · exact absurd e h
  · exact ⟨p, x, by rw [e, List.concat_eq_append]⟩
/-- All of the law's plain half. -/
theorem flow_all (g : Gr) (hw : g.WF) (c n : Nat) (hc : g.cols = c) (hn : g.rows.length = n) (hl : g.limit = 2000) (ho : g.old.length ≤ 20) (hc2 : c ≤ 20) (hn2 : n ≤ 12) (cols rows : Nat) (h2 : 2 ≤ cols) (h3 : cols ≤ 250) (h4 : 1 ≤ rows) :
    ∃ (g2 : Gr) (px py : Nat), g.resize cols rows ((c : Int) - 1) ((n : Int) - 1) true = (g2, (px : Int), (py : Int)) ∧ runesR (g2.old ++ g2.rows) = runesR (g.old ++ g.rows) ∧ g2.cell px py = g.cell ((c : Int) - 1) ((n : Int) - 1) ∧ px < cols ∧ py < rows ∧ g2.cols = cols ∧ g2.rows.length = rows := by
  have hgood : ∀ r ∈ g.old ++ g.rows, r.Good c := fun r hr => by
    have := hw.ce r (List.mem_append.2 (List.mem_append.1 hr).symm)
    rw [hc] at this
    exact this
  have hn1 : 1 ≤ n := by have := hw.r1; omega
  have hc1 : 1 ≤ c := by have := hw.c1; omega
  obtain ⟨rp, r, er⟩ := snoc_of g.rows (fun e => by rw [e] at hn; simp at hn; omega)
  have hrm : r ∈ g.old ++ g.rows := by rw [er]; simp
  obtain ⟨m, cl, em⟩ := snoc_of r.cells (fun e => by have := (hgood r hrm).1; rw [e] at this; simp at this; omega)
  have hml : m.length + 1 = c := by have := (hgood r hrm).1; rw [em] at this; simpa using this
  have hrl : rp.length + 1 = n := by rw [← hn, er]; simp
  have hcell : g.cell ((c : Int) - 1) ((n : Int) - 1) = cl := by
    have e1 : g.row ((n : Int) - 1) = r := by
      unfold Gr.row
      rw [if_pos (by omega), show ((n : Int) - 1).toNat = rp.length by omega, er, List.getD_eq_getElem?_getD, List.getElem?_append_right (Nat.le_refl _), Nat.sub_self]; rfl
    unfold Gr.cell
    rw [e1, em, if_pos (by simp; omega), show ((c : Int) - 1).toNat = m.length by omega, List.getD_eq_getElem?_getD, List.getElem?_append_right (Nat.le_refl _), Nat.sub_self]; rfl
  have hin1 : into ((c : Int) - 1) ((g.cols : Int) - 1) = (m.length : Int) := by unfold into; rw [hc]; omega
  have hin2 : into ((n : Int) - 1) ((g.rows.length : Int) - 1) = (rp.length : Int) := by unfold into; rw [hn]; omega
  have hfi : FlI cols (⟨[], 0, 0⟩ : Fl) := ⟨by simp, by simp, by simp⟩
  have hrun := flRun_last h2 (g.old ++ rp) r m cl em 0 [] (-1) ⟨[], 0, 0⟩
  rw [Nat.zero_add, List.append_assoc, ← er] at hrun
  have hplace : (((g.old ++ rp).length : Nat) : Int) = (g.old.length : Int) + (rp.length : Int) := by simp
  rw [hplace] at hrun
  have hruns := flRun_runes h2 ((g.old.length : Int) + (rp.length : Int)) (m.length : Int) (g.old ++ g.rows) 0 [] (-1) ⟨[], 0, 0⟩ (.inr rfl)
  have hlen := flRun_len (cols := cols) (place := (g.old.length : Int) + (rp.length : Int)) (atx := (m.length : Int)) (by omega) (g.old ++ g.rows) hgood 0 [] (-1) ⟨[], 0, 0⟩ hfi (by simp)
  have hinv := (flRun_i (cols := cols) (place := (g.old.length : Int) + (rp.length : Int)) (atx := (m.length : Int)) (by omega) c (g.old ++ g.rows) hgood 0 [] (-1) ⟨[], 0, 0⟩ hfi (by simp)).1
  rw [sizeR_le c _ hgood] at hlen
  obtain ⟨pre, u, b, wr, hrun⟩ := hrun
  rw [hrun] at hruns hlen hinv
  dsimp only at hruns hlen hinv
  have hout : (pre ++ [(⟨u ++ cl :: b, wr⟩ : Rw)]).length = pre.length + 1 := by simp
  have hpl : pre.length + 1 ≤ 2000 := by
    rw [hout] at hlen
    simp only [List.length_nil, List.length_append, hn] at hlen
    have h6 : (g.old.length + n) * (c + 1) ≤ 32 * 21 := Nat.mul_le_mul (by omega) (by omega)
    omega
  have hlast := hinv.good ⟨u ++ cl :: b, wr⟩ (by simp)
  have hu : u.length < cols := by
    have := hlast.1
    simp only [List.length_append, List.length_cons] at this
    omega
  obtain ⟨fs, hfs⟩ : ∃ fs : Nat, fs = pre.length + 1 - rows := ⟨_, rfl⟩
  have hfirst : (min (max 0 (((pre ++ [(⟨u ++ cl :: b, wr⟩ : Rw)]).length : Int) - rows)) (pre.length : Int)).toNat = fs := by rw [hout]; omega
  have htr : trimR (pre ++ [(⟨u ++ cl :: b, wr⟩ : Rw)]).length (pre ++ [(⟨u ++ cl :: b, wr⟩ : Rw)]) (pre.length : Int) = pre ++ [(⟨u ++ cl :: b, wr⟩ : Rw)] := by
    have := trimR_none (pre ++ [(⟨u ++ cl :: b, wr⟩ : Rw)]) (pre ++ [(⟨u ++ cl :: b, wr⟩ : Rw)]).length
    rw [show ((pre ++ [(⟨u ++ cl :: b, wr⟩ : Rw)]).length : Int) - 1 = (pre.length : Int) by rw [hout]; omega] at this
    exact this
  have hflow : g.resize cols rows ((c : Int) - 1) ((n : Int) - 1) true = (⟨cols, g.limit, ((pre ++ [(⟨u ++ cl :: b, wr⟩ : Rw)]).drop fs).take rows ++ freshL (rows - (((pre ++ [(⟨u ++ cl :: b, wr⟩ : Rw)]).drop fs).take rows).length) cols plainS, keepL g.limit ((pre ++ [(⟨u ++ cl :: b, wr⟩ : Rw)]).take fs)⟩, (u.length : Int), (pre.length : Int) - (fs : Int)) := by
    unfold Gr.resize
    rw [if_pos rfl, hin1, hin2]
    unfold Gr.flow
    rw [hrun]
    dsimp only
    rw [htr, hfirst]
  have hdl : ((pre ++ [(⟨u ++ cl :: b, wr⟩ : Rw)]).drop fs).length ≤ rows := by rw [List.length_drop, hout]; omega
  rw [List.take_of_length_le hdl] at hflow
  have hkeep : keepL g.limit ((pre ++ [(⟨u ++ cl :: b, wr⟩ : Rw)]).take fs) = (pre ++ [(⟨u ++ cl :: b, wr⟩ : Rw)]).take fs := by
    unfold keepL
    rw [List.length_take, hl, show min fs (pre ++ [(⟨u ++ cl :: b, wr⟩ : Rw)]).length - 2000 = 0 by rw [hout]; omega, List.drop_zero]
  rw [hkeep] at hflow
  have hfp : fs ≤ pre.length := by omega
  refine ⟨_, u.length, pre.length - fs, by rw [hflow, show ((pre.length - fs : Nat) : Int) = (pre.length : Int) - (fs : Int) by omega], ?_, ?_, hu, by omega, rfl, ?_⟩
  · show runesR ((pre ++ [(⟨u ++ cl :: b, wr⟩ : Rw)]).take fs ++ ((pre ++ [(⟨u ++ cl :: b, wr⟩ : Rw)]).drop fs ++ freshL _ cols plainS)) = _
    rw [← List.append_assoc, List.take_append_drop, runesR_append, freshL_runes, List.append_nil, hruns]
    show [] ++ [] ++ _ = _
    simp
  · rw [hcell]
    have hdrop : (pre ++ [(⟨u ++ cl :: b, wr⟩ : Rw)]).drop fs = pre.drop fs ++ [(⟨u ++ cl :: b, wr⟩ : Rw)] := by rw [List.drop_append_of_le_length hfp]
    rw [hdrop] at *
    have hdl2 : (pre.drop fs).length = pre.length - fs := List.length_drop
    generalize hq : freshL (rows - (pre.drop fs ++ [(⟨u ++ cl :: b, wr⟩ : Rw)]).length) cols plainS = fr
    have e1 : Gr.row (⟨cols, g.limit, pre.drop fs ++ [(⟨u ++ cl :: b, wr⟩ : Rw)] ++ fr, (pre ++ [(⟨u ++ cl :: b, wr⟩ : Rw)]).take fs⟩ : Gr) ((pre.length - fs : Nat) : Int) = ⟨u ++ cl :: b, wr⟩ := by
      unfold Gr.row
      dsimp only
      rw [if_pos (by rw [List.length_append, List.length_append, hdl2, List.length_singleton]; omega), Int.toNat_natCast, List.append_assoc, List.getD_eq_getElem?_getD, List.getElem?_append_right (by rw [hdl2]; exact Nat.le_refl _), hdl2, Nat.sub_self]; rfl
    unfold Gr.cell
    rw [e1]
    dsimp only
    rw [if_pos (by simp; omega), Int.toNat_natCast, List.getD_eq_getElem?_getD, List.getElem?_append_right (Nat.le_refl _), Nat.sub_self]; rfl
  · show ((pre ++ [(⟨u ++ cl :: b, wr⟩ : Rw)]).drop fs ++ freshL _ cols plainS).length = rows
    unfold freshL
    rw [List.length_append, List.length_replicate]; omega
/-- A row by its number among all. -/
theorem row_all (g : Gr) (k : Nat) (hk : k < g.old.length + g.rows.length) : g.row ((k : Int) - (g.old.length : Int)) = (g.old ++ g.rows).getD k noR := by
  unfold Gr.row
  by_cases h : k < g.old.length
  · rw [if_neg (by omega), if_pos (by omega), List.getD_eq_getElem?_getD (l := g.old ++ g.rows), List.getElem?_append_left h, show ((g.old.length : Int) + ((k : Int) - (g.old.length : Int))).toNat = k by omega, List.getD_eq_getElem?_getD]
  · rw [if_pos (by omega), List.getD_eq_getElem?_getD (l := g.old ++ g.rows), List.getElem?_append_right (by omega), show ((k : Int) - (g.old.length : Int)).toNat = k - g.old.length by omega, List.getD_eq_getElem?_getD]
end Go.Proofs.YtjclgoiclbkgjaaDoor

/- The law GridBack, plain: rows that are not wrapped, laid anew in a wider and higher grid, and back. -/
namespace Go.Proofs.YtjclgoiclbkgjaaDoor
open Go.RowKit

theorem isPlain_eq {c : Cel} (h : isPlain c = true) : c = blankC plainS := by
  obtain ⟨r, w, ⟨f, b, a⟩⟩ := c
  unfold isPlain at h
  simp only [Bool.and_eq_true, beq_iff_eq] at h
  obtain ⟨rfl, rfl, rfl, rfl, rfl⟩ := h
  rfl
theorem isPlain_blank : isPlain (blankC plainS) = true := rfl
theorem trimF_pad (n : Nat) (l : List Cel) (mark : Int) : ∃ k, trimF n l mark ++ List.replicate k (blankC plainS) = l := by
  induction n generalizing l with
  | zero => exact ⟨0, by simp [trimF]⟩
  | succ n ih =>
    unfold trimF
    split
    · rename_i hc
      obtain ⟨k, e⟩ := ih (l.take (l.length - 1))
      refine ⟨k + 1, ?_⟩
      rw [List.replicate_succ', ← List.append_assoc, e]
      have h1 := take_lastC l hc.2.1
      rw [isPlain_eq hc.2.2] at h1
      exact h1.symm
    · exact ⟨0, by simp⟩
theorem trimM_pad (l : List Cel) (mark : Int) : ∃ k, trimM l mark ++ List.replicate k (blankC plainS) = l := trimF_pad _ _ _
theorem trimM_more (l : List Cel) (mark : Int) (h : mark < (l.length : Int)) : ∀ k, trimM (l ++ List.replicate k (blankC plainS)) mark = trimM l mark
  | 0 => by simp
  | k + 1 => by
    rw [List.replicate_succ', ← List.append_assoc]
    have e1 : (l ++ List.replicate k (blankC plainS) ++ [blankC plainS]).length - 1 = (l ++ List.replicate k (blankC plainS)).length := by simp
    rw [trimM_step, if_pos ⟨by simp; omega, by simp, by
      rw [e1, List.getD_eq_getElem?_getD, List.getElem?_append_right (Nat.le_refl _), Nat.sub_self]; rfl⟩, e1, List.take_left]
    exact trimM_more l mark h k
theorem trimM_idem (l : List Cel) : trimM (trimM l (-1)) (-1) = trimM l (-1) := by
  obtain ⟨k, e⟩ := trimM_pad l (-1)
  have := trimM_more (trimM l (-1)) (-1) (by omega) k
  rw [e] at this
  exact this.symm
theorem trimM_keep (l : List Cel) (mark : Int) (h : (l.length : Int) - 1 ≤ mark) : trimM l mark = l := by
  rw [trimM_step, if_neg (fun e => by omega)]
/-- Cells that one row of so many columns takes, one behind the other. -/
def Lays (cols : Nat) (l : List Cel) : Prop := l.length ≤ cols ∧ ∀ j, j < l.length → ((l.getD j noC).width = 2 → j + 1 ≠ cols) ∧ (cols = 1 → (l.getD j noC).width = 1)
theorem lays_take {cols : Nat} {l m : List Cel} (h : Lays cols (l ++ m)) : Lays cols l := by
  refine ⟨by have := h.1; rw [List.length_append] at this; omega, fun j hj => ?_⟩
  have := h.2 j (by rw [List.length_append]; omega)
  rw [List.getD_eq_getElem?_getD, List.getElem?_append_left hj, ← List.getD_eq_getElem?_getD] at this
  exact this
theorem split_short {cols : Nat} (mark : Int) (l : List Cel) : Lays cols l → splitG l cols mark = ⟨[], l, if 0 ≤ mark ∧ mark < (l.length : Int) then some (mark, 0) else none⟩ := by
  induction hn : l.length generalizing l with
  | zero =>
    intro _
    have := List.eq_nil_of_length_eq_zero hn
    subst this
    rw [if_neg (by omega)]
    rfl
  | succ n ih =>
    intro h
    obtain ⟨p, c, rfl⟩ := snoc_of l (fun e => by rw [e] at hn; simp at hn)
    have hp : p.length = n := by simpa using hn
    have ih := ih p hp (lays_take h)
    have hc := h.2 p.length (by simp)
    rw [List.getD_eq_getElem?_getD, List.getElem?_append_right (Nat.le_refl _), Nat.sub_self] at hc
    have hc : (c.width = 2 → p.length + 1 ≠ cols) ∧ (cols = 1 → c.width = 1) := hc
    have hlen := h.1
    rw [List.length_append, List.length_singleton] at hlen
    unfold splitG at ih ⊢
    rw [spRun_snocI, Nat.zero_add, ih]
    unfold spStep
    rw [if_neg (fun e => e.2 (hc.2 e.1))]
    unfold spLay
    dsimp only
    have hc1 : ¬ (c.width = 2 ∧ p.length = cols - 1) := fun e => hc.1 e.1 (by omega)
    have hc2 : ¬ p.length = cols := by omega
    rw [if_neg hc1, if_neg hc2, if_neg hc2]
    congr 1
    simp only [List.length_nil]
    by_cases h1 : (p.length : Int) = mark
    · rw [if_pos h1, if_pos (by omega), ← h1]; rfl
    · rw [if_neg h1]
      by_cases h2 : 0 ≤ mark ∧ mark < (n : Int)
      · rw [if_pos h2, if_pos (by omega)]
      · rw [if_neg h2, if_neg (by omega)]
/-- A row laid anew in so many columns. -/
def nrow (cols : Nat) (mark : Int) (r : Rw) : Rw := ⟨trimM r.cells mark ++ List.replicate (cols - (trimM r.cells mark).length) (blankC plainS), false⟩
theorem flEnd_flat {cols : Nat} (r : Rw) (mark : Int) (st : Fl) (h : Lays cols (trimM r.cells mark)) : flEnd cols r.cells mark false st =
    if 0 ≤ mark ∧ mark < ((trimM r.cells mark).length : Int) then ⟨st.out ++ [nrow cols mark r], mark, (st.out.length : Int)⟩ else ⟨st.out ++ [nrow cols mark r], st.px, st.py⟩ := by
  unfold flEnd
  rw [split_short mark _ h]
  dsimp only
  unfold spEnd
  dsimp only
  rw [List.nil_append]
  have e : wrapLast [(⟨trimM r.cells mark ++ List.replicate (cols - (trimM r.cells mark).length) (blankC plainS), false⟩ : Rw)] false = [nrow cols mark r] := by
    have := wrapLast_snocI [] (⟨trimM r.cells mark ++ List.replicate (cols - (trimM r.cells mark).length) (blankC plainS), false⟩ : Rw) false
    exact this
  rw [e]
  by_cases hm : 0 ≤ mark ∧ mark < ((trimM r.cells mark).length : Int)
  · rw [if_pos hm, if_pos hm]
    simp
  · rw [if_neg hm, if_neg hm]
theorem flRun_none {cols : Nat} {place atx : Int} (L : List Rw) (hw : ∀ r ∈ L, r.wrap = false ∧ Lays cols (trimM r.cells (-1))) : ∀ (M : List Rw) (i : Nat) (st : Fl), (∀ k, k < L.length → ((i + k : Nat) : Int) ≠ place) →
    flRun cols place atx (L ++ M) i [] (-1) st = flRun cols place atx M (i + L.length) [] (-1) ⟨st.out ++ L.map (nrow cols (-1)), st.px, st.py⟩ := by
  induction L with
  | nil => intro M i st _; simp
  | cons r L ih =>
    intro M i st hp
    have hr := hw r (List.mem_cons_self ..)
    have h0 := hp 0 (by simp)
    rw [Nat.add_zero] at h0
    have e : flRun cols place atx (r :: L ++ M) i [] (-1) st = flRun cols place atx (L ++ M) (i + 1) [] (-1) (flEnd cols r.cells (-1) false st) := by
      show (if _ then _ else _ : Fl) = _
      rw [if_pos (.inl hr.1), if_neg h0, hr.1, List.nil_append]
      rfl
    rw [e, flEnd_flat r (-1) st hr.2, if_neg (by omega), ih (fun x hx => hw x (List.mem_cons_of_mem _ hx)) M (i + 1) _ (fun k hk => by
      have := hp (k + 1) (by simp; omega)
      rw [show i + 1 + k = i + (k + 1) by omega]; exact this)]
    simp [Nat.add_comm, Nat.add_left_comm]
theorem flRun_at {cols : Nat} {atx : Int} (pre : List Rw) (r : Rw) (post : List Rw) (h1 : ∀ x ∈ pre, x.wrap = false ∧ Lays cols (trimM x.cells (-1))) (h2 : r.wrap = false ∧ Lays cols (trimM r.cells atx)) (h3 : ∀ x ∈ post, x.wrap = false ∧ Lays cols (trimM x.cells (-1)))
    (ha : 0 ≤ atx ∧ atx < ((trimM r.cells atx).length : Int)) :
    flRun cols (pre.length : Int) atx (pre ++ r :: post) 0 [] (-1) ⟨[], 0, 0⟩ = ⟨pre.map (nrow cols (-1)) ++ nrow cols atx r :: post.map (nrow cols (-1)), atx, (pre.length : Int)⟩ := by
  rw [flRun_none pre h1 _ 0 _ (fun k hk => by omega), Nat.zero_add]
  have e : flRun cols (pre.length : Int) atx (r :: post) pre.length [] (-1) ⟨[] ++ pre.map (nrow cols (-1)), 0, 0⟩ = flRun cols (pre.length : Int) atx post (pre.length + 1) [] (-1) (flEnd cols r.cells atx false ⟨[] ++ pre.map (nrow cols (-1)), 0, 0⟩) := by
    show (if _ then _ else _ : Fl) = _
    rw [if_pos (.inl h2.1), if_pos rfl, h2.1, List.nil_append]
    simp
  rw [e, flEnd_flat r atx _ h2.2, if_pos ha]
  have := flRun_none (cols := cols) (place := (pre.length : Int)) (atx := atx) post h3 [] (pre.length + 1) ⟨[] ++ pre.map (nrow cols (-1)) ++ [nrow cols atx r], atx, (([] ++ pre.map (nrow cols (-1)) : List Rw).length : Int)⟩ (fun k hk => by omega)
  rw [List.append_nil] at this
  rw [this]
  show (⟨_, _, _⟩ : Fl) = _
  simp
/-- A row that lies in c columns, and is not wrapped. -/
def Fit (c : Nat) (r : Rw) : Prop := r.wrap = false ∧ r.cells.length = c ∧ (r.cells.getD (c - 1) noC).width ≠ 2 ∧ (c = 1 → (r.cells.getD (c - 1) noC).width = 1)
theorem Fit.lays {c cols : Nat} {r : Rw} (h : Fit c r) (hc : c ≤ cols) (h1 : 1 ≤ c) (mark : Int) : Lays cols (trimM r.cells mark) := by
  obtain ⟨k, e⟩ := trimM_pad r.cells mark
  refine lays_take (m := List.replicate k (blankC plainS)) ?_
  rw [e]
  obtain ⟨_, h2, h3, h4⟩ := h
  refine ⟨by omega, fun j hj => ⟨fun e2 e3 => ?_, fun e2 => ?_⟩⟩
  · have : j = c - 1 := by omega
    subst this
    exact h3 e2
  · have h5 : j = c - 1 := by omega
    rw [h5]
    exact h4 (by omega)
theorem nrow_back {c cols : Nat} {r : Rw} (h : Fit c r) (_hc : c ≤ cols) : (nrow cols (-1) r).wrap = false ∧ trimM (nrow cols (-1) r).cells (-1) = trimM r.cells (-1) ∧ nrow c (-1) (nrow cols (-1) r) = r := by
  have e1 : trimM (nrow cols (-1) r).cells (-1) = trimM r.cells (-1) := by
    show trimM (trimM r.cells (-1) ++ List.replicate _ _) (-1) = _
    rw [trimM_more _ _ (by omega), trimM_idem]
  refine ⟨rfl, e1, ?_⟩
  unfold nrow at e1 ⊢
  rw [e1]
  obtain ⟨k, e⟩ := trimM_pad r.cells (-1)
  have hk : c - (trimM r.cells (-1)).length = k := by
    have := congrArg List.length e
    rw [List.length_append, List.length_replicate, h.2.1] at this
    omega
  rw [hk, e, ← h.1]
theorem nrow_back_at {c cols : Nat} {r : Rw} (h : Fit c r) (_hc : c ≤ cols) (_h1 : 1 ≤ c) : trimM r.cells ((c : Int) - 1) = r.cells ∧ trimM (nrow cols ((c : Int) - 1) r).cells ((c : Int) - 1) = r.cells ∧ nrow c ((c : Int) - 1) (nrow cols ((c : Int) - 1) r) = r := by
  have e0 : trimM r.cells ((c : Int) - 1) = r.cells := trimM_keep _ _ (by rw [h.2.1]; omega)
  have e1 : trimM (nrow cols ((c : Int) - 1) r).cells ((c : Int) - 1) = r.cells := by
    show trimM (trimM r.cells _ ++ List.replicate _ _) _ = _
    rw [e0, trimM_more _ _ (by rw [h.2.1]; omega), e0]
  refine ⟨e0, e1, ?_⟩
  unfold nrow at e1 ⊢
  rw [e1, h.2.1, Nat.sub_self, List.replicate_zero, List.append_nil, ← h.1]
theorem fresh_lays (c cols n : Nat) (_h1 : 1 ≤ c) : ∀ x ∈ freshL n cols plainS, x.wrap = false ∧ trimM x.cells (-1) = [] ∧ nrow c (-1) x = ⟨List.replicate c (blankC plainS), false⟩ := fun x hx => by
  unfold freshL at hx
  rw [List.eq_of_mem_replicate hx]
  have e : trimM (List.replicate cols (blankC plainS)) (-1) = [] := by
    have := trimM_more [] (-1) (by simp) cols
    rw [List.nil_append] at this
    rw [this]; rfl
  refine ⟨rfl, e, ?_⟩
  unfold nrow
  dsimp only
  rw [e]
  simp
theorem trimR_fresh (c : Nat) (L : List Rw) : ∀ (k n : Nat), k ≤ n → trimR n (L ++ List.replicate k ⟨List.replicate c (blankC plainS), false⟩) ((L.length : Int) - 1) = L
  | 0, n, _ => by
    rw [List.replicate_zero, List.append_nil]
    exact trimR_none L n
  | k + 1, 0, h => by omega
  | k + 1, n + 1, h => by
    rw [List.replicate_succ', ← List.append_assoc]
    have e1 : (L ++ List.replicate k (⟨List.replicate c (blankC plainS), false⟩ : Rw) ++ [(⟨List.replicate c (blankC plainS), false⟩ : Rw)]).length - 1 = (L ++ List.replicate k (⟨List.replicate c (blankC plainS), false⟩ : Rw)).length := by simp
    have e2 : (L ++ List.replicate k (⟨List.replicate c (blankC plainS), false⟩ : Rw) ++ [(⟨List.replicate c (blankC plainS), false⟩ : Rw)]).getD (L ++ List.replicate k (⟨List.replicate c (blankC plainS), false⟩ : Rw)).length noR = ⟨List.replicate c (blankC plainS), false⟩ := by
      rw [List.getD_eq_getElem?_getD, List.getElem?_append_right (Nat.le_refl _), Nat.sub_self]; rfl
    unfold trimR
    rw [e1, e2, if_pos ⟨by simp; omega, rfl, by
      rw [List.all_eq_true]
      intro x hx
      rw [List.eq_of_mem_replicate hx]; rfl⟩, List.take_left]
    exact trimR_fresh c L k n (by omega)
/-- All of the law's plain half. -/
theorem back_all (g : Gr) (hw : g.WF) (c n : Nat) (hc : g.cols = c) (hn : g.rows.length = n) (hf : ∀ r ∈ g.old ++ g.rows, Fit c r) (cols rows : Nat) (h2 : c ≤ cols) (h4 : n ≤ rows) :
    ∃ (g2 : Gr) (py : Nat), g.resize cols rows ((c : Int) - 1) ((n : Int) - 1) true = (g2, (c : Int) - 1, (py : Int)) ∧ g2.resize c n ((c : Int) - 1) (py : Int) true = (g, (c : Int) - 1, (n : Int) - 1) := by
  have hn1 : 1 ≤ n := by have := hw.r1; omega
  have hc1 : 1 ≤ c := by have := hw.c1; omega
  obtain ⟨rp, r, er⟩ := snoc_of g.rows (fun e => by rw [e] at hn; simp at hn; omega)
  have hrl : rp.length + 1 = n := by rw [← hn, er]; simp
  have hin1 : into ((c : Int) - 1) ((g.cols : Int) - 1) = (c : Int) - 1 := by unfold into; rw [hc]; omega
  have hin2 : into ((n : Int) - 1) ((g.rows.length : Int) - 1) = (rp.length : Int) := by unfold into; rw [hn]; omega
  have hfr : Fit c r := hf r (by rw [er]; simp)
  have hfp : ∀ x ∈ g.old ++ rp, Fit c x := fun x hx => hf x (by
    rw [er, ← List.append_assoc]
    exact List.mem_append_left _ hx)
  have hrun := flRun_at (cols := cols) (atx := (c : Int) - 1) (g.old ++ rp) r [] (fun x hx => ⟨(hfp x hx).1, (hfp x hx).lays h2 hc1 _⟩) ⟨hfr.1, hfr.lays h2 hc1 _⟩ (by simp) (by rw [(nrow_back_at hfr h2 hc1).1, hfr.2.1]; omega)
  rw [List.append_assoc, ← er, show (((g.old ++ rp).length : Nat) : Int) = (g.old.length : Int) + (rp.length : Int) by simp, List.map_nil] at hrun
  generalize hA : (g.old ++ rp).map (nrow cols (-1)) ++ [nrow cols ((c : Int) - 1) r] = A at hrun
  have hAl : A.length = g.old.length + n := by rw [← hA]; simp; omega
  have htr : trimR A.length A ((g.old.length : Int) + (rp.length : Int)) = A := by
    have := trimR_none A A.length
    rw [show (A.length : Int) - 1 = (g.old.length : Int) + (rp.length : Int) by omega] at this
    exact this
  obtain ⟨fs, hfs⟩ : ∃ fs : Nat, fs = g.old.length + n - rows := ⟨_, rfl⟩
  have hfirst : (min (max 0 ((A.length : Int) - rows)) ((g.old.length : Int) + (rp.length : Int))).toNat = fs := by omega
  have hdl : (A.drop fs).length ≤ rows := by rw [List.length_drop]; omega
  have hol := hw.ol
  have hkeep : keepL g.limit (A.take fs) = A.take fs := by
    unfold keepL
    rw [List.length_take, show min fs A.length - g.limit = 0 by omega, List.drop_zero]
  have hflow : g.resize cols rows ((c : Int) - 1) ((n : Int) - 1) true = (⟨cols, g.limit, A.drop fs ++ freshL (rows - (A.drop fs).length) cols plainS, A.take fs⟩, (c : Int) - 1, ((g.old.length + n - 1 - fs : Nat) : Int)) := by
    unfold Gr.resize
    rw [if_pos rfl, hin1, hin2]
    unfold Gr.flow
    rw [hrun]
    dsimp only
    rw [htr, hfirst, List.take_of_length_le hdl, hkeep]
    congr 2
    omega
  refine ⟨_, _, hflow, ?_⟩
  generalize hF : freshL (rows - (A.drop fs).length) cols plainS = F
  have hFm : ∀ x ∈ F, x.wrap = false ∧ trimM x.cells (-1) = [] ∧ nrow c (-1) x = ⟨List.replicate c (blankC plainS), false⟩ := by rw [← hF]; exact fresh_lays c cols _ hc1
  have hFl : (A.drop fs ++ F).length = rows := by
    rw [← hF]
    unfold freshL
    rw [List.length_append, List.length_replicate]; omega
  have hin3 : into ((c : Int) - 1) ((cols : Int) - 1) = (c : Int) - 1 := by unfold into; omega
  have hin4 : into ((g.old.length + n - 1 - fs : Nat) : Int) (((A.drop fs ++ F).length : Int) - 1) = ((g.old.length + n - 1 - fs : Nat) : Int) := by rw [hFl]; unfold into; omega
  have hall : A.take fs ++ (A.drop fs ++ F) = (g.old ++ rp).map (nrow cols (-1)) ++ nrow cols ((c : Int) - 1) r :: F := by
    rw [← List.append_assoc, List.take_append_drop, ← hA, List.append_assoc]; rfl
  have hpl : (((g.old ++ rp).map (nrow cols (-1))).length : Int) = ((A.take fs).length : Int) + ((g.old.length + n - 1 - fs : Nat) : Int) := by
    rw [List.length_map, List.length_append, List.length_take]; omega
  have hrun2 := flRun_at (cols := c) (atx := (c : Int) - 1) ((g.old ++ rp).map (nrow cols (-1))) (nrow cols ((c : Int) - 1) r) F
    (fun x hx => by
      obtain ⟨y, hy, rfl⟩ := List.mem_map.1 hx
      have hb := nrow_back (hfp y hy) h2
      exact ⟨hb.1, by rw [hb.2.1]; exact (hfp y hy).lays (Nat.le_refl _) hc1 _⟩)
    ⟨rfl, by
      rw [(nrow_back_at hfr h2 hc1).2.1]
      have := hfr.lays (Nat.le_refl _) hc1 ((c : Int) - 1)
      rw [(nrow_back_at hfr h2 hc1).1] at this
      exact this⟩
    (fun x hx => ⟨(hFm x hx).1, by rw [(hFm x hx).2.1]; exact ⟨Nat.zero_le _, fun j hj => absurd hj (by simp)⟩⟩)
    (by rw [(nrow_back_at hfr h2 hc1).2.1, hfr.2.1]; omega)
  rw [← hall, hpl] at hrun2
  have hm1 : ((g.old ++ rp).map (nrow cols (-1))).map (nrow c (-1)) = g.old ++ rp := by
    rw [List.map_map]
    have : ∀ x ∈ g.old ++ rp, (nrow c (-1) ∘ nrow cols (-1)) x = id x := fun x hx => (nrow_back (hfp x hx) h2).2.2
    rw [List.map_congr_left this, List.map_id]
  have hm2 : F.map (nrow c (-1)) = List.replicate F.length ⟨List.replicate c (blankC plainS), false⟩ := by
    refine List.eq_replicate_iff.2 ⟨List.length_map .., fun x hx => ?_⟩
    obtain ⟨y, hy, rfl⟩ := List.mem_map.1 hx
    exact (hFm y hy).2.2
  rw [hm1, hm2, (nrow_back_at hfr h2 hc1).2.2] at hrun2
  have hB : g.old ++ rp ++ r :: List.replicate F.length (⟨List.replicate c (blankC plainS), false⟩ : Rw) = (g.old ++ g.rows) ++ List.replicate F.length ⟨List.replicate c (blankC plainS), false⟩ := by
    rw [er]; simp
  rw [hB] at hrun2
  have hal : (g.old ++ g.rows).length = g.old.length + n := by rw [List.length_append, hn]
  have htr2 : trimR ((g.old ++ g.rows) ++ List.replicate F.length (⟨List.replicate c (blankC plainS), false⟩ : Rw)).length ((g.old ++ g.rows) ++ List.replicate F.length ⟨List.replicate c (blankC plainS), false⟩) (((A.take fs).length : Int) + ((g.old.length + n - 1 - fs : Nat) : Int)) = g.old ++ g.rows := by
    have := trimR_fresh c (g.old ++ g.rows) F.length ((g.old ++ g.rows) ++ List.replicate F.length (⟨List.replicate c (blankC plainS), false⟩ : Rw)).length (by rw [List.length_append, List.length_replicate]; omega)
    rw [show ((g.old ++ g.rows).length : Int) - 1 = ((A.take fs).length : Int) + ((g.old.length + n - 1 - fs : Nat) : Int) by rw [hal, List.length_take]; omega] at this
    exact this
  have hps : ((A.take fs).length : Int) + ((g.old.length + n - 1 - fs : Nat) : Int) = (g.old.length : Int) + n - 1 := by rw [List.length_take]; omega
  unfold Gr.resize
  rw [if_pos rfl]
  dsimp only
  rw [hin3, hin4]
  unfold Gr.flow
  dsimp only
  rw [hrun2]
  dsimp only
  rw [htr2, hps, hal]
  have hf2 : (min (max 0 (((g.old.length + n : Nat) : Int) - (n : Int))) ((g.old.length : Int) + n - 1)).toNat = g.old.length := by omega
  rw [hf2, List.drop_left, List.take_left, List.take_of_length_le (by omega), hn, Nat.sub_self]
  have hk : keepL g.limit g.old = g.old := by
    unfold keepL
    rw [show g.old.length - g.limit = 0 by omega, List.drop_zero]
  rw [hk, ← hc]
  obtain ⟨gc, gl, gr, go⟩ := g
  simp only [freshL, List.replicate_zero, List.append_nil]
  congr 2
  omega
end Go.Proofs.YtjclgoiclbkgjaaDoor
