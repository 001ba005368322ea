/- Package grid, texts laid together: Q4 F1. -/
import Derived.Test.YtjclgoiclbkgjaaDoorK4
import Derived.Test.YtjclgoiclbkgjaaDoorK9
/- What a reflow computes: plain laws. -/
namespace Go.Proofs.YtjclgoiclbkgjaaDoor
open Go.RowKit

theorem trimM_step (l : List Cel) (mark : Int) : trimM l mark = if mark < (l.length : Int) - 1 ∧ l ≠ [] ∧ isPlain (l.getD (l.length - 1) noC) = true then trimM (l.take (l.length - 1)) mark else l := by
  cases l with
  | nil => rw [if_neg (fun e => e.2.1 rfl)]; rfl
  | cons c l =>
    have e1 : ((c :: l).take ((c :: l).length - 1)).length = l.length := by rw [List.length_take, List.length_cons]; omega
    unfold trimM
    rw [e1]
    rfl
theorem trimF_take (n : Nat) (l : List Cel) (mark : Int) : ∃ k, k ≤ l.length ∧ trimF n l mark = l.take k := by
  induction n generalizing l with
  | zero => exact ⟨l.length, Nat.le_refl _, (List.take_length (l := l)).symm⟩
  | succ n ih =>
    unfold trimF
    split
    · obtain ⟨k, hk, e⟩ := ih (l.take (l.length - 1))
      rw [List.length_take] at hk
      refine ⟨k, by omega, ?_⟩
      rw [e, List.take_take, Nat.min_eq_left (by omega)]
    · exact ⟨l.length, Nat.le_refl _, (List.take_length (l := l)).symm⟩
theorem trimM_len (l : List Cel) (mark : Int) : (trimM l mark).length ≤ l.length := by
  obtain ⟨k, hk, e⟩ := trimF_take l.length l mark
  unfold trimM
  rw [e, List.length_take]; omega
theorem trimM_mem {l : List Cel} {mark : Int} {c : Cel} (h : c ∈ trimM l mark) : c ∈ l := by
  obtain ⟨k, hk, e⟩ := trimF_take l.length l mark
  unfold trimM at h
  rw [e] at h
  exact List.mem_of_mem_take h
theorem trimR_step (l : List Rw) (py : Int) : trimR l.length l py = if py < (l.length : Int) - 1 ∧ l ≠ [] ∧ (l.getD (l.length - 1) noR).wrap = false ∧ (l.getD (l.length - 1) noR).cells.all isPlain = true then trimR (l.take (l.length - 1)).length (l.take (l.length - 1)) py else l := by
  cases l with
  | nil => rw [if_neg (fun e => e.2.1 rfl)]; rfl
  | cons c l =>
    have e1 : ((c :: l).take ((c :: l).length - 1)).length = l.length := by rw [List.length_take, List.length_cons]; omega
    rw [e1]
    have e2 : trimR (c :: l).length (c :: l) py = if py < ((c :: l).length : Int) - 1 ∧ ((c :: l).getD ((c :: l).length - 1) noR).wrap = false ∧ ((c :: l).getD ((c :: l).length - 1) noR).cells.all isPlain = true then trimR l.length ((c :: l).take ((c :: l).length - 1)) py else c :: l := rfl
    rw [e2]
    simp only [ne_eq, reduceCtorEq, not_false_eq_true, true_and]
theorem trimR_take (n : Nat) (l : List Rw) (py : Int) (h0 : 0 ≤ py) (hl : py < l.length) : ∃ k, k ≤ l.length ∧ py < k ∧ trimR n l py = l.take k := by
  induction n generalizing l with
  | zero => exact ⟨l.length, Nat.le_refl _, hl, (List.take_length (l := l)).symm⟩
  | succ n ih =>
    unfold trimR
    split
    · rename_i hc
      have e1 : (l.take (l.length - 1)).length = l.length - 1 := by rw [List.length_take]; omega
      obtain ⟨k, hk, hk2, e⟩ := ih (l.take (l.length - 1)) (by rw [e1]; omega)
      rw [e1] at hk
      refine ⟨k, by omega, hk2, ?_⟩
      rw [e, List.take_take, Nat.min_eq_left (by omega)]
    · exact ⟨l.length, Nat.le_refl _, hl, (List.take_length (l := l)).symm⟩
/-- A row as a grid of so many columns wants it. -/
def Rw.Good (cols : Nat) (r : Rw) : Prop := r.cells.length = cols ∧ ∀ c ∈ r.cells, c.Ok
structure SpI (cols : Nat) (st : Sp) : Prop where
  cur : st.cur.length ≤ cols
  ok : ∀ c ∈ st.cur, c.Ok
  done : ∀ r ∈ st.done, r.Good cols
  told : ∀ q, st.told = some q → 0 ≤ q.2 ∧ q.2 ≤ (st.done.length : Int)
theorem spLay_i {cols : Nat} {mark : Int} {st : Sp} (h : SpI cols st) (i : Nat) (c : Cel) (hc : c.Ok) (h1 : 1 ≤ cols) : SpI cols (spLay cols mark st i c) ∧ (spLay cols mark st i c).done.length ≤ st.done.length + 1 := by
  unfold spLay
  generalize hcur1 : (if c.width = 2 ∧ st.cur.length = cols - 1 then st.cur ++ [blankC plainS] else st.cur) = cur1
  have a1 : cur1.length ≤ cols ∧ ∀ c ∈ cur1, c.Ok := by
    rw [← hcur1]
    split
    · rename_i h2
      refine ⟨by rw [List.length_append]; simp; omega, fun x hx => ?_⟩
      rcases List.mem_append.1 hx with hx | hx
      · exact h.ok x hx
      · rw [List.mem_singleton] at hx; subst hx; exact blank_ok _
    · exact ⟨h.cur, h.ok⟩
  dsimp only
  by_cases hf : cur1.length = cols
  · simp only [if_pos hf]
    refine ⟨⟨by show ([] ++ [c]).length ≤ cols; simpa using h1, fun x hx => ?_, fun r hr => ?_, fun q hq => ?_⟩, by rw [List.length_append]; simp⟩
    · simp only [List.nil_append, List.mem_singleton] at hx; subst hx; exact hc
    · rcases List.mem_append.1 hr with hr | hr
      · exact h.done r hr
      · rw [List.mem_singleton] at hr; subst hr; exact ⟨hf, a1.2⟩
    · dsimp only at hq
      split at hq
      · injection hq with hq; subst hq; dsimp only; omega
      · have := h.told q hq
        rw [List.length_append]; simp; omega
  · simp only [if_neg hf]
    refine ⟨⟨by rw [List.length_append]; simp; omega, fun x hx => ?_, h.done, fun q hq => ?_⟩, by omega⟩
    · rcases List.mem_append.1 hx with hx | hx
      · exact a1.2 x hx
      · rw [List.mem_singleton] at hx; subst hx; exact hc
    · dsimp only at hq
      split at hq
      · injection hq with hq; subst hq; dsimp only; omega
      · exact h.told q hq
theorem spStep_i {cols : Nat} {mark : Int} {st : Sp} (h : SpI cols st) (i : Nat) (c : Cel) (hc : c.Ok) (h1 : 1 ≤ cols) : SpI cols (spStep cols mark st i c) ∧ (spStep cols mark st i c).done.length ≤ st.done.length + 1 := by
  unfold spStep
  split
  · split
    · refine ⟨⟨h.cur, h.ok, h.done, fun q hq => ?_⟩, by dsimp only; omega⟩
      dsimp only at hq
      split at hq
      · injection hq with hq; subst hq; dsimp only; omega
      · exact h.told q hq
    · exact spLay_i h i _ (blank_ok _) h1
  · exact spLay_i h i c hc h1
theorem spRun_i {cols : Nat} {mark : Int} (l : List Cel) (hl : ∀ c ∈ l, c.Ok) (h1 : 1 ≤ cols) : ∀ (st : Sp) (i : Nat), SpI cols st → SpI cols (spRun cols mark st i l) ∧ (spRun cols mark st i l).done.length ≤ st.done.length + l.length := by
  induction l with
  | nil => intro st i h; exact ⟨h, Nat.le_refl _⟩
  | cons c l ih =>
    intro st i h
    obtain ⟨a, b⟩ := spStep_i (mark := mark) h i c (hl c (List.mem_cons_self ..)) h1
    obtain ⟨a2, b2⟩ := ih (fun x hx => hl x (List.mem_cons_of_mem _ hx)) _ (i + 1) a
    refine ⟨a2, ?_⟩
    show (spRun cols mark (spStep cols mark st i c) (i + 1) l).done.length ≤ _
    rw [List.length_cons]; omega
theorem splitG_i (l : List Cel) (cols : Nat) (mark : Int) (hl : ∀ c ∈ l, c.Ok) (h1 : 1 ≤ cols) : SpI cols (splitG l cols mark) ∧ (splitG l cols mark).done.length ≤ l.length := by
  have := spRun_i (mark := mark) l hl h1 ⟨[], [], none⟩ 0 ⟨by simp, by simp, by simp, by simp⟩
  refine ⟨this.1, ?_⟩
  have h2 := this.2
  simp only [List.length_nil, Nat.zero_add] at h2
  exact h2
theorem spEnd_len (cols : Nat) (st : Sp) : (spEnd cols st).length = st.done.length + 1 := by unfold spEnd; simp
theorem spEnd_good {cols : Nat} {st : Sp} (h : SpI cols st) : ∀ r ∈ spEnd cols st, r.Good cols := fun r hr => by
  unfold spEnd at hr
  rcases List.mem_append.1 hr with hr | hr
  · exact h.done r hr
  · rw [List.mem_singleton] at hr
    subst hr
    refine ⟨?_, fun c hc => ?_⟩
    · show (st.cur ++ List.replicate _ _).length = cols
      rw [List.length_append, List.length_replicate]; have := h.cur; omega
    · rcases List.mem_append.1 hc with hc | hc
      · exact h.ok c hc
      · rw [List.eq_of_mem_replicate hc]; exact blank_ok _
theorem wrapLast_len (l : List Rw) (is : Bool) : (wrapLast l is).length = l.length := by unfold wrapLast; rw [List.length_set]
theorem wrapLast_good {cols : Nat} {l : List Rw} (is : Bool) (hne : l ≠ []) (h : ∀ r ∈ l, r.Good cols) : ∀ r ∈ wrapLast l is, r.Good cols := fun r hr => by
  unfold wrapLast at hr
  rcases List.mem_or_eq_of_mem_set hr with hr | hr
  · exact h r hr
  · have hm : l.getD (l.length - 1) noR ∈ l := by
      have : 0 < l.length := List.length_pos_iff.2 hne
      rw [List.getD_eq_getElem?_getD, List.getElem?_eq_getElem (by omega)]
      exact List.getElem_mem _
    have h2 := h _ hm
    rw [hr]
    exact ⟨h2.1, h2.2⟩
structure FlI (cols : Nat) (st : Fl) : Prop where
  good : ∀ r ∈ st.out, r.Good cols
  p0 : 0 ≤ st.py
  p1 : st.py ≤ (st.out.length : Int)
theorem flEnd_i {cols : Nat} {st : Fl} (h : FlI cols st) (line : List Cel) (mark : Int) (wrap : Bool) (hl : ∀ c ∈ line, c.Ok) (h1 : 1 ≤ cols) : FlI cols (flEnd cols line mark wrap st) ∧ (flEnd cols line mark wrap st).out.length ≤ st.out.length + line.length + 1 ∧ st.out.length + 1 ≤ (flEnd cols line mark wrap st).out.length ∧ (flEnd cols line mark wrap st).py < (flEnd cols line mark wrap st).out.length := by
  obtain ⟨a, b⟩ := splitG_i (trimM line mark) cols mark (fun c hc => hl c (trimM_mem hc)) h1
  have hll := trimM_len line mark
  have e : (flEnd cols line mark wrap st).out = st.out ++ wrapLast (spEnd cols (splitG (trimM line mark) cols mark)) wrap := rfl
  have e2 : (flEnd cols line mark wrap st).out.length = st.out.length + (splitG (trimM line mark) cols mark).done.length + 1 := by
    rw [e, List.length_append, wrapLast_len, spEnd_len]; omega
  have e3 : (flEnd cols line mark wrap st).py = match (splitG (trimM line mark) cols mark).told with | some q => (st.out.length : Int) + q.2 | none => st.py := rfl
  have h3 : 0 ≤ (flEnd cols line mark wrap st).py ∧ (flEnd cols line mark wrap st).py < (flEnd cols line mark wrap st).out.length := by
    rw [e2, e3]
    split
    · rename_i q hq
      have := a.told q hq
      show 0 ≤ (st.out.length : Int) + q.2 ∧ (st.out.length : Int) + q.2 < _
      omega
    · have := h.p0; have := h.p1; omega
  refine ⟨⟨fun r hr => ?_, h3.1, by omega⟩, by omega, by omega, h3.2⟩
  rw [e] at hr
  rcases List.mem_append.1 hr with hr | hr
  · exact h.good r hr
  · exact wrapLast_good wrap (by unfold spEnd; simp) (spEnd_good a) r hr
theorem flRun_i {cols : Nat} {place atx : Int} (h1 : 1 ≤ cols) (m : Nat) (l : List Rw) (hl : ∀ r ∈ l, r.Good m) : ∀ (i : Nat) (line : List Cel) (mark : Int) (st : Fl), FlI cols st → (∀ c ∈ line, c.Ok) →
    FlI cols (flRun cols place atx l i line mark st) ∧ (l ≠ [] → (flRun cols place atx l i line mark st).py < (flRun cols place atx l i line mark st).out.length) := by
  induction l with
  | nil => intro i line mark st h _; exact ⟨h, fun e => absurd rfl e⟩
  | cons r l ih =>
    intro i line mark st h ho
    have hr := hl r (List.mem_cons_self ..)
    have ho2 : ∀ c ∈ line ++ r.cells, c.Ok := fun c hc => by
      rcases List.mem_append.1 hc with hc | hc
      · exact ho c hc
      · exact hr.2 c hc
    have ih2 := ih (fun x hx => hl x (List.mem_cons_of_mem _ hx))
    show FlI cols (if _ then _ else _) ∧ (_ → (if _ then _ else _ : Fl).py < (if _ then _ else _ : Fl).out.length)
    by_cases hc : r.wrap = false ∨ l = []
    · simp only [if_pos hc]
      obtain ⟨a, _, _, d⟩ := flEnd_i h (line ++ r.cells) (if (i : Int) = place then (line.length : Int) + atx else mark) r.wrap ho2 h1
      obtain ⟨a2, b2⟩ := ih2 (i + 1) [] (-1) _ a (by simp)
      refine ⟨a2, fun _ => ?_⟩
      by_cases hne : l = []
      · subst hne; exact d
      · exact b2 hne
    · simp only [if_neg hc]
      have hne : l ≠ [] := fun e => hc (.inr e)
      obtain ⟨a2, b2⟩ := ih2 (i + 1) (line ++ r.cells) (if (i : Int) = place then (line.length : Int) + atx else mark) st h ho2
      exact ⟨a2, fun _ => b2 hne⟩
/-- Where the rows are parted: those that go to the past, and those that are shown. -/
structure FlowAt (g : Gr) (cols rows : Nat) (ax ay : Int) (out : List Rw) (first : Nat) (px py : Int) : Prop where
  fst : first < out.length
  fit : (out.drop first).length ≤ rows → True
  good : ∀ r ∈ out, r.Good cols
  eq : g.flow cols rows ax ay = (⟨cols, g.limit, (out.drop first).take rows ++ freshL (rows - ((out.drop first).take rows).length) cols plainS, keepL g.limit (out.take first)⟩, px, py - first)
theorem flow_wf {g : Gr} (h : g.WF) (cols rows : Nat) (out : List Rw) (first : Nat) (c1 : 1 ≤ cols) (c2 : cols ≤ 250) (r1 : 1 ≤ rows) (r2 : rows ≤ 120) (hg : ∀ r ∈ out, r.Good cols) :
    (⟨cols, g.limit, (out.drop first).take rows ++ freshL (rows - ((out.drop first).take rows).length) cols plainS, keepL g.limit (out.take first)⟩ : Gr).WF := by
  have hlt : ((out.drop first).take rows).length ≤ rows := by rw [List.length_take]; omega
  refine ⟨c1, c2, ?_, ?_, h.li, ?_, fun r hr => ?_⟩
  · show 1 ≤ (_ ++ freshL _ _ _).length
    unfold freshL; rw [List.length_append, List.length_replicate]; omega
  · show (_ ++ freshL _ _ _).length ≤ 120
    unfold freshL; rw [List.length_append, List.length_replicate]; omega
  · show (keepL g.limit _).length ≤ g.limit
    unfold keepL; rw [List.length_drop]; omega
  · have hr : r ∈ ((out.drop first).take rows ++ freshL (rows - ((out.drop first).take rows).length) cols plainS) ++ keepL g.limit (out.take first) := hr
    show r.cells.length = cols ∧ _
    rcases List.mem_append.1 hr with hr | hr
    · rcases List.mem_append.1 hr with hr | hr
      · exact hg r (List.mem_of_mem_drop (List.mem_of_mem_take hr))
      · unfold freshL at hr
        rw [List.eq_of_mem_replicate hr]
        exact ⟨List.length_replicate, fun c hc => by rw [List.eq_of_mem_replicate hc]; exact blank_ok _⟩
    · unfold keepL at hr
      exact hg r (List.mem_of_mem_take (List.mem_of_mem_drop hr))
end Go.Proofs.YtjclgoiclbkgjaaDoor

/- Reflow: rows in memory. -/
namespace Go.Proofs.YtjclgoiclbkgjaaDoor
open Go.RowKit

theorem ownC_pre {w : World} {base size b off n c : Nat} {xs : List Value} (h : OwnC w base size (.slice (some ⟨b, off, none⟩) n c) n xs) (y : Nat) (h2 : y ≤ n) : OwnC w base size (.slice (some ⟨b, off, none⟩) y c) y (xs.take (y * size)) := by
  have := ownC_sub h 0 y (Nat.zero_le _) h2
  simpa using this
theorem RowsAt.pre {B : Nat} {w : World} {b off n c : Nat} {L : List (Value × Rw)} (h : RowsAt B w (.slice (some ⟨b, off, none⟩) n c) L) (hn : L.length = n) (y : Nat) (hy : y ≤ n) : RowsAt B w (.slice (some ⟨b, off, none⟩) y c) (L.take y) := by
  subst hn
  refine ⟨?_, fun x hx => h.cells x (List.mem_of_mem_take hx), ?_, fun x hx => h.ap x (List.mem_of_mem_take hx)⟩
  · rw [List.length_take, Nat.min_eq_left hy, ← rowVals_take]
    exact ownC_pre h.own y hy
  · rw [List.map_take]
    exact h.nd.sublist (List.take_sublist _ _)
theorem RowsAt.append {B pb : Nat} {w6 w7 w8 : World} {v v2 v3 : Value} {L L2 : List (Value × Rw)} (h : RowsAt B w6 v L) (g : w6.grownBy w7 (some pb)) (hpb : pb < B) (h2 : RowsAt w6.heap.size w7 v2 L2) (hB : B ≤ w6.heap.size)
    (o3 : OwnC w8 B 2 v3 (L.length + L2.length) (rowVals L ++ rowVals L2)) (g3 : w7.grownBy w8 v.ownBlock) (hn : ∀ k, v3.ownBlock = some k → v.ownBlock = some k ∨ w7.heap.size ≤ k) : RowsAt B w8 v3 (L ++ L2) := by
  have h7 : RowsAt B w7 v L := h.grown g (fun k hk => by injection hk with hk; omega)
  have hs := g.size
  refine ⟨?_, fun x hx => ?_, ?_, fun x hx => ?_⟩
  · rw [List.length_append, rowVals_append]; exact o3
  · rcases List.mem_append.1 hx with hx | hx
    · refine ownC_grown (h7.cells x hx) g3 (fun k hk e => ?_)
      obtain ⟨q, e1, e2⟩ := h.ap x hx
      rw [e1] at hk
      injection hk with hk
      exact e2 (by rw [e, hk])
    · refine ownC_mono (ownC_grown (h2.cells x hx) g3 (fun k hk e => ?_)) hB
      have h3 := (ownC_lt (h2.cells x hx) k hk).1
      have h4 := (ownC_lt h.own k e).2
      omega
  · rw [List.map_append, List.nodup_append]
    refine ⟨h.nd, h2.nd, fun a ha c hc e => ?_⟩
    obtain ⟨x, hx, rfl⟩ := List.mem_map.1 ha
    obtain ⟨y, hy, rfl⟩ := List.mem_map.1 hc
    obtain ⟨q, e1, e2⟩ := h.ap x hx
    have h3 := (ownC_lt (h.cells x hx) q e1).2
    have h4 := (ownC_lt (h2.cells y hy) q (by rw [← e]; exact e1)).1
    omega
  · rcases List.mem_append.1 hx with hx | hx
    · obtain ⟨q, e1, e2⟩ := h.ap x hx
      refine ⟨q, e1, fun e => ?_⟩
      have h3 := (ownC_lt (h.cells x hx) q e1).2
      rcases hn q e with h5 | h5
      · exact e2 h5
      · omega
    · obtain ⟨q, e1, e2⟩ := h2.ap x hx
      refine ⟨q, e1, fun e => ?_⟩
      have h3 := ownC_lt (h2.cells x hx) q e1
      rcases hn q e with h5 | h5
      · have := (ownC_lt h.own q h5).2; omega
      · omega
theorem RowsAt.relast {B : Nat} {w : World} {b off n c : Nat} {D : List (Value × Rw)} {xv : Value} {r : Rw} (h : RowsAt B w (.slice (some ⟨b, off, none⟩) n c) (D ++ [(xv, r)])) (hn : n = D.length + 1) (is : Bool) :
    RowsAt B (w.setCell ⟨b, off + D.length * 2 + 1, none⟩ (.bool is)) (.slice (some ⟨b, off, none⟩) n c) (D ++ [(xv, ⟨r.cells, is⟩)]) := by
  subst hn
  have g4 : w.grownBy (w.setCell ⟨b, off + D.length * 2 + 1, none⟩ (.bool is)) (some b) := gb_set (gb_refl _ _) _ _
  have hl : (D ++ [(xv, r)]).length = D.length + 1 := by simp
  have hl2 : (D ++ [(xv, (⟨r.cells, is⟩ : Rw))]).length = D.length + 1 := by simp
  have key : ∀ x ∈ D ++ [(xv, r)], OwnC (w.setCell ⟨b, off + D.length * 2 + 1, none⟩ (.bool is)) B 5 x.1 x.2.cells.length (cvals x.2.cells) := fun x hx =>
    ownC_grown (h.cells x hx) g4 (fun k hk e => by
      obtain ⟨q, e1, e2⟩ := h.ap x hx
      rw [e1] at hk
      injection hk with hk
      injection e with e
      exact e2 (by rw [e, hk]; rfl))
  have hlast : (xv, r) ∈ D ++ [(xv, r)] := List.mem_append_right _ (List.mem_singleton.2 rfl)
  refine ⟨?_, fun x hx => ?_, ?_, fun x hx => ?_⟩
  · rw [hl2]
    have h3 := h.own
    rw [hl] at h3
    have h4 := ownC_put h3 (D.length * 2 + 1) [.bool is] (by simp; omega)
    obtain ⟨rc, rw'⟩ := r
    rw [rowVals_mark] at h4
    exact h4
  · rcases List.mem_append.1 hx with hx | hx
    · exact key x (List.mem_append_left _ hx)
    · rw [List.mem_singleton] at hx
      subst hx
      exact key (xv, r) hlast
  · have := h.nd
    rw [List.map_append] at this ⊢
    exact this
  · rcases List.mem_append.1 hx with hx | hx
    · exact h.ap x (List.mem_append_left _ hx)
    · rw [List.mem_singleton] at hx
      subst hx
      exact h.ap (xv, r) hlast
theorem wrapLast_snoc (l : List Rw) (r : Rw) (is : Bool) : wrapLast (l ++ [r]) is = l ++ [⟨r.cells, is⟩] := by
  unfold wrapLast
  have e1 : (l ++ [r]).length - 1 = l.length := by simp
  rw [e1, List.set_append_right _ _ (Nat.le_refl _), Nat.sub_self, List.getD_eq_getElem?_getD, List.getElem?_append_right (Nat.le_refl _), Nat.sub_self]
  rfl
/-- The state of a reflow: the world since w5, the place that is told, the rows that are made. -/
structure FlS (w5 : World) (pb : Nat) (wr : World) (vO : Value) (L : List (Value × Rw)) (st : Fl) : Prop where
  gb : w5.grownBy wr (some pb)
  pk : wr.heap[pb]? = some (.cells #[.int .i64 st.px, .int .i64 st.py] 43 (0, 0))
  ro : RowsAt w5.heap.size wr vO L
  er : L.map (·.2) = st.out
theorem FlS.below {w5 : World} {pb : Nat} {wr w' : World} {vO : Value} {L : List (Value × Rw)} {st : Fl} (h : FlS w5 pb wr vO L st) (b : Below wr.heap.size wr w') : FlS w5 pb w' vO L st :=
  ⟨gb_below h.gb b h.gb.size, blk_below h.pk b (heap_lt h.pk), h.ro.below b, h.er⟩
/-- A line has been split and laid behind the others. -/
theorem FlS.line {w5 : World} {pb : Nat} {w6 w7 w8 : World} {vO v2 : Value} {L D : List (Value × Rw)} {xv : Value} {r : Rw} {st : Fl} {b off n c : Nat} (h : FlS w5 pb w6 vO L st) (hpb : pb < w5.heap.size) (g : w6.grownBy w7 (some pb)) (h2 : RowsAt w6.heap.size w7 v2 (D ++ [(xv, r)]))
    (cols : Nat) (line : List Cel) (mark : Int) (e2 : (D ++ [(xv, r)]).map (·.2) = spEnd cols (splitG (trimM line mark) cols mark))
    (hk : w7.heap[pb]? = some (.cells #[.int .i64 (tellX (splitG (trimM line mark) cols mark).told st.px), .int .i64 (tellY (splitG (trimM line mark) cols mark).told st.py st.out.length)] 43 (0, 0)))
    (o3 : OwnC w8 w5.heap.size 2 (.slice (some ⟨b, off, none⟩) n c) (L.length + (D ++ [(xv, r)]).length) (rowVals L ++ rowVals (D ++ [(xv, r)]))) (g3 : w7.grownBy w8 vO.ownBlock) (hn : ∀ k, (Value.slice (some ⟨b, off, none⟩) n c).ownBlock = some k → vO.ownBlock = some k ∨ w7.heap.size ≤ k) (is : Bool) :
    FlS w5 pb (w8.setCell ⟨b, off + (L ++ D).length * 2 + 1, none⟩ (.bool is)) (.slice (some ⟨b, off, none⟩) n c) (L ++ D ++ [(xv, ⟨r.cells, is⟩)]) (flEnd cols line mark is st) := by
  have hs := h.gb.size
  have ho := ownC_lt o3 b rfl
  have hv : ∀ q, vO.ownBlock = some q → w5.heap.size ≤ q := fun q hq => (ownC_lt h.ro.own q hq).1
  have h8 := h.ro.append g hpb h2 hs o3 g3 hn
  rw [← List.append_assoc] at h8
  have hnl : n = (L ++ D).length + 1 := by
    rcases o3.2 with ⟨e, _⟩ | ⟨b2, off2, c2, e, _⟩
    · simp at e
    · simp only [Value.slice.injEq] at e
      rw [e.2.1]; simp; omega
  refine ⟨gb_set_new (gb_trans_new (gb_trans h.gb g) g3 hv) ho.1 _ _, ?_, h8.relast hnl is, ?_⟩
  · have hm : tellX (splitG (trimM line mark) cols mark).told st.px = (flEnd cols line mark is st).px ∧ tellY (splitG (trimM line mark) cols mark).told st.py st.out.length = (flEnd cols line mark is st).py := ⟨rfl, rfl⟩
    rw [← hm.1, ← hm.2]
    exact blk_set_other (blk_grown hk g3 (fun e => by have := hv pb e.symm; omega)) (by omega) _ _
  · have e3 : (flEnd cols line mark is st).out = st.out ++ wrapLast (spEnd cols (splitG (trimM line mark) cols mark)) is := rfl
    rw [e3, ← e2, List.map_append, List.map_append, List.map_append, h.er]
    show _ = st.out ++ wrapLast (D.map _ ++ [r]) is
    rw [wrapLast_snoc, List.append_assoc]
    rfl
theorem nodup_map_append {L M : List (Value × Rw)} (h1 : (L.map (·.1.ownBlock)).Nodup) (h2 : (M.map (·.1.ownBlock)).Nodup) (h : ∀ x ∈ L, ∀ y ∈ M, x.1.ownBlock ≠ y.1.ownBlock) : ((L ++ M).map (·.1.ownBlock)).Nodup := by
  rw [List.map_append, List.nodup_append]
  refine ⟨h1, h2, fun a ha c hc e => ?_⟩
  obtain ⟨x, hx, rfl⟩ := List.mem_map.1 ha
  obtain ⟨y, hy, rfl⟩ := List.mem_map.1 hc
  exact h x hx y hy e
/-- The grid that a reflow leaves. -/
theorem flow_build {T : Nat → Nat} {p : Nat} {w : World} {g : Gr} {vr0 vo0 : Value} {Lr0 Lo0 : List (Value × Rw)} (h0 : GAt T p vr0 vo0 Lr0 Lo0 w g) {wz : World} {v9 vo2 : Value} {L L4 : List (Value × Rw)} {f d cols rows C C2 : Nat} {out : List Rw}
    (hsz : w.heap.size ≤ C) (hC : C ≤ C2) (hz : C2 ≤ wz.heap.size)
    (blk : wz.heap[p]? = some (.cells #[.int .i64 cols, .int .i64 g.limit, v9, vo2] 70 (0, 0)))
    (cl : ∀ x ∈ L, OwnC wz 0 5 x.1 x.2.cells.length (cvals x.2.cells) ∧ ∃ q, x.1.ownBlock = some q ∧ w.heap.size ≤ q ∧ q < C) (nd : (L.map (·.1.ownBlock)).Nodup)
    (ro : OwnC wz 0 2 vo2 (keptL g.limit (L.take f)).length (rowVals (keptL g.limit (L.take f)))) (no : ∀ k, vo2.ownBlock = some k → C ≤ k ∧ k < C2)
    (rr : OwnC wz 0 2 v9 ((L.drop f).take d ++ L4).length (rowVals ((L.drop f).take d ++ L4))) (nr : ∀ k, v9.ownBlock = some k → C2 ≤ k)
    (c4 : ∀ x ∈ L4, OwnC wz 0 5 x.1 x.2.cells.length (cvals x.2.cells) ∧ ∃ q, x.1.ownBlock = some q ∧ C2 ≤ q ∧ v9.ownBlock ≠ some q) (nd4 : (L4.map (·.1.ownBlock)).Nodup)
    (hout : L.map (·.2) = out) (hl4 : L4.map (·.2) = freshL (rows - ((out.drop f).take rows).length) cols plainS) (hd : (out.drop f).take rows = (out.drop f).take d)
    (wf : (⟨cols, g.limit, (out.drop f).take rows ++ freshL (rows - ((out.drop f).take rows).length) cols plainS, keepL g.limit (out.take f)⟩ : Gr).WF) :
    ∃ T', GM T' p wz ⟨cols, g.limit, (out.drop f).take rows ++ freshL (rows - ((out.drop f).take rows).length) cols plainS, keepL g.limit (out.take f)⟩ ∧ ∀ k, T' k ≠ 0 → own T w k := by
  have hM : ∀ x ∈ (L.drop f).take d, x ∈ L := fun x hx => List.mem_of_mem_drop (List.mem_of_mem_take hx)
  have hK : ∀ x ∈ keptL g.limit (L.take f), x ∈ L.take f := fun x hx => List.mem_of_mem_drop hx
  have hK2 : ∀ x ∈ keptL g.limit (L.take f), x ∈ L := fun x hx => List.mem_of_mem_take (hK x hx)
  have hLs : ∀ x ∈ L, OwnC wz 0 5 x.1 x.2.cells.length (cvals x.2.cells) ∧ ∃ q, x.1.ownBlock = some q ∧ ((q < w.heap.size ∧ T q = 10 + q) ∨ (w.heap.size ≤ q ∧ vo2.ownBlock ≠ some q ∧ v9.ownBlock ≠ some q)) := fun x hx => by
    obtain ⟨h1, q, h2, h3, h4⟩ := cl x hx
    exact ⟨h1, q, h2, .inr ⟨h3, fun e => by have := (no q e).1; omega, fun e => by have := nr q e; omega⟩⟩
  have ndM : (((L.drop f).take d).map (·.1.ownBlock)).Nodup := (nd.sublist ((List.drop_sublist f L).map _)).sublist ((List.take_sublist d _).map _)
  have ndK : ((keptL g.limit (L.take f)).map (·.1.ownBlock)).Nodup := (nd.sublist ((List.take_sublist f L).map _)).sublist ((List.drop_sublist _ _).map _)
  refine gat_build (g' := ⟨cols, g.limit, (out.drop f).take rows ++ freshL (rows - ((out.drop f).take rows).length) cols plainS, keepL g.limit (out.take f)⟩) (Lr := (L.drop f).take d ++ L4) (Lo := keptL g.limit (L.take f)) h0.lt h0.tp (by omega) blk rr ro (fun k hk => ?_) (fun k hk => ?_) (fun x hx => ?_) ?_ ?_ ?_ wf
  · have h1 := nr k hk
    exact .inr ⟨by omega, fun e => by have := (no k e).2; omega⟩
  · have h1 := (no k hk).1
    exact .inr (by omega)
  · rcases List.mem_append.1 hx with hx | hx
    · rcases List.mem_append.1 hx with hx | hx
      · exact hLs x (hM x hx)
      · obtain ⟨h1, q, h2, h3, h4⟩ := c4 x hx
        exact ⟨h1, q, h2, .inr ⟨by omega, fun e => by have := (no q e).2; omega, h4⟩⟩
    · exact hLs x (hK2 x hx)
  · have hLM : ∀ x ∈ (L.drop f).take d ++ L4, ∀ y ∈ keptL g.limit (L.take f), x.1.ownBlock ≠ y.1.ownBlock := fun x hx y hy e => by
      obtain ⟨_, qy, h2, _, h4⟩ := cl y (hK2 y hy)
      rcases List.mem_append.1 hx with hx | hx
      · have h5 := nd
        rw [← List.take_append_drop f L, List.map_append, List.nodup_append] at h5
        exact h5.2.2 _ (List.mem_map_of_mem (hK y hy)) _ (List.mem_map_of_mem (List.mem_of_mem_take hx)) e.symm
      · obtain ⟨_, q, h6, h7, _⟩ := c4 x hx
        rw [h6, h2] at e
        injection e with e
        omega
    refine nodup_map_append (nodup_map_append ndM nd4 fun x hx y hy e => ?_) ndK hLM
    obtain ⟨_, qx, h2, _, h4⟩ := cl x (hM x hx)
    obtain ⟨_, q, h6, h7, _⟩ := c4 y hy
    rw [h6, h2] at e
    injection e with e
    omega
  · rw [List.map_append, hl4, List.map_take, List.map_drop, hout]
    show (out.drop f).take d ++ _ = (out.drop f).take rows ++ _
    rw [hd]
  · show (keptL g.limit (L.take f)).map (·.2) = keepL g.limit (out.take f)
    unfold keptL keepL
    rw [List.map_drop, List.map_take, hout, List.length_take, List.length_take, ← hout, List.length_map]
set_option maxRecDepth 100000 in
theorem cloneR_nil (w : World) : Calls Tryd.prog 39 #[.slice none 0 0] w fun e w' => e = .returned (.slice none 0 0) ∧ Below w.heap.size w w' := by
  have hq := fun (wx : World) => Lib.run_eql_slice_nil (P := Tryd.prog) wx 68 76 none 0 0 0 0 Tryd.underlying68
  go_enter Tryd.func39, Tryd.ntmps39
  go_wp2_with fail
  exact ret1v rfl rfl rfl ⟨rfl, Below.refl _ _⟩
end Go.Proofs.YtjclgoiclbkgjaaDoor
