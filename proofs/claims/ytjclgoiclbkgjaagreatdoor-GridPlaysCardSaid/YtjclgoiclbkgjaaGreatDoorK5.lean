/- Package grid, texts laid together: S1 G10 G11 G12. -/
import Derived.Test.YtjclgoiclbkgjaaGreatDoorK4
/- GridWhole, plain: every padding stands behind a wide cell of its style, every wide cell ahead of one. -/
namespace Go.Proofs.YtjclgoiclbkgjaaGreatDoor
open Go.RowKit

inductive Wh : List Cel → Prop
  | nil : Wh []
  | one (c : Cel) (l : List Cel) : c.width = 1 → Wh l → Wh (c :: l)
  | two (c : Cel) (l : List Cel) : c.width = 2 → Wh l → Wh (c :: ⟨0, 0, c.sty⟩ :: l)
theorem Wh.app {a b : List Cel} (ha : Wh a) (hb : Wh b) : Wh (a ++ b) := by
  induction ha with
  | nil => exact hb
  | one c l h _ ih => exact .one c _ h ih
  | two c l h _ ih => exact .two c _ h ih
theorem wh_blanks (n : Nat) (s : Sty) : Wh (List.replicate n (blankC s)) := by
  induction n with
  | zero => exact .nil
  | succ n ih => rw [List.replicate_succ]; exact .one _ _ rfl ih
/-- What stands at a place. -/
theorem wh_at {l : List Cel} (h : Wh l) : ∀ x, x < l.length → (l.getD x noC).width = 1 ∨ ((l.getD x noC).width = 2 ∧ x + 1 < l.length ∧ (l.getD (x + 1) noC).width = 0) ∨
    ((l.getD x noC).width = 0 ∧ 0 < x ∧ (l.getD (x - 1) noC).width = 2 ∧ (l.getD x noC).rune = 0 ∧ (l.getD x noC).sty = (l.getD (x - 1) noC).sty) := by
  induction h with
  | nil => intro x hx; simp at hx
  | one c l h _ ih =>
    intro x hx
    cases x with
    | zero => exact .inl h
    | succ x =>
      have hx2 : x < l.length := by simpa using hx
      rcases ih x hx2 with e | ⟨e1, e2, e3⟩ | ⟨e1, e2, e3, e4, e5⟩
      · exact .inl e
      · exact .inr (.inl ⟨e1, by simpa using e2, e3⟩)
      · obtain ⟨y, rfl⟩ : ∃ y, x = y + 1 := ⟨x - 1, by omega⟩
        exact .inr (.inr ⟨e1, by omega, e3, e4, e5⟩)
  | two c l h _ ih =>
    intro x hx
    match x, hx with
    | 0, _ => exact .inr (.inl ⟨h, by simp, rfl⟩)
    | 1, _ => exact .inr (.inr ⟨rfl, by omega, h, rfl, rfl⟩)
    | x + 2, hx =>
      have hx2 : x < l.length := by simpa using hx
      rcases ih x hx2 with e | ⟨e1, e2, e3⟩ | ⟨e1, e2, e3, e4, e5⟩
      · exact .inl e
      · exact .inr (.inl ⟨e1, by simp only [List.length_cons]; omega, e3⟩)
      · obtain ⟨y, rfl⟩ : ∃ y, x = y + 1 := ⟨x - 1, by omega⟩
        exact .inr (.inr ⟨e1, by omega, e3, e4, e5⟩)
/-- A line parted at x: ahead of x no cell is parted. -/
def Edge (l : List Cel) (x : Nat) : Prop := Wh (l.take x) ∧ Wh (l.drop x)
theorem edge_any {l : List Cel} (h : Wh l) : ∀ x, x ≤ l.length → (Edge l x ∧ (x < l.length → (l.getD x noC).width ≠ 0)) ∨
    (0 < x ∧ x < l.length ∧ (l.getD x noC).width = 0 ∧ ∃ a c b, l = a ++ [c, ⟨0, 0, c.sty⟩] ++ b ∧ Wh a ∧ Wh b ∧ a.length + 1 = x ∧ (l.getD x noC).sty = c.sty) := by
  induction h with
  | nil => intro x hx; simp at hx; subst hx; exact .inl ⟨⟨.nil, .nil⟩, by simp⟩
  | one c l h hl ih =>
    intro x hx
    cases x with
    | zero => exact .inl ⟨⟨.nil, .one c l h hl⟩, fun _ => by show c.width ≠ 0; omega⟩
    | succ x =>
      rcases ih x (by simpa using hx) with ⟨⟨e1, e2⟩, e3⟩ | ⟨e1, e2, e3, a, d, b, e4, ha, hb, e5, e6⟩
      · exact .inl ⟨⟨.one c _ h e1, e2⟩, fun e => e3 (by simpa using e)⟩
      · exact .inr ⟨by omega, by simpa using e2, e3, c :: a, d, b, by rw [e4]; rfl, .one c a h ha, hb, by rw [List.length_cons]; omega, e6⟩
  | two c l h hl ih =>
    intro x hx
    match x, hx with
    | 0, _ => exact .inl ⟨⟨.nil, .two c l h hl⟩, fun _ => by show c.width ≠ 0; omega⟩
    | 1, _ => exact .inr ⟨by omega, by simp, rfl, [], c, l, rfl, .nil, hl, rfl, rfl⟩
    | x + 2, hx =>
      rcases ih x (by simpa using hx) with ⟨⟨e1, e2⟩, e3⟩ | ⟨e1, e2, e3, a, d, b, e4, ha, hb, e5, e6⟩
      · exact .inl ⟨⟨.two c _ h e1, e2⟩, fun e => e3 (by simpa using e)⟩
      · exact .inr ⟨by omega, by simpa using e2, e3, c :: ⟨0, 0, c.sty⟩ :: a, d, b, by rw [e4]; rfl, .two c a h ha, hb, by simp only [List.length_cons]; omega, e6⟩
/-- Behind a cut at x, x is an edge. -/
theorem cut_edge {l : List Cel} (h : Wh l) (x : Nat) (hx : x ≤ l.length) : Edge (cutL l x) x := by
  rcases edge_any h x hx with ⟨e, e2⟩ | ⟨h0, hl, hz, a, c, b, e4, ha, hb, e5, e6⟩
  · unfold cutL
    rw [if_neg (fun k => by
      have := e2 (by omega)
      rw [Int.toNat_natCast] at k
      exact this k.2.2)]
    exact e
  · unfold cutL
    rw [Int.toNat_natCast, if_pos ⟨by omega, by omega, hz⟩, e6]
    have e7 : fillL l (x - 1) 2 c.sty = (a ++ [blankC c.sty]) ++ ([blankC c.sty] ++ b) := by
      unfold fillL putAt
      rw [List.length_replicate, e4, show x - 1 = a.length by omega]
      simp [List.replicate_succ]
    rw [e7]
    have e8 : (a ++ [blankC c.sty]).length = x := by simp; omega
    refine ⟨?_, ?_⟩
    · rw [List.take_left' e8]; exact ha.app (.one _ _ rfl .nil)
    · rw [List.drop_left' e8]; exact .one _ _ rfl hb
theorem edge_wh {l : List Cel} {x : Nat} (h : Edge l x) : Wh l := by
  rw [← List.take_append_drop x l]; exact h.1.app h.2
theorem cutL_wh {l : List Cel} (h : Wh l) (x : Int) : Wh (cutL l x) := by
  by_cases hx : 0 ≤ x ∧ x ≤ (l.length : Int)
  · have := edge_wh (cut_edge h x.toNat (by omega))
    rwa [show ((x.toNat : Nat) : Int) = x by omega] at this
  · unfold cutL
    rw [if_neg (by omega)]
    exact h
/-- A cut behind an edge keeps what is ahead of it. -/
theorem cut_behind {a b : List Cel} (hb : Wh b) (y : Nat) : cutL (a ++ b) ((a.length + y : Nat) : Int) = a ++ cutL b y := by
  by_cases hy : y < b.length
  · have e1 : (a ++ b).getD (a.length + y) noC = b.getD y noC := by
      rw [List.getD_eq_getElem?_getD, List.getElem?_append_right (by omega), show a.length + y - a.length = y by omega, List.getD_eq_getElem?_getD]
    unfold cutL
    rw [Int.toNat_natCast, Int.toNat_natCast, e1]
    by_cases hz : (b.getD y noC).width = 0
    · have h0 : 0 < y := by
        rcases wh_at hb y hy with e | ⟨e, _⟩ | ⟨_, e, _⟩
        · omega
        · omega
        · exact e
      rw [if_pos ⟨by omega, by rw [List.length_append]; omega, hz⟩, if_pos ⟨by omega, by omega, hz⟩]
      unfold fillL putAt
      rw [List.length_replicate, show a.length + y - 1 = a.length + (y - 1) by omega, show a.length + (y - 1) + 2 = a.length + (y - 1 + 2) by omega]
      rw [List.take_length_add_append, List.drop_length_add_append]
      simp
    · rw [if_neg (fun e => hz e.2.2), if_neg (fun e => hz e.2.2)]
  · unfold cutL
    rw [if_neg (by rw [List.length_append]; omega), if_neg (by omega)]
/-- Cut at two places: three whole pieces. -/
theorem cut_two {l : List Cel} (h : Wh l) (x y : Nat) (hy : x + y ≤ l.length) : ∃ a b c, cutL (cutL l x) ((x + y : Nat) : Int) = a ++ b ++ c ∧ a.length = x ∧ b.length = y ∧ Wh a ∧ Wh b ∧ Wh c := by
  have he := cut_edge h x (by omega)
  have hl := cutL_len l x
  generalize cutL l x = m at *
  have e1 : (m.take x).length = x := by rw [List.length_take]; omega
  have e2 : m = m.take x ++ m.drop x := (List.take_append_drop x m).symm
  have e3 : cutL m ((x + y : Nat) : Int) = m.take x ++ cutL (m.drop x) y := by
    have := cut_behind (a := m.take x) he.2 y
    rw [e1, List.take_append_drop] at this
    exact this
  have e4 := cut_edge he.2 y (by rw [List.length_drop]; omega)
  have hl2 := cutL_len (m.drop x) y
  rw [List.length_drop] at hl2
  generalize cutL (m.drop x) y = k at *
  refine ⟨m.take x, k.take y, k.drop y, ?_, e1, by rw [List.length_take]; omega, he.1, e4.1, e4.2⟩
  rw [e3, List.append_assoc, List.take_append_drop]
theorem putAt_three {α : Type} (a b c m : List α) (h : b.length = m.length) : putAt (a ++ b ++ c) a.length m = a ++ m ++ c := by
  unfold putAt
  rw [← h, show (a ++ b ++ c).drop (a.length + b.length) = c by rw [show a.length + b.length = (a ++ b).length by rw [List.length_append], List.drop_left], List.append_assoc a b c, List.take_left]
theorem layL_wh {l : List Cel} (h : Wh l) (x : Nat) (q : Cel) (hw : q.width = 1 ∨ q.width = 2) (hx : (x : Int) + q.width ≤ (l.length : Int)) : Wh (layL l x q) := by
  unfold layL
  rcases hw with hw | hw
  · obtain ⟨a, b, c, e, e1, e2, ha, hb, hc⟩ := cut_two h x 1 (by omega)
    rw [hw, show ((x : Int) + 1) = ((x + 1 : Nat) : Int) by omega, e, if_neg (by omega), ← e1, putAt_three a b c [q] (by rw [e2]; rfl)]
    exact (ha.app (.one _ _ hw .nil)).app hc
  · obtain ⟨a, b, c, e, e1, e2, ha, hb, hc⟩ := cut_two h x 2 (by omega)
    rw [hw, show ((x : Int) + 2) = ((x + 2 : Nat) : Int) by omega, e, if_pos rfl, ← e1, putAt_three a b c _ (by rw [e2]; rfl)]
    exact (ha.app (.two _ _ hw .nil)).app hc
/-- Erase, Insert, Delete: on a row's cells (n cells from x on, x + n no more than there are). -/
def eraseL (l : List Cel) (x n : Nat) (s : Sty) : List Cel := fillL (cutL (cutL l x) ((x + n : Nat) : Int)) x n s
def insL (l : List Cel) (x n : Nat) (s : Sty) : List Cel :=
  (cutL (cutL l x) ((l.length - n : Nat) : Int)).take x ++ List.replicate n (blankC s) ++ ((cutL (cutL l x) ((l.length - n : Nat) : Int)).drop x).take (l.length - n - x)
def delL (l : List Cel) (x n : Nat) (s : Sty) : List Cel :=
  (cutL (cutL l x) ((x + n : Nat) : Int)).take x ++ (cutL (cutL l x) ((x + n : Nat) : Int)).drop (x + n) ++ List.replicate n (blankC s)
theorem eraseL_len {l : List Cel} {x n : Nat} (s : Sty) (h : x + n ≤ l.length) : (eraseL l x n s).length = l.length := by
  unfold eraseL
  rw [fillL_len _ _ _ _ (by rw [cutL_len, cutL_len]; exact h), cutL_len, cutL_len]
theorem insL_len {l : List Cel} {x n : Nat} (s : Sty) (h : x + n ≤ l.length) : (insL l x n s).length = l.length := by
  unfold insL
  simp only [List.length_append, List.length_take, List.length_drop, List.length_replicate, cutL_len]
  omega
theorem delL_len {l : List Cel} {x n : Nat} (s : Sty) (h : x + n ≤ l.length) : (delL l x n s).length = l.length := by
  unfold delL
  simp only [List.length_append, List.length_take, List.length_drop, List.length_replicate, cutL_len]
  omega
theorem eraseL_wh {l : List Cel} (h : Wh l) {x n : Nat} (s : Sty) (hx : x + n ≤ l.length) : Wh (eraseL l x n s) := by
  obtain ⟨a, b, c, e, e1, e2, ha, hb, hc⟩ := cut_two h x n hx
  unfold eraseL fillL
  rw [e, ← e1, putAt_three a b c _ (by rw [e2, List.length_replicate])]
  exact (ha.app (wh_blanks n s)).app hc
theorem insL_wh {l : List Cel} (h : Wh l) {x n : Nat} (s : Sty) (hx : x + n ≤ l.length) : Wh (insL l x n s) := by
  obtain ⟨a, b, c, e, e1, e2, ha, hb, hc⟩ := cut_two h x (l.length - n - x) (by omega)
  unfold insL
  rw [show l.length - n = x + (l.length - n - x) by omega, e, List.append_assoc a b c, List.take_left' e1, List.drop_left' e1, show x + (l.length - n - x) - x = b.length by omega, List.take_left]
  exact (ha.app (wh_blanks n s)).app hb
theorem delL_wh {l : List Cel} (h : Wh l) {x n : Nat} (s : Sty) (hx : x + n ≤ l.length) : Wh (delL l x n s) := by
  obtain ⟨a, b, c, e, e1, e2, ha, hb, hc⟩ := cut_two h x n hx
  unfold delL
  rw [e, show x + n = (a ++ b).length by rw [List.length_append]; omega, List.drop_left, List.append_assoc a b c, List.take_left' e1]
  exact (ha.app hc).app (wh_blanks n s)
theorem fitL_wh {r : Rw} (h : Wh r.cells) (cols : Nat) : Wh (fitL r cols).cells := by
  unfold fitL
  split
  · exact h
  · dsimp only
    refine Wh.app ?_ (wh_blanks _ _)
    by_cases hc : cols ≤ r.cells.length
    · exact (cut_edge h cols hc).1
    · rw [List.take_of_length_le (by rw [cutL_len]; omega)]
      exact cutL_wh h _
theorem fitL_len (r : Rw) (cols : Nat) : (fitL r cols).cells.length = cols := by
  unfold fitL
  split
  · rename_i h; exact h.symm
  · dsimp only
    rw [List.length_append, List.length_take, cutL_len, List.length_replicate]; omega
/-- A line's end dropped. -/
theorem wh_init {l : List Cel} (h : Wh l) (hp : isPlain (l.getD (l.length - 1) noC) = true) (hne : l ≠ []) : Wh (l.take (l.length - 1)) := by
  have h0 : 0 < l.length := List.length_pos_iff.2 hne
  have h1 : (l.getD (l.length - 1) noC).width = 1 := by
    unfold isPlain at hp
    simp only [Bool.and_eq_true, beq_iff_eq] at hp
    exact hp.2.1
  rcases edge_any h (l.length - 1) (by omega) with ⟨e, _⟩ | ⟨_, _, e, _⟩
  · exact e.1
  · omega
theorem trimF_wh (n : Nat) (l : List Cel) (mark : Int) (h : Wh l) : Wh (trimF n l mark) := by
  induction n generalizing l with
  | zero => exact h
  | succ n ih =>
    unfold trimF
    split
    · rename_i hc
      exact ih _ (wh_init h hc.2.2 hc.2.1)
    · exact h
structure SpW (cols : Nat) (st : Sp) : Prop where
  cur : Wh st.cur
  len : st.cur.length ≤ cols
  done : ∀ r ∈ st.done, Wh r.cells
theorem spLay_one {cols : Nat} {mark : Int} {st : Sp} (h : SpW cols st) (i : Nat) (c : Cel) (hc : c.width = 1) (h1 : 1 ≤ cols) : SpW cols (spLay cols mark st i c) := by
  unfold spLay
  rw [if_neg (by omega)]
  dsimp only
  by_cases hf : st.cur.length = cols
  · simp only [if_pos hf]
    refine ⟨.one _ _ hc .nil, by simpa using h1, fun r hr => ?_⟩
    rcases List.mem_append.1 hr with hr | hr
    · exact h.done r hr
    · rw [List.mem_singleton] at hr; subst hr; exact h.cur
  · simp only [if_neg hf]
    exact ⟨h.cur.app (.one _ _ hc .nil), by rw [List.length_append]; have := h.len; simp; omega, h.done⟩
theorem spLay_two {cols : Nat} {mark : Int} {st : Sp} (h : SpW cols st) (i j : Nat) (c d : Cel) (hc : c.width = 2) (hd : d = ⟨0, 0, c.sty⟩) (h1 : 2 ≤ cols) : SpW cols (spLay cols mark (spLay cols mark st i c) j d) := by
  have key : ∃ u done told, spLay cols mark st i c = ⟨done, u ++ [c], told⟩ ∧ Wh u ∧ u.length + 2 ≤ cols ∧ ∀ r ∈ done, Wh r.cells := by
    have hcl := h.len
    by_cases h3 : st.cur.length = cols - 1
    · refine ⟨[], st.done ++ [⟨st.cur ++ [blankC plainS], true⟩], _, by
        unfold spLay
        rw [if_pos ⟨hc, h3⟩]
        dsimp only
        rw [if_pos (by rw [List.length_append, List.length_singleton]; omega), if_pos (by rw [List.length_append, List.length_singleton]; omega)], .nil, by simp; omega, fun r hr => ?_⟩
      rcases List.mem_append.1 hr with hr | hr
      · exact h.done r hr
      · rw [List.mem_singleton] at hr; subst hr; exact h.cur.app (.one _ _ rfl .nil)
    · by_cases hf : st.cur.length = cols
      · refine ⟨[], st.done ++ [⟨st.cur, true⟩], _, by
          unfold spLay
          rw [if_neg (fun e => h3 e.2)]
          dsimp only
          rw [if_pos hf, if_pos hf], .nil, by simp; omega, fun r hr => ?_⟩
        rcases List.mem_append.1 hr with hr | hr
        · exact h.done r hr
        · rw [List.mem_singleton] at hr; subst hr; exact h.cur
      · exact ⟨st.cur, st.done, _, by
          unfold spLay
          rw [if_neg (fun e => h3 e.2)]
          dsimp only
          rw [if_neg hf, if_neg hf], h.cur, by omega, h.done⟩
  obtain ⟨u, done, told, e, hu, hul, hd2⟩ := key
  rw [e]
  subst hd
  unfold spLay
  rw [if_neg (fun e => by have := e.1; dsimp only at this; omega)]
  dsimp only
  rw [if_neg (by rw [List.length_append, List.length_singleton]; omega), if_neg (by rw [List.length_append, List.length_singleton]; omega)]
  refine ⟨?_, ?_, hd2⟩
  · rw [List.append_assoc]; exact hu.app (.two _ _ hc .nil)
  · rw [List.length_append, List.length_append]; simp; omega
theorem spRun_wh {cols : Nat} {mark : Int} (h1 : 1 ≤ cols) {l : List Cel} (hl : Wh l) : ∀ (st : Sp) (i : Nat), SpW cols st → SpW cols (spRun cols mark st i l) := by
  induction hl with
  | nil => intro st i h; exact h
  | one c l hc _ ih =>
    intro st i h
    refine ih _ (i + 1) ?_
    unfold spStep
    rw [if_neg (fun e => e.2 hc)]
    exact spLay_one h i c hc h1
  | two c l hc _ ih =>
    intro st i h
    refine ih _ (i + 1 + 1) ?_
    by_cases hc1 : cols = 1
    · unfold spStep
      rw [if_pos ⟨hc1, by show (0 : Int) ≠ 1; decide⟩, if_pos rfl, if_pos ⟨hc1, by omega⟩, if_neg (by omega)]
      have h2 := spLay_one (mark := mark) h i (blankC c.sty) rfl h1
      exact ⟨h2.cur, h2.len, h2.done⟩
    · unfold spStep
      rw [if_neg (fun e => hc1 e.1), if_neg (fun e => hc1 e.1)]
      exact spLay_two h i (i + 1) c _ hc rfl (by omega)
theorem spEnd_wh {cols : Nat} {st : Sp} (h : SpW cols st) : ∀ r ∈ spEnd cols st, Wh r.cells := fun r hr => by
  unfold spEnd at hr
  rcases List.mem_append.1 hr with hr | hr
  · exact h.done r hr
  · rw [List.mem_singleton] at hr; subst hr
    exact h.cur.app (wh_blanks _ _)
theorem wrapLast_wh {l : List Rw} (is : Bool) (hne : l ≠ []) (h : ∀ r ∈ l, Wh r.cells) : ∀ r ∈ wrapLast l is, Wh r.cells := fun r hr => by
  unfold wrapLast at hr
  rcases List.mem_or_eq_of_mem_set hr with hr | hr
  · exact h r hr
  · have hm : l.getD (l.length - 1) noR ∈ l := by
      have : 0 < l.length := List.length_pos_iff.2 hne
      rw [List.getD_eq_getElem?_getD, List.getElem?_eq_getElem (by omega)]
      exact List.getElem_mem _
    have h2 := h _ hm
    rw [hr]
    exact h2
theorem flEnd_wh {cols : Nat} (h1 : 1 ≤ cols) {line : List Cel} (mark : Int) (wrap : Bool) {st : Fl} (hl : Wh line) (h : ∀ r ∈ st.out, Wh r.cells) : ∀ r ∈ (flEnd cols line mark wrap st).out, Wh r.cells := fun r hr => by
  have hr : r ∈ st.out ++ wrapLast (spEnd cols (splitG (trimM line mark) cols mark)) wrap := hr
  rcases List.mem_append.1 hr with hr | hr
  · exact h r hr
  · refine wrapLast_wh wrap (by unfold spEnd; simp) (spEnd_wh ?_) r hr
    exact spRun_wh h1 (trimF_wh _ _ _ hl) _ _ ⟨.nil, by simp, by simp⟩
theorem flRun_wh {cols : Nat} (h1 : 1 ≤ cols) (place atx : Int) (l : List Rw) (hl : ∀ r ∈ l, Wh r.cells) : ∀ (i : Nat) (line : List Cel) (mark : Int) (st : Fl), Wh line → (∀ r ∈ st.out, Wh r.cells) → ∀ r ∈ (flRun cols place atx l i line mark st).out, Wh r.cells := by
  induction l with
  | nil => intro i line mark st _ h; exact h
  | cons r l ih =>
    intro i line mark st hw h
    have ih2 := ih (fun x hx => hl x (List.mem_cons_of_mem _ hx))
    have hw2 := hw.app (hl r (List.mem_cons_self ..))
    unfold flRun
    dsimp only
    by_cases hc : r.wrap = false ∨ l = []
    · rw [if_pos hc]
      exact ih2 _ _ _ _ .nil (flEnd_wh h1 _ _ hw2 h)
    · rw [if_neg hc]
      exact ih2 _ _ _ _ hw2 h
theorem trimR_mem (n : Nat) : ∀ (l : List Rw) (py : Int) (r : Rw), r ∈ trimR n l py → r ∈ l := by
  induction n with
  | zero => intro l py r h; exact h
  | succ n ih =>
    intro l py r h
    unfold trimR at h
    split at h
    · exact List.mem_of_mem_take (ih _ _ _ h)
    · exact h
def WhR (r : Rw) : Prop := Wh r.cells
theorem flow_wh {g : Gr} (h : g.All WhR) (cols rows : Nat) (ax ay : Int) (h1 : 1 ≤ cols) : (g.flow cols rows ax ay).1.All WhR := fun r hr => by
  unfold Gr.flow at hr
  dsimp only at hr
  have key : ∀ r ∈ trimR (flRun cols ((g.old.length : Int) + ay) ax (g.old ++ g.rows) 0 [] (-1) ⟨[], 0, 0⟩).out.length (flRun cols ((g.old.length : Int) + ay) ax (g.old ++ g.rows) 0 [] (-1) ⟨[], 0, 0⟩).out (flRun cols ((g.old.length : Int) + ay) ax (g.old ++ g.rows) 0 [] (-1) ⟨[], 0, 0⟩).py, WhR r :=
    fun r hr => flRun_wh h1 _ _ _ h 0 [] (-1) ⟨[], 0, 0⟩ .nil (by simp) r (trimR_mem _ _ _ _ hr)
  generalize trimR (flRun cols ((g.old.length : Int) + ay) ax (g.old ++ g.rows) 0 [] (-1) ⟨[], 0, 0⟩).out.length (flRun cols ((g.old.length : Int) + ay) ax (g.old ++ g.rows) 0 [] (-1) ⟨[], 0, 0⟩).out (flRun cols ((g.old.length : Int) + ay) ax (g.old ++ g.rows) 0 [] (-1) ⟨[], 0, 0⟩).py = out at *
  rcases List.mem_append.1 hr with hr | hr
  · unfold keepL at hr
    exact key r (List.mem_of_mem_take (List.mem_of_mem_drop hr))
  · rcases List.mem_append.1 hr with hr | hr
    · exact key r (List.mem_of_mem_drop (List.mem_of_mem_take hr))
    · unfold freshL at hr
      rw [List.eq_of_mem_replicate hr]
      exact wh_blanks _ _
theorem resize_wh {g : Gr} (h : g.All WhR) (cols rows : Nat) (ax ay : Int) (f : Bool) (h1 : 1 ≤ cols) : (g.resize cols rows ax ay f).1.All WhR := by
  unfold Gr.resize
  cases f
  · rw [if_neg (by decide)]
    intro r hr
    dsimp only at hr
    rcases List.mem_append.1 hr with hr | hr
    · obtain ⟨x, hx, rfl⟩ := List.mem_map.1 hr
      exact fitL_wh (h x (List.mem_append_left _ hx)) cols
    · split at hr
      · obtain ⟨x, hx, rfl⟩ := List.mem_map.1 (List.mem_of_mem_take hr)
        exact fitL_wh (h x (List.mem_append_right _ hx)) cols
      · rcases List.mem_append.1 hr with hr | hr
        · obtain ⟨x, hx, rfl⟩ := List.mem_map.1 hr
          exact fitL_wh (h x (List.mem_append_right _ hx)) cols
        · unfold freshL at hr
          rw [List.eq_of_mem_replicate hr]
          exact wh_blanks _ _
  · rw [if_pos rfl]
    exact flow_wh h cols rows _ _ h1
end Go.Proofs.YtjclgoiclbkgjaaGreatDoor

/- Walks of package grid: region, Clone of rows. -/
namespace Go.Proofs.YtjclgoiclbkgjaaGreatDoor
open Go.RowKit

set_option maxRecDepth 100000 in
set_option maxHeartbeats 1000000 in
theorem region_any {T : Nat → Nat} {p : Nat} {w : World} {g : Gr} (h : GM T p w g) (top bottom n : Int) (s : Sty) (hs : RightIn w s) :
    Calls Tryz.prog 65 #[.pointer (some ⟨p, 0, none⟩), .int .i64 top, .int .i64 bottom, .int .i64 n, s.val] w fun e w' => e = .returned (.int .i64 (regionN g top bottom n s)) ∧ Below w.heap.size w w' := by
  have hBz := Below.alloc (Below.refl w.heap.size w) (Nat.le_refl _) (.cells #[.int .i64 s.fg, .int .i64 s.bg, .int .i64 s.attr] 36)
  have HB := Lib.hid hBz
  have h' := h.below hBz
  have wf := h.wf
  clear h
  obtain ⟨vr, vo, Lr, Lo, h⟩ := h'
  obtain ⟨c0, c1, c2, c3⟩ := gm_cells h
  have hl := ownC_ln Tryz.underlying57 h.rr.own
  rw [(rows_len h).1] at hl
  clear h
  have w1 := wf.r2
  clear wf hBz
  unfold Sty.val
  by_cases h0 : top < 0
  · have HE := Lib.hid (show regionN g top bottom n s = 0 by unfold regionN; rw [if_pos (.inl h0)])
    have d0 : decide (top < 0) = true := decide_eq_true h0
    go_enter Tryz.func65, Tryz.ntmps65
    go_wp2_with fail
    go_ret
    exact ⟨ret_int (by rw [HE.out]; rfl), HB.out⟩
  have d0 : decide (top < 0) = false := decide_eq_false h0
  by_cases h1 : bottom < top
  · have HE := Lib.hid (show regionN g top bottom n s = 0 by unfold regionN; rw [if_pos (.inr (.inl h1))])
    have d1 : decide (bottom < top) = true := decide_eq_true h1
    go_enter Tryz.func65, Tryz.ntmps65
    go_wp2_with fail
    go_ret
    exact ⟨ret_int (by rw [HE.out]; rfl), HB.out⟩
  have d1 : decide (bottom < top) = false := decide_eq_false h1
  by_cases h2 : (g.rows.length : Int) ≤ bottom
  · have HE := Lib.hid (show regionN g top bottom n s = 0 by unfold regionN; rw [if_pos (.inr (.inr (.inl h2)))])
    have d2 : decide ((g.rows.length : Int) ≤ bottom) = true := decide_eq_true h2
    go_enter Tryz.func65, Tryz.ntmps65
    go_wp2_with fail
    go_ret
    exact ⟨ret_int (by rw [HE.out]; rfl), HB.out⟩
  have d2 : decide ((g.rows.length : Int) ≤ bottom) = false := decide_eq_false h2
  have HR := Lib.hid hs
  clear hs
  cases hok : okS s
  · have HE := Lib.hid (show regionN g top bottom n s = 0 by unfold regionN; rw [if_pos (.inr (.inr (.inr hok)))])
    go_enter Tryz.func65, Tryz.ntmps65
    go_wp2_with fail
    refine (HR.out _ HB.out).mono ?_
    rintro e w3 ⟨rfl, b3⟩
    rw [hok]
    have HB3 := Lib.hid (HB.out.trans (b3.mono (by simp)))
    clear b3
    go_wp2_with fail
    go_ret
    exact ⟨ret_int (by rw [HE.out]; rfl), HB3.out⟩
  · have HE := Lib.hid (show (regionN g top bottom n s : Int) = max 0 (min n (bottom - top + 1)) by
      unfold regionN
      rw [if_neg (by rw [hok]; simp; omega)]
      omega)
    have hw1 : IntKind.i64.wrap (bottom - top) = bottom - top := wrap64_id _ (by omega) (by omega)
    have hw2 : IntKind.i64.wrap (bottom - top + 1) = bottom - top + 1 := wrap64_id _ (by omega) (by omega)
    go_enter Tryz.func65, Tryz.ntmps65
    go_wp2_with fail
    refine (HR.out _ HB.out).mono ?_
    rintro e w3 ⟨rfl, b3⟩
    rw [hok]
    have HB3 := Lib.hid (HB.out.trans (b3.mono (by simp)))
    clear b3
    go_wp2_with fail
    go_ret
    exact ⟨ret_int HE.out.symm, HB3.out⟩
set_option maxRecDepth 100000 in
theorem cloneR_any (L : List (Value × Rw)) (a : Addr) (c : Nat) (w : World) (h : Reads w 2 (.slice (some a) L.length c) L.length (rowVals L)) (h1 : ∀ u ∈ rowVals L, u.oneCell' = true) (hl : L.length ≤ 100000) :
    Calls Tryz.prog 66 #[.slice (some a) L.length c] w fun e w' => ∃ v', e = .returned v' ∧ Below w.heap.size w w' ∧ OwnC w' w.heap.size 2 v' L.length (rowVals L) := by
  have hq := fun (wx : World) => Lib.run_eql_slice_nil (P := Tryz.prog) wx 57 77 (some a) L.length c 0 0 Tryz.underlying57
  have HR := Lib.hid h
  have H1 := Lib.hid h1
  clear h h1
  go_enter Tryz.func66, Tryz.ntmps66
  go_wp2_with (at_builtin; refine held ?_)
  unfold Held
  refine wpList_appC rows_elem rfl rfl w.heap.size (own_empty w 77 2) rfl (reads_kept HR.out (World.grownBy_alloc w _ none) (by intro _ _ e; simp at e)) rfl H1.out (by unfold maxLen; omega) (by omega) (by simp) ?_
  intro v6 w6 o6 g6
  rw [Nat.zero_add, List.nil_append] at o6
  have HB6 := Lib.hid ((Below.alloc (Below.refl w.heap.size w) (Nat.le_refl _) (.cells #[] 77)).grown g6 (by simp) (by intro q hq; simp [Value.ownBlock] at hq; omega))
  have HO6 := Lib.hid o6
  clear o6 g6
  go_wp2_with fail
  exact ret1v rfl rfl rfl ⟨_, rfl, HB6.out, HO6.out⟩
end Go.Proofs.YtjclgoiclbkgjaaGreatDoor

/- Walks of package grid: keep. -/
namespace Go.Proofs.YtjclgoiclbkgjaaGreatDoor
open Go.RowKit

theorem clear_own {P : Program} {t e : TypeId} {size : Nat} {z : Value} (ht : P.underlying t = some (.slice e)) (hz : ∀ w, (zeroValue e).run P w = .ok z w) (hzs : z.cells.size = size) (hz1 : ∀ u ∈ z.cells.toList, u.oneCell' = true) {w : World} {base b off n c : Nat} {xs : List Value} (h : OwnC w base size (.slice (some ⟨b, off, none⟩) n c) n xs)
    (x m c1 : Nat) (hm : 0 < m) (hx : x + m ≤ n) (ty : TypeId) :
    ∃ zs : List Value, zs.length = m * size ∧ (Builtin.clear_ #[t] ty #[.slice (some ⟨b, off + x * size, none⟩) m c1]).run P w = .ok (.tuple #[]) (w.setCells b (off + x * size) zs) := by
  obtain ⟨e1, h2⟩ := h
  rcases h2 with ⟨e, _⟩ | ⟨b', off', c', e, hb, hbs, hnc, hcm, hcells, hxs⟩
  · simp at e
  simp only [Value.slice.injEq, Option.some.injEq, Addr.mk.injEq] at e
  obtain ⟨⟨rfl, rfl, _⟩, _, rfl⟩ := e
  have hzl : (Builtin.zeroCells z.cells m).toList.length = m * size := by simp [Builtin.zeroCells, hzs]
  refine ⟨(Builtin.zeroCells z.cells m).toList, hzl, ?_⟩
  have hin : ∀ j, j < (Builtin.zeroCells z.cells m).toList.length → x * size + j < c * size := fun j hj => by
    have a1 : x * size + m * size ≤ c * size := by rw [← Nat.add_mul]; exact Nat.mul_le_mul_right _ (by omega)
    omega
  have hone : ∀ u ∈ (Builtin.zeroCells z.cells m).toList, u.oneCell' = true := fun u hu => by
    unfold Builtin.zeroCells at hu
    simp only [Array.toList_map, List.mem_map, Array.mem_toList_iff, Array.mem_range] at hu
    obtain ⟨i, hi, rfl⟩ := hu
    have hpos : 0 < z.cells.size := by
      rcases Nat.eq_zero_or_pos z.cells.size with h0 | h0
      · rw [h0] at hi; simp at hi
      · exact h0
    have hlt := Nat.mod_lt i hpos
    rw [getElem!_pos z.cells _ hlt]
    exact hz1 _ (by simp)
  have hst := run_storeCells_cells (P := P) b (off + x * size) (Builtin.zeroCells z.cells m).toList 0 w (fun j hj => by
      have := (hcells _ (hin j hj)).1
      rwa [← Nat.add_assoc] at this) (fun j hj => by
      have := (hcells _ (hin j hj)).2
      rwa [← Nat.add_assoc] at this) hone
  rw [Nat.add_zero] at hst
  obtain ⟨m', rfl⟩ : ∃ m', m = m' + 1 := ⟨m - 1, by omega⟩
  simp [Builtin.clear_, run_underlying ht, hz, hst]
theorem zero_row (w : World) : (zeroValue 77).run Tryz.prog w = .ok (.agg #[.slice none 0 0, .bool false]) w := by kernel_rfl
theorem zero_one : ∀ u ∈ (Value.agg #[.slice none 0 0, .bool false]).cells.toList, u.oneCell' = true := by
  intro u hu
  simp [Value.cells] at hu
  rcases hu with rfl | rfl <;> rfl
/-- The rows that are kept. -/
def keptL {α : Type} (limit : Nat) (l : List α) : List α := l.drop (l.length - limit)
theorem kept_vals (Lo Lk : List (Value × Rw)) (limit : Nat) (hlim : limit < (Lo ++ Lk).length) (zs : List Value) (_hz : zs.length = ((Lo ++ Lk).length - limit) * 2) :
    (putAt (putAt (rowVals (Lo ++ Lk)) 0 (rowVals (keptL limit (Lo ++ Lk)))) (limit * 2) zs).take (limit * 2) = rowVals (keptL limit (Lo ++ Lk)) := by
  generalize Lo ++ Lk = L at *
  have hk : (rowVals (keptL limit L)).length = limit * 2 := by
    rw [rowVals_len]; unfold keptL; rw [List.length_drop]; omega
  have hl : (rowVals L).length = L.length * 2 := rowVals_len L
  have e1 : putAt (rowVals L) 0 (rowVals (keptL limit L)) = rowVals (keptL limit L) ++ (rowVals L).drop (limit * 2) := by
    unfold putAt
    rw [List.take_zero, List.nil_append, Nat.zero_add, hk]
  rw [e1]
  unfold putAt
  rw [List.append_assoc, List.take_append_of_le_length (by rw [List.length_take, List.length_append, hk]; omega), List.take_take, Nat.min_self, List.take_append_of_le_length (by omega), List.take_of_length_le (by omega)]
set_option maxRecDepth 100000 in
set_option maxHeartbeats 4000000 in
theorem keep_any (p cols limit : Nat) (vr vo y : Value) (Lo Lk : List (Value × Rw)) (w : World) (hblk : w.heap[p]? = some (.cells #[.int .i64 cols, .int .i64 limit, vr, vo] 61 (0, 0)))
    (ho : OwnC w 0 2 vo Lo.length (rowVals Lo)) (hne : vo.ownBlock ≠ some p) (hy : Reads w 2 y Lk.length (rowVals Lk)) (h1o : ∀ u ∈ rowVals Lo, u.oneCell' = true) (h1 : ∀ u ∈ rowVals Lk, u.oneCell' = true) (hlo : Lo.length ≤ 1000000) (hlk : Lk.length ≤ 1000000) (hlim : limit ≤ 1000000) :
    Calls Tryz.prog 67 #[.pointer (some ⟨p, 0, none⟩), y] w fun e w' => e = .returned (.tuple #[]) ∧ Within (fun k => k = p ∨ vo.ownBlock = some k ∨ w.heap.size ≤ k) w w' ∧ ∃ vo',
      w'.heap[p]? = some (.cells #[.int .i64 cols, .int .i64 limit, vr, vo'] 61 (0, 0)) ∧ OwnC w' 0 2 vo' (keptL limit (Lo ++ Lk)).length (rowVals (keptL limit (Lo ++ Lk))) ∧ (∀ k, vo'.ownBlock = some k → vo.ownBlock = some k ∨ w.heap.size ≤ k) := by
  have c0 : w.cell? ⟨p, 0, none⟩ = some (.int .i64 cols) := blk_cell hblk 0
  have c1 : w.cell? ⟨p, 1, none⟩ = some (.int .i64 limit) := blk_cell hblk 1
  have c2 : w.cell? ⟨p, 2, none⟩ = some vr := blk_cell hblk 2
  have c3 : w.cell? ⟨p, 3, none⟩ = some vo := blk_cell hblk 3
  have hpl := heap_lt hblk
  have HK := Lib.hid hblk
  have HO := Lib.hid ho
  have HY := Lib.hid hy
  have H1 := Lib.hid h1
  have H1L := Lib.hid (show ∀ u ∈ rowVals (Lo ++ Lk), u.oneCell' = true from fun u hu => by
    rw [rowVals_append] at hu
    rcases List.mem_append.1 hu with hu | hu
    · exact h1o u hu
    · exact h1 u hu)
  clear hblk ho hy h1 h1o
  go_enter Tryz.func67, Tryz.ntmps67
  go_wp2_with (at_builtin; refine held ?_)
  unfold Held
  refine wpList_appD rows_elem rfl rfl 0 HO.out rfl HY.out rfl H1.out (by unfold maxLen; omega) (by omega) (Nat.zero_le _) ?_
  intro v2 w2 o2 g2 hn2
  obtain ⟨va, vc, rfl⟩ := ownC_sl o2
  have hbk2 := blk_grown HK.out g2 (fun e => hne e.symm)
  have d3 : w2.cell? ⟨p, 3, none⟩ = some vo := blk_cell hbk2 3
  have f3 : w2.frozen? ⟨p, 3, none⟩ = false := blk_free hbk2 3
  have hbk3 := blk_set hbk2 3 (.slice va (Lo.length + Lk.length) vc)
  have hps : (Value.slice va (Lo.length + Lk.length) vc).ownBlock ≠ some p := fun e => by
    rcases hn2 p e with e' | e'
    · exact hne e'
    · omega
  have g3 : w2.grownBy (w2.setCell ⟨p, 3, none⟩ (.slice va (Lo.length + Lk.length) vc)) (some p) := gb_set (gb_refl _ _) _ _
  rw [← rowVals_append] at o2
  have HO3 := Lib.hid (ownC_grown o2 g3 (fun k hk e => hps (by rw [hk]; exact e.symm)))
  have HW3 := Lib.hid (show Within (fun k => k = p ∨ vo.ownBlock = some k ∨ w.heap.size ≤ k) w (w2.setCell ⟨p, 3, none⟩ (.slice va (Lo.length + Lk.length) vc)) from
    (Within.of_gb g2 (fun k hk => .inr (.inl hk))).trans (Within.of_gb g3 (fun k hk => .inl (by injection hk with hk; exact hk.symm))))
  have HN := Lib.hid hn2
  have HK3 := Lib.hid (show (w2.setCell ⟨p, 3, none⟩ (.slice va (Lo.length + Lk.length) vc)).heap[p]? = some (.cells #[.int .i64 cols, .int .i64 limit, vr, .slice va (Lo.length + Lk.length) vc] 61 (0, 0)) from hbk3)
  clear o2 g2 hn2 g3 hbk3 hbk2
  go_wp2_with fail
  have hsz3 : (w2.setCell ⟨p, 3, none⟩ (.slice va (Lo.length + Lk.length) vc)).heap.size = w2.heap.size := by simp
  generalize w2.setCell ⟨p, 3, none⟩ (.slice va (Lo.length + Lk.length) vc) = w3 at *
  clear c0 c1 c2 c3 d3 f3
  have c0 : w3.cell? ⟨p, 0, none⟩ = some (.int .i64 cols) := blk_cell HK3.out 0
  have c1 : w3.cell? ⟨p, 1, none⟩ = some (.int .i64 limit) := blk_cell HK3.out 1
  have c3 : w3.cell? ⟨p, 3, none⟩ = some (.slice va (Lo.length + Lk.length) vc) := blk_cell HK3.out 3
  have hLL : (Lo ++ Lk).length = Lo.length + Lk.length := List.length_append
  have hLs : (Lo ++ Lk).length ≤ 2000000 := by omega
  generalize hL : Lo ++ Lk = L at *
  have hLL' := hLL.symm
  clear hLL
  generalize Lo.length + Lk.length = ln at *
  subst hLL'
  have hwr : IntKind.i64.wrap ((L.length : Int) - (limit : Int)) = (L.length : Int) - (limit : Int) := wrap64_id _ (by omega) (by omega)
  go_quiet (fail)
  by_cases hm : L.length ≤ limit
  · have d1 : decide (0 < (L.length : Int) - (limit : Int)) = false := decide_eq_false (by omega)
    have hkk : keptL limit L = L := by unfold keptL; rw [show L.length - limit = 0 by omega]; rfl
    go_wp2_with fail
    go_end0
    refine ⟨rfl, HW3.out.trans (Within.of_below (below_drewN (Below.refl _ _) nq)), _, HK3.out, ?_, HN.out⟩
    rw [hL, hkk]; exact HO3.out
  · have d1 : decide (0 < (L.length : Int) - (limit : Int)) = true := decide_eq_true (by omega)
    obtain ⟨b, off, c, e2, hnc, hcm⟩ := ownC_pos HO3.out (by omega)
    simp only [Value.slice.injEq] at e2
    obtain ⟨rfl, _, rfl⟩ := e2
    have hO := show OwnC (w3.drewN nq) 0 2 (.slice (some ⟨b, off, none⟩) L.length vc) L.length (rowVals L) from HO3.out
    have hK := show (w3.drewN nq).heap[p]? = some (.cells #[.int .i64 cols, .int .i64 limit, vr, .slice (some ⟨b, off, none⟩) L.length vc] 61 (0, 0)) from HK3.out
    have hW := HW3.out.trans (Within.of_below (below_drewN (Below.refl w3.heap.size w3) nq))
    have hbp : b ≠ p := fun e => hps (by rw [← e]; rfl)
    have hvb : vo.ownBlock = some b ∨ w.heap.size ≤ b := HN.out b rfl
    have hys : ((rowVals L).drop ((L.length - limit) * 2)).take ((L.length - (L.length - limit)) * 2) = rowVals (keptL limit L) := by
      rw [rowVals_drop, List.take_of_length_le (by rw [rowVals_len, List.length_drop]; exact Nat.le_refl _)]; rfl
    have hkl : (keptL limit L).length = limit := by unfold keptL; rw [List.length_drop]; omega
    have hone : ∀ u ∈ rowVals L, u.oneCell' = true := H1L.out
    generalize hwa0 : w3.drewN nq = wa0 at *
    clear c0 c1 c3
    have c1 : wa0.cell? ⟨p, 1, none⟩ = some (.int .i64 limit) := blk_cell hK 1
    have c3 : wa0.cell? ⟨p, 3, none⟩ = some (.slice (some ⟨b, off, none⟩) L.length vc) := blk_cell hK 3
    obtain ⟨a1, hsl1, ha1⟩ := slice_l' (P := Tryz.prog) (size := 2) Tryz.underlying57 row_info b off L.length vc (L.length - limit) (by omega) hnc
    rw [show ((L.length - limit : Nat) : Int) = (L.length : Int) - (limit : Int) by omega] at hsl1
    go_upto_region 3 with fail
    go_still_tail 10, (by kernel_rfl)
    change wpList _ _ _ _ _ wa0.drew
    have hOa := show OwnC wa0.drew 0 2 (.slice (some ⟨b, off, none⟩) L.length vc) L.length (rowVals L) from hO
    have hKa := blk_drew hK
    have hWa := hW.trans (Within.of_below (Below.refl wa0.heap.size wa0).drew)
    clear c1 c3
    generalize hwa : wa0.drew = wa at *
    have hrd := reads_sub hOa (L.length - limit) L.length (vc - (L.length - limit)) a1 ha1 (by omega) (Nat.le_refl _)
    rw [hys] at hrd
    have hcp := copy_own (P := Tryz.prog) Tryz.underlying57 row_info hOa 0 L.length vc ⟨b, off, none⟩ (fun _ => by rw [Nat.zero_mul, Nat.add_zero]) (by omega) hrd (by intro u hu; exact hone u (by
      rw [← hys] at hu
      exact List.mem_of_mem_drop (List.mem_of_mem_take hu)))
    rw [List.take_of_length_le (by rw [rowVals_len, hkl, show Nat.min (L.length - (L.length - limit)) L.length = limit by show min (L.length - (L.length - limit)) L.length = limit; omega]; exact Nat.le_refl _), Nat.zero_mul, Nat.add_zero] at hcp
    have hOb := copy_owned hOa 0 (rowVals (keptL limit L)) (by rw [rowVals_len, hkl]; omega)
    rw [Nat.zero_mul, Nat.add_zero] at hOb
    have gb := gb_setCells wa b off (rowVals (keptL limit L))
    have hKb := blk_grown hKa gb (by intro e; injection e with e; exact hbp e.symm)
    have hWb := hWa.trans (Within.of_gb gb (fun k hk => by injection hk with hk; subst hk; exact .inr hvb))
    clear gb hOa hKa hWa
    generalize wa.setCells b off (rowVals (keptL limit L)) = wb at *
    have c1 : wb.cell? ⟨p, 1, none⟩ = some (.int .i64 limit) := blk_cell hKb 1
    have c3 : wb.cell? ⟨p, 3, none⟩ = some (.slice (some ⟨b, off, none⟩) L.length vc) := blk_cell hKb 3
    have hsl2 := slice_l (P := Tryz.prog) (size := 2) Tryz.underlying57 row_info b off L.length vc limit (by omega) (by omega)
    go_upto_region 4 with fail
    go_still_tail 9, (by kernel_rfl)
    change wpList _ _ _ _ _ wb.drew
    have hOc := show OwnC wb.drew 0 2 (.slice (some ⟨b, off, none⟩) L.length vc) L.length _ from hOb
    have hKc := blk_drew hKb
    have hWc := hWb.trans (Within.of_below (Below.refl wb.heap.size wb).drew)
    clear c1 c3
    generalize hwc : wb.drew = wc at *
    obtain ⟨zs, hzl, hcl⟩ := clear_own (P := Tryz.prog) (size := 2) Tryz.underlying57 zero_row rfl zero_one hOc limit (L.length - limit) (vc - limit) (by omega) (by omega) 0
    have hOd := copy_owned hOc limit zs (by rw [hzl, ← Nat.add_mul]; exact Nat.mul_le_mul_right _ (by omega))
    have gd := gb_setCells wc b (off + limit * 2) zs
    have hKd := blk_grown hKc gd (by intro e; injection e with e; exact hbp e.symm)
    have hWd := hWc.trans (Within.of_gb gd (fun k hk => by injection hk with hk; subst hk; exact .inr hvb))
    clear gd hOc hKc hWc
    generalize wc.setCells b (off + limit * 2) zs = wd at *
    have c1 : wd.cell? ⟨p, 1, none⟩ = some (.int .i64 limit) := blk_cell hKd 1
    have c3 : wd.cell? ⟨p, 3, none⟩ = some (.slice (some ⟨b, off, none⟩) L.length vc) := blk_cell hKd 3
    have hsl3 := slice_h (P := Tryz.prog) (size := 2) Tryz.underlying57 row_info (some ⟨b, off, none⟩) L.length vc limit (by omega)
    go_upto_region 5 with fail
    go_still_tail 12, (by kernel_rfl)
    change wpList _ _ _ _ _ wd.drew
    have hOe := show OwnC wd.drew 0 2 (.slice (some ⟨b, off, none⟩) L.length vc) L.length _ from hOd
    have hKe := blk_drew hKd
    have hWe := hWd.trans (Within.of_below (Below.refl wd.heap.size wd).drew)
    clear c1 c3
    generalize hwe : wd.drew = we at *
    have c3 : we.cell? ⟨p, 3, none⟩ = some (.slice (some ⟨b, off, none⟩) L.length vc) := blk_cell hKe 3
    have f3 : we.frozen? ⟨p, 3, none⟩ = false := blk_free hKe 3
    have gf : we.grownBy (we.setCell ⟨p, 3, none⟩ (.slice (some ⟨b, off, none⟩) limit vc)) (some p) := gb_set (gb_refl _ _) _ _
    have HKf := Lib.hid (show (we.setCell ⟨p, 3, none⟩ (.slice (some ⟨b, off, none⟩) limit vc)).heap[p]? = some (.cells #[.int .i64 cols, .int .i64 limit, vr, .slice (some ⟨b, off, none⟩) limit vc] 61 (0, 0)) from blk_set hKe 3 _)
    have HWf := Lib.hid (hWe.trans (Within.of_gb gf (fun k hk => .inl (by injection hk with hk; exact hk.symm))))
    have hOs := ownC_sub (ownC_grown hOe gf (fun k hk e => by simp [Value.ownBlock] at hk; injection e with e; omega)) 0 limit (Nat.zero_le _) (by omega)
    rw [Nat.zero_mul, Nat.add_zero, Nat.sub_zero, Nat.sub_zero, List.drop_zero] at hOs
    have hkv := kept_vals Lo Lk limit (by rw [hL]; omega) zs (by rw [hL]; exact hzl)
    rw [hL] at hkv
    rw [hkv] at hOs
    have HOs := Lib.hid hOs
    clear hOs hkv gf hOe
    go_wp2_with fail
    go_end0
    refine ⟨rfl, HWf.out, _, HKf.out, ?_, fun k hk => ?_⟩
    · rw [hL, hkl]; exact HOs.out
    · simp [Value.ownBlock] at hk
      subst hk
      exact hvb
end Go.Proofs.YtjclgoiclbkgjaaGreatDoor

/- Walks of package grid: Up. -/
namespace Go.Proofs.YtjclgoiclbkgjaaGreatDoor
open Go.RowKit

theorem regionN_pos {g : Gr} {top bottom n : Int} {s : Sty} (h : regionN g top bottom n s ≠ 0) : 0 ≤ top ∧ top ≤ bottom ∧ bottom < (g.rows.length : Int) ∧ okS s = true ∧ 1 ≤ regionN g top bottom n s ∧ (regionN g top bottom n s : Int) ≤ bottom - top + 1 := by
  unfold regionN at h ⊢
  split at h
  · exact absurd rfl h
  · rename_i hn
    rw [if_neg hn]
    have hok : okS s = true := by
      cases ho : okS s
      · exact absurd (.inr (.inr (.inr ho))) hn
      · rfl
    refine ⟨by omega, by omega, by omega, hok, by omega, by omega⟩
theorem cats_one {T : Nat → Nat} {w : World} {L : List (Value × Rw)} (h : ∀ x ∈ L, CAt T w x) : ∀ u ∈ rowVals L, u.oneCell' = true := rowVals_one L fun x hx => by
  obtain ⟨a, c, e⟩ := ownC_sl (h x hx).own
  exact ⟨a, _, c, e⟩
/-- The rows of the screen behind a scroll up. -/
def upL {α : Type} (L : List α) (t b n : Nat) (F : List α) : List α := putAt (putAt L t ((L.drop (t + n)).take (b + 1 - (t + n)))) (b + 1 - n) F
theorem upL_eq {α : Type} (L F : List α) (t b n : Nat) (h1 : t ≤ b) (h2 : b < L.length) (h3 : 1 ≤ n) (h4 : n ≤ b + 1 - t) (hF : F.length = n) : upL L t b n F = L.take t ++ (L.drop (t + n)).take (b + 1 - t - n) ++ F ++ L.drop (b + 1) := by
  unfold upL
  have hM : ((L.drop (t + n)).take (b + 1 - (t + n))).length = b + 1 - t - n := by rw [List.length_take, List.length_drop]; omega
  have ht : (L.take t).length = t := by rw [List.length_take]; omega
  have e : b + 1 - (t + n) = b + 1 - t - n := by omega
  rw [e] at hM ⊢
  generalize (L.drop (t + n)).take (b + 1 - t - n) = M at *
  unfold putAt
  rw [hM, hF, show t + (b + 1 - t - n) = b + 1 - n by omega]
  rw [List.take_append_of_le_length (by rw [List.length_append, hM, ht]; omega), List.take_of_length_le (by rw [List.length_append, hM, ht]; omega)]
  congr 1
  rw [List.drop_append, List.drop_eq_nil_of_le (by rw [List.length_append, hM, ht]; omega), List.nil_append, List.drop_drop, List.length_append, hM, ht]
  congr 1; omega
/-- A grid laid anew out of what was its own and what is new. -/
theorem gat_build {T : Nat → Nat} {p : Nat} {w w' : World} {g' : Gr} {vr vo : Value} {Lr Lo : List (Value × Rw)} (hlt : ∀ k, T k ≠ 0 → k < w.heap.size) (tp : T p = 1) (hsz : w.heap.size ≤ w'.heap.size)
    (blk : w'.heap[p]? = some (.cells #[.int .i64 g'.cols, .int .i64 g'.limit, vr, vo] 61 (0, 0))) (rr : OwnC w' 0 2 vr Lr.length (rowVals Lr)) (ro : OwnC w' 0 2 vo Lo.length (rowVals Lo))
    (tr : ∀ k, vr.ownBlock = some k → T k = 2 ∨ (w.heap.size ≤ k ∧ vo.ownBlock ≠ some k)) (tv : ∀ k, vo.ownBlock = some k → T k = 3 ∨ w.heap.size ≤ k)
    (ca : ∀ x ∈ Lr ++ Lo, OwnC w' 0 5 x.1 x.2.cells.length (cvals x.2.cells) ∧ ∃ q, x.1.ownBlock = some q ∧ ((q < w.heap.size ∧ T q = 10 + q) ∨ (w.heap.size ≤ q ∧ vo.ownBlock ≠ some q ∧ vr.ownBlock ≠ some q)))
    (nd : ((Lr ++ Lo).map (·.1.ownBlock)).Nodup) (er : Lr.map (·.2) = g'.rows) (eo : Lo.map (·.2) = g'.old) (wf : g'.WF) :
    ∃ T', GM T' p w' g' ∧ ∀ k, T' k ≠ 0 → own T w k := by
  have hpl : p < w.heap.size := hlt p (by rw [tp]; decide)
  refine ⟨fun k => if vr.ownBlock = some k then 2 else if vo.ownBlock = some k then 3 else if w.heap.size ≤ k ∧ k < w'.heap.size then 10 + k else T k, ⟨vr, vo, Lr, Lo, ⟨fun k hk => ?_, blk, ?_, ⟨rr, fun k hk => by show (if _ then _ else _) = 2; rw [if_pos hk]⟩, ⟨ro, fun k hk => ?_⟩, er, eo, fun x hx => ?_, nd, wf⟩⟩, fun k hk => ?_⟩
  · show k < w'.heap.size
    by_cases h1 : vr.ownBlock = some k
    · exact (ownC_lt rr k h1).2
    · by_cases h2 : vo.ownBlock = some k
      · exact (ownC_lt ro k h2).2
      · simp only [if_neg h1, if_neg h2] at hk
        by_cases h3 : w.heap.size ≤ k ∧ k < w'.heap.size
        · exact h3.2
        · rw [if_neg h3] at hk
          exact Nat.lt_of_lt_of_le (hlt k hk) hsz
  · show (if _ then _ else _) = 1
    rw [if_neg (fun e => by rcases tr p e with h | h <;> omega), if_neg (fun e => by rcases tv p e with h | h <;> omega), if_neg (by omega)]
    exact tp
  · show (if _ then _ else _) = 3
    have h1 : vr.ownBlock ≠ some k := fun e => by
      rcases tr k e with h | h
      · rcases tv k hk with h' | h'
        · omega
        · have := hlt k (by omega); omega
      · exact h.2 hk
    rw [if_neg h1, if_pos hk]
  · obtain ⟨h1, q, hq, h2⟩ := ca x hx
    refine ⟨h1, q, hq, ?_⟩
    show (if _ then _ else _) = 10 + q
    rcases h2 with ⟨hql, hqt⟩ | ⟨hql, hn1, hn2⟩
    · rw [if_neg (fun e => by rcases tr q e with h | h <;> omega), if_neg (fun e => by rcases tv q e with h | h <;> omega), if_neg (by omega)]
      exact hqt
    · rw [if_neg hn2, if_neg hn1, if_pos ⟨hql, (ownC_lt h1 q hq).2⟩]
  · by_cases h1 : vr.ownBlock = some k
    · rcases tr k h1 with h | h
      · exact .inl (by omega)
      · exact .inr h.1
    · by_cases h2 : vo.ownBlock = some k
      · rcases tv k h2 with h | h
        · exact .inl (by omega)
        · exact .inr h
      · simp only [if_neg h1, if_neg h2] at hk
        by_cases h3 : w.heap.size ≤ k ∧ k < w'.heap.size
        · exact .inr h3.1
        · rw [if_neg h3] at hk
          exact .inl hk
/-- Nothing is there twice, in what is left and what is new. -/
theorem up_nodup (Lr Lo Lf Lo' : List (Value × Rw)) (t b n B : Nat) (h1 : t ≤ b) (_h2 : b < Lr.length) (h4 : n ≤ b + 1 - t) (hnd : ((Lr ++ Lo).map (·.1.ownBlock)).Nodup) (hlt : ∀ x ∈ Lr ++ Lo, ∀ k, x.1.ownBlock = some k → k < B)
    (hf : (Lf.map (·.1.ownBlock)).Nodup) (hfB : ∀ x ∈ Lf, ∃ k, x.1.ownBlock = some k ∧ B ≤ k) (hs : Lo'.Sublist (Lo ++ (Lr.drop t).take n)) :
    (((Lr.take t ++ (Lr.drop (t + n)).take (b + 1 - t - n) ++ Lf ++ Lr.drop (b + 1)) ++ Lo').map (·.1.ownBlock)).Nodup := by
  have hL : Lr = Lr.take t ++ ((Lr.drop t).take n ++ ((Lr.drop (t + n)).take (b + 1 - t - n) ++ Lr.drop (b + 1))) := by
    have e1 : Lr.drop (t + n) = (Lr.drop (t + n)).take (b + 1 - t - n) ++ Lr.drop (b + 1) := by
      have := (List.take_append_drop (b + 1 - t - n) (Lr.drop (t + n))).symm
      rwa [List.drop_drop, show t + n + (b + 1 - t - n) = b + 1 by omega] at this
    have e2 : Lr.drop t = (Lr.drop t).take n ++ Lr.drop (t + n) := by
      have := (List.take_append_drop n (Lr.drop t)).symm
      rwa [List.drop_drop] at this
    rw [← e1, ← e2, List.take_append_drop]
  generalize hA : Lr.take t = A at *
  generalize hF : (Lr.drop t).take n = O at *
  generalize hM : (Lr.drop (t + n)).take (b + 1 - t - n) = M at *
  generalize hD : Lr.drop (b + 1) = D at *
  have p1 : (Lr ++ Lo).Perm ((A ++ M ++ D) ++ (Lo ++ O)) := by
    rw [hL]
    have q1 : (A ++ (O ++ (M ++ D)) ++ Lo).Perm (A ++ ((M ++ D) ++ O) ++ Lo) := List.Perm.append_right _ (List.Perm.append_left _ List.perm_append_comm)
    refine q1.trans ?_
    have q2 : (A ++ ((M ++ D) ++ O) ++ Lo) = (A ++ M ++ D) ++ (O ++ Lo) := by simp
    rw [q2]
    exact List.Perm.append_left _ List.perm_append_comm
  have n1 : (((A ++ M ++ D) ++ (Lo ++ O)).map (·.1.ownBlock)).Nodup := (p1.map _).nodup_iff.1 hnd
  have n2 : (((A ++ M ++ D) ++ Lo').map (·.1.ownBlock)).Nodup := n1.sublist ((List.Sublist.append_left hs _).map _)
  have p2 : ((A ++ M ++ Lf ++ D) ++ Lo').Perm (((A ++ M ++ D) ++ Lo') ++ Lf) := by
    have q1 : ((A ++ M ++ Lf ++ D) ++ Lo') = (A ++ M) ++ (Lf ++ (D ++ Lo')) := by simp
    have q2 : (((A ++ M ++ D) ++ Lo') ++ Lf) = (A ++ M) ++ ((D ++ Lo') ++ Lf) := by simp
    rw [q1, q2]
    exact List.Perm.append_left _ List.perm_append_comm
  refine (p2.map _).nodup_iff.2 ?_
  rw [List.map_append, List.nodup_append]
  refine ⟨n2, hf, fun a ha c hc e => ?_⟩
  obtain ⟨x, hx, rfl⟩ := List.mem_map.1 ha
  obtain ⟨y, hy, rfl⟩ := List.mem_map.1 hc
  obtain ⟨k, hk, hkB⟩ := hfB y hy
  have hx' : x ∈ (A ++ M ++ D) ++ (Lo ++ O) := by
    rcases List.mem_append.1 hx with h | h
    · exact List.mem_append_left _ h
    · exact List.mem_append_right _ (hs.subset h)
  have := hlt x (p1.mem_iff.2 hx') k (by rw [e]; exact hk)
  omega
end Go.Proofs.YtjclgoiclbkgjaaGreatDoor
