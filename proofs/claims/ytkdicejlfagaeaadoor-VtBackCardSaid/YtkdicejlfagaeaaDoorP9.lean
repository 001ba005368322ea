/- Package vtparse, plain: what is told, written down, tells itself again: sequences and texts; all that was told. -/
import Derived.Test.YtkdicejlfagaeaaDoorP8
namespace Go.Proofs.YtkdicejlfagaeaaDoor
open Go.RowKit

theorem set_end (l : List Int) (v d : Int) : setLast (l ++ [v]) d = l ++ [clamp v d] := by
  unfold setLast
  rw [List.length_append, List.length_singleton, Nat.add_sub_cancel, List.set_append_right _ _ (Nat.le_refl _), Nat.sub_self]
  simp
theorem seq_took {s : PSt} {b : UInt8} (h1 : s.state = 2 ∨ s.state = 5) (h32 : 32 ≤ (b.toNat : Int)) (h127 : (b.toNat : Int) < 127) : s.step b = s.seqd b := by
  rw [step_took h32 (.inr (.inl h127))]
  unfold PSt.took
  rw [if_neg (by omega), if_pos h1]
theorem dig_step {s : PSt} {b : UInt8} {P : List Int} {v : Int} (h1 : s.state = 2 ∨ s.state = 5) (hb : s.btw = 0) (ha : s.any = true) (hp : s.params = P ++ [v]) (h48 : 48 ≤ (b.toNat : Int)) (h57 : (b.toNat : Int) ≤ 57) :
    s.step b = ({ s with params := P ++ [clamp v ((b.toNat : Int) - 48)] }, []) := by
  rw [seq_took h1 (by omega) (by omega)]
  unfold PSt.seqd
  rw [if_neg (by omega), if_neg (by rw [btwn_not h48]; simp), if_pos ⟨by omega, btwn_not h48, hb⟩]
  unfold PSt.digit PSt.started
  rw [if_pos (by omega), if_pos ha, hp, set_end]
theorem sep_step {s : PSt} (h1 : s.state = 2 ∨ s.state = 5) (hb : s.btw = 0) (ha : s.any = true) (hl : s.params.length ≤ 32) :
    s.step 59 = ({ s with params := s.params ++ [-1] }, []) := by
  rw [seq_took h1 (by decide) (by decide)]
  unfold PSt.seqd
  rw [if_neg (by decide), if_neg (by intro h; exact absurd h.1 (by decide)), if_neg (by intro h; exact absurd h.1 (by decide)), if_pos ⟨by decide, hb⟩]
  unfold PSt.digit PSt.started
  rw [if_neg (by decide), if_pos ha, if_pos hl]
theorem seq_dig {s : PSt} {b : UInt8} (hb : s.btw = 0) (h48 : 48 ≤ (b.toNat : Int)) (h57 : (b.toNat : Int) ≤ 57) : s.seqd b = (s.digit ((b.toNat : Int) - 48), []) := by
  unfold PSt.seqd
  rw [if_neg (by omega), if_neg (by rw [btwn_not h48]; simp), if_pos ⟨by omega, btwn_not h48, hb⟩]
theorem seq_sep {s : PSt} {b : UInt8} (hb : s.btw = 0) (h59 : (b.toNat : Int) = 59) : s.seqd b = (s.digit (-1), []) := by
  unfold PSt.seqd
  rw [if_neg (by omega), if_neg (by rw [btwn_not (by omega)]; simp), if_neg (by omega), if_pos ⟨h59, hb⟩]
theorem started_step {s : PSt} {b : UInt8} (h1 : s.state = 2 ∨ s.state = 5) (hb : s.btw = 0) (h48 : 48 ≤ (b.toNat : Int)) (h59 : (b.toNat : Int) ≤ 59) (hn : (b.toNat : Int) ≠ 58) : s.step b = s.started.step b := by
  have e1 : s.started.state = s.state := by unfold PSt.started; split <;> rfl
  have e2 : s.started.btw = s.btw := by unfold PSt.started; split <;> rfl
  have e3 : s.started.started = s.started := by unfold PSt.started; cases h : s.any <;> simp [h]
  rw [seq_took h1 (by omega) (by omega), seq_took (by rw [e1]; exact h1) (by omega) (by omega)]
  have hd : ∀ d, s.started.digit d = s.digit d := fun d => by unfold PSt.digit; rw [e3]
  by_cases hb58 : (b.toNat : Int) < 58
  · rw [seq_dig hb h48 (by omega), seq_dig (by rw [e2]; exact hb) h48 (by omega), hd]
  · rw [seq_sep hb (by omega), seq_sep (by rw [e2]; exact hb) (by omega), hd]
theorem digits_run : ∀ (m n : Nat) (_ : n ≤ m) (s : PSt) (P : List Int), n ≤ 9999 → (s.state = 2 ∨ s.state = 5) → s.btw = 0 → s.any = true → s.params = P ++ [-1] →
    s.run (Lib.decDigits n) = ({ s with params := P ++ [(n : Int)] }, [])
  | m, n, hm, s, P, hn, h1, hb, ha, hp => by
    by_cases h : n < 10
    · rw [Lib.decDigits_one h]
      have hd := byte_of (48 + n) (by omega)
      rw [run_cons (dig_step h1 hb ha hp (by omega) (by omega)), hd]
      have hc : clamp (-1) (((48 + n : Nat) : Int) - 48) = (n : Int) := by unfold clamp; omega
      rw [hc]; rfl
    · rw [dec_step n h]
      have hd := byte_of (48 + n % 10) (by omega)
      cases m with
      | zero => omega
      | succ m =>
        have ih := digits_run m (n / 10) (by omega) s P (by omega) h1 hb ha hp
        rw [run_then ih, run_cons (dig_step (P := P) (v := ((n / 10 : Nat) : Int)) (by exact h1) (by exact hb) (by exact ha) rfl (by omega) (by omega)), hd]
        have hc : clamp ((n / 10 : Nat) : Int) (((48 + n % 10 : Nat) : Int) - 48) = (n : Int) := by unfold clamp; omega
        rw [hc]; rfl
theorem par_run {x : Int} (hx : -1 ≤ x ∧ x ≤ 9999) (s : PSt) (P : List Int) (h1 : s.state = 2 ∨ s.state = 5) (hb : s.btw = 0) (ha : s.any = true) (hp : s.params = P ++ [-1]) :
    s.run (if 0 ≤ x then Lib.itoa x else []) = ({ s with params := P ++ [x] }, []) := by
  by_cases h0 : 0 ≤ x
  · rw [if_pos h0]
    obtain ⟨n, rfl⟩ : ∃ n : Nat, x = (n : Int) := ⟨x.toNat, by omega⟩
    rw [itoa_of]
    exact digits_run n n (Nat.le_refl _) s P (by omega) h1 hb ha hp
  · have : x = -1 := by omega
    subst this
    rw [if_neg h0, ← hp]; rfl
theorem pars_run : ∀ (l : List Int) (s : PSt), (∀ x ∈ l, -1 ≤ x ∧ x ≤ 9999) → (s.state = 2 ∨ s.state = 5) → s.btw = 0 → s.any = true → s.params.length + l.length ≤ 33 →
    s.run (parsL true l) = ({ s with params := s.params ++ l }, [])
  | [], s, _, _, _, _, _ => by simp [parsL, PSt.run]
  | x :: l, s, hl, h1, hb, ha, hn => by
    rw [List.length_cons] at hn
    have e1 := sep_step h1 hb ha (by omega)
    have e2 := par_run (hl x List.mem_cons_self) { s with params := s.params ++ [-1] } s.params (by exact h1) (by exact hb) (by exact ha) rfl
    have e3 := pars_run l { s with params := s.params ++ [x] } (fun y hy => hl y (List.mem_cons_of_mem _ hy)) (by exact h1) (by exact hb) (by exact ha) (by show (s.params ++ [x]).length + _ ≤ 33; rw [List.length_append, List.length_singleton]; omega)
    show s.run ((59 :: (if 0 ≤ x then Lib.itoa x else [])) ++ parsL true l) = _
    rw [List.cons_append, run_cons e1, run_then e2, e3]
    simp
theorem first_dig (n : Nat) : ∃ b l, Lib.decDigits n = b :: l ∧ 48 ≤ (b.toNat : Int) ∧ (b.toNat : Int) ≤ 57 := by
  induction n using Nat.strongRecOn with
  | ind n ih =>
    by_cases h : n < 10
    · refine ⟨UInt8.ofNat (48 + n), [], Lib.decDigits_one h, ?_⟩
      rw [byte_of _ (by omega)]; omega
    · obtain ⟨b, l, e, hb⟩ := ih (n / 10) (by omega)
      exact ⟨b, l ++ [UInt8.ofNat (48 + n % 10)], by rw [dec_step n h, e]; rfl, hb⟩
theorem head_pars (l : List Int) (s : PSt) (hl : ∀ x ∈ l, -1 ≤ x ∧ x ≤ 9999) (h1 : s.state = 2 ∨ s.state = 5) (hb : s.btw = 0) (ha : s.any = false) (hp : s.params = []) (hn : l.length ≤ 33) (hne : l ≠ [-1]) :
    ∃ s', s.run (parsL false l) = (s', []) ∧ s'.state = s.state ∧ s'.inter = s.inter ∧ s'.params = l ∧ s'.text = s.text ∧ s'.dec = s.dec := by
  cases l with
  | nil => exact ⟨s, rfl, rfl, rfl, hp, rfl, rfl⟩
  | cons x r =>
    have hx := hl x List.mem_cons_self
    have es : s.started = { s with any := true, params := [-1] } := by unfold PSt.started; rw [ha]; rfl
    have key : ∀ (b : UInt8) (t : List UInt8), 48 ≤ (b.toNat : Int) → (b.toNat : Int) ≤ 59 → (b.toNat : Int) ≠ 58 → s.run (b :: t) = s.started.run (b :: t) := fun b t k1 k2 k3 => by
      show (((s.step b).1.run t).1, (s.step b).2 ++ ((s.step b).1.run t).2) = _
      rw [started_step h1 hb k1 k2 k3]; rfl
    have e2 := par_run hx s.started [] (by rw [es]; exact h1) (by rw [es]; exact hb) (by rw [es]) (by rw [es]; rfl)
    rw [List.nil_append] at e2
    rw [List.length_cons] at hn
    have e3 := pars_run r { s.started with params := [x] } (fun y hy => hl y (List.mem_cons_of_mem _ hy)) (by rw [es]; exact h1) (by rw [es]; exact hb) (by rw [es]) (by show 1 + _ ≤ 33; omega)
    have tot : s.started.run (parsL false (x :: r)) = ({ s.started with params := x :: r }, []) := by
      show s.started.run (([] ++ (if 0 ≤ x then Lib.itoa x else [])) ++ parsL true r) = _
      rw [List.nil_append, run_then e2, e3]; rfl
    have same : s.run (parsL false (x :: r)) = s.started.run (parsL false (x :: r)) := by
      show s.run (([] ++ (if 0 ≤ x then Lib.itoa x else [])) ++ parsL true r) = s.started.run (([] ++ (if 0 ≤ x then Lib.itoa x else [])) ++ parsL true r)
      rw [List.nil_append]
      by_cases h0 : 0 ≤ x
      · rw [if_pos h0]
        obtain ⟨n, rfl⟩ : ∃ n : Nat, x = (n : Int) := ⟨x.toNat, by omega⟩
        rw [itoa_of]
        obtain ⟨b, t, e, k1, k2⟩ := first_dig n
        rw [e, List.cons_append]
        exact key b _ k1 (by omega) (by omega)
      · rw [if_neg h0, List.nil_append]
        cases r with
        | nil => exact absurd (show [x] = [-1] by rw [show x = -1 by omega]) hne
        | cons y r' => exact key 59 _ (by decide) (by decide) (by decide)
    refine ⟨_, by rw [same, tot], ?_, ?_, rfl, ?_, ?_⟩ <;> rw [es]
theorem btw_snoc {s : PSt} {b : UInt8} (hb : (b.toNat : Int) ≤ 47) : ({ s with inter := s.inter ++ [b] } : PSt).btw = s.btw + 1 := by
  cases hs : s.inter with
  | nil =>
    rw [btw_cons (s := ({ s with inter := [] ++ [b] } : PSt)) (c := b) (r := []) rfl, if_neg (by omega)]
    unfold PSt.btw PSt.marked; rw [hs]; rfl
  | cons c r =>
    rw [btw_cons (s := ({ s with inter := (c :: r) ++ [b] } : PSt)) (c := c) (r := r ++ [b]) rfl, btw_cons hs, List.length_append, List.length_singleton]
    split <;> omega
theorem rest_run : ∀ (l : List UInt8) (s : PSt), onlyL l 32 47 = true → (s.state = 2 ∨ s.state = 5) → s.btw + l.length ≤ 2 → s.run l = ({ s with inter := s.inter ++ l }, [])
  | [], s, _, _, _ => by simp [PSt.run]
  | b :: l, s, ho, h1, hl => by
    unfold onlyL at ho
    rw [List.all_cons, Bool.and_eq_true, Bool.and_eq_true, decide_eq_true_eq, decide_eq_true_eq] at ho
    rw [List.length_cons] at hl
    have e : s.step b = ({ s with inter := s.inter ++ [b] }, []) := by
      rw [seq_took h1 ho.1.1 (by omega)]
      unfold PSt.seqd
      rw [if_neg (by omega), if_pos ⟨btwn.2 ho.1, by omega⟩]
    rw [run_cons e, rest_run l _ (by unfold onlyL; exact ho.2) (by exact h1) (by rw [btw_snoc ho.1.2]; omega)]
    simp
theorem mark_all (l : List UInt8) : l = (markL l).1 ++ (markL l).2 := by
  cases l with
  | nil => rfl
  | cons c r => rw [mark_cons]; split <;> rfl
/-- The head of a sequence, but for its last byte. -/
theorem head_back {b : UInt8} {params : List Int} {inter : List UInt8} (k r : Int) (t : ByteArray) (h : headOk ⟨k, r, b, params, ⟨inter.toArray⟩, t⟩ = true) (s : PSt) (h1 : s.state = 2 ∨ s.state = 5) (hi : s.inter = []) (ha : s.any = false) (hp : s.params = []) :
    (64 ≤ (b.toNat : Int) ∧ (b.toNat : Int) ≤ 126 ∧ params.length ≤ 32) ∧
    ∃ s', s.run ((markL inter).1 ++ parsL false params ++ (markL inter).2) = (s', []) ∧ s'.state = s.state ∧ s'.inter = inter ∧ s'.params = params ∧ s'.text = s.text ∧ s'.dec = s.dec := by
  unfold headOk preOk at h
  have h' : ((betweensL (markL inter).2 && (decide (64 ≤ (b.toNat : Int)) && (decide ((b.toNat : Int) ≤ 126) && (decide (params.length ≤ 32) && !(decide (params = [-1])))))) && params.all parOk) = true := h
  simp only [Bool.and_eq_true, decide_eq_true_eq, Bool.not_eq_true', decide_eq_false_iff_not, List.all_eq_true] at h'
  obtain ⟨⟨hbt, b1, b2, b3, b4⟩, hpar⟩ := h'
  have hpr : ∀ x ∈ params, -1 ≤ x ∧ x ≤ 9999 := fun x hx => by
    have := hpar x hx
    unfold parOk at this
    simpa using this
  unfold betweensL at hbt
  rw [Bool.and_eq_true, decide_eq_true_eq] at hbt
  refine ⟨⟨b1, b2, b3⟩, ?_⟩
  have e1 : s.run (markL inter).1 = ({ s with inter := (markL inter).1 }, []) ∧ ({ s with inter := (markL inter).1 } : PSt).btw = 0 := by
    cases inter with
    | nil =>
      refine ⟨?_, rfl⟩
      show (s, _) = (({ s with inter := [] } : PSt), _)
      rw [← hi]
    | cons c t =>
      rw [mark_cons]
      by_cases hc : 60 ≤ (c.toNat : Int) ∧ (c.toNat : Int) ≤ 63
      · rw [if_pos hc]
        refine ⟨?_, ?_⟩
        · have e : s.step c = ({ s with inter := [c] }, []) := by
            rw [seq_took h1 (by omega) (by omega)]
            unfold PSt.seqd
            have hn : betweenL (c.toNat : Int) = false := btwn_not (by omega)
            rw [if_neg (by omega), if_neg (by rw [hn]; simp), if_neg (by omega), if_neg (by omega), if_pos ⟨hc.1, by rw [hi]; rfl, ha⟩, hi]; rfl
          rw [run_cons e]; rfl
        · rw [btw_cons (s := ({ s with inter := [c] } : PSt)) (c := c) (r := []) rfl, if_pos hc.1]; rfl
      · rw [if_neg hc]
        refine ⟨?_, rfl⟩
        show (s, _) = (({ s with inter := [] } : PSt), _)
        rw [← hi]
  obtain ⟨s2, e2, f1, f2, f3, f4, f5⟩ := head_pars params { s with inter := (markL inter).1 } hpr (by exact h1) e1.2 ha hp (by omega) b4
  have hb2 : s2.btw = 0 := by
    have := e1.2
    unfold PSt.btw PSt.marked at this ⊢
    rw [f2]; exact this
  have e3 := rest_run (markL inter).2 s2 hbt.2 (by rw [f1]; exact h1) (by omega)
  refine ⟨{ s2 with inter := s2.inter ++ (markL inter).2 }, ?_, f1, ?_, f3, f4, f5⟩
  · rw [List.append_assoc, run_then e1.1, run_then e2, e3]; rfl
  · show s2.inter ++ (markL inter).2 = inter
    rw [f2]; exact (mark_all inter).symm
theorem second {s : PSt} (b : UInt8) (st : Int) (h1 : s.state = 1) (hi : s.inter = []) (hb : (b = 91 ∧ st = 2) ∨ (b = 93 ∧ st = 4) ∨ (b = 80 ∧ st = 5)) : s.step b = (s.begun st, []) := by
  have hr : 48 ≤ (b.toNat : Int) ∧ (b.toNat : Int) < 127 := by rcases hb with h | h | h <;> rw [h.1] <;> decide
  rw [step_took (by omega) (.inr (.inl hr.2))]
  unfold PSt.took
  rw [if_pos h1]
  unfold PSt.esced
  rw [if_neg (by rw [btwn_not hr.1]; simp), if_pos (by rw [hi]; rfl)]
  rcases hb with ⟨rfl, rfl⟩ | ⟨rfl, rfl⟩ | ⟨rfl, rfl⟩
  · rw [if_pos (by decide)]
  · rw [if_neg (by decide), if_pos (by decide)]
  · rw [if_neg (by decide), if_neg (by decide), if_pos (by decide)]
theorem csi_back {b : UInt8} {params : List Int} {inter : List UInt8} (h : headOk (csiAct b params inter) = true) (s : PSt) (hs : s.Clear) : ∃ s', s.run (wrL (csiAct b params inter)) = (s', [csiAct b params inter]) ∧ s'.Clear := by
  have e : wrL (csiAct b params inter) = 27 :: 91 :: (((markL inter).1 ++ parsL false params ++ (markL inter).2) ++ [b]) := by unfold wrL; rw [h]; simp [csiAct, headL]
  obtain ⟨s1, es, t1, t2, t3, t4, t5, t6, t7⟩ := esc_first hs
  have e2 := second (s := s1) 91 2 t1 t2 (.inl ⟨rfl, rfl⟩)
  obtain ⟨⟨b1, b2, b3⟩, s3, e3, f1, f2, f3, f4, f5⟩ := head_back 4 0 emp h (s1.begun 2) (.inl rfl) rfl rfl rfl
  have f1' : s3.state = 2 := f1
  have e4 : s3.step b = (s3.cut.begun 0, [csiAct b params inter]) := by
    rw [seq_took (.inl f1') (by omega) (by omega)]
    unfold PSt.seqd
    rw [if_pos b1, if_pos f1', f3, f2, List.take_of_length_le b3]
  refine ⟨s3.cut.begun 0, ?_, rfl, ?_⟩
  · rw [e, run_cons es, run_cons e2, run_then e3, run_cons e4]; rfl
  · show s3.dec.hav = 0
    rw [f5]; exact t7
theorem text_run : ∀ (l : List UInt8) (s : PSt), (∀ b ∈ l, 32 ≤ (b.toNat : Int)) → (s.state = 4 ∨ s.state = 6) → s.text.length + l.length ≤ 1024 → s.run l = ({ s with text := s.text ++ l }, [])
  | [], s, _, _, _ => by simp [PSt.run]
  | b :: l, s, hb, h1, hl => by
    rw [List.length_cons] at hl
    have e : s.step b = ({ s with text := s.text ++ [b] }, []) := by
      rw [step_took (hb b List.mem_cons_self) (.inl ((texts_iff s).2 (h1.elim .inl (fun h => .inr (.inl h)))))]
      unfold PSt.took
      rw [if_neg (by omega), if_neg (by omega), if_neg (by omega), if_pos h1, if_pos (by omega)]
    rw [run_cons e, text_run l _ (fun c hc => hb c (List.mem_cons_of_mem _ hc)) (by exact h1) (by show (s.text ++ [b]).length + _ ≤ 1024; rw [List.length_append, List.length_singleton]; omega)]
    simp
theorem bell_step {s : PSt} (h : s.state = 4) : s.step 7 = (s.begun 0, [oscAct s.text]) := by
  have ea : s.any1 7 = (true, s.begun 0, [oscAct s.text]) := by
    unfold PSt.any1 PSt.endActs
    rw [if_neg (by decide), if_neg (by decide), if_pos ⟨by decide, h⟩, if_pos h]
  unfold PSt.step
  rw [ea]; rfl
theorem osc_back {t : List UInt8} (hl : t.length ≤ 1024) (h : ∀ b ∈ t, 32 ≤ (b.toNat : Int)) (s : PSt) (hs : s.Clear) : ∃ s', s.run (wrL (oscAct t)) = (s', [oscAct t]) ∧ s'.Clear := by
  have e : wrL (oscAct t) = 27 :: 93 :: (t ++ [7]) := by unfold wrL; simp [oscAct, txt_ok hl h]
  obtain ⟨s1, es, t1, t2, t3, t4, t5, t6, t7⟩ := esc_first hs
  have e2 := second (s := s1) 93 4 t1 t2 (.inr (.inl ⟨rfl, rfl⟩))
  have e3 := text_run t (s1.begun 4) h (.inl rfl) (by show 0 + _ ≤ 1024; omega)
  have e4 : ({ (s1.begun 4) with text := (s1.begun 4).text ++ t } : PSt).step 7 = (({ (s1.begun 4) with text := (s1.begun 4).text ++ t } : PSt).begun 0, [oscAct t]) := bell_step rfl
  refine ⟨_, ?_, show (({ (s1.begun 4) with text := (s1.begun 4).text ++ t } : PSt).begun 0).Clear from ⟨rfl, t7⟩⟩
  rw [e, run_cons es, run_cons e2, run_then e3, run_cons e4]; rfl
theorem back_step {s : PSt} (h1 : s.state = 1) (hi : s.inter = []) (he : s.ended = true) : s.step 92 = (s.begun 0, []) := by
  rw [step_took (by decide) (.inr (.inl (by decide)))]
  unfold PSt.took
  rw [if_pos h1]
  unfold PSt.esced
  rw [if_neg (by decide), if_pos (by rw [hi]; rfl), if_neg (by decide), if_neg (by decide), if_neg (by decide), if_neg (by decide), if_pos ⟨by decide, he⟩]
theorem dcs_back {b : UInt8} {params : List Int} {inter t : List UInt8} (hl : t.length ≤ 1024) (ht : ∀ b ∈ t, 32 ≤ (b.toNat : Int)) (h : headOk (dcsAct b params inter t) = true) (s : PSt) (hs : s.Clear) :
    ∃ s', s.run (wrL (dcsAct b params inter t)) = (s', [dcsAct b params inter t]) ∧ s'.Clear := by
  have e : wrL (dcsAct b params inter t) = 27 :: 80 :: (((markL inter).1 ++ parsL false params ++ (markL inter).2) ++ (b :: (t ++ [27, 92]))) := by unfold wrL; rw [h]; simp [dcsAct, headL, txt_ok hl ht]
  obtain ⟨s1, es, t1, t2, t3, t4, t5, t6, t7⟩ := esc_first hs
  have e2 := second (s := s1) 80 5 t1 t2 (.inr (.inr ⟨rfl, rfl⟩))
  obtain ⟨⟨b1, b2, b3⟩, s3, e3, f1, f2, f3, f4, f5⟩ := head_back 6 0 _ h (s1.begun 5) (.inr rfl) rfl rfl rfl
  have f1' : s3.state = 5 := f1
  have e4 : s3.step b = ({ s3.cut with state := 6, final := b }, []) := by
    rw [seq_took (.inr f1) (by omega) (by omega)]
    unfold PSt.seqd
    rw [if_pos b1, if_neg (by omega)]
  have f4' : s3.text = [] := f4
  have e5 := text_run t { s3.cut with state := 6, final := b } ht (.inr rfl) (by show s3.text.length + _ ≤ 1024; rw [f4']; show 0 + _ ≤ 1024; omega)
  have f5' : s3.dec.hav = 0 := by rw [f5]; exact t7
  generalize hs4 : ({ ({ s3.cut with state := 6, final := b } : PSt) with text := ({ s3.cut with state := 6, final := b } : PSt).text ++ t } : PSt) = s4 at e5
  have g : s4.state = 6 ∧ s4.dec.hav = 0 ∧ s4.final = b ∧ s4.params = params ∧ s4.inter = inter ∧ s4.text = t := by
    subst hs4
    refine ⟨rfl, f5', rfl, ?_, f2, ?_⟩
    · show s3.params.take 32 = params
      rw [f3, List.take_of_length_le b3]
    · show s3.text ++ t = t
      rw [f4']; rfl
  obtain ⟨g1, g2, g3, g4, g5, g6⟩ := g
  have hend : s4.endActs = [dcsAct b params inter t] := by
    unfold PSt.endActs
    rw [if_neg (by omega), if_pos g1, g3, g4, g5, g6]
  have hd : endD s4.dec = (s4.dec, []) := by unfold endD; rw [if_pos g2]
  have htx : s4.texts = true := (texts_iff s4).2 (.inr (.inl g1))
  have e6 : s4.step 27 = ({ ({ s4 with dec := s4.dec } : PSt).begun 1 with ended := true }, [dcsAct b params inter t]) := by
    have ea : s4.any1 27 = (true, { ({ s4 with dec := s4.dec } : PSt).begun 1 with ended := true }, [dcsAct b params inter t]) := by
      unfold PSt.any1
      rw [if_neg (by decide), if_pos (by decide), hd, hend, htx]
      rfl
    unfold PSt.step
    rw [ea]; rfl
  have e7 : ({ ({ s4 with dec := s4.dec } : PSt).begun 1 with ended := true } : PSt).step 92 = (({ ({ s4 with dec := s4.dec } : PSt).begun 1 with ended := true } : PSt).begun 0, []) := by
    exact back_step rfl rfl rfl
  refine ⟨_, ?_, show (({ ({ s4 with dec := s4.dec } : PSt).begun 1 with ended := true } : PSt).begun 0).Clear from ⟨rfl, g2⟩⟩
  rw [e, run_cons es, run_cons e2, run_then e3, run_cons e4, run_then e5, run_cons e6, run_cons e7]; rfl
theorem act_back {a : VAct} (h : AOk a) (s : PSt) (hs : s.Clear) : ∃ s', s.run (wrL a) = (s', [a]) ∧ s'.Clear := by
  cases h with
  | pr h => exact pr_back h s hs
  | ctl h => exact ctl_back h s hs
  | esc h1 h2 => exact esc_back h2 s hs
  | csi h1 h2 h3 h4 => exact csi_back h4 s hs
  | osc h1 h2 => exact osc_back h1 h2 s hs
  | dcs h1 h2 h3 h4 h5 h6 => exact dcs_back h4 h5 h6 s hs
/-- What was told, written down, tells itself. -/
theorem run_back : ∀ (l : List VAct) (s : PSt), (∀ a ∈ l, AOk a) → s.Clear → ∃ s', s.run (prL l) = (s', l) ∧ s'.Clear
  | [], s, _, hs => ⟨s, rfl, hs⟩
  | a :: l, s, h, hs => by
    obtain ⟨s1, e1, c1⟩ := act_back (h a List.mem_cons_self) s hs
    obtain ⟨s2, e2, c2⟩ := run_back l s1 (fun x hx => h x (List.mem_cons_of_mem _ hx)) c1
    refine ⟨s2, ?_, c2⟩
    show s.run (wrL a ++ prL l) = _
    rw [run_then e1, e2]; rfl
end Go.Proofs.YtkdicejlfagaeaaDoor
