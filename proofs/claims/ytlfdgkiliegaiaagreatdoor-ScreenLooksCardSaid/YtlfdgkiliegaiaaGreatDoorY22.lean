/- Package grid, texts laid together: P9 Z15 Z22 U1 K33 Z14 U4. -/
import Derived.Test.YtlfdgkiliegaiaaGreatDoorY21
import Derived.Test.YtlfdgkiliegaiaaGreatDoorY20
import Derived.Test.YtlfdgkiliegaiaaGreatDoorY5
import Derived.Laws.ResultCell
import Derived.Test.YtlfdgkiliegaiaaGreatDoorY8
import Derived.Test.YtlfdgkiliegaiaaGreatDoorY13
import Derived.Test.YtlfdgkiliegaiaaGreatDoorY11
import Derived.Test.YtlfdgkiliegaiaaGreatDoorY14
/- Package vtparse, plain: what is told, written down, tells itself again: sequences and texts; all that was told. -/
namespace Go.Proofs.YtlfdgkiliegaiaaGreatDoor
open Go.RowKit

theorem set_end (l : List Int) (v d : Int) : setLast (l ++ [v]) d = l ++ [clamp v d] := by
  unfold setLast
  rw [List.length_append, List.length_singleton, Nat.add_sub_cancel, List.set_append_right _ _ (Nat.le_refl _), Nat.sub_self]
  simp
theorem seq_took {s : PSt} {b : UInt8} (h1 : s.state = 2 ∨ s.state = 5) (h32 : 32 ≤ (b.toNat : Int)) (h127 : (b.toNat : Int) < 127) : s.step b = s.seqd b := by
  rw [step_took h32 (.inr (.inl h127))]
  unfold PSt.took
  rw [if_neg (by omega), if_pos h1]
theorem dig_step {s : PSt} {b : UInt8} {P : List Int} {v : Int} (h1 : s.state = 2 ∨ s.state = 5) (hb : s.btw = 0) (ha : s.any = true) (hp : s.params = P ++ [v]) (h48 : 48 ≤ (b.toNat : Int)) (h57 : (b.toNat : Int) ≤ 57) :
    s.step b = ({ s with params := P ++ [clamp v ((b.toNat : Int) - 48)] }, []) := by
  rw [seq_took h1 (by omega) (by omega)]
  unfold PSt.seqd
  rw [if_neg (by omega), if_neg (by rw [btwn_not h48]; simp), if_pos ⟨by omega, btwn_not h48, hb⟩]
  unfold PSt.digit PSt.started
  rw [if_pos (by omega), if_pos ha, hp, set_end]
theorem sep_step {s : PSt} (h1 : s.state = 2 ∨ s.state = 5) (hb : s.btw = 0) (ha : s.any = true) (hl : s.params.length ≤ 32) :
    s.step 59 = ({ s with params := s.params ++ [-1] }, []) := by
  rw [seq_took h1 (by decide) (by decide)]
  unfold PSt.seqd
  rw [if_neg (by decide), if_neg (by intro h; exact absurd h.1 (by decide)), if_neg (by intro h; exact absurd h.1 (by decide)), if_pos ⟨by decide, hb⟩]
  unfold PSt.digit PSt.started
  rw [if_neg (by decide), if_pos ha, if_pos hl]
theorem seq_dig {s : PSt} {b : UInt8} (hb : s.btw = 0) (h48 : 48 ≤ (b.toNat : Int)) (h57 : (b.toNat : Int) ≤ 57) : s.seqd b = (s.digit ((b.toNat : Int) - 48), []) := by
  unfold PSt.seqd
  rw [if_neg (by omega), if_neg (by rw [btwn_not h48]; simp), if_pos ⟨by omega, btwn_not h48, hb⟩]
theorem seq_sep {s : PSt} {b : UInt8} (hb : s.btw = 0) (h59 : (b.toNat : Int) = 59) : s.seqd b = (s.digit (-1), []) := by
  unfold PSt.seqd
  rw [if_neg (by omega), if_neg (by rw [btwn_not (by omega)]; simp), if_neg (by omega), if_pos ⟨h59, hb⟩]
theorem started_step {s : PSt} {b : UInt8} (h1 : s.state = 2 ∨ s.state = 5) (hb : s.btw = 0) (h48 : 48 ≤ (b.toNat : Int)) (h59 : (b.toNat : Int) ≤ 59) (hn : (b.toNat : Int) ≠ 58) : s.step b = s.started.step b := by
  have e1 : s.started.state = s.state := by unfold PSt.started; split <;> rfl
  have e2 : s.started.btw = s.btw := by unfold PSt.started; split <;> rfl
  have e3 : s.started.started = s.started := by unfold PSt.started; cases h : s.any <;> simp [h]
  rw [seq_took h1 (by omega) (by omega), seq_took (by rw [e1]; exact h1) (by omega) (by omega)]
  have hd : ∀ d, s.started.digit d = s.digit d := fun d => by unfold PSt.digit; rw [e3]
  by_cases hb58 : (b.toNat : Int) < 58
  · rw [seq_dig hb h48 (by omega), seq_dig (by rw [e2]; exact hb) h48 (by omega), hd]
  · rw [seq_sep hb (by omega), seq_sep (by rw [e2]; exact hb) (by omega), hd]
theorem digits_run : ∀ (m n : Nat) (_ : n ≤ m) (s : PSt) (P : List Int), n ≤ 9999 → (s.state = 2 ∨ s.state = 5) → s.btw = 0 → s.any = true → s.params = P ++ [-1] →
    s.run (Lib.decDigits n) = ({ s with params := P ++ [(n : Int)] }, [])
  | m, n, hm, s, P, hn, h1, hb, ha, hp => by
    by_cases h : n < 10
    · rw [Lib.decDigits_one h]
      have hd := byte_of (48 + n) (by omega)
      rw [run_cons (dig_step h1 hb ha hp (by omega) (by omega)), hd]
      have hc : clamp (-1) (((48 + n : Nat) : Int) - 48) = (n : Int) := by unfold clamp; omega
      rw [hc]; rfl
    · rw [dec_step n h]
      have hd := byte_of (48 + n % 10) (by omega)
      cases m with
      | zero => omega
      | succ m =>
        have ih := digits_run m (n / 10) (by omega) s P (by omega) h1 hb ha hp
        rw [run_then ih, run_cons (dig_step (P := P) (v := ((n / 10 : Nat) : Int)) (by exact h1) (by exact hb) (by exact ha) rfl (by omega) (by omega)), hd]
        have hc : clamp ((n / 10 : Nat) : Int) (((48 + n % 10 : Nat) : Int) - 48) = (n : Int) := by unfold clamp; omega
        rw [hc]; rfl
theorem par_run {x : Int} (hx : -1 ≤ x ∧ x ≤ 9999) (s : PSt) (P : List Int) (h1 : s.state = 2 ∨ s.state = 5) (hb : s.btw = 0) (ha : s.any = true) (hp : s.params = P ++ [-1]) :
    s.run (if 0 ≤ x then Lib.itoa x else []) = ({ s with params := P ++ [x] }, []) := by
  by_cases h0 : 0 ≤ x
  · rw [if_pos h0]
    obtain ⟨n, rfl⟩ : ∃ n : Nat, x = (n : Int) := ⟨x.toNat, by omega⟩
    rw [itoa_of]
    exact digits_run n n (Nat.le_refl _) s P (by omega) h1 hb ha hp
  · have : x = -1 := by omega
    subst this
    rw [if_neg h0, ← hp]; rfl
theorem pars_run : ∀ (l : List Int) (s : PSt), (∀ x ∈ l, -1 ≤ x ∧ x ≤ 9999) → (s.state = 2 ∨ s.state = 5) → s.btw = 0 → s.any = true → s.params.length + l.length ≤ 33 →
    s.run (parsL true l) = ({ s with params := s.params ++ l }, [])
  | [], s, _, _, _, _, _ => by simp [parsL, PSt.run]
  | x :: l, s, hl, h1, hb, ha, hn => by
    rw [List.length_cons] at hn
    have e1 := sep_step h1 hb ha (by omega)
    have e2 := par_run (hl x List.mem_cons_self) { s with params := s.params ++ [-1] } s.params (by exact h1) (by exact hb) (by exact ha) rfl
    have e3 := pars_run l { s with params := s.params ++ [x] } (fun y hy => hl y (List.mem_cons_of_mem _ hy)) (by exact h1) (by exact hb) (by exact ha) (by show (s.params ++ [x]).length + _ ≤ 33; rw [List.length_append, List.length_singleton]; omega)
    show s.run ((59 :: (if 0 ≤ x then Lib.itoa x else [])) ++ parsL true l) = _
    rw [List.cons_append, run_cons e1, run_then e2, e3]
    simp
theorem first_dig (n : Nat) : ∃ b l, Lib.decDigits n = b :: l ∧ 48 ≤ (b.toNat : Int) ∧ (b.toNat : Int) ≤ 57 := by
  induction n using Nat.strongRecOn with
  | ind n ih =>
    by_cases h : n < 10
    · refine ⟨UInt8.ofNat (48 + n), [], Lib.decDigits_one h, ?_⟩
      rw [byte_of _ (by omega)]; omega
    · obtain ⟨b, l, e, hb⟩ := ih (n / 10) (by omega)
      exact ⟨b, l ++ [UInt8.ofNat (48 + n % 10)], by rw [dec_step n h, e]; rfl, hb⟩
theorem head_pars (l : List Int) (s : PSt) (hl : ∀ x ∈ l, -1 ≤ x ∧ x ≤ 9999) (h1 : s.state = 2 ∨ s.state = 5) (hb : s.btw = 0) (ha : s.any = false) (hp : s.params = []) (hn : l.length ≤ 33) (hne : l ≠ [-1]) :
    ∃ s', s.run (parsL false l) = (s', []) ∧ s'.state = s.state ∧ s'.inter = s.inter ∧ s'.params = l ∧ s'.text = s.text ∧ s'.dec = s.dec := by
  cases l with
  | nil => exact ⟨s, rfl, rfl, rfl, hp, rfl, rfl⟩
  | cons x r =>
    have hx := hl x List.mem_cons_self
    have es : s.started = { s with any := true, params := [-1] } := by unfold PSt.started; rw [ha]; rfl
    have key : ∀ (b : UInt8) (t : List UInt8), 48 ≤ (b.toNat : Int) → (b.toNat : Int) ≤ 59 → (b.toNat : Int) ≠ 58 → s.run (b :: t) = s.started.run (b :: t) := fun b t k1 k2 k3 => by
      show (((s.step b).1.run t).1, (s.step b).2 ++ ((s.step b).1.run t).2) = _
      rw [started_step h1 hb k1 k2 k3]; rfl
    have e2 := par_run hx s.started [] (by rw [es]; exact h1) (by rw [es]; exact hb) (by rw [es]) (by rw [es]; rfl)
    rw [List.nil_append] at e2
    rw [List.length_cons] at hn
    have e3 := pars_run r { s.started with params := [x] } (fun y hy => hl y (List.mem_cons_of_mem _ hy)) (by rw [es]; exact h1) (by rw [es]; exact hb) (by rw [es]) (by show 1 + _ ≤ 33; omega)
    have tot : s.started.run (parsL false (x :: r)) = ({ s.started with params := x :: r }, []) := by
      show s.started.run (([] ++ (if 0 ≤ x then Lib.itoa x else [])) ++ parsL true r) = _
      rw [List.nil_append, run_then e2, e3]; rfl
    have same : s.run (parsL false (x :: r)) = s.started.run (parsL false (x :: r)) := by
      show s.run (([] ++ (if 0 ≤ x then Lib.itoa x else [])) ++ parsL true r) = s.started.run (([] ++ (if 0 ≤ x then Lib.itoa x else [])) ++ parsL true r)
      rw [List.nil_append]
      by_cases h0 : 0 ≤ x
      · rw [if_pos h0]
        obtain ⟨n, rfl⟩ : ∃ n : Nat, x = (n : Int) := ⟨x.toNat, by omega⟩
        rw [itoa_of]
        obtain ⟨b, t, e, k1, k2⟩ := first_dig n
        rw [e, List.cons_append]
        exact key b _ k1 (by omega) (by omega)
      · rw [if_neg h0, List.nil_append]
        cases r with
        | nil => exact absurd (show [x] = [-1] by rw [show x = -1 by omega]) hne
        | cons y r' => exact key 59 _ (by decide) (by decide) (by decide)
    refine ⟨_, by rw [same, tot], ?_, ?_, rfl, ?_, ?_⟩ <;> rw [es]
theorem btw_snoc {s : PSt} {b : UInt8} (hb : (b.toNat : Int) ≤ 47) : ({ s with inter := s.inter ++ [b] } : PSt).btw = s.btw + 1 := by
  cases hs : s.inter with
  | nil =>
    rw [btw_cons (s := ({ s with inter := [] ++ [b] } : PSt)) (c := b) (r := []) rfl, if_neg (by omega)]
    unfold PSt.btw PSt.marked; rw [hs]; rfl
  | cons c r =>
    rw [btw_cons (s := ({ s with inter := (c :: r) ++ [b] } : PSt)) (c := c) (r := r ++ [b]) rfl, btw_cons hs, List.length_append, List.length_singleton]
    split <;> omega
theorem rest_run : ∀ (l : List UInt8) (s : PSt), onlyL l 32 47 = true → (s.state = 2 ∨ s.state = 5) → s.btw + l.length ≤ 2 → s.run l = ({ s with inter := s.inter ++ l }, [])
  | [], s, _, _, _ => by simp [PSt.run]
  | b :: l, s, ho, h1, hl => by
    unfold onlyL at ho
    rw [List.all_cons, Bool.and_eq_true, Bool.and_eq_true, decide_eq_true_eq, decide_eq_true_eq] at ho
    rw [List.length_cons] at hl
    have e : s.step b = ({ s with inter := s.inter ++ [b] }, []) := by
      rw [seq_took h1 ho.1.1 (by omega)]
      unfold PSt.seqd
      rw [if_neg (by omega), if_pos ⟨btwn.2 ho.1, by omega⟩]
    rw [run_cons e, rest_run l _ (by unfold onlyL; exact ho.2) (by exact h1) (by rw [btw_snoc ho.1.2]; omega)]
    simp
theorem mark_all (l : List UInt8) : l = (markL l).1 ++ (markL l).2 := by
  cases l with
  | nil => rfl
  | cons c r => rw [mark_cons]; split <;> rfl
/-- The head of a sequence, but for its last byte. -/
theorem head_back {b : UInt8} {params : List Int} {inter : List UInt8} (k r : Int) (t : ByteArray) (h : headOk ⟨k, r, b, params, ⟨inter.toArray⟩, t⟩ = true) (s : PSt) (h1 : s.state = 2 ∨ s.state = 5) (hi : s.inter = []) (ha : s.any = false) (hp : s.params = []) :
    (64 ≤ (b.toNat : Int) ∧ (b.toNat : Int) ≤ 126 ∧ params.length ≤ 32) ∧
    ∃ s', s.run ((markL inter).1 ++ parsL false params ++ (markL inter).2) = (s', []) ∧ s'.state = s.state ∧ s'.inter = inter ∧ s'.params = params ∧ s'.text = s.text ∧ s'.dec = s.dec := by
  unfold headOk preOk at h
  have h' : ((betweensL (markL inter).2 && (decide (64 ≤ (b.toNat : Int)) && (decide ((b.toNat : Int) ≤ 126) && (decide (params.length ≤ 32) && !(decide (params = [-1])))))) && params.all parOk) = true := h
  simp only [Bool.and_eq_true, decide_eq_true_eq, Bool.not_eq_true', decide_eq_false_iff_not, List.all_eq_true] at h'
  obtain ⟨⟨hbt, b1, b2, b3, b4⟩, hpar⟩ := h'
  have hpr : ∀ x ∈ params, -1 ≤ x ∧ x ≤ 9999 := fun x hx => by
    have := hpar x hx
    unfold parOk at this
    simpa using this
  unfold betweensL at hbt
  rw [Bool.and_eq_true, decide_eq_true_eq] at hbt
  refine ⟨⟨b1, b2, b3⟩, ?_⟩
  have e1 : s.run (markL inter).1 = ({ s with inter := (markL inter).1 }, []) ∧ ({ s with inter := (markL inter).1 } : PSt).btw = 0 := by
    cases inter with
    | nil =>
      refine ⟨?_, rfl⟩
      show (s, _) = (({ s with inter := [] } : PSt), _)
      rw [← hi]
    | cons c t =>
      rw [mark_cons]
      by_cases hc : 60 ≤ (c.toNat : Int) ∧ (c.toNat : Int) ≤ 63
      · rw [if_pos hc]
        refine ⟨?_, ?_⟩
        · have e : s.step c = ({ s with inter := [c] }, []) := by
            rw [seq_took h1 (by omega) (by omega)]
            unfold PSt.seqd
            have hn : betweenL (c.toNat : Int) = false := btwn_not (by omega)
            rw [if_neg (by omega), if_neg (by rw [hn]; simp), if_neg (by omega), if_neg (by omega), if_pos ⟨hc.1, by rw [hi]; rfl, ha⟩, hi]; rfl
          rw [run_cons e]; rfl
        · rw [btw_cons (s := ({ s with inter := [c] } : PSt)) (c := c) (r := []) rfl, if_pos hc.1]; rfl
      · rw [if_neg hc]
        refine ⟨?_, rfl⟩
        show (s, _) = (({ s with inter := [] } : PSt), _)
        rw [← hi]
  obtain ⟨s2, e2, f1, f2, f3, f4, f5⟩ := head_pars params { s with inter := (markL inter).1 } hpr (by exact h1) e1.2 ha hp (by omega) b4
  have hb2 : s2.btw = 0 := by
    have := e1.2
    unfold PSt.btw PSt.marked at this ⊢
    rw [f2]; exact this
  have e3 := rest_run (markL inter).2 s2 hbt.2 (by rw [f1]; exact h1) (by omega)
  refine ⟨{ s2 with inter := s2.inter ++ (markL inter).2 }, ?_, f1, ?_, f3, f4, f5⟩
  · rw [List.append_assoc, run_then e1.1, run_then e2, e3]; rfl
  · show s2.inter ++ (markL inter).2 = inter
    rw [f2]; exact (mark_all inter).symm
theorem second {s : PSt} (b : UInt8) (st : Int) (h1 : s.state = 1) (hi : s.inter = []) (hb : (b = 91 ∧ st = 2) ∨ (b = 93 ∧ st = 4) ∨ (b = 80 ∧ st = 5)) : s.step b = (s.begun st, []) := by
  have hr : 48 ≤ (b.toNat : Int) ∧ (b.toNat : Int) < 127 := by rcases hb with h | h | h <;> rw [h.1] <;> decide
  rw [step_took (by omega) (.inr (.inl hr.2))]
  unfold PSt.took
  rw [if_pos h1]
  unfold PSt.esced
  rw [if_neg (by rw [btwn_not hr.1]; simp), if_pos (by rw [hi]; rfl)]
  rcases hb with ⟨rfl, rfl⟩ | ⟨rfl, rfl⟩ | ⟨rfl, rfl⟩
  · rw [if_pos (by decide)]
  · rw [if_neg (by decide), if_pos (by decide)]
  · rw [if_neg (by decide), if_neg (by decide), if_pos (by decide)]
theorem csi_back {b : UInt8} {params : List Int} {inter : List UInt8} (h : headOk (csiAct b params inter) = true) (s : PSt) (hs : s.Clear) : ∃ s', s.run (wrL (csiAct b params inter)) = (s', [csiAct b params inter]) ∧ s'.Clear := by
  have e : wrL (csiAct b params inter) = 27 :: 91 :: (((markL inter).1 ++ parsL false params ++ (markL inter).2) ++ [b]) := by unfold wrL; rw [h]; simp [csiAct, headL]
  obtain ⟨s1, es, t1, t2, t3, t4, t5, t6, t7⟩ := esc_first hs
  have e2 := second (s := s1) 91 2 t1 t2 (.inl ⟨rfl, rfl⟩)
  obtain ⟨⟨b1, b2, b3⟩, s3, e3, f1, f2, f3, f4, f5⟩ := head_back 4 0 emp h (s1.begun 2) (.inl rfl) rfl rfl rfl
  have f1' : s3.state = 2 := f1
  have e4 : s3.step b = (s3.cut.begun 0, [csiAct b params inter]) := by
    rw [seq_took (.inl f1') (by omega) (by omega)]
    unfold PSt.seqd
    rw [if_pos b1, if_pos f1', f3, f2, List.take_of_length_le b3]
  refine ⟨s3.cut.begun 0, ?_, rfl, ?_⟩
  · rw [e, run_cons es, run_cons e2, run_then e3, run_cons e4]; rfl
  · show s3.dec.hav = 0
    rw [f5]; exact t7
end Go.Proofs.YtlfdgkiliegaiaaGreatDoor

/- Looks fed to a screen, plain. -/
namespace Go.Proofs.YtlfdgkiliegaiaaGreatDoor
open Go.RowKit

/-- A CSI without signs between, fed. -/
theorem csi_feed {b : UInt8} {ps : List Int} (h : headOk (csiAct b ps []) = true) (t : Trm) (ht : t.par.Clear) :
    ∃ q : PSt, t.feed ([27, 91] ++ (parsL false ps ++ [b])) = (⟨({ t.scr with out := [] } : Scr).csi b ps [], q⟩, (({ t.scr with out := [] } : Scr).csi b ps []).out) ∧ q.Clear := by
  obtain ⟨q, e, hq⟩ := csi_back h t.par ht
  have ew : wrL (csiAct b ps []) = [27, 91] ++ (parsL false ps ++ [b]) := by
    unfold wrL
    rw [h]
    show [27, 91] ++ headL (csiAct b ps []) = _
    unfold headL
    show [27, 91] ++ ([] ++ parsL false ps ++ [] ++ [b]) = _
    simp
  rw [ew] at e
  refine ⟨q, ?_, hq⟩
  rw [feed_run _ t (by rw [e]; intro a ha; rw [List.mem_singleton] at ha; subst ha; rfl), e]
  have ea : t.scr.act (csiAct b ps []) = ({ t.scr with out := [] } : Scr).csi b ps [] := rfl
  unfold Scr.acts Scr.acts
  rw [ea, List.append_nil]
theorem csi_looks (s : Scr) (ps : List Int) : s.csi 109 ps [] = s.looks ps := by
  unfold Scr.csi
  rw [if_pos rfl]
  have e1 : ∀ n, s.move ((109 : UInt8).toNat : Int) n = none := fun n => by
    unfold Scr.move
    simp
  have e2 : ∀ n, s.edit ((109 : UInt8).toNat : Int) n = none := fun n => by
    unfold Scr.edit
    simp
  rw [e1, e2]
  unfold Scr.others
  simp
theorem numP_ok {c d : Int} (h : colOk c = true) (hd : d = 0 ∨ d = 10) : (numP c d).length ≤ 5 ∧ ∀ x ∈ numP c d, 0 ≤ x ∧ x ≤ 9999 := by
  have hc := colOk_cases h
  unfold numP
  repeat' split
  all_goals
    refine ⟨by simp, fun x hx => ?_⟩
    simp only [List.mem_cons, List.not_mem_nil, or_false] at hx
    omega
theorem sgrP_ok {f t : Sty} (ht : okS t = true) : (sgrP f t).length ≤ 19 ∧ ∀ x ∈ sgrP f t, 0 ≤ x ∧ x ≤ 9999 := by
  obtain ⟨_, _, _, c1, c2⟩ := okS_nat ht
  have hn1 := numP_ok c1 (.inl rfl)
  have hn2 := numP_ok c2 (.inr rfl)
  have hA : ∀ a b : Int, (sgrA a b).length ≤ 8 ∧ ∀ x ∈ sgrA a b, 0 ≤ x ∧ x ≤ 9999 := fun a b => by
    unfold sgrA
    refine ⟨by rw [List.length_map]; exact List.length_filter_le _ _, fun x hx => ?_⟩
    obtain ⟨kc, hk, rfl⟩ := List.mem_map.1 hx
    have := (look1_bit plainS (List.mem_filter.1 hk).1).2
    omega
  have hA := hA (sgrF f t).attr t.attr
  have h1 : (if bNot f.attr t.attr ≠ 0 then [0] else [] : List Int).length ≤ 1 ∧ ∀ x ∈ (if bNot f.attr t.attr ≠ 0 then [0] else [] : List Int), 0 ≤ x ∧ x ≤ 9999 := by
    split <;> simp
  have h2 : (if t.fg ≠ (sgrF f t).fg then numP t.fg 0 else []).length ≤ 5 ∧ ∀ x ∈ (if t.fg ≠ (sgrF f t).fg then numP t.fg 0 else []), 0 ≤ x ∧ x ≤ 9999 := by
    split
    · exact hn1
    · simp
  have h3 : (if t.bg ≠ (sgrF f t).bg then numP t.bg 10 else []).length ≤ 5 ∧ ∀ x ∈ (if t.bg ≠ (sgrF f t).bg then numP t.bg 10 else []), 0 ≤ x ∧ x ≤ 9999 := by
    split
    · exact hn2
    · simp
  unfold sgrP
  refine ⟨?_, fun x hx => ?_⟩
  · simp only [List.length_append]
    omega
  · simp only [List.mem_append] at hx
    rcases hx with ((hx | hx) | hx) | hx
    · exact h1.2 x hx
    · exact hA.2 x hx
    · exact h2.2 x hx
    · exact h3.2 x hx
theorem head_109 {ps : List Int} (h1 : ps.length ≤ 32) (h2 : ∀ x ∈ ps, 0 ≤ x ∧ x ≤ 9999) : headOk (csiAct 109 ps []) = true := by
  have e1 : ps.all parOk = true := by
    rw [List.all_eq_true]
    intro x hx
    have := h2 x hx
    unfold parOk
    rw [Bool.and_eq_true, decide_eq_true_eq, decide_eq_true_eq]
    omega
  have e2 : ¬ ps = [-1] := fun e => by
    have := h2 (-1) (by rw [e]; exact List.mem_singleton.2 rfl)
    omega
  unfold headOk
  show (preOk (markL []).2 109 ps && ps.all parOk) = true
  rw [e1, Bool.and_true]
  unfold preOk
  rw [decide_eq_true h1, decide_eq_false e2]
  rfl
/-- What turns a look into another one, fed: that look, no answer. -/
theorem looks_feed {f g : Sty} (hf : okS f = true) (hg : okS g = true) (t : Trm) (ht : t.par.Clear) (hp : t.scr.now.pen = f) :
    ∃ (o : List UInt8) (q : PSt), t.feed (sgrL f g) = (⟨{ t.scr with out := o, now := { t.scr.now with pen := g } }, q⟩, []) ∧ q.Clear := by
  unfold sgrL
  by_cases h : f = g
  · rw [if_pos ⟨by rw [h], by rw [h], by rw [h]⟩]
    refine ⟨t.scr.out, t.par, ?_, ht⟩
    rw [← h, ← hp]
    rfl
  · rw [if_neg (fun e => h (by cases f; cases g; simp only at e; obtain ⟨e1, e2, e3⟩ := e; subst e1 e2 e3; rfl))]
    have ho := sgrP_ok (f := f) hg
    obtain ⟨q, e, hq⟩ := csi_feed (b := 109) (ps := sgrP f g) (head_109 (by omega) ho.2) t ht
    refine ⟨[], q, ?_, hq⟩
    rw [List.append_assoc, e, csi_looks]
    have el : looksL (sgrP f g) t.scr.now.pen = g := by rw [hp]; exact looks_sgr hf hg h
    unfold Scr.looks
    dsimp only
    rw [el]
/-- ESC [ m: the plain look. -/
theorem plain_feed (t : Trm) (ht : t.par.Clear) : ∃ q : PSt, t.feed [27, 91, 109] = (⟨{ t.scr with out := [], now := { t.scr.now with pen := plainS } }, q⟩, []) ∧ q.Clear := by
  obtain ⟨q, e, hq⟩ := csi_feed (b := 109) (ps := []) (head_109 (by simp) (by simp)) t ht
  refine ⟨q, ?_, hq⟩
  have e' : t.feed [27, 91, 109] = _ := e
  rw [e', csi_looks]
  rfl
end Go.Proofs.YtlfdgkiliegaiaaGreatDoor

/- What a screen answers is short, its last rune a rune, plain. -/
namespace Go.Proofs.YtlfdgkiliegaiaaGreatDoor
open Go.RowKit

def R32 (n : Int) : Prop := -2147483648 ≤ n ∧ n ≤ 2147483647
/-- Nothing said since, the last rune a rune. -/
def Lv (o : List UInt8) (s : Scr) : Prop := s.out = o ∧ R32 s.last
section
variable {o : List UInt8} {s : Scr}
theorem Lv.turn (h : Lv o s) (f : Gr → Gr) : Lv o (s.turn f) := by
  unfold Scr.turn
  cases ho : s.other with
  | none => exact h
  | some g => exact h
theorem Lv.index (h : Lv o s) : Lv o s.index := by
  unfold Scr.index
  split
  · exact h.turn _
  · split
    · exact h
    · exact h
theorem Lv.reverse (h : Lv o s) : Lv o s.reverse := by
  unfold Scr.reverse
  split
  · exact h.turn _
  · split
    · exact h
    · exact h
theorem Lv.toX (h : Lv o s) (x : Int) : Lv o (s.toX x) := h
theorem Lv.calm (h : Lv o s) : Lv o s.calm := h
theorem Lv.on (h : Lv o s) : Lv o s.on := ((h.turn _).toX 0).index
theorem Lv.fit (h : Lv o s) (w : Int) : Lv o (s.fit w) := by
  unfold Scr.fit
  have h1 : Lv o (if s.now.wait && s.has 1 then s.on else s) := by
    split
    · exact h.on
    · exact h
  generalize (if s.now.wait && s.has 1 then s.on else s) = t at h1
  dsimp only
  split
  · split
    · exact h1.calm.on
    · exact h1
  · exact h1
theorem Lv.lay (h : Lv o s) (c w : Int) : Lv o (s.lay c w) := by
  unfold Scr.lay
  have h1 : Lv o (if s.has 2 then s.turn (fun g => g.ins s.now.x s.now.y w s.blank) else s) := by
    split
    · exact h.turn _
    · exact h
  generalize (if s.has 2 then s.turn (fun g => g.ins s.now.x s.now.y w s.blank) else s) = t at h1
  dsimp only
  have h2 : Lv o (t.turn (fun g => g.put t.now.x t.now.y ⟨c, w, t.now.pen⟩)) := h1.turn _
  split
  · exact h2
  · exact h2
theorem Lv.print (h : Lv o s) {r : Int} (hr : R32 r) : Lv o (s.print r) := by
  unfold Scr.print
  dsimp only
  split
  · exact h
  · exact ⟨((h.fit _).lay _ _).1, hr⟩
theorem Lv.control (h : Lv o s) (b : UInt8) : Lv o (s.control b) := by
  unfold Scr.control
  have h1 : Lv o (if 8 ≤ (b.toNat : Int) ∧ (b.toNat : Int) ≤ 13 then s.calm else s) := by
    split
    · exact h
    · exact h
  dsimp only
  generalize (if 8 ≤ (b.toNat : Int) ∧ (b.toNat : Int) ≤ 13 then s.calm else s) = t at h1 ⊢
  have hi := h1.index
  split
  · exact h1
  split
  · exact h1
  split
  · exact h1
  split
  · split
    · exact hi
    · exact hi
  split
  · exact h1
  split
  · exact h1
  · exact h1
theorem Lv.setSlot (h : Lv o s) (v : Sav) : Lv o (s.setSlot v) := by
  unfold Scr.setSlot
  split
  · exact h
  · exact h
theorem Lv.save (h : Lv o s) : Lv o s.save := by
  have h1 : Lv o { s with now := { s.now with origin := s.has 4 } } := h
  exact h1.setSlot _
theorem Lv.keep (h : Lv o s) (on : Bool) : Lv o (s.keep on) := by
  unfold Scr.keep
  split
  · exact h.save
  · exact h
theorem Lv.swap (h : Lv o s) (on : Bool) : Lv o (s.swap on) := by
  unfold Scr.swap
  split
  · exact h
  · exact h
theorem Lv.fill (h : Lv o s) : Lv o s.fill := by
  have h1 : Lv o ((s.whole).place 0 0) := h
  exact h1.turn _
theorem Lv.reset (h : Lv o s) : Lv o s.reset := ⟨h.1, by show R32 0; unfold R32; decide⟩
/-- Little said. -/
def Lb (s : Scr) : Prop := s.out.length ≤ 600 ∧ R32 s.last
theorem Lv.lb (h : Lv [] s) : Lb s := ⟨by rw [h.1]; exact Nat.zero_le _, h.2⟩
theorem Lv.say (h : Lv [] s) {t : List UInt8} (ht : t.length ≤ 600) : Lb (s.say t) := ⟨by show (s.out ++ t).length ≤ 600; rw [h.1]; exact ht, h.2⟩
theorem Lv.bare (h : Lv [] s) (b : UInt8) : Lb (s.bare b) := by
  have h0 : Lv [] (s.toX 0) := h
  unfold Scr.bare
  dsimp only
  split
  · exact h.save.lb
  split
  · exact h.lb
  split
  · exact h0.index.calm.lb
  split
  · exact h.index.calm.lb
  split
  · exact h.reverse.calm.lb
  split
  · exact h.lb
  split
  · exact h.reset.lb
  split
  · exact h.lb
  split
  · exact h.say (by decide)
  · exact h.lb
theorem Lv.escape (h : Lv [] s) (b : UInt8) (i : List UInt8) : Lb (s.escape b i) := by
  unfold Scr.escape
  dsimp only
  repeat' split
  all_goals first | exact h.lb | exact h.fill.lb | exact h.bare b
theorem itF_lv {f : Scr → Scr} (hf : ∀ t : Scr, Lv o t → Lv o (f t)) : ∀ (n : Nat) (t : Scr), Lv o t → Lv o (itF f n t)
  | 0, _, h => h
  | n + 1, t, h => itF_lv hf n (f t) (hf t h)
theorem foldl_lv {f : Scr → Nat → Scr} (hf : ∀ (t : Scr) i, Lv o t → Lv o (f t i)) : ∀ (l : List Nat) (t : Scr), Lv o t → Lv o (l.foldl f t)
  | [], _, h => h
  | i :: l, t, h => foldl_lv hf l (f t i) (hf t i h)
theorem Lv.move (h : Lv o s) (k n : Int) : ∀ t, s.move k n = some t → Lv o t := by
  intro t ht
  unfold Scr.move at ht
  repeat' split at ht
  all_goals first
    | (cases ht; exact h)
    | (injection ht with ht; subst ht; exact itF_lv (f := Scr.tab) (fun _ hu => hu) _ _ h)
    | (injection ht with ht; subst ht; exact itF_lv (f := Scr.back) (fun _ hu => hu) _ _ h)
    | cases ht
theorem Lv.edit (h : Lv o s) (k n : Int) : ∀ t, s.edit k n = some t → Lv o t := by
  intro t ht
  unfold Scr.edit at ht
  split at ht
  · cases ht; exact h.turn _
  split at ht
  · cases ht; exact h.turn _
  split at ht
  · cases ht; exact h.turn _
  split at ht
  · cases ht
    split
    · have h1 : Lv o ((s.toX 0).calm) := h
      exact h1.turn _
    · exact h
  split at ht
  · cases ht
    split
    · have h1 : Lv o ((s.toX 0).calm) := h
      exact h1.turn _
    · exact h
  split at ht
  · cases ht; exact h.turn _
  split at ht
  · cases ht; exact h.turn _
  split at ht
  · cases ht
    refine itF_lv (fun u hu => ?_) _ _ h
    split
    · exact hu.print hu.2
    · exact hu
  · cases ht
theorem Lv.clean (h : Lv o s) (y z : Int) : Lv o (s.clean y z) := h.turn _
theorem Lv.inRow (h : Lv o s) (k : Int) : Lv o (s.inRow k) := by
  have hc : Lv o s.calm := h
  unfold Scr.inRow
  split
  · exact hc.turn _
  split
  · exact hc.turn _
  split
  · exact hc.clean _ _
  · exact hc
theorem Lv.inAll (h : Lv o s) (k : Int) : Lv o (s.inAll k) := by
  have hc : Lv o s.calm := h
  unfold Scr.inAll
  split
  · exact (h.inRow 0).clean _ _
  split
  · exact (h.inRow 1).clean _ _
  split
  · exact hc.clean _ _
  split
  · exact hc
  · exact hc
theorem Lv.region (h : Lv o s) (ps : List Int) : Lv o (s.region ps) := by
  unfold Scr.region
  dsimp only
  repeat' split
  all_goals exact h
theorem Lv.setMode1 (h : Lv o s) (k : Int) (on : Bool) : Lv o (s.setMode1 k on) := by
  unfold Scr.setMode1
  repeat' split
  all_goals exact h
theorem Lv.private (h : Lv o s) (k : Int) (on : Bool) : Lv o (s.private k on) := by
  unfold Scr.private
  dsimp only
  split
  · exact h
  split
  · exact h
  split
  · exact h
  split
  · exact h
  split
  · exact h.swap _
  split
  · exact h.keep _
  split
  · split
    · exact h.save.swap _
    · exact h.swap _
  split
  · exact h
  split
  · exact h
  · exact h
theorem Lv.soft (h : Lv o s) : Lv o s.soft := by
  unfold Scr.soft
  dsimp only
  refine Lv.setSlot (o := o) ?_ _
  exact h
variable {c r : Nat}
theorem itoa_short {n : Int} (h : -1000000 ≤ n ∧ n ≤ 1000000) : (Lib.itoa n).length ≤ 21 := Lib.itoa_length_le n (by omega) (by omega)
theorem Lv.report (h : Lv [] s) (hok : s.Ok c r) (hc : c ≤ 1000) (hr : r ≤ 1000) (k : Int) : Lb (s.report k) := by
  unfold Scr.report
  split
  · exact h.say (by decide)
  split
  · have n := hok.now
    have e1 : (Lib.itoa ((if s.has 4 then max 0 (s.now.y - s.top) else s.now.y) + 1)).length ≤ 21 := itoa_short (by
      have := n.y0
      have := n.y1
      have := hok.t0
      have := hok.tb
      have := hok.b1
      split <;> omega)
    have e2 : (Lib.itoa (s.now.x + 1)).length ≤ 21 := itoa_short (by
      have := n.x0
      have := n.x1
      omega)
    refine h.say ?_
    simp only [List.length_append, List.length_cons, List.length_nil]
    omega
  · exact h.lb
theorem Lv.others (h : Lv [] s) (hok : s.Ok c r) (hc : c ≤ 1000) (hr : r ≤ 1000) (k : Int) (ps : List Int) : Lb (s.others k ps) := by
  unfold Scr.others
  dsimp only
  split
  · exact h.lb
  split
  · exact (h.inAll _).lb
  split
  · exact (h.inRow _).lb
  split
  · split
    · exact h.say (by decide)
    · exact h.lb
  split
  · exact h.report hok hc hr _
  split
  · split
    · exact h.lb
    · split
      · exact h.lb
      · exact h.lb
  split
  · exact (foldl_lv (fun t i ht => ht.setMode1 _ _) _ _ h).lb
  split
  · exact h.lb
  split
  · exact (h.region _).lb
  split
  · exact (h.keep _).lb
  · exact h.lb
theorem Lv.csi (h : Lv [] s) (hok : s.Ok c r) (hc : c ≤ 1000) (hr : r ≤ 1000) (b : UInt8) (ps : List Int) (i : List UInt8) : Lb (s.csi b ps i) := by
  unfold Scr.csi
  dsimp only
  split
  · cases hm : s.move (b.toNat : Int) (max 1 (par ps 0 1)) with
    | some t => exact (h.move _ _ t hm).lb
    | none =>
      cases he : s.edit (b.toNat : Int) (max 1 (par ps 0 1)) with
      | some t => exact (h.edit _ _ t he).lb
      | none => exact h.others hok hc hr _ _
  split
  · split
    · exact (foldl_lv (fun t i ht => ht.private _ _) _ _ h).lb
    · exact h.lb
  split
  · split
    · exact h.soft.lb
    · exact h.lb
  split
  · split
    · exact h.say (by decide)
    · exact h.lb
  · exact h.lb
theorem Lv.named (h : Lv o s) (t : List UInt8) : Lv o (s.named t) := by
  unfold Scr.named
  split
  · exact h
  · exact h
theorem sgrL_len {f t : Sty} (ht : okS t = true) : (sgrL f t).length ≤ 430 := by
  have ho := sgrP_ok (f := f) ht
  have h1 := parsL_len (sgrP f t) false (by
    rw [List.all_eq_true]
    intro x hx
    have := ho.2 x hx
    unfold parOk
    rw [Bool.and_eq_true, decide_eq_true_eq, decide_eq_true_eq]
    omega)
  unfold sgrL
  split
  · exact Nat.zero_le _
  · simp only [List.length_append, List.length_cons, List.length_nil]
    omega
theorem Lv.asked (h : Lv [] s) (hok : s.Ok c r) (hr : r ≤ 1000) (b : UInt8) (i t : List UInt8) : Lb (s.asked b i t) := by
  unfold Scr.asked
  split
  · split
    · refine h.say ?_
      have hl := sgrL_len (f := plainS) hok.now.pen
      simp only [List.length_append, List.length_cons, List.length_nil, List.length_drop]
      split
      · simp
      · omega
    split
    · have e1 : (Lib.itoa (s.top + 1)).length ≤ 21 := itoa_short (by
        have := hok.t0
        have := hok.tb
        have := hok.b1
        omega)
      have e2 : (Lib.itoa (s.bottom + 1)).length ≤ 21 := itoa_short (by
        have := hok.t0
        have := hok.tb
        have := hok.b1
        omega)
      refine h.say ?_
      simp only [List.length_append, List.length_cons, List.length_nil]
      omega
    · exact h.say (by decide)
  · exact h.lb
/-- An action done: little is said. -/
theorem act_lb {a : VAct} (hok : s.Ok c r) (hl : R32 s.last) (hc : c ≤ 1000) (hr : r ≤ 1000) (ha : R32 a.rune) : Lb (s.act a) := by
  have h : Lv [] { s with out := [] } := ⟨rfl, hl⟩
  have hk : ({ s with out := [] } : Scr).Ok c r := ⟨hok.main, hok.other, hok.now, hok.k0, hok.k1, hok.t0, hok.tb, hok.b1, hok.tl, hok.md⟩
  unfold Scr.act
  dsimp only
  split
  · exact (h.print ha).lb
  split
  · exact (h.control _).lb
  split
  · exact h.escape _ _
  split
  · exact h.csi hk hc hr _ _ _
  split
  · exact (h.named _).lb
  split
  · exact h.asked hk hr _ _ _
  · exact h.lb
theorem act_ok {a : VAct} (hok : s.Ok c r) (hc : 1 ≤ c) (hr : 1 ≤ r) : (s.act a).Ok c r := by
  have hk : ({ s with out := [] } : Scr).Ok c r := ⟨hok.main, hok.other, hok.now, hok.k0, hok.k1, hok.t0, hok.tb, hok.b1, hok.tl, hok.md⟩
  unfold Scr.act
  dsimp only
  split
  · exact hk.print hc _
  split
  · exact hk.control hc hr _
  split
  · exact hk.escape hc hr _ _
  split
  · exact hk.csi hc hr _ _ _
  split
  · exact hk.named _
  split
  · unfold Scr.asked
    split
    · split
      · exact hk.say _
      split
      · exact hk.say _
      · exact hk.say _
    · exact hk
  · exact hk
end
/-- A terminal in its bounds. -/
structure Trm.Ok (c r : Nat) (t : Trm) : Prop where
  scr : t.scr.Ok c r
  last : R32 t.scr.last
  par : t.par.Good
section
variable {c r : Nat}
theorem aok_rune {a : VAct} (h : AOk a) : R32 a.rune ∧ a.text.size ≤ 1000000 := by
  have := h.bnd
  have h1 := this.rn
  have h2 := this.tl
  exact ⟨⟨by omega, by omega⟩, by omega⟩
theorem Trm.Ok.act {t : Trm} (h : t.Ok c r) (hc : 1 ≤ c) (hr : 1 ≤ r) (hc2 : c ≤ 1000) (hr2 : r ≤ 1000) {a : VAct} (ha : AOk a) : (t.act a).Ok c r ∧ (t.act a).scr.out.length ≤ 600 := by
  have hb := act_lb (a := a) h.scr h.last hc2 hr2 (aok_rune ha).1
  refine ⟨⟨act_ok h.scr hc hr, hb.2, ?_⟩, hb.1⟩
  show (if a.ris then s0 else t.par).Good
  split
  · exact s0_good
  · exact h.par
theorem Trm.Ok.acts (hc : 1 ≤ c) (hr : 1 ≤ r) (hc2 : c ≤ 1000) (hr2 : r ≤ 1000) : ∀ (l : List VAct) {t : Trm}, t.Ok c r → (∀ a ∈ l, AOk a) → (t.acts l).1.Ok c r ∧ (t.acts l).2.length ≤ 600 * l.length
  | [], _, h, _ => ⟨h, Nat.le_refl _⟩
  | a :: l, t, h, ha => by
    obtain ⟨k1, k2⟩ := h.act hc hr hc2 hr2 (ha a (List.mem_cons_self ..))
    obtain ⟨i1, i2⟩ := Trm.Ok.acts hc hr hc2 hr2 l k1 (fun x hx => ha x (List.mem_cons_of_mem _ hx))
    refine ⟨i1, ?_⟩
    show ((t.act a).scr.out ++ ((t.act a).acts l).2).length ≤ _
    rw [List.length_append, List.length_cons]
    omega
theorem Trm.Ok.byte (hc : 1 ≤ c) (hr : 1 ≤ r) (hc2 : c ≤ 1000) (hr2 : r ≤ 1000) {t : Trm} (h : t.Ok c r) (b : UInt8) : (t.byte b).1.Ok c r ∧ (t.byte b).2.length ≤ 2400 := by
  obtain ⟨g1, g2, _⟩ := step_good b h.par
  have h1 : (⟨t.scr, (t.par.step b).1⟩ : Trm).Ok c r := ⟨h.scr, h.last, g1⟩
  obtain ⟨i1, i2⟩ := Trm.Ok.acts hc hr hc2 hr2 (t.par.step b).2 h1 g2
  have := step_len t.par b
  exact ⟨i1, by show ((⟨t.scr, (t.par.step b).1⟩ : Trm).acts (t.par.step b).2).2.length ≤ 2400; omega⟩
theorem Trm.Ok.feed (hc : 1 ≤ c) (hr : 1 ≤ r) (hc2 : c ≤ 1000) (hr2 : r ≤ 1000) : ∀ (l : List UInt8) {t : Trm}, t.Ok c r → (t.feed l).1.Ok c r ∧ (t.feed l).2.length ≤ 2400 * l.length
  | [], _, h => ⟨h, Nat.le_refl _⟩
  | b :: l, t, h => by
    obtain ⟨k1, k2⟩ := h.byte hc hr hc2 hr2 b
    obtain ⟨i1, i2⟩ := Trm.Ok.feed hc hr hc2 hr2 l k1
    refine ⟨i1, ?_⟩
    show ((t.byte b).2 ++ ((t.byte b).1.feed l).2).length ≤ _
    rw [List.length_append, List.length_cons]
    omega
theorem new_ok {l : Nat} (hc : 1 ≤ c) (hr : 1 ≤ r) : (⟨newS c r l, s0⟩ : Trm).Ok c r := by
  have hm : Same c r (newG c r l) := same_new
  have e1 := hm.1
  have e2 := hm.2
  have hm2 : Same c r (newG (newG c r l).cols (newG c r l).rows.length (newG c r l).limit) := by rw [e1, e2]; exact same_new
  have h : (newS c r l).Ok c r := by
    refine ⟨hm2, fun g hg => (by cases hg), sav0_in hc hr, sav0_in hc hr, sav0_in hc hr, Int.le_refl 0, ?_, ?_, ?_, (show M10 9 from ⟨by decide, by decide⟩)⟩
    · show (0 : Int) ≤ ((newG (newG c r l).cols (newG c r l).rows.length (newG c r l).limit).rows.length : Int) - 1
      rw [hm2.2]; omega
    · show ((newG (newG c r l).cols (newG c r l).rows.length (newG c r l).limit).rows.length : Int) - 1 < r
      rw [hm2.2]; omega
    · show (stopsL [] (newG (newG c r l).cols (newG c r l).rows.length (newG c r l).limit).cols).length = c
      rw [stopsL_len, hm2.1]
  exact ⟨h, by show R32 0; unfold R32; decide, s0_good⟩
end
end Go.Proofs.YtlfdgkiliegaiaaGreatDoor

/- A screen in memory stays as it is while another's blocks are turned. -/
namespace Go.Proofs.YtlfdgkiliegaiaaGreatDoor
open Go.RowKit

theorem SAt.other {C C1 Tm To Tp : Nat → Nat} {p pm : Nat} {po : Option Nat} {pp : Nat} {vt vo : Value} {w w' : World} {s : Scr} {ps : PSt} (h : SAt C Tm To Tp p pm po pp vt vo w s ps) (hw : Within (own C1 w) w w') (hd : ∀ k, C k ≠ 0 → C1 k = 0) : SAt C Tm To Tp p pm po pp vt vo w' s ps := by
  have hg : ∀ k, C k ≠ 0 → ¬ own C1 w k := fun k hk e => by
    rcases e with e | e
    · exact e (hd k hk)
    · have := h.lt k hk; omega
  have hb : ∀ k, C k ≠ 0 → w'.heap[k]? = w.heap[k]? := fun k hk => hw.block k (h.lt k hk) (hg k hk)
  refine ⟨fun k hk => Nat.lt_of_lt_of_le (h.lt k hk) hw.size, h.cp, (hb p (by rw [h.cp]; decide)).trans h.blk, h.gm.other hw (fun k hk => hd k (by rw [h.t4 k hk]; decide)), h.go.kept hw (fun k hk => hd k (by rw [h.t5 k hk]; decide)), rest_kept h.rp hw (fun k hk => hd k (by rw [h.t6 k hk]; decide)),
    ownC_blocks h.ta hw.size (fun k hk => hb k (by rw [h.t2 k hk]; decide)), ownC_blocks h.ou hw.size (fun k hk => hb k (by rw [h.t3 k hk]; decide)), h.t2, h.t3, h.t4, h.t5, h.t6⟩
theorem SR.other {B : World} {C C1 : Nat → Nat} {p : Nat} {w w' : World} {s : Scr} {ps : PSt} (h : SR B C p w s ps) (hw : Within (own C1 w) w w') (hd : ∀ k, C k ≠ 0 → C1 k = 0) (hB : ∀ k, C1 k ≠ 0 → B.heap.size ≤ k) : SR B C p w' s ps := by
  obtain ⟨Tm, To, Tp, pm, po, pp, vt, vo, hs⟩ := h.sm
  exact ⟨⟨Tm, To, Tp, pm, po, pp, vt, vo, hs.other hw hd⟩, h.tb, h.bl.trans (own_below hw h.bl.size hB), h.hi⟩
end Go.Proofs.YtlfdgkiliegaiaaGreatDoor

/- Walks of package screen: bytes fed. -/
namespace Go.Proofs.YtlfdgkiliegaiaaGreatDoor
open Go.RowKit
set_option maxRecDepth 100000

/-- A buffer of another's, while a screen is turned. -/
structure Aside (C : Nat → Nat) (w : World) (size : Nat) (v : Value) (n : Nat) (xs : List Value) (base : Nat) : Prop where
  own : OwnC w base size v n xs
  zero : ∀ k, v.ownBlock = some k → C k = 0
theorem Aside.next {C C' : Nat → Nat} {w w' : World} {size : Nat} {v : Value} {n : Nat} {xs : List Value} {base : Nat} (h : Aside C w size v n xs base) (g : Pre C w C' w') : Aside C' w' size v n xs base := by
  have hn : ∀ k, v.ownBlock = some k → ¬ Go.Proofs.YtlfdgkiliegaiaaGreatDoor.own C w k := fun k hk e => by
    rcases e with e | e
    · exact e (h.zero k hk)
    · have := (ownC_lt h.own k hk).2; omega
  refine ⟨ownC_blocks h.own g.wi.size fun k hk => g.wi.block k (ownC_lt h.own k hk).2 (hn k hk), fun k hk => ?_⟩
  by_cases e : C' k = 0
  · exact e
  · exact absurd (g.n k e) (hn k hk)
theorem Aside.below {C : Nat → Nat} {w w' : World} {size : Nat} {v : Value} {n : Nat} {xs : List Value} {base : Nat} (h : Aside C w size v n xs base) (b : Below w.heap.size w w') : Aside C w' size v n xs base := h.next ((Pre.refl C w).below b)
/-- What a parser has told, while the screen is turned. -/
structure Told6 (C : Nat → Nat) (w : World) (v : Value) (L : List (VAct × Value)) : Prop where
  arr : Aside C w 6 v L.length (actCells L) 0
  par : ∀ x ∈ L, Apart C w x.2 x.1.params
theorem Told6.next {C C' : Nat → Nat} {w w' : World} {v : Value} {L : List (VAct × Value)} (h : Told6 C w v L) (g : Pre C w C' w') : Told6 C' w' v L := ⟨h.arr.next g, fun x hx => (h.par x hx).next g⟩
theorem ownC_act {w : World} {base b off n c : Nat} {L : List (VAct × Value)} (h : OwnC w base 6 (.slice (some ⟨b, off, none⟩) n c) n (actCells L)) (k : Nat) (hk : k < L.length) :
    w.cell? ⟨b, off + k * 6, none⟩ = some (.int .i64 L[k].1.kind) ∧ w.cell? ⟨b, off + k * 6 + 1, none⟩ = some (.int .i32 L[k].1.rune) ∧ w.cell? ⟨b, off + k * 6 + 2, none⟩ = some (.int .u8 (L[k].1.byte.toNat : Int)) ∧
    w.cell? ⟨b, off + k * 6 + 3, none⟩ = some L[k].2 ∧ w.cell? ⟨b, off + k * 6 + 4, none⟩ = some (.string L[k].1.inter) ∧ w.cell? ⟨b, off + k * 6 + 5, none⟩ = some (.string L[k].1.text) := by
  obtain ⟨e1, h2⟩ := h
  rcases h2 with ⟨e, _⟩ | ⟨b', off', c', e, hb, hbs, hnc, hcm, hcells, hxs⟩
  · simp at e
  · simp only [Value.slice.injEq, Option.some.injEq, Addr.mk.injEq] at e
    obtain ⟨⟨rfl, rfl, _⟩, _, rfl⟩ := e
    have key : ∀ i u, i < 6 → (L[k].1.cells L[k].2)[i]? = some u → w.cell? ⟨b, off + (k * 6 + i), none⟩ = some u := fun i u hi hu => hxs _ u (by rw [actCells_at L k hk i hi]; exact hu)
    exact ⟨key 0 _ (by decide) rfl, key 1 _ (by decide) rfl, key 2 _ (by decide) rfl, key 3 _ (by decide) rfl, key 4 _ (by decide) rfl, key 5 _ (by decide) rfl⟩
/-- One of some bytes. -/
theorem ownC_byte {w : World} {base b off n c : Nat} {l : List UInt8} (h : OwnC w base 1 (.slice (some ⟨b, off, none⟩) n c) l.length (byteVals l)) (k : Nat) (hk : k < l.length) :
    OwnC w base 1 (.slice (some ⟨b, off + k, none⟩) 1 (c - k)) 1 (byteVals [l.getD k 0]) := by
  obtain ⟨e1, h2⟩ := h
  refine ⟨rfl, ?_⟩
  rcases h2 with ⟨e, _⟩ | ⟨b', off', c', e, hb, hbs, hnc, hcm, hcells, hxs⟩
  · simp at e
  · simp only [Value.slice.injEq, Option.some.injEq, Addr.mk.injEq] at e
    obtain ⟨⟨rfl, rfl, _⟩, _, rfl⟩ := e
    refine .inr ⟨b, off + k, c - k, rfl, hb, hbs, by omega, by omega, fun j hj => ?_, fun j u hu => ?_⟩
    · have := hcells (k + j) (by omega)
      rw [← Nat.add_assoc] at this
      exact this
    · match j, hu with
      | 0, hu =>
        refine hxs k u ?_
        rw [← hu]
        unfold byteVals
        rw [List.getElem?_map, List.getElem?_eq_getElem hk, List.getD_eq_getElem?_getD, List.getElem?_eq_getElem hk]
        rfl
      | j + 1, hu => simp [byteVals] at hu
theorem SR.grow {B : World} {C : Nat → Nat} {p : Nat} {w w' : World} {s : Scr} {ps : PSt} {row : Option Nat} (h : SR B C p w s ps) (g : w.grownBy w' row) (h0 : ∀ k, row = some k → C k = 0) (hB : ∀ k, row = some k → B.heap.size ≤ k) : SR B C p w' s ps := by
  refine h.other (C1 := fun k => if row = some k then 1 else 0) (Within.of_gb g fun k hk => .inl (by show (if row = some k then 1 else 0) ≠ 0; rw [if_pos hk]; decide)) (fun k hk => ?_) (fun k hk => ?_)
  · show (if row = some k then 1 else 0) = 0
    by_cases e : row = some k
    · exact absurd (h0 k e) hk
    · rw [if_neg e]
  · have hk : (if row = some k then 1 else 0) ≠ 0 := hk
    by_cases e : row = some k
    · exact hB k e
    · rw [if_neg e] at hk; exact absurd rfl hk
theorem Pre.grow {C C' : Nat → Nat} {w w1 w2 : World} {row : Option Nat} (g : Pre C w C' w1) (g2 : w1.grownBy w2 row) (h : ∀ k, row = some k → w.heap.size ≤ k) : Pre C w C' w2 := ⟨g.wi.trans (Within.of_gb g2 fun k hk => .inr (h k hk)), g.n⟩
/-- A buffer that is not among what was told. -/
def Apt (ov v : Value) (L : List (VAct × Value)) : Prop := ∀ k, ov.ownBlock = some k → v.ownBlock ≠ some k ∧ ∀ x ∈ L, x.2.ownBlock ≠ some k
theorem Apart.grow {C : Nat → Nat} {w w' : World} {v : Value} {l : List Int} {row : Option Nat} (h : Apart C w v l) (g : w.grownBy w' row) (hn : ∀ k, v.ownBlock = some k → row ≠ some k) : Apart C w' v l := by
  refine ⟨?_, h.own⟩
  rcases h.rd with h1 | ⟨a, c, rfl, h1, h2, h3⟩
  · exact .inl h1
  · refine .inr ⟨a, c, rfl, h1, h2, fun j hj => (cell_same ?_).trans (h3 j hj)⟩
    have hk := cell_lt (h3 j hj)
    rw [addr_block] at hk ⊢
    exact g.block _ hk (fun e => hn a.block rfl e.symm)
theorem Told6.grow {C : Nat → Nat} {w w' : World} {v ov : Value} {L : List (VAct × Value)} (h : Told6 C w v L) (g : w.grownBy w' ov.ownBlock) (ha : Apt ov v L) : Told6 C w' v L :=
  ⟨⟨ownC_grown h.arr.own g fun k hk e => (ha k e).1 hk, h.arr.zero⟩, fun x hx => (h.par x hx).grow g fun k hk e => (ha k e).2 x hx hk⟩
theorem run_one (s : PSt) (b : UInt8) : s.run [b] = s.step b := by
  unfold PSt.run PSt.run
  simp
theorem act_info : (Tryz.prog.info? 75).map (·.size) = some 6 := by kernel_rfl
theorem feed_at {t1 : Trm} {l : List UInt8} {k : Nat} (hk : k < l.length) : t1.feed (l.drop k) = (((t1.byte (l.getD k 0)).1.feed (l.drop (k + 1))).1, (t1.byte (l.getD k 0)).2 ++ ((t1.byte (l.getD k 0)).1.feed (l.drop (k + 1))).2) := by
  rw [List.drop_eq_getElem_cons hk, List.getD_eq_getElem?_getD, List.getElem?_eq_getElem hk]
  rfl
theorem acts_at {t1 : Trm} {L : List (VAct × Value)} {j : Nat} (hj : j < L.length) : t1.acts ((L.drop j).map (·.1)) = (((t1.act L[j].1).acts ((L.drop (j + 1)).map (·.1))).1, (t1.act L[j].1).scr.out ++ ((t1.act L[j].1).acts ((L.drop (j + 1)).map (·.1))).2) := by
  rw [List.drop_eq_getElem_cons hj]
  rfl
/-- What feeding hands over. -/
def FedTo (B : World) (C : Nat → Nat) (p c r : Nat) (w : World) (t : Trm) (l : List UInt8) (e : Ending) (w' : World) : Prop :=
  ∃ vo C', e = .returned vo ∧ SR B C' p w' (t.feed l).1.scr (t.feed l).1.par ∧ Pre C w C' w' ∧ Aside C' w' 1 vo (t.feed l).2.length (byteVals (t.feed l).2) w.heap.size ∧ (t.feed l).1.Ok c r
set_option maxHeartbeats 8000000 in
theorem feedS_any {B : World} {C : Nat → Nat} {p c r : Nat} {w : World} {t : Trm} (h : SR B C p w t.scr t.par) (hok : t.Ok c r) (vb : Value) (l : List UInt8) (hb : Aside C w 1 vb l.length (byteVals l) 0) (hl : l.length ≤ 10000000) :
    Calls Tryz.prog 19 #[.pointer (some ⟨p, 0, none⟩), vb] w (FedTo B C p c r w t l) := by
  have hnu := h.nums hok.scr
  obtain ⟨ec, er⟩ := hnu.ok hok.scr
  have hc1 : 1 ≤ c := by have := hnu.c1; omega
  have hr1 : 1 ≤ r := by have := hnu.r1; omega
  have hc2 : c ≤ 1000 := by have := hnu.c2; omega
  have hr2 : r ≤ 1000 := by have := hnu.r2; omega
  have HFL := Lib.hid (Trm.Ok.feed hc1 hr1 hc2 hr2 l hok)
  have HBY := Lib.hid (fun (t1 : Trm) (h1 : t1.Ok c r) (b : UInt8) => Trm.Ok.byte hc1 hr1 hc2 hr2 h1 b)
  have HACT := Lib.hid (fun (t1 : Trm) (h1 : t1.Ok c r) (a : VAct) (ha : AOk a) => h1.act hc1 hr1 hc2 hr2 ha)
  have H := Lib.hid h
  have HB := Lib.hid hb
  have HOK := Lib.hid hok
  have hln := ownC_ln Tryz.underlying38 hb.own
  clear hnu ec er hc1 hr1 hc2 hr2 h hb hok
  go_enter Tryz.func19, Tryz.ntmps19
  go_wp2_with fail
  go_loopw [5, 11] (fun vv iv wr => ∃ (k : Nat) (C1 : Nat → Nat) (t1 : Trm) (o : List UInt8) (ov : Value), ov = vv ∧ k ≤ l.length ∧ iv = .int .i64 k ∧ Hid (SR B C1 p wr t1.scr t1.par) ∧ Hid (Pre C w C1 wr) ∧ Hid (t1.Ok c r) ∧ Hid (Aside C1 wr 1 ov o.length (byteVals o) w.heap.size) ∧ o.length ≤ 2400 * k ∧ Hid ((t.feed l).1 = (t1.feed (l.drop k)).1 ∧ (t.feed l).2 = o ++ (t1.feed (l.drop k)).2)) (fun _ iv _ => l.length - (intOf iv).toNat)
  case atStart => exact ⟨0, C, t, [], .slice none 0 0, rfl, Nat.zero_le _, rfl, H, Pre.refl _ _, HOK, ⟨ownC_nil _ _ _, fun k hk => by simp [Value.ownBlock] at hk⟩, Nat.le_refl _, rfl, rfl⟩
  case round =>
    obtain ⟨k, C1, t1, o, ov, rfl, hk, rfl, H1, P1, O1, A1, ho, HQ⟩ := hrel
    obtain ⟨wo, rfl⟩ : ∃ wo, wo = wr := ⟨wr, rfl⟩
    by_cases hlt : k < l.length
    rotate_left
    · have d1 : decide ((k : Int) < (l.length : Int)) = false := decide_eq_false (by omega)
      have d1' : decide (k < l.length) = false := decide_eq_false hlt
      have hq := HQ.out
      rw [List.drop_eq_nil_of_le (by omega), show t1.feed [] = (t1, []) from rfl, List.append_nil] at hq
      have HQ2 := Lib.hid hq
      clear hq
      go_wp2_with fail
      refine ret1v rfl rfl rfl ⟨_, C1, rfl, ?_, P1.out, ?_, HFL.out.1⟩
      · rw [HQ2.out.1]; exact H1.out
      · rw [HQ2.out.2]; exact A1.out
    have d1 : decide ((k : Int) < (l.length : Int)) = true := decide_eq_true (by omega)
    have d1' : decide (k < l.length) = true := decide_eq_true hlt
    have hwk : IntKind.i64.wrap ((k : Int) + 1) = (k : Int) + 1 := wrap64_id _ (by omega) (by omega)
    have HBk := HB.out.next P1.out
    obtain ⟨bb, fb, cb, e1, hcb, hcm⟩ := ownC_pos HBk.own (by omega)
    subst e1
    have HOB := Lib.hid (ownC_byte HBk.own k hlt)
    have HZB := Lib.hid (HBk.zero bb rfl)
    obtain ⟨T, q, hr, c39, ht6, hkp⟩ := H1.out.parser
    have HT0 := Lib.hid (show T bb = 0 from by
      by_cases e : T bb = 0
      · exact e
      · have := ht6 bb e
        rw [HZB.out] at this
        cases this)
    have hbd := (Below.refl wo.heap.size wo).drew
    have HFD := Lib.hid (feed_acts (.slice (some ⟨bb, fb + k, none⟩) 1 (cb - k)) [l.getD k 0] (hr.below hbd) ⟨ownC_below HOB.out hbd, fun j hj => by
      have : bb = j := by simpa [Value.ownBlock] using hj
      rw [← this]; exact HT0.out⟩ (by show 1 ≤ 100000000; decide))
    have HKP := Lib.hid hkp
    have HBD := Lib.hid hbd
    have HPN := Lib.hid (show T p = 0 from by
      by_cases e : T p = 0
      · exact e
      · have e6 := ht6 p e
        obtain ⟨_, _, _, _, _, _, _, _, hs⟩ := H1.out.sm
        rw [hs.cp] at e6
        cases e6)
    have HPL := Lib.hid H1.out.pl
    have HNX := Lib.hid (feed_at (t1 := t1) hlt)
    clear hr hkp hbd HBk
    go_upto_region 5 with fail
    refine wpL_begin (c := 9) (S := (fun bb w' => (w'.cell? ⟨p, 39, none⟩ = some (.pointer (some ⟨q, 0, none⟩))) ∧ (bb = false → True))) (by kernel_rfl) (⟨c39, fun _ => trivial⟩) (fun _ => ?_)
    refine wpL_tk false 0 (⟨c39, fun _ => trivial⟩) ?_
    refine wpL_tk false 1 (⟨c39, fun _ => trivial⟩) ?_
    refine wpL_tk false 2 (⟨c39, fun _ => trivial⟩) ?_
    refine wpL_tk false 3 (⟨c39, fun _ => trivial⟩) ?_
    refine wpL_tk false 4 (⟨c39, fun _ => trivial⟩) ?_
    refine wpL_tk false 5 (⟨c39, fun _ => trivial⟩) ?_
    refine wpL_tk false 6 (⟨c39, fun _ => trivial⟩) ?_
    refine wpL_tk false 7 (⟨c39, fun _ => trivial⟩) ?_
    refine wpL_tk false 11 (⟨c39, fun _ => trivial⟩) ?_
    refine wpL_on false 8 fun K hK => ?_
    refine wanted_on rfl ?_
    go_wp2_with fail
    refine hK.out _ _ (⟨c39, fun _ => trivial⟩) (fun _ => ?_)
    clear hK K 
    try simp only [Act.put, List.setIfInBounds_toArray, List.set_cons_zero, List.set_cons_succ]
    refine wpL_on true 9 fun K hK => ?_
    refine wanted_on rfl ?_
    go_wp2_with fail
    refine HFD.out.mono ?_
    rintro e w3 ⟨v1, T2, L, rfl, ha, hw3, ht3, hr3, hac, hvo, hxo⟩
    have z39 := (cell_heap (hw3.block p (by exact HPL.out) (fun e => by
      rcases e with e | e
      · exact e HPN.out
      · have := HPL.out
        have e' : wo.heap.size ≤ p := e
        omega)) 39).trans c39
    have hl1 := ownC_ln Tryz.underlying111 hac.1.own
    have HA3 := Lib.hid ha
    have HW3 := Lib.hid hw3
    have HT3 := Lib.hid ht3
    have HR3 := Lib.hid hr3
    have HAC := Lib.hid hac
    have HVO := Lib.hid hvo
    have HXO := Lib.hid hxo
    refine hK.out _ _ (⟨z39, fun e => by cases e⟩) (fun _ => ?_)
    clear hK K ha hw3 ht3 hr3 hac hvo hxo
    try simp only [Act.put, List.setIfInBounds_toArray, List.set_cons_zero, List.set_cons_succ]
    refine wpL_tk true 10 (⟨z39, fun e => by cases e⟩) ?_
    refine wpL_done (by kernel_rfl) ?_ _
    go_wp2_with fail
    obtain ⟨C3, h3, p3, z3⟩ := HKP.out w3 T2 _ ((Within.of_below HBD.out).trans (HW3.out.mono fun k hk => hk)) HR3.out (fun k hk => HT3.out k hk)
    rw [run_one] at h3
    have hL : L.map (·.1) = (t1.par.step (l.getD k 0)).2 := by rw [← run_one]; exact HA3.out
    obtain ⟨g1, g2, _⟩ := step_good (l.getD k 0) O1.out.par
    have hll : L.length ≤ 4 := by
      have e1 := congrArg List.length hL
      rw [List.length_map] at e1
      have := step_len t1.par (l.getD k 0)
      omega
    have HLO := Lib.hid (show ∀ x ∈ L, AOk x.1 from fun x hx => g2 _ (by rw [← hL]; exact List.mem_map_of_mem hx))
    have A3 := Lib.hid ((A1.out).next p3)
    have T3 := Lib.hid (show Told6 C3 w3 v1 L from ⟨⟨HAC.out.1.own, fun j hj => z3 j (HVO.out j hj) (HAC.out.1.tag j hj)⟩, fun x hx => ⟨isRd_own (HAC.out.2 x hx).own, fun _ a n cc e => z3 _ (HXO.out x hx _ (by rw [e]; rfl)) ((HAC.out.2 x hx).tag _ (by rw [e]; rfl))⟩⟩)
    have P3 := Lib.hid (P1.out.trans p3)
    have AP3 := Lib.hid (show Apt ov v1 L from fun j hj => by
      have h0 := A1.out.zero j hj
      have hlt := (ownC_lt A1.out.own j hj).2
      have hno : ¬ Go.Proofs.YtlfdgkiliegaiaaGreatDoor.own T wo j := fun e => by
        rcases e with e | e
        · have := ht6 j e
          rw [h0] at this
          cases this
        · omega
      exact ⟨fun e => hno (HVO.out j e), fun x hx e => hno (HXO.out x hx j e)⟩)
    have HXL := Lib.hid (show ∀ n, w3.heap.size ≤ n → ∀ x ∈ L, ∀ k, x.2.ownBlock = some k → k < n from fun n hn x hx k hk => Nat.lt_of_lt_of_le (ownC_lt (HAC.out.2 x hx).own k hk).2 hn)
    have O3 := Lib.hid (show (⟨t1.scr, (t1.par.step (l.getD k 0)).1⟩ : Trm).Ok c r from ⟨O1.out.scr, O1.out.last, g1⟩)
    have HE3 := Lib.hid (show t1.byte (l.getD k 0) = (⟨t1.scr, (t1.par.step (l.getD k 0)).1⟩ : Trm).acts (L.map (·.1)) by rw [hL]; rfl)
    have H3 := Lib.hid h3
    clear h3 p3 z3 hL g1 g2 z39 c39 HFD HKP HBD HPN HPL HOB HZB HT0 HA3 HW3 HT3 HR3 HAC HVO HXO H1 P1 A1 ht6
    generalize l.getD k 0 = b at *
    generalize hT : (⟨t1.scr, (t1.par.step b).1⟩ : Trm) = ta at *
    have H3' := Lib.hid (show SR B C3 p w3 ta.scr ta.par by rw [← hT]; exact H3.out)
    clear H3 hT O1
    go_loopw [5, 25] (fun vv jv wi => ∃ (j : Nat) (C2 : Nat → Nat) (t2 : Trm) (o2 : List UInt8) (ov2 : Value), ov2 = vv ∧ j ≤ L.length ∧ jv = .int .i64 j ∧ Hid (SR B C2 p wi t2.scr t2.par) ∧ Hid (Pre C w C2 wi) ∧ Hid (t2.Ok c r) ∧ Hid (Aside C2 wi 1 ov2 o2.length (byteVals o2) w.heap.size) ∧ Hid (Told6 C2 wi v1 L) ∧ Hid (Apt ov2 v1 L) ∧ Hid (w3.heap.size ≤ wi.heap.size) ∧ o2.length ≤ 2400 * k + 600 * j ∧ Hid ((t1.byte b).1 = (t2.acts ((L.drop j).map (·.1))).1 ∧ o ++ (t1.byte b).2 = o2 ++ (t2.acts ((L.drop j).map (·.1))).2)) (fun _ jv _ => L.length - (intOf jv).toNat)
    case atStart => exact ⟨0, C3, ta, o, _, rfl, Nat.zero_le _, rfl, H3', P3, O3, A3, T3, AP3, Nat.le_refl _, by omega, by rw [HE3.out]; exact ⟨rfl, rfl⟩⟩
    case round =>
      obtain ⟨j, C2, t2, o2, ov2, rfl, hj, rfl, H2, P2, O2, A2, T2, AP2, HSX, ho2, HQ2⟩ := hrel
      obtain ⟨wi, rfl⟩ : ∃ wi, wi = wr := ⟨wr, rfl⟩
      by_cases hjl : j < L.length
      rotate_left
      · have d2 : decide ((j : Int) < (L.length : Int)) = false := decide_eq_false (by omega)
        have d2' : decide (j < L.length) = false := decide_eq_false hjl
        have hq2 := HQ2.out
        rw [List.drop_eq_nil_of_le (by omega), List.map_nil, show t2.acts [] = (t2, []) from rfl, List.append_nil] at hq2
        have HQ3 := Lib.hid hq2
        clear hq2
        go_wp2_with fail
        go_roundw
        case rel =>
          refine ⟨k + 1, C2, t2, o2, _, rfl, by omega, by go_num, H2, P2, O2, A2, by omega, ?_⟩
          have hq := HQ.out
          rw [HNX.out, ← List.append_assoc, HQ3.out.1, HQ3.out.2] at hq
          exact hq
        case measure => simp [intOf]; omega
      have d2 : decide ((j : Int) < (L.length : Int)) = true := decide_eq_true (by omega)
      have d2' : decide (j < L.length) = true := decide_eq_true hjl
      have hwj : IntKind.i64.wrap ((j : Int) + 1) = (j : Int) + 1 := wrap64_id _ (by omega) (by omega)
      obtain ⟨va, fa, ca, e2, _, _⟩ := ownC_pos T2.out.arr.own (by omega)
      subst e2
      obtain ⟨q0, q1, q2, q3, q4, q5⟩ := ownC_act T2.out.arr.own j hjl
      have hix := idx_at (P := Tryz.prog) (size := 6) Tryz.underlying111 act_info va fa L.length ca j hjl
      have hap := T2.out.par _ (List.getElem_mem hjl)
      have hao := HLO.out _ (List.getElem_mem hjl)
      have HN2 := Lib.hid (acts_at (t1 := t2) hjl)
      generalize L[j] = x at *
      obtain ⟨⟨kind, rune, byte, params, inter, text⟩, vp⟩ := x
      dsimp only at q0 q1 q2 q3 q4 q5 hap hao HN2
      have hrt := aok_rune hao
      obtain ⟨va2, vn, vc, rfl⟩ : ∃ a n c, vp = Value.slice a n c := by
        rcases hap.rd with ⟨h, _⟩ | ⟨a', c', h, _⟩
        · exact ⟨_, _, _, h⟩
        · exact ⟨_, _, _, h⟩
      have hba := (Below.refl wi.heap.size wi).alloc (Nat.le_refl _) (.cells #[.int .i64 kind, .int .i32 rune, .int .u8 (byte.toNat : Int), .slice va2 vn vc, .string inter, .string text] 75)
      have HD := Lib.hid (doS_any (H2.out.below hba) O2.out.scr ⟨kind, rune, byte, params, inter, text⟩ (.slice va2 vn vc) (hap.below hba) hrt.1 hrt.2 O2.out.last)
      unfold VAct.val at HD
      dsimp only at HD
      have HBA := Lib.hid hba
      have HOA := Lib.hid (HACT.out t2 O2.out ⟨kind, rune, byte, params, inter, text⟩ hao)
      clear hap hao hrt hba
      go_wp2_with fail
      refine HD.out.mono ?_
      rintro e w5 ⟨vo, C5, rfl, h5, p5, oo5, z5⟩
      have H5 := Lib.hid (show SR B C5 p w5 (t2.act ⟨kind, rune, byte, params, inter, text⟩).scr (t2.act ⟨kind, rune, byte, params, inter, text⟩).par from h5)
      have P5a := Lib.hid ((Pre.refl C2 wi).below HBA.out |>.trans p5)
      have OO5 := Lib.hid (show OwnC w5 0 1 vo (t2.act ⟨kind, rune, byte, params, inter, text⟩).scr.out.length (byteVals (t2.act ⟨kind, rune, byte, params, inter, text⟩).scr.out) from oo5)
      have O5 := Lib.hid HOA.out.1
      have hl5 := HOA.out.2
      clear h5 p5 oo5 z5 q0 q1 q2 q3 q4 q5 hix HD HOA HBA
      have P5 := Lib.hid (P2.out.trans P5a.out)
      have A5 := Lib.hid (A2.out.next P5a.out)
      have T5 := Lib.hid (T2.out.next P5a.out)
      have hs5 := P5a.out.wi.size
      have hs0 := P2.out.wi.size
      have HVX := Lib.hid (show ∀ x ∈ L, ∀ k, x.2.ownBlock = some k → k < w5.heap.size from HXL.out _ (Nat.le_trans HSX.out hs5))
      clear P5a O2 H2 P2 A2 T2
      generalize t2.act ⟨kind, rune, byte, params, inter, text⟩ = t3 at *
      go_wp2_with (at_builtin; refine held ?_)
      unfold Held
      refine wpList_appS bytes_elem rfl rfl w.heap.size A5.out.own rfl (src_reads Tryz.underlying38 (ownC_reads OO5.out) (bytes_one _)) rfl (by unfold maxLen; omega) (by omega) (by omega) ?_
      intro v6 w6 o6 g6 n6
      have hov := ownC_lt A5.out.own
      have H6 := Lib.hid (H5.out.grow g6 A5.out.zero (fun q hq => Nat.le_trans H.out.bl.size (hov q hq).1))
      have P6 := Lib.hid (P5.out.grow g6 (fun q hq => (hov q hq).1))
      have T6 := Lib.hid (T5.out.grow g6 AP2.out)
      have AP6 := Lib.hid (show Apt v6 (.slice (some ⟨va, fa, none⟩) L.length ca) L from fun q hq => by
        rcases n6 q hq with e | e
        · exact AP2.out q e
        · refine ⟨fun e2 => ?_, fun x hx e2 => ?_⟩
          · have := (ownC_lt T5.out.arr.own q e2).2
            omega
          · have := HVX.out x hx q e2
            omega)
      have A6 := Lib.hid (show Aside C5 w6 1 v6 (o2 ++ t3.scr.out).length (byteVals (o2 ++ t3.scr.out)) w.heap.size from ⟨by rw [List.length_append, byteVals_append]; exact o6, fun q hq => by
        rcases n6 q hq with e | e
        · exact A5.out.zero q e
        · exact H5.out.free e⟩)
      have HS6 := Lib.hid (show w3.heap.size ≤ w6.heap.size from Nat.le_trans (Nat.le_trans HSX.out hs5) g6.size)
      clear o6 g6 n6 hov
      go_wp2_with fail
      go_roundw
      case rel =>
        refine ⟨j + 1, C5, t3, o2 ++ t3.scr.out, _, rfl, by omega, by go_num, H6, P6, O5, A6, T6, AP6, HS6, by rw [List.length_append]; omega, ?_⟩
        have hq := HQ2.out
        rw [HN2.out, ← List.append_assoc] at hq
        exact hq
      case measure => simp [intOf]; omega
end Go.Proofs.YtlfdgkiliegaiaaGreatDoor

/- Chapter 6's examples, plain. -/
namespace Go.Proofs.YtlfdgkiliegaiaaGreatDoor
open Go.RowKit

def sh6b : List UInt8 := [97, 98, 99, 100, 101]
def sh6c : List UInt8 := [27, 91, 50, 59, 51, 72, 27, 91, 54, 110, 27, 91, 49, 59, 51, 49, 109]
def sh6A : Trm × List UInt8 := (⟨newS 4 2 10, s0⟩ : Trm).feed sh6b
def sh6B : Trm × List UInt8 := sh6A.1.feed sh6c
theorem sh6_a : sh6A.2 = [] := by kernel_rfl
theorem sh6_cur : sh6A.1.scr.now.x = 1 ∧ sh6A.1.scr.now.y = 1 ∧ sh6A.1.scr.now.wait = false ∧ sh6A.1.scr.modes = 9 ∧ sh6A.1.scr.has 8 = true := ⟨by kernel_rfl, by kernel_rfl, by kernel_rfl, by kernel_rfl, by kernel_rfl⟩
theorem sh6_b : sh6B.2 = [27, 91, 50, 59, 51, 82] := by kernel_rfl
end Go.Proofs.YtlfdgkiliegaiaaGreatDoor

/- The examples at the head of chapter 6's laws: the walk. -/
namespace Go.Proofs.YtlfdgkiliegaiaaGreatDoor
open Go.RowKit
set_option maxRecDepth 100000
attribute [local go_sem ↓] Go.wp_at_zero Go.wp_at_succ

/-- Constant bytes, apart from a screen. -/
theorem aside_lit {B : World} {C : Nat → Nat} {p : Nat} {w : World} {s : Scr} {ps : PSt} (h : SR B C p w s ps) (e : TypeId) (l : List UInt8) (A : Array Value) (hA : A.toList = byteVals l) (hm : l.length ≤ 1000000) :
    Aside C (w.alloc (.cells A e (A.size, A.size + 1))) 1 (.slice (some ⟨w.heap.size, 0, none⟩) l.length l.length) l.length (byteVals l) 0 :=
  ⟨ownC_mono (ownC_const w e l A hA (by unfold maxLen; omega)) (Nat.zero_le _), fun k hk => by
    simp [Value.ownBlock] at hk
    exact h.free (by omega)⟩
theorem Pre.blk {C C' : Nat → Nat} {w w' : World} {k : Nat} {o : Obj} (g : Pre C w C' w') (h : w.heap[k]? = some o) (h0 : C k = 0) : w'.heap[k]? = some o :=
  (g.wi.block k (heap_lt h) (fun e => by
    have := heap_lt h
    rcases e with e | e
    · exact e h0
    · omega)).trans h
theorem aside_new {B : World} {C : Nat → Nat} {p : Nat} {w w2 : World} {s : Scr} {ps : PSt} {size : Nat} {v : Value} {n : Nat} {xs : List Value} (h : SR B C p w s ps) (o : OwnC w2 w.heap.size size v n xs) : Aside C w2 size v n xs w.heap.size := ⟨o, fun _ hk => h.free (ownC_lt o _ hk).1⟩
theorem sh6_texts : sh6A.1.scr.texts = [[97, 98, 99, 100], [101]] := by kernel_rfl
theorem sh6_pen' : sh6B.1.scr.now.pen = ⟨1, -1, 1⟩ := by kernel_rfl
theorem str0 {w : World} {base b off c : Nat} {t0 t1 : List UInt8} (h : OwnC w base 1 (.slice (some ⟨b, off, none⟩) 2 c) 2 (strVals [t0, t1])) : w.cell? ⟨b, off, none⟩ = some (.string ⟨t0.toArray⟩) ∧ w.cell? ⟨b, off + 1, none⟩ = some (.string ⟨t1.toArray⟩) := by
  have h0 := (ownC_cellx h 0 (by decide)).1
  have h1 := (ownC_cellx h 1 (by decide)).1
  exact ⟨h0, h1⟩
set_option maxHeartbeats 4000000 in
theorem shown6_any (w : World) (ht : Tabs w) :
    Calls Tryz.prog 11 #[] w fun e w' => e = .returned (.bool true) ∧ Below w.heap.size w w' := by
  have HN := Lib.hid (newScr_any 4 2 10 w (by decide) (by decide) (by decide) (by decide) (by decide) ht)
  have HO1 := Lib.hid (new_ok (c := 4) (r := 2) (l := 10) (by decide) (by decide))
  clear ht
  go_enter Tryz.func11, Tryz.ntmps11
  go_wp2_with fail
  refine HN.out.mono ?_
  rintro e w1 ⟨p, C1, rfl, h1⟩
  have hkc := kc_one w1 #[.int .u8 97, .int .u8 98, .int .u8 99, .int .u8 100, .int .u8 101] 5 5
  have hA1 := aside_lit h1 5 sh6b #[.int .u8 97, .int .u8 98, .int .u8 99, .int .u8 100, .int .u8 101] rfl (by decide)
  have HF1 := Lib.hid (feedS_any (t := ⟨newS 4 2 10, s0⟩) (h1.below (below_alloc w1 (.cells #[.int .u8 97, .int .u8 98, .int .u8 99, .int .u8 100, .int .u8 101] 5 (5, 6)))) HO1.out _ sh6b hA1 (by decide))
  clear h1 hA1 HN HO1
  go_wp2_with fail
  refine HF1.out.mono ?_
  rintro e w2 ⟨vo, C2, rfl, h2, _, a2, o2⟩
  have H2 := Lib.hid (show SR w C2 p w2 sh6A.1.scr sh6A.1.par from h2)
  have O2 := Lib.hid (show sh6A.1.Ok 4 2 from o2)
  have a2' : Aside C2 w2 1 vo sh6A.2.length (byteVals sh6A.2) _ := a2
  rw [sh6_a] at a2'
  have hln2 := ownC_ln Tryz.underlying38 a2'.own
  clear h2 a2 o2 a2' hkc HF1
  go_wp2_with fail
  refine (rowsTS_any H2.out O2.out.scr).mono ?_
  rintro e w3 ⟨rv, rfl, r3, b3⟩
  rw [sh6_texts] at r3
  have H3 := Lib.hid (H2.out.below b3)
  obtain ⟨rb, ro, rc, rfl, _, _⟩ := ownC_pos r3 (by decide)
  have R3 := Lib.hid (aside_new H2.out r3)
  have hzf := fun k => (H2.out.below b3).free (k := k)
  have hln3 := ownC_ln Tryz.underlying66 r3
  clear r3 b3 H2
  go_wp2_with fail
  refine (viewS_any H3.out O2.out.scr).mono ?_
  rintro e w4 ⟨vv, L, hvv, _, hvr, b4⟩
  obtain ⟨va, vn, vc, rfl⟩ := ownC_form hvr.row
  have hve : sh6A.1.scr.viewV (.slice va vn vc) = .agg #[.slice va vn vc, .int .i64 1, .int .i64 1, .bool true, .bool false, .int .i64 9, .string ⟨sh6A.1.scr.title.toArray⟩] := by
    unfold Scr.viewV
    rw [sh6_cur.1, sh6_cur.2.1, sh6_cur.2.2.1, sh6_cur.2.2.2.1, sh6_cur.2.2.2.2]
  rw [hve] at hvv
  subst hvv
  generalize sh6A.1.scr.title.toArray = ti at *
  have H4 := Lib.hid (H3.out.below b4)
  have R4 := Lib.hid (R3.out.below b4)
  have hbo := below_alloc w4 (.cells #[.slice va vn vc, .int .i64 1, .int .i64 1, .bool true, .bool false, .int .i64 9, .string ⟨ti⟩] 47)
  have HVB := Lib.hid (blk_new w4 (.cells #[.slice va vn vc, .int .i64 1, .int .i64 1, .bool true, .bool false, .int .i64 9, .string ⟨ti⟩] 47))
  have H5 := Lib.hid (H4.out.below hbo)
  have R5 := Lib.hid (R4.out.below hbo)
  have HZ := Lib.hid (H4.out.free (Nat.le_refl w4.heap.size))
  clear hve hvr b4 hbo hzf H3 R3 H4 R4
  obtain ⟨V, hV⟩ : ∃ V, V = w4.heap.size := ⟨_, rfl⟩
  have HV := Lib.hid hV
  go_upto_region 7 with fail
  rw [← hV] at HVB HZ
  rw [← hV]
  clear hV
  obtain ⟨w5, hw5⟩ : ∃ w5, w5 = w4.alloc (.cells #[.slice va vn vc, .int .i64 1, .int .i64 1, .bool true, .bool false, .int .i64 9, .string ⟨ti⟩] 47) := ⟨_, rfl⟩
  rw [← hw5] at HVB H5 R5
  rw [← hw5]
  clear hw5 HV
  have hkc := kc_one w5 #[.int .u8 27, .int .u8 91, .int .u8 50, .int .u8 59, .int .u8 51, .int .u8 72, .int .u8 27, .int .u8 91, .int .u8 54, .int .u8 110, .int .u8 27, .int .u8 91, .int .u8 49, .int .u8 59, .int .u8 51, .int .u8 49, .int .u8 109] 17 17
  have hA1 := aside_lit H5.out 5 sh6c #[.int .u8 27, .int .u8 91, .int .u8 50, .int .u8 59, .int .u8 51, .int .u8 72, .int .u8 27, .int .u8 91, .int .u8 54, .int .u8 110, .int .u8 27, .int .u8 91, .int .u8 49, .int .u8 59, .int .u8 51, .int .u8 49, .int .u8 109] rfl (by decide)
  have hbo := below_alloc w5 (.cells #[.int .u8 27, .int .u8 91, .int .u8 50, .int .u8 59, .int .u8 51, .int .u8 72, .int .u8 27, .int .u8 91, .int .u8 54, .int .u8 110, .int .u8 27, .int .u8 91, .int .u8 49, .int .u8 59, .int .u8 51, .int .u8 49, .int .u8 109] 5 (17, 18))
  have HF2 := Lib.hid (feedS_any (t := sh6A.1) (H5.out.below hbo) O2.out _ sh6c hA1 (by decide))
  have R6 := Lib.hid (R5.out.below hbo)
  have HV6 := Lib.hid (blk_below HVB.out hbo (heap_lt HVB.out))
  clear H5 R5 HVB hA1 hbo O2
  go_wp2_with fail
  refine HF2.out.mono ?_
  rintro e w7 ⟨vo2, C7, rfl, h7, p7, a7, _⟩
  have H7 := Lib.hid (show SR w C7 p w7 sh6B.1.scr sh6B.1.par from h7)
  have a7' : OwnC w7 _ 1 vo2 sh6B.2.length (byteVals sh6B.2) := a7.own
  rw [sh6_b] at a7'
  have hcv := run_bytes_reads (P := Tryz.prog) (l := [27, 91, 50, 59, 51, 82]) Tryz.underlying38 Tryz.underlying5 Tryz.underlying9 (ownC_reads a7')
  have hb7 := p7.blk HV6.out HZ.out
  obtain ⟨s7a, s7b⟩ := str0 (R6.out.next p7).own
  have k1 : w7.cell? ⟨V, 1, none⟩ = some (.int .i64 1) := blk_cell hb7 1
  have k2 : w7.cell? ⟨V, 2, none⟩ = some (.int .i64 1) := blk_cell hb7 2
  have k3 : w7.cell? ⟨V, 3, none⟩ = some (.bool true) := blk_cell hb7 3
  have k4 : w7.cell? ⟨V, 4, none⟩ = some (.bool false) := blk_cell hb7 4
  have k5 : w7.cell? ⟨V, 5, none⟩ = some (.int .i64 9) := blk_cell hb7 5
  have hst := styleS_any H7.out
  rw [sh6_pen'] at hst
  have HST := Lib.hid hst
  have hq := fun wx => eql_cur 1 1 1 1 true false true false wx
  have hgd := fun (x y : Operand) u v wx => guard_cur .eql x y u v wx
  have hqs := fun wx => eql_sty ⟨1, -1, 1⟩ ⟨1, -1, 1⟩ wx
  have hgs := fun (x y : Operand) wx => guard_sty .eql x y ⟨1, -1, 1⟩ ⟨1, -1, 1⟩ wx
  unfold Sty.val at hqs hgs
  clear h7 p7 a7 a7' hb7 HF2 R6 HV6 HZ hkc hst
  go_wp2_with fail
  refine HST.out.mono ?_
  rintro e w8 ⟨rfl, b8⟩
  have HB := Lib.hid (H7.out.below b8).bl
  unfold Sty.val
  go_wp2_with fail
  go_ret
  exact ⟨rfl, HB.out⟩
end Go.Proofs.YtlfdgkiliegaiaaGreatDoor
