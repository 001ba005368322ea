/- Plain laws of package cell: the decoder against the document's reading of bytes. No program here. -/
import Derived.WalkKit
import Derived.Laws.Cover4
namespace Go.Proofs.YtkdicejlfagaeaaDoor

/-- A decoder. -/
structure Dec where
  r : Int
  hav : Int
  more : Int
  lo : Int
  hi : Int

def beginD (d : Dec) (b : Int) : Dec × List Int :=
  if b < 128 then ({ d with lo := 128, hi := 191 }, [b])
  else if 194 ≤ b ∧ b ≤ 223 then (⟨b % 32, 1, 1, 128, 191⟩, [])
  else if 224 ≤ b ∧ b ≤ 239 then (⟨b % 16, 1, 2, if b = 224 then 160 else 128, if b = 237 then 159 else 191⟩, [])
  else if 240 ≤ b ∧ b ≤ 244 then (⟨b % 8, 1, 3, if b = 240 then 144 else 128, if b = 244 then 143 else 191⟩, [])
  else ({ d with lo := 128, hi := 191 }, [65533])
def feedD (d : Dec) (b : Int) : Dec × List Int :=
  if d.hav = 0 then beginD d b
  else if b < d.lo ∨ d.hi < b then ((beginD { d with hav := 0 } b).1, 65533 :: (beginD { d with hav := 0 } b).2)
  else if 1 < d.more then (⟨d.r * 64 + b % 64, d.hav + 1, d.more - 1, 128, 191⟩, [])
  else (⟨d.r * 64 + b % 64, 0, d.more - 1, 128, 191⟩, [d.r * 64 + b % 64])
def endD (d : Dec) : Dec × List Int := if d.hav = 0 then (d, []) else ({ d with hav := 0 }, [65533])
def dec0 : Dec := ⟨0, 0, 0, 0, 0⟩
def runD : Dec → List UInt8 → Dec × List Int
  | d, [] => (d, [])
  | d, b :: l => ((runD (feedD d b.toNat).1 l).1, (feedD d b.toNat).2 ++ (runD (feedD d b.toNat).1 l).2)
theorem runD_append : ∀ (l m : List UInt8) (d : Dec), runD d (l ++ m) = ((runD (runD d l).1 m).1, (runD d l).2 ++ (runD (runD d l).1 m).2)
  | [], m, d => by simp [runD]
  | b :: l, m, d => by simp [runD, runD_append l m]
theorem runD_snoc (l : List UInt8) (b : UInt8) (d : Dec) : runD d (l ++ [b]) = ((feedD (runD d l).1 b.toNat).1, (runD d l).2 ++ (feedD (runD d l).1 b.toNat).2) := by
  rw [runD_append]; simp [runD]
/-- cell.Runes. -/
def runes (l : List UInt8) : List Int := (runD dec0 l).2 ++ (endD (runD dec0 l).1).2

/-! The document's reading. -/
/-- Of a first byte: the bounds of the second one, and how many further ones; -1: it begins no sequence. -/
def rngs (b : Int) : Int × Int × Int :=
  if 194 ≤ b ∧ b ≤ 223 then (128, 191, 0)
  else if b = 224 then (160, 191, 1)
  else if b = 237 then (128, 159, 1)
  else if 225 ≤ b ∧ b ≤ 239 then (128, 191, 1)
  else if b = 240 then (144, 191, 2)
  else if 241 ≤ b ∧ b ≤ 243 then (128, 191, 2)
  else if b = 244 then (128, 143, 2)
  else (0, 0, -1)
/-- k bytes more, behind i bytes. -/
def goT : Nat → Int → Int → Int → List UInt8 → Nat → Int × Nat
  | 0, r, _, _, _, i => (r, i)
  | _ + 1, _, _, _, [], _ => (0, 0)
  | k + 1, r, lo, hi, b :: t, i => if (b.toNat : Int) < lo ∨ hi < (b.toNat : Int) then (65533, i) else goT k (r * 64 + (b.toNat : Int) % 64) 128 191 t (i + 1)
/-- The mask of a first byte. -/
def lead (b more : Int) : Int := if more = 2 then b % 8 else if more = 1 then b % 16 else b % 32
def takeT : List UInt8 → Int × Nat
  | [] => (0, 0)
  | b :: t =>
    if (b.toNat : Int) < 128 then (b.toNat, 1)
    else if (rngs b.toNat).2.2 < 0 then (65533, 1)
    else goT ((rngs b.toNat).2.2.toNat + 1) (lead b.toNat (rngs b.toNat).2.2) (rngs b.toNat).1 (rngs b.toNat).2.1 t 1
theorem goT_pos : ∀ (k : Nat) (r lo hi : Int) (t : List UInt8) (i : Nat), 0 < i → (goT k r lo hi t i).2 = 0 ∨ (i ≤ (goT k r lo hi t i).2 ∧ (goT k r lo hi t i).2 ≤ i + t.length)
  | 0, _, _, _, _, i, h => .inr ⟨Nat.le_refl _, by simp [goT]⟩
  | _ + 1, _, _, _, [], _, _ => .inl rfl
  | k + 1, r, lo, hi, b :: t, i, h => by
    unfold goT
    split
    · right; exact ⟨Nat.le_refl _, Nat.le_add_right _ _⟩
    · have := goT_pos k (r * 64 + (b.toNat : Int) % 64) 128 191 t (i + 1) (by omega)
      simp only [List.length_cons]
      omega
theorem takeT_cons (b : UInt8) (t : List UInt8) : takeT (b :: t) = if (b.toNat : Int) < 128 then ((b.toNat : Int), 1)
    else if (rngs b.toNat).2.2 < 0 then (65533, 1)
    else goT ((rngs b.toNat).2.2.toNat + 1) (lead b.toNat (rngs b.toNat).2.2) (rngs b.toNat).1 (rngs b.toNat).2.1 t 1 := rfl
theorem takeT_le (l : List UInt8) : (takeT l).2 ≤ l.length := by
  cases l with
  | nil => exact Nat.le_refl 0
  | cons b t =>
    rw [takeT_cons]
    split
    · simp
    split
    · exact Nat.succ_le_succ (Nat.zero_le _)
    · have := goT_pos ((rngs b.toNat).2.2.toNat + 1) (lead b.toNat (rngs b.toNat).2.2) (rngs b.toNat).1 (rngs b.toNat).2.1 t 1 (by omega)
      simp only [List.length_cons]; omega

/-- A pending decoder against the document's loop. -/
theorem goT_run : ∀ (k : Nat) (d : Dec) (t : List UInt8) (i : Nat), 0 < i → 1 ≤ d.hav → d.more = k + 1 →
    ((goT (k + 1) d.r d.lo d.hi t i).2 = 0 → (runD d t).2 = [] ∧ (runD d t).1.hav = d.hav + t.length) ∧
    ((goT (k + 1) d.r d.lo d.hi t i).2 ≠ 0 → ∃ d1 : Dec, d1.hav = 0 ∧ i ≤ (goT (k + 1) d.r d.lo d.hi t i).2 ∧
      runD d t = ((runD d1 (t.drop ((goT (k + 1) d.r d.lo d.hi t i).2 - i))).1, (goT (k + 1) d.r d.lo d.hi t i).1 :: (runD d1 (t.drop ((goT (k + 1) d.r d.lo d.hi t i).2 - i))).2))
  | k, d, [], i, hi, hh, hm => by simp [goT, runD]
  | k, d, b :: t, i, hi, hh, hm => by
    have h0 : ¬ d.hav = 0 := by omega
    by_cases hb : (b.toNat : Int) < d.lo ∨ d.hi < (b.toNat : Int)
    · have e : goT (k + 1) d.r d.lo d.hi (b :: t) i = (65533, i) := by unfold goT; rw [if_pos hb]
      rw [e]
      refine ⟨fun h => by simp at h; omega, fun _ => ⟨{ d with hav := 0 }, rfl, Nat.le_refl _, ?_⟩⟩
      have ef : feedD d b.toNat = ((feedD { d with hav := 0 } b.toNat).1, 65533 :: (feedD { d with hav := 0 } b.toNat).2) := by
        unfold feedD; rw [if_neg h0, if_pos hb]; simp
      simp [runD, ef]
    · have e : goT (k + 1) d.r d.lo d.hi (b :: t) i = goT k (d.r * 64 + (b.toNat : Int) % 64) 128 191 t (i + 1) := by rw [goT]; rw [if_neg hb]
      rw [e]
      cases k with
      | zero =>
        have ef : feedD d b.toNat = (⟨d.r * 64 + (b.toNat : Int) % 64, 0, d.more - 1, 128, 191⟩, [d.r * 64 + (b.toNat : Int) % 64]) := by
          unfold feedD; rw [if_neg h0, if_neg hb, if_neg (by omega)]
        simp only [goT]
        refine ⟨fun h => by omega, fun _ => ⟨⟨d.r * 64 + (b.toNat : Int) % 64, 0, d.more - 1, 128, 191⟩, rfl, by omega, ?_⟩⟩
        rw [show i + 1 - i = 1 from by omega]
        simp only [runD, ef]; rfl
      | succ k =>
        have ef : feedD d b.toNat = (⟨d.r * 64 + (b.toNat : Int) % 64, d.hav + 1, d.more - 1, 128, 191⟩, []) := by
          unfold feedD; rw [if_neg h0, if_neg hb, if_pos (by omega)]
        have ih := goT_run k ⟨d.r * 64 + (b.toNat : Int) % 64, d.hav + 1, d.more - 1, 128, 191⟩ t (i + 1) (by omega) (by simp only []; omega) (by simp only []; omega)
        dsimp only at ih
        have er : runD d (b :: t) = runD ⟨d.r * 64 + (b.toNat : Int) % 64, d.hav + 1, d.more - 1, 128, 191⟩ t := by simp [runD, ef]
        rw [er]
        refine ⟨fun h => ?_, fun h => ?_⟩
        · obtain ⟨a1, a2⟩ := ih.1 h
          exact ⟨a1, by rw [a2]; simp; omega⟩
        · obtain ⟨d1, a1, a2, a3⟩ := ih.2 h
          refine ⟨d1, a1, by omega, ?_⟩
          rw [a3]
          have : (goT (k + 1) (d.r * 64 + (b.toNat : Int) % 64) 128 191 t (i + 1)).2 - i = ((goT (k + 1) (d.r * 64 + (b.toNat : Int) % 64) 128 191 t (i + 1)).2 - (i + 1)) + 1 := by omega
          rw [this, List.drop_succ_cons]

theorem begin_rngs (d : Dec) (b : Int) (h1 : ¬ b < 128) (h2 : ¬ (rngs b).2.2 < 0) :
    beginD d b = (⟨lead b (rngs b).2.2, 1, (rngs b).2.2 + 1, (rngs b).1, (rngs b).2.1⟩, []) := by
  by_cases c1 : 194 ≤ b ∧ b ≤ 223
  · simp only [rngs, beginD, if_neg h1, if_pos c1]; rfl
  by_cases c2 : b = 224
  · subst c2; rfl
  by_cases c3 : b = 237
  · subst c3; rfl
  by_cases c4 : 225 ≤ b ∧ b ≤ 239
  · simp only [rngs, beginD, if_neg h1, if_neg c1, if_neg c2, if_neg c3, if_pos c4, if_pos (show 224 ≤ b ∧ b ≤ 239 by omega)]; rfl
  by_cases c5 : b = 240
  · subst c5; rfl
  by_cases c6 : 241 ≤ b ∧ b ≤ 243
  · simp only [rngs, beginD, if_neg h1, if_neg c1, if_neg c2, if_neg c3, if_neg c4, if_neg c5, if_pos c6, if_neg (show ¬ (224 ≤ b ∧ b ≤ 239) by omega), if_pos (show 240 ≤ b ∧ b ≤ 244 by omega), if_neg (show ¬ b = 244 by omega)]; rfl
  by_cases c7 : b = 244
  · subst c7; rfl
  · exfalso; apply h2
    simp only [rngs, if_neg c1, if_neg c2, if_neg c3, if_neg c4, if_neg c5, if_neg c6, if_neg c7]; decide
theorem rngs_no (b : Int) (h2 : (rngs b).2.2 < 0) : ¬ (194 ≤ b ∧ b ≤ 223) ∧ ¬ (224 ≤ b ∧ b ≤ 239) ∧ ¬ (240 ≤ b ∧ b ≤ 244) := by
  unfold rngs at h2
  repeat' split at h2
  all_goals first | (exact absurd h2 (by decide)) | omega

theorem takeT_run (d : Dec) (b : UInt8) (t : List UInt8) (hd : d.hav = 0) :
    ((takeT (b :: t)).2 = 0 → (runD d (b :: t)).2 = [] ∧ (runD d (b :: t)).1.hav = (b :: t).length) ∧
    ((takeT (b :: t)).2 ≠ 0 → ∃ d1 : Dec, d1.hav = 0 ∧ runD d (b :: t) = ((runD d1 ((b :: t).drop (takeT (b :: t)).2)).1, (takeT (b :: t)).1 :: (runD d1 ((b :: t).drop (takeT (b :: t)).2)).2)) := by
  have ef : feedD d b.toNat = beginD d b.toNat := by unfold feedD; rw [if_pos hd]
  have hlt := b.toNat_lt
  by_cases h1 : (b.toNat : Int) < 128
  · have et : takeT (b :: t) = ((b.toNat : Int), 1) := by rw [takeT_cons, if_pos h1]
    have eb : beginD d b.toNat = ({ d with lo := 128, hi := 191 }, [(b.toNat : Int)]) := by unfold beginD; rw [if_pos h1]
    rw [et]
    exact ⟨fun h => absurd h (Nat.succ_ne_zero 0), fun _ => ⟨{ d with lo := 128, hi := 191 }, hd, by simp only [runD, ef, eb]; rfl⟩⟩
  by_cases h2 : (rngs b.toNat).2.2 < 0
  · have et : takeT (b :: t) = (65533, 1) := by rw [takeT_cons, if_neg h1, if_pos h2]
    have eb : beginD d b.toNat = ({ d with lo := 128, hi := 191 }, [65533]) := by
      obtain ⟨n1, n2, n3⟩ := rngs_no _ h2
      unfold beginD; rw [if_neg h1, if_neg n1, if_neg n2, if_neg n3]
    rw [et]
    exact ⟨fun h => absurd h (Nat.succ_ne_zero 0), fun _ => ⟨{ d with lo := 128, hi := 191 }, hd, by simp only [runD, ef, eb]; rfl⟩⟩
  · have eb := begin_rngs d b.toNat h1 h2
    have et : takeT (b :: t) = goT ((rngs b.toNat).2.2.toNat + 1) (lead b.toNat (rngs b.toNat).2.2) (rngs b.toNat).1 (rngs b.toNat).2.1 t 1 := by
      rw [takeT_cons, if_neg h1, if_neg h2]
    have hr := goT_run (rngs b.toNat).2.2.toNat ⟨lead b.toNat (rngs b.toNat).2.2, 1, (rngs b.toNat).2.2 + 1, (rngs b.toNat).1, (rngs b.toNat).2.1⟩ t 1 (by omega) (by simp) (by simp only []; omega)
    dsimp only at hr
    rw [← et] at hr
    have er : runD d (b :: t) = runD ⟨lead b.toNat (rngs b.toNat).2.2, 1, (rngs b.toNat).2.2 + 1, (rngs b.toNat).1, (rngs b.toNat).2.1⟩ t := by simp [runD, ef, eb]
    rw [er]
    refine ⟨fun h => ?_, fun h => ?_⟩
    · obtain ⟨a1, a2⟩ := hr.1 h
      exact ⟨a1, by rw [a2]; simp; omega⟩
    · obtain ⟨d1, a1, a2, a3⟩ := hr.2 h
      refine ⟨d1, a1, ?_⟩
      rw [a3]
      have : (takeT (b :: t)).2 = ((takeT (b :: t)).2 - 1) + 1 := by omega
      rw [this, List.drop_succ_cons]; simp

/-- mullionref1.Whole. (The first number: fuel.) -/
def wholeF : Nat → List UInt8 → List Int × Nat
  | 0, _ => ([], 0)
  | _ + 1, [] => ([], 0)
  | n + 1, b :: t => if (takeT (b :: t)).2 = 0 then ([], (b :: t).length) else
      ((takeT (b :: t)).1 :: (wholeF n ((b :: t).drop (takeT (b :: t)).2)).1, (wholeF n ((b :: t).drop (takeT (b :: t)).2)).2)
theorem whole_run : ∀ (n : Nat) (l : List UInt8) (d : Dec), l.length ≤ n → d.hav = 0 → (runD d l).2 = (wholeF n l).1 ∧ (runD d l).1.hav = (wholeF n l).2
  | n, [], d, _, hd => by cases n <;> simp [runD, wholeF, hd]
  | 0, _ :: _, _, h, _ => by simp at h
  | n + 1, b :: t, d, h, hd => by
    obtain ⟨r1, r2⟩ := takeT_run d b t hd
    by_cases h0 : (takeT (b :: t)).2 = 0
    · obtain ⟨a1, a2⟩ := r1 h0
      rw [wholeF, if_pos h0]
      exact ⟨a1, a2⟩
    · obtain ⟨d1, a1, a2⟩ := r2 h0
      rw [wholeF, if_neg h0, a2]
      have ih := whole_run n ((b :: t).drop (takeT (b :: t)).2) d1 (by simp only [List.length_drop]; simp only [List.length_cons] at h ⊢; omega) a1
      dsimp only
      exact ⟨by rw [ih.1], ih.2⟩
def whole (l : List UInt8) : List Int × Nat := wholeF l.length l
theorem runs_whole (l : List UInt8) (d : Dec) (hd : d.hav = 0) : (runD d l).2 = (whole l).1 ∧ (runD d l).1.hav = (whole l).2 := whole_run _ l d (Nat.le_refl _) hd
/-- mullionref1.Runes. -/
def runesR (l : List UInt8) : List Int := (whole l).1 ++ if (whole l).2 = 0 then [] else [65533]
theorem runes_eq (l : List UInt8) : runes l = runesR l := by
  obtain ⟨h1, h2⟩ := runs_whole l dec0 rfl
  unfold runes runesR endD
  rw [h1, h2]
  congr 1
  by_cases h : (whole l).2 = 0
  · simp [h]
  · rw [if_neg (by omega), if_neg h]
end Go.Proofs.YtkdicejlfagaeaaDoor
