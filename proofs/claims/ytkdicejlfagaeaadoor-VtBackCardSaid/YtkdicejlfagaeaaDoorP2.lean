/- Plain laws of UTF-8: what is encoded is decoded. No program here. -/
import Derived.Test.YtkdicejlfagaeaaDoorP1
namespace Go.Proofs.YtkdicejlfagaeaaDoor

/-- The code point that is written for a rune. -/
def cp (r : Int) : Nat := if Utf8.valid r then r.toNat else 65533
def encL (r : Int) : List UInt8 := (Utf8.encode r).data.toList
theorem valid_iff (r : Int) : Utf8.valid r = true ↔ (0 ≤ r ∧ r < 55296) ∨ (57344 ≤ r ∧ r ≤ 1114111) := by
  unfold Utf8.valid; simp
theorem cp_range (r : Int) : cp r ≤ 1114111 ∧ (cp r < 55296 ∨ 57344 ≤ cp r) := by
  unfold cp; split
  · rename_i h; rw [valid_iff] at h; omega
  · omega
theorem cp_valid (r : Int) (h : Utf8.valid r = true) : (cp r : Int) = r := by
  unfold cp; rw [if_pos h]; rw [valid_iff] at h; omega
theorem encL_eq (r : Int) : encL r =
    if cp r < 128 then [UInt8.ofNat (cp r)]
    else if cp r < 2048 then [UInt8.ofNat (192 + cp r / 64), UInt8.ofNat (128 + cp r % 64)]
    else if cp r < 65536 then [UInt8.ofNat (224 + cp r / 4096), UInt8.ofNat (128 + cp r / 64 % 64), UInt8.ofNat (128 + cp r % 64)]
    else [UInt8.ofNat (240 + cp r / 262144), UInt8.ofNat (128 + cp r / 4096 % 64), UInt8.ofNat (128 + cp r / 64 % 64), UInt8.ofNat (128 + cp r % 64)] := by
  unfold encL Utf8.encode
  have e : (if Utf8.valid r = true then r.toNat else Utf8.runeError) = cp r := rfl
  simp only [e]
  by_cases h1 : cp r < 128
  · rw [if_pos h1, if_pos h1]
  by_cases h2 : cp r < 2048
  · rw [if_neg h1, if_neg h1, if_pos h2, if_pos h2]
  by_cases h3 : cp r < 65536
  · rw [if_neg h1, if_neg h1, if_neg h2, if_neg h2, if_pos h3, if_pos h3]
  · rw [if_neg h1, if_neg h1, if_neg h2, if_neg h2, if_neg h3, if_neg h3]
theorem byte_of (n : Nat) (h : n < 256) : (UInt8.ofNat n).toNat = n := by simp; omega

theorem rngs_2 (b : Int) (h : 194 ≤ b ∧ b ≤ 223) : rngs b = (128, 191, 0) := by unfold rngs; rw [if_pos h]
theorem rngs_3 (b : Int) (h : 224 ≤ b ∧ b ≤ 239) : rngs b = (if b = 224 then 160 else 128, if b = 237 then 159 else 191, 1) := by
  unfold rngs; rw [if_neg (by omega)]
  by_cases c2 : b = 224
  · subst c2; rfl
  by_cases c3 : b = 237
  · subst c3; rfl
  rw [if_neg c2, if_neg c3, if_pos (by omega), if_neg c2, if_neg c3]
theorem rngs_4 (b : Int) (h : 240 ≤ b ∧ b ≤ 244) : rngs b = (if b = 240 then 144 else 128, if b = 244 then 143 else 191, 2) := by
  unfold rngs; rw [if_neg (by omega), if_neg (by omega), if_neg (by omega), if_neg (by omega)]
  by_cases c2 : b = 240
  · subst c2; rfl
  by_cases c3 : b = 244
  · subst c3; rfl
  rw [if_neg c2, if_pos (by omega), if_neg c2, if_neg c3]

theorem goT_step (k : Nat) (r lo hi : Int) (b : UInt8) (t : List UInt8) (i : Nat) (h1 : lo ≤ b.toNat) (h2 : (b.toNat : Int) ≤ hi) :
    goT (k + 1) r lo hi (b :: t) i = goT k (r * 64 + (b.toNat : Int) % 64) 128 191 t (i + 1) := by
  rw [goT, if_neg (by omega)]

theorem lead0 (b : Int) : lead b 0 = b % 32 := rfl
theorem lead1 (b : Int) : lead b 1 = b % 16 := rfl
theorem lead2 (b : Int) : lead b 2 = b % 8 := rfl
/-- What is encoded is taken. -/
theorem takeT_enc (r : Int) (t : List UInt8) : takeT (encL r ++ t) = ((cp r : Int), (encL r).length) := by
  obtain ⟨c1, c2⟩ := cp_range r
  rw [encL_eq]
  generalize cp r = c at *
  by_cases h1 : c < 128
  · rw [if_pos h1, List.cons_append, takeT_cons, byte_of c (by omega), if_pos (by omega)]; rfl
  by_cases h2 : c < 2048
  · rw [if_neg h1, if_pos h2]
    simp only [List.cons_append, List.nil_append]
    rw [takeT_cons, byte_of _ (by omega), if_neg (by omega), rngs_2 _ (by omega)]
    dsimp only
    rw [if_neg (by omega), show (0 : Int).toNat + 1 = 0 + 1 from rfl, goT_step _ _ _ _ _ _ _ (by rw [byte_of _ (by omega)]; omega) (by rw [byte_of _ (by omega)]; omega), byte_of _ (by omega)]
    simp only [goT, lead0]
    rw [Prod.mk.injEq]
    refine ⟨?_, rfl⟩
    omega
  by_cases h3 : c < 65536
  · rw [if_neg h1, if_neg h2, if_pos h3]
    simp only [List.cons_append, List.nil_append]
    rw [takeT_cons, byte_of _ (by omega), if_neg (by omega), rngs_3 _ (by omega)]
    dsimp only
    rw [if_neg (by omega), show (1 : Int).toNat + 1 = 1 + 1 from rfl, goT_step _ _ _ _ _ _ _ (by rw [byte_of _ (by omega)]; split <;> omega) (by rw [byte_of _ (by omega)]; split <;> omega), byte_of _ (by omega),
      goT_step _ _ _ _ _ _ _ (by rw [byte_of _ (by omega)]; omega) (by rw [byte_of _ (by omega)]; omega), byte_of _ (by omega)]
    simp only [goT, lead1]
    rw [Prod.mk.injEq]
    refine ⟨?_, rfl⟩
    omega
  · rw [if_neg h1, if_neg h2, if_neg h3]
    simp only [List.cons_append, List.nil_append]
    rw [takeT_cons, byte_of _ (by omega), if_neg (by omega), rngs_4 _ (by omega)]
    dsimp only
    rw [if_neg (by omega), show (2 : Int).toNat + 1 = 2 + 1 from rfl, goT_step _ _ _ _ _ _ _ (by rw [byte_of _ (by omega)]; split <;> omega) (by rw [byte_of _ (by omega)]; split <;> omega), byte_of _ (by omega),
      goT_step _ _ _ _ _ _ _ (by rw [byte_of _ (by omega)]; omega) (by rw [byte_of _ (by omega)]; omega), byte_of _ (by omega),
      goT_step _ _ _ _ _ _ _ (by rw [byte_of _ (by omega)]; omega) (by rw [byte_of _ (by omega)]; omega), byte_of _ (by omega)]
    simp only [goT, lead2]
    rw [Prod.mk.injEq]
    refine ⟨?_, rfl⟩
    omega
theorem encL_pos (r : Int) : 1 ≤ (encL r).length ∧ (encL r).length ≤ 4 := by
  rw [encL_eq]; repeat' split
  all_goals simp

theorem wholeF_fuel : ∀ (n : Nat) (l : List UInt8) (m : Nat), l.length ≤ n → l.length ≤ m → wholeF n l = wholeF m l
  | n, [], m, _, _ => by cases n <;> cases m <;> rfl
  | 0, _ :: _, _, h, _ => by simp at h
  | _ + 1, _ :: _, 0, _, h => by simp at h
  | n + 1, b :: t, m + 1, h, g => by
    rw [wholeF, wholeF]
    by_cases h0 : (takeT (b :: t)).2 = 0
    · rw [if_pos h0, if_pos h0]
    · rw [if_neg h0, if_neg h0, wholeF_fuel n _ m (by simp only [List.length_drop]; simp only [List.length_cons] at h ⊢; omega) (by simp only [List.length_drop]; simp only [List.length_cons] at g ⊢; omega)]
theorem whole_nil : whole [] = ([], 0) := rfl
theorem whole_cons (l : List UInt8) (h : l ≠ []) (h0 : (takeT l).2 ≠ 0) : whole l = ((takeT l).1 :: (whole (l.drop (takeT l).2)).1, (whole (l.drop (takeT l).2)).2) := by
  cases l with
  | nil => exact absurd rfl h
  | cons b t =>
    unfold whole
    rw [List.length_cons, wholeF, if_neg h0, wholeF_fuel t.length _ _ (by simp only [List.length_drop, List.length_cons]; omega) (Nat.le_refl _)]
theorem whole_pend (l : List UInt8) (h : l ≠ []) (h0 : (takeT l).2 = 0) : whole l = ([], l.length) := by
  cases l with
  | nil => exact absurd rfl h
  | cons b t => unfold whole; rw [List.length_cons, wholeF, if_pos h0]; rfl
theorem whole_enc (r : Int) (t : List UInt8) : whole (encL r ++ t) = ((cp r : Int) :: (whole t).1, (whole t).2) := by
  have h := takeT_enc r t
  have hp := encL_pos r
  rw [whole_cons _ (by intro e; have := congrArg List.length e; simp at this; simp [this] at hp) (by rw [h]; dsimp only; omega), h]
  dsimp only
  rw [List.drop_left]
/-- string(runes), as bytes. -/
def encAll (l : List Int) : List UInt8 := l.flatMap encL
theorem whole_encAll : ∀ (l : List Int) (t : List UInt8), whole (encAll l ++ t) = (l.map (fun r => (cp r : Int)) ++ (whole t).1, (whole t).2)
  | [], t => by simp [encAll]
  | r :: l, t => by
    have := whole_encAll l t
    unfold encAll at this ⊢
    rw [List.flatMap_cons, List.append_assoc, whole_enc, this]; simp
theorem runes_encAll (l : List Int) : runes (encAll l) = l.map (fun r => (cp r : Int)) := by
  have := whole_encAll l []
  rw [List.append_nil] at this
  rw [runes_eq, runesR, this, whole_nil]; simp

/-- Runes that are told are code points. -/
theorem goT_valid : ∀ (k : Nat) (r lo hi : Int) (t : List UInt8) (i : Nat), 0 ≤ r → 0 ≤ lo →
    (goT k r lo hi t i).1 = 65533 ∨ (0 ≤ (goT k r lo hi t i).1 ∧ (goT k r lo hi t i).1 ≤ r * 64 ^ k + (64 ^ k - 1) ∧ r * 64 ^ k ≤ (goT k r lo hi t i).1) ∨ (goT k r lo hi t i).1 = 0
  | 0, r, _, _, _, _, h, _ => .inr (.inl ⟨h, by simp [goT], by simp [goT]⟩)
  | _ + 1, _, _, _, [], _, _, _ => .inr (.inr rfl)
  | k + 1, r, lo, hi, b :: t, i, h, h' => by
    rw [goT]
    split
    · exact .inl rfl
    · rcases goT_valid k (r * 64 + (b.toNat : Int) % 64) 128 191 t (i + 1) (by omega) (by omega) with e | ⟨e1, e2, e3⟩ | e
      · exact .inl e
      · refine .inr (.inl ⟨e1, ?_, ?_⟩)
        · rw [Int.pow_succ]
          have hp : (0 : Int) < 64 ^ k := Int.pow_pos (by decide)
          generalize (64 : Int) ^ k = q at *
          have hm : (b.toNat : Int) % 64 ≤ 63 := by omega
          have := Int.mul_le_mul_of_nonneg_right hm (Int.le_of_lt hp)
          rw [Int.add_mul] at e2
          have e4 : r * 64 * q = r * (q * 64) := by rw [Int.mul_assoc, Int.mul_comm 64 q]
          omega
        · rw [Int.pow_succ]
          have hp : (0 : Int) < 64 ^ k := Int.pow_pos (by decide)
          generalize (64 : Int) ^ k = q at *
          have hm : (0 : Int) ≤ (b.toNat : Int) % 64 := by omega
          have := Int.mul_le_mul_of_nonneg_right hm (Int.le_of_lt hp)
          rw [Int.add_mul] at e3
          have e4 : r * 64 * q = r * (q * 64) := by rw [Int.mul_assoc, Int.mul_comm 64 q]
          omega
      · exact .inr (.inr e)
theorem goT_bound2 (k : Nat) (r lo hi : Int) (t : List UInt8) (i : Nat) (h : 0 ≤ r) (hlo : 128 ≤ lo) (hhi : hi ≤ 191) :
    (goT (k + 1) r lo hi t i).1 = 65533 ∨ (goT (k + 1) r lo hi t i).1 = 0 ∨ ((r * 64 + (lo - 128)) * 64 ^ k ≤ (goT (k + 1) r lo hi t i).1 ∧ (goT (k + 1) r lo hi t i).1 ≤ (r * 64 + (hi - 128)) * 64 ^ k + (64 ^ k - 1)) := by
  cases t with
  | nil => exact .inr (.inl rfl)
  | cons b t =>
    rw [goT]
    split
    · exact .inl rfl
    · have hp : (0 : Int) < 64 ^ k := Int.pow_pos (by decide)
      rcases goT_valid k (r * 64 + (b.toNat : Int) % 64) 128 191 t (i + 1) (by omega) (by omega) with e | ⟨e1, e2, e3⟩ | e
      · exact .inl e
      · right; right
        generalize (64 : Int) ^ k = q at *
        have m1 : r * 64 + (lo - 128) ≤ r * 64 + (b.toNat : Int) % 64 := by omega
        have m2 : r * 64 + (b.toNat : Int) % 64 ≤ r * 64 + (hi - 128) := by omega
        have n1 := Int.mul_le_mul_of_nonneg_right m1 (Int.le_of_lt hp)
        have n2 := Int.mul_le_mul_of_nonneg_right m2 (Int.le_of_lt hp)
        omega
      · exact .inr (.inl e)
theorem takeT_valid (l : List UInt8) : Utf8.valid (takeT l).1 = true := by
  rw [valid_iff]
  cases l with
  | nil => left; exact ⟨Int.le_refl _, by decide⟩
  | cons b t =>
    rw [takeT_cons]
    split
    · left; dsimp only; omega
    rename_i h1
    split
    · right; dsimp only; omega
    rename_i h2
    have hb := b.toNat_lt
    have hc : (194 ≤ (b.toNat : Int) ∧ (b.toNat : Int) ≤ 223) ∨ (224 ≤ (b.toNat : Int) ∧ (b.toNat : Int) ≤ 239) ∨ (240 ≤ (b.toNat : Int) ∧ (b.toNat : Int) ≤ 244) := by
      by_cases c1 : (194 ≤ (b.toNat : Int) ∧ (b.toNat : Int) ≤ 223)
      · exact .inl c1
      by_cases c2 : (224 ≤ (b.toNat : Int) ∧ (b.toNat : Int) ≤ 239)
      · exact .inr (.inl c2)
      by_cases c3 : (240 ≤ (b.toNat : Int) ∧ (b.toNat : Int) ≤ 244)
      · exact .inr (.inr c3)
      · exfalso; apply h2; unfold rngs
        rw [if_neg c1, if_neg (by omega), if_neg (by omega), if_neg (by omega), if_neg (by omega), if_neg (by omega), if_neg (by omega)]; decide
    rcases hc with hc | hc | hc
    · rw [rngs_2 _ hc]
      dsimp only
      rw [show (0 : Int).toNat + 1 = 0 + 1 from rfl, lead0]
      have hG := goT_bound2 0 ((b.toNat : Int) % 32) 128 191 t 1 (by omega) (by omega) (by omega)
      generalize (goT (0 + 1) ((b.toNat : Int) % 32) 128 191 t 1).1 = G at *
      omega
    · rw [rngs_3 _ hc]
      dsimp only
      rw [show (1 : Int).toNat + 1 = 1 + 1 from rfl, lead1]
      have hG := goT_bound2 1 ((b.toNat : Int) % 16) (if (b.toNat : Int) = 224 then 160 else 128) (if (b.toNat : Int) = 237 then 159 else 191) t 1 (by omega) (by split <;> omega) (by split <;> omega)
      generalize (goT (1 + 1) ((b.toNat : Int) % 16) (if (b.toNat : Int) = 224 then 160 else 128) (if (b.toNat : Int) = 237 then 159 else 191) t 1).1 = G at *
      by_cases c3 : (b.toNat : Int) = 237
      · rw [if_pos c3] at hG; split at hG <;> omega
      · rw [if_neg c3] at hG; split at hG <;> omega
    · rw [rngs_4 _ hc]
      dsimp only
      rw [show (2 : Int).toNat + 1 = 2 + 1 from rfl, lead2]
      have hG := goT_bound2 2 ((b.toNat : Int) % 8) (if (b.toNat : Int) = 240 then 144 else 128) (if (b.toNat : Int) = 244 then 143 else 191) t 1 (by omega) (by split <;> omega) (by split <;> omega)
      generalize (goT (2 + 1) ((b.toNat : Int) % 8) (if (b.toNat : Int) = 240 then 144 else 128) (if (b.toNat : Int) = 244 then 143 else 191) t 1).1 = G at *
      by_cases c3 : (b.toNat : Int) = 240
      · rw [if_pos c3] at hG; split at hG <;> omega
      · rw [if_neg c3] at hG; split at hG <;> omega
theorem wholeF_valid : ∀ (n : Nat) (l : List UInt8), ∀ r ∈ (wholeF n l).1, Utf8.valid r = true
  | 0, _, r, h => by simp [wholeF] at h
  | _ + 1, [], r, h => by simp [wholeF] at h
  | n + 1, b :: t, r, h => by
    rw [wholeF] at h
    split at h
    · simp at h
    · rcases List.mem_cons.1 h with h | h
      · rw [h]; exact takeT_valid _
      · exact wholeF_valid n _ r h
theorem runes_valid (l : List UInt8) : ∀ r ∈ runes l, Utf8.valid r = true := by
  intro r h
  rw [runes_eq, runesR] at h
  rcases List.mem_append.1 h with h | h
  · exact wholeF_valid _ _ r h
  · split at h
    · simp at h
    · simp at h; rw [h]; decide
theorem map_cp (l : List Int) (h : ∀ r ∈ l, Utf8.valid r = true) : l.map (fun r => (cp r : Int)) = l := by
  rw [show l = l.map id from (List.map_id l).symm, List.map_map]
  apply List.map_congr_left
  intro r hr
  exact cp_valid r (h r (by simpa using hr))
end Go.Proofs.YtkdicejlfagaeaaDoor
