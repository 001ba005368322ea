/- Walks of package vtparse: written. -/
import Derived.Test.YtkdicejlfagaeaaDoorV2
import Derived.Lib.SlBytesConst
namespace Go.Proofs.YtkdicejlfagaeaaDoor
open Go.RowKit

def prOk (r : Int) : Bool := decide (32 ≤ r) && (!(r == 127) && Lib.validRune r)
def ctlOk (b : UInt8) : Bool := decide ((b.toNat : Int) < 32) && (!((b.toNat : Int) == 24) && (!((b.toNat : Int) == 26) && !((b.toNat : Int) == 27)))
def escOk (inter : List UInt8) (b : UInt8) : Bool := betweensL inter && (decide (48 ≤ (b.toNat : Int)) && (decide ((b.toNat : Int) ≤ 126) && (!inter.isEmpty || !beginsL b.toNat)))
def txtOk (t : List UInt8) : Bool := onlyL t 32 255 && decide (t.length ≤ 1024)
/-- An action's bytes. -/
def wrL (a : VAct) : List UInt8 :=
  if a.kind = 1 then cond (prOk a.rune) (encL a.rune) []
  else if a.kind = 2 then cond (ctlOk a.byte) [a.byte] []
  else if a.kind = 3 then cond (escOk a.inter.data.toList a.byte) (27 :: a.inter.data.toList ++ [a.byte]) []
  else if a.kind = 4 then cond (headOk a) ([27, 91] ++ headL a) []
  else if a.kind = 5 then cond (txtOk a.text.data.toList) ([27, 93] ++ a.text.data.toList ++ [7]) []
  else if a.kind = 6 then cond (headOk a && txtOk a.text.data.toList) ([27, 80] ++ headL a ++ a.text.data.toList ++ [27, 92]) []
  else []

theorem parsL_len : ∀ (l : List Int) (f : Bool), l.all parOk = true → (parsL f l).length ≤ 22 * l.length
  | [], _, _ => by simp [parsL]
  | x :: l, f, h => by
    rw [List.all_cons, Bool.and_eq_true] at h
    have h1 := parsL_len l true h.2
    have hx := h.1
    unfold parOk at hx
    rw [Bool.and_eq_true, decide_eq_true_eq, decide_eq_true_eq] at hx
    have h2 := Lib.itoa_length_le x (by omega) (by omega)
    have h3 : (parL f x).length ≤ 22 := by
      unfold parL
      rw [List.length_append]
      have e1 : (if f = true then [59] else [] : List UInt8).length ≤ 1 := by cases f <;> decide
      have e2 : (if 0 ≤ x then Lib.itoa x else []).length ≤ 21 := by
        by_cases h0 : 0 ≤ x
        · rw [if_pos h0]; omega
        · rw [if_neg h0]; simp
      omega
    rw [parsL, List.length_append, List.length_cons]
    omega
theorem markL_len (l : List UInt8) : (markL l).1.length ≤ 1 ∧ (markL l).1 ++ (markL l).2 = l := by
  cases l with
  | nil => simp [markL]
  | cons c r =>
    by_cases h : 60 ≤ (c.toNat : Int) ∧ (c.toNat : Int) ≤ 63
    · rw [markL, if_pos h]; simp
    · rw [markL, if_neg h]; simp
theorem headL_len (a : VAct) (h : headOk a = true) : (headL a).length ≤ 1000 := by
  unfold headOk at h
  rw [Bool.and_eq_true] at h
  have h1 := preOk_len h.1
  have h2 := preOk_btw h.1
  have h3 := parsL_len a.params false h.2
  have h4 := (markL_len a.inter.data.toList).1
  unfold headL
  rw [List.length_append, List.length_append, List.length_append, List.length_singleton]
  omega
theorem reads_nil (w : World) (size : Nat) : Reads w size (.slice none 0 0) 0 [] := .inl ⟨rfl, rfl, rfl⟩
theorem runeCells_enc (r : Int) (h : Lib.validRune r = true) : Lib.runeCells r = byteVals (encL r) := by
  have hv : Utf8.valid r = true := by rw [validRune_eq]; unfold Lib.validRune at h; exact h
  have hc := cp_valid r hv
  have hr := cp_range r
  rw [encL_eq]
  unfold Lib.runeCells Lib.encodeRuneZ byteVals
  repeat' split
  all_goals first | omega | skip
  all_goals
    simp only [List.map_cons, List.map_nil, List.cons.injEq, Value.int.injEq, true_and, and_true]
    (repeat' constructor) <;> (try rw [byte_of _ (by omega)]) <;> omega
theorem snoc_reads {w : World} {v : Value} {l : List UInt8} {b : UInt8} (h : Reads w 1 v (l.length + 1) (byteVals l ++ [.int .u8 (b.toNat : Int)])) : Reads w 1 v (l ++ [b]).length (byteVals (l ++ [b])) := by
  rw [byteVals_append, List.length_append]; exact h
theorem bytes_one (l : List UInt8) : ∀ u ∈ byteVals l, u.oneCell' = true := by
  intro u hu
  unfold byteVals at hu
  rw [List.mem_map] at hu
  obtain ⟨b, _, rfl⟩ := hu
  rfl
theorem kc_one (w : World) (C : Array Value) (n c : Nat) : (convert 24 24 (.slice (some ⟨w.heap.size, 0, none⟩) n c)).run Tryd.prog (w.alloc (.cells C 5)) = .ok (.slice (some ⟨w.heap.size, 0, none⟩) n c) (w.alloc (.cells C 5 (C.size, C.size + 1))) :=
  Lib.run_convert_bytes_const (P := Tryd.prog) w 24 5 C n c Tryd.underlying24 Tryd.underlying5
theorem kc_drew (w : World) (C : Array Value) (n c : Nat) : (convert 24 24 (.slice (some ⟨w.heap.size, 0, none⟩) n c)).run Tryd.prog (w.alloc (.cells C 5)).drew = .ok (.slice (some ⟨w.heap.size, 0, none⟩) n c) (w.alloc (.cells C 5 (C.size, C.size + 1))).drew :=
  kc_one w.drew C n c
theorem ownC_const (w : World) (T : TypeId) (l : List UInt8) (C : Array Value) (hC : C.toList = byteVals l) (hm : l.length ≤ maxLen) : OwnC (w.alloc (.cells C T (C.size, C.size + 1))) w.heap.size 1 (.slice (some ⟨w.heap.size, 0, none⟩) l.length l.length) l.length (byteVals l) := by
  have hs : C.size = l.length := by rw [← Array.length_toList, hC, byteVals_length]
  refine ⟨by rw [byteVals_length, Nat.mul_one], .inr ⟨w.heap.size, 0, _, rfl, Nat.le_refl _, by simp, Nat.le_refl _, hm, ?_, ?_⟩⟩
  · intro j hj
    rw [Nat.zero_add, World.cell?_alloc_mark w C T (C.size, C.size + 1) j, World.frozen?_alloc_mark w C T C.size (C.size + 1) j, Array.getElem?_eq_getElem (by omega)]
    simp; omega
  · intro j u hu
    rw [Nat.zero_add, World.cell?_alloc_mark w C T (C.size, C.size + 1) j, ← Array.getElem?_toList, hC]
    exact hu
theorem reads_one' (w : World) (v : Value) (T : TypeId) (g : Nat) (hg : g = w.heap.size) : Reads (w.alloc (.cells #[v] T)) 1 (.slice (some ⟨g, 0, none⟩) 1 1) 1 [v] := by
  subst hg; exact reads_one w v T
section
variable (kind rune : Int) (byte : UInt8) (params : List Int) (inter text : ByteArray) (vp : Value) (w : World)
set_option maxRecDepth 100000 in
theorem wr_print (hr0 : -2147483648 ≤ rune) (hr1 : rune ≤ 2147483647) :
    Calls Tryd.prog 16 #[VAct.val ⟨1, rune, byte, params, inter, text⟩ vp] w fun e w' => ∃ v, e = .returned v ∧ Reads w' 1 v (cond (prOk rune) (encL rune) []).length (byteVals (cond (prOk rune) (encL rune) [])) ∧ Below w.heap.size w w' := by
  unfold VAct.val
  have HOK := Lib.hid (show prOk rune = (decide (32 ≤ rune) && (!(rune == 127) && Lib.validRune rune)) from rfl)
  have HB := Lib.hid ((Below.refl w.heap.size w).alloc (Nat.le_refl _) (.cells #[.int .i64 1, .int .i32 rune, .int .u8 (byte.toNat : Int), vp, .string inter, .string text] 37))
  generalize prOk rune = ok at *
  by_cases h1 : 32 ≤ rune
  rotate_left
  · rw [decide_eq_false h1] at HOK
    go_enter Tryd.func16, Tryd.ntmps16
    go_wp2_with fail
    refine ret1v rfl rfl rfl ⟨_, rfl, ?_, HB.out⟩
    rw [HOK.out]
    exact reads_nil _ _
  rw [decide_eq_true h1] at HOK
  by_cases h2 : rune = 127
  · subst h2
    go_enter Tryd.func16, Tryd.ntmps16
    go_wp2_with fail
    refine ret1v rfl rfl rfl ⟨_, rfl, ?_, HB.out⟩
    rw [HOK.out]
    exact reads_nil _ _
  have h2' : (rune == 127) = false := beq_eq_false_iff_ne.2 h2
  rw [h2'] at HOK
  go_enter Tryd.func16, Tryd.ntmps16
  go_wp2_with fail
  refine (Tryd.utf8_ValidRune rune _).mono ?_
  rintro e w2 ⟨rfl, rfl⟩
  cases hv : Lib.validRune rune
  · go_wp2_with fail
    refine ret1v rfl rfl rfl ⟨_, rfl, ?_, HB.out⟩
    rw [HOK.out, hv]
    exact reads_nil _ _
  · have HOK2 := Lib.hid (show ok = true by rw [HOK.out, hv]; rfl)
    have HV := Lib.hid hv
    clear hv
    go_wp2_with fail
    refine (Tryd.utf8_AppendRune_row (w.heap.size + 1) (.slice none 0 0) 0 [] rune hr0 hr1 _ (World.ownsRowF_nil _ _ _ _) (by omega) (by simp)).mono ?_
    rintro e w3 ⟨v3, rfl, o3, ⟨ob, g3⟩⟩
    have O3 := Lib.hid o3
    have HB3 := Lib.hid ((HB.out.alloc (by simp) ob).grown g3 (by simp; omega) (by intro q hq; simp [Value.ownBlock] at hq))
    clear o3 g3
    go_wp2_with fail
    refine ret1v rfl rfl rfl ⟨_, rfl, ?_, HB3.out⟩
    rw [HOK2.out]
    have := reads_ownF O3.out
    rw [runeCells_enc rune HV.out, byteVals_length] at this
    simpa using this

set_option maxRecDepth 100000 in
theorem wr_control :
    Calls Tryd.prog 16 #[VAct.val ⟨2, rune, byte, params, inter, text⟩ vp] w fun e w' => ∃ v, e = .returned v ∧ Reads w' 1 v (cond (ctlOk byte) [byte] []).length (byteVals (cond (ctlOk byte) [byte] [])) ∧ Below w.heap.size w w' := by
  unfold VAct.val
  have HOK := Lib.hid (show ctlOk byte = (decide ((byte.toNat : Int) < 32) && (!((byte.toNat : Int) == 24) && (!((byte.toNat : Int) == 26) && !((byte.toNat : Int) == 27)))) from rfl)
  have HB := Lib.hid ((Below.refl w.heap.size w).alloc (Nat.le_refl _) (.cells #[.int .i64 2, .int .i32 rune, .int .u8 (byte.toNat : Int), vp, .string inter, .string text] 37))
  generalize ctlOk byte = ok at *
  by_cases h1 : (byte.toNat : Int) < 32 ∧ ¬ (byte.toNat : Int) = 24 ∧ ¬ (byte.toNat : Int) = 26 ∧ ¬ (byte.toNat : Int) = 27
  · obtain ⟨h1, h2, h3, h4⟩ := h1
    have HOK2 := Lib.hid (show ok = true by rw [HOK.out]; simp [h1, h2, h3, h4])
    have h1' : decide ((byte.toNat : Int) < 32) = true := decide_eq_true h1
    have h2' : ((byte.toNat : Int) != 24) = true := by simpa using h2
    have h3' : ((byte.toNat : Int) != 26) = true := by simpa using h3
    have h4' : ((byte.toNat : Int) != 27) = true := by simpa using h4
    generalize hbb : (byte.toNat : Int) = bb at *
    replace hbb := Lib.hid hbb
    go_enter Tryd.func16, Tryd.ntmps16
    go_wp2_with fail
    refine ret1v (v := .slice (some ⟨w.heap.size + 1, 0, none⟩) 1 1) rfl rfl rfl ⟨_, rfl, ?_, HB.out.alloc (by simp) _⟩
    rw [HOK2.out, show byteVals (cond true [byte] []) = [.int .u8 bb] by rw [← hbb.out]; rfl]
    exact reads_one' _ _ _ _ (by simp)
  · have HOK2 := Lib.hid (show ok = false by rw [HOK.out]; simp only [Bool.and_eq_false_iff, Bool.not_eq_false', decide_eq_false_iff_not, beq_iff_eq]; omega)
    have hc : 32 ≤ (byte.toNat : Int) ∨ (byte.toNat : Int) = 24 ∨ (byte.toNat : Int) = 26 ∨ (byte.toNat : Int) = 27 := by omega
    clear h1
    rcases hc with h1 | h1 | h1 | h1
    · have h1' : decide ((byte.toNat : Int) < 32) = false := decide_eq_false (by omega)
      go_enter Tryd.func16, Tryd.ntmps16
      go_wp2_with fail
      refine ret1v rfl rfl rfl ⟨_, rfl, ?_, HB.out⟩
      rw [HOK2.out]
      exact reads_nil _ _
    all_goals
      generalize (byte.toNat : Int) = bb at *
      subst h1
      go_enter Tryd.func16, Tryd.ntmps16
      go_wp2_with fail
      refine ret1v rfl rfl rfl ⟨_, rfl, ?_, HB.out⟩
      rw [HOK2.out]
      exact reads_nil _ _
theorem cat_list (a b : ByteArray) : (a ++ b).data.toList = a.data.toList ++ b.data.toList := by
  rw [ByteArray.data_append, Array.toList_append]
theorem reads_bytes {w : World} {base : Nat} {v : Value} {s : ByteArray} {l : List UInt8} (h : OwnC w base 1 v s.size (s.data.toList.map fun b => Value.int .u8 (b.toNat : Int))) (e : s.data.toList = l) : OwnC w base 1 v l.length (byteVals l) := by
  subst e
  rw [Array.length_toList]; exact h
set_option maxRecDepth 100000 in
theorem wr_osc (ht : text.size ≤ 1099511627776) :
    Calls Tryd.prog 16 #[VAct.val ⟨5, rune, byte, params, inter, text⟩ vp] w fun e w' => ∃ v, e = .returned v ∧ Reads w' 1 v (cond (txtOk text.data.toList) ([27, 93] ++ text.data.toList ++ [7]) []).length (byteVals (cond (txtOk text.data.toList) ([27, 93] ++ text.data.toList ++ [7]) [])) ∧ Below w.heap.size w w' := by
  unfold VAct.val
  have hl : text.data.toList.length = text.size := by rw [Array.length_toList]; rfl
  have HOK := Lib.hid (show txtOk text.data.toList = (onlyL text.data.toList 32 255 && decide (text.size ≤ 1024)) by unfold txtOk; rw [hl])
  clear hl
  have HB := Lib.hid ((Below.refl w.heap.size w).alloc (Nat.le_refl _) (.cells #[.int .i64 5, .int .i32 rune, .int .u8 (byte.toNat : Int), vp, .string inter, .string text] 37))
  generalize txtOk text.data.toList = ok at *
  cases ho : onlyL text.data.toList 32 255
  · rw [ho] at HOK
    go_enter Tryd.func16, Tryd.ntmps16
    go_wp2_with fail
    refine (only_any text 32 255 _ (by omega)).mono ?_
    rintro e w2 ⟨rfl, rfl⟩
    go_wp2_with fail
    refine ret1v rfl rfl rfl ⟨_, rfl, ?_, HB.out⟩
    rw [HOK.out]
    exact reads_nil _ _
  rw [ho] at HOK
  by_cases h2 : text.size ≤ 1024
  rotate_left
  · rw [decide_eq_false h2] at HOK
    have h2' : decide ((text.size : Int) ≤ 1024) = false := decide_eq_false (by omega)
    go_enter Tryd.func16, Tryd.ntmps16
    go_wp2_with fail
    refine (only_any text 32 255 _ (by omega)).mono ?_
    rintro e w2 ⟨rfl, rfl⟩
    go_wp2_with fail
    refine ret1v rfl rfl rfl ⟨_, rfl, ?_, HB.out⟩
    rw [HOK.out]
    exact reads_nil _ _
  rw [decide_eq_true h2] at HOK
  have h2' : decide ((text.size : Int) ≤ 1024) = true := decide_eq_true (by omega)
  have HOK2 := Lib.hid (show ok = true by rw [HOK.out]; rfl)
  obtain ⟨v5, w5, hcv, o5, g5⟩ := conv_bytes (P := Tryd.prog) (w.alloc (.cells #[.int .i64 5, .int .i32 rune, .int .u8 (byte.toNat : Int), vp, .string inter, .string text] 37)) 9 24 5 (⟨#[27, 93]⟩ ++ text ++ ⟨#[7]⟩) Tryd.underlying9 Tryd.underlying24 Tryd.underlying5 (by unfold maxLen; rw [ByteArray.size_append, ByteArray.size_append]; show 2 + text.size + 1 ≤ _; omega)
  have O5 := Lib.hid (reads_bytes o5 (show _ = [27, 93] ++ text.data.toList ++ [7] by rw [cat_list, cat_list]))
  have HB5 := Lib.hid (HB.out.grown g5 (by simp) (by intro k hk; simp at hk))
  clear o5 g5
  go_enter Tryd.func16, Tryd.ntmps16
  go_wp2_with fail
  refine (only_any text 32 255 _ (by omega)).mono ?_
  rintro e w2 ⟨rfl, rfl⟩
  go_wp2_with fail
  refine ret1v rfl rfl rfl ⟨_, rfl, ?_, HB5.out⟩
  rw [HOK2.out]
  exact ownC_reads O5.out

set_option maxRecDepth 100000 in
theorem wr_none (kind : Int) (hk : kind < 1 ∨ 6 < kind) :
    Calls Tryd.prog 16 #[VAct.val ⟨kind, rune, byte, params, inter, text⟩ vp] w fun e w' => ∃ v, e = .returned v ∧ Reads w' 1 v 0 [] ∧ Below w.heap.size w w' := by
  unfold VAct.val
  have HB := Lib.hid ((Below.refl w.heap.size w).alloc (Nat.le_refl _) (.cells #[.int .i64 kind, .int .i32 rune, .int .u8 (byte.toNat : Int), vp, .string inter, .string text] 37))
  have h1 : (kind == 1) = false := by simp; omega
  have h2 : (kind == 2) = false := by simp; omega
  have h3 : (kind == 3) = false := by simp; omega
  have h4 : (kind == 4) = false := by simp; omega
  have h5 : (kind == 5) = false := by simp; omega
  have h6 : (kind == 6) = false := by simp; omega
  clear hk
  go_enter Tryd.func16, Tryd.ntmps16
  go_wp2_with fail
  refine ret1v rfl rfl rfl ⟨_, rfl, reads_nil _ _, HB.out⟩
set_option maxRecDepth 100000 in
theorem wr_esc (hi : inter.size ≤ 1099511627776) :
    Calls Tryd.prog 16 #[VAct.val ⟨3, rune, byte, params, inter, text⟩ vp] w fun e w' => ∃ v, e = .returned v ∧ Reads w' 1 v (cond (escOk inter.data.toList byte) (27 :: inter.data.toList ++ [byte]) []).length (byteVals (cond (escOk inter.data.toList byte) (27 :: inter.data.toList ++ [byte]) [])) ∧ Below w.heap.size w w' := by
  unfold VAct.val
  have HB := Lib.hid ((Below.refl w.heap.size w).alloc (Nat.le_refl _) (.cells #[.int .i64 3, .int .i32 rune, .int .u8 (byte.toNat : Int), vp, .string inter, .string text] 37))
  have HOK := Lib.hid (show escOk inter.data.toList byte = (betweensL inter.data.toList && (decide (48 ≤ (byte.toNat : Int)) && (decide ((byte.toNat : Int) ≤ 126) && (!inter.data.toList.isEmpty || !beginsL byte.toNat)))) from rfl)
  generalize escOk inter.data.toList byte = ok at *
  cases hbt : betweensL inter.data.toList
  · rw [hbt] at HOK
    go_enter Tryd.func16, Tryd.ntmps16
    go_wp2_with fail
    refine (betweens_any inter _ (by omega)).mono ?_
    rintro e w2 ⟨rfl, rfl⟩
    go_wp2_with fail
    refine ret1v rfl rfl rfl ⟨_, rfl, ?_, HB.out⟩
    rw [HOK.out]
    exact reads_nil _ _
  have hb2 : inter.size ≤ 2 := by
    unfold betweensL at hbt
    rw [Bool.and_eq_true, decide_eq_true_eq] at hbt
    have := hbt.1
    rw [Array.length_toList] at this; exact this
  rw [hbt] at HOK
  by_cases h1 : 48 ≤ (byte.toNat : Int)
  rotate_left
  · rw [decide_eq_false h1] at HOK
    go_enter Tryd.func16, Tryd.ntmps16
    go_wp2_with fail
    refine (betweens_any inter _ (by omega)).mono ?_
    rintro e w2 ⟨rfl, rfl⟩
    go_wp2_with fail
    refine ret1v rfl rfl rfl ⟨_, rfl, ?_, HB.out⟩
    rw [HOK.out]
    exact reads_nil _ _
  rw [decide_eq_true h1] at HOK
  by_cases h2 : (byte.toNat : Int) ≤ 126
  rotate_left
  · rw [decide_eq_false h2] at HOK
    go_enter Tryd.func16, Tryd.ntmps16
    go_wp2_with fail
    refine (betweens_any inter _ (by omega)).mono ?_
    rintro e w2 ⟨rfl, rfl⟩
    go_wp2_with fail
    refine ret1v rfl rfl rfl ⟨_, rfl, ?_, HB.out⟩
    rw [HOK.out]
    exact reads_nil _ _
  rw [decide_eq_true h2] at HOK
  have h1' : decide (48 ≤ (byte.toNat : Int)) = true := decide_eq_true h1
  have h2' : decide ((byte.toNat : Int) ≤ 126) = true := decide_eq_true h2
  obtain ⟨v5, w5, hcv, o5, g5⟩ := conv_bytes (P := Tryd.prog) (w.alloc (.cells #[.int .i64 3, .int .i32 rune, .int .u8 (byte.toNat : Int), vp, .string inter, .string text] 37)) 9 24 5 (⟨#[27]⟩ ++ inter) Tryd.underlying9 Tryd.underlying24 Tryd.underlying5 (by unfold maxLen; rw [ByteArray.size_append]; show 1 + inter.size ≤ _; omega)
  have O5 := Lib.hid (ownC_mono (base' := w.heap.size + 1) (reads_bytes o5 (show _ = 27 :: inter.data.toList by rw [cat_list]; rfl)) (by simp))
  have hn : (27 :: inter.data.toList).length ≤ 3 := by rw [List.length_cons, Array.length_toList]; have : inter.data.size = inter.size := rfl; omega
  have HB5 := Lib.hid (HB.out.grown g5 (by simp) (by intro k hk; simp at hk))
  have c5 : w5.cell? ⟨w.heap.size, 2, none⟩ = some (.int .u8 (byte.toNat : Int)) := g5.cell (by rw [World.cell?_alloc_new]; rfl) (by simp)
  have hs5 := g5.size
  simp at hs5
  clear o5 g5
  by_cases h0 : inter.size = 0
  · have hem : inter = ByteArray.empty := by apply ByteArray.ext; apply Array.ext'; exact List.eq_nil_of_length_eq_zero (by simpa using h0)
    subst hem
    replace hcv : (convert 9 24 (.string ⟨#[27]⟩)).run Tryd.prog (w.alloc (.cells #[.int .i64 3, .int .i32 rune, .int .u8 (byte.toNat : Int), vp, .string ByteArray.empty, .string text] 37)) = .ok v5 w5 := hcv
    cases hbg : beginsL byte.toNat
    · rw [hbg] at HOK
      have HOK2 := Lib.hid (show ok = true by rw [HOK.out]; rfl)
      go_enter Tryd.func16, Tryd.ntmps16
      go_wp2_with fail
      refine (betweens_any ByteArray.empty _ (by decide)).mono ?_
      rintro e w2 ⟨rfl, rfl⟩
      go_wp2_with fail
      refine (begins_any byte.toNat _).mono ?_
      rintro e w2 ⟨rfl, rfl⟩
      go_wp2_with (at_builtin; refine held ?_)
      unfold Held
      refine wpList_appC bytes_elem rfl rfl (w.heap.size + 1) (ownC_alloc O5.out _) rfl (reads_one _ _ _) rfl (int_one _ _) (by unfold maxLen; omega) (by omega) (by simp; omega) ?_
      intro v6 w6 o6 g6
      have O6 := Lib.hid o6
      have lt5 := ownC_lt O5.out
      have HB6 := Lib.hid ((HB5.out.alloc (by omega) _).grown g6 (by simp; omega) (by intro q hq; have := (lt5 q hq).1; omega))
      clear o6 g6 lt5
      go_wp2_with fail
      refine ret1v rfl rfl rfl ⟨_, rfl, ?_, HB6.out⟩
      rw [HOK2.out]
      exact snoc_reads (l := [27]) (ownC_reads O6.out)
    · rw [hbg] at HOK
      go_enter Tryd.func16, Tryd.ntmps16
      go_wp2_with fail
      refine (betweens_any ByteArray.empty _ (by decide)).mono ?_
      rintro e w2 ⟨rfl, rfl⟩
      go_wp2_with fail
      refine (begins_any byte.toNat _).mono ?_
      rintro e w2 ⟨rfl, rfl⟩
      go_wp2_with fail
      refine ret1v rfl rfl rfl ⟨_, rfl, ?_, HB.out⟩
      rw [HOK.out]
      exact reads_nil _ _
  · have hne := ne_empty inter h0
    rw [ByteArray.toList_eq] at hne
    rw [hne] at HOK
    rw [← ByteArray.toList_eq] at hne
    have HOK2 := Lib.hid (show ok = true by rw [HOK.out]; rfl)
    go_enter Tryd.func16, Tryd.ntmps16
    go_wp2_with fail
    refine (betweens_any inter _ (by omega)).mono ?_
    rintro e w2 ⟨rfl, rfl⟩
    go_wp2_with (at_builtin; refine held ?_)
    unfold Held
    refine wpList_appC bytes_elem rfl rfl (w.heap.size + 1) (ownC_alloc O5.out _) rfl (reads_one _ _ _) rfl (int_one _ _) (by unfold maxLen; omega) (by omega) (by simp; omega) ?_
    intro v6 w6 o6 g6
    have O6 := Lib.hid o6
    have lt5 := ownC_lt O5.out
    have HB6 := Lib.hid ((HB5.out.alloc (by omega) _).grown g6 (by simp; omega) (by intro q hq; have := (lt5 q hq).1; omega))
    clear o6 g6 lt5
    go_wp2_with fail
    refine ret1v rfl rfl rfl ⟨_, rfl, ?_, HB6.out⟩
    rw [HOK2.out]
    exact snoc_reads (l := 27 :: inter.data.toList) (ownC_reads O6.out)

set_option maxRecDepth 100000 in
theorem wr_csi (hi : inter.size ≤ 1099511627776) (hp : IsRd .i64 w vp params) (htab : Tab Tryd.prog w) :
    Calls Tryd.prog 16 #[VAct.val ⟨4, rune, byte, params, inter, text⟩ vp] w fun e w' => ∃ v, e = .returned v ∧ Reads w' 1 v (cond (headOk ⟨4, rune, byte, params, inter, text⟩) ([27, 91] ++ headL ⟨4, rune, byte, params, inter, text⟩) []).length (byteVals (cond (headOk ⟨4, rune, byte, params, inter, text⟩) ([27, 91] ++ headL ⟨4, rune, byte, params, inter, text⟩) [])) ∧ Below w.heap.size w w' := by
  have hb0 := (Below.refl w.heap.size w).alloc (Nat.le_refl _) (.cells #[.int .i64 4, .int .i32 rune, .int .u8 (byte.toNat : Int), vp, .string inter, .string text] 37)
  have HH := Lib.hid (head_any ⟨4, rune, byte, params, inter, text⟩ vp (w.alloc (.cells #[.int .i64 4, .int .i32 rune, .int .u8 (byte.toNat : Int), vp, .string inter, .string text] 37)) hi (isRd_below hp hb0) (tab_go htab hb0))
  have hll0 := headL_len ⟨4, rune, byte, params, inter, text⟩
  unfold VAct.val at HH ⊢
  dsimp only at HH
  have HB := Lib.hid hb0
  clear hb0 hp htab
  generalize headOk ⟨4, rune, byte, params, inter, text⟩ = ok at *
  generalize headL ⟨4, rune, byte, params, inter, text⟩ = hd at *
  go_enter Tryd.func16, Tryd.ntmps16
  go_wp2_with fail
  refine HH.out.mono ?_
  rintro e w2 ⟨v2, rfl, o2, b2⟩
  have HB2 := Lib.hid (HB.out.trans (b2.mono (by simp)))
  have hs2 := b2.size
  simp at hs2
  cases ok
  · clear o2 b2
    go_wp2_with fail
    refine ret1v rfl rfl rfl ⟨_, rfl, ?_, HB2.out⟩
    exact reads_nil _ _
  · have O2 := Lib.hid (o2 rfl)
    have hll := hll0 rfl
    clear o2 b2
    have O5 := Lib.hid (ownC_const w2 5 [27, 91] #[.int .u8 27, .int .u8 91] rfl (by decide))
    have HB5 := Lib.hid (HB2.out.alloc (by omega) (.cells #[.int .u8 27, .int .u8 91] 5 (2, 3)))
    have R5 := Lib.hid (reads_kept (reads_own O2.out) (World.grownBy_alloc w2 (.cells #[.int .u8 27, .int .u8 91] 5 (2, 3)) none) (by intro k _ h; simp at h))
    have hcs := kc_one w2 #[.int .u8 27, .int .u8 91] 2 2
    go_wp2_with (at_builtin; refine held ?_)
    unfold Held
    refine wpList_appC bytes_elem rfl rfl w2.heap.size O5.out rfl R5.out rfl (bytes_one _) (by show 2 + hd.length ≤ maxLen; unfold maxLen; omega) (by show (2 + hd.length) * 1 ≤ _; omega) (by simp) ?_
    intro v6 w6 o6 g6
    have O6 := Lib.hid o6
    have HB6 := Lib.hid (HB5.out.grown g6 (by simp; omega) (by intro q hq; simp [Value.ownBlock] at hq; omega))
    clear o6 g6
    go_wp2_with fail
    refine ret1v rfl rfl rfl ⟨_, rfl, ?_, HB6.out⟩
    have := ownC_reads O6.out
    show Reads _ _ _ ([27, 91] ++ hd).length (byteVals ([27, 91] ++ hd))
    rw [byteVals_append, List.length_append]
    exact this
set_option maxRecDepth 100000 in
theorem wr_dcs (hi : inter.size ≤ 1099511627776) (ht : text.size ≤ 1099511627776) (hp : IsRd .i64 w vp params) (htab : Tab Tryd.prog w) :
    Calls Tryd.prog 16 #[VAct.val ⟨6, rune, byte, params, inter, text⟩ vp] w fun e w' => ∃ v, e = .returned v ∧ Reads w' 1 v (cond (headOk ⟨6, rune, byte, params, inter, text⟩ && txtOk text.data.toList) ([27, 80] ++ headL ⟨6, rune, byte, params, inter, text⟩ ++ text.data.toList ++ [27, 92]) []).length (byteVals (cond (headOk ⟨6, rune, byte, params, inter, text⟩ && txtOk text.data.toList) ([27, 80] ++ headL ⟨6, rune, byte, params, inter, text⟩ ++ text.data.toList ++ [27, 92]) [])) ∧ Below w.heap.size w w' := by
  have hb0 := (Below.refl w.heap.size w).alloc (Nat.le_refl _) (.cells #[.int .i64 6, .int .i32 rune, .int .u8 (byte.toNat : Int), vp, .string inter, .string text] 37)
  have HH := Lib.hid (head_any ⟨6, rune, byte, params, inter, text⟩ vp (w.alloc (.cells #[.int .i64 6, .int .i32 rune, .int .u8 (byte.toNat : Int), vp, .string inter, .string text] 37)) hi (isRd_below hp hb0) (tab_go htab hb0))
  have hll0 := headL_len ⟨6, rune, byte, params, inter, text⟩
  have hl : text.data.toList.length = text.size := by rw [Array.length_toList]; rfl
  have HOK := Lib.hid (show txtOk text.data.toList = (onlyL text.data.toList 32 255 && decide (text.size ≤ 1024)) by unfold txtOk; rw [hl])
  unfold VAct.val at HH ⊢
  dsimp only at HH
  have HB := Lib.hid hb0
  clear hb0 hp htab
  generalize headOk ⟨6, rune, byte, params, inter, text⟩ = ok at *
  generalize headL ⟨6, rune, byte, params, inter, text⟩ = hd at *
  generalize txtOk text.data.toList = tok at *
  go_enter Tryd.func16, Tryd.ntmps16
  go_wp2_with fail
  refine HH.out.mono ?_
  rintro e w2 ⟨v2, rfl, o2, b2⟩
  have HB2 := Lib.hid (HB.out.trans (b2.mono (by simp)))
  have hs2 := b2.size
  simp at hs2
  cases ok
  · clear o2 b2
    go_wp2_with fail
    refine ret1v rfl rfl rfl ⟨_, rfl, ?_, HB2.out⟩
    exact reads_nil _ _
  have O2 := Lib.hid (o2 rfl)
  have hll := hll0 rfl
  have a5 : w2.cell? ⟨w.heap.size, 5, none⟩ = some (.string text) := below_cell b2 (by simp) (by rw [World.cell?_alloc_new]; rfl)
  clear o2 b2
  cases ho : onlyL text.data.toList 32 255
  · rw [ho] at HOK
    go_wp2_with fail
    refine (only_any text 32 255 _ (by omega)).mono ?_
    rintro e w2 ⟨rfl, rfl⟩
    go_wp2_with fail
    refine ret1v rfl rfl rfl ⟨_, rfl, ?_, HB2.out⟩
    rw [HOK.out]
    exact reads_nil _ _
  rw [ho] at HOK
  by_cases h2 : text.size ≤ 1024
  rotate_left
  · rw [decide_eq_false h2] at HOK
    have h2' : decide ((text.size : Int) ≤ 1024) = false := decide_eq_false (by omega)
    go_wp2_with fail
    refine (only_any text 32 255 _ (by omega)).mono ?_
    rintro e w2 ⟨rfl, rfl⟩
    go_wp2_with fail
    refine ret1v rfl rfl rfl ⟨_, rfl, ?_, HB2.out⟩
    rw [HOK.out]
    exact reads_nil _ _
  rw [decide_eq_true h2] at HOK
  have HOK2 := Lib.hid (show tok = true by rw [HOK.out]; rfl)
  have h2' : decide ((text.size : Int) ≤ 1024) = true := decide_eq_true (by omega)
  have hcl : (text ++ ⟨#[27, 92]⟩ : ByteArray).data.toList.length = text.size + 2 := by rw [cat_list, List.length_append, Array.length_toList]; rfl
  have hcs := kc_one w2 #[.int .u8 27, .int .u8 80] 2 2
  have hcs2 := kc_drew w2 #[.int .u8 27, .int .u8 80] 2 2
  go_wp2_with fail
  refine (only_any text 32 255 _ (by omega)).mono ?_
  rintro e w2 ⟨rfl, rfl⟩
  have R5 := Lib.hid (reads_kept (w' := (w2.alloc (.cells #[.int .u8 27, .int .u8 80] 5 (2, 3))).drew) (reads_own O2.out) (gb_drew (World.grownBy_alloc w2 _ none)) (by intro k _ h; simp at h))
  have A5 := Lib.hid (show (w2.alloc (.cells #[.int .u8 27, .int .u8 80] 5 (2, 3))).drew.cell? ⟨w.heap.size, 5, none⟩ = some (.string text) from (World.cell?_alloc_lt w2 _ ⟨w.heap.size, 5, none⟩ (by show w.heap.size < w2.heap.size; omega)).trans a5)
  have a5m := (World.cell?_alloc_lt w2 (.cells #[.int .u8 27, .int .u8 80] 5 (2, 3)) ⟨w.heap.size, 5, none⟩ (by show w.heap.size < w2.heap.size; omega)).trans a5
  have a5n := (World.cell?_alloc_lt w2 (.cells #[.int .u8 27, .int .u8 80] 5) ⟨w.heap.size, 5, none⟩ (by show w.heap.size < w2.heap.size; omega)).trans a5
  have hbig : ¬ (9223372036854775807 < text.size + 2) := by omega
  have OC := Lib.hid (show OwnC (w2.alloc (.cells #[.int .u8 27, .int .u8 80] 5 (2, 3))).drew w2.heap.size 1 (.slice (some ⟨w2.heap.size, 0, none⟩) 2 2) 2 (byteVals [27, 80]) from ownC_const w2.drew 5 [27, 80] #[.int .u8 27, .int .u8 80] rfl (by decide))
  go_upto_region 21 with fail
  go_region_law (first
    | (apply step_appS bytes_elem
       case hgd => rfl
       case ho => rfl
       case hown => exact OC.out
       case hs => rfl
       case hr => exact src_reads Tryd.underlying24 R5.out (bytes_one _)
       case hx => rfl
       case h63 => unfold maxLen; omega
       case hbytes => omega
       case hbase => simp
       intro bv5 w5 o5 g5 n5
       have hs5 := g5.size
       simp at hs5
       have e5 : w5.cell? ⟨w.heap.size, 5, none⟩ = some (.string text) := g5.cell A5.out (by simp [Value.ownBlock]; omega))
    | (have o5' := o5
       apply step_appS bytes_elem
       case hgd => rfl
       case ho => rfl
       case hown => exact o5
       case hs => rfl
       case hr => exact src_str _ Tryd.underlying9 (text ++ ⟨#[27, 92]⟩)
       case hx => rfl
       case h63 => rw [hcl]; unfold maxLen; omega
       case hbytes => rw [hcl]; omega
       case hbase => omega
       intro bv6 w6 o6 g6 n6))
  all_goals
    have O6 := Lib.hid o6
    have lt5 := ownC_lt o5
    have HB6 := Lib.hid (show Below w.heap.size w w6 by
      refine Below.trans (Below.trans HB2.out (?_ : Below w.heap.size w2 w5)) (?_ : Below w.heap.size w5 w6)
      · exact (((Below.refl w.heap.size w2).alloc (by omega) _).drew).grown g5 (by simp; omega) (by intro q hq; simp [Value.ownBlock] at hq; omega)
      · exact below_of_gb (a := w5) g6 (by omega) (fun q hq => by have := (lt5 q hq).1; omega))
    clear o6 g6 o5 g5 lt5 n5 n6
    go_wp2_with fail
    refine ret1v rfl rfl rfl ⟨_, rfl, ?_, HB6.out⟩
    rw [HOK2.out]
    have := ownC_reads O6.out
    rw [cat_list] at this
    show Reads _ _ _ ([27, 80] ++ hd ++ text.data.toList ++ [27, 92]).length (byteVals ([27, 80] ++ hd ++ text.data.toList ++ [27, 92]))
    rw [List.append_assoc ([27, 80] ++ hd), byteVals_append, byteVals_append, List.length_append, List.length_append]
    exact this
end
theorem written_any (a : VAct) (vp : Value) (w : World) (hr0 : -2147483648 ≤ a.rune) (hr1 : a.rune ≤ 2147483647) (hi : a.inter.size ≤ 1099511627776) (ht : a.text.size ≤ 1099511627776) (hp : IsRd .i64 w vp a.params) (htab : Tab Tryd.prog w) :
    Calls Tryd.prog 16 #[a.val vp] w fun e w' => ∃ v, e = .returned v ∧ Reads w' 1 v (wrL a).length (byteVals (wrL a)) ∧ Below w.heap.size w w' := by
  obtain ⟨kind, rune, byte, params, inter, text⟩ := a
  dsimp only at hr0 hr1 hi ht hp
  by_cases h1 : kind = 1
  · subst h1; exact wr_print rune byte params inter text vp w hr0 hr1
  by_cases h2 : kind = 2
  · subst h2; exact wr_control rune byte params inter text vp w
  by_cases h3 : kind = 3
  · subst h3; exact wr_esc rune byte params inter text vp w hi
  by_cases h4 : kind = 4
  · subst h4; exact wr_csi rune byte params inter text vp w hi hp htab
  by_cases h5 : kind = 5
  · subst h5; exact wr_osc rune byte params inter text vp w ht
  by_cases h6 : kind = 6
  · subst h6; exact wr_dcs rune byte params inter text vp w hi ht hp htab
  have e : wrL ⟨kind, rune, byte, params, inter, text⟩ = [] := by unfold wrL; simp [h1, h2, h3, h4, h5, h6]
  rw [e]
  exact wr_none rune byte params inter text vp w kind (by omega)
theorem wrL_len (a : VAct) : (wrL a).length ≤ 3000 := by
  have e1 := encL_pos a.rune
  have hc : ∀ (b : Bool) (l : List UInt8), (b = true → l.length ≤ 3000) → (cond b l []).length ≤ 3000 := by
    intro b l h; cases b
    · simp
    · exact h rfl
  have ht : txtOk a.text.data.toList = true → a.text.data.toList.length ≤ 1024 := fun h => by
    unfold txtOk at h; rw [Bool.and_eq_true, decide_eq_true_eq] at h; exact h.2
  unfold wrL
  repeat' split
  all_goals (try refine hc _ _ fun h => ?_)
  · omega
  · simp
  · unfold escOk at h; rw [Bool.and_eq_true] at h
    have := h.1
    unfold betweensL at this; rw [Bool.and_eq_true, decide_eq_true_eq] at this
    rw [List.length_append, List.length_cons, List.length_singleton]; omega
  · have := headL_len a h
    rw [List.length_append]
    show 2 + _ ≤ _; omega
  · have := ht h
    rw [List.length_append, List.length_append]
    show 2 + _ + 1 ≤ _; omega
  · rw [Bool.and_eq_true] at h
    have := headL_len a h.1
    have := ht h.2
    rw [List.length_append, List.length_append, List.length_append]
    show 2 + _ + _ + 2 ≤ _; omega
  · simp
end Go.Proofs.YtkdicejlfagaeaaDoor
