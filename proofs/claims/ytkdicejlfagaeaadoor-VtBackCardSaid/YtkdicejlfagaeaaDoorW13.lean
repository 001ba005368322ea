/- Walks of mullionlaw5: shown. -/
import Derived.Test.YtkdicejlfagaeaaDoorW12
namespace Go.Proofs.YtkdicejlfagaeaaDoor
open Go.RowKit

def ex1 : List UInt8 := [27, 91, 63, 50, 53, 59, 104]
def ex2 : List UInt8 := [97, 10, 195]
def ex3 : List UInt8 := [169, 27, 93, 48, 59, 104, 105, 7]
def es1 : PSt := (s0.run ex1).1
def es2 : PSt := (es1.run ex2).1
def es3 : PSt := (es2.run ex3).1
theorem ea1 : (s0.run ex1).2 = [csiAct 104 [25, -1] [63]] := by kernel_rfl
theorem ea2 : (es1.run ex2).2 = [prAct 97, ctlAct 10] := by kernel_rfl
theorem ea3 : (es2.run ex3).2 = [prAct 233, oscAct [48, 59, 104, 105]] := by kernel_rfl
theorem ep1 : prL [csiAct 104 [25, -1] [63]] = ex1 := by
  have h : Lib.itoa 25 = [50, 53] := by
    rw [show (25 : Int) = ((25 : Nat) : Int) from rfl, Lib.itoa_nonneg, Lib.decDigits_two (by decide) (by decide)]; rfl
  have h2 : wrL (csiAct 104 [25, -1] [63]) = cond (headOk (csiAct 104 [25, -1] [63])) ([27, 91] ++ headL (csiAct 104 [25, -1] [63])) [] := by unfold wrL; rfl
  have h3 : headOk (csiAct 104 [25, -1] [63]) = true := by kernel_rfl
  have h4 : headL (csiAct 104 [25, -1] [63]) = [63] ++ ((Lib.itoa 25) ++ [59]) ++ [] ++ [104] := by
    show ([63] : List UInt8) ++ (((if (false : Bool) then [59] else []) ++ (if (0 : Int) ≤ 25 then Lib.itoa 25 else [])) ++ (((if (true : Bool) then [59] else []) ++ (if (0 : Int) ≤ -1 then Lib.itoa (-1) else [])) ++ [])) ++ [] ++ [104] = _
    rw [if_neg (show ¬ (0 : Int) ≤ -1 by decide), if_pos (show (0 : Int) ≤ 25 by decide)]
    simp
  simp only [prL, List.flatMap_cons, List.flatMap_nil, List.append_nil]
  rw [h2, h3, h4, h]
  rfl
theorem Rest.own0 {T : Nat → Nat} {p : Nat} {w : World} {s : PSt} (h : Rest T p w s) {k : Nat} (hk : w.heap.size ≤ k) : T k = 0 := by
  by_cases h0 : T k = 0
  · exact h0
  · have := h.1 k h0; omega
theorem litRow {T : Nat → Nat} {p : Nat} {w : World} {s : PSt} (h : Rest T p w s) (e : TypeId) (l : List UInt8) (C : Array Value) (hC : C.toList = byteVals l) (hm : l.length ≤ maxLen) : Row T 0 1 (.slice (some ⟨w.heap.size, 0, none⟩) l.length l.length) l.length (byteVals l) (w.alloc (.cells C e (C.size, C.size + 1))) := by
  refine ⟨ownC_mono (ownC_const w e l C hC hm) (Nat.zero_le _), fun k hk => ?_⟩
  simp [Value.ownBlock] at hk
  exact h.own0 (by omega)
theorem below_alloc (w : World) (o : Obj) : Below w.heap.size w (w.alloc o) := (Below.refl _ _).alloc (Nat.le_refl _) o
theorem below_gb0 {w w' : World} (g : w.grownBy w' none) : Below w.heap.size w w' := ⟨g.os, g.tape, g.output, g.size, fun k hk => g.block k hk (by simp)⟩
/-- Feed, and what was told before it. -/
theorem feed_acts {T : Nat → Nat} {p : Nat} {w : World} {s : PSt} (vb : Value) (l : List UInt8) (h : Rest T p w s) (hv : Row T 0 1 vb l.length (byteVals l) w) (hl : l.length ≤ 100000000) :
    Calls Tryd.prog 12 #[.pointer (some ⟨p, 0, none⟩), vb] w fun e w' => ∃ vo T' L, e = .returned vo ∧ L.map (·.1) = (s.run l).2 ∧ Within (own T w) w w' ∧ (∀ k, T' k ≠ 0 → own T w k) ∧ Rest T' p w' (s.run l).1 ∧ Acts T' w' vo L ∧
      (∀ k, vo.ownBlock = some k → own T w k) ∧ ∀ x ∈ L, ∀ k, x.2.ownBlock = some k → own T w k := by
  refine (feed_any_p vb l h hv hl).mono ?_
  rintro e w' ⟨vo, T', L, rfl, h1, h2, h3, h4, h5, h6, h7⟩
  exact ⟨vo, T', L, rfl, h1, h2, h4, h3, ⟨h5, fun x hx => (h7 x hx).1⟩, h6, fun x hx => (h7 x hx).2⟩
theorem within_below {G : Nat → Prop} {B : Nat} {w w' : World} (h : Within G w w') (hB : B ≤ w.heap.size) (hG : ∀ k, k < B → ¬ G k) : Below B w w' :=
  ⟨h.os, h.tape, h.output, h.size, fun k hk => h.block k (by omega) (hG k hk)⟩
theorem acts_lit (w : World) (L : List (VAct × Value)) (g n : Nat) (hn : n = L.length) (hm : L.length ≤ 1000000) (hg : g = w.heap.size) (C : Array Value) (hC : C.toList = actCells L) (hv : ∀ x ∈ L, IsRd .i64 w x.2 x.1.params) : IsActs (w.alloc (.cells C 37)) (.slice (some ⟨g, 0, none⟩) n n) L := by
  subst hn
  exact acts_read (ownC_own (ownsRow_new (base := 0) C _ hg (by omega) (by unfold maxLen; omega) (by rw [← Array.length_toList, hC, actCells_len]) hC)) fun x hx => isRd_below (hv x hx) (below_alloc w _)
theorem own_below {T : Nat → Nat} {B : Nat} {w w' : World} (h : Within (own T w) w w') (hB : B ≤ w.heap.size) (hT : ∀ k, T k ≠ 0 → B ≤ k) : Below B w w' :=
  within_below h hB fun k hk hg => by
    rcases hg with hg | hg
    · have := hT k hg; omega
    · omega
theorem own_from {T T' : Nat → Nat} {B : Nat} {w : World} (ht : ∀ k, T' k ≠ 0 → own T w k) (hB : B ≤ w.heap.size) (hT : ∀ k, T k ≠ 0 → B ≤ k) : ∀ k, T' k ≠ 0 → B ≤ k := fun k hk => by
  rcases ht k hk with h | h
  · exact hT k h
  · omega
theorem isActs_below {w w' : World} {v : Value} {L : List (VAct × Value)} (h : IsActs w v L) (g : Below w.heap.size w w') : IsActs w' v L := by
  obtain ⟨h1, h2⟩ := h
  refine ⟨?_, fun x hx => isRd_below (h2 x hx) g⟩
  rcases h1 with h1 | ⟨a, c, hv, hc, hm, hx⟩
  · exact .inl h1
  · refine .inr ⟨a, c, hv, hc, hm, fun j hj => ?_⟩
    obtain ⟨p0, p1, p2, p3, p4, p5⟩ := hx j hj
    exact ⟨cell_below g p0, cell_below g p1, cell_below g p2, cell_below g p3, cell_below g p4, cell_below g p5⟩
theorem run_s0 : (s0.run ex1).1 = es1 ∧ (es1.run ex2).1 = es2 ∧ (es2.run ex3).1 = es3 := ⟨rfl, rfl, rfl⟩
set_option maxRecDepth 100000 in
set_option maxHeartbeats 4000000 in
theorem shown_any (w : World) (htab : Tab Tryd.prog w) :
    Calls Tryd.prog 8 #[] w fun e w' => e = .returned (.bool true) ∧ Below w.heap.size w w' := by
  have HTAB := Lib.hid htab
  clear htab
  go_enter Tryd.func8, Tryd.ntmps8
  go_wp2_with fail
  refine (new_any _).mono ?_
  rintro e w1 ⟨p, T, rfl, b1, hr1, hT1⟩
  have HB1 := Lib.hid b1
  have HR1 := Lib.hid hr1
  have HT1 := Lib.hid hT1
  clear b1 hr1 hT1
  go_wp2_with fail
  have hst := state_any HR1.out
  rw [show (⟨(stateName s0.state).toArray⟩ : ByteArray) = ⟨#[103, 114, 111, 117, 110, 100]⟩ from rfl] at hst
  refine hst.mono ?_
  clear hst
  rintro e w2 ⟨rfl, g2⟩
  have HB2 := Lib.hid (HB1.out.trans ((below_gb0 g2).mono HB1.out.size))
  have HR2 := Lib.hid (HR1.out.below (below_gb0 g2))
  clear g2 HR1
  have hc1 := kc_one w2 #[.int .u8 27, .int .u8 91, .int .u8 63, .int .u8 50, .int .u8 53, .int .u8 59, .int .u8 104] 7 7
  have HBa1 := Lib.hid (below_alloc w2 (.cells #[.int .u8 27, .int .u8 91, .int .u8 63, .int .u8 50, .int .u8 53, .int .u8 59, .int .u8 104] 5 (7, 8)))
  have HRa1 := Lib.hid (HR2.out.below HBa1.out)
  have HF1 := Lib.hid (feed_acts _ ex1 HRa1.out (litRow HR2.out 5 ex1 #[.int .u8 27, .int .u8 91, .int .u8 63, .int .u8 50, .int .u8 53, .int .u8 59, .int .u8 104] rfl (by decide)) (by decide))
  go_wp2_with fail
  refine HF1.out.mono ?_
  rintro e w3 ⟨v1, T2, L1, rfl, ha1, hw1, ht1, hr1, hac1, _, _⟩
  have HWB1 := Lib.hid (HB2.out.trans (((below_alloc w2 (.cells #[.int .u8 27, .int .u8 91, .int .u8 63, .int .u8 50, .int .u8 53, .int .u8 59, .int .u8 104] 5 (7, 8))).mono HB2.out.size).trans (own_below hw1 (Nat.le_trans HB2.out.size HBa1.out.size) HT1.out)))
  have HT2 := Lib.hid (own_from ht1 (Nat.le_trans HB2.out.size HBa1.out.size) HT1.out)
  have HA1 := Lib.hid hac1
  have HR3 := Lib.hid (show Rest T2 p w3 es1 from hr1)
  have HE1 := Lib.hid (ha1.trans ea1)
  have HB3 := HWB1
  clear ha1 hw1 ht1 hr1 hac1 HRa1 HF1 hc1 HR2 HWB1 HBa1
  have hc2 := kc_one w3 #[.int .u8 97, .int .u8 10, .int .u8 195] 3 3
  have HBa2 := Lib.hid (below_alloc w3 (.cells #[.int .u8 97, .int .u8 10, .int .u8 195] 5 (3, 4)))
  have HRa2 := Lib.hid (HR3.out.below HBa2.out)
  have HAa21 := Lib.hid (HA1.out.below HBa2.out)
  have HF2 := Lib.hid (feed_acts _ ex2 HRa2.out (litRow HR3.out 5 ex2 #[.int .u8 97, .int .u8 10, .int .u8 195] rfl (by decide)) (by decide))
  go_wp2_with fail
  refine HF2.out.mono ?_
  rintro e w4 ⟨v2, T3, L2, rfl, ha2, hw2, ht2, hr2, hac2, _, _⟩
  have HWB2 := Lib.hid (HB3.out.trans (((below_alloc w3 (.cells #[.int .u8 97, .int .u8 10, .int .u8 195] 5 (3, 4))).mono HB3.out.size).trans (own_below hw2 (Nat.le_trans HB3.out.size HBa2.out.size) HT2.out)))
  have HT3 := Lib.hid (own_from ht2 (Nat.le_trans HB3.out.size HBa2.out.size) HT2.out)
  have HA1' := Lib.hid (HAa21.out.next hw2 ht2)
  clear HA1 HAa21
  have HA1 := HA1'
  clear HA1'
  have HA2 := Lib.hid hac2
  have HR4 := Lib.hid (show Rest T3 p w4 es2 from hr2)
  have HE2 := Lib.hid (ha2.trans ea2)
  have HB4 := HWB2
  clear ha2 hw2 ht2 hr2 hac2 HRa2 HF2 hc2 HR3 HWB2 HBa2
  have hc3 := kc_one w4 #[.int .u8 169, .int .u8 27, .int .u8 93, .int .u8 48, .int .u8 59, .int .u8 104, .int .u8 105, .int .u8 7] 8 8
  have HBa3 := Lib.hid (below_alloc w4 (.cells #[.int .u8 169, .int .u8 27, .int .u8 93, .int .u8 48, .int .u8 59, .int .u8 104, .int .u8 105, .int .u8 7] 5 (8, 9)))
  have HRa3 := Lib.hid (HR4.out.below HBa3.out)
  have HAa31 := Lib.hid (HA1.out.below HBa3.out)
  have HAa32 := Lib.hid (HA2.out.below HBa3.out)
  have HF3 := Lib.hid (feed_acts _ ex3 HRa3.out (litRow HR4.out 5 ex3 #[.int .u8 169, .int .u8 27, .int .u8 93, .int .u8 48, .int .u8 59, .int .u8 104, .int .u8 105, .int .u8 7] rfl (by decide)) (by decide))
  go_wp2_with fail
  refine HF3.out.mono ?_
  rintro e w5 ⟨v3, T4, L3, rfl, ha3, hw3, ht3, hr3, hac3, _, _⟩
  have HWB3 := Lib.hid (HB4.out.trans (((below_alloc w4 (.cells #[.int .u8 169, .int .u8 27, .int .u8 93, .int .u8 48, .int .u8 59, .int .u8 104, .int .u8 105, .int .u8 7] 5 (8, 9))).mono HB4.out.size).trans (own_below hw3 (Nat.le_trans HB4.out.size HBa3.out.size) HT3.out)))
  have HT4 := Lib.hid (own_from ht3 (Nat.le_trans HB4.out.size HBa3.out.size) HT3.out)
  have HA1' := Lib.hid (HAa31.out.next hw3 ht3)
  clear HA1 HAa31
  have HA1 := HA1'
  clear HA1'
  have HA2' := Lib.hid (HAa32.out.next hw3 ht3)
  clear HA2 HAa32
  have HA2 := HA2'
  clear HA2'
  have HA3 := Lib.hid hac3
  have HR5 := Lib.hid (show Rest T4 p w5 es3 from hr3)
  have HE3 := Lib.hid (ha3.trans ea3)
  have HB5 := HWB3
  clear ha3 hw3 ht3 hr3 hac3 HRa3 HF3 hc3 HR4 HWB3 HBa3
  have hI1 := HA1.out.isActs
  have hI2 := HA2.out.isActs
  have hI3 := HA3.out.isActs
  have HI1 := Lib.hid hI1
  have HI2 := Lib.hid hI2
  have HI3 := Lib.hid hI3
  clear hI1 hI2 hI3 HA1 HA2 HA3 HR5
  have HP5 := Lib.hid (below_alloc w5 (.cells #[.int .i64 25, .int .i64 (-1)] 3))
  have HX1 := Lib.hid (acts_lit (w5.alloc (.cells #[.int .i64 25, .int .i64 (-1)] 3)) [(csiAct 104 [25, -1] [63], .slice (some ⟨w5.heap.size, 0, none⟩) 2 2)] (w5.heap.size + 1) 1 rfl (by simp) (by simp) #[.int .i64 4, .int .i32 0, .int .u8 104, .slice (some ⟨w5.heap.size, 0, none⟩) 2 2, .string ⟨#[63]⟩, .string ⟨#[]⟩] rfl (fun x hx => by
    rw [List.mem_singleton] at hx
    subst hx
    exact isRd_own (ownC_own (ownsRow_new (base := 0) (e := 3) #[.int .i64 25, .int .i64 (-1)] [.int .i64 25, .int .i64 (-1)] rfl (by omega) (by decide) rfl rfl))))
  have HQ5 := Lib.hid ((HP5.out.trans ((below_alloc (w5.alloc (.cells #[.int .i64 25, .int .i64 (-1)] 3)) (.cells #[.int .i64 4, .int .i32 0, .int .u8 104, .slice (some ⟨w5.heap.size, 0, none⟩) 2 2, .string ⟨#[63]⟩, .string ⟨#[]⟩] 37)).mono HP5.out.size)))
  have HS1 := Lib.hid (all_eq v1 _ L1 _ _ (isActs_below HI1.out HQ5.out) HX1.out HE1.out)
  go_wp2_with fail
  refine HS1.out.mono ?_
  rintro e w6 ⟨rfl, b6⟩
  have HQw6 := Lib.hid (show Below w5.heap.size w5 w6 from HQ5.out.trans (b6.mono HQ5.out.size))
  have HB6 := Lib.hid (HB5.out.trans (HQw6.out.mono HB5.out.size))
  have HI1' := Lib.hid (isActs_below HI1.out HQw6.out)
  have HI2' := Lib.hid (isActs_below HI2.out HQw6.out)
  have HI3' := Lib.hid (isActs_below HI3.out HQw6.out)
  clear HS1 HX1 HQ5 HP5 b6 HI1 HI2 HI3
  have HI2 := HI2'
  have HG2 := Lib.hid (below_alloc w6 (.cells #[.int .i64 1, .int .i32 97, .int .u8 0, .slice none 0 0, .string ⟨#[]⟩, .string ⟨#[]⟩, .int .i64 2, .int .i32 0, .int .u8 10, .slice none 0 0, .string ⟨#[]⟩, .string ⟨#[]⟩] 37))
  have HX2 := Lib.hid (acts_lit w6 [(prAct 97, .slice none 0 0), (ctlAct 10, .slice none 0 0)] w6.heap.size 2 rfl (by simp) rfl #[.int .i64 1, .int .i32 97, .int .u8 0, .slice none 0 0, .string ⟨#[]⟩, .string ⟨#[]⟩, .int .i64 2, .int .i32 0, .int .u8 10, .slice none 0 0, .string ⟨#[]⟩, .string ⟨#[]⟩] rfl (fun x hx => by
    rw [List.mem_cons, List.mem_singleton] at hx
    rcases hx with rfl | rfl
    all_goals exact isRd_nil _ _))
  have HS2 := Lib.hid (all_eq v2 _ L2 _ _ (isActs_below HI2.out HG2.out) HX2.out HE2.out)
  go_wp2_with fail
  refine HS2.out.mono ?_
  rintro e w7 ⟨rfl, bw7⟩
  have HQw7 := Lib.hid (show Below w6.heap.size w6 w7 from HG2.out.trans (bw7.mono HG2.out.size))
  clear HS2 HX2 HG2 bw7
  have HB7 := Lib.hid (HB6.out.trans (HQw7.out.mono HB6.out.size))
  have HI1 := Lib.hid (isActs_below HI1'.out HQw7.out)
  have HI3 := Lib.hid (isActs_below HI3'.out HQw7.out)
  clear HI1' HI2' HI3' HI2 HQw6
  have HG3 := Lib.hid (below_alloc w7 (.cells #[.int .i64 1, .int .i32 233, .int .u8 0, .slice none 0 0, .string ⟨#[]⟩, .string ⟨#[]⟩, .int .i64 5, .int .i32 0, .int .u8 0, .slice none 0 0, .string ⟨#[]⟩, .string ⟨#[48, 59, 104, 105]⟩] 37))
  have HX3 := Lib.hid (acts_lit w7 [(prAct 233, .slice none 0 0), (oscAct [48, 59, 104, 105], .slice none 0 0)] w7.heap.size 2 rfl (by simp) rfl #[.int .i64 1, .int .i32 233, .int .u8 0, .slice none 0 0, .string ⟨#[]⟩, .string ⟨#[]⟩, .int .i64 5, .int .i32 0, .int .u8 0, .slice none 0 0, .string ⟨#[]⟩, .string ⟨#[48, 59, 104, 105]⟩] rfl (fun x hx => by
    rw [List.mem_cons, List.mem_singleton] at hx
    rcases hx with rfl | rfl
    all_goals exact isRd_nil _ _))
  have HS3 := Lib.hid (all_eq v3 _ L3 _ _ (isActs_below HI3.out HG3.out) HX3.out HE3.out)
  go_wp2_with fail
  refine HS3.out.mono ?_
  rintro e w8 ⟨rfl, bw8⟩
  have HQw8 := Lib.hid (show Below w7.heap.size w7 w8 from HG3.out.trans (bw8.mono HG3.out.size))
  clear HS3 HX3 HG3 bw8
  have HB8 := Lib.hid (HB7.out.trans (HQw8.out.mono HB7.out.size))
  have hi1 := isActs_below HI1.out HQw8.out
  have hfit : ∀ x ∈ L1, ActFits x.1 := fun x hx => by
    have hm : x.1 ∈ L1.map (·.1) := List.mem_map_of_mem hx
    rw [HE1.out, List.mem_singleton] at hm
    rw [hm]
    exact ⟨by decide, by decide, by decide, by decide⟩
  have hl1 : L1.length ≤ 8388608 := by
    have := congrArg List.length HE1.out
    rw [List.length_map] at this
    rw [this]; decide
  have HPR := Lib.hid (print_any v1 L1 w8 hi1 hfit hl1 (tab_go HTAB.out (HB8.out)))
  clear hi1 hfit hl1 HI3 HI1 HQw7
  rw [HE1.out, ep1] at HPR
  go_wp2_with fail
  refine HPR.out.mono ?_
  rintro e w9 ⟨r, rfl, o9, b9⟩
  have HB9 := Lib.hid (HB8.out.trans (b9.mono HB8.out.size))
  have hcv := run_bytes_reads (P := Tryd.prog) Tryd.underlying24 Tryd.underlying5 Tryd.underlying9 (ownC_reads o9)
  rw [show (⟨ex1.toArray⟩ : ByteArray) = ⟨#[27, 91, 63, 50, 53, 59, 104]⟩ from rfl] at hcv
  clear o9 b9
  go_wp2_with fail
  go_ret
  exact ⟨rfl, HB9.out⟩
end Go.Proofs.YtkdicejlfagaeaaDoor
