/- Package grid, texts laid together: R1 R2 E1 H1. -/
import Derived.Test.YtjclgoiclbkgjaaGreatDoorK3
import Derived.Laws.Bits64b
import Derived.Lib.AppendIntMem
import Derived.Lib.ItoaLen
import Derived.Test.YtjclgoiclbkgjaaGreatDoorK12
import Derived.Test.YtjclgoiclbkgjaaGreatDoorK6
import Derived.Test.YtjclgoiclbkgjaaGreatDoorK25
/- strconv.FormatInt in base 16, at the numbers that a colour may be. -/
namespace Go.Proofs.YtjclgoiclbkgjaaGreatDoor
open Go.RowKit
/-- What FormatInt reads of the table of math/bits. -/
def DbAt (B : Nat) (w : World) : Prop := ∀ w', Below B w w' → w'.cell? ⟨4, 15, none⟩ = some (.int .u8 4)
set_option maxRecDepth 100000 in
theorem tz64_any (w : World) (h : w.cell? ⟨4, 15, none⟩ = some (.int .u8 4)) :
    Calls Tryz.prog 113 #[.int .u64 16] w fun e w' => e = .returned (.int .i64 4) ∧ w' = w := by
  have hb : IntKind.u64.wrap (bits BinOp.and IntKind.u64 16 (IntKind.u64.wrap (-16)) * 285870213051353865) / 288230376151711744 = 15 := by kernel_rfl
  go_enter Tryz.func113, Tryz.ntmps113
  go_wp2_with fail
  exact ret1v rfl rfl rfl ⟨rfl, rfl⟩
set_option maxRecDepth 100000 in
theorem tz_any (w : World) (h : w.cell? ⟨4, 15, none⟩ = some (.int .u8 4)) :
    Calls Tryz.prog 111 #[.int .u64 16] w fun e w' => e = .returned (.int .i64 4) ∧ w' = w := by
  go_enter Tryz.func111, Tryz.ntmps111
  go_wp2_with fail
  refine (tz64_any w h).mono ?_
  rintro e w2 ⟨rfl, rfl⟩
  go_wp2_with fail
  exact ret1v rfl rfl rfl ⟨rfl, rfl⟩
set_option maxRecDepth 100000 in
theorem pow2_any (w : World) : Calls Tryz.prog 110 #[.int .i64 16] w fun e w' => e = .returned (.bool true) ∧ w' = w := by
  go_enter Tryz.func110, Tryz.ntmps110
  go_wp2_with fail
  exact ret1v rfl rfl rfl ⟨rfl, rfl⟩
def lo16 : Nat → Nat
  | 0 => 16777216
  | 1 => 1048576
  | 2 => 65536
  | 3 => 4096
  | 4 => 256
  | 5 => 16
  | _ => 1
theorem lo16_step {k x : Nat} (hk : k < 6) (h : lo16 k ≤ x ∧ x < 2 * lo16 k) : 16 ≤ x ∧ lo16 (k + 1) ≤ x / 16 ∧ x / 16 < 2 * lo16 (k + 1) := by
  match k, hk with
  | 0, _ => simp only [lo16] at h ⊢; omega
  | 1, _ => simp only [lo16] at h ⊢; omega
  | 2, _ => simp only [lo16] at h ⊢; omega
  | 3, _ => simp only [lo16] at h ⊢; omega
  | 4, _ => simp only [lo16] at h ⊢; omega
  | 5, _ => simp only [lo16] at h ⊢; omega
theorem byteVals_set (bs : List UInt8) (i : Nat) (b : UInt8) : (byteVals bs).toArray.setIfInBounds i (.int .u8 (b.toNat : Int)) = (byteVals (bs.set i b)).toArray := by
  unfold byteVals
  rw [List.map_set, List.setIfInBounds_toArray]
theorem and15 (x : Nat) (h : x < 18446744073709551616) : bits BinOp.and IntKind.u64 (x : Int) 15 = ((x % 16 : Nat) : Int) := by
  have := bits_and_u64_nat x 15 h (by decide)
  rw [show ((15 : Nat) : Int) = 15 from rfl] at this
  rw [this, show (15 : Nat) = 2 ^ 4 - 1 from rfl, Nat.and_two_pow_sub_one_eq_mod]
theorem ret2u {P : Program} {fn : Func} {R : Ending → World → Prop} {a : Act} {w : World} {t u : Tmp} {v1 v2 : Value} (h : fn.results = #[.tmp t, .tmp u]) (hd : a.defers = []) (h1 : a.tmps.getD t undef = v1) (h2 : a.tmps.getD u undef = v2) (hR : R (.returned (.tuple #[v1, v2])) w) :
    bodyPost P fn R .ret a w := by
  subst h1 h2; exact bodyPost_ret (results_tmp2 h _ _ _) hd hR
set_option maxRecDepth 100000 in
set_option maxHeartbeats 4000000 in
theorem bits16_any (u : Nat) (h0 : 16777216 ≤ u) (h1 : u < 33554432) (w : World) (hd : DbAt w.heap.size w) :
    Calls Tryz.prog 104 #[.slice none 0 0, .int .u64 u, .int .i64 16, .bool false, .bool false] w fun e w' => ∃ l : List UInt8, l.length = 7 ∧ e = .returned (.tuple #[.slice none 0 0, .string ⟨l.toArray⟩]) ∧ Below w.heap.size w w' := by
  go_enter Tryz.func104, Tryz.ntmps104
  go_wp2_with fail
  refine (pow2_any _).mono ?_
  rintro e w2 ⟨rfl, hw2⟩
  subst w2
  have HB1 := Lib.hid ((Below.refl w.heap.size w).alloc (Nat.le_refl _) (.cells (Array.replicate 65 (.int .u8 0)) 163))
  go_wp2_with fail
  refine (tz_any _ (hd _ HB1.out)).mono ?_
  rintro e w2 ⟨rfl, hw2⟩
  subst w2
  go_upto_region 11 with fail
  go_loopw [1, 13] (fun uv iv wr => ∃ k x : Nat, (k ≤ 6 ∧ lo16 k ≤ x ∧ x < 2 * lo16 k ∧ x < 33554432) ∧ uv = .int .u64 x ∧ iv = .int .i64 (65 - k : Nat) ∧ Hid (Below w.heap.size w wr) ∧ Hid (∃ bs : List UInt8, bs.length = 65 ∧ wr.heap[w.heap.size]? = some (.cells (byteVals bs).toArray 163 (0, 0)))) (fun _ iv _ => (intOf iv).toNat)
  case atStart => exact ⟨0, u, ⟨by decide, h0, h1, h1⟩, rfl, rfl, HB1.out, List.replicate 65 0, by simp, blk_new _ _⟩
  case round =>
    obtain ⟨k, x, ⟨hk, hlo, hhi, hxx⟩, rfl, rfl, HB, HC⟩ := hrel
    by_cases hk6 : k < 6
    · obtain ⟨s1, s2, s3⟩ := lo16_step hk6 ⟨hlo, hhi⟩
      have d1 : decide ((16 : Int) ≤ (x : Int)) = true := decide_eq_true (by omega)
      have d1' : decide (16 ≤ x) = true := decide_eq_true s1
      have ha := and15 x (by omega)
      obtain ⟨m, hm⟩ : ∃ m : Nat, m = 64 - k := ⟨_, rfl⟩
      have hw1 : IntKind.i64.wrap (((65 - k : Nat) : Int) - 1) = (m : Int) := by rw [wrap64_id _ (by omega) (by omega)]; omega
      obtain ⟨bs, hbl, hblk⟩ := HC.out
      have hm65 : (m : Int) < 65 ∧ m < 65 := by omega
      have c0 : wr.cell? ⟨w.heap.size, m, none⟩ = some (.int .u8 ((bs.getD m 0).toNat : Int)) := by
        rw [blk_cell hblk m]
        unfold byteVals
        rw [List.getElem?_toArray, List.getElem?_map, List.getD_eq_getElem?_getD, List.getElem?_eq_getElem (by omega)]
        rfl
      have z0 : wr.frozen? ⟨w.heap.size, m, none⟩ = false := blk_free hblk m
      have HBK := Lib.hid hblk
      have HBL := Lib.hid hbl
      have HM := Lib.hid hm
      clear hblk hbl hm
      go_wp2_with fail
      have hmk : m = 65 - (k + 1) := by have := HM.out; omega
      refine ⟨⟨k + 1, x / 16, ⟨by omega, s2, s3, by omega⟩, by simp, by rw [hmk], HB.out.trans (below_of_gb (gb_set (gb_refl wr (some w.heap.size)) m _) HB.out.size (fun q hq => by injection hq with hq; omega)), _, ?_, (blk_set HBK.out m _).trans (by rw [byteVals_set])⟩, ?_⟩
      · rw [List.length_set]; exact HBL.out
      · simp [intOf]; have := HM.out; omega
    · have hk : k = 6 := by omega
      subst hk
      have hx1 : x = 1 := by simp only [lo16] at hlo hhi; omega
      subst hx1
      obtain ⟨bs, hbl, hblk⟩ := HC.out
      have c0 : wr.cell? ⟨w.heap.size, 58, none⟩ = some (.int .u8 ((bs.getD 58 0).toNat : Int)) := by
        rw [blk_cell hblk 58]
        unfold byteVals
        rw [List.getElem?_toArray, List.getElem?_map, List.getD_eq_getElem?_getD, List.getElem?_eq_getElem (by omega)]
        rfl
      have z0 : wr.frozen? ⟨w.heap.size, 58, none⟩ = false := blk_free hblk 58
      have HBK := Lib.hid hblk
      have HBL := Lib.hid hbl
      clear hblk hbl
      go_upto_region 30 with fail
      have HK2 : ∃ b : UInt8, Hid ((wr.setCell ⟨w.heap.size, 58, none⟩ (.int .u8 (b.toNat : Int))).heap[w.heap.size]? = some (.cells (byteVals (bs.set 58 b)).toArray 163 (0, 0)) ∧ b = 49) := ⟨49, (blk_set HBK.out 58 _).trans (by rw [byteVals_set]), rfl⟩
      obtain ⟨b, HK2⟩ := HK2
      have HB2 := Lib.hid (HB.out.trans (below_of_gb (gb_set (gb_refl wr (some w.heap.size)) 58 (.int .u8 (b.toNat : Int))) HB.out.size (fun q hq => by injection hq with hq; omega)))
      generalize hw2 : wr.setCell ⟨w.heap.size, 58, none⟩ (.int .u8 (b.toNat : Int)) = w2 at *
      have hw3 : ∀ v, v = Value.int .u8 (b.toNat : Int) → wr.setCell ⟨w.heap.size, 58, none⟩ v = w2 := fun v hv => by rw [hv, hw2]
      rw [hw3 _ (by rw [HK2.out.2]; rfl)]
      have hbl : (bs.set 58 b).length = 65 := by rw [List.length_set]; exact HBL.out
      generalize bs.set 58 b = cs at *
      have hrd : Reads w2 1 (.slice (some ⟨w.heap.size, 58, none⟩) 7 7) (cs.drop 58).length (byteVals (cs.drop 58)) := by
        have e : (cs.drop 58).length = 7 := by rw [List.length_drop, hbl]
        rw [e]
        refine .inr ⟨_, _, rfl, by unfold byteVals; rw [List.length_map, e], fun j v hv => ?_⟩
        rw [add_eq, blk_cell HK2.out.1 (58 + j), List.getElem?_toArray]
        unfold byteVals at hv ⊢
        rw [List.map_drop, List.getElem?_drop] at hv
        exact hv
      have hcv := run_bytes_reads (P := Tryz.prog) Tryz.underlying83 Tryz.underlying5 Tryz.underlying9 hrd
      have HCL := Lib.hid (show (cs.drop 58).length = 7 by rw [List.length_drop, hbl])
      clear hrd hbl hw2 hw3 c0 z0
      generalize cs.drop 58 = ds at *
      go_wp2_with fail
      exact ret2u rfl rfl rfl rfl ⟨ds, HCL.out, rfl, HB2.out⟩
set_option maxRecDepth 100000 in
theorem format16_any (u : Nat) (h0 : 16777216 ≤ u) (h1 : u < 33554432) (w : World) (hd : DbAt w.heap.size w) :
    Calls Tryz.prog 99 #[.int .i64 u, .int .i64 16] w fun e w' => ∃ l : List UInt8, l.length = 7 ∧ e = .returned (.string ⟨l.toArray⟩) ∧ Below w.heap.size w w' := by
  have d0 : decide ((u : Int) < 0) = false := decide_eq_false (by omega)
  have HD := Lib.hid hd
  clear hd
  go_enter Tryz.func99, Tryz.ntmps99
  go_wp2_with fail
  refine (bits16_any u h0 h1 w HD.out).mono ?_
  rintro e w2 ⟨l, hl, rfl, b2⟩
  have HL := Lib.hid hl
  have HB := Lib.hid b2
  clear hl b2
  go_wp2_with fail
  exact ret1v rfl rfl rfl ⟨l, HL.out, rfl, HB.out⟩
set_option maxRecDepth 100000 in
theorem formatP_any (u : Nat) (h0 : 16777216 ≤ u) (h1 : u < 33554432) (w : World) (hd : DbAt w.heap.size w) :
    Calls Tryz.prog 95 #[.int .i64 u, .int .i64 16] w fun e w' => ∃ l : List UInt8, l.length = 7 ∧ e = .returned (.string ⟨l.toArray⟩) ∧ Below w.heap.size w w' := by
  have HD := Lib.hid hd
  clear hd
  go_enter Tryz.func95, Tryz.ntmps95
  go_wp2_with fail
  refine (format16_any u h0 h1 w HD.out).mono ?_
  rintro e w2 ⟨l, hl, rfl, b2⟩
  have HL := Lib.hid hl
  have HB := Lib.hid b2
  clear hl b2
  go_wp2_with fail
  exact ret1v rfl rfl rfl ⟨l, HL.out, rfl, HB.out⟩
end Go.Proofs.YtjclgoiclbkgjaaGreatDoor

/- style.Name and style.Right, of any colour and any style. -/
namespace Go.Proofs.YtjclgoiclbkgjaaGreatDoor
open Go.RowKit

/-- The package variables that style.Name reads are as the program lays them, now and behind what is made since. -/
structure Tabs (w : World) : Prop where
  sp : Lib.TabBelow Tryz.prog w.heap.size w "strings.asciiSpace" .u8 Lib.asciiSpaceTab
  pw : Tab Tryz.prog w
  db : DbAt w.heap.size w
theorem Tabs.below {w w' : World} (h : Tabs w) (b : Below w.heap.size w w') : Tabs w' :=
  ⟨fun w2 h2 => h.sp w2 (b.trans (h2.mono b.size)), tab_go h.pw b, fun w2 h2 => h.db w2 (b.trans (h2.mono b.size))⟩
def colsB : ByteArray := ⟨#[98, 108, 97, 99, 107, 32, 114, 101, 100, 32, 103, 114, 101, 101, 110, 32, 121, 101, 108, 108, 111, 119, 32, 98, 108, 117, 101, 32, 109, 97, 103, 101, 110, 116, 97, 32, 99, 121, 97, 110, 32, 119, 104, 105, 116, 101]⟩
theorem cols_fields : Lib.fields colsB.data.toList = [[98, 108, 97, 99, 107], [114, 101, 100], [103, 114, 101, 101, 110], [121, 101, 108, 108, 111, 119], [98, 108, 117, 101], [109, 97, 103, 101, 110, 116, 97], [99, 121, 97, 110], [119, 104, 105, 116, 101]] := by decide +kernel
theorem fields_cols (w : World) (h : Tabs w) : Calls Tryz.prog 93 #[.string colsB] w fun e w' =>
    e = .returned (.slice (some ⟨w.heap.size, 0, none⟩) 8 8) ∧ w' = w.alloc (.cells #[.string ⟨#[98, 108, 97, 99, 107]⟩, .string ⟨#[114, 101, 100]⟩, .string ⟨#[103, 114, 101, 101, 110]⟩, .string ⟨#[121, 101, 108, 108, 111, 119]⟩, .string ⟨#[98, 108, 117, 101]⟩, .string ⟨#[109, 97, 103, 101, 110, 116, 97]⟩, .string ⟨#[99, 121, 97, 110]⟩, .string ⟨#[119, 104, 105, 116, 101]⟩] 9) := by
  refine (Tryz.strings_Fields colsB w (by decide) (fun j b hb => ?_) h.sp.here).mono ?_
  · have hm := List.mem_of_getElem? hb
    have hall : ∀ b ∈ colsB.data.toList, b.toNat < 128 := by decide
    exact hall b hm
  · rintro e w' ⟨rfl, rfl⟩
    rw [cols_fields]
    exact ⟨rfl, rfl⟩
set_option maxRecDepth 100000 in
set_option maxHeartbeats 4000000 in
theorem name_any (c : Int) (hc : -9223372036854775808 ≤ c ∧ c ≤ 9223372036854775807) (w : World) (ht : Tabs w) :
    Calls Tryz.prog 89 #[.int .i64 c] w fun e w' => ∃ s : ByteArray, e = .returned (.string s) ∧ (s.size = 0 ↔ colOk c = false) ∧ Below w.heap.size w w' := by
  have HT := Lib.hid ht
  clear ht
  by_cases h0 : c = -1
  · subst h0
    refine (name_plain w).mono ?_
    rintro e w2 ⟨rfl, rfl⟩
    exact ⟨_, rfl, by decide, Below.refl _ _⟩
  have d0 : decide (c = -1) = false := decide_eq_false h0
  have d0' : (c == -1) = false := by simp [h0]
  by_cases h1 : 0 ≤ c
  rotate_left
  · have d1 : decide (0 ≤ c) = false := decide_eq_false h1
    have d2 : decide (8 ≤ c) = false := decide_eq_false (by omega)
    have d3 : decide (16 ≤ c) = false := decide_eq_false (by omega)
    have d4 : decide (16777216 ≤ c) = false := decide_eq_false (by omega)
    have HC := Lib.hid (show colOk c = false by unfold colOk; rw [decide_eq_false (by omega), decide_eq_false (by omega)]; rfl)
    go_enter Tryz.func89, Tryz.ntmps89
    go_wp2_with fail
    exact ret1v rfl rfl rfl ⟨_, rfl, ⟨fun _ => HC.out, fun _ => rfl⟩, Below.refl _ _⟩
  obtain ⟨n, rfl⟩ : ∃ n : Nat, c = (n : Int) := ⟨c.toNat, by omega⟩
  clear h1 h0
  by_cases h2 : n < 8
  · have HC := Lib.hid (show colOk (n : Int) = true by unfold colOk; rw [decide_eq_true (by omega)]; rfl)
    have HB := Lib.hid ((Below.refl w.heap.size w).alloc (Nat.le_refl _) (.cells #[.string ⟨#[98, 108, 97, 99, 107]⟩, .string ⟨#[114, 101, 100]⟩, .string ⟨#[103, 114, 101, 101, 110]⟩, .string ⟨#[121, 101, 108, 108, 111, 119]⟩, .string ⟨#[98, 108, 117, 101]⟩, .string ⟨#[109, 97, 103, 101, 110, 116, 97]⟩, .string ⟨#[99, 121, 97, 110]⟩, .string ⟨#[119, 104, 105, 116, 101]⟩] 9))
    rcases (show n = 0 ∨ n = 1 ∨ n = 2 ∨ n = 3 ∨ n = 4 ∨ n = 5 ∨ n = 6 ∨ n = 7 by omega) with rfl | rfl | rfl | rfl | rfl | rfl | rfl | rfl
    all_goals
      go_enter Tryz.func89, Tryz.ntmps89
      go_wp2_with fail
      refine (fields_cols w HT.out).mono ?_
      rintro e w2 ⟨rfl, hw2⟩
      subst w2
      go_wp2_with fail
      exact ret1v rfl rfl rfl ⟨_, rfl, ⟨fun e => by simp [ByteArray.size] at e, fun e => by rw [HC.out] at e; cases e⟩, HB.out⟩
  have d2 : decide ((n : Int) < 8) = false := decide_eq_false (by omega)
  have d2' : decide (n < 8) = false := decide_eq_false h2
  by_cases h3 : n < 16
  · have HC := Lib.hid (show colOk (n : Int) = true by unfold colOk; rw [decide_eq_true (by omega)]; rfl)
    have HB := Lib.hid ((Below.refl w.heap.size w).alloc (Nat.le_refl _) (.cells #[.string ⟨#[98, 108, 97, 99, 107]⟩, .string ⟨#[114, 101, 100]⟩, .string ⟨#[103, 114, 101, 101, 110]⟩, .string ⟨#[121, 101, 108, 108, 111, 119]⟩, .string ⟨#[98, 108, 117, 101]⟩, .string ⟨#[109, 97, 103, 101, 110, 116, 97]⟩, .string ⟨#[99, 121, 97, 110]⟩, .string ⟨#[119, 104, 105, 116, 101]⟩] 9))
    clear d2 d2' d0 d0'
    rcases (show n = 8 ∨ n = 9 ∨ n = 10 ∨ n = 11 ∨ n = 12 ∨ n = 13 ∨ n = 14 ∨ n = 15 by omega) with rfl | rfl | rfl | rfl | rfl | rfl | rfl | rfl
    all_goals
      go_enter Tryz.func89, Tryz.ntmps89
      go_wp2_with fail
      refine (fields_cols w HT.out).mono ?_
      rintro e w2 ⟨rfl, hw2⟩
      subst w2
      go_wp2_with fail
      exact ret1v rfl rfl rfl ⟨_, rfl, ⟨fun e => by rw [ByteArray.size_append] at e; simp [ByteArray.size] at e, fun e => by rw [HC.out] at e; cases e⟩, HB.out⟩
  have d3 : decide ((n : Int) < 16) = false := decide_eq_false (by omega)
  have d3' : decide (n < 16) = false := decide_eq_false h3
  have e0 : decide ((0 : Int) ≤ (n : Int)) = true := decide_eq_true (by omega)
  have e1 : decide ((8 : Int) ≤ (n : Int)) = true := decide_eq_true (by omega)
  have e1' : decide (8 ≤ n) = true := decide_eq_true (by omega)
  have e2 : decide ((16 : Int) ≤ (n : Int)) = true := decide_eq_true (by omega)
  have e2' : decide (16 ≤ n) = true := decide_eq_true (by omega)
  by_cases h4 : n < 256
  · have HC := Lib.hid (show colOk (n : Int) = true by unfold colOk; rw [decide_eq_true (by omega)]; rfl)
    have d4 : decide ((n : Int) < 256) = true := decide_eq_true (by omega)
    have d4' : decide (n < 256) = true := decide_eq_true h4
    go_enter Tryz.func89, Tryz.ntmps89
    go_wp2_with fail
    refine (Tryz.strconv_Itoa n (by omega) (by omega) w HT.out.pw.here).mono ?_
    rintro e w2 ⟨rfl, k, os, hw2⟩
    have HB := Lib.hid (show Below w.heap.size w w2 by rw [hw2]; exact Lib.below_grow w.heap.size w (Nat.le_refl _) k os)
    clear hw2
    have hsz : (⟨(Lib.itoa (n : Int)).toArray⟩ : ByteArray).size ≤ 21 := by
      show (Lib.itoa (n : Int)).toArray.size ≤ 21
      rw [List.size_toArray]
      exact Lib.itoa_length_le (n : Int) (by omega) (by omega)
    generalize (⟨(Lib.itoa (n : Int)).toArray⟩ : ByteArray) = str at *
    go_wp2_with fail
    refine ret1v rfl rfl rfl ⟨_, rfl, ⟨fun e => ?_, fun e => by rw [HC.out] at e; cases e⟩, HB.out⟩
    rw [ByteArray.size_append] at e
    have h9 : (⟨#[99, 111, 108, 111, 117, 114]⟩ : ByteArray).size = 6 := rfl
    omega
  have d4 : decide ((n : Int) < 256) = false := decide_eq_false (by omega)
  have d4' : decide (n < 256) = false := decide_eq_false h4
  by_cases h5 : 16777216 ≤ n ∧ n < 33554432
  · have HC := Lib.hid (show colOk (n : Int) = true by unfold colOk; rw [decide_eq_false (by omega), decide_eq_true (by omega)]; rfl)
    have d5 : decide ((16777216 : Int) ≤ (n : Int)) = true := decide_eq_true (by omega)
    have d5' : decide (16777216 ≤ n) = true := decide_eq_true h5.1
    have d6 : decide ((n : Int) < 33554432) = true := decide_eq_true (by omega)
    have d6' : decide (n < 33554432) = true := decide_eq_true h5.2
    go_enter Tryz.func89, Tryz.ntmps89
    go_wp2_with fail
    refine (formatP_any n h5.1 h5.2 w HT.out.db).mono ?_
    rintro e w2 ⟨l, hl, rfl, b2⟩
    have HB := Lib.hid b2
    have hsz : (⟨l.toArray⟩ : ByteArray).size = 7 := by show l.toArray.size = 7; simpa using hl
    clear b2 hl
    generalize (⟨l.toArray⟩ : ByteArray) = str at *
    go_wp2_with fail
    exact ret1v rfl rfl rfl ⟨_, rfl, ⟨fun e => by rw [ByteArray.size_append] at e; have h9 : (⟨#[35]⟩ : ByteArray).size = 1 := rfl; omega, fun e => by rw [HC.out] at e; cases e⟩, HB.out⟩
  · have HC := Lib.hid (show colOk (n : Int) = false by unfold colOk; rw [decide_eq_false (by omega), decide_eq_false (by omega)]; rfl)
    by_cases h6 : 16777216 ≤ n
    · have d5 : decide ((16777216 : Int) ≤ (n : Int)) = true := decide_eq_true (by omega)
      have d5' : decide (16777216 ≤ n) = true := decide_eq_true h6
      have d6 : decide ((n : Int) < 33554432) = false := decide_eq_false (by omega)
      have d6' : decide (n < 33554432) = false := decide_eq_false (by omega)
      go_enter Tryz.func89, Tryz.ntmps89
      go_wp2_with fail
      exact ret1v rfl rfl rfl ⟨_, rfl, ⟨fun _ => HC.out, fun _ => rfl⟩, Below.refl _ _⟩
    · have d5 : decide ((16777216 : Int) ≤ (n : Int)) = false := decide_eq_false (by omega)
      have d5' : decide (16777216 ≤ n) = false := decide_eq_false h6
      go_enter Tryz.func89, Tryz.ntmps89
      go_wp2_with fail
      exact ret1v rfl rfl rfl ⟨_, rfl, ⟨fun _ => HC.out, fun _ => rfl⟩, Below.refl _ _⟩
theorem ba_empty {s : ByteArray} (h : s.size = 0) : s = ⟨#[]⟩ := by
  obtain ⟨d⟩ := s
  congr 1
  exact Array.eq_empty_of_size_eq_zero h
theorem ba_ne {s : ByteArray} (h : s.size ≠ 0) : (!s.toList.isEmpty) = true := by
  rw [ByteArray.toList_eq]
  have : s.data.toList.length = s.size := by rw [Array.length_toList]; rfl
  cases hl : s.data.toList with
  | nil => rw [hl] at this; simp at this; omega
  | cons x l => rfl
set_option maxRecDepth 100000 in
set_option maxHeartbeats 2000000 in
theorem right_all (s : Sty) (w0 : World) (ht : Tabs w0) (h1 : -9223372036854775808 ≤ s.fg ∧ s.fg ≤ 9223372036854775807) (h2 : -9223372036854775808 ≤ s.bg ∧ s.bg ≤ 9223372036854775807) : RightIn w0 s := by
  intro w hbw
  obtain ⟨f, b, at'⟩ := s
  dsimp only at h1 h2
  have HB1 := Lib.hid ((Below.refl w.heap.size w).alloc (Nat.le_refl _) (.cells #[.int .i64 f, .int .i64 b, .int .i64 at'] 36))
  have HK1 := Lib.hid (blk_new w (.cells #[.int .i64 f, .int .i64 b, .int .i64 at'] 36))
  have HT1 := Lib.hid ((ht.below hbw).below HB1.out)
  unfold Sty.val
  dsimp only
  clear ht hbw
  go_enter Tryz.func77, Tryz.ntmps77
  go_wp2_with fail
  refine (name_any f h1 _ HT1.out).mono ?_
  rintro e w2 ⟨s1, rfl, hs1, b2⟩
  have HB2 := Lib.hid (HB1.out.trans (b2.mono HB1.out.size))
  have HK2 := Lib.hid (blk_below HK1.out b2 (heap_lt HK1.out))
  have HT2 := Lib.hid (HT1.out.below b2)
  clear b2
  by_cases hf : colOk f = true
  rotate_left
  · have hf' : colOk f = false := by simpa using hf
    obtain rfl := ba_empty (hs1.2 hf')
    have HE := Lib.hid (show okS ⟨f, b, at'⟩ = false by unfold okS; rw [hf']; rfl)
    clear hs1 hf hf'
    go_wp2_with fail
    go_ret
    exact ⟨by rw [HE.out]; rfl, HB2.out⟩
  have n1 := ba_ne (s := s1) (fun e => by rw [hs1.1 e] at hf; cases hf)
  have HF := Lib.hid hf
  have x1 : w2.cell? ⟨w.heap.size, 1, none⟩ = some (.int .i64 b) := blk_cell HK2.out 1
  clear hs1 hf
  go_wp2_with fail
  refine (name_any b h2 _ HT2.out).mono ?_
  rintro e w3 ⟨s2, rfl, hs2, b3⟩
  have HB3 := Lib.hid (HB2.out.trans (b3.mono HB2.out.size))
  have x2 : w3.cell? ⟨w.heap.size, 2, none⟩ = some (.int .i64 at') := blk_cell (blk_below HK2.out b3 (heap_lt HK2.out)) 2
  clear b3
  by_cases hb : colOk b = true
  rotate_left
  · have hb' : colOk b = false := by simpa using hb
    obtain rfl := ba_empty (hs2.2 hb')
    have HE := Lib.hid (show okS ⟨f, b, at'⟩ = false by unfold okS; rw [HF.out, hb']; rfl)
    clear hs2 hb hb'
    go_wp2_with fail
    go_ret
    exact ⟨by rw [HE.out]; rfl, HB3.out⟩
  have m1 := ba_ne (s := s2) (fun e => by rw [hs2.1 e] at hb; cases hb)
  have HE := Lib.hid (show okS ⟨f, b, at'⟩ = (decide (0 ≤ at') && decide (at' ≤ 255)) by unfold okS; rw [HF.out, hb]; rfl)
  clear hs2 hb
  by_cases h0 : 0 ≤ at'
  · have d1 : decide (0 ≤ at') = true := decide_eq_true h0
    by_cases h3 : at' ≤ 255
    · have d2 : decide (at' ≤ 255) = true := decide_eq_true h3
      have HE2 := Lib.hid (HE.out.trans (by rw [d1, d2]; rfl : _ = true))
      go_wp2_with fail
      go_ret
      exact ⟨by rw [HE2.out]; rfl, HB3.out⟩
    · have d2 : decide (at' ≤ 255) = false := decide_eq_false h3
      have HE2 := Lib.hid (HE.out.trans (by rw [d1, d2]; rfl : _ = false))
      go_wp2_with fail
      go_ret
      exact ⟨by rw [HE2.out]; rfl, HB3.out⟩
  · have d1 : decide (0 ≤ at') = false := decide_eq_false h0
    have HE2 := Lib.hid (HE.out.trans (by rw [d1]; rfl : _ = false))
    go_wp2_with fail
    go_ret
    exact ⟨by rw [HE2.out]; rfl, HB3.out⟩
end Go.Proofs.YtjclgoiclbkgjaaGreatDoor

/- Walks of package grid: Erase, Insert, Delete. -/
namespace Go.Proofs.YtjclgoiclbkgjaaGreatDoor
open Go.RowKit

theorem within_of_row {T : Nat → Nat} {w w2 w' : World} {b : Nat} (hb : Below w.heap.size w w2) (ht : T b ≠ 0) (g : w2.grownBy w' (some b)) : Within (own T w) w w' :=
  (Within.of_below hb).trans (Within.of_gb g (fun k hk => .inl (by injection hk with hk; subst hk; exact ht)))
set_option maxRecDepth 100000 in
set_option maxHeartbeats 8000000 in
theorem erase_any {T : Nat → Nat} {p : Nat} {w : World} {g : Gr} (h : GM T p w g) (x y n : Int) (s : Sty) (hs : RightIn w s) :
    Calls Tryz.prog 26 #[.pointer (some ⟨p, 0, none⟩), .int .i64 x, .int .i64 y, .int .i64 n, s.val] w fun e w' => e = .returned (.tuple #[]) ∧ Within (own T w) w w' ∧ GM T p w' (g.erase x y n s) := by
  have hBz := Below.alloc (Below.refl w.heap.size w) (Nat.le_refl _) (.cells #[.int .i64 s.fg, .int .i64 s.bg, .int .i64 s.attr] 36)
  have hbk0 := blk_new w (.cells #[.int .i64 s.fg, .int .i64 s.bg, .int .i64 s.attr] 36)
  have HG0 := Lib.hid (h.below hBz)
  have HLT := Lib.hid h.lt
  clear h
  cases hon : g.onIt x y s
  · have HE := Lib.hid (show g.erase x y n s = g by unfold Gr.erase Gr.rowOp; rw [hon, if_neg (by simp)])
    have HON := Lib.hid (on_no HG0.out x y s (hs.below hBz) hon)
    have hq := fun (wx : World) => Lib.run_eql_slice_nil (P := Tryz.prog) wx 42 38 none 0 0 0 0 Tryz.underlying42
    unfold Sty.val at HON ⊢
    go_enter Tryz.func26, Tryz.ntmps26
    go_wp2_with fail
    refine HON.out.mono ?_
    rintro e w2 ⟨rfl, b2⟩
    have HG2 := Lib.hid (HG0.out.below b2)
    have HB2 := Lib.hid (hBz.trans (b2.mono (by simp)))
    clear b2 HON
    go_wp2_with fail
    refine ret0w rfl rfl ⟨rfl, Within.of_below HB2.out, ?_⟩
    rw [HE.out]
    exact HG2.out
  · obtain ⟨n1, n2, n3, n4, n5⟩ := onIt_iff hon
    obtain ⟨xn, rfl⟩ : ∃ k : Nat, x = (k : Int) := ⟨x.toNat, by omega⟩
    obtain ⟨yn, rfl⟩ : ∃ k : Nat, y = (k : Int) := ⟨y.toNat, by omega⟩
    obtain ⟨vr, vo, Lr, Lo, hA⟩ := HG0.out
    have hlen := (rows_len hA).1
    have hyl : yn < Lr.length := by omega
    have hcols := hA.wf.c2
    have hrc : Lr[yn].2.cells.length = g.cols := (hA.wf.ce _ (List.mem_append_left _ (by rw [← hA.er]; exact List.mem_map_of_mem (List.getElem_mem hyl)))).1
    have hrok : ∀ c ∈ Lr[yn].2.cells, c.Ok := (hA.wf.ce _ (List.mem_append_left _ (by rw [← hA.er]; exact List.mem_map_of_mem (List.getElem_mem hyl)))).2
    have HON := Lib.hid (on_yes hA xn yn s (hs.below hBz) (by omega) hyl n5)
    have hcx := hA.ca Lr[yn] (List.mem_append_left _ (List.getElem_mem hyl))
    have HC := Lib.hid hcx
    obtain ⟨b, off, vc, hxv, hnc, hcm⟩ := ownC_pos hcx.own (by omega)
    rw [hrc] at hxv hnc
    have HA := Lib.hid hA
    clear hA hcx
    rw [hxv] at HON
    have hq := fun (wx : World) => Lib.run_eql_slice_nil (P := Tryz.prog) wx 42 38 (some ⟨b, off, none⟩) g.cols vc 0 0 Tryz.underlying42
    unfold Sty.val at HON ⊢
    by_cases hn0 : 0 < n
    rotate_left
    · have d0 : decide (n ≤ 0) = true := decide_eq_true (by omega)
      have HE := Lib.hid (show g.erase xn yn n s = g by unfold Gr.erase Gr.rowOp; rw [if_neg (fun e => hn0 e.2)])
      go_enter Tryz.func26, Tryz.ntmps26
      go_wp2_with fail
      refine HON.out.mono ?_
      rintro e w2 ⟨rfl, b2⟩
      have HG2 := Lib.hid (HG0.out.below b2)
      have HB2 := Lib.hid (hBz.trans (b2.mono (by simp)))
      clear b2 HON
      go_wp2_with fail
      refine ret0w rfl rfl ⟨rfl, Within.of_below HB2.out, ?_⟩
      rw [HE.out]
      exact HG2.out
    have d0 : decide (n ≤ 0) = false := decide_eq_false (by omega)
    obtain ⟨N, hN⟩ : ∃ N : Nat, N = manyN g xn n := ⟨_, rfl⟩
    have hmin : min n ((g.cols : Int) - (xn : Int)) = (N : Int) := by unfold manyN at hN; omega
    have hN2 : 1 ≤ N ∧ xn + N ≤ g.cols := by unfold manyN at hN; omega
    have HE := Lib.hid (show g.erase xn yn n s = g.turn yn (fun l => eraseL l xn N s) by
      unfold Gr.erase Gr.rowOp
      rw [if_pos ⟨hon, hn0⟩, hN, Int.toNat_natCast, Int.toNat_natCast])
    have hbt : T b = 10 + b := by
      obtain ⟨q, e1, e2⟩ := HC.out.tag
      rw [hxv] at e1
      simp only [Value.ownBlock] at e1
      injection e1 with e1
      subst e1; exact e2
    have hbl : b < w.heap.size := HLT.out b (by omega)
    have hwm : IntKind.i64.wrap ((g.cols : Int) - (xn : Int)) = (g.cols : Int) - (xn : Int) := wrap64_id _ (by omega) (by omega)
    have hwx : IntKind.i64.wrap ((xn : Int) + (N : Int)) = (xn : Int) + (N : Int) := wrap64_id _ (by omega) (by omega)
    have hwc : IntKind.i64.wrap ((g.cols : Int) - (N : Int)) = (g.cols : Int) - (N : Int) := wrap64_id _ (by omega) (by omega)
    clear hN hon n1 n2 n3 n4
    go_enter Tryz.func26, Tryz.ntmps26
    go_wp2_with fail
    refine HON.out.mono ?_
    rintro e w2 ⟨rfl, b2⟩
    have HA2 := Lib.hid (HA.out.mod (.of_below b2) id id id (fun _ => id))
    have HB2 := Lib.hid (hBz.trans (b2.mono (by simp)))
    have hbk2 := blk_below hbk0 b2 (by simp)
    have hkp2 := HA2.out.blk
    have c0 : w2.cell? ⟨p, 0, none⟩ = some (.int .i64 g.cols) := (gm_cells HA2.out).1
    have O2 := (HA2.out.ca Lr[yn] (List.mem_append_left _ (List.getElem_mem hyl))).own
    have hpt : T p = 1 := HA2.out.tp
    have hbp : b ≠ p := fun e => by rw [e] at hbt; omega
    rw [hxv, hrc] at O2
    have HTN := Lib.hid (show ∀ w', w2.grownBy w' (some b) → OwnC w' 0 5 (.slice (some ⟨b, off, none⟩) g.cols vc) g.cols (cvals (eraseL Lr[yn].2.cells xn N s)) → GM T p w' (g.turn yn (fun l => eraseL l xn N s)) from fun w' g' o' => by
      have hll : (eraseL Lr[yn].2.cells xn N s).length = g.cols := by
        rw [eraseL_len s (by omega)]
        exact hrc
      refine HA2.out.turned yn hyl (b := b) (by rw [hxv]; rfl) (Mod.of_gb g' (fun k hk => by injection hk with hk; subst hk; exact hbt)) _ ?_ ?_ ?_
      · rw [hll, hxv]; exact o'
      · exact hll
      · exact eraseL_ok hrok)
    have HWI := Lib.hid (show ∀ w', w2.grownBy w' (some b) → Within (own T w) w w' from fun w' g' => within_of_row HB2.out (by omega) g')
    clear b2 HON hbk0 HA2
    generalize Lr[yn].2.cells = lx at *
    have hgc : g.cols ≤ 1000000 := by omega
    go_wp2_with fail
    refine (cut_any lx xn b off g.cols vc w2 O2 hrc hgc (by omega)).mono ?_
    rintro e w5 ⟨rfl, g5, o5⟩
    have hbk5 := blk_grown hbk2 g5 (by intro e; injection e with e; omega)
    have hkp5 := blk_grown hkp2 g5 (by intro e; injection e with e; exact hbp e.symm)
    have k0 : w5.cell? ⟨p, 0, none⟩ = some (.int .i64 g.cols) := blk_cell hkp5 0
    have HO5 := Lib.hid o5
    have HK5 := Lib.hid hbk5
    have HP5 := Lib.hid hkp5
    have HG5 := Lib.hid g5
    clear o5 hbk5 g5 O2 c0 hbk2 hkp2 hkp5
    go_wp2_with fail
    refine (cut_any (cutL lx xn) ((xn : Int) + (N : Int)) b off g.cols vc w5 HO5.out (by rw [cutL_len]; exact hrc) hgc (by omega)).mono ?_
    rintro e w6 ⟨rfl, g6, o6⟩
    rw [show (xn : Int) + (N : Int) = ((xn + N : Nat) : Int) by omega] at o6
    have hbk6 := blk_grown HK5.out g6 (by intro e; injection e with e; omega)
    have hkp6 := blk_grown HP5.out g6 (by intro e; injection e with e; exact hbp e.symm)
    have HG6 := Lib.hid (gb_trans HG5.out g6)
    have HK6 := Lib.hid hbk6
    have HP6 := Lib.hid hkp6
    have HO6 := Lib.hid o6
    clear k0 g6 o6 hbk6 hkp6 HG5 HK5 HP5 HO5 hq
    have hlen2 : (cutL (cutL lx xn) ((xn + N : Nat) : Int)).length = g.cols := by rw [cutL_len, cutL_len]; exact hrc
    have HKF := HK6
    have HPF := HP6
    have HOF := HO6
    have HGF := HG6
    clear HK6 HP6 HO6 HG6
    have hsl := slice_lh (P := Tryz.prog) (size := 5) Tryz.underlying42 cell_info b off g.cols vc xn (xn + N) (by omega) (by omega) (by omega)
    rw [show xn + N - xn = N by omega, show ((xn + N : Nat) : Int) = (xn : Int) + (N : Int) by omega] at hsl
    have f0 : w6.cell? ⟨w.heap.size, 0, none⟩ = some (.int .i64 s.fg) := blk_cell HKF.out 0
    have f1 : w6.cell? ⟨w.heap.size, 1, none⟩ = some (.int .i64 s.bg) := blk_cell HKF.out 1
    have f2 : w6.cell? ⟨w.heap.size, 2, none⟩ = some (.int .i64 s.attr) := blk_cell HKF.out 2
    have j0 : w6.cell? ⟨p, 0, none⟩ = some (.int .i64 g.cols) := blk_cell HPF.out 0
    have HFI := Lib.hid (fun wx (ho : OwnC wx 0 5 (.slice (some ⟨b, off, none⟩) g.cols vc) g.cols (cvals (cutL (cutL lx xn) ((xn + N : Nat) : Int)))) => fill_any (cutL (cutL lx xn) ((xn + N : Nat) : Int)) s b off g.cols vc xn N (vc - xn) wx ho hlen2 (by omega) (by unfold maxLen; omega))
    unfold Sty.val at HFI
    go_upto_region 6 with fail
    go_still_tail 7, (by kernel_rfl)
    change wpList _ _ _ _ _ w6.drew
    have HOD := Lib.hid (show OwnC w6.drew 0 5 (.slice (some ⟨b, off, none⟩) g.cols vc) g.cols (cvals (cutL (cutL lx xn) ((xn + N : Nat) : Int))) from HOF.out)
    have HGD := Lib.hid (gb_drew HGF.out)
    clear f0 f1 f2 j0 HOF HGF HKF HPF
    generalize w6.drew = wd at *
    go_wp2_with fail
    refine (HFI.out _ HOD.out).mono ?_
    rintro e w9 ⟨rfl, g9, o9⟩
    have HG9 := Lib.hid (gb_trans HGD.out g9)
    have HO9 := Lib.hid o9
    clear g9 o9
    go_wp2_with fail
    go_end0
    refine ⟨rfl, HWI.out _ HG9.out, ?_⟩
    rw [HE.out]
    refine HTN.out _ HG9.out ?_
    have := HO9.out
    unfold eraseL
    exact this
set_option maxRecDepth 100000 in
set_option maxHeartbeats 8000000 in
theorem ins_any {T : Nat → Nat} {p : Nat} {w : World} {g : Gr} (h : GM T p w g) (x y n : Int) (s : Sty) (hs : RightIn w s) :
    Calls Tryz.prog 28 #[.pointer (some ⟨p, 0, none⟩), .int .i64 x, .int .i64 y, .int .i64 n, s.val] w fun e w' => e = .returned (.tuple #[]) ∧ Within (own T w) w w' ∧ GM T p w' (g.ins x y n s) := by
  have hBz := Below.alloc (Below.refl w.heap.size w) (Nat.le_refl _) (.cells #[.int .i64 s.fg, .int .i64 s.bg, .int .i64 s.attr] 36)
  have hbk0 := blk_new w (.cells #[.int .i64 s.fg, .int .i64 s.bg, .int .i64 s.attr] 36)
  have HG0 := Lib.hid (h.below hBz)
  have HLT := Lib.hid h.lt
  clear h
  cases hon : g.onIt x y s
  · have HE := Lib.hid (show g.ins x y n s = g by unfold Gr.ins Gr.rowOp; rw [hon, if_neg (by simp)])
    have HON := Lib.hid (on_no HG0.out x y s (hs.below hBz) hon)
    have hq := fun (wx : World) => Lib.run_eql_slice_nil (P := Tryz.prog) wx 42 38 none 0 0 0 0 Tryz.underlying42
    unfold Sty.val at HON ⊢
    go_enter Tryz.func28, Tryz.ntmps28
    go_wp2_with fail
    refine HON.out.mono ?_
    rintro e w2 ⟨rfl, b2⟩
    have HG2 := Lib.hid (HG0.out.below b2)
    have HB2 := Lib.hid (hBz.trans (b2.mono (by simp)))
    clear b2 HON
    go_wp2_with fail
    refine ret0w rfl rfl ⟨rfl, Within.of_below HB2.out, ?_⟩
    rw [HE.out]
    exact HG2.out
  · obtain ⟨n1, n2, n3, n4, n5⟩ := onIt_iff hon
    obtain ⟨xn, rfl⟩ : ∃ k : Nat, x = (k : Int) := ⟨x.toNat, by omega⟩
    obtain ⟨yn, rfl⟩ : ∃ k : Nat, y = (k : Int) := ⟨y.toNat, by omega⟩
    obtain ⟨vr, vo, Lr, Lo, hA⟩ := HG0.out
    have hlen := (rows_len hA).1
    have hyl : yn < Lr.length := by omega
    have hcols := hA.wf.c2
    have hrc : Lr[yn].2.cells.length = g.cols := (hA.wf.ce _ (List.mem_append_left _ (by rw [← hA.er]; exact List.mem_map_of_mem (List.getElem_mem hyl)))).1
    have hrok : ∀ c ∈ Lr[yn].2.cells, c.Ok := (hA.wf.ce _ (List.mem_append_left _ (by rw [← hA.er]; exact List.mem_map_of_mem (List.getElem_mem hyl)))).2
    have HON := Lib.hid (on_yes hA xn yn s (hs.below hBz) (by omega) hyl n5)
    have hcx := hA.ca Lr[yn] (List.mem_append_left _ (List.getElem_mem hyl))
    have HC := Lib.hid hcx
    obtain ⟨b, off, vc, hxv, hnc, hcm⟩ := ownC_pos hcx.own (by omega)
    rw [hrc] at hxv hnc
    have HA := Lib.hid hA
    clear hA hcx
    rw [hxv] at HON
    have hq := fun (wx : World) => Lib.run_eql_slice_nil (P := Tryz.prog) wx 42 38 (some ⟨b, off, none⟩) g.cols vc 0 0 Tryz.underlying42
    unfold Sty.val at HON ⊢
    by_cases hn0 : 0 < n
    rotate_left
    · have d0 : decide (n ≤ 0) = true := decide_eq_true (by omega)
      have HE := Lib.hid (show g.ins xn yn n s = g by unfold Gr.ins Gr.rowOp; rw [if_neg (fun e => hn0 e.2)])
      go_enter Tryz.func28, Tryz.ntmps28
      go_wp2_with fail
      refine HON.out.mono ?_
      rintro e w2 ⟨rfl, b2⟩
      have HG2 := Lib.hid (HG0.out.below b2)
      have HB2 := Lib.hid (hBz.trans (b2.mono (by simp)))
      clear b2 HON
      go_wp2_with fail
      refine ret0w rfl rfl ⟨rfl, Within.of_below HB2.out, ?_⟩
      rw [HE.out]
      exact HG2.out
    have d0 : decide (n ≤ 0) = false := decide_eq_false (by omega)
    obtain ⟨N, hN⟩ : ∃ N : Nat, N = manyN g xn n := ⟨_, rfl⟩
    have hmin : min n ((g.cols : Int) - (xn : Int)) = (N : Int) := by unfold manyN at hN; omega
    have hN2 : 1 ≤ N ∧ xn + N ≤ g.cols := by unfold manyN at hN; omega
    have HE := Lib.hid (show g.ins xn yn n s = g.turn yn (fun l => insL l xn N s) by
      unfold Gr.ins Gr.rowOp
      rw [if_pos ⟨hon, hn0⟩, hN, Int.toNat_natCast, Int.toNat_natCast])
    have hbt : T b = 10 + b := by
      obtain ⟨q, e1, e2⟩ := HC.out.tag
      rw [hxv] at e1
      simp only [Value.ownBlock] at e1
      injection e1 with e1
      subst e1; exact e2
    have hbl : b < w.heap.size := HLT.out b (by omega)
    have hwm : IntKind.i64.wrap ((g.cols : Int) - (xn : Int)) = (g.cols : Int) - (xn : Int) := wrap64_id _ (by omega) (by omega)
    have hwx : IntKind.i64.wrap ((xn : Int) + (N : Int)) = (xn : Int) + (N : Int) := wrap64_id _ (by omega) (by omega)
    have hwc : IntKind.i64.wrap ((g.cols : Int) - (N : Int)) = (g.cols : Int) - (N : Int) := wrap64_id _ (by omega) (by omega)
    clear hN hon n1 n2 n3 n4
    go_enter Tryz.func28, Tryz.ntmps28
    go_wp2_with fail
    refine HON.out.mono ?_
    rintro e w2 ⟨rfl, b2⟩
    have HA2 := Lib.hid (HA.out.mod (.of_below b2) id id id (fun _ => id))
    have HB2 := Lib.hid (hBz.trans (b2.mono (by simp)))
    have hbk2 := blk_below hbk0 b2 (by simp)
    have hkp2 := HA2.out.blk
    have c0 : w2.cell? ⟨p, 0, none⟩ = some (.int .i64 g.cols) := (gm_cells HA2.out).1
    have O2 := (HA2.out.ca Lr[yn] (List.mem_append_left _ (List.getElem_mem hyl))).own
    have hpt : T p = 1 := HA2.out.tp
    have hbp : b ≠ p := fun e => by rw [e] at hbt; omega
    rw [hxv, hrc] at O2
    have HTN := Lib.hid (show ∀ w', w2.grownBy w' (some b) → OwnC w' 0 5 (.slice (some ⟨b, off, none⟩) g.cols vc) g.cols (cvals (insL Lr[yn].2.cells xn N s)) → GM T p w' (g.turn yn (fun l => insL l xn N s)) from fun w' g' o' => by
      have hll : (insL Lr[yn].2.cells xn N s).length = g.cols := by
        rw [insL_len s (by omega)]
        exact hrc
      refine HA2.out.turned yn hyl (b := b) (by rw [hxv]; rfl) (Mod.of_gb g' (fun k hk => by injection hk with hk; subst hk; exact hbt)) _ ?_ ?_ ?_
      · rw [hll, hxv]; exact o'
      · exact hll
      · exact insL_ok hrok)
    have HWI := Lib.hid (show ∀ w', w2.grownBy w' (some b) → Within (own T w) w w' from fun w' g' => within_of_row HB2.out (by omega) g')
    clear b2 HON hbk0 HA2
    generalize Lr[yn].2.cells = lx at *
    have hgc : g.cols ≤ 1000000 := by omega
    go_wp2_with fail
    refine (cut_any lx xn b off g.cols vc w2 O2 hrc hgc (by omega)).mono ?_
    rintro e w5 ⟨rfl, g5, o5⟩
    have hbk5 := blk_grown hbk2 g5 (by intro e; injection e with e; omega)
    have hkp5 := blk_grown hkp2 g5 (by intro e; injection e with e; exact hbp e.symm)
    have k0 : w5.cell? ⟨p, 0, none⟩ = some (.int .i64 g.cols) := blk_cell hkp5 0
    have HO5 := Lib.hid o5
    have HK5 := Lib.hid hbk5
    have HP5 := Lib.hid hkp5
    have HG5 := Lib.hid g5
    clear o5 hbk5 g5 O2 c0 hbk2 hkp2 hkp5
    go_wp2_with fail
    refine (cut_any (cutL lx xn) ((g.cols : Int) - (N : Int)) b off g.cols vc w5 HO5.out (by rw [cutL_len]; exact hrc) hgc (by omega)).mono ?_
    rintro e w6 ⟨rfl, g6, o6⟩
    rw [show (g.cols : Int) - (N : Int) = ((lx.length - N : Nat) : Int) by omega] at o6
    have hbk6 := blk_grown HK5.out g6 (by intro e; injection e with e; omega)
    have hkp6 := blk_grown HP5.out g6 (by intro e; injection e with e; exact hbp e.symm)
    have HG6 := Lib.hid (gb_trans HG5.out g6)
    have HK6 := Lib.hid hbk6
    have HP6 := Lib.hid hkp6
    have HO6 := Lib.hid o6
    clear k0 g6 o6 hbk6 hkp6 HG5 HK5 HP5 HO5 hq
    have hlen2 : (cutL (cutL lx xn) ((lx.length - N : Nat) : Int)).length = g.cols := by rw [cutL_len, cutL_len]; exact hrc
    obtain ⟨da, hsl1, hda⟩ := slice_l' (P := Tryz.prog) (size := 5) Tryz.underlying42 cell_info b off g.cols vc (xn + N) (by omega) hnc
    rw [show ((xn + N : Nat) : Int) = (xn : Int) + (N : Int) by omega] at hsl1
    have hsl2 := slice_l (P := Tryz.prog) (size := 5) Tryz.underlying42 cell_info b off g.cols vc xn (by omega) (by omega)
    have hrd := reads_sub HO6.out xn g.cols (vc - xn) ⟨b, off + xn * 5, none⟩ (fun _ => rfl) (by omega) (Nat.le_refl _)
    rw [cvals_drop, cvals_take, List.take_of_length_le (by rw [List.length_drop, hlen2]; exact Nat.le_refl _)] at hrd
    have hcp := fun (wx : World) (ho : OwnC wx 0 5 (.slice (some ⟨b, off, none⟩) g.cols vc) g.cols (cvals (cutL (cutL lx xn) ((lx.length - N : Nat) : Int)))) (hr : Reads wx 5 (.slice (some ⟨b, off + xn * 5, none⟩) (g.cols - xn) (vc - xn)) (g.cols - xn) (cvals ((cutL (cutL lx xn) ((lx.length - N : Nat) : Int)).drop xn))) => copy_own (P := Tryz.prog) Tryz.underlying42 cell_info ho (xn + N) (g.cols - (xn + N)) (vc - (xn + N)) da (fun h0 => hda (by omega)) (by omega) hr (cvals_one _) 3
    have HRD := Lib.hid (show Reads w6.drew 5 (.slice (some ⟨b, off + xn * 5, none⟩) (g.cols - xn) (vc - xn)) (g.cols - xn) (cvals ((cutL (cutL lx xn) ((lx.length - N : Nat) : Int)).drop xn)) from hrd)
    have HO6d := Lib.hid (show OwnC w6.drew 0 5 (.slice (some ⟨b, off, none⟩) g.cols vc) g.cols (cvals (cutL (cutL lx xn) ((lx.length - N : Nat) : Int))) from HO6.out)
    have hcp6 := hcp w6.drew HO6d.out HRD.out
    rw [show Nat.min (g.cols - xn) (g.cols - (xn + N)) = g.cols - (xn + N) by show min _ _ = _; omega, cvals_take] at hcp6
    clear hcp hrd
    have hml : (((cutL (cutL lx xn) ((lx.length - N : Nat) : Int)).drop xn).take (g.cols - (xn + N))).length = g.cols - (xn + N) := by rw [List.length_take, List.length_drop, hlen2]; omega
    go_upto_region 6 with fail
    go_still_tail 8, (by kernel_rfl)
    change wpList _ _ _ _ _ w6.drew
    have hO7 := copy_owned HO6d.out (xn + N) (cvals (((cutL (cutL lx xn) ((lx.length - N : Nat) : Int)).drop xn).take (g.cols - (xn + N)))) (by rw [cvals_len, hml]; omega)
    rw [← cvals_put] at hO7
    have g7 := gb_setCells w6.drew b (off + (xn + N) * 5) (cvals (((cutL (cutL lx xn) ((lx.length - N : Nat) : Int)).drop xn).take (g.cols - (xn + N))))
    have HKF := Lib.hid (blk_grown (blk_drew HK6.out) g7 (by intro e; injection e with e; omega))
    have HPF := Lib.hid (blk_grown (blk_drew HP6.out) g7 (by intro e; injection e with e; exact hbp e.symm))
    have HGF := Lib.hid (gb_trans (gb_drew HG6.out) g7)
    have HOF := Lib.hid hO7
    clear hO7 g7 HK6 HP6 HG6 HO6 HO6d HRD
    generalize hw7 : w6.drew.setCells b (off + (xn + N) * 5) (cvals (((cutL (cutL lx xn) ((lx.length - N : Nat) : Int)).drop xn).take (g.cols - (xn + N)))) = w7 at *
    clear hw7
    have f0 : w7.cell? ⟨w.heap.size, 0, none⟩ = some (.int .i64 s.fg) := blk_cell HKF.out 0
    have f1 : w7.cell? ⟨w.heap.size, 1, none⟩ = some (.int .i64 s.bg) := blk_cell HKF.out 1
    have f2 : w7.cell? ⟨w.heap.size, 2, none⟩ = some (.int .i64 s.attr) := blk_cell HKF.out 2
    have j0 : w7.cell? ⟨p, 0, none⟩ = some (.int .i64 g.cols) := blk_cell HPF.out 0
    have hsl := slice_lh (P := Tryz.prog) (size := 5) Tryz.underlying42 cell_info b off g.cols vc xn (xn + N) (by omega) (by omega) (by omega)
    rw [show xn + N - xn = N by omega, show ((xn + N : Nat) : Int) = (xn : Int) + (N : Int) by omega] at hsl
    have HFI := Lib.hid (fun wx (ho : OwnC wx 0 5 (.slice (some ⟨b, off, none⟩) g.cols vc) g.cols (cvals (putAt (cutL (cutL lx xn) ((lx.length - N : Nat) : Int)) (xn + N) (((cutL (cutL lx xn) ((lx.length - N : Nat) : Int)).drop xn).take (g.cols - (xn + N)))))) => fill_any (putAt (cutL (cutL lx xn) ((lx.length - N : Nat) : Int)) (xn + N) (((cutL (cutL lx xn) ((lx.length - N : Nat) : Int)).drop xn).take (g.cols - (xn + N)))) s b off g.cols vc xn N (vc - xn) wx ho (by rw [putAt_len _ _ _ (by rw [hml, hlen2]; omega)]; exact hlen2) (by omega) (by unfold maxLen; omega))
    unfold Sty.val at HFI
    go_upto_region 7 with fail
    go_still_tail 7, (by kernel_rfl)
    change wpList _ _ _ _ _ w7.drew
    have HOD := Lib.hid (show OwnC w7.drew 0 5 (.slice (some ⟨b, off, none⟩) g.cols vc) g.cols (cvals (putAt (cutL (cutL lx xn) ((lx.length - N : Nat) : Int)) (xn + N) (((cutL (cutL lx xn) ((lx.length - N : Nat) : Int)).drop xn).take (g.cols - (xn + N))))) from HOF.out)
    have HGD := Lib.hid (gb_drew HGF.out)
    clear f0 f1 f2 j0 HOF HGF HKF HPF
    generalize w7.drew = wd at *
    go_wp2_with fail
    refine (HFI.out _ HOD.out).mono ?_
    rintro e w9 ⟨rfl, g9, o9⟩
    have HG9 := Lib.hid (gb_trans HGD.out g9)
    have HO9 := Lib.hid o9
    clear g9 o9
    go_wp2_with fail
    go_end0
    refine ⟨rfl, HWI.out _ HG9.out, ?_⟩
    rw [HE.out]
    refine HTN.out _ HG9.out ?_
    have := HO9.out
    rw [show g.cols - (xn + N) = lx.length - xn - N by omega, ins_eq lx xn N s (by omega)] at this
    exact this
set_option maxRecDepth 100000 in
set_option maxHeartbeats 8000000 in
theorem del_any {T : Nat → Nat} {p : Nat} {w : World} {g : Gr} (h : GM T p w g) (x y n : Int) (s : Sty) (hs : RightIn w s) :
    Calls Tryz.prog 30 #[.pointer (some ⟨p, 0, none⟩), .int .i64 x, .int .i64 y, .int .i64 n, s.val] w fun e w' => e = .returned (.tuple #[]) ∧ Within (own T w) w w' ∧ GM T p w' (g.del x y n s) := by
  have hBz := Below.alloc (Below.refl w.heap.size w) (Nat.le_refl _) (.cells #[.int .i64 s.fg, .int .i64 s.bg, .int .i64 s.attr] 36)
  have hbk0 := blk_new w (.cells #[.int .i64 s.fg, .int .i64 s.bg, .int .i64 s.attr] 36)
  have HG0 := Lib.hid (h.below hBz)
  have HLT := Lib.hid h.lt
  clear h
  cases hon : g.onIt x y s
  · have HE := Lib.hid (show g.del x y n s = g by unfold Gr.del Gr.rowOp; rw [hon, if_neg (by simp)])
    have HON := Lib.hid (on_no HG0.out x y s (hs.below hBz) hon)
    have hq := fun (wx : World) => Lib.run_eql_slice_nil (P := Tryz.prog) wx 42 38 none 0 0 0 0 Tryz.underlying42
    unfold Sty.val at HON ⊢
    go_enter Tryz.func30, Tryz.ntmps30
    go_wp2_with fail
    refine HON.out.mono ?_
    rintro e w2 ⟨rfl, b2⟩
    have HG2 := Lib.hid (HG0.out.below b2)
    have HB2 := Lib.hid (hBz.trans (b2.mono (by simp)))
    clear b2 HON
    go_wp2_with fail
    refine ret0w rfl rfl ⟨rfl, Within.of_below HB2.out, ?_⟩
    rw [HE.out]
    exact HG2.out
  · obtain ⟨n1, n2, n3, n4, n5⟩ := onIt_iff hon
    obtain ⟨xn, rfl⟩ : ∃ k : Nat, x = (k : Int) := ⟨x.toNat, by omega⟩
    obtain ⟨yn, rfl⟩ : ∃ k : Nat, y = (k : Int) := ⟨y.toNat, by omega⟩
    obtain ⟨vr, vo, Lr, Lo, hA⟩ := HG0.out
    have hlen := (rows_len hA).1
    have hyl : yn < Lr.length := by omega
    have hcols := hA.wf.c2
    have hrc : Lr[yn].2.cells.length = g.cols := (hA.wf.ce _ (List.mem_append_left _ (by rw [← hA.er]; exact List.mem_map_of_mem (List.getElem_mem hyl)))).1
    have hrok : ∀ c ∈ Lr[yn].2.cells, c.Ok := (hA.wf.ce _ (List.mem_append_left _ (by rw [← hA.er]; exact List.mem_map_of_mem (List.getElem_mem hyl)))).2
    have HON := Lib.hid (on_yes hA xn yn s (hs.below hBz) (by omega) hyl n5)
    have hcx := hA.ca Lr[yn] (List.mem_append_left _ (List.getElem_mem hyl))
    have HC := Lib.hid hcx
    obtain ⟨b, off, vc, hxv, hnc, hcm⟩ := ownC_pos hcx.own (by omega)
    rw [hrc] at hxv hnc
    have HA := Lib.hid hA
    clear hA hcx
    rw [hxv] at HON
    have hq := fun (wx : World) => Lib.run_eql_slice_nil (P := Tryz.prog) wx 42 38 (some ⟨b, off, none⟩) g.cols vc 0 0 Tryz.underlying42
    unfold Sty.val at HON ⊢
    by_cases hn0 : 0 < n
    rotate_left
    · have d0 : decide (n ≤ 0) = true := decide_eq_true (by omega)
      have HE := Lib.hid (show g.del xn yn n s = g by unfold Gr.del Gr.rowOp; rw [if_neg (fun e => hn0 e.2)])
      go_enter Tryz.func30, Tryz.ntmps30
      go_wp2_with fail
      refine HON.out.mono ?_
      rintro e w2 ⟨rfl, b2⟩
      have HG2 := Lib.hid (HG0.out.below b2)
      have HB2 := Lib.hid (hBz.trans (b2.mono (by simp)))
      clear b2 HON
      go_wp2_with fail
      refine ret0w rfl rfl ⟨rfl, Within.of_below HB2.out, ?_⟩
      rw [HE.out]
      exact HG2.out
    have d0 : decide (n ≤ 0) = false := decide_eq_false (by omega)
    obtain ⟨N, hN⟩ : ∃ N : Nat, N = manyN g xn n := ⟨_, rfl⟩
    have hmin : min n ((g.cols : Int) - (xn : Int)) = (N : Int) := by unfold manyN at hN; omega
    have hN2 : 1 ≤ N ∧ xn + N ≤ g.cols := by unfold manyN at hN; omega
    have HE := Lib.hid (show g.del xn yn n s = g.turn yn (fun l => delL l xn N s) by
      unfold Gr.del Gr.rowOp
      rw [if_pos ⟨hon, hn0⟩, hN, Int.toNat_natCast, Int.toNat_natCast])
    have hbt : T b = 10 + b := by
      obtain ⟨q, e1, e2⟩ := HC.out.tag
      rw [hxv] at e1
      simp only [Value.ownBlock] at e1
      injection e1 with e1
      subst e1; exact e2
    have hbl : b < w.heap.size := HLT.out b (by omega)
    have hwm : IntKind.i64.wrap ((g.cols : Int) - (xn : Int)) = (g.cols : Int) - (xn : Int) := wrap64_id _ (by omega) (by omega)
    have hwx : IntKind.i64.wrap ((xn : Int) + (N : Int)) = (xn : Int) + (N : Int) := wrap64_id _ (by omega) (by omega)
    have hwc : IntKind.i64.wrap ((g.cols : Int) - (N : Int)) = (g.cols : Int) - (N : Int) := wrap64_id _ (by omega) (by omega)
    clear hN hon n1 n2 n3 n4
    go_enter Tryz.func30, Tryz.ntmps30
    go_wp2_with fail
    refine HON.out.mono ?_
    rintro e w2 ⟨rfl, b2⟩
    have HA2 := Lib.hid (HA.out.mod (.of_below b2) id id id (fun _ => id))
    have HB2 := Lib.hid (hBz.trans (b2.mono (by simp)))
    have hbk2 := blk_below hbk0 b2 (by simp)
    have hkp2 := HA2.out.blk
    have c0 : w2.cell? ⟨p, 0, none⟩ = some (.int .i64 g.cols) := (gm_cells HA2.out).1
    have O2 := (HA2.out.ca Lr[yn] (List.mem_append_left _ (List.getElem_mem hyl))).own
    have hpt : T p = 1 := HA2.out.tp
    have hbp : b ≠ p := fun e => by rw [e] at hbt; omega
    rw [hxv, hrc] at O2
    have HTN := Lib.hid (show ∀ w', w2.grownBy w' (some b) → OwnC w' 0 5 (.slice (some ⟨b, off, none⟩) g.cols vc) g.cols (cvals (delL Lr[yn].2.cells xn N s)) → GM T p w' (g.turn yn (fun l => delL l xn N s)) from fun w' g' o' => by
      have hll : (delL Lr[yn].2.cells xn N s).length = g.cols := by
        rw [delL_len s (by omega)]
        exact hrc
      refine HA2.out.turned yn hyl (b := b) (by rw [hxv]; rfl) (Mod.of_gb g' (fun k hk => by injection hk with hk; subst hk; exact hbt)) _ ?_ ?_ ?_
      · rw [hll, hxv]; exact o'
      · exact hll
      · exact delL_ok hrok)
    have HWI := Lib.hid (show ∀ w', w2.grownBy w' (some b) → Within (own T w) w w' from fun w' g' => within_of_row HB2.out (by omega) g')
    clear b2 HON hbk0 HA2
    generalize Lr[yn].2.cells = lx at *
    have hgc : g.cols ≤ 1000000 := by omega
    go_wp2_with fail
    refine (cut_any lx xn b off g.cols vc w2 O2 hrc hgc (by omega)).mono ?_
    rintro e w5 ⟨rfl, g5, o5⟩
    have hbk5 := blk_grown hbk2 g5 (by intro e; injection e with e; omega)
    have hkp5 := blk_grown hkp2 g5 (by intro e; injection e with e; exact hbp e.symm)
    have k0 : w5.cell? ⟨p, 0, none⟩ = some (.int .i64 g.cols) := blk_cell hkp5 0
    have HO5 := Lib.hid o5
    have HK5 := Lib.hid hbk5
    have HP5 := Lib.hid hkp5
    have HG5 := Lib.hid g5
    clear o5 hbk5 g5 O2 c0 hbk2 hkp2 hkp5
    go_wp2_with fail
    refine (cut_any (cutL lx xn) ((xn : Int) + (N : Int)) b off g.cols vc w5 HO5.out (by rw [cutL_len]; exact hrc) hgc (by omega)).mono ?_
    rintro e w6 ⟨rfl, g6, o6⟩
    rw [show (xn : Int) + (N : Int) = ((xn + N : Nat) : Int) by omega] at o6
    have hbk6 := blk_grown HK5.out g6 (by intro e; injection e with e; omega)
    have hkp6 := blk_grown HP5.out g6 (by intro e; injection e with e; exact hbp e.symm)
    have HG6 := Lib.hid (gb_trans HG5.out g6)
    have HK6 := Lib.hid hbk6
    have HP6 := Lib.hid hkp6
    have HO6 := Lib.hid o6
    clear k0 g6 o6 hbk6 hkp6 HG5 HK5 HP5 HO5 hq
    have hlen2 : (cutL (cutL lx xn) ((xn + N : Nat) : Int)).length = g.cols := by rw [cutL_len, cutL_len]; exact hrc
    have hsl1 := slice_l (P := Tryz.prog) (size := 5) Tryz.underlying42 cell_info b off g.cols vc xn (by omega) (by omega)
    obtain ⟨sa, hsl2, hsa⟩ := slice_l' (P := Tryz.prog) (size := 5) Tryz.underlying42 cell_info b off g.cols vc (xn + N) (by omega) hnc
    rw [show ((xn + N : Nat) : Int) = (xn : Int) + (N : Int) by omega] at hsl2
    have hrd := reads_sub HO6.out (xn + N) g.cols (vc - (xn + N)) sa hsa (by omega) (Nat.le_refl _)
    rw [cvals_drop, cvals_take, List.take_of_length_le (by rw [List.length_drop, hlen2]; exact Nat.le_refl _)] at hrd
    have hcp := fun (wx : World) (ho : OwnC wx 0 5 (.slice (some ⟨b, off, none⟩) g.cols vc) g.cols (cvals (cutL (cutL lx xn) ((xn + N : Nat) : Int)))) (hr : Reads wx 5 (.slice (some sa) (g.cols - (xn + N)) (vc - (xn + N))) (g.cols - (xn + N)) (cvals ((cutL (cutL lx xn) ((xn + N : Nat) : Int)).drop (xn + N)))) => copy_own (P := Tryz.prog) Tryz.underlying42 cell_info ho xn (g.cols - xn) (vc - xn) ⟨b, off + xn * 5, none⟩ (fun _ => rfl) (by omega) hr (cvals_one _) 3
    have HRD := Lib.hid (show Reads w6.drew 5 (.slice (some sa) (g.cols - (xn + N)) (vc - (xn + N))) (g.cols - (xn + N)) (cvals ((cutL (cutL lx xn) ((xn + N : Nat) : Int)).drop (xn + N))) from hrd)
    have HO6d := Lib.hid (show OwnC w6.drew 0 5 (.slice (some ⟨b, off, none⟩) g.cols vc) g.cols (cvals (cutL (cutL lx xn) ((xn + N : Nat) : Int))) from HO6.out)
    have hcp6 := hcp w6.drew HO6d.out HRD.out
    rw [show Nat.min (g.cols - (xn + N)) (g.cols - xn) = g.cols - (xn + N) by show min _ _ = _; omega, cvals_take] at hcp6
    clear hcp hrd
    have hml : (((cutL (cutL lx xn) ((xn + N : Nat) : Int)).drop (xn + N)).take (g.cols - (xn + N))).length = g.cols - (xn + N) := by rw [List.length_take, List.length_drop, hlen2]; omega
    go_upto_region 6 with fail
    go_still_tail 8, (by kernel_rfl)
    change wpList _ _ _ _ _ w6.drew
    have hO7 := copy_owned HO6d.out xn (cvals (((cutL (cutL lx xn) ((xn + N : Nat) : Int)).drop (xn + N)).take (g.cols - (xn + N)))) (by rw [cvals_len, hml]; omega)
    rw [← cvals_put] at hO7
    have g7 := gb_setCells w6.drew b (off + xn * 5) (cvals (((cutL (cutL lx xn) ((xn + N : Nat) : Int)).drop (xn + N)).take (g.cols - (xn + N))))
    have HKF := Lib.hid (blk_grown (blk_drew HK6.out) g7 (by intro e; injection e with e; omega))
    have HPF := Lib.hid (blk_grown (blk_drew HP6.out) g7 (by intro e; injection e with e; exact hbp e.symm))
    have HGF := Lib.hid (gb_trans (gb_drew HG6.out) g7)
    have HOF := Lib.hid hO7
    clear hO7 g7 HK6 HP6 HG6 HO6 HO6d HRD
    generalize hw7 : w6.drew.setCells b (off + xn * 5) (cvals (((cutL (cutL lx xn) ((xn + N : Nat) : Int)).drop (xn + N)).take (g.cols - (xn + N)))) = w7 at *
    clear hw7
    have f0 : w7.cell? ⟨w.heap.size, 0, none⟩ = some (.int .i64 s.fg) := blk_cell HKF.out 0
    have f1 : w7.cell? ⟨w.heap.size, 1, none⟩ = some (.int .i64 s.bg) := blk_cell HKF.out 1
    have f2 : w7.cell? ⟨w.heap.size, 2, none⟩ = some (.int .i64 s.attr) := blk_cell HKF.out 2
    have j0 : w7.cell? ⟨p, 0, none⟩ = some (.int .i64 g.cols) := blk_cell HPF.out 0
    have hsl := slice_l (P := Tryz.prog) (size := 5) Tryz.underlying42 cell_info b off g.cols vc (g.cols - N) (by omega) (by omega)
    rw [show g.cols - (g.cols - N) = N by omega, show ((g.cols - N : Nat) : Int) = (g.cols : Int) - (N : Int) by omega] at hsl
    have HFI := Lib.hid (fun wx (ho : OwnC wx 0 5 (.slice (some ⟨b, off, none⟩) g.cols vc) g.cols (cvals (putAt (cutL (cutL lx xn) ((xn + N : Nat) : Int)) xn (((cutL (cutL lx xn) ((xn + N : Nat) : Int)).drop (xn + N)).take (g.cols - (xn + N)))))) => fill_any (putAt (cutL (cutL lx xn) ((xn + N : Nat) : Int)) xn (((cutL (cutL lx xn) ((xn + N : Nat) : Int)).drop (xn + N)).take (g.cols - (xn + N)))) s b off g.cols vc (g.cols - N) N (vc - (g.cols - N)) wx ho (by rw [putAt_len _ _ _ (by rw [hml, hlen2]; omega)]; exact hlen2) (by omega) (by unfold maxLen; omega))
    unfold Sty.val at HFI
    go_upto_region 7 with fail
    go_still_tail 9, (by kernel_rfl)
    change wpList _ _ _ _ _ w7.drew
    have HOD := Lib.hid (show OwnC w7.drew 0 5 (.slice (some ⟨b, off, none⟩) g.cols vc) g.cols (cvals (putAt (cutL (cutL lx xn) ((xn + N : Nat) : Int)) xn (((cutL (cutL lx xn) ((xn + N : Nat) : Int)).drop (xn + N)).take (g.cols - (xn + N))))) from HOF.out)
    have HGD := Lib.hid (gb_drew HGF.out)
    clear f0 f1 f2 j0 HOF HGF HKF HPF
    generalize w7.drew = wd at *
    go_wp2_with fail
    refine (HFI.out _ HOD.out).mono ?_
    rintro e w9 ⟨rfl, g9, o9⟩
    have HG9 := Lib.hid (gb_trans HGD.out g9)
    have HO9 := Lib.hid o9
    clear g9 o9
    go_wp2_with fail
    go_end0
    refine ⟨rfl, HWI.out _ HG9.out, ?_⟩
    rw [HE.out]
    refine HTN.out _ HG9.out ?_
    have := HO9.out
    rw [List.take_of_length_le (by rw [List.length_drop, hlen2]; exact Nat.le_refl _), show g.cols - N = lx.length - N by omega, del_eq lx xn N s (by omega)] at this
    exact this
end Go.Proofs.YtjclgoiclbkgjaaGreatDoor

/- The law GridMoves: the walk. -/
namespace Go.Proofs.YtjclgoiclbkgjaaGreatDoor
open Go.RowKit
attribute [local go_sem ↓] Go.wp_at_zero Go.wp_at_succ

theorem Sh.mono {w w1 : World} {T : Nat → Nat} {p : Nat} {wi : World} {g : Gr} (h : Sh w1 T p wi g) (b : Below w.heap.size w w1) : Sh w T p wi g :=
  ⟨b.trans (h.b.mono b.size), h.gm, fun k hk => Nat.le_trans b.size (h.n k hk)⟩
/-- Two grids that lie apart. -/
structure Two (w : World) (T T2 : Nat → Nat) (q q2 : Nat) (wi : World) (g g2 : Gr) : Prop where
  a : Sh w T q wi g
  b : Sh w T2 q2 wi g2
  d : ∀ k, T2 k ≠ 0 → T k = 0
theorem Two.below {w : World} {T T2 : Nat → Nat} {q q2 : Nat} {wi wj : World} {g g2 : Gr} (h : Two w T T2 q q2 wi g g2) (b : Below wi.heap.size wi wj) : Two w T T2 q q2 wj g g2 := ⟨h.a.below b, h.b.below b, h.d⟩
theorem Two.turn {w : World} {T T' T2 : Nat → Nat} {q q2 : Nat} {wi wj : World} {g g' g2 : Gr} (h : Two w T T2 q q2 wi g g2) (hw : Within (own T wi) wi wj) (hg : GM T' q wj g') (hn : ∀ k, T' k ≠ 0 → own T wi k) : Two w T' T2 q q2 wj g' g2 :=
  ⟨h.a.turn hw hg hn, ⟨(h.a.turn hw hg hn).b, h.b.gm.other hw h.d, h.b.n⟩, fun k hk => by
    by_cases h0 : T' k = 0
    · exact h0
    · rcases hn k h0 with e | e
      · exact absurd (h.d k hk) e
      · have := h.b.gm.lt k hk; omega⟩
end Go.Proofs.YtjclgoiclbkgjaaGreatDoor
