/- Package grid, texts laid together: R2 E1 ArgO E6 U2 P1. -/
import Derived.Test.YtlfdgkiliegaiaaGreatDoorY5
import Derived.Lib.AppendIntMem
import Derived.Lib.ItoaLen
import Derived.Test.YtlfdgkiliegaiaaGreatDoorY4
import Derived.Test.YtlfdgkiliegaiaaGreatDoorRows
import Derived.Test.YtlfdgkiliegaiaaGreatDoorY1
import Derived.ProofKit
import Derived.WalkKit
import Derived.OpenShut
import Derived.JoinedCond
import Derived.Laws.ResultCell
import Derived.Deep.CutBlock
import Derived.Laws.Cover4
/- style.Name and style.Right, of any colour and any style. -/
namespace Go.Proofs.YtlfdgkiliegaiaaGreatDoor
open Go.RowKit

/-- The package variables that style.Name reads are as the program lays them, now and behind what is made since. -/
structure Tabs (w : World) : Prop where
  sp : Lib.TabBelow Tryz.prog w.heap.size w "strings.asciiSpace" .u8 Lib.asciiSpaceTab
  pw : Tab Tryz.prog w
  db : DbAt w.heap.size w
theorem Tabs.below {w w' : World} (h : Tabs w) (b : Below w.heap.size w w') : Tabs w' :=
  ⟨fun w2 h2 => h.sp w2 (b.trans (h2.mono b.size)), tab_go h.pw b, fun w2 h2 => h.db w2 (b.trans (h2.mono b.size))⟩
def colsB : ByteArray := ⟨#[98, 108, 97, 99, 107, 32, 114, 101, 100, 32, 103, 114, 101, 101, 110, 32, 121, 101, 108, 108, 111, 119, 32, 98, 108, 117, 101, 32, 109, 97, 103, 101, 110, 116, 97, 32, 99, 121, 97, 110, 32, 119, 104, 105, 116, 101]⟩
theorem cols_fields : Lib.fields colsB.data.toList = [[98, 108, 97, 99, 107], [114, 101, 100], [103, 114, 101, 101, 110], [121, 101, 108, 108, 111, 119], [98, 108, 117, 101], [109, 97, 103, 101, 110, 116, 97], [99, 121, 97, 110], [119, 104, 105, 116, 101]] := by decide +kernel
theorem fields_cols (w : World) (h : Tabs w) : Calls Tryz.prog 103 #[.string colsB] w fun e w' =>
    e = .returned (.slice (some ⟨w.heap.size, 0, none⟩) 8 8) ∧ w' = w.alloc (.cells #[.string ⟨#[98, 108, 97, 99, 107]⟩, .string ⟨#[114, 101, 100]⟩, .string ⟨#[103, 114, 101, 101, 110]⟩, .string ⟨#[121, 101, 108, 108, 111, 119]⟩, .string ⟨#[98, 108, 117, 101]⟩, .string ⟨#[109, 97, 103, 101, 110, 116, 97]⟩, .string ⟨#[99, 121, 97, 110]⟩, .string ⟨#[119, 104, 105, 116, 101]⟩] 9) := by
  refine (Tryz.strings_Fields colsB w (by decide) (fun j b hb => ?_) h.sp.here).mono ?_
  · have hm := List.mem_of_getElem? hb
    have hall : ∀ b ∈ colsB.data.toList, b.toNat < 128 := by decide
    exact hall b hm
  · rintro e w' ⟨rfl, rfl⟩
    rw [cols_fields]
    exact ⟨rfl, rfl⟩
set_option maxRecDepth 100000 in
set_option maxHeartbeats 4000000 in
theorem name_any (c : Int) (hc : -9223372036854775808 ≤ c ∧ c ≤ 9223372036854775807) (w : World) (ht : Tabs w) :
    Calls Tryz.prog 59 #[.int .i64 c] w fun e w' => ∃ s : ByteArray, e = .returned (.string s) ∧ (s.size = 0 ↔ colOk c = false) ∧ Below w.heap.size w w' := by
  have HT := Lib.hid ht
  clear ht
  by_cases h0 : c = -1
  · subst h0
    refine (name_plain w).mono ?_
    rintro e w2 ⟨rfl, rfl⟩
    exact ⟨_, rfl, by decide, Below.refl _ _⟩
  have d0 : decide (c = -1) = false := decide_eq_false h0
  have d0' : (c == -1) = false := by simp [h0]
  by_cases h1 : 0 ≤ c
  rotate_left
  · have d1 : decide (0 ≤ c) = false := decide_eq_false h1
    have d2 : decide (8 ≤ c) = false := decide_eq_false (by omega)
    have d3 : decide (16 ≤ c) = false := decide_eq_false (by omega)
    have d4 : decide (16777216 ≤ c) = false := decide_eq_false (by omega)
    have HC := Lib.hid (show colOk c = false by unfold colOk; rw [decide_eq_false (by omega), decide_eq_false (by omega)]; rfl)
    go_enter Tryz.func59, Tryz.ntmps59
    go_wp2_with fail
    exact ret1v rfl rfl rfl ⟨_, rfl, ⟨fun _ => HC.out, fun _ => rfl⟩, Below.refl _ _⟩
  obtain ⟨n, rfl⟩ : ∃ n : Nat, c = (n : Int) := ⟨c.toNat, by omega⟩
  clear h1 h0
  by_cases h2 : n < 8
  · have HC := Lib.hid (show colOk (n : Int) = true by unfold colOk; rw [decide_eq_true (by omega)]; rfl)
    have HB := Lib.hid ((Below.refl w.heap.size w).alloc (Nat.le_refl _) (.cells #[.string ⟨#[98, 108, 97, 99, 107]⟩, .string ⟨#[114, 101, 100]⟩, .string ⟨#[103, 114, 101, 101, 110]⟩, .string ⟨#[121, 101, 108, 108, 111, 119]⟩, .string ⟨#[98, 108, 117, 101]⟩, .string ⟨#[109, 97, 103, 101, 110, 116, 97]⟩, .string ⟨#[99, 121, 97, 110]⟩, .string ⟨#[119, 104, 105, 116, 101]⟩] 9))
    rcases (show n = 0 ∨ n = 1 ∨ n = 2 ∨ n = 3 ∨ n = 4 ∨ n = 5 ∨ n = 6 ∨ n = 7 by omega) with rfl | rfl | rfl | rfl | rfl | rfl | rfl | rfl
    all_goals
      go_enter Tryz.func59, Tryz.ntmps59
      go_wp2_with fail
      refine (fields_cols w HT.out).mono ?_
      rintro e w2 ⟨rfl, hw2⟩
      subst w2
      go_wp2_with fail
      exact ret1v rfl rfl rfl ⟨_, rfl, ⟨fun e => by simp [ByteArray.size] at e, fun e => by rw [HC.out] at e; cases e⟩, HB.out⟩
  have d2 : decide ((n : Int) < 8) = false := decide_eq_false (by omega)
  have d2' : decide (n < 8) = false := decide_eq_false h2
  by_cases h3 : n < 16
  · have HC := Lib.hid (show colOk (n : Int) = true by unfold colOk; rw [decide_eq_true (by omega)]; rfl)
    have HB := Lib.hid ((Below.refl w.heap.size w).alloc (Nat.le_refl _) (.cells #[.string ⟨#[98, 108, 97, 99, 107]⟩, .string ⟨#[114, 101, 100]⟩, .string ⟨#[103, 114, 101, 101, 110]⟩, .string ⟨#[121, 101, 108, 108, 111, 119]⟩, .string ⟨#[98, 108, 117, 101]⟩, .string ⟨#[109, 97, 103, 101, 110, 116, 97]⟩, .string ⟨#[99, 121, 97, 110]⟩, .string ⟨#[119, 104, 105, 116, 101]⟩] 9))
    clear d2 d2' d0 d0'
    rcases (show n = 8 ∨ n = 9 ∨ n = 10 ∨ n = 11 ∨ n = 12 ∨ n = 13 ∨ n = 14 ∨ n = 15 by omega) with rfl | rfl | rfl | rfl | rfl | rfl | rfl | rfl
    all_goals
      go_enter Tryz.func59, Tryz.ntmps59
      go_wp2_with fail
      refine (fields_cols w HT.out).mono ?_
      rintro e w2 ⟨rfl, hw2⟩
      subst w2
      go_wp2_with fail
      exact ret1v rfl rfl rfl ⟨_, rfl, ⟨fun e => by rw [ByteArray.size_append] at e; simp [ByteArray.size] at e, fun e => by rw [HC.out] at e; cases e⟩, HB.out⟩
  have d3 : decide ((n : Int) < 16) = false := decide_eq_false (by omega)
  have d3' : decide (n < 16) = false := decide_eq_false h3
  have e0 : decide ((0 : Int) ≤ (n : Int)) = true := decide_eq_true (by omega)
  have e1 : decide ((8 : Int) ≤ (n : Int)) = true := decide_eq_true (by omega)
  have e1' : decide (8 ≤ n) = true := decide_eq_true (by omega)
  have e2 : decide ((16 : Int) ≤ (n : Int)) = true := decide_eq_true (by omega)
  have e2' : decide (16 ≤ n) = true := decide_eq_true (by omega)
  by_cases h4 : n < 256
  · have HC := Lib.hid (show colOk (n : Int) = true by unfold colOk; rw [decide_eq_true (by omega)]; rfl)
    have d4 : decide ((n : Int) < 256) = true := decide_eq_true (by omega)
    have d4' : decide (n < 256) = true := decide_eq_true h4
    go_enter Tryz.func59, Tryz.ntmps59
    go_wp2_with fail
    refine (Tryz.strconv_Itoa n (by omega) (by omega) w HT.out.pw.here).mono ?_
    rintro e w2 ⟨rfl, k, os, hw2⟩
    have HB := Lib.hid (show Below w.heap.size w w2 by rw [hw2]; exact Lib.below_grow w.heap.size w (Nat.le_refl _) k os)
    clear hw2
    have hsz : (⟨(Lib.itoa (n : Int)).toArray⟩ : ByteArray).size ≤ 21 := by
      show (Lib.itoa (n : Int)).toArray.size ≤ 21
      rw [List.size_toArray]
      exact Lib.itoa_length_le (n : Int) (by omega) (by omega)
    generalize (⟨(Lib.itoa (n : Int)).toArray⟩ : ByteArray) = str at *
    go_wp2_with fail
    refine ret1v rfl rfl rfl ⟨_, rfl, ⟨fun e => ?_, fun e => by rw [HC.out] at e; cases e⟩, HB.out⟩
    rw [ByteArray.size_append] at e
    have h9 : (⟨#[99, 111, 108, 111, 117, 114]⟩ : ByteArray).size = 6 := rfl
    omega
  have d4 : decide ((n : Int) < 256) = false := decide_eq_false (by omega)
  have d4' : decide (n < 256) = false := decide_eq_false h4
  by_cases h5 : 16777216 ≤ n ∧ n < 33554432
  · have HC := Lib.hid (show colOk (n : Int) = true by unfold colOk; rw [decide_eq_false (by omega), decide_eq_true (by omega)]; rfl)
    have d5 : decide ((16777216 : Int) ≤ (n : Int)) = true := decide_eq_true (by omega)
    have d5' : decide (16777216 ≤ n) = true := decide_eq_true h5.1
    have d6 : decide ((n : Int) < 33554432) = true := decide_eq_true (by omega)
    have d6' : decide (n < 33554432) = true := decide_eq_true h5.2
    go_enter Tryz.func59, Tryz.ntmps59
    go_wp2_with fail
    refine (formatP_any n h5.1 h5.2 w HT.out.db).mono ?_
    rintro e w2 ⟨l, hl, rfl, b2⟩
    have HB := Lib.hid b2
    have hsz : (⟨l.toArray⟩ : ByteArray).size = 7 := by show l.toArray.size = 7; simpa using hl
    clear b2 hl
    generalize (⟨l.toArray⟩ : ByteArray) = str at *
    go_wp2_with fail
    exact ret1v rfl rfl rfl ⟨_, rfl, ⟨fun e => by rw [ByteArray.size_append] at e; have h9 : (⟨#[35]⟩ : ByteArray).size = 1 := rfl; omega, fun e => by rw [HC.out] at e; cases e⟩, HB.out⟩
  · have HC := Lib.hid (show colOk (n : Int) = false by unfold colOk; rw [decide_eq_false (by omega), decide_eq_false (by omega)]; rfl)
    by_cases h6 : 16777216 ≤ n
    · have d5 : decide ((16777216 : Int) ≤ (n : Int)) = true := decide_eq_true (by omega)
      have d5' : decide (16777216 ≤ n) = true := decide_eq_true h6
      have d6 : decide ((n : Int) < 33554432) = false := decide_eq_false (by omega)
      have d6' : decide (n < 33554432) = false := decide_eq_false (by omega)
      go_enter Tryz.func59, Tryz.ntmps59
      go_wp2_with fail
      exact ret1v rfl rfl rfl ⟨_, rfl, ⟨fun _ => HC.out, fun _ => rfl⟩, Below.refl _ _⟩
    · have d5 : decide ((16777216 : Int) ≤ (n : Int)) = false := decide_eq_false (by omega)
      have d5' : decide (16777216 ≤ n) = false := decide_eq_false h6
      go_enter Tryz.func59, Tryz.ntmps59
      go_wp2_with fail
      exact ret1v rfl rfl rfl ⟨_, rfl, ⟨fun _ => HC.out, fun _ => rfl⟩, Below.refl _ _⟩
theorem ba_empty {s : ByteArray} (h : s.size = 0) : s = ⟨#[]⟩ := by
  obtain ⟨d⟩ := s
  congr 1
  exact Array.eq_empty_of_size_eq_zero h
theorem ba_ne {s : ByteArray} (h : s.size ≠ 0) : (!s.toList.isEmpty) = true := by
  rw [ByteArray.toList_eq]
  have : s.data.toList.length = s.size := by rw [Array.length_toList]; rfl
  cases hl : s.data.toList with
  | nil => rw [hl] at this; simp at this; omega
  | cons x l => rfl
set_option maxRecDepth 100000 in
set_option maxHeartbeats 2000000 in
theorem right_all (s : Sty) (w0 : World) (ht : Tabs w0) (h1 : -9223372036854775808 ≤ s.fg ∧ s.fg ≤ 9223372036854775807) (h2 : -9223372036854775808 ≤ s.bg ∧ s.bg ≤ 9223372036854775807) : RightIn w0 s := by
  intro w hbw
  obtain ⟨f, b, at'⟩ := s
  dsimp only at h1 h2
  have HB1 := Lib.hid ((Below.refl w.heap.size w).alloc (Nat.le_refl _) (.cells #[.int .i64 f, .int .i64 b, .int .i64 at'] 35))
  have HK1 := Lib.hid (blk_new w (.cells #[.int .i64 f, .int .i64 b, .int .i64 at'] 35))
  have HT1 := Lib.hid ((ht.below hbw).below HB1.out)
  unfold Sty.val
  dsimp only
  clear ht hbw
  go_enter Tryz.func18, Tryz.ntmps18
  go_wp2_with fail
  refine (name_any f h1 _ HT1.out).mono ?_
  rintro e w2 ⟨s1, rfl, hs1, b2⟩
  have HB2 := Lib.hid (HB1.out.trans (b2.mono HB1.out.size))
  have HK2 := Lib.hid (blk_below HK1.out b2 (heap_lt HK1.out))
  have HT2 := Lib.hid (HT1.out.below b2)
  clear b2
  by_cases hf : colOk f = true
  rotate_left
  · have hf' : colOk f = false := by simpa using hf
    obtain rfl := ba_empty (hs1.2 hf')
    have HE := Lib.hid (show okS ⟨f, b, at'⟩ = false by unfold okS; rw [hf']; rfl)
    clear hs1 hf hf'
    go_wp2_with fail
    go_ret
    exact ⟨by rw [HE.out]; rfl, HB2.out⟩
  have n1 := ba_ne (s := s1) (fun e => by rw [hs1.1 e] at hf; cases hf)
  have HF := Lib.hid hf
  have x1 : w2.cell? ⟨w.heap.size, 1, none⟩ = some (.int .i64 b) := blk_cell HK2.out 1
  clear hs1 hf
  go_wp2_with fail
  refine (name_any b h2 _ HT2.out).mono ?_
  rintro e w3 ⟨s2, rfl, hs2, b3⟩
  have HB3 := Lib.hid (HB2.out.trans (b3.mono HB2.out.size))
  have x2 : w3.cell? ⟨w.heap.size, 2, none⟩ = some (.int .i64 at') := blk_cell (blk_below HK2.out b3 (heap_lt HK2.out)) 2
  clear b3
  by_cases hb : colOk b = true
  rotate_left
  · have hb' : colOk b = false := by simpa using hb
    obtain rfl := ba_empty (hs2.2 hb')
    have HE := Lib.hid (show okS ⟨f, b, at'⟩ = false by unfold okS; rw [HF.out, hb']; rfl)
    clear hs2 hb hb'
    go_wp2_with fail
    go_ret
    exact ⟨by rw [HE.out]; rfl, HB3.out⟩
  have m1 := ba_ne (s := s2) (fun e => by rw [hs2.1 e] at hb; cases hb)
  have HE := Lib.hid (show okS ⟨f, b, at'⟩ = (decide (0 ≤ at') && decide (at' ≤ 255)) by unfold okS; rw [HF.out, hb]; rfl)
  clear hs2 hb
  by_cases h0 : 0 ≤ at'
  · have d1 : decide (0 ≤ at') = true := decide_eq_true h0
    by_cases h3 : at' ≤ 255
    · have d2 : decide (at' ≤ 255) = true := decide_eq_true h3
      have HE2 := Lib.hid (HE.out.trans (by rw [d1, d2]; rfl : _ = true))
      go_wp2_with fail
      go_ret
      exact ⟨by rw [HE2.out]; rfl, HB3.out⟩
    · have d2 : decide (at' ≤ 255) = false := decide_eq_false h3
      have HE2 := Lib.hid (HE.out.trans (by rw [d1, d2]; rfl : _ = false))
      go_wp2_with fail
      go_ret
      exact ⟨by rw [HE2.out]; rfl, HB3.out⟩
  · have d1 : decide (0 ≤ at') = false := decide_eq_false h0
    have HE2 := Lib.hid (HE.out.trans (by rw [d1]; rfl : _ = false))
    go_wp2_with fail
    go_ret
    exact ⟨by rw [HE2.out]; rfl, HB3.out⟩
end Go.Proofs.YtlfdgkiliegaiaaGreatDoor

/- Walks of package grid: Erase, Insert, Delete. -/
namespace Go.Proofs.YtlfdgkiliegaiaaGreatDoor
open Go.RowKit

theorem within_of_row {T : Nat → Nat} {w w2 w' : World} {b : Nat} (hb : Below w.heap.size w w2) (ht : T b ≠ 0) (g : w2.grownBy w' (some b)) : Within (own T w) w w' :=
  (Within.of_below hb).trans (Within.of_gb g (fun k hk => .inl (by injection hk with hk; subst hk; exact ht)))
set_option maxRecDepth 100000 in
set_option maxHeartbeats 8000000 in
theorem erase_any {T : Nat → Nat} {p : Nat} {w : World} {g : Gr} (h : GM T p w g) (x y n : Int) (s : Sty) (hs : RightIn w s) :
    Calls Tryz.prog 282 #[.pointer (some ⟨p, 0, none⟩), .int .i64 x, .int .i64 y, .int .i64 n, s.val] w fun e w' => e = .returned (.tuple #[]) ∧ Within (own T w) w w' ∧ GM T p w' (g.erase x y n s) := by
  have hBz := Below.alloc (Below.refl w.heap.size w) (Nat.le_refl _) (.cells #[.int .i64 s.fg, .int .i64 s.bg, .int .i64 s.attr] 35)
  have hbk0 := blk_new w (.cells #[.int .i64 s.fg, .int .i64 s.bg, .int .i64 s.attr] 35)
  have HG0 := Lib.hid (h.below hBz)
  have HLT := Lib.hid h.lt
  clear h
  cases hon : g.onIt x y s
  · have HE := Lib.hid (show g.erase x y n s = g by unfold Gr.erase Gr.rowOp; rw [hon, if_neg (by simp)])
    have HON := Lib.hid (on_no HG0.out x y s (hs.below hBz) hon)
    have hq := fun (wx : World) => Lib.run_eql_slice_nil (P := Tryz.prog) wx 68 133 none 0 0 0 0 Tryz.underlying68
    unfold Sty.val at HON ⊢
    go_enter Tryz.func282, Tryz.ntmps282
    go_wp2_with fail
    refine HON.out.mono ?_
    rintro e w2 ⟨rfl, b2⟩
    have HG2 := Lib.hid (HG0.out.below b2)
    have HB2 := Lib.hid (hBz.trans (b2.mono (by simp)))
    clear b2 HON
    go_wp2_with fail
    refine ret0w rfl rfl ⟨rfl, Within.of_below HB2.out, ?_⟩
    rw [HE.out]
    exact HG2.out
  · obtain ⟨n1, n2, n3, n4, n5⟩ := onIt_iff hon
    obtain ⟨xn, rfl⟩ : ∃ k : Nat, x = (k : Int) := ⟨x.toNat, by omega⟩
    obtain ⟨yn, rfl⟩ : ∃ k : Nat, y = (k : Int) := ⟨y.toNat, by omega⟩
    obtain ⟨vr, vo, Lr, Lo, hA⟩ := HG0.out
    have hlen := (rows_len hA).1
    have hyl : yn < Lr.length := by omega
    have hcols := hA.wf.c2
    have hrc : Lr[yn].2.cells.length = g.cols := (hA.wf.ce _ (List.mem_append_left _ (by rw [← hA.er]; exact List.mem_map_of_mem (List.getElem_mem hyl)))).1
    have hrok : ∀ c ∈ Lr[yn].2.cells, c.Ok := (hA.wf.ce _ (List.mem_append_left _ (by rw [← hA.er]; exact List.mem_map_of_mem (List.getElem_mem hyl)))).2
    have HON := Lib.hid (on_yes hA xn yn s (hs.below hBz) (by omega) hyl n5)
    have hcx := hA.ca Lr[yn] (List.mem_append_left _ (List.getElem_mem hyl))
    have HC := Lib.hid hcx
    obtain ⟨b, off, vc, hxv, hnc, hcm⟩ := ownC_pos hcx.own (by omega)
    rw [hrc] at hxv hnc
    have HA := Lib.hid hA
    clear hA hcx
    rw [hxv] at HON
    have hq := fun (wx : World) => Lib.run_eql_slice_nil (P := Tryz.prog) wx 68 133 (some ⟨b, off, none⟩) g.cols vc 0 0 Tryz.underlying68
    unfold Sty.val at HON ⊢
    by_cases hn0 : 0 < n
    rotate_left
    · have d0 : decide (n ≤ 0) = true := decide_eq_true (by omega)
      have HE := Lib.hid (show g.erase xn yn n s = g by unfold Gr.erase Gr.rowOp; rw [if_neg (fun e => hn0 e.2)])
      go_enter Tryz.func282, Tryz.ntmps282
      go_wp2_with fail
      refine HON.out.mono ?_
      rintro e w2 ⟨rfl, b2⟩
      have HG2 := Lib.hid (HG0.out.below b2)
      have HB2 := Lib.hid (hBz.trans (b2.mono (by simp)))
      clear b2 HON
      go_wp2_with fail
      refine ret0w rfl rfl ⟨rfl, Within.of_below HB2.out, ?_⟩
      rw [HE.out]
      exact HG2.out
    have d0 : decide (n ≤ 0) = false := decide_eq_false (by omega)
    obtain ⟨N, hN⟩ : ∃ N : Nat, N = manyN g xn n := ⟨_, rfl⟩
    have hmin : min n ((g.cols : Int) - (xn : Int)) = (N : Int) := by unfold manyN at hN; omega
    have hN2 : 1 ≤ N ∧ xn + N ≤ g.cols := by unfold manyN at hN; omega
    have HE := Lib.hid (show g.erase xn yn n s = g.turn yn (fun l => eraseL l xn N s) by
      unfold Gr.erase Gr.rowOp
      rw [if_pos ⟨hon, hn0⟩, hN, Int.toNat_natCast, Int.toNat_natCast])
    have hbt : T b = 10 + b := by
      obtain ⟨q, e1, e2⟩ := HC.out.tag
      rw [hxv] at e1
      simp only [Value.ownBlock] at e1
      injection e1 with e1
      subst e1; exact e2
    have hbl : b < w.heap.size := HLT.out b (by omega)
    have hwm : IntKind.i64.wrap ((g.cols : Int) - (xn : Int)) = (g.cols : Int) - (xn : Int) := wrap64_id _ (by omega) (by omega)
    have hwx : IntKind.i64.wrap ((xn : Int) + (N : Int)) = (xn : Int) + (N : Int) := wrap64_id _ (by omega) (by omega)
    have hwc : IntKind.i64.wrap ((g.cols : Int) - (N : Int)) = (g.cols : Int) - (N : Int) := wrap64_id _ (by omega) (by omega)
    clear hN hon n1 n2 n3 n4
    go_enter Tryz.func282, Tryz.ntmps282
    go_wp2_with fail
    refine HON.out.mono ?_
    rintro e w2 ⟨rfl, b2⟩
    have HA2 := Lib.hid (HA.out.mod (.of_below b2) id id id (fun _ => id))
    have HB2 := Lib.hid (hBz.trans (b2.mono (by simp)))
    have hbk2 := blk_below hbk0 b2 (by simp)
    have hkp2 := HA2.out.blk
    have c0 : w2.cell? ⟨p, 0, none⟩ = some (.int .i64 g.cols) := (gm_cells HA2.out).1
    have O2 := (HA2.out.ca Lr[yn] (List.mem_append_left _ (List.getElem_mem hyl))).own
    have hpt : T p = 1 := HA2.out.tp
    have hbp : b ≠ p := fun e => by rw [e] at hbt; omega
    rw [hxv, hrc] at O2
    have HTN := Lib.hid (show ∀ w', w2.grownBy w' (some b) → OwnC w' 0 5 (.slice (some ⟨b, off, none⟩) g.cols vc) g.cols (cvals (eraseL Lr[yn].2.cells xn N s)) → GM T p w' (g.turn yn (fun l => eraseL l xn N s)) from fun w' g' o' => by
      have hll : (eraseL Lr[yn].2.cells xn N s).length = g.cols := by
        rw [eraseL_len s (by omega)]
        exact hrc
      refine HA2.out.turned yn hyl (b := b) (by rw [hxv]; rfl) (Mod.of_gb g' (fun k hk => by injection hk with hk; subst hk; exact hbt)) _ ?_ ?_ ?_
      · rw [hll, hxv]; exact o'
      · exact hll
      · exact eraseL_ok hrok)
    have HWI := Lib.hid (show ∀ w', w2.grownBy w' (some b) → Within (own T w) w w' from fun w' g' => within_of_row HB2.out (by omega) g')
    clear b2 HON hbk0 HA2
    generalize Lr[yn].2.cells = lx at *
    have hgc : g.cols ≤ 1000000 := by omega
    go_wp2_with fail
    refine (cut_any lx xn b off g.cols vc w2 O2 hrc hgc (by omega)).mono ?_
    rintro e w5 ⟨rfl, g5, o5⟩
    have hbk5 := blk_grown hbk2 g5 (by intro e; injection e with e; omega)
    have hkp5 := blk_grown hkp2 g5 (by intro e; injection e with e; exact hbp e.symm)
    have k0 : w5.cell? ⟨p, 0, none⟩ = some (.int .i64 g.cols) := blk_cell hkp5 0
    have HO5 := Lib.hid o5
    have HK5 := Lib.hid hbk5
    have HP5 := Lib.hid hkp5
    have HG5 := Lib.hid g5
    clear o5 hbk5 g5 O2 c0 hbk2 hkp2 hkp5
    go_wp2_with fail
    refine (cut_any (cutL lx xn) ((xn : Int) + (N : Int)) b off g.cols vc w5 HO5.out (by rw [cutL_len]; exact hrc) hgc (by omega)).mono ?_
    rintro e w6 ⟨rfl, g6, o6⟩
    rw [show (xn : Int) + (N : Int) = ((xn + N : Nat) : Int) by omega] at o6
    have hbk6 := blk_grown HK5.out g6 (by intro e; injection e with e; omega)
    have hkp6 := blk_grown HP5.out g6 (by intro e; injection e with e; exact hbp e.symm)
    have HG6 := Lib.hid (gb_trans HG5.out g6)
    have HK6 := Lib.hid hbk6
    have HP6 := Lib.hid hkp6
    have HO6 := Lib.hid o6
    clear k0 g6 o6 hbk6 hkp6 HG5 HK5 HP5 HO5 hq
    have hlen2 : (cutL (cutL lx xn) ((xn + N : Nat) : Int)).length = g.cols := by rw [cutL_len, cutL_len]; exact hrc
    have HKF := HK6
    have HPF := HP6
    have HOF := HO6
    have HGF := HG6
    clear HK6 HP6 HO6 HG6
    have hsl := slice_lh (P := Tryz.prog) (size := 5) Tryz.underlying68 cell_info b off g.cols vc xn (xn + N) (by omega) (by omega) (by omega)
    rw [show xn + N - xn = N by omega, show ((xn + N : Nat) : Int) = (xn : Int) + (N : Int) by omega] at hsl
    have f0 : w6.cell? ⟨w.heap.size, 0, none⟩ = some (.int .i64 s.fg) := blk_cell HKF.out 0
    have f1 : w6.cell? ⟨w.heap.size, 1, none⟩ = some (.int .i64 s.bg) := blk_cell HKF.out 1
    have f2 : w6.cell? ⟨w.heap.size, 2, none⟩ = some (.int .i64 s.attr) := blk_cell HKF.out 2
    have j0 : w6.cell? ⟨p, 0, none⟩ = some (.int .i64 g.cols) := blk_cell HPF.out 0
    have HFI := Lib.hid (fun wx (ho : OwnC wx 0 5 (.slice (some ⟨b, off, none⟩) g.cols vc) g.cols (cvals (cutL (cutL lx xn) ((xn + N : Nat) : Int)))) => fill_any (cutL (cutL lx xn) ((xn + N : Nat) : Int)) s b off g.cols vc xn N (vc - xn) wx ho hlen2 (by omega) (by unfold maxLen; omega))
    unfold Sty.val at HFI
    go_upto_region 6 with fail
    go_still_tail 7, (by kernel_rfl)
    change wpList _ _ _ _ _ w6.drew
    have HOD := Lib.hid (show OwnC w6.drew 0 5 (.slice (some ⟨b, off, none⟩) g.cols vc) g.cols (cvals (cutL (cutL lx xn) ((xn + N : Nat) : Int))) from HOF.out)
    have HGD := Lib.hid (gb_drew HGF.out)
    clear f0 f1 f2 j0 HOF HGF HKF HPF
    generalize w6.drew = wd at *
    go_wp2_with fail
    refine (HFI.out _ HOD.out).mono ?_
    rintro e w9 ⟨rfl, g9, o9⟩
    have HG9 := Lib.hid (gb_trans HGD.out g9)
    have HO9 := Lib.hid o9
    clear g9 o9
    go_wp2_with fail
    go_end0
    refine ⟨rfl, HWI.out _ HG9.out, ?_⟩
    rw [HE.out]
    refine HTN.out _ HG9.out ?_
    have := HO9.out
    unfold eraseL
    exact this
set_option maxRecDepth 100000 in
set_option maxHeartbeats 8000000 in
theorem ins_any {T : Nat → Nat} {p : Nat} {w : World} {g : Gr} (h : GM T p w g) (x y n : Int) (s : Sty) (hs : RightIn w s) :
    Calls Tryz.prog 154 #[.pointer (some ⟨p, 0, none⟩), .int .i64 x, .int .i64 y, .int .i64 n, s.val] w fun e w' => e = .returned (.tuple #[]) ∧ Within (own T w) w w' ∧ GM T p w' (g.ins x y n s) := by
  have hBz := Below.alloc (Below.refl w.heap.size w) (Nat.le_refl _) (.cells #[.int .i64 s.fg, .int .i64 s.bg, .int .i64 s.attr] 35)
  have hbk0 := blk_new w (.cells #[.int .i64 s.fg, .int .i64 s.bg, .int .i64 s.attr] 35)
  have HG0 := Lib.hid (h.below hBz)
  have HLT := Lib.hid h.lt
  clear h
  cases hon : g.onIt x y s
  · have HE := Lib.hid (show g.ins x y n s = g by unfold Gr.ins Gr.rowOp; rw [hon, if_neg (by simp)])
    have HON := Lib.hid (on_no HG0.out x y s (hs.below hBz) hon)
    have hq := fun (wx : World) => Lib.run_eql_slice_nil (P := Tryz.prog) wx 68 133 none 0 0 0 0 Tryz.underlying68
    unfold Sty.val at HON ⊢
    go_enter Tryz.func154, Tryz.ntmps154
    go_wp2_with fail
    refine HON.out.mono ?_
    rintro e w2 ⟨rfl, b2⟩
    have HG2 := Lib.hid (HG0.out.below b2)
    have HB2 := Lib.hid (hBz.trans (b2.mono (by simp)))
    clear b2 HON
    go_wp2_with fail
    refine ret0w rfl rfl ⟨rfl, Within.of_below HB2.out, ?_⟩
    rw [HE.out]
    exact HG2.out
  · obtain ⟨n1, n2, n3, n4, n5⟩ := onIt_iff hon
    obtain ⟨xn, rfl⟩ : ∃ k : Nat, x = (k : Int) := ⟨x.toNat, by omega⟩
    obtain ⟨yn, rfl⟩ : ∃ k : Nat, y = (k : Int) := ⟨y.toNat, by omega⟩
    obtain ⟨vr, vo, Lr, Lo, hA⟩ := HG0.out
    have hlen := (rows_len hA).1
    have hyl : yn < Lr.length := by omega
    have hcols := hA.wf.c2
    have hrc : Lr[yn].2.cells.length = g.cols := (hA.wf.ce _ (List.mem_append_left _ (by rw [← hA.er]; exact List.mem_map_of_mem (List.getElem_mem hyl)))).1
    have hrok : ∀ c ∈ Lr[yn].2.cells, c.Ok := (hA.wf.ce _ (List.mem_append_left _ (by rw [← hA.er]; exact List.mem_map_of_mem (List.getElem_mem hyl)))).2
    have HON := Lib.hid (on_yes hA xn yn s (hs.below hBz) (by omega) hyl n5)
    have hcx := hA.ca Lr[yn] (List.mem_append_left _ (List.getElem_mem hyl))
    have HC := Lib.hid hcx
    obtain ⟨b, off, vc, hxv, hnc, hcm⟩ := ownC_pos hcx.own (by omega)
    rw [hrc] at hxv hnc
    have HA := Lib.hid hA
    clear hA hcx
    rw [hxv] at HON
    have hq := fun (wx : World) => Lib.run_eql_slice_nil (P := Tryz.prog) wx 68 133 (some ⟨b, off, none⟩) g.cols vc 0 0 Tryz.underlying68
    unfold Sty.val at HON ⊢
    by_cases hn0 : 0 < n
    rotate_left
    · have d0 : decide (n ≤ 0) = true := decide_eq_true (by omega)
      have HE := Lib.hid (show g.ins xn yn n s = g by unfold Gr.ins Gr.rowOp; rw [if_neg (fun e => hn0 e.2)])
      go_enter Tryz.func154, Tryz.ntmps154
      go_wp2_with fail
      refine HON.out.mono ?_
      rintro e w2 ⟨rfl, b2⟩
      have HG2 := Lib.hid (HG0.out.below b2)
      have HB2 := Lib.hid (hBz.trans (b2.mono (by simp)))
      clear b2 HON
      go_wp2_with fail
      refine ret0w rfl rfl ⟨rfl, Within.of_below HB2.out, ?_⟩
      rw [HE.out]
      exact HG2.out
    have d0 : decide (n ≤ 0) = false := decide_eq_false (by omega)
    obtain ⟨N, hN⟩ : ∃ N : Nat, N = manyN g xn n := ⟨_, rfl⟩
    have hmin : min n ((g.cols : Int) - (xn : Int)) = (N : Int) := by unfold manyN at hN; omega
    have hN2 : 1 ≤ N ∧ xn + N ≤ g.cols := by unfold manyN at hN; omega
    have HE := Lib.hid (show g.ins xn yn n s = g.turn yn (fun l => insL l xn N s) by
      unfold Gr.ins Gr.rowOp
      rw [if_pos ⟨hon, hn0⟩, hN, Int.toNat_natCast, Int.toNat_natCast])
    have hbt : T b = 10 + b := by
      obtain ⟨q, e1, e2⟩ := HC.out.tag
      rw [hxv] at e1
      simp only [Value.ownBlock] at e1
      injection e1 with e1
      subst e1; exact e2
    have hbl : b < w.heap.size := HLT.out b (by omega)
    have hwm : IntKind.i64.wrap ((g.cols : Int) - (xn : Int)) = (g.cols : Int) - (xn : Int) := wrap64_id _ (by omega) (by omega)
    have hwx : IntKind.i64.wrap ((xn : Int) + (N : Int)) = (xn : Int) + (N : Int) := wrap64_id _ (by omega) (by omega)
    have hwc : IntKind.i64.wrap ((g.cols : Int) - (N : Int)) = (g.cols : Int) - (N : Int) := wrap64_id _ (by omega) (by omega)
    clear hN hon n1 n2 n3 n4
    go_enter Tryz.func154, Tryz.ntmps154
    go_wp2_with fail
    refine HON.out.mono ?_
    rintro e w2 ⟨rfl, b2⟩
    have HA2 := Lib.hid (HA.out.mod (.of_below b2) id id id (fun _ => id))
    have HB2 := Lib.hid (hBz.trans (b2.mono (by simp)))
    have hbk2 := blk_below hbk0 b2 (by simp)
    have hkp2 := HA2.out.blk
    have c0 : w2.cell? ⟨p, 0, none⟩ = some (.int .i64 g.cols) := (gm_cells HA2.out).1
    have O2 := (HA2.out.ca Lr[yn] (List.mem_append_left _ (List.getElem_mem hyl))).own
    have hpt : T p = 1 := HA2.out.tp
    have hbp : b ≠ p := fun e => by rw [e] at hbt; omega
    rw [hxv, hrc] at O2
    have HTN := Lib.hid (show ∀ w', w2.grownBy w' (some b) → OwnC w' 0 5 (.slice (some ⟨b, off, none⟩) g.cols vc) g.cols (cvals (insL Lr[yn].2.cells xn N s)) → GM T p w' (g.turn yn (fun l => insL l xn N s)) from fun w' g' o' => by
      have hll : (insL Lr[yn].2.cells xn N s).length = g.cols := by
        rw [insL_len s (by omega)]
        exact hrc
      refine HA2.out.turned yn hyl (b := b) (by rw [hxv]; rfl) (Mod.of_gb g' (fun k hk => by injection hk with hk; subst hk; exact hbt)) _ ?_ ?_ ?_
      · rw [hll, hxv]; exact o'
      · exact hll
      · exact insL_ok hrok)
    have HWI := Lib.hid (show ∀ w', w2.grownBy w' (some b) → Within (own T w) w w' from fun w' g' => within_of_row HB2.out (by omega) g')
    clear b2 HON hbk0 HA2
    generalize Lr[yn].2.cells = lx at *
    have hgc : g.cols ≤ 1000000 := by omega
    go_wp2_with fail
    refine (cut_any lx xn b off g.cols vc w2 O2 hrc hgc (by omega)).mono ?_
    rintro e w5 ⟨rfl, g5, o5⟩
    have hbk5 := blk_grown hbk2 g5 (by intro e; injection e with e; omega)
    have hkp5 := blk_grown hkp2 g5 (by intro e; injection e with e; exact hbp e.symm)
    have k0 : w5.cell? ⟨p, 0, none⟩ = some (.int .i64 g.cols) := blk_cell hkp5 0
    have HO5 := Lib.hid o5
    have HK5 := Lib.hid hbk5
    have HP5 := Lib.hid hkp5
    have HG5 := Lib.hid g5
    clear o5 hbk5 g5 O2 c0 hbk2 hkp2 hkp5
    go_wp2_with fail
    refine (cut_any (cutL lx xn) ((g.cols : Int) - (N : Int)) b off g.cols vc w5 HO5.out (by rw [cutL_len]; exact hrc) hgc (by omega)).mono ?_
    rintro e w6 ⟨rfl, g6, o6⟩
    rw [show (g.cols : Int) - (N : Int) = ((lx.length - N : Nat) : Int) by omega] at o6
    have hbk6 := blk_grown HK5.out g6 (by intro e; injection e with e; omega)
    have hkp6 := blk_grown HP5.out g6 (by intro e; injection e with e; exact hbp e.symm)
    have HG6 := Lib.hid (gb_trans HG5.out g6)
    have HK6 := Lib.hid hbk6
    have HP6 := Lib.hid hkp6
    have HO6 := Lib.hid o6
    clear k0 g6 o6 hbk6 hkp6 HG5 HK5 HP5 HO5 hq
    have hlen2 : (cutL (cutL lx xn) ((lx.length - N : Nat) : Int)).length = g.cols := by rw [cutL_len, cutL_len]; exact hrc
    obtain ⟨da, hsl1, hda⟩ := slice_l' (P := Tryz.prog) (size := 5) Tryz.underlying68 cell_info b off g.cols vc (xn + N) (by omega) hnc
    rw [show ((xn + N : Nat) : Int) = (xn : Int) + (N : Int) by omega] at hsl1
    have hsl2 := slice_l (P := Tryz.prog) (size := 5) Tryz.underlying68 cell_info b off g.cols vc xn (by omega) (by omega)
    have hrd := reads_sub HO6.out xn g.cols (vc - xn) ⟨b, off + xn * 5, none⟩ (fun _ => rfl) (by omega) (Nat.le_refl _)
    rw [cvals_drop, cvals_take, List.take_of_length_le (by rw [List.length_drop, hlen2]; exact Nat.le_refl _)] at hrd
    have hcp := fun (wx : World) (ho : OwnC wx 0 5 (.slice (some ⟨b, off, none⟩) g.cols vc) g.cols (cvals (cutL (cutL lx xn) ((lx.length - N : Nat) : Int)))) (hr : Reads wx 5 (.slice (some ⟨b, off + xn * 5, none⟩) (g.cols - xn) (vc - xn)) (g.cols - xn) (cvals ((cutL (cutL lx xn) ((lx.length - N : Nat) : Int)).drop xn))) => copy_own (P := Tryz.prog) Tryz.underlying68 cell_info ho (xn + N) (g.cols - (xn + N)) (vc - (xn + N)) da (fun h0 => hda (by omega)) (by omega) hr (cvals_one _) 3
    have HRD := Lib.hid (show Reads w6.drew 5 (.slice (some ⟨b, off + xn * 5, none⟩) (g.cols - xn) (vc - xn)) (g.cols - xn) (cvals ((cutL (cutL lx xn) ((lx.length - N : Nat) : Int)).drop xn)) from hrd)
    have HO6d := Lib.hid (show OwnC w6.drew 0 5 (.slice (some ⟨b, off, none⟩) g.cols vc) g.cols (cvals (cutL (cutL lx xn) ((lx.length - N : Nat) : Int))) from HO6.out)
    have hcp6 := hcp w6.drew HO6d.out HRD.out
    rw [show Nat.min (g.cols - xn) (g.cols - (xn + N)) = g.cols - (xn + N) by show min _ _ = _; omega, cvals_take] at hcp6
    clear hcp hrd
    have hml : (((cutL (cutL lx xn) ((lx.length - N : Nat) : Int)).drop xn).take (g.cols - (xn + N))).length = g.cols - (xn + N) := by rw [List.length_take, List.length_drop, hlen2]; omega
    go_upto_region 6 with fail
    go_still_tail 8, (by kernel_rfl)
    change wpList _ _ _ _ _ w6.drew
    have hO7 := copy_owned HO6d.out (xn + N) (cvals (((cutL (cutL lx xn) ((lx.length - N : Nat) : Int)).drop xn).take (g.cols - (xn + N)))) (by rw [cvals_len, hml]; omega)
    rw [← cvals_put] at hO7
    have g7 := gb_setCells w6.drew b (off + (xn + N) * 5) (cvals (((cutL (cutL lx xn) ((lx.length - N : Nat) : Int)).drop xn).take (g.cols - (xn + N))))
    have HKF := Lib.hid (blk_grown (blk_drew HK6.out) g7 (by intro e; injection e with e; omega))
    have HPF := Lib.hid (blk_grown (blk_drew HP6.out) g7 (by intro e; injection e with e; exact hbp e.symm))
    have HGF := Lib.hid (gb_trans (gb_drew HG6.out) g7)
    have HOF := Lib.hid hO7
    clear hO7 g7 HK6 HP6 HG6 HO6 HO6d HRD
    generalize hw7 : w6.drew.setCells b (off + (xn + N) * 5) (cvals (((cutL (cutL lx xn) ((lx.length - N : Nat) : Int)).drop xn).take (g.cols - (xn + N)))) = w7 at *
    clear hw7
    have f0 : w7.cell? ⟨w.heap.size, 0, none⟩ = some (.int .i64 s.fg) := blk_cell HKF.out 0
    have f1 : w7.cell? ⟨w.heap.size, 1, none⟩ = some (.int .i64 s.bg) := blk_cell HKF.out 1
    have f2 : w7.cell? ⟨w.heap.size, 2, none⟩ = some (.int .i64 s.attr) := blk_cell HKF.out 2
    have j0 : w7.cell? ⟨p, 0, none⟩ = some (.int .i64 g.cols) := blk_cell HPF.out 0
    have hsl := slice_lh (P := Tryz.prog) (size := 5) Tryz.underlying68 cell_info b off g.cols vc xn (xn + N) (by omega) (by omega) (by omega)
    rw [show xn + N - xn = N by omega, show ((xn + N : Nat) : Int) = (xn : Int) + (N : Int) by omega] at hsl
    have HFI := Lib.hid (fun wx (ho : OwnC wx 0 5 (.slice (some ⟨b, off, none⟩) g.cols vc) g.cols (cvals (putAt (cutL (cutL lx xn) ((lx.length - N : Nat) : Int)) (xn + N) (((cutL (cutL lx xn) ((lx.length - N : Nat) : Int)).drop xn).take (g.cols - (xn + N)))))) => fill_any (putAt (cutL (cutL lx xn) ((lx.length - N : Nat) : Int)) (xn + N) (((cutL (cutL lx xn) ((lx.length - N : Nat) : Int)).drop xn).take (g.cols - (xn + N)))) s b off g.cols vc xn N (vc - xn) wx ho (by rw [putAt_len _ _ _ (by rw [hml, hlen2]; omega)]; exact hlen2) (by omega) (by unfold maxLen; omega))
    unfold Sty.val at HFI
    go_upto_region 7 with fail
    go_still_tail 7, (by kernel_rfl)
    change wpList _ _ _ _ _ w7.drew
    have HOD := Lib.hid (show OwnC w7.drew 0 5 (.slice (some ⟨b, off, none⟩) g.cols vc) g.cols (cvals (putAt (cutL (cutL lx xn) ((lx.length - N : Nat) : Int)) (xn + N) (((cutL (cutL lx xn) ((lx.length - N : Nat) : Int)).drop xn).take (g.cols - (xn + N))))) from HOF.out)
    have HGD := Lib.hid (gb_drew HGF.out)
    clear f0 f1 f2 j0 HOF HGF HKF HPF
    generalize w7.drew = wd at *
    go_wp2_with fail
    refine (HFI.out _ HOD.out).mono ?_
    rintro e w9 ⟨rfl, g9, o9⟩
    have HG9 := Lib.hid (gb_trans HGD.out g9)
    have HO9 := Lib.hid o9
    clear g9 o9
    go_wp2_with fail
    go_end0
    refine ⟨rfl, HWI.out _ HG9.out, ?_⟩
    rw [HE.out]
    refine HTN.out _ HG9.out ?_
    have := HO9.out
    rw [show g.cols - (xn + N) = lx.length - xn - N by omega, ins_eq lx xn N s (by omega)] at this
    exact this
set_option maxRecDepth 100000 in
set_option maxHeartbeats 8000000 in
theorem del_any {T : Nat → Nat} {p : Nat} {w : World} {g : Gr} (h : GM T p w g) (x y n : Int) (s : Sty) (hs : RightIn w s) :
    Calls Tryz.prog 281 #[.pointer (some ⟨p, 0, none⟩), .int .i64 x, .int .i64 y, .int .i64 n, s.val] w fun e w' => e = .returned (.tuple #[]) ∧ Within (own T w) w w' ∧ GM T p w' (g.del x y n s) := by
  have hBz := Below.alloc (Below.refl w.heap.size w) (Nat.le_refl _) (.cells #[.int .i64 s.fg, .int .i64 s.bg, .int .i64 s.attr] 35)
  have hbk0 := blk_new w (.cells #[.int .i64 s.fg, .int .i64 s.bg, .int .i64 s.attr] 35)
  have HG0 := Lib.hid (h.below hBz)
  have HLT := Lib.hid h.lt
  clear h
  cases hon : g.onIt x y s
  · have HE := Lib.hid (show g.del x y n s = g by unfold Gr.del Gr.rowOp; rw [hon, if_neg (by simp)])
    have HON := Lib.hid (on_no HG0.out x y s (hs.below hBz) hon)
    have hq := fun (wx : World) => Lib.run_eql_slice_nil (P := Tryz.prog) wx 68 133 none 0 0 0 0 Tryz.underlying68
    unfold Sty.val at HON ⊢
    go_enter Tryz.func281, Tryz.ntmps281
    go_wp2_with fail
    refine HON.out.mono ?_
    rintro e w2 ⟨rfl, b2⟩
    have HG2 := Lib.hid (HG0.out.below b2)
    have HB2 := Lib.hid (hBz.trans (b2.mono (by simp)))
    clear b2 HON
    go_wp2_with fail
    refine ret0w rfl rfl ⟨rfl, Within.of_below HB2.out, ?_⟩
    rw [HE.out]
    exact HG2.out
  · obtain ⟨n1, n2, n3, n4, n5⟩ := onIt_iff hon
    obtain ⟨xn, rfl⟩ : ∃ k : Nat, x = (k : Int) := ⟨x.toNat, by omega⟩
    obtain ⟨yn, rfl⟩ : ∃ k : Nat, y = (k : Int) := ⟨y.toNat, by omega⟩
    obtain ⟨vr, vo, Lr, Lo, hA⟩ := HG0.out
    have hlen := (rows_len hA).1
    have hyl : yn < Lr.length := by omega
    have hcols := hA.wf.c2
    have hrc : Lr[yn].2.cells.length = g.cols := (hA.wf.ce _ (List.mem_append_left _ (by rw [← hA.er]; exact List.mem_map_of_mem (List.getElem_mem hyl)))).1
    have hrok : ∀ c ∈ Lr[yn].2.cells, c.Ok := (hA.wf.ce _ (List.mem_append_left _ (by rw [← hA.er]; exact List.mem_map_of_mem (List.getElem_mem hyl)))).2
    have HON := Lib.hid (on_yes hA xn yn s (hs.below hBz) (by omega) hyl n5)
    have hcx := hA.ca Lr[yn] (List.mem_append_left _ (List.getElem_mem hyl))
    have HC := Lib.hid hcx
    obtain ⟨b, off, vc, hxv, hnc, hcm⟩ := ownC_pos hcx.own (by omega)
    rw [hrc] at hxv hnc
    have HA := Lib.hid hA
    clear hA hcx
    rw [hxv] at HON
    have hq := fun (wx : World) => Lib.run_eql_slice_nil (P := Tryz.prog) wx 68 133 (some ⟨b, off, none⟩) g.cols vc 0 0 Tryz.underlying68
    unfold Sty.val at HON ⊢
    by_cases hn0 : 0 < n
    rotate_left
    · have d0 : decide (n ≤ 0) = true := decide_eq_true (by omega)
      have HE := Lib.hid (show g.del xn yn n s = g by unfold Gr.del Gr.rowOp; rw [if_neg (fun e => hn0 e.2)])
      go_enter Tryz.func281, Tryz.ntmps281
      go_wp2_with fail
      refine HON.out.mono ?_
      rintro e w2 ⟨rfl, b2⟩
      have HG2 := Lib.hid (HG0.out.below b2)
      have HB2 := Lib.hid (hBz.trans (b2.mono (by simp)))
      clear b2 HON
      go_wp2_with fail
      refine ret0w rfl rfl ⟨rfl, Within.of_below HB2.out, ?_⟩
      rw [HE.out]
      exact HG2.out
    have d0 : decide (n ≤ 0) = false := decide_eq_false (by omega)
    obtain ⟨N, hN⟩ : ∃ N : Nat, N = manyN g xn n := ⟨_, rfl⟩
    have hmin : min n ((g.cols : Int) - (xn : Int)) = (N : Int) := by unfold manyN at hN; omega
    have hN2 : 1 ≤ N ∧ xn + N ≤ g.cols := by unfold manyN at hN; omega
    have HE := Lib.hid (show g.del xn yn n s = g.turn yn (fun l => delL l xn N s) by
      unfold Gr.del Gr.rowOp
      rw [if_pos ⟨hon, hn0⟩, hN, Int.toNat_natCast, Int.toNat_natCast])
    have hbt : T b = 10 + b := by
      obtain ⟨q, e1, e2⟩ := HC.out.tag
      rw [hxv] at e1
      simp only [Value.ownBlock] at e1
      injection e1 with e1
      subst e1; exact e2
    have hbl : b < w.heap.size := HLT.out b (by omega)
    have hwm : IntKind.i64.wrap ((g.cols : Int) - (xn : Int)) = (g.cols : Int) - (xn : Int) := wrap64_id _ (by omega) (by omega)
    have hwx : IntKind.i64.wrap ((xn : Int) + (N : Int)) = (xn : Int) + (N : Int) := wrap64_id _ (by omega) (by omega)
    have hwc : IntKind.i64.wrap ((g.cols : Int) - (N : Int)) = (g.cols : Int) - (N : Int) := wrap64_id _ (by omega) (by omega)
    clear hN hon n1 n2 n3 n4
    go_enter Tryz.func281, Tryz.ntmps281
    go_wp2_with fail
    refine HON.out.mono ?_
    rintro e w2 ⟨rfl, b2⟩
    have HA2 := Lib.hid (HA.out.mod (.of_below b2) id id id (fun _ => id))
    have HB2 := Lib.hid (hBz.trans (b2.mono (by simp)))
    have hbk2 := blk_below hbk0 b2 (by simp)
    have hkp2 := HA2.out.blk
    have c0 : w2.cell? ⟨p, 0, none⟩ = some (.int .i64 g.cols) := (gm_cells HA2.out).1
    have O2 := (HA2.out.ca Lr[yn] (List.mem_append_left _ (List.getElem_mem hyl))).own
    have hpt : T p = 1 := HA2.out.tp
    have hbp : b ≠ p := fun e => by rw [e] at hbt; omega
    rw [hxv, hrc] at O2
    have HTN := Lib.hid (show ∀ w', w2.grownBy w' (some b) → OwnC w' 0 5 (.slice (some ⟨b, off, none⟩) g.cols vc) g.cols (cvals (delL Lr[yn].2.cells xn N s)) → GM T p w' (g.turn yn (fun l => delL l xn N s)) from fun w' g' o' => by
      have hll : (delL Lr[yn].2.cells xn N s).length = g.cols := by
        rw [delL_len s (by omega)]
        exact hrc
      refine HA2.out.turned yn hyl (b := b) (by rw [hxv]; rfl) (Mod.of_gb g' (fun k hk => by injection hk with hk; subst hk; exact hbt)) _ ?_ ?_ ?_
      · rw [hll, hxv]; exact o'
      · exact hll
      · exact delL_ok hrok)
    have HWI := Lib.hid (show ∀ w', w2.grownBy w' (some b) → Within (own T w) w w' from fun w' g' => within_of_row HB2.out (by omega) g')
    clear b2 HON hbk0 HA2
    generalize Lr[yn].2.cells = lx at *
    have hgc : g.cols ≤ 1000000 := by omega
    go_wp2_with fail
    refine (cut_any lx xn b off g.cols vc w2 O2 hrc hgc (by omega)).mono ?_
    rintro e w5 ⟨rfl, g5, o5⟩
    have hbk5 := blk_grown hbk2 g5 (by intro e; injection e with e; omega)
    have hkp5 := blk_grown hkp2 g5 (by intro e; injection e with e; exact hbp e.symm)
    have k0 : w5.cell? ⟨p, 0, none⟩ = some (.int .i64 g.cols) := blk_cell hkp5 0
    have HO5 := Lib.hid o5
    have HK5 := Lib.hid hbk5
    have HP5 := Lib.hid hkp5
    have HG5 := Lib.hid g5
    clear o5 hbk5 g5 O2 c0 hbk2 hkp2 hkp5
    go_wp2_with fail
    refine (cut_any (cutL lx xn) ((xn : Int) + (N : Int)) b off g.cols vc w5 HO5.out (by rw [cutL_len]; exact hrc) hgc (by omega)).mono ?_
    rintro e w6 ⟨rfl, g6, o6⟩
    rw [show (xn : Int) + (N : Int) = ((xn + N : Nat) : Int) by omega] at o6
    have hbk6 := blk_grown HK5.out g6 (by intro e; injection e with e; omega)
    have hkp6 := blk_grown HP5.out g6 (by intro e; injection e with e; exact hbp e.symm)
    have HG6 := Lib.hid (gb_trans HG5.out g6)
    have HK6 := Lib.hid hbk6
    have HP6 := Lib.hid hkp6
    have HO6 := Lib.hid o6
    clear k0 g6 o6 hbk6 hkp6 HG5 HK5 HP5 HO5 hq
    have hlen2 : (cutL (cutL lx xn) ((xn + N : Nat) : Int)).length = g.cols := by rw [cutL_len, cutL_len]; exact hrc
    have hsl1 := slice_l (P := Tryz.prog) (size := 5) Tryz.underlying68 cell_info b off g.cols vc xn (by omega) (by omega)
    obtain ⟨sa, hsl2, hsa⟩ := slice_l' (P := Tryz.prog) (size := 5) Tryz.underlying68 cell_info b off g.cols vc (xn + N) (by omega) hnc
    rw [show ((xn + N : Nat) : Int) = (xn : Int) + (N : Int) by omega] at hsl2
    have hrd := reads_sub HO6.out (xn + N) g.cols (vc - (xn + N)) sa hsa (by omega) (Nat.le_refl _)
    rw [cvals_drop, cvals_take, List.take_of_length_le (by rw [List.length_drop, hlen2]; exact Nat.le_refl _)] at hrd
    have hcp := fun (wx : World) (ho : OwnC wx 0 5 (.slice (some ⟨b, off, none⟩) g.cols vc) g.cols (cvals (cutL (cutL lx xn) ((xn + N : Nat) : Int)))) (hr : Reads wx 5 (.slice (some sa) (g.cols - (xn + N)) (vc - (xn + N))) (g.cols - (xn + N)) (cvals ((cutL (cutL lx xn) ((xn + N : Nat) : Int)).drop (xn + N)))) => copy_own (P := Tryz.prog) Tryz.underlying68 cell_info ho xn (g.cols - xn) (vc - xn) ⟨b, off + xn * 5, none⟩ (fun _ => rfl) (by omega) hr (cvals_one _) 3
    have HRD := Lib.hid (show Reads w6.drew 5 (.slice (some sa) (g.cols - (xn + N)) (vc - (xn + N))) (g.cols - (xn + N)) (cvals ((cutL (cutL lx xn) ((xn + N : Nat) : Int)).drop (xn + N))) from hrd)
    have HO6d := Lib.hid (show OwnC w6.drew 0 5 (.slice (some ⟨b, off, none⟩) g.cols vc) g.cols (cvals (cutL (cutL lx xn) ((xn + N : Nat) : Int))) from HO6.out)
    have hcp6 := hcp w6.drew HO6d.out HRD.out
    rw [show Nat.min (g.cols - (xn + N)) (g.cols - xn) = g.cols - (xn + N) by show min _ _ = _; omega, cvals_take] at hcp6
    clear hcp hrd
    have hml : (((cutL (cutL lx xn) ((xn + N : Nat) : Int)).drop (xn + N)).take (g.cols - (xn + N))).length = g.cols - (xn + N) := by rw [List.length_take, List.length_drop, hlen2]; omega
    go_upto_region 6 with fail
    go_still_tail 8, (by kernel_rfl)
    change wpList _ _ _ _ _ w6.drew
    have hO7 := copy_owned HO6d.out xn (cvals (((cutL (cutL lx xn) ((xn + N : Nat) : Int)).drop (xn + N)).take (g.cols - (xn + N)))) (by rw [cvals_len, hml]; omega)
    rw [← cvals_put] at hO7
    have g7 := gb_setCells w6.drew b (off + xn * 5) (cvals (((cutL (cutL lx xn) ((xn + N : Nat) : Int)).drop (xn + N)).take (g.cols - (xn + N))))
    have HKF := Lib.hid (blk_grown (blk_drew HK6.out) g7 (by intro e; injection e with e; omega))
    have HPF := Lib.hid (blk_grown (blk_drew HP6.out) g7 (by intro e; injection e with e; exact hbp e.symm))
    have HGF := Lib.hid (gb_trans (gb_drew HG6.out) g7)
    have HOF := Lib.hid hO7
    clear hO7 g7 HK6 HP6 HG6 HO6 HO6d HRD
    generalize hw7 : w6.drew.setCells b (off + xn * 5) (cvals (((cutL (cutL lx xn) ((xn + N : Nat) : Int)).drop (xn + N)).take (g.cols - (xn + N)))) = w7 at *
    clear hw7
    have f0 : w7.cell? ⟨w.heap.size, 0, none⟩ = some (.int .i64 s.fg) := blk_cell HKF.out 0
    have f1 : w7.cell? ⟨w.heap.size, 1, none⟩ = some (.int .i64 s.bg) := blk_cell HKF.out 1
    have f2 : w7.cell? ⟨w.heap.size, 2, none⟩ = some (.int .i64 s.attr) := blk_cell HKF.out 2
    have j0 : w7.cell? ⟨p, 0, none⟩ = some (.int .i64 g.cols) := blk_cell HPF.out 0
    have hsl := slice_l (P := Tryz.prog) (size := 5) Tryz.underlying68 cell_info b off g.cols vc (g.cols - N) (by omega) (by omega)
    rw [show g.cols - (g.cols - N) = N by omega, show ((g.cols - N : Nat) : Int) = (g.cols : Int) - (N : Int) by omega] at hsl
    have HFI := Lib.hid (fun wx (ho : OwnC wx 0 5 (.slice (some ⟨b, off, none⟩) g.cols vc) g.cols (cvals (putAt (cutL (cutL lx xn) ((xn + N : Nat) : Int)) xn (((cutL (cutL lx xn) ((xn + N : Nat) : Int)).drop (xn + N)).take (g.cols - (xn + N)))))) => fill_any (putAt (cutL (cutL lx xn) ((xn + N : Nat) : Int)) xn (((cutL (cutL lx xn) ((xn + N : Nat) : Int)).drop (xn + N)).take (g.cols - (xn + N)))) s b off g.cols vc (g.cols - N) N (vc - (g.cols - N)) wx ho (by rw [putAt_len _ _ _ (by rw [hml, hlen2]; omega)]; exact hlen2) (by omega) (by unfold maxLen; omega))
    unfold Sty.val at HFI
    go_upto_region 7 with fail
    go_still_tail 9, (by kernel_rfl)
    change wpList _ _ _ _ _ w7.drew
    have HOD := Lib.hid (show OwnC w7.drew 0 5 (.slice (some ⟨b, off, none⟩) g.cols vc) g.cols (cvals (putAt (cutL (cutL lx xn) ((xn + N : Nat) : Int)) xn (((cutL (cutL lx xn) ((xn + N : Nat) : Int)).drop (xn + N)).take (g.cols - (xn + N))))) from HOF.out)
    have HGD := Lib.hid (gb_drew HGF.out)
    clear f0 f1 f2 j0 HOF HGF HKF HPF
    generalize w7.drew = wd at *
    go_wp2_with fail
    refine (HFI.out _ HOD.out).mono ?_
    rintro e w9 ⟨rfl, g9, o9⟩
    have HG9 := Lib.hid (gb_trans HGD.out g9)
    have HO9 := Lib.hid o9
    clear g9 o9
    go_wp2_with fail
    go_end0
    refine ⟨rfl, HWI.out _ HG9.out, ?_⟩
    rw [HE.out]
    refine HTN.out _ HG9.out ?_
    have := HO9.out
    rw [List.take_of_length_le (by rw [List.length_drop, hlen2]; exact Nat.le_refl _), show g.cols - N = lx.length - N by omega, del_eq lx xn N s (by omega)] at this
    exact this
end Go.Proofs.YtlfdgkiliegaiaaGreatDoor

/- An argument that is a slice of calls (Op), opened. -/
namespace Go.Proofs.YtlfdgkiliegaiaaGreatDoor
open Go.ChangeShapes Go.WideShapes Go.ChangeAt Go.RowKit Go.ChangeMaps

def I64 (x : Int) : Prop := -9223372036854775808 ≤ x ∧ x ≤ 9223372036854775807
theorem cellsOf_intO : Tryz.prog.cellsOf 3 = 1 := by kernel_rfl
theorem cellsOf_styO : Tryz.prog.cellsOf 35 = 3 := by kernel_rfl
theorem three' {α : Type} {l : List α} (h : l.length = 3) : ∃ c0 c1 c2, l = [c0, c1, c2] := by
  match l, h with
  | [c0, c1, c2], _ => exact ⟨c0, c1, c2, rfl⟩
theorem i64_wf {z : Int} (h : (Lit.int .i64 z).wf = true) : I64 z := by
  simp only [Lit.wf, Bool.and_eq_true, decide_eq_true_eq] at h
  exact h
theorem open_style {H : Type} {enc : TypeId × Value → H} {W : World} {fuel : Nat} {cs : List Value} {x : DataW H × List MemPlace}
    (h : DataW.trod enc Tryz.prog W 0 (fun _ => true) true fuel 35 cs = some x) : ∃ s : Sty, cs = s.vals ∧ I64 s.fg ∧ I64 s.bg ∧ I64 s.attr := by
  obtain ⟨xs, n, rfl, rfl, hl, hxl, hf⟩ := DataW.trod_struct Tryz.underlying35 h
  rw [cellsOf_styO] at hl
  obtain ⟨c0, c1, c2, rfl⟩ := three' hl
  obtain ⟨y0, y1, y2, rfl⟩ := three' hxl
  have h0 : DataW.trod enc Tryz.prog W 0 (fun _ => true) true n 3 (([c0, c1, c2].drop 0).take (Tryz.prog.cellsOf 3)) = some y0 := hf 0 _ rfl
  have h1 : DataW.trod enc Tryz.prog W 0 (fun _ => true) true n 3 (([c0, c1, c2].drop 1).take (Tryz.prog.cellsOf 3)) = some y1 := hf 1 _ rfl
  have h2 : DataW.trod enc Tryz.prog W 0 (fun _ => true) true n 3 (([c0, c1, c2].drop 2).take (Tryz.prog.cellsOf 3)) = some y2 := hf 2 _ rfl
  rw [cellsOf_intO] at h0 h1 h2
  simp only [List.drop_zero, List.drop_succ_cons, List.take_succ_cons, List.take_zero] at h0 h1 h2
  obtain ⟨z0, e0, _, w0⟩ := DataW.trod_int Tryz.underlying3 h0
  obtain ⟨z1, e1, _, w1⟩ := DataW.trod_int Tryz.underlying3 h1
  obtain ⟨z2, e2, _, w2⟩ := DataW.trod_int Tryz.underlying3 h2
  simp only [List.cons.injEq, and_true] at e0 e1 e2
  subst e0 e1 e2
  exact ⟨⟨z0, z1, z2⟩, rfl, i64_wf w0, i64_wf w1, i64_wf w2⟩
end Go.Proofs.YtlfdgkiliegaiaaGreatDoor

/- The law GridWhole: what its script keeps. -/
namespace Go.Proofs.YtlfdgkiliegaiaaGreatDoor
open Go.RowKit

def pickV (c : Int) (n : Nat) : Nat := ((if c < 0 then -(c + 1) else c).tmod (n : Int)).toNat
theorem pickV_lt (c : Int) (n : Nat) (hn : 0 < n) : pickV c n < n := by
  unfold pickV
  split
  · have hb : 0 ≤ (-(c + 1)).tmod (n : Int) ∧ (-(c + 1)).tmod (n : Int) < n := ⟨Int.tmod_nonneg _ (by omega), Int.tmod_lt_of_pos _ (by omega)⟩
    omega
  · have hb : 0 ≤ c.tmod (n : Int) ∧ c.tmod (n : Int) < n := ⟨Int.tmod_nonneg _ (by omega), Int.tmod_lt_of_pos _ (by omega)⟩
    omega
end Go.Proofs.YtlfdgkiliegaiaaGreatDoor

/- What the laws of chapter 6 call: pick, cells. -/
namespace Go.Proofs.YtlfdgkiliegaiaaGreatDoor
open Go.RowKit
attribute [local go_sem ↓] Go.wp_at_zero Go.wp_at_succ

theorem pick6_val (c : Int) (n : Nat) (w : World) (h : I64 c) (hn : 0 < n) (hn2 : n ≤ 1000000) :
    Calls Tryz.prog 28 #[.int .i64 c, .int .i64 n] w fun e w' => e = .returned (.int .i64 (pickV c n)) ∧ w' = w := by
  obtain ⟨h0, h1⟩ := h
  by_cases hc : c < 0
  · have d1 : decide (c < 0) = true := decide_eq_true hc
    have hw1 : IntKind.i64.wrap (c + 1) = c + 1 := wrap64_id _ (by omega) (by omega)
    have hw2 : IntKind.i64.wrap (-(c + 1)) = -(c + 1) := wrap64_id _ (by omega) (by omega)
    have hne : ((n : Int) == 0) = false := beq_eq_false_iff_ne.2 (by omega)
    have hne2 : ¬ ((n : Int) = 0) := by omega
    have hb : 0 ≤ (-(c + 1)).tmod (n : Int) ∧ (-(c + 1)).tmod (n : Int) < n := ⟨Int.tmod_nonneg _ (by omega), Int.tmod_lt_of_pos _ (by omega)⟩
    have hw3 : IntKind.i64.wrap ((-(c + 1)).tmod (n : Int)) = (-(c + 1)).tmod (n : Int) := wrap64_id _ (by omega) (by omega)
    have HV := Lib.hid (show pickV c n = ((-(c + 1)).tmod (n : Int)).toNat by unfold pickV; rw [if_pos hc])
    go_enter Tryz.func28, Tryz.ntmps28
    go_wp2_with fail
    refine ret1v (v := .int .i64 (((-(c + 1)).tmod (n : Int)).toNat : Int)) rfl rfl (by show Value.int _ _ = _; rw [Int.toNat_of_nonneg hb.1, Int.neg_tmod]) ⟨by rw [HV.out], rfl⟩
  · have d1 : decide (c < 0) = false := decide_eq_false hc
    have hne : ((n : Int) == 0) = false := beq_eq_false_iff_ne.2 (by omega)
    have hne2 : ¬ ((n : Int) = 0) := by omega
    have hb : 0 ≤ c.tmod (n : Int) ∧ c.tmod (n : Int) < n := ⟨Int.tmod_nonneg _ (by omega), Int.tmod_lt_of_pos _ (by omega)⟩
    have hw3 : IntKind.i64.wrap (c.tmod (n : Int)) = c.tmod (n : Int) := wrap64_id _ (by omega) (by omega)
    have HV := Lib.hid (show pickV c n = (c.tmod (n : Int)).toNat by unfold pickV; rw [if_neg hc])
    go_enter Tryz.func28, Tryz.ntmps28
    go_wp2_with fail
    refine ret1v (v := .int .i64 ((c.tmod (n : Int)).toNat : Int)) rfl rfl (by show Value.int _ _ = _; rw [Int.toNat_of_nonneg hb.1, Int.tmod_eq_emod_of_nonneg (by omega)]) ⟨by rw [HV.out], rfl⟩
end Go.Proofs.YtlfdgkiliegaiaaGreatDoor

/- Plain laws of package cell: the decoder against the document's reading of bytes. No program here. -/
namespace Go.Proofs.YtlfdgkiliegaiaaGreatDoor

/-- A decoder. -/
structure Dec where
  r : Int
  hav : Int
  more : Int
  lo : Int
  hi : Int

def beginD (d : Dec) (b : Int) : Dec × List Int :=
  if b < 128 then ({ d with lo := 128, hi := 191 }, [b])
  else if 194 ≤ b ∧ b ≤ 223 then (⟨b % 32, 1, 1, 128, 191⟩, [])
  else if 224 ≤ b ∧ b ≤ 239 then (⟨b % 16, 1, 2, if b = 224 then 160 else 128, if b = 237 then 159 else 191⟩, [])
  else if 240 ≤ b ∧ b ≤ 244 then (⟨b % 8, 1, 3, if b = 240 then 144 else 128, if b = 244 then 143 else 191⟩, [])
  else ({ d with lo := 128, hi := 191 }, [65533])
def feedD (d : Dec) (b : Int) : Dec × List Int :=
  if d.hav = 0 then beginD d b
  else if b < d.lo ∨ d.hi < b then ((beginD { d with hav := 0 } b).1, 65533 :: (beginD { d with hav := 0 } b).2)
  else if 1 < d.more then (⟨d.r * 64 + b % 64, d.hav + 1, d.more - 1, 128, 191⟩, [])
  else (⟨d.r * 64 + b % 64, 0, d.more - 1, 128, 191⟩, [d.r * 64 + b % 64])
def endD (d : Dec) : Dec × List Int := if d.hav = 0 then (d, []) else ({ d with hav := 0 }, [65533])
def dec0 : Dec := ⟨0, 0, 0, 0, 0⟩
def runD : Dec → List UInt8 → Dec × List Int
  | d, [] => (d, [])
  | d, b :: l => ((runD (feedD d b.toNat).1 l).1, (feedD d b.toNat).2 ++ (runD (feedD d b.toNat).1 l).2)
theorem runD_append : ∀ (l m : List UInt8) (d : Dec), runD d (l ++ m) = ((runD (runD d l).1 m).1, (runD d l).2 ++ (runD (runD d l).1 m).2)
  | [], m, d => by simp [runD]
  | b :: l, m, d => by simp [runD, runD_append l m]
theorem runD_snoc (l : List UInt8) (b : UInt8) (d : Dec) : runD d (l ++ [b]) = ((feedD (runD d l).1 b.toNat).1, (runD d l).2 ++ (feedD (runD d l).1 b.toNat).2) := by
  rw [runD_append]; simp [runD]
/-- cell.Runes. -/
def runes (l : List UInt8) : List Int := (runD dec0 l).2 ++ (endD (runD dec0 l).1).2

/-! The document's reading. -/
/-- Of a first byte: the bounds of the second one, and how many further ones; -1: it begins no sequence. -/
def rngs (b : Int) : Int × Int × Int :=
  if 194 ≤ b ∧ b ≤ 223 then (128, 191, 0)
  else if b = 224 then (160, 191, 1)
  else if b = 237 then (128, 159, 1)
  else if 225 ≤ b ∧ b ≤ 239 then (128, 191, 1)
  else if b = 240 then (144, 191, 2)
  else if 241 ≤ b ∧ b ≤ 243 then (128, 191, 2)
  else if b = 244 then (128, 143, 2)
  else (0, 0, -1)
/-- k bytes more, behind i bytes. -/
def goT : Nat → Int → Int → Int → List UInt8 → Nat → Int × Nat
  | 0, r, _, _, _, i => (r, i)
  | _ + 1, _, _, _, [], _ => (0, 0)
  | k + 1, r, lo, hi, b :: t, i => if (b.toNat : Int) < lo ∨ hi < (b.toNat : Int) then (65533, i) else goT k (r * 64 + (b.toNat : Int) % 64) 128 191 t (i + 1)
/-- The mask of a first byte. -/
def lead (b more : Int) : Int := if more = 2 then b % 8 else if more = 1 then b % 16 else b % 32
def takeT : List UInt8 → Int × Nat
  | [] => (0, 0)
  | b :: t =>
    if (b.toNat : Int) < 128 then (b.toNat, 1)
    else if (rngs b.toNat).2.2 < 0 then (65533, 1)
    else goT ((rngs b.toNat).2.2.toNat + 1) (lead b.toNat (rngs b.toNat).2.2) (rngs b.toNat).1 (rngs b.toNat).2.1 t 1
theorem takeT_cons (b : UInt8) (t : List UInt8) : takeT (b :: t) = if (b.toNat : Int) < 128 then ((b.toNat : Int), 1)
    else if (rngs b.toNat).2.2 < 0 then (65533, 1)
    else goT ((rngs b.toNat).2.2.toNat + 1) (lead b.toNat (rngs b.toNat).2.2) (rngs b.toNat).1 (rngs b.toNat).2.1 t 1 := rfl
/-- A pending decoder against the document's loop. -/
theorem goT_run : ∀ (k : Nat) (d : Dec) (t : List UInt8) (i : Nat), 0 < i → 1 ≤ d.hav → d.more = k + 1 →
    ((goT (k + 1) d.r d.lo d.hi t i).2 = 0 → (runD d t).2 = [] ∧ (runD d t).1.hav = d.hav + t.length) ∧
    ((goT (k + 1) d.r d.lo d.hi t i).2 ≠ 0 → ∃ d1 : Dec, d1.hav = 0 ∧ i ≤ (goT (k + 1) d.r d.lo d.hi t i).2 ∧
      runD d t = ((runD d1 (t.drop ((goT (k + 1) d.r d.lo d.hi t i).2 - i))).1, (goT (k + 1) d.r d.lo d.hi t i).1 :: (runD d1 (t.drop ((goT (k + 1) d.r d.lo d.hi t i).2 - i))).2))
  | k, d, [], i, hi, hh, hm => by simp [goT, runD]
  | k, d, b :: t, i, hi, hh, hm => by
    have h0 : ¬ d.hav = 0 := by omega
    by_cases hb : (b.toNat : Int) < d.lo ∨ d.hi < (b.toNat : Int)
    · have e : goT (k + 1) d.r d.lo d.hi (b :: t) i = (65533, i) := by unfold goT; rw [if_pos hb]
      rw [e]
      refine ⟨fun h => by simp at h; omega, fun _ => ⟨{ d with hav := 0 }, rfl, Nat.le_refl _, ?_⟩⟩
      have ef : feedD d b.toNat = ((feedD { d with hav := 0 } b.toNat).1, 65533 :: (feedD { d with hav := 0 } b.toNat).2) := by
        unfold feedD; rw [if_neg h0, if_pos hb]; simp
      simp [runD, ef]
    · have e : goT (k + 1) d.r d.lo d.hi (b :: t) i = goT k (d.r * 64 + (b.toNat : Int) % 64) 128 191 t (i + 1) := by rw [goT]; rw [if_neg hb]
      rw [e]
      cases k with
      | zero =>
        have ef : feedD d b.toNat = (⟨d.r * 64 + (b.toNat : Int) % 64, 0, d.more - 1, 128, 191⟩, [d.r * 64 + (b.toNat : Int) % 64]) := by
          unfold feedD; rw [if_neg h0, if_neg hb, if_neg (by omega)]
        simp only [goT]
        refine ⟨fun h => by omega, fun _ => ⟨⟨d.r * 64 + (b.toNat : Int) % 64, 0, d.more - 1, 128, 191⟩, rfl, by omega, ?_⟩⟩
        rw [show i + 1 - i = 1 from by omega]
        simp only [runD, ef]; rfl
      | succ k =>
        have ef : feedD d b.toNat = (⟨d.r * 64 + (b.toNat : Int) % 64, d.hav + 1, d.more - 1, 128, 191⟩, []) := by
          unfold feedD; rw [if_neg h0, if_neg hb, if_pos (by omega)]
        have ih := goT_run k ⟨d.r * 64 + (b.toNat : Int) % 64, d.hav + 1, d.more - 1, 128, 191⟩ t (i + 1) (by omega) (by simp only []; omega) (by simp only []; omega)
        dsimp only at ih
        have er : runD d (b :: t) = runD ⟨d.r * 64 + (b.toNat : Int) % 64, d.hav + 1, d.more - 1, 128, 191⟩ t := by simp [runD, ef]
        rw [er]
        refine ⟨fun h => ?_, fun h => ?_⟩
        · obtain ⟨a1, a2⟩ := ih.1 h
          exact ⟨a1, by rw [a2]; simp; omega⟩
        · obtain ⟨d1, a1, a2, a3⟩ := ih.2 h
          refine ⟨d1, a1, by omega, ?_⟩
          rw [a3]
          have : (goT (k + 1) (d.r * 64 + (b.toNat : Int) % 64) 128 191 t (i + 1)).2 - i = ((goT (k + 1) (d.r * 64 + (b.toNat : Int) % 64) 128 191 t (i + 1)).2 - (i + 1)) + 1 := by omega
          rw [this, List.drop_succ_cons]

theorem begin_rngs (d : Dec) (b : Int) (h1 : ¬ b < 128) (h2 : ¬ (rngs b).2.2 < 0) :
    beginD d b = (⟨lead b (rngs b).2.2, 1, (rngs b).2.2 + 1, (rngs b).1, (rngs b).2.1⟩, []) := by
  by_cases c1 : 194 ≤ b ∧ b ≤ 223
  · simp only [rngs, beginD, if_neg h1, if_pos c1]; rfl
  by_cases c2 : b = 224
  · subst c2; rfl
  by_cases c3 : b = 237
  · subst c3; rfl
  by_cases c4 : 225 ≤ b ∧ b ≤ 239
  · simp only [rngs, beginD, if_neg h1, if_neg c1, if_neg c2, if_neg c3, if_pos c4, if_pos (show 224 ≤ b ∧ b ≤ 239 by omega)]; rfl
  by_cases c5 : b = 240
  · subst c5; rfl
  by_cases c6 : 241 ≤ b ∧ b ≤ 243
  · simp only [rngs, beginD, if_neg h1, if_neg c1, if_neg c2, if_neg c3, if_neg c4, if_neg c5, if_pos c6, if_neg (show ¬ (224 ≤ b ∧ b ≤ 239) by omega), if_pos (show 240 ≤ b ∧ b ≤ 244 by omega), if_neg (show ¬ b = 244 by omega)]; rfl
  by_cases c7 : b = 244
  · subst c7; rfl
  · exfalso; apply h2
    simp only [rngs, if_neg c1, if_neg c2, if_neg c3, if_neg c4, if_neg c5, if_neg c6, if_neg c7]; decide
theorem rngs_no (b : Int) (h2 : (rngs b).2.2 < 0) : ¬ (194 ≤ b ∧ b ≤ 223) ∧ ¬ (224 ≤ b ∧ b ≤ 239) ∧ ¬ (240 ≤ b ∧ b ≤ 244) := by
  unfold rngs at h2
  repeat' split at h2
  all_goals first | (exact absurd h2 (by decide)) | omega

theorem takeT_run (d : Dec) (b : UInt8) (t : List UInt8) (hd : d.hav = 0) :
    ((takeT (b :: t)).2 = 0 → (runD d (b :: t)).2 = [] ∧ (runD d (b :: t)).1.hav = (b :: t).length) ∧
    ((takeT (b :: t)).2 ≠ 0 → ∃ d1 : Dec, d1.hav = 0 ∧ runD d (b :: t) = ((runD d1 ((b :: t).drop (takeT (b :: t)).2)).1, (takeT (b :: t)).1 :: (runD d1 ((b :: t).drop (takeT (b :: t)).2)).2)) := by
  have ef : feedD d b.toNat = beginD d b.toNat := by unfold feedD; rw [if_pos hd]
  have hlt := b.toNat_lt
  by_cases h1 : (b.toNat : Int) < 128
  · have et : takeT (b :: t) = ((b.toNat : Int), 1) := by rw [takeT_cons, if_pos h1]
    have eb : beginD d b.toNat = ({ d with lo := 128, hi := 191 }, [(b.toNat : Int)]) := by unfold beginD; rw [if_pos h1]
    rw [et]
    exact ⟨fun h => absurd h (Nat.succ_ne_zero 0), fun _ => ⟨{ d with lo := 128, hi := 191 }, hd, by simp only [runD, ef, eb]; rfl⟩⟩
  by_cases h2 : (rngs b.toNat).2.2 < 0
  · have et : takeT (b :: t) = (65533, 1) := by rw [takeT_cons, if_neg h1, if_pos h2]
    have eb : beginD d b.toNat = ({ d with lo := 128, hi := 191 }, [65533]) := by
      obtain ⟨n1, n2, n3⟩ := rngs_no _ h2
      unfold beginD; rw [if_neg h1, if_neg n1, if_neg n2, if_neg n3]
    rw [et]
    exact ⟨fun h => absurd h (Nat.succ_ne_zero 0), fun _ => ⟨{ d with lo := 128, hi := 191 }, hd, by simp only [runD, ef, eb]; rfl⟩⟩
  · have eb := begin_rngs d b.toNat h1 h2
    have et : takeT (b :: t) = goT ((rngs b.toNat).2.2.toNat + 1) (lead b.toNat (rngs b.toNat).2.2) (rngs b.toNat).1 (rngs b.toNat).2.1 t 1 := by
      rw [takeT_cons, if_neg h1, if_neg h2]
    have hr := goT_run (rngs b.toNat).2.2.toNat ⟨lead b.toNat (rngs b.toNat).2.2, 1, (rngs b.toNat).2.2 + 1, (rngs b.toNat).1, (rngs b.toNat).2.1⟩ t 1 (by omega) (by simp) (by simp only []; omega)
    dsimp only at hr
    rw [← et] at hr
    have er : runD d (b :: t) = runD ⟨lead b.toNat (rngs b.toNat).2.2, 1, (rngs b.toNat).2.2 + 1, (rngs b.toNat).1, (rngs b.toNat).2.1⟩ t := by simp [runD, ef, eb]
    rw [er]
    refine ⟨fun h => ?_, fun h => ?_⟩
    · obtain ⟨a1, a2⟩ := hr.1 h
      exact ⟨a1, by rw [a2]; simp; omega⟩
    · obtain ⟨d1, a1, a2, a3⟩ := hr.2 h
      refine ⟨d1, a1, ?_⟩
      rw [a3]
      have : (takeT (b :: t)).2 = ((takeT (b :: t)).2 - 1) + 1 := by omega
      rw [this, List.drop_succ_cons]; simp

/-- mullionref1.Whole. (The first number: fuel.) -/
def wholeF : Nat → List UInt8 → List Int × Nat
  | 0, _ => ([], 0)
  | _ + 1, [] => ([], 0)
  | n + 1, b :: t => if (takeT (b :: t)).2 = 0 then ([], (b :: t).length) else
      ((takeT (b :: t)).1 :: (wholeF n ((b :: t).drop (takeT (b :: t)).2)).1, (wholeF n ((b :: t).drop (takeT (b :: t)).2)).2)
theorem whole_run : ∀ (n : Nat) (l : List UInt8) (d : Dec), l.length ≤ n → d.hav = 0 → (runD d l).2 = (wholeF n l).1 ∧ (runD d l).1.hav = (wholeF n l).2
  | n, [], d, _, hd => by cases n <;> simp [runD, wholeF, hd]
  | 0, _ :: _, _, h, _ => by simp at h
  | n + 1, b :: t, d, h, hd => by
    obtain ⟨r1, r2⟩ := takeT_run d b t hd
    by_cases h0 : (takeT (b :: t)).2 = 0
    · obtain ⟨a1, a2⟩ := r1 h0
      rw [wholeF, if_pos h0]
      exact ⟨a1, a2⟩
    · obtain ⟨d1, a1, a2⟩ := r2 h0
      rw [wholeF, if_neg h0, a2]
      have ih := whole_run n ((b :: t).drop (takeT (b :: t)).2) d1 (by simp only [List.length_drop]; simp only [List.length_cons] at h ⊢; omega) a1
      dsimp only
      exact ⟨by rw [ih.1], ih.2⟩
def whole (l : List UInt8) : List Int × Nat := wholeF l.length l
theorem runs_whole (l : List UInt8) (d : Dec) (hd : d.hav = 0) : (runD d l).2 = (whole l).1 ∧ (runD d l).1.hav = (whole l).2 := whole_run _ l d (Nat.le_refl _) hd
/-- mullionref1.Runes. -/
def runesR (l : List UInt8) : List Int := (whole l).1 ++ if (whole l).2 = 0 then [] else [65533]
theorem runes_eq (l : List UInt8) : runes l = runesR l := by
  obtain ⟨h1, h2⟩ := runs_whole l dec0 rfl
  unfold runes runesR endD
  rw [h1, h2]
  congr 1
  by_cases h : (whole l).2 = 0
  · simp [h]
  · rw [if_neg (by omega), if_neg h]
end Go.Proofs.YtlfdgkiliegaiaaGreatDoor
