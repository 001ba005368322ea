/- Package grid, texts laid together: K34 K35 U3 K28 K8. -/
import Derived.Test.YtlfdgkiliegaiaaGreatDoorY13
import Derived.Test.YtlfdgkiliegaiaaGreatDoorY5
import Derived.Deep.DrawnRows
import Derived.Test.YtlfdgkiliegaiaaGreatDoorY3
import Derived.Test.YtlfdgkiliegaiaaGreatDoorY6
import Derived.Test.YtlfdgkiliegaiaaGreatDoorY12
import Derived.Test.YtlfdgkiliegaiaaGreatDoorY8
import Derived.Lib.FrozenHead2
import Derived.Test.YtlfdgkiliegaiaaGreatDoorY11
import Derived.Laws.ResultCell
import Derived.Lib.TrimU
/- Walks of package screen: Region, Style, Bells, Grid, Rows. -/
namespace Go.Proofs.YtlfdgkiliegaiaaGreatDoor
open Go.RowKit
set_option maxRecDepth 100000

section
variable {B : World} {C : Nat → Nat} {p c r : Nat} {w : World} {s : Scr} {ps : PSt}
theorem styleS_any (h : SR B C p w s ps) :
    Calls Tryz.prog 22 #[.pointer (some ⟨p, 0, none⟩)] w fun e w' => e = .returned s.now.pen.val ∧ Below w.heap.size w w' := by
  have c3 : w.cell? ⟨p, 3, none⟩ = some (.int .i64 s.now.pen.fg) := h.at_ 3 _
  have c4 : w.cell? ⟨p, 4, none⟩ = some (.int .i64 s.now.pen.bg) := h.at_ 4 _
  have c5 : w.cell? ⟨p, 5, none⟩ = some (.int .i64 s.now.pen.attr) := h.at_ 5 _
  have hc3 := fun o => (show (w.alloc o).cell? ⟨p, 3, none⟩ = some (.int .i64 s.now.pen.fg) from cell_below ((Below.refl w.heap.size w).alloc (Nat.le_refl _) o) c3)
  have hc4 := fun o => (show (w.alloc o).cell? ⟨p, 4, none⟩ = some (.int .i64 s.now.pen.bg) from cell_below ((Below.refl w.heap.size w).alloc (Nat.le_refl _) o) c4)
  have hc5 := fun o => (show (w.alloc o).cell? ⟨p, 5, none⟩ = some (.int .i64 s.now.pen.attr) from cell_below ((Below.refl w.heap.size w).alloc (Nat.le_refl _) o) c5)
  clear h
  unfold Sty.val
  go_enter Tryz.func22, Tryz.ntmps22
  go_wp2_with fail
  exact retRow rfl rfl rfl (blk_new _ _) Tryz.underlying35 rfl (by exact sty_info) ⟨rfl, (Below.refl w.heap.size w).alloc (Nat.le_refl _) _⟩
/-- The rows as texts. -/
def Scr.texts (s : Scr) : List (List UInt8) := (List.range s.main.rows.length).map fun y : Nat => textL (s.shown.row (y : Int)).cells
def strVals (l : List (List UInt8)) : List Value := l.map fun t => .string ⟨t.toArray⟩
theorem strVals_app (l m : List (List UInt8)) : strVals (l ++ m) = strVals l ++ strVals m := by unfold strVals; rw [List.map_append]
theorem strs_elem : Elem Tryz.prog 66 9 1 16 (.string ⟨#[]⟩) := ⟨Tryz.underlying66, by kernel_rfl, rfl, by decide⟩
theorem texts_take (s : Scr) (k : Nat) (hk : k < s.main.rows.length) : s.texts.take (k + 1) = s.texts.take k ++ [textL (s.shown.row (k : Int)).cells] := by
  unfold Scr.texts
  rw [← List.map_take, ← List.map_take, List.take_range, List.take_range, Nat.min_eq_left (by omega), Nat.min_eq_left (by omega), List.range_succ, List.map_append]
  rfl
theorem texts_len (s : Scr) : s.texts.length = s.main.rows.length := by unfold Scr.texts; rw [List.length_map, List.length_range]
set_option maxHeartbeats 2000000 in
theorem rowsTS_any (h : SR B C p w s ps) (hok : s.Ok c r) :
    Calls Tryz.prog 42 #[.pointer (some ⟨p, 0, none⟩)] w fun e w' => ∃ v, e = .returned v ∧ OwnC w' w.heap.size 1 v s.texts.length (strVals s.texts) ∧ Below w.heap.size w w' := by
  have hr2 := (h.nums hok).r2
  have H := Lib.hid h
  have HTL := Lib.hid (texts_len s)
  clear h hok
  go_enter Tryz.func42, Tryz.ntmps42
  go_wp2_with fail
  refine (rowsS_any H.out).mono ?_
  rintro e w2 ⟨rfl, hw2⟩
  subst hw2
  go_wp2_with fail
  go_loopw [3, 7] (fun vv iv wr => ∃ (k : Nat) (ov : Value), ov = vv ∧ k ≤ s.main.rows.length ∧ iv = .int .i64 k ∧ Hid (Below w2.heap.size w2 wr) ∧ Hid (OwnC wr w2.heap.size 1 ov (s.texts.take k).length (strVals (s.texts.take k)))) (fun _ iv _ => s.main.rows.length - (intOf iv).toNat)
  case atStart => exact ⟨0, _, rfl, Nat.zero_le _, rfl, Below.refl _ _, ownC_nil _ _ _⟩
  case round =>
    obtain ⟨k, ov, rfl, hk, rfl, HB, HO⟩ := hrel
    obtain ⟨wo, rfl⟩ : ∃ wo, wo = wr := ⟨wr, rfl⟩
    by_cases hlt : k < s.main.rows.length
    rotate_left
    · have d1 : decide ((k : Int) < (s.main.rows.length : Int)) = false := decide_eq_false (by omega)
      have d1' : decide (k < s.main.rows.length) = false := decide_eq_false hlt
      have ho := HO.out
      rw [List.take_of_length_le (by rw [HTL.out]; omega)] at ho
      have HO2 := Lib.hid ho
      clear ho
      go_wp2_with fail
      exact ret1v rfl rfl rfl ⟨_, rfl, HO2.out, HB.out⟩
    have d1 : decide ((k : Int) < (s.main.rows.length : Int)) = true := decide_eq_true (by omega)
    have d1' : decide (k < s.main.rows.length) = true := decide_eq_true hlt
    have hwk : IntKind.i64.wrap ((k : Int) + 1) = (k : Int) + 1 := wrap64_id _ (by omega) (by omega)
    obtain ⟨T, q, hg, hq, _⟩ := (H.out.below HB.out).grid
    have HTX := Lib.hid (text_any hg (k : Int))
    have HQ := Lib.hid hq
    have HTT := Lib.hid (texts_take s k hlt)
    have hll : (s.texts.take k).length ≤ 120 := by rw [List.length_take]; omega
    clear hg hq
    go_wp2_with fail
    refine (shownS_any HQ.out).mono ?_
    rintro e w4 ⟨rfl, hw4⟩
    subst hw4
    go_wp2_with fail
    refine HTX.out.mono ?_
    rintro e w5 ⟨rfl, b5⟩
    have hs5 := b5.size
    have hsb := HB.out.size
    have HB5 := Lib.hid (HB.out.trans (b5.mono HB.out.size))
    have HO5 := Lib.hid (ownC_below HO.out b5)
    clear b5
    generalize textL (s.shown.row (k : Int)).cells = tx at *
    generalize s.texts.take k = L at *
    go_wp2_with (at_builtin; refine held ?_)
    unfold Held
    refine wpList_appC strs_elem rfl rfl w2.heap.size (ownC_alloc HO5.out _) rfl (reads_one _ _ _) rfl (by intro u hu; rw [List.mem_singleton] at hu; subst hu; rfl) (by unfold maxLen; omega) (by omega) (by simp; omega) ?_
    intro v6 w6 o6 g6
    have lt5 := ownC_lt HO5.out
    have O6 := Lib.hid o6
    have HB6 := Lib.hid ((HB5.out.alloc HB5.out.size _).grown g6 (by simp; omega) (by intro q hq; exact (lt5 q hq).1))
    clear o6 g6 lt5
    go_wp2_with fail
    go_roundw
    case rel =>
      refine ⟨k + 1, _, rfl, by omega, by go_num, HB6.out, ?_⟩
      rw [HTT.out, List.length_append, strVals_app]
      exact O6.out
    case measure => simp [intOf]; omega
end
end Go.Proofs.YtlfdgkiliegaiaaGreatDoor

/- Walks of package screen: View. -/
namespace Go.Proofs.YtlfdgkiliegaiaaGreatDoor
open Go.RowKit
set_option maxRecDepth 100000

/-- A view's value: its rows in a slice. -/
def Scr.viewV (s : Scr) (rv : Value) : Value := .agg #[rv, .int .i64 s.now.x, .int .i64 s.now.y, .bool (s.has 8), .bool s.now.wait, .int .i64 s.modes, .string ⟨s.title.toArray⟩]
/-- Rows of cells in memory. -/
structure VRows (B : Nat) (w : World) (rv : Value) (L : List (Value × List Cel)) : Prop where
  row : OwnC w B 1 rv L.length (L.map (·.1))
  cel : ∀ x ∈ L, OwnC w B 5 x.1 x.2.length (cvals x.2)
def Scr.viewL (s : Scr) : List (List Cel) := (List.range s.main.rows.length).map fun y : Nat => (s.shown.row (y : Int)).cells
theorem viewL_take (s : Scr) (k : Nat) (hk : k < s.main.rows.length) : s.viewL.take (k + 1) = s.viewL.take k ++ [(s.shown.row (k : Int)).cells] := by
  unfold Scr.viewL
  rw [← List.map_take, ← List.map_take, List.take_range, List.take_range, Nat.min_eq_left (by omega), Nat.min_eq_left (by omega), List.range_succ, List.map_append]
  rfl
theorem viewL_len (s : Scr) : s.viewL.length = s.main.rows.length := by unfold Scr.viewL; rw [List.length_map, List.length_range]
theorem rowsC_elem : Elem Tryz.prog 43 68 1 24 (.slice none 0 0) := ⟨Tryz.underlying43, by kernel_rfl, rfl, by decide⟩
theorem view_info : (Tryz.prog.info? 47).map (·.size) = some 7 := by kernel_rfl
section
variable {B : World} {C : Nat → Nat} {p c r : Nat} {w : World} {s : Scr} {ps : PSt}
/-- A view being made: the result's block, its own block V, rows so far. -/
structure VAt (w0 : World) (V : Nat) (w : World) (s : Scr) (rv : Value) (L : List (Value × List Cel)) : Prop where
  bl : Below w0.heap.size w0 w
  ge : w0.heap.size < V
  blk : w.heap[V]? = some (.cells #[rv, .int .i64 s.now.x, .int .i64 s.now.y, .bool (s.has 8), .bool s.now.wait, .int .i64 s.modes, .string ⟨s.title.toArray⟩] 47 (0, 0))
  res : w.heap[w0.heap.size]? = some (.cells #[.slice none 0 0, .int .i64 0, .int .i64 0, .bool false, .bool false, .int .i64 0, .string ⟨#[]⟩] 47 (0, 0))
  row : OwnC w w0.heap.size 1 rv L.length (L.map (·.1))
  ne : ∀ k, rv.ownBlock = some k → k ≠ V ∧ k ≠ w0.heap.size
  cel : ∀ x ∈ L, OwnC w w0.heap.size 5 x.1 x.2.length (cvals x.2)
  nc : ∀ x ∈ L, ∀ k, x.1.ownBlock = some k → k ≠ V ∧ k ≠ w0.heap.size ∧ rv.ownBlock ≠ some k
theorem VAt.push {w0 w w5 w7 : World} {V : Nat} {s : Scr} {rv rv' lv : Value} {L : List (Value × List Cel)} {cl : List Cel} {ob : Obj} (h : VAt w0 V w s rv L) (hb : Below w.heap.size w w5) (hl : OwnC w5 w.heap.size 5 lv cl.length (cvals cl))
    (o7 : OwnC w7 w0.heap.size 1 rv' (L.length + 1) (L.map (·.1) ++ [lv])) (g7 : (w5.alloc ob).grownBy w7 rv.ownBlock) (n7 : ∀ k, rv'.ownBlock = some k → rv.ownBlock = some k ∨ (w5.alloc ob).heap.size ≤ k) :
    VAt w0 V (w7.setCell ⟨V, 0, none⟩ rv') s rv' (L ++ [(lv, cl)]) := by
  have hs5 : (w5.alloc ob).heap.size = w5.heap.size + 1 := by simp
  have hvl := heap_lt h.blk
  have hrl := heap_lt h.res
  have hw5 := hb.size
  have hsb := h.bl.size
  have hrv := ownC_lt h.row
  have hlv := ownC_lt hl
  have b6 : Below w.heap.size w (w5.alloc ob) := hb.alloc hb.size ob
  have hbv : w7.heap[V]? = _ := blk_grown (blk_below h.blk b6 hvl) g7 (fun e => (h.ne V e.symm).1 rfl)
  have hbr : w7.heap[w0.heap.size]? = _ := blk_grown (blk_below h.res b6 hrl) g7 (fun e => (h.ne _ e.symm).2 rfl)
  have gs : w7.grownBy (w7.setCell ⟨V, 0, none⟩ rv') (some V) := gb_set (gb_refl _ _) 0 rv'
  have hne' : ∀ k, rv'.ownBlock = some k → k ≠ V ∧ k ≠ w0.heap.size := fun k hk => by
    rcases n7 k hk with e | e
    · exact h.ne k e
    · omega
  refine ⟨?_, h.ge, ?_, blk_grown hbr gs (fun e => by injection e with e; have := h.ge; omega), ?_, hne', fun x hx => ?_, fun x hx k hk => ?_⟩
  · exact ((h.bl.trans (b6.mono h.bl.size)).grown g7 (by omega) (fun q hq => (hrv q hq).1)).grown gs (by have := g7.size; omega) (fun q hq => by injection hq with hq; have := h.ge; omega)
  · have := blk_set hbv 0 rv'
    simp only [List.setIfInBounds_toArray, List.set_cons_zero] at this
    exact this
  · have := ownC_grown o7 gs (fun k hk e => by injection e with e; exact (hne' k hk).1 e.symm)
    rw [List.length_append, List.map_append]
    exact this
  · rcases List.mem_append.1 hx with hx | hx
    · have hn := fun k hk => h.nc x hx k hk
      exact ownC_grown (ownC_grown (ownC_below (h.cel x hx) b6) g7 (fun k hk => (hn k hk).2.2)) gs (fun k hk e => by injection e with e; exact (hn k hk).1 e.symm)
    · rw [List.mem_singleton] at hx
      subst hx
      exact ownC_mono (ownC_grown (ownC_grown (ownC_alloc hl ob) g7 (fun k hk e => by have := hlv k hk; have := hrv k e; omega)) gs (fun k hk e => by injection e with e; have := hlv k hk; omega)) hsb
  · rcases List.mem_append.1 hx with hx | hx
    · have hn := h.nc x hx k hk
      have hk2 := (ownC_lt (h.cel x hx) k hk).2
      refine ⟨hn.1, hn.2.1, fun e => ?_⟩
      rcases n7 k e with e | e
      · exact hn.2.2 e
      · omega
    · rw [List.mem_singleton] at hx
      subst hx
      have hk2 := hlv k hk
      refine ⟨by omega, by omega, fun e => ?_⟩
      rcases n7 k e with e | e
      · have := hrv k e; omega
      · omega
set_option maxHeartbeats 8000000 in
theorem viewS_any (h : SR B C p w s ps) (hok : s.Ok c r) :
    Calls Tryz.prog 23 #[.pointer (some ⟨p, 0, none⟩)] w fun e w' => ∃ rv L, e = .returned (s.viewV rv) ∧ L.map (·.2) = s.viewL ∧ VRows w.heap.size w' rv L ∧ Below w.heap.size w w' := by
  have hr2 := (h.nums hok).r2
  have HVL := Lib.hid (viewL_len s)
  have b1 := (Below.refl w.heap.size w).alloc (Nat.le_refl _) (.cells #[.slice none 0 0, .int .i64 0, .int .i64 0, .bool false, .bool false, .int .i64 0, .string ⟨#[]⟩] 47)
  have HBK := Lib.hid (blk_new w (.cells #[.slice none 0 0, .int .i64 0, .int .i64 0, .bool false, .bool false, .int .i64 0, .string ⟨#[]⟩] 47))
  have H := Lib.hid (h.below b1)
  have HW := Lib.hid h
  have HB1 := Lib.hid b1
  clear h hok b1
  go_enter Tryz.func23, Tryz.ntmps23
  go_upto_region 1 with fail
  generalize (w.alloc (.cells #[.slice none 0 0, .int .i64 0, .int .i64 0, .bool false, .bool false, .int .i64 0, .string ⟨#[]⟩] 47)) = wa at *
  have c0 : wa.cell? ⟨p, 0, none⟩ = some (.int .i64 s.now.x) := H.out.at_ 0 _
  have c1 : wa.cell? ⟨p, 1, none⟩ = some (.int .i64 s.now.y) := H.out.at_ 1 _
  have c2 : wa.cell? ⟨p, 2, none⟩ = some (.bool s.now.wait) := H.out.at_ 2 _
  have c32 : wa.cell? ⟨p, 32, none⟩ = some (.int .i64 s.modes) := H.out.at_ 32 _
  have c36 : wa.cell? ⟨p, 36, none⟩ = some (.string ⟨s.title.toArray⟩) := H.out.at_ 36 _
  have HA := fun o => ((Below.refl wa.heap.size wa).alloc (Nat.le_refl _) o).drew
  go_cut [3] (fun v wz => v = .pointer (some ⟨wa.heap.size, 0, none⟩) ∧ wz = (wa.alloc (.cells #[.slice none 0 0, .int .i64 s.now.x, .int .i64 s.now.y, .bool (s.has 8), .bool s.now.wait, .int .i64 s.modes, .string ⟨s.title.toArray⟩] 47)).drew)
  case first =>
    go_region_held3 (fun w' => w'.cell? ⟨p, 0, none⟩ = some (.int .i64 s.now.x) ∧ w'.cell? ⟨p, 1, none⟩ = some (.int .i64 s.now.y) ∧ w'.cell? ⟨p, 2, none⟩ = some (.bool s.now.wait) ∧ w'.cell? ⟨p, 32, none⟩ = some (.int .i64 s.modes) ∧ w'.cell? ⟨p, 36, none⟩ = some (.string ⟨s.title.toArray⟩)) (first | exact ⟨c0, c1, c2, c32, c36⟩ | exact ⟨cell_below (HA _) c0, cell_below (HA _) c1, cell_below (HA _) c2, cell_below (HA _) c32, cell_below (HA _) c36⟩)
      (first
        | (go_at_call 67; (first | refine (hasS_any (H.out.below (Below.refl _ _).drew) 8).mono ?_ | refine (hasS_any (H.out.below (HA _)) 8).mono ?_); rintro e w4 ⟨rfl, rfl⟩))
    all_goals
      go_wp2_with fail
      go_meet
      try exact ⟨rfl, rfl⟩
  case rest =>
  obtain ⟨rfl, HWC⟩ := hcut
  have hb2 := (HA (.cells #[.slice none 0 0, .int .i64 s.now.x, .int .i64 s.now.y, .bool (s.has 8), .bool s.now.wait, .int .i64 s.modes, .string ⟨s.title.toArray⟩] 47))
  have hv2 := blk_drew (blk_new wa (.cells #[.slice none 0 0, .int .i64 s.now.x, .int .i64 s.now.y, .bool (s.has 8), .bool s.now.wait, .int .i64 s.modes, .string ⟨s.title.toArray⟩] 47))
  rw [← HWC] at hb2 hv2
  have HVB := Lib.hid hv2
  have H2 := Lib.hid (H.out.below hb2)
  have HBB := Lib.hid (HB1.out.trans (hb2.mono HB1.out.size))
  have hwz : wa.heap.size < wc.heap.size := heap_lt hv2
  have hws := HB1.out.size
  obtain ⟨V, hV⟩ : ∃ V, V = wa.heap.size := ⟨_, rfl⟩
  rw [← hV] at hwz HVB hws
  rw [← hV]
  have HA0 := Lib.hid (show w.heap.size < V by rw [hV]; exact heap_lt HBK.out)
  have HRS := Lib.hid (blk_below HBK.out hb2 (heap_lt HBK.out))
  clear HA c0 c1 c2 c32 c36 hb2 hv2 HWC hV HBK H
  obtain ⟨w2, rfl⟩ : ∃ z, z = wc := ⟨wc, rfl⟩
  go_wp2_with fail
  refine (rowsS_any H2.out).mono ?_
  rintro e w3 ⟨rfl, hw3⟩
  subst hw3
  go_wp2_with fail
  have HV0 := Lib.hid (show VAt w V w3 s (.slice none 0 0) [] from ⟨HBB.out, HA0.out, HVB.out, HRS.out, ownC_nil _ _ _, fun k hk => by simp [Value.ownBlock] at hk, fun x hx => (by cases hx), fun x hx => (by cases hx)⟩)
  clear HBB HVB HRS
  go_loopw [34] (fun iv wr => ∃ (k : Nat) (rv : Value) (L : List (Value × List Cel)), k ≤ s.main.rows.length ∧ iv = .int .i64 k ∧ Hid (VAt w V wr s rv L) ∧ Hid (L.map (·.2) = s.viewL.take k) ∧ Hid (Below w3.heap.size w3 wr ∨ True)) (fun iv _ => s.main.rows.length - (intOf iv).toNat)
  case atStart => exact ⟨0, _, [], Nat.zero_le _, rfl, HV0, rfl, .inr trivial⟩
  case round =>
    obtain ⟨k, rv, L, hk, rfl, HV, HL, _⟩ := hrel
    obtain ⟨wo, rfl⟩ : ∃ wo, wo = wr := ⟨wr, rfl⟩
    by_cases hlt : k < s.main.rows.length
    rotate_left
    · have d1 : decide ((k : Int) < (s.main.rows.length : Int)) = false := decide_eq_false (by omega)
      have d1' : decide (k < s.main.rows.length) = false := decide_eq_false hlt
      have hst := run_storeVar_row (P := Tryz.prog) wo w.heap.size 47 47 _ #[rv, .int .i64 s.now.x, .int .i64 s.now.y, .bool (s.has 8), .bool s.now.wait, .int .i64 s.modes, .string ⟨s.title.toArray⟩] HV.out.res (by kernel_rfl) rfl (by obtain ⟨x0, m0, c0, rfl⟩ := ownC_form HV.out.row; simp [Value.oneCell'])
      have hr7 := setRow_blk (cells := #[rv, .int .i64 s.now.x, .int .i64 s.now.y, .bool (s.has 8), .bool s.now.wait, .int .i64 s.modes, .string ⟨s.title.toArray⟩]) HV.out.res
      have HG7 := Lib.hid (gb_setRow wo w.heap.size #[rv, .int .i64 s.now.x, .int .i64 s.now.y, .bool (s.has 8), .bool s.now.wait, .int .i64 s.modes, .string ⟨s.title.toArray⟩])
      have HB7 := Lib.hid (below_row HV.out.bl (g := w.heap.size) (Nat.le_refl _) #[rv, .int .i64 s.now.x, .int .i64 s.now.y, .bool (s.has 8), .bool s.now.wait, .int .i64 s.modes, .string ⟨s.title.toArray⟩])
      have k0 : wo.cell? ⟨V, 0, none⟩ = some rv := blk_cell HV.out.blk 0
      have k1 : wo.cell? ⟨V, 1, none⟩ = some (.int .i64 s.now.x) := blk_cell HV.out.blk 1
      have k2 : wo.cell? ⟨V, 2, none⟩ = some (.int .i64 s.now.y) := blk_cell HV.out.blk 2
      have k3 : wo.cell? ⟨V, 3, none⟩ = some (.bool (s.has 8)) := blk_cell HV.out.blk 3
      have k4 : wo.cell? ⟨V, 4, none⟩ = some (.bool s.now.wait) := blk_cell HV.out.blk 4
      have k5 : wo.cell? ⟨V, 5, none⟩ = some (.int .i64 s.modes) := blk_cell HV.out.blk 5
      have k6 : wo.cell? ⟨V, 6, none⟩ = some (.string ⟨s.title.toArray⟩) := blk_cell HV.out.blk 6
      have HVR := Lib.hid (show VRows w.heap.size (wo.setRow w.heap.size #[rv, .int .i64 s.now.x, .int .i64 s.now.y, .bool (s.has 8), .bool s.now.wait, .int .i64 s.modes, .string ⟨s.title.toArray⟩]) rv L from
        ⟨ownC_grown HV.out.row HG7.out (fun k hk e => by injection e with e; exact (HV.out.ne k hk).2 e.symm), fun x hx => ownC_grown (HV.out.cel x hx) HG7.out (fun k hk e => by injection e with e; exact (HV.out.nc x hx k hk).2.1 e.symm)⟩)
      have hl := HL.out
      rw [List.take_of_length_le (by rw [HVL.out]; omega)] at hl
      have HL2 := Lib.hid hl
      obtain ⟨ra, rn, rc, rfl⟩ := ownC_form HV.out.row
      clear hl HG7
      generalize wo.setRow w.heap.size #[.slice ra rn rc, .int .i64 s.now.x, .int .i64 s.now.y, .bool (s.has 8), .bool s.now.wait, .int .i64 s.modes, .string ⟨s.title.toArray⟩] = w8 at *
      go_wp2_with (refine wpList_storeR rfl _ _ _ rfl hst rfl rfl ?_)
      (try simp only [Exit.inBlock, Exit.then])
      exact retRow rfl rfl rfl hr7 Tryz.underlying47 rfl (by exact view_info) ⟨_, L, rfl, HL2.out, HVR.out, HB7.out⟩
    have d1 : decide ((k : Int) < (s.main.rows.length : Int)) = true := decide_eq_true (by omega)
    have d1' : decide (k < s.main.rows.length) = true := decide_eq_true hlt
    have hwk : IntKind.i64.wrap ((k : Int) + 1) = (k : Int) + 1 := wrap64_id _ (by omega) (by omega)
    have HS := Lib.hid (HW.out.below HV.out.bl)
    obtain ⟨T, q, hg, hq, _⟩ := HS.out.grid
    have HQ := Lib.hid hq
    have hbd := (Below.refl wo.heap.size wo).drew
    have HLN := Lib.hid (line_any (hg.below hbd) (k : Int) (by have := (wf_row hg.wf (k : Int)).1; omega))
    have HLT := Lib.hid (viewL_take s k hlt)
    have hll : L.length = k := by
      have e := congrArg List.length HL.out
      rw [List.length_map, List.length_take, HVL.out] at e
      omega
    have v0 : wo.cell? ⟨V, 0, none⟩ = some rv := blk_cell HV.out.blk 0
    have f0 : wo.frozen? ⟨V, 0, none⟩ = false := blk_free HV.out.blk 0
    have HVL2 := Lib.hid (heap_lt HV.out.blk)
    obtain ⟨ra, rn, rc, rfl⟩ := ownC_form HV.out.row
    have HVR := Lib.hid HV.out.row
    clear hg hq hbd
    generalize (s.shown.row (k : Int)).cells = cl at *
    go_upto_region 5 with fail
    refine wpL_begin (c := 9) (S := (fun bb w' => True ∧ (bb = false → w'.cell? ⟨V, 0, none⟩ = some (.slice ra rn rc)))) (by kernel_rfl) (⟨trivial, fun _ => v0⟩) (fun _ => ?_)
    refine wpL_tk false 0 (⟨trivial, fun _ => v0⟩) ?_
    refine wpL_td 1 (⟨trivial, fun _ => v0⟩) ?_
    refine wpL_tk false 2 (⟨trivial, fun _ => v0⟩) ?_
    refine wpL_tk false 4 (⟨trivial, fun _ => v0⟩) ?_
    refine wpL_on false 3 fun K hK => ?_
    refine wanted_on rfl ?_
    go_wp2_with fail
    refine (shownS_any (w := wo.drew) HQ.out).mono ?_
    rintro e w4 ⟨rfl, rfl⟩
    refine hK.out _ _ (⟨trivial, fun _ => v0⟩) (fun _ => ?_)
    clear hK K 
    try simp only [Act.put, List.setIfInBounds_toArray, List.set_cons_zero, List.set_cons_succ]
    refine wpL_on false 5 fun K hK => ?_
    refine wanted_on rfl ?_
    go_wp2_with fail
    refine HLN.out.mono ?_
    rintro e w5 ⟨lv, rfl, b5, o5⟩
    obtain ⟨la, lm, lc, rfl⟩ := ownC_form o5
    have v5 : w5.cell? ⟨V, 0, none⟩ = some (.slice ra rn rc) := cell_below b5 v0
    have HB5 := Lib.hid (show Below wo.heap.size wo w5 from (Below.refl wo.heap.size wo).drew.trans b5)
    have HO5 := Lib.hid (show OwnC w5 wo.heap.size 5 (.slice la lm lc) cl.length (cvals cl) from o5)
    refine hK.out _ _ (⟨trivial, fun _ => v5⟩) (fun _ => ?_)
    clear hK K b5 o5
    try simp only [Act.put, List.setIfInBounds_toArray, List.set_cons_zero, List.set_cons_succ]
    refine wpL_on false 6 fun K hK => ?_
    refine wanted_on rfl ?_
    go_wp2_with fail
    refine hK.out _ _ (⟨trivial, fun _ => cell_below (Below.alloc (Below.refl w5.heap.size w5) (Nat.le_refl _) _) v5⟩) (fun _ => ?_)
    clear hK K 
    try simp only [Act.put, List.setIfInBounds_toArray, List.set_cons_zero, List.set_cons_succ]
    refine wpL_on false 7 fun K hK => ?_
    apply step_appS rowsC_elem
    case hgd => rfl
    case ho => rfl
    case hown => exact ownC_alloc (ownC_below HVR.out HB5.out) _
    case hs => rfl
    case hr => exact src_reads Tryz.underlying43 (reads_one _ _ _) (by intro u hu; rw [List.mem_singleton] at hu; subst hu; rfl)
    case hx => rfl
    case h63 => unfold maxLen; omega
    case hbytes => omega
    case hbase => (have := HB5.out.size; have := HV.out.bl.size; simp; omega)
    intro v7 w7 o7 g7 n7
    obtain ⟨a7, m7, c7, rfl⟩ := ownC_form o7
    have hb7 : w7.heap[V]? = _ := blk_grown (blk_below HV.out.blk (HB5.out.alloc HB5.out.size _) HVL2.out) g7 (fun e => (HV.out.ne V e.symm).1 rfl)
    have v7 : w7.cell? ⟨V, 0, none⟩ = some (.slice ra rn rc) := blk_cell hb7 0
    have f7 : w7.frozen? ⟨V, 0, none⟩ = false := blk_free hb7 0
    have HO7 := Lib.hid o7
    have HG7 := Lib.hid g7
    have HN7 := Lib.hid n7
    refine hK.out _ _ (⟨trivial, fun _ => v7⟩) (fun _ => ?_)
    clear hK K o7 g7 n7 hb7
    try simp only [Act.put, List.setIfInBounds_toArray, List.set_cons_zero, List.set_cons_succ]
    refine wpL_tk false 8 (⟨trivial, fun _ => v7⟩) ?_
    refine wpL_on true 9 fun K hK => ?_
    refine wanted_on rfl ?_
    go_wp2_with fail
    refine hK.out _ _ (⟨trivial, fun e => by cases e⟩) (fun _ => ?_)
    clear hK K 
    try simp only [Act.put]
    refine wpL_done (by kernel_rfl) ?_ _
    go_wp2_with fail
    go_roundw
    case rel =>
      refine ⟨k + 1, _, L ++ [(.slice la lm lc, cl)], by omega, by go_num, HV.out.push HB5.out HO5.out HO7.out HG7.out HN7.out, ?_, .inr trivial⟩
      show _ = _
      rw [HLT.out, List.map_append, HL.out]
      rfl
    case measure => simp [intOf]; omega
end
end Go.Proofs.YtlfdgkiliegaiaaGreatDoor

/- What the laws of chapter 6 call: made, views. -/
namespace Go.Proofs.YtlfdgkiliegaiaaGreatDoor
open Go.RowKit
set_option maxRecDepth 100000
attribute [local go_sem ↓] Go.wp_at_zero Go.wp_at_succ

theorem eq_cur_in (a b c e : Int) (f g h i : Bool) (d : Nat) (w : World) : (Op.equalIn (d + 2) 45 (.agg #[.int .i64 a, .int .i64 b, .bool f, .bool g]) (.agg #[.int .i64 c, .int .i64 e, .bool h, .bool i])).run Tryz.prog w = .ok (a == c && (b == e && (f == h && g == i))) w := by
  have hS : Tryz.prog.underlying 45 = some (.struct (Tryz.prog.fieldsOf 45)) := by kernel_rfl
  have hp : Tryz.prog.stoodInHeld 45 = false := by kernel_rfl
  rw [run_equalIn_agg w (d + 1) 45 _ _ hS hp]
  simp only [Program.fieldsOf, Tryz.underlying45]
  go_simp
  by_cases h1 : a = c <;> by_cases h2 : b = e <;> by_cases h3 : f = h <;> by_cases h4 : g = i <;> simp [h1, h2, h3, h4]
theorem eql_cur (a b c e : Int) (f g h i : Bool) (w : World) : (binOp .eql 45 (.agg #[.int .i64 a, .int .i64 b, .bool f, .bool g]) (.agg #[.int .i64 c, .int .i64 e, .bool h, .bool i])).run Tryz.prog w = .ok (.bool (a == c && (b == e && (f == h && g == i)))) w := by
  have := eq_cur_in a b c e f g h i 9998 w
  rw [run_eql_struct, show (10000 : Nat) = 9998 + 2 from rfl, this]; rfl
theorem guard_cur (op : BinOp) (x y : Operand) (u v : Array Value) (w : World) : (eqGuard op 45 x y (.agg u) (.agg v)).run Tryz.prog w = .ok () w := run_eqGuard_agg w op 45 x y _ _ (by kernel_rfl)
theorem made6_any (cols rows hist : Int) (w : World) (h1 : I64 cols) (h2 : I64 rows) (h3 : I64 hist) (ht : Tabs w) :
    Calls Tryz.prog 17 #[.int .i64 cols, .int .i64 rows, .int .i64 hist] w fun e w' => ∃ p C, e = .returned (.pointer (some ⟨p, 0, none⟩)) ∧ SR w C p w' (newS (1 + pickV cols 40) (1 + pickV rows 15) (pickV hist 40)) s0 := by
  have l1 := pickV_lt cols 40 (by decide)
  have l2 := pickV_lt rows 15 (by decide)
  have l3 := pickV_lt hist 40 (by decide)
  have P1 := Lib.hid (fun w => pick6_val cols 40 w h1 (by decide) (by decide))
  have P2 := Lib.hid (fun w => pick6_val rows 15 w h2 (by decide) (by decide))
  have P3 := Lib.hid (fun w => pick6_val hist 40 w h3 (by decide) (by decide))
  have HT := Lib.hid ht
  generalize pickV cols 40 = a at *
  generalize pickV rows 15 = b at *
  generalize pickV hist 40 = d at *
  obtain ⟨m, hm⟩ : ∃ m : Nat, m = 1 + a := ⟨_, rfl⟩
  obtain ⟨n, hn⟩ : ∃ n : Nat, n = 1 + b := ⟨_, rfl⟩
  have e1 : IntKind.i64.wrap (1 + (a : Int)) = (m : Int) := by rw [wrap64_id _ (by omega) (by omega)]; omega
  have e2 : IntKind.i64.wrap (1 + (b : Int)) = (n : Int) := by rw [wrap64_id _ (by omega) (by omega)]; omega
  have HNW := Lib.hid (newScr_any m n d w (by omega) (by omega) (by omega) (by omega) (by omega) HT.out)
  rw [← hm, ← hn]
  clear hm hn h1 h2 h3 ht l1 l2 l3
  go_enter Tryz.func17, Tryz.ntmps17
  go_wp2_with fail
  refine (P1.out _).mono ?_
  rintro e w2 ⟨rfl, hw⟩
  subst hw
  go_wp2_with fail
  refine (P2.out _).mono ?_
  rintro e w3 ⟨rfl, hw⟩
  subst hw
  go_wp2_with fail
  refine (P3.out _).mono ?_
  rintro e w4 ⟨rfl, hw⟩
  subst hw
  go_wp2_with fail
  refine HNW.out.mono ?_
  rintro e w5 ⟨p, C, rfl, h5⟩
  have H5 := Lib.hid h5
  clear h5
  go_wp2_with fail
  go_ret
  exact ⟨p, C, rfl, H5.out⟩
end Go.Proofs.YtlfdgkiliegaiaaGreatDoor

/- strings.Builder: WriteByte, WriteString. -/
namespace Go.Proofs.YtlfdgkiliegaiaaGreatDoor
open Go.RowKit

set_option maxHeartbeats 2000000 in
set_option maxRecDepth 100000 in
theorem writeByte_any (B b : Nat) (bs : List Value) (c : Int) (w : World) (h : Lib.IsBuilderF 118 5 B b bs w) (hlen : bs.length + 1 ≤ 1000000000) (hBw : B ≤ w.heap.size) :
    Calls Tryz.prog 63 #[.pointer (some ⟨b, 0, none⟩), .int .u8 c] w fun e w' => e = .returned .nilIface ∧ Lib.IsBuilderF 118 5 B b (bs ++ [.int .u8 c]) w' ∧ Below B w w' := by
  obtain ⟨i0, hi, hz0, hz1, hz2⟩ := info_parts (bytes_elem).info
  have HC := Lib.hid (check_any B b bs w h)
  clear h
  go_enter Tryz.func63, Tryz.ntmps63
  go_wp2_with fail
  refine HC.out.mono ?_
  rintro e w1 ⟨rfl, h1, hb1⟩
  obtain ⟨hB, v, hbk, hown, hne⟩ := h1
  have c0 : w1.cell? ⟨b, 0, none⟩ = some (.pointer (some ⟨b, 0, none⟩)) := blk_cell hbk 0
  have c1 : w1.cell? ⟨b, 1, none⟩ = some v := blk_cell hbk 1
  have HI := Lib.hid hi
  have HZ := Lib.hid hz0
  have HZ1 := Lib.hid hz1
  have HZ2 := Lib.hid hz2
  clear hi hz0 hz1 hz2
  go_wp2_with (at_builtin; refine held ?_)
  unfold Held
  refine wpList_append_ownF _ rfl _ _ 38 rfl B 5 i0 (.int .u8 0) 1 1 Tryz.underlying38 HI.out HZ.out HZ1.out HZ2.out rfl (by decide) v bs.length bs rfl (hown.alloc _) ⟨w1.heap.size, 0, none⟩ 1 1 [.int .u8 c] rfl rfl ?c1 ?c2 ?c3 ?c4 ?c5 ?_
  case c1 =>
    intro j u hj
    match j, hj with
    | 0, hj => simp at hj; subst hj; simp [Addr.add]
  case c2 => intro u hu; simp at hu; subst hu; rfl
  case c3 => unfold maxLen; omega
  case c4 => omega
  case c5 => have := hb1.size; simp; omega
  intro v' w2 hown' hgrow _
  have hlt : b < w1.heap.size := heap_lt hbk
  have hb2 : w2.heap[b]? = some (.cells #[.pointer (some ⟨b, 0, none⟩), v] 118 (0, 0)) := by
    rw [hgrow.block b (by simp; omega) (fun e => hne e.symm), heap_alloc_old w1 _ hlt]
    exact hbk
  have d0 : w2.cell? ⟨b, 0, none⟩ = some (.pointer (some ⟨b, 0, none⟩)) := blk_cell hb2 0
  have d1 : w2.cell? ⟨b, 1, none⟩ = some v := blk_cell hb2 1
  have f1 : w2.frozen? ⟨b, 1, none⟩ = false := blk_free hb2 1
  obtain ⟨g, cap, rfl⟩ : ∃ g cap, v' = .slice (some ⟨g, 0, none⟩) (bs.length + 1) cap := by
    rcases hown'.2 with ⟨_, h0⟩ | ⟨g, cap, cur, fz, hv, _⟩
    · omega
    · exact ⟨g, cap, hv⟩
  have HP := Lib.hid (Lib.BuilderAtF.put (T := 118) (e := 5) hB hb2 (bs' := bs ++ [.int .u8 c]) (by simpa using hown') (by decide))
  have HBB := Lib.hid (((hb1.alloc (by have := hb1.size; omega) _).grown hgrow (by have := hb1.size; simp; omega) (fun k hk => (hown.lt k hk).1)).setCell (p := ⟨b, 1, none⟩) hB (.slice (some ⟨g, 0, none⟩) (bs.length + 1) cap))
  clear hown hown' hgrow hb1 hbk hb2 HC
  go_wp2_with fail
  exact ret1v rfl rfl rfl ⟨rfl, .inr HP.out, HBB.out⟩
set_option maxHeartbeats 2000000 in
set_option maxRecDepth 100000 in
theorem writeString_any (B b : Nat) (bs : List Value) (s : ByteArray) (w : World) (h : Lib.IsBuilderF 118 5 B b bs w) (hlen : bs.length + s.size ≤ 1000000000) (hBw : B ≤ w.heap.size) :
    Calls Tryz.prog 64 #[.pointer (some ⟨b, 0, none⟩), .string s] w fun e w' => e = .returned (.tuple #[.int .i64 s.size, .nilIface]) ∧ Lib.IsBuilderF 118 5 B b (bs ++ Lib.strCells s) w' ∧ Below B w w' := by
  obtain ⟨i0, hi, hz0, hz1, hz2⟩ := info_parts (bytes_elem).info
  have HC := Lib.hid (check_any B b bs w h)
  clear h
  go_enter Tryz.func64, Tryz.ntmps64
  go_wp2_with fail
  refine HC.out.mono ?_
  rintro e w1 ⟨rfl, h1, hb1⟩
  obtain ⟨hB, v, hbk, hown, hne⟩ := h1
  have c0 : w1.cell? ⟨b, 0, none⟩ = some (.pointer (some ⟨b, 0, none⟩)) := blk_cell hbk 0
  have c1 : w1.cell? ⟨b, 1, none⟩ = some v := blk_cell hbk 1
  have HI := Lib.hid hi
  have HZ := Lib.hid hz0
  have HZ1 := Lib.hid hz1
  have HZ2 := Lib.hid hz2
  clear hi hz0 hz1 hz2
  go_wp2_with (at_builtin; refine held ?_)
  unfold Held
  refine Lib.wpList_append_own_stringF _ rfl _ _ 38 9 rfl B 5 i0 Tryz.underlying38 Tryz.underlying9 HI.out HZ.out HZ1.out HZ2.out _ _ _ rfl hown s rfl ?c3 ?c4 ?c5 ?_
  case c3 => unfold maxLen; omega
  case c4 => omega
  case c5 => have := hb1.size; omega
  intro v' w2 hown' hgrow _
  have hlt : b < w1.heap.size := heap_lt hbk
  have hb2 : w2.heap[b]? = some (.cells #[.pointer (some ⟨b, 0, none⟩), v] 118 (0, 0)) := by
    rw [hgrow.block b hlt (fun e => hne e.symm)]
    exact hbk
  have d0 : w2.cell? ⟨b, 0, none⟩ = some (.pointer (some ⟨b, 0, none⟩)) := blk_cell hb2 0
  have d1 : w2.cell? ⟨b, 1, none⟩ = some v := blk_cell hb2 1
  have f1 : w2.frozen? ⟨b, 1, none⟩ = false := blk_free hb2 1
  obtain ⟨ao, n', cap, rfl⟩ : ∃ ao n' cap, v' = .slice ao n' cap := by
    rcases hown'.2 with ⟨hv, _⟩ | ⟨g, cap, cur, fz, hv, _⟩
    · exact ⟨_, _, _, hv⟩
    · exact ⟨_, _, _, hv⟩
  have HP := Lib.hid (Lib.BuilderAtF.put (T := 118) (e := 5) hB hb2 (bs' := bs ++ Lib.strCells s) (by simpa [Lib.strCells_length] using hown') (by decide))
  have HBB := Lib.hid ((hb1.grown hgrow (by have := hb1.size; omega) (fun k hk => (hown.lt k hk).1)).setCell (p := ⟨b, 1, none⟩) hB (.slice ao n' cap))
  clear hown hown' hgrow hb1 hbk hb2 HC
  go_wp2_with fail
  exact ret2w rfl rfl rfl rfl ⟨rfl, .inr HP.out, HBB.out⟩
end Go.Proofs.YtlfdgkiliegaiaaGreatDoor

/- Walks of package screen: print. -/
namespace Go.Proofs.YtlfdgkiliegaiaaGreatDoor
open Go.RowKit
set_option maxRecDepth 100000

def linesB : List UInt8 := [226, 151, 134, 226, 150, 146, 226, 144, 137, 226, 144, 140, 226, 144, 141, 226, 144, 138, 194, 176, 194, 177, 226, 144, 164, 226, 144, 139, 226, 148, 152, 226, 148, 144, 226, 148, 140, 226, 148, 148, 226, 148, 188, 226, 142, 186, 226, 142, 187, 226, 148, 128, 226, 142, 188, 226, 142, 189, 226, 148, 156, 226, 148, 164, 226, 148, 180, 226, 148, 172, 226, 148, 130, 226, 137, 164, 226, 137, 165, 207, 128, 226, 137, 160, 194, 163, 194, 183]
theorem lines_runes : Conv.runesFrom ⟨linesB.toArray⟩ linesB.length 0 #[] = (linesL.map (Value.int .i32)).toArray := by kernel_rfl
theorem conv_lines (w : World) : ∃ (w2 : World) (c : Nat), (convert 9 191 (.string ⟨linesB.toArray⟩)).run Tryz.prog w = .ok (.slice (some ⟨w.heap.size, 0, none⟩) 31 c) w2 ∧ Below w.heap.size w w2 ∧ ∀ k, k < 31 → w2.cell? ⟨w.heap.size, k, none⟩ = some (.int .i32 (linesL.getD k 0)) := by
  have hrun := run_runes_of_string (P := Tryz.prog) w 9 191 21 ⟨linesB.toArray⟩ Tryz.underlying9 Tryz.underlying191 Tryz.underlying21 (by rw [show (⟨linesB.toArray⟩ : ByteArray).size = linesB.length from rfl, lines_runes]; decide)
  rw [show (⟨linesB.toArray⟩ : ByteArray).size = linesB.length from rfl, lines_runes] at hrun
  refine ⟨_, _, hrun, Below.alloc (Below.refl w.heap.size w).drew (Nat.le_refl _) _, fun k hk => ?_⟩
  have hb : ((w.drew.alloc (.cells ((linesL.map (Value.int .i32)).toArray ++ Array.replicate (grownCap w (linesL.map (Value.int .i32)).toArray.size 0 21 - (linesL.map (Value.int .i32)).toArray.size) (.int .i32 0)) 21)).heap[w.heap.size]?) = _ := heap_alloc_new w.drew _
  rw [blk_cell hb k, Array.getElem?_append_left (by show k < 31; exact hk)]
  have : ∀ k : Fin 31, (linesL.map (Value.int .i32)).toArray[k.1]? = some (.int .i32 (linesL.getD k.1 0)) := by
    intro k
    have h31 : ∀ n, n < 31 → (linesL.map (Value.int .i32)).toArray[n]? = some (.int .i32 (linesL.getD n 0)) := by
      intro n hn
      rw [List.getElem?_toArray, List.getElem?_map, List.getElem?_eq_getElem (show n < linesL.length from hn), List.getD_eq_getElem?_getD, List.getElem?_eq_getElem (show n < linesL.length from hn)]; rfl
    exact h31 k.1 k.2
  exact this ⟨k, hk⟩
theorem idx32 {P : Program} {t e : TypeId} {size : Nat} (ht : P.underlying t = some (.slice e)) (hs : (P.info? e).map (·.size) = some size) (b off n c j : Nat) (hj : j < n) (wx : World) :
    (Instr.indexAt t (.slice (some ⟨b, off, none⟩) n c) (.int .i32 j)).run P wx = .ok (.pointer (some ⟨b, off + j * size, none⟩)) wx := by
  obtain ⟨i, hi, hi2⟩ := Option.map_eq_some_iff.1 hs
  have hj' : (0 : Int) ≤ (j : Int) ∧ (j : Int) < (n : Int) := by omega
  simp [Instr.indexAt, asIntOf, run_underlying ht, hj', sizeOf, typeInfo, hi, hi2, add_eq]
  omega
theorem wrapI32 (k : Nat) (h : k < 1000) : IntKind.i32.wrap (k : Int) = k := by
  unfold IntKind.wrap
  simp [IntKind.bits, IntKind.signed]
  omega
def Scr.onIf (s : Scr) (b : Bool) : Scr := if b = true then s.on else s
def Scr.fit1 (s : Scr) (b wr : Bool) (w : Int) : Scr := if b = true then (if wr = true then s.on else s.toX (s.cols - w)) else s
def Scr.insIf (s : Scr) (b : Bool) (w : Int) : Scr := if b = true then s.turn (fun g => g.ins s.now.x s.now.y w s.blank) else s
def Scr.past (s : Scr) (b wr : Bool) (w : Int) : Scr := if b = true then { s with now := { s.now with x := s.cols - 1, wait := wr } } else s.toX (s.now.x + w)
theorem fit_is (s : Scr) (w : Int) : s.fit w = ((s.onIf (s.now.wait && s.has 1)).calm).fit1 (decide ((s.onIf (s.now.wait && s.has 1)).calm.cols - w < (s.onIf (s.now.wait && s.has 1)).calm.now.x)) (s.has 1) w := by
  unfold Scr.fit Scr.onIf Scr.fit1
  dsimp only
  generalize (if (s.now.wait && s.has 1) = true then s.on else s).calm = t
  by_cases h : t.cols - w < t.now.x
  · rw [if_pos h, decide_eq_true h, if_pos rfl]
  · rw [if_neg h, decide_eq_false h]; rfl
theorem turn_modes (s : Scr) (f : Gr → Gr) : (s.turn f).modes = s.modes := by unfold Scr.turn; cases s.other <;> rfl
theorem index_modes (s : Scr) : s.index.modes = s.modes := by
  unfold Scr.index
  split
  · exact turn_modes _ _
  · split <;> rfl
theorem on_modes (s : Scr) : s.on.modes = s.modes := by
  unfold Scr.on
  rw [index_modes]
  exact turn_modes _ _
theorem onIf_modes (s : Scr) (b : Bool) : (s.onIf b).modes = s.modes := by
  unfold Scr.onIf
  cases b
  · rfl
  · exact on_modes s
theorem fit1_modes (s : Scr) (b wr : Bool) (w : Int) : (s.fit1 b wr w).modes = s.modes := by
  unfold Scr.fit1
  cases b
  · rfl
  · cases wr
    · rfl
    · exact on_modes s
theorem insIf_modes (s : Scr) (b : Bool) (w : Int) : (s.insIf b w).modes = s.modes := by
  unfold Scr.insIf
  cases b
  · rfl
  · exact turn_modes _ _
theorem lay_is (s : Scr) (q w : Int) : s.lay q w = ((s.insIf (s.has 2) w).turn (fun g => g.put (s.insIf (s.has 2) w).now.x (s.insIf (s.has 2) w).now.y ⟨q, w, (s.insIf (s.has 2) w).now.pen⟩)).past
    (decide (((s.insIf (s.has 2) w).turn (fun g => g.put (s.insIf (s.has 2) w).now.x (s.insIf (s.has 2) w).now.y ⟨q, w, (s.insIf (s.has 2) w).now.pen⟩)).cols ≤ ((s.insIf (s.has 2) w).turn (fun g => g.put (s.insIf (s.has 2) w).now.x (s.insIf (s.has 2) w).now.y ⟨q, w, (s.insIf (s.has 2) w).now.pen⟩)).now.x + w)) (s.has 1) w := by
  have hm : (s.insIf (s.has 2) w).modes = s.modes := insIf_modes _ _ _
  unfold Scr.lay
  rw [show (if s.has 2 = true then s.turn (fun g => g.ins s.now.x s.now.y w s.blank) else s) = s.insIf (s.has 2) w from rfl]
  dsimp only
  generalize s.insIf (s.has 2) w = t at *
  have hm2 := (turn_modes t (fun g => g.put t.now.x t.now.y ⟨q, w, t.now.pen⟩)).trans hm
  generalize (t.turn fun g => g.put t.now.x t.now.y ⟨q, w, t.now.pen⟩) = u at *
  have hw : u.has 1 = s.has 1 := by unfold Scr.has; rw [hm2]
  unfold Scr.past
  by_cases h : u.cols ≤ u.now.x + w
  · rw [if_pos h, decide_eq_true h, if_pos rfl, hw]
  · rw [if_neg h, decide_eq_false h]; rfl
set_option maxHeartbeats 4000000 in
theorem printS_any {B : World} {C : Nat → Nat} {p c r : Nat} {w : World} {s : Scr} {ps : PSt} (h : SR B C p w s ps) (hok : s.Ok c r) (r0 : Int) (hr : -2147483648 ≤ r0 ∧ r0 ≤ 2147483647) :
    Calls Tryz.prog 108 #[.pointer (some ⟨p, 0, none⟩), .int .i32 r0] w fun e w' => e = .returned (.tuple #[]) ∧ Does B C p w w' (s.print r0) ps := by
  have HR := Lib.hid h
  have HOK := Lib.hid hok
  have HN := Lib.hid (h.nums hok)
  have c7 : w.cell? ⟨p, 7, none⟩ = some (.bool s.now.l0) := h.at_ 7 _
  have c8 : w.cell? ⟨p, 8, none⟩ = some (.bool s.now.l1) := h.at_ 8 _
  have c9 : w.cell? ⟨p, 9, none⟩ = some (.int .i64 s.now.second) := h.at_ 9 _
  have hsec := hok.now.sec
  have HDR := Lib.hid (show s.drawn r0 = if (if s.now.second = 0 then s.now.l0 else s.now.l1) = true ∧ 96 ≤ r0 ∧ r0 ≤ 126 then linesL.getD (r0 - 96).toNat 0 else r0 from rfl)
  clear h hok
  go_enter Tryz.func108, Tryz.ntmps108
  go_upto_region 1 with fail
  have hr1 := hr.1
  go_cut [27] (fun v wz => (∃ b, v = .bool b ∧ Hid (b = true ↔ (if s.now.second = 0 then s.now.l0 else s.now.l1) = true ∧ 96 ≤ r0 ∧ r0 ≤ 126)) ∧ Hid (Below w.heap.size w wz))
  case first =>
    rcases hsec with h0 | h0
    · rw [h0] at c9
      have HL := Lib.hid (show (if s.now.second = 0 then s.now.l0 else s.now.l1) = s.now.l0 by rw [h0]; rfl)
      clear h0
      cases hL : s.now.l0
      · have HE := HL.out.trans hL
        rw [hL] at c7
        go_quiet (fail)
        go_wp2_with fail
        go_meet
        exact ⟨⟨_, rfl, Lib.hid (by rw [HE]; exact ⟨fun e => (by cases e), fun e => (by cases e.1)⟩)⟩, Lib.hid (below_drewN (Below.refl _ _) _)⟩
      · have HE := HL.out.trans hL
        rw [hL] at c7
        by_cases h1 : 96 ≤ r0
        · have d1 : decide (96 ≤ r0) = true := decide_eq_true h1
          by_cases h2 : r0 ≤ 126
          · have d2 : decide (r0 ≤ 126) = true := decide_eq_true h2
            go_quiet (fail)
            go_wp2_with fail
            go_meet
            exact ⟨⟨_, rfl, Lib.hid (by rw [HE]; exact ⟨fun _ => ⟨rfl, h1, h2⟩, fun _ => rfl⟩)⟩, Lib.hid (below_drewN (Below.refl _ _) _)⟩
          · have d2 : decide (r0 ≤ 126) = false := decide_eq_false h2
            go_quiet (fail)
            go_wp2_with fail
            go_meet
            exact ⟨⟨_, rfl, Lib.hid (by rw [HE]; exact ⟨fun e => (by cases e), fun e => absurd e.2.2 (by omega)⟩)⟩, Lib.hid (below_drewN (Below.refl _ _) _)⟩
        · have d1 : decide (96 ≤ r0) = false := decide_eq_false h1
          go_quiet (fail)
          go_wp2_with fail
          go_meet
          exact ⟨⟨_, rfl, Lib.hid (by rw [HE]; exact ⟨fun e => (by cases e), fun e => absurd e.2.1 (by omega)⟩)⟩, Lib.hid (below_drewN (Below.refl _ _) _)⟩
    · rw [h0] at c9
      have HL := Lib.hid (show (if s.now.second = 0 then s.now.l0 else s.now.l1) = s.now.l1 by rw [h0]; rfl)
      clear h0
      cases hL : s.now.l1
      · have HE := HL.out.trans hL
        rw [hL] at c8
        go_quiet (fail)
        go_wp2_with fail
        go_meet
        exact ⟨⟨_, rfl, Lib.hid (by rw [HE]; exact ⟨fun e => (by cases e), fun e => (by cases e.1)⟩)⟩, Lib.hid (below_drewN (Below.refl _ _) _)⟩
      · have HE := HL.out.trans hL
        rw [hL] at c8
        by_cases h1 : 96 ≤ r0
        · have d1 : decide (96 ≤ r0) = true := decide_eq_true h1
          by_cases h2 : r0 ≤ 126
          · have d2 : decide (r0 ≤ 126) = true := decide_eq_true h2
            go_quiet (fail)
            go_wp2_with fail
            go_meet
            exact ⟨⟨_, rfl, Lib.hid (by rw [HE]; exact ⟨fun _ => ⟨rfl, h1, h2⟩, fun _ => rfl⟩)⟩, Lib.hid (below_drewN (Below.refl _ _) _)⟩
          · have d2 : decide (r0 ≤ 126) = false := decide_eq_false h2
            go_quiet (fail)
            go_wp2_with fail
            go_meet
            exact ⟨⟨_, rfl, Lib.hid (by rw [HE]; exact ⟨fun e => (by cases e), fun e => absurd e.2.2 (by omega)⟩)⟩, Lib.hid (below_drewN (Below.refl _ _) _)⟩
        · have d1 : decide (96 ≤ r0) = false := decide_eq_false h1
          go_quiet (fail)
          go_wp2_with fail
          go_meet
          exact ⟨⟨_, rfl, Lib.hid (by rw [HE]; exact ⟨fun e => (by cases e), fun e => absurd e.2.1 (by omega)⟩)⟩, Lib.hid (below_drewN (Below.refl _ _) _)⟩
  case rest =>
  obtain ⟨⟨b, rfl, HBB⟩, HB1⟩ := hcut
  clear c7 c8 c9 hsec
  have HR1 := Lib.hid (HR.out.below HB1.out)
  obtain ⟨w1, hw1⟩ : ∃ z, z = wc := ⟨wc, rfl⟩
  subst hw1
  go_upto_if 27 with fail
  go_cut [4] (fun v wz => v = .int .i32 (s.drawn r0) ∧ Hid (Below w.heap.size w wz))
  case first =>
    cases b
    · have HD := Lib.hid (show s.drawn r0 = r0 by rw [HDR.out, if_neg (fun e => by have := HBB.out.2 e; cases this)])
      go_wp2_with fail
      go_meet
      exact ⟨by rw [HD.out], HB1⟩
    · obtain ⟨_, hb1, hb2⟩ := HBB.out.1 rfl
      have HD := Lib.hid (show s.drawn r0 = linesL.getD (r0 - 96).toNat 0 by rw [HDR.out, if_pos (HBB.out.1 rfl)])
      go_upto_region 3 with fail
      rw [show (List.append [226, 151, 134, 226, 150, 146, 226, 144, 137, 226, 144, 140, 226, 144, 141, 226, 144, 138, 194, 176, 194, 177, 226, 144, 164, 226, 144, 139, 226, 148, 152, 226, 148, 144, 226, 148, 140, 226, 148, 148, 226, 148, 188, 226] [142, 186, 226, 142, 187, 226, 148, 128, 226, 142, 188, 226, 142, 189, 226, 148, 156, 226, 148, 164, 226, 148, 180, 226, 148, 172, 226, 148, 130, 226, 137, 164, 226, 137, 165, 207, 128, 226, 137, 160, 194, 163, 194, 183]) = linesB from rfl]
      obtain ⟨w2, cc, hcv, bcv, hrd⟩ := conv_lines w1
      obtain ⟨k, hk⟩ : ∃ k : Nat, r0 - 96 = k := ⟨(r0 - 96).toNat, by omega⟩
      have hwi : IntKind.i32.wrap (r0 - 96) = (k : Int) := by rw [hk]; exact wrapI32 k (by omega)
      have hix := idx32 (P := Tryz.prog) (size := 1) Tryz.underlying191 (by kernel_rfl) w1.heap.size 0 31 cc k (by omega)
      have hrk := hrd k (by omega)
      have HK := Lib.hid hk
      have HB2 := Lib.hid (HB1.out.trans (bcv.mono HB1.out.size))
      clear hk hrd bcv hb1 hb2
      go_wp2_with fail
      go_meet
      exact ⟨by rw [HD.out, HK.out, Int.toNat_natCast, List.getD_eq_getElem?_getD], HB2⟩
  case rest =>
  obtain ⟨rfl, HB2⟩ := hcut
  have h := HR.out.below HB2.out
  have hok := HOK.out
  have hcr : -2147483648 ≤ s.drawn r0 ∧ s.drawn r0 ≤ 2147483647 := by
    by_cases hx : (if s.now.second = 0 then s.now.l0 else s.now.l1) = true ∧ 96 ≤ r0 ∧ r0 ≤ 126
    · rw [HDR.out, if_pos hx]
      obtain ⟨_, hx1, hx2⟩ := hx
      have hk : (r0 - 96).toNat < 31 := by omega
      have : ∀ k : Fin 31, 0 ≤ linesL.getD k.1 0 ∧ linesL.getD k.1 0 ≤ 100000 := by decide +kernel
      have := this ⟨_, hk⟩
      dsimp only at this
      omega
    · rw [HDR.out, if_neg hx]; exact hr
  have HCR := Lib.hid hcr
  have HPR := Lib.hid (show s.print r0 = if wid (s.drawn r0) < 1 ∨ s.cols < wid (s.drawn r0) then s else { (s.fit (wid (s.drawn r0))).lay (s.drawn r0) (wid (s.drawn r0)) with last := r0 } from rfl)
  clear HBB HB1 HR1 HDR hcr
  generalize s.drawn r0 = ch at *
  go_wp2_with fail
  refine (width_any ch wc).mono ?_
  rintro e w3 ⟨rfl, b3⟩
  have HB3 := Lib.hid (HB2.out.trans (b3.mono HB2.out.size))
  have HWR := Lib.hid (wid_le ch)
  replace h := h.below b3
  have HR := Lib.hid h
  have HC := Lib.hid (colsS_any h)
  clear b3 h
  by_cases hw1 : wid ch < 1
  · have d1 : decide (wid ch < 1) = true := decide_eq_true hw1
    have HD := Lib.hid (show Does B C p w w3 (s.print r0) ps by rw [HPR.out, if_pos (.inl hw1)]; exact ⟨C, HR.out, (Pre.refl _ _).below HB3.out⟩)
    clear hw1
    go_wp2_with fail
    refine ret0 rfl rfl ?_
    exact ⟨rfl, HD.out⟩
  have d1 : decide (wid ch < 1) = false := decide_eq_false hw1
  by_cases hw2 : (s.main.cols : Int) < wid ch
  · have d2 : decide ((s.main.cols : Int) < wid ch) = true := decide_eq_true hw2
    have HD := Lib.hid (show Does B C p w w3 (s.print r0) ps by rw [HPR.out, if_pos (.inr hw2)]; exact ⟨C, HR.out, (Pre.refl _ _).below HB3.out⟩)
    clear hw1 hw2
    go_wp2_with fail
    refine HC.out.mono ?_
    rintro e w4 ⟨rfl, rfl⟩
    go_wp2_with fail
    refine ret0 rfl rfl ?_
    exact ⟨rfl, HD.out⟩
  have d2 : decide ((s.main.cols : Int) < wid ch) = false := decide_eq_false hw2
  have HPR := Lib.hid (show s.print r0 = { (s.fit (wid ch)).lay ch (wid ch) with last := r0 } by rw [HPR.out, if_neg (fun e => by rcases e with e | e; exact hw1 e; exact hw2 e)])
  have HW := Lib.hid (show 1 ≤ wid ch ∧ wid ch ≤ 2 ∧ wid ch ≤ (s.main.cols : Int) from ⟨by omega, HWR.out, by omega⟩)
  have HP3 := Lib.hid ((Pre.refl C w).below HB3.out)
  clear hw1 hw2 HWR
  obtain ⟨W, hW⟩ : ∃ W, W = wid ch := ⟨_, rfl⟩
  rw [← hW] at HPR HW d1 d2 ⊢
  have HWE := Lib.hid hW
  clear hW
  go_wp2_with fail
  refine HC.out.mono ?_
  rintro e w4 ⟨rfl, rfl⟩
  go_wp2_with fail
  refine (hasS_any HR.out 1).mono ?_
  rintro e w4 ⟨rfl, rfl⟩
  obtain ⟨wr, hwr⟩ : ∃ wr, wr = s.has 1 := ⟨_, rfl⟩
  rw [← hwr]
  have HWRP := Lib.hid hwr
  clear hwr HC
  have c2 : w4.cell? ⟨p, 2, none⟩ = some (.bool s.now.wait) := HR.out.at_ 2 _
  go_upto_region 7 with fail
  go_cut [53] (fun v wz => v = .bool (s.now.wait && wr) ∧ wz = w4)
  case first =>
    cases hwt : s.now.wait
    · rw [hwt] at c2
      go_wp2_with fail
      go_meet
      exact ⟨by rw [hwt]; rfl, rfl⟩
    · rw [hwt] at c2
      go_wp2_with fail
      go_meet
      exact ⟨by rw [hwt]; rfl, rfl⟩
  case rest =>
  obtain ⟨rfl, hwz⟩ := hcut
  subst hwz
  obtain ⟨w4, rfl⟩ : ∃ z, z = wc := ⟨wc, rfl⟩
  obtain ⟨b1, hb1⟩ : ∃ b1, b1 = (s.now.wait && wr) := ⟨_, rfl⟩
  rw [← hb1]
  have HB1 := Lib.hid hb1
  clear hb1 c2
  go_upto_if 53 with fail
  go_cut [] (fun wz => ∃ C1, Hid (SR B C1 p wz (s.onIf b1) ps) ∧ Hid (Pre C w C1 wz))
  case first =>
    cases b1
    · go_wp2_with fail
      go_meet
      exact ⟨C, HR, HP3⟩
    · go_wp2_with fail
      refine (onS_any HR.out HOK.out).mono ?_
      rintro e w5 ⟨rfl, C5, h5, p5⟩
      have H5 := Lib.hid h5
      have P5 := Lib.hid (HP3.out.trans p5)
      clear h5 p5
      go_wp2_with fail
      go_meet
      exact ⟨C5, H5, P5⟩
  case rest =>
  obtain ⟨C1, H1, P1⟩ := hcut
  obtain ⟨w5, rfl⟩ : ∃ z, z = wc := ⟨wc, rfl⟩
  have HCC := Lib.hid (HN.out.ok HOK.out).1
  have HC1 := Lib.hid HN.out.c1
  have HC2 := Lib.hid HN.out.c2
  have HO1 := Lib.hid (show (s.onIf b1).Ok c r by
    unfold Scr.onIf
    cases b1
    · exact HOK.out
    · exact HOK.out.on (by rw [HCC.out]; exact HC1.out))
  have HF1 := Lib.hid (show ∀ t, t = s.onIf b1 → s.fit W = (t.calm).fit1 (decide (t.calm.cols - W < t.calm.now.x)) wr W from fun t ht => by rw [ht, fit_is, HB1.out, HWRP.out])
  generalize s.onIf b1 = s1 at *
  replace HF1 := Lib.hid (HF1.out s1 rfl)
  have c2 : w5.cell? ⟨p, 2, none⟩ = some (.bool s1.now.wait) := H1.out.at_ 2 _
  have f2 := H1.out.fz 2
  go_upto_region 10 with fail
  obtain ⟨h2, g2⟩ := H1.out.set 2 (.bool false) s1.calm
  have H2 := Lib.hid h2
  have P2 := Lib.hid (P1.out.trans g2)
  have HO2 := Lib.hid HO1.out.calm
  clear h2 g2 c2 f2 H1 P1 HR HP3
  generalize w5.setCell ⟨p, 2, none⟩ (.bool false) = w6 at *
  generalize s1.calm = s2 at *
  have c0 : w6.cell? ⟨p, 0, none⟩ = some (.int .i64 s2.now.x) := H2.out.at_ 0 _
  have HM2 := Lib.hid (show s2.main.cols = s.main.cols from HO2.out.main.1.trans HCC.out)
  have HC6 := Lib.hid (fun w' hb => show Calls Tryz.prog 93 #[.pointer (some ⟨p, 0, none⟩)] w' (fun e w'' => e = .returned (.int .i64 s.main.cols) ∧ w'' = w') by
    have := colsS_any (H2.out.below (w' := w') hb)
    rw [HM2.out] at this
    exact this)
  have hww : IntKind.i64.wrap ((s.main.cols : Int) - W) = (s.main.cols : Int) - W := by have := HW.out; have := HC2.out; exact wrap64_id _ (by omega) (by omega)
  go_quiet (first | (go_at_call 93; exact Calls.quiet_of_same (HC6.out _ (below_drewN (Below.refl _ _) _))))
  have HB7 := Lib.hid (below_drewN (Below.refl w6.heap.size w6) nq)
  have H3 := Lib.hid (H2.out.below HB7.out)
  have P3 := Lib.hid (P2.out.below HB7.out)
  generalize w6.drewN nq = w7 at *
  obtain ⟨b2, hb2⟩ : ∃ b2, b2 = decide ((s.main.cols : Int) - W < s2.now.x) := ⟨_, rfl⟩
  rw [← hb2]
  have HF2 := Lib.hid (show s.fit W = s2.fit1 b2 wr W by rw [HF1.out, hb2]; unfold Scr.cols; rw [HM2.out])
  clear hb2 H2 P2 HF1 c0
  have HC7 := Lib.hid (HC6.out _ HB7.out)
  have c0 : w7.cell? ⟨p, 0, none⟩ = some (.int .i64 s2.now.x) := H3.out.at_ 0 _
  have f0 := H3.out.fz 0
  go_upto_if 69 with fail
  go_cut [] (fun wz => ∃ C2, Hid (SR B C2 p wz (s2.fit1 b2 wr W) ps) ∧ Hid (Pre C w C2 wz))
  case first =>
    cases b2
    · go_wp2_with fail
      go_meet
      exact ⟨C1, H3, P3⟩
    · cases wr
      · obtain ⟨h4, g4⟩ := H3.out.set 0 (.int .i64 ((s.main.cols : Int) - W)) (s2.toX ((s.main.cols : Int) - W))
        have H4 := Lib.hid (show SR B C1 p _ (s2.fit1 true false W) ps by
          have e : s2.fit1 true false W = s2.toX ((s.main.cols : Int) - W) := by show s2.toX (s2.cols - W) = _; unfold Scr.cols; rw [HM2.out]
          rw [e]; exact h4)
        have P4 := Lib.hid (P3.out.trans g4)
        clear h4 g4
        go_wp2_with fail
        refine HC7.out.mono ?_
        rintro e w8 ⟨rfl, rfl⟩
        go_wp2_with fail
        go_meet
        exact ⟨C1, H4, P4⟩
      · go_wp2_with fail
        refine (onS_any H3.out HO2.out).mono ?_
        rintro e w8 ⟨rfl, C5, h5, p5⟩
        have H5 := Lib.hid h5
        have P5 := Lib.hid (P3.out.trans p5)
        clear h5 p5
        go_wp2_with fail
        go_meet
        exact ⟨C5, H5, P5⟩
  case rest =>
  obtain ⟨C2, H4, P4⟩ := hcut
  obtain ⟨w8, rfl⟩ : ∃ z, z = wc := ⟨wc, rfl⟩
  have HW2 := Lib.hid (show W ≤ (c : Int) by have := HW.out; have := HCC.out; omega)
  have HO4 := Lib.hid (show (s2.fit1 b2 wr W).Ok c r by rw [← HF2.out]; exact (HOK.out.fit (by rw [HCC.out]; exact HC1.out) W HW.out.1 HW2.out).1)
  have HMO := Lib.hid (show (s2.fit1 b2 wr W).has 1 = wr by
    rw [← HF2.out, HWRP.out, fit_is]; unfold Scr.has; rw [fit1_modes]
    exact congrArg (fun m => bAnd m 1 != 0) (onIf_modes _ _))
  clear HC6 HC7 H3 P3 HM2 HO2 HO1 c0 f0 HB7 hww
  have HPR2 := Lib.hid (show s.print r0 = { (s2.fit1 b2 wr W).lay ch W with last := r0 } by rw [HPR.out, HF2.out])
  clear HPR HF2
  generalize s2.fit1 b2 wr W = s3 at *
  go_wp2_with fail
  refine (hasS_any H4.out 2).mono ?_
  rintro e w9 ⟨rfl, rfl⟩
  obtain ⟨b3, hb3⟩ : ∃ b3, b3 = s3.has 2 := ⟨_, rfl⟩
  rw [← hb3]
  have HLA := Lib.hid (lay_is s3 ch W)
  rw [← hb3] at HLA
  clear hb3
  go_upto_if 82 with fail
  go_cut [] (fun wz => ∃ C3, Hid (SR B C3 p wz (s3.insIf b3 W) ps) ∧ Hid (Pre C w C3 wz))
  case first =>
    cases b3
    · go_wp2_with fail
      go_meet
      exact ⟨C2, H4, P4⟩
    · have c0 : w9.cell? ⟨p, 0, none⟩ = some (.int .i64 s3.now.x) := H4.out.at_ 0 _
      have c1 : w9.cell? ⟨p, 1, none⟩ = some (.int .i64 s3.now.y) := H4.out.at_ 1 _
      have HR := H4
      obtain ⟨T, q, hg, hq, hk⟩ := H4.out.grid
      have HG := Lib.hid hg
      have HQ := Lib.hid hq
      have HK := Lib.hid hk
      have HRI := Lib.hid (H4.out.blankR HO4.out)
      clear hg hq hk
      go_upto_region 15 with fail
      go_region_held3 (fun w' => w'.cell? ⟨p, 0, none⟩ = some (.int .i64 s3.now.x) ∧ w'.cell? ⟨p, 1, none⟩ = some (.int .i64 s3.now.y)) (first | exact ⟨c0, c1⟩ | exact ⟨z0, z1⟩)
        (first
          | (go_at_call 69; refine (shownS_any (w := w9.drew) HQ.out).mono ?_; rintro e w4 ⟨rfl, rfl⟩)
          | (go_at_call 155; refine (blankS_any (HR.out.below (Below.refl _ _).drew)).mono ?_; rintro e w5 ⟨rfl, b5⟩; have HB5 := Lib.hid ((Below.refl w9.heap.size w9).drew.trans b5); have z0 := cell_below b5 c0; have z1 := cell_below b5 c1; clear b5)
          | (go_at_call 154; refine (ins_any (HG.out.below HB5.out) _ _ _ _ (HRI.out.below HB5.out)).mono ?_; rintro e w6 ⟨rfl, hw6, g6⟩; obtain ⟨d6, hb6⟩ := HK.out _ _ _ (fun g => g.ins s3.now.x s3.now.y W s3.blank) HB5.out hw6 g6 (fun k hk => .inl hk); have HD := Lib.hid d6; have z0 := (cell_heap hb6 0).trans c0; have z1 := (cell_heap hb6 1).trans c1; clear hw6 g6 hb6 d6))
      obtain ⟨C5, h5, p5⟩ := HD.out
      have H5 := Lib.hid h5
      have P5 := Lib.hid (P4.out.trans p5)
      clear h5 p5 z0 z1
      go_wp2_with fail
      go_meet
      exact ⟨C5, H5, P5⟩
  case rest =>
  obtain ⟨C3, H5, P5⟩ := hcut
  obtain ⟨w9, rfl⟩ : ∃ z, z = wc := ⟨wc, rfl⟩
  have HO5 := Lib.hid (show (s3.insIf b3 W).Ok c r by
    unfold Scr.insIf
    cases b3
    · exact HO4.out
    · exact HO4.out.turn _ fun g hg => same_ins hg _ _ _ _)
  clear H4 P4 HO4
  have HLB := Lib.hid (show ∀ t, t = s3.insIf b3 W → s3.lay ch W = (t.turn (fun g => g.put t.now.x t.now.y ⟨ch, W, t.now.pen⟩)).past (decide ((t.turn (fun g => g.put t.now.x t.now.y ⟨ch, W, t.now.pen⟩)).cols ≤ (t.turn (fun g => g.put t.now.x t.now.y ⟨ch, W, t.now.pen⟩)).now.x + W)) wr W from fun t ht => by rw [ht, HLA.out, HMO.out])
  generalize s3.insIf b3 W = s5 at *
  replace HLB := Lib.hid (HLB.out s5 rfl)
  have c0 : w9.cell? ⟨p, 0, none⟩ = some (.int .i64 s5.now.x) := H5.out.at_ 0 _
  have c1 : w9.cell? ⟨p, 1, none⟩ = some (.int .i64 s5.now.y) := H5.out.at_ 1 _
  have c3 : w9.cell? ⟨p, 3, none⟩ = some (.int .i64 s5.now.pen.fg) := H5.out.at_ 3 _
  have c4 : w9.cell? ⟨p, 4, none⟩ = some (.int .i64 s5.now.pen.bg) := H5.out.at_ 4 _
  have c5 : w9.cell? ⟨p, 5, none⟩ = some (.int .i64 s5.now.pen.attr) := H5.out.at_ 5 _
  have HR := H5
  obtain ⟨T, q, hg, hq, hk⟩ := H5.out.grid
  have HG := Lib.hid hg
  have HQ := Lib.hid hq
  have HK := Lib.hid hk
  have HPEN := Lib.hid (H5.out.right s5.now.pen (okS_range HO5.out.now.pen).1 (okS_range HO5.out.now.pen).2)
  clear hg hq hk
  go_upto_region 16 with fail
  go_region_held3 (fun w' => w'.cell? ⟨p, 0, none⟩ = some (.int .i64 s5.now.x) ∧ w'.cell? ⟨p, 1, none⟩ = some (.int .i64 s5.now.y) ∧ w'.cell? ⟨p, 3, none⟩ = some (.int .i64 s5.now.pen.fg) ∧ w'.cell? ⟨p, 4, none⟩ = some (.int .i64 s5.now.pen.bg) ∧ w'.cell? ⟨p, 5, none⟩ = some (.int .i64 s5.now.pen.attr)) (first | exact ⟨c0, c1, c3, c4, c5⟩ | exact ⟨z0, z1, z2, z3, z4⟩)
    (first
      | (go_at_call 69; refine (shownS_any (w := w9.drew) HQ.out).mono ?_; rintro e w4 ⟨rfl, rfl⟩)
      | (go_at_call 156; refine (put_any (HG.out.below (Below.refl _ _).drew) s5.now.x s5.now.y ⟨ch, W, s5.now.pen⟩ (HPEN.out.below (Below.refl _ _).drew) HCR.out).mono ?_; rintro e w6 ⟨rfl, hw6, g6⟩; obtain ⟨d6, hb6⟩ := HK.out _ _ _ (fun g => g.put s5.now.x s5.now.y ⟨ch, W, s5.now.pen⟩) (Below.refl _ _).drew hw6 g6 (fun k hk => .inl hk); have HD := Lib.hid d6; have z0 := (cell_heap hb6 0).trans c0; have z1 := (cell_heap hb6 1).trans c1; have z2 := (cell_heap hb6 3).trans c3; have z3 := (cell_heap hb6 4).trans c4; have z4 := (cell_heap hb6 5).trans c5; clear hw6 g6 hb6 d6))
  obtain ⟨C4, h6, p6⟩ := HD.out
  have H6 := Lib.hid h6
  have P6 := Lib.hid (P5.out.trans p6)
  have HO6 := Lib.hid (show (s5.turn (fun g => g.put s5.now.x s5.now.y ⟨ch, W, s5.now.pen⟩)).Ok c r from HO5.out.turn _ fun g hg => same_put hg _ _ _)
  clear h6 p6 H5 P5 HR HG HQ HK HPEN z0 z1 z2 z3 z4 HD HO5 c0 c1 c3 c4 c5
  have HN6 := Lib.hid (show (s5.turn (fun g => g.put s5.now.x s5.now.y ⟨ch, W, s5.now.pen⟩)).now.x = s5.now.x by rw [turn_now])
  generalize s5.turn (fun g => g.put s5.now.x s5.now.y ⟨ch, W, s5.now.pen⟩) = s6 at *
  have c0 : w6.cell? ⟨p, 0, none⟩ = some (.int .i64 s6.now.x) := H6.out.at_ 0 _
  have f0 := H6.out.fz 0
  have HM6 := Lib.hid (show s6.main.cols = s.main.cols from HO6.out.main.1.trans HCC.out)
  have HX6 := Lib.hid (show 0 ≤ s6.now.x ∧ s6.now.x ≤ 250 from ⟨HO6.out.now.x0, by have := HO6.out.now.x1; have := HCC.out; have := HC2.out; omega⟩)
  have hwx : IntKind.i64.wrap (s6.now.x + W) = s6.now.x + W := by have := HX6.out; have := HW.out; exact wrap64_id _ (by omega) (by omega)
  have hwx5 : IntKind.i64.wrap (s5.now.x + W) = s6.now.x + W := by rw [← HN6.out]; exact hwx
  obtain ⟨h7, g7⟩ := H6.out.set 0 (.int .i64 (s6.now.x + W)) (s6.toX (s6.now.x + W))
  have H7 := Lib.hid h7
  have P7 := Lib.hid (P6.out.trans g7)
  clear h7 g7
  go_upto_region 18 with fail
  generalize w6.setCell ⟨p, 0, none⟩ (.int .i64 (s6.now.x + W)) = w10 at *
  clear c0 f0 H6 P6
  have c0 : w10.cell? ⟨p, 0, none⟩ = some (.int .i64 (s6.now.x + W)) := H7.out.at_ 0 _
  have HC8 := Lib.hid (fun w' hb => show Calls Tryz.prog 93 #[.pointer (some ⟨p, 0, none⟩)] w' (fun e w'' => e = .returned (.int .i64 s.main.cols) ∧ w'' = w') by
    have := colsS_any (H7.out.below (w' := w') hb)
    rw [show (s6.toX (s6.now.x + W)).main.cols = s.main.cols from HM6.out] at this
    exact this)
  go_quiet (first | (go_at_call 93; exact Calls.quiet_of_same (HC8.out _ (below_drewN (Below.refl _ _) _))))
  have HB11 := Lib.hid (below_drewN (Below.refl w10.heap.size w10) nq)
  have H8 := Lib.hid (H7.out.below HB11.out)
  have P8 := Lib.hid (P7.out.below HB11.out)
  have HC9 := Lib.hid (HC8.out _ HB11.out)
  generalize w10.drewN nq = w11 at *
  clear c0 HC8 H7 P7
  have c0 : w11.cell? ⟨p, 0, none⟩ = some (.int .i64 (s6.now.x + W)) := H8.out.at_ 0 _
  have c2 : w11.cell? ⟨p, 2, none⟩ = some (.bool s6.now.wait) := H8.out.at_ 2 _
  have c37 : w11.cell? ⟨p, 37, none⟩ = some (.int .i32 s6.last) := H8.out.at_ 37 _
  have f0 := H8.out.fz 0
  have f2 := H8.out.fz 2
  have f37 := H8.out.fz 37
  have hwc : IntKind.i64.wrap ((s.main.cols : Int) - 1) = (s.main.cols : Int) - 1 := by have := HC1.out; have := HC2.out; exact wrap64_id _ (by omega) (by omega)
  obtain ⟨b5, hb5⟩ : ∃ b5, b5 = decide ((s.main.cols : Int) ≤ s6.now.x + W) := ⟨_, rfl⟩
  rw [← hb5]
  have HB5 := Lib.hid hb5.symm
  clear hb5
  cases b5
  rotate_left
  · have d5 := HB5
    obtain ⟨h9, g9⟩ := H8.out.set 0 (.int .i64 ((s.main.cols : Int) - 1)) (s6.toX ((s.main.cols : Int) - 1))
    obtain ⟨h10, g10⟩ := h9.set 2 (.bool wr) { s6 with now := { s6.now with x := (s.main.cols : Int) - 1, wait := wr } }
    obtain ⟨h11, g11⟩ := h10.set 37 (.int .i32 r0) { s6 with now := { s6.now with x := (s.main.cols : Int) - 1, wait := wr }, last := r0 }
    have HD := Lib.hid (show Does B C p w _ (s.print r0) ps by
      rw [HPR2.out, HLB.out, show s6.cols = (s.main.cols : Int) by unfold Scr.cols; rw [HM6.out], d5.out]
      refine ⟨_, ?_, P8.out.trans ((g9.trans g10).trans g11)⟩
      have e : s6.past true wr W = { s6 with now := { s6.now with x := (s.main.cols : Int) - 1, wait := wr } } := by
        show ({ s6 with now := { s6.now with x := s6.cols - 1, wait := wr } } : Scr) = _
        unfold Scr.cols; rw [HM6.out]
      rw [e]
      exact h11)
    clear h9 g9 h10 g10 h11 g11
    go_wp2_with fail
    refine HC9.out.mono ?_
    rintro e w12 ⟨rfl, rfl⟩
    go_wp2_with fail
    go_end0
    exact ⟨rfl, HD.out⟩
  · have d5 := HB5
    obtain ⟨h11, g11⟩ := H8.out.set 37 (.int .i32 r0) { s6.toX (s6.now.x + W) with last := r0 }
    have HD := Lib.hid (show Does B C p w _ (s.print r0) ps by
      rw [HPR2.out, HLB.out, show s6.cols = (s.main.cols : Int) by unfold Scr.cols; rw [HM6.out], d5.out]
      exact ⟨_, h11, P8.out.trans g11⟩)
    clear h11 g11
    go_wp2_with fail
    go_end0
    exact ⟨rfl, HD.out⟩
end Go.Proofs.YtlfdgkiliegaiaaGreatDoor
