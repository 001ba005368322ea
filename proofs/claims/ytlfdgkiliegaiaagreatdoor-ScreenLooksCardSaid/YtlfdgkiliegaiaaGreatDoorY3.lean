/- Package grid, texts laid together: G6 G7 G8 G9 M4. -/
import Derived.Test.YtlfdgkiliegaiaaGreatDoorY2
import Derived.Test.YtlfdgkiliegaiaaGreatDoorShelf
import Derived.Lib.Builder
import Derived.Lib.FrozenHead
import Derived.Lib.RuneBytes
import Derived.Lib.UnsafeStr
import Derived.Deep.RegionHeld3
/- Walks of package grid: Text; strings.Builder's WriteRune. -/
namespace Go.Proofs.YtlfdgkiliegaiaaGreatDoor
open Go.RowKit

theorem bld_info : (Tryz.prog.info? 118).map (·.size) = some 2 := by kernel_rfl
theorem bld_lies : liesAt Tryz.prog Tryz.prog.depth 118 (2 / Tryz.prog.cellsOf 118) 0 118 1 = true := by kernel_rfl
set_option maxHeartbeats 1000000 in
set_option maxRecDepth 100000 in
theorem check_used (b : Nat) (w : World) (h0 : w.cell? ⟨b, 0, none⟩ = some (.pointer (some ⟨b, 0, none⟩))) :
    Calls Tryz.prog 114 #[.pointer (some ⟨b, 0, none⟩)] w fun e w' => e = .returned (.tuple #[]) ∧ w' = w := by
  obtain ⟨j, hj, _⟩ := Option.map_eq_some_iff.1 bld_info
  have hne := fun (wx : World) => Lib.run_neq_ptr_same (P := Tryz.prog) (w := wx) ⟨b, 0, none⟩ Tryz.underlying116 hj
  go_enter Tryz.func114, Tryz.ntmps114
  go_wp2_with fail
  go_end0
  exact ⟨rfl, rfl⟩
set_option maxHeartbeats 1000000 in
set_option maxRecDepth 100000 in
theorem check_fresh (b : Nat) (w : World) (h0 : w.cell? ⟨b, 0, none⟩ = some (.pointer none)) (hsh : w.shape? b = some (118, 2)) (hfz : w.frozen? ⟨b, 0, none⟩ = false) :
    Calls Tryz.prog 114 #[.pointer (some ⟨b, 0, none⟩)] w fun e w' => e = .returned (.tuple #[]) ∧ w' = w.setCell ⟨b, 0, none⟩ (.pointer (some ⟨b, 0, none⟩)) := by
  obtain ⟨j, hj, hjs⟩ := Option.map_eq_some_iff.1 bld_info
  have hto := Lib.run_to_unsafe (P := Tryz.prog) w ⟨b, 0, none⟩ Tryz.underlying116 Tryz.underlying206 hj (by rw [hjs]; decide) hsh (Nat.zero_lt_succ 1)
  have hfr := Lib.run_from_unsafe (P := Tryz.prog) w ⟨b, 0, none⟩ Tryz.underlying206 Tryz.underlying116 hj hsh bld_lies
  go_enter Tryz.func114, Tryz.ntmps114
  go_wp2_with fail
  rw [run_callFunc_extern Tryz.func170 (by kernel_rfl) (by kernel_rfl) (by kernel_rfl) (e := Extern.AbiNoEscape.same) (by kernel_rfl)]
  rw [Lib.run_noEscape]
  simp only [Result.andThen]
  rw [Oper.upon_value]
  go_wp2_with fail
  go_end0
  exact ⟨rfl, rfl⟩
theorem check_any (B b : Nat) (bs : List Value) (w : World) (h : Lib.IsBuilderF 118 5 B b bs w) :
    Calls Tryz.prog 114 #[.pointer (some ⟨b, 0, none⟩)] w fun e w' => e = .returned (.tuple #[]) ∧ Lib.BuilderAtF 118 5 B b (.pointer (some ⟨b, 0, none⟩)) bs w' ∧ Below B w w' := by
  rcases h with h | h
  · refine (check_fresh b w h.cell0 h.shape h.frozen0).mono ?_
    rintro e w' ⟨rfl, rfl⟩
    exact ⟨rfl, h.used _, (Below.refl B w).setCell (p := ⟨b, 0, none⟩) h.1 _⟩
  · refine (check_used b w h.cell0).mono ?_
    rintro e w' ⟨rfl, rfl⟩
    exact ⟨rfl, h, Below.refl B _⟩
set_option maxHeartbeats 2000000 in
set_option maxRecDepth 100000 in
theorem writeRune_any (B b : Nat) (bs : List Value) (r : Int) (hr0 : -2147483648 ≤ r) (hr1 : r ≤ 2147483647) (w : World) (h : Lib.IsBuilderF 118 5 B b bs w) (hlen : bs.length + 4 ≤ 140737488355328) (hBw : B ≤ w.heap.size) :
    Calls Tryz.prog 73 #[.pointer (some ⟨b, 0, none⟩), .int .i32 r] w fun e w' => (∃ n, e = .returned (.tuple #[.int .i64 n, .nilIface])) ∧ Lib.IsBuilderF 118 5 B b (bs ++ Lib.runeCells r) w' ∧ Below B w w' := by
  have hk4 := Lib.runeCells_le r
  have HC := Lib.hid (check_any B b bs w h)
  clear h
  go_enter Tryz.func73, Tryz.ntmps73
  go_wp2_with fail
  refine HC.out.mono ?_
  rintro e w1 ⟨rfl, h1, hb1⟩
  obtain ⟨hB, v, hbk, hown, hne⟩ := h1
  obtain ⟨ao, cap, rfl⟩ : ∃ ao cap, v = .slice ao bs.length cap := by
    rcases hown.2 with ⟨hv, h0⟩ | ⟨g, cap, cur, fz, hv, _⟩
    · exact ⟨none, 0, by rw [hv, h0]⟩
    · exact ⟨_, _, hv⟩
  have c0 : w1.cell? ⟨b, 0, none⟩ = some (.pointer (some ⟨b, 0, none⟩)) := blk_cell hbk 0
  have c1 : w1.cell? ⟨b, 1, none⟩ = some (.slice ao bs.length cap) := blk_cell hbk 1
  have HA := Lib.hid (Tryz.utf8_AppendRune_row B _ bs.length bs r hr0 hr1 w1 hown hlen (by have := hb1.size; omega))
  go_wp2_with fail
  refine HA.out.mono ?_
  rintro e w2 ⟨v', rfl, hown', o, hgrow⟩
  have hlt := heap_lt hbk
  have hb2 : w2.heap[b]? = some (.cells #[.pointer (some ⟨b, 0, none⟩), .slice ao bs.length cap] 118 (0, 0)) := by
    rw [hgrow.block b (by simp; omega) (fun e => hne e.symm), heap_alloc_old w1 _ hlt]
    exact hbk
  have d0 : w2.cell? ⟨b, 0, none⟩ = some (.pointer (some ⟨b, 0, none⟩)) := blk_cell hb2 0
  have d1 : w2.cell? ⟨b, 1, none⟩ = some (.slice ao bs.length cap) := blk_cell hb2 1
  have f1 : w2.frozen? ⟨b, 1, none⟩ = false := blk_free hb2 1
  obtain ⟨g, cap', rfl⟩ : ∃ g cap', v' = .slice (some ⟨g, 0, none⟩) (bs.length + (Lib.runeCells r).length) cap' := by
    rcases hown'.2 with ⟨_, h0⟩ | ⟨g, cap', cur, fz, hv, _⟩
    · omega
    · exact ⟨g, cap', hv⟩
  have HP := Lib.hid (Lib.BuilderAtF.put (T := 118) (e := 5) hB hb2 (bs' := bs ++ Lib.runeCells r) (by simpa using hown') (by decide))
  have HB := Lib.hid (((hb1.alloc (by have := hb1.size; omega) o).grown hgrow (by have := hb1.size; simp; omega) (fun k hk => (hown.lt k hk).1)).setCell (p := ⟨b, 1, none⟩) hB (.slice (some ⟨g, 0, none⟩) (bs.length + (Lib.runeCells r).length) cap'))
  clear HC HA hown hown' hgrow hb1 hbk
  generalize hw3 : w2.setCell ⟨b, 1, none⟩ (.slice (some ⟨g, 0, none⟩) (bs.length + (Lib.runeCells r).length) cap') = w3 at *
  have e1 : w3.cell? ⟨b, 1, none⟩ = some (.slice (some ⟨g, 0, none⟩) (bs.length + (Lib.runeCells r).length) cap') := by
    rw [← hw3]; exact World.cell?_setCell_same' w2 _ _ (by rw [d1]; rfl)
  go_wp2_with fail
  refine ret2w rfl rfl rfl rfl ⟨⟨_, rfl⟩, .inr HP.out, HB.out⟩
end Go.Proofs.YtlfdgkiliegaiaaGreatDoor

/- Walks of package grid: Text. -/
namespace Go.Proofs.YtlfdgkiliegaiaaGreatDoor
open Go.RowKit

def cellsText (l : List Cel) : List UInt8 := l.flatMap fun c => if 0 < c.width then Lib.encodeRune c.rune else []
def textL (l : List Cel) : List UInt8 := cellsText (trimL l)
theorem trim_snoc (l : List Cel) (c : Cel) : trimL (l ++ [c]) = if c.rune == 32 then trimL l else l ++ [c] := by
  unfold trimL
  rw [List.reverse_append, List.reverse_singleton, List.singleton_append, List.dropWhile_cons]
  split
  · rfl
  · rw [List.reverse_cons, List.reverse_reverse]
theorem take_last (l : List Cel) (k : Nat) (h : k < l.length) : l.take (k + 1) = l.take k ++ [l.getD k noC] := take_succ_getD l noC k h
theorem byteCells_app (a b : List UInt8) : Lib.byteCells (a ++ b) = Lib.byteCells a ++ Lib.byteCells b := by simp [Lib.byteCells]
theorem cellsText_snoc (l : List Cel) (c : Cel) : cellsText (l ++ [c]) = cellsText l ++ (if 0 < c.width then Lib.encodeRune c.rune else []) := by
  simp [cellsText]
theorem enc4 (r : Int) : (Lib.byteCells (Lib.encodeRune r)).length ≤ 4 := by rw [Lib.byteCells_encodeRune]; exact (Lib.runeCells_le r).2
theorem cellsText_le (l : List Cel) : (Lib.byteCells (cellsText l)).length ≤ 4 * l.length := by
  induction l with
  | nil => simp [cellsText, Lib.byteCells]
  | cons c l ih =>
    have e : cellsText (c :: l) = (if 0 < c.width then Lib.encodeRune c.rune else []) ++ cellsText l := rfl
    rw [e, byteCells_app, List.length_append, List.length_cons]
    have := enc4 c.rune
    split
    · omega
    · simp [Lib.byteCells] at ih ⊢; omega
theorem bld_alloc {T e : TypeId} {B b : Nat} {bs : List Value} {w : World} (h : Lib.IsBuilderF T e B b bs w) (o : Obj) : Lib.IsBuilderF T e B b bs (w.alloc o) := h.elim (fun x => .inl (x.alloc o)) (fun x => .inr (x.alloc o))
set_option maxHeartbeats 4000000 in
set_option maxRecDepth 100000 in
theorem text_any {T : Nat → Nat} {p : Nat} {w : World} {g : Gr} (h : GM T p w g) (y : Int) :
    Calls Tryz.prog 33 #[.pointer (some ⟨p, 0, none⟩), .int .i64 y] w fun e w' => e = .returned (.string ⟨(textL (g.row y).cells).toArray⟩) ∧ Below w.heap.size w w' := by
  have HW := Lib.hid (wf_row h.wf y)
  have HR := Lib.hid (row_any h y)
  clear h
  generalize g.row y = r at *
  obtain ⟨l, wrap⟩ := r
  dsimp only at HW HR ⊢
  go_enter Tryz.func33, Tryz.ntmps33
  go_wp2_with fail
  refine HR.out.mono ?_
  rintro e w2 ⟨v, rfl, b2, o2⟩
  have HB2 := Lib.hid b2
  have o2' := ownC_below o2 b2
  clear b2 o2
  obtain ⟨va, vc, rfl⟩ := ownC_sl o2'
  have hln := HW.out.1
  have hnc : l.length ≤ vc := by
    rcases o2'.2 with ⟨e, h0⟩ | ⟨_, _, _, e, _, _, h1, _⟩
    · omega
    · simp only [Value.slice.injEq] at e; omega
  have HO := Lib.hid o2'
  clear o2'
  have hf := row_field0 (.slice va l.length vc) (.bool wrap)
  go_wp2_with fail
  clear hf
  go_loopw [5] (fun sv wr => ∃ k : Nat, k ≤ l.length ∧ sv = .slice va k vc ∧ wr = w2 ∧ Hid (trimL (l.take k) = trimL l)) (fun sv _ => match sv with | .slice _ k _ => k | _ => 0)
  case atStart => exact ⟨l.length, Nat.le_refl _, rfl, rfl, Lib.hid (by rw [List.take_length])⟩
  case round =>
    obtain ⟨k, hk, rfl, hw, ht⟩ := hrel
    have hw' := hw.symm
    subst hw'
    have HT := Lib.hid ht.out
    clear ht
    by_cases hstop : 0 < k ∧ (l.getD (k - 1) noC).rune = 32
    · obtain ⟨b, off, c, e2, _, _⟩ := ownC_pos HO.out (by omega)
      simp only [Value.slice.injEq] at e2
      obtain ⟨rfl, _, rfl⟩ := e2
      obtain ⟨c0, _⟩ := ownC_cel HO.out (k - 1) (by omega) rfl
      rw [hstop.2] at c0
      have hix := idx_at (P := Tryz.prog) (size := 5) Tryz.underlying68 cell_info b off k vc (k - 1) (by omega)
      rw [show ((k - 1 : Nat) : Int) = (k : Int) - 1 by omega] at hix
      have hsl := slice_h (P := Tryz.prog) (size := 5) Tryz.underlying68 cell_info (some ⟨b, off, none⟩) k vc (k - 1) (by omega)
      rw [show ((k - 1 : Nat) : Int) = (k : Int) - 1 by omega] at hsl
      have d1 : decide (0 < (k : Int)) = true := decide_eq_true (by omega)
      have d1' : decide (0 < k) = true := decide_eq_true (by omega)
      go_wp2_with fail
      go_roundw
      case rel =>
        refine ⟨k - 1, by omega, rfl, by trivial, ?_⟩
        have := HT.out
        rw [show k = (k - 1) + 1 by omega, take_last _ _ (by omega), trim_snoc, hstop.2] at this
        exact this
      case measure => simp only []; omega
    · have HE := Lib.hid (show trimL l = l.take k from by
        rw [← HT.out]
        rcases Nat.eq_zero_or_pos k with h0 | h0
        · subst h0; simp [trimL]
        · have e : l.take k = l.take (k - 1) ++ [l.getD (k - 1) noC] := by
            rw [← take_last _ _ (by omega), show k - 1 + 1 = k by omega]
          rw [e, trim_snoc, beq_eq_false_iff_ne.2 (fun e => hstop ⟨h0, e⟩)]
          simp)
      have hbld : Lib.IsBuilderF 118 5 w2.heap.size w2.heap.size (Lib.byteCells (cellsText (l.take 0))) (w2.alloc (.cells #[.pointer none, .slice none 0 0] 118)) :=
        Lib.IsBuilderF.of (.inl ⟨Nat.le_refl _, .slice none 0 0, blk_new _ _, World.ownsRow_nil _ _ _ _, by simp [Value.ownBlock]⟩)
      have hBb := Below.alloc (Below.refl w2.heap.size w2) (Nat.le_refl _) (.cells #[.pointer none, .slice none 0 0] 118)
      rcases Nat.eq_zero_or_pos k with h0 | h0
      case' inl =>
        have d1 : decide (0 < (k : Int)) = false := decide_eq_false (by omega)
        have d1' : decide (0 < k) = false := decide_eq_false (by omega)
        go_wp2_with fail
      case' inr =>
        have d1 : decide (0 < (k : Int)) = true := decide_eq_true (by omega)
        have d1' : decide (0 < k) = true := decide_eq_true (by omega)
        obtain ⟨b, off, c, e2, _, _⟩ := ownC_pos HO.out (by omega)
        simp only [Value.slice.injEq] at e2
        obtain ⟨rfl, _, rfl⟩ := e2
        obtain ⟨c0, _⟩ := ownC_cel HO.out (k - 1) (by omega) rfl
        have d3 : ((l.getD (k - 1) noC).rune == 32) = false := beq_eq_false_iff_ne.2 (fun e => hstop ⟨h0, e⟩)
        have hix := idx_at (P := Tryz.prog) (size := 5) Tryz.underlying68 cell_info b off k vc (k - 1) (by omega)
        rw [show ((k - 1 : Nat) : Int) = (k : Int) - 1 by omega] at hix
        generalize (l.getD (k - 1) noC).rune = rn at *
        go_wp2_with fail
      all_goals
        go_loopw [8, 33] (fun _ iv wx => ∃ i : Nat, i ≤ k ∧ iv = .int .i64 i ∧ Below w2.heap.size w2 wx ∧ Lib.IsBuilderF 118 5 w2.heap.size w2.heap.size (Lib.byteCells (cellsText (l.take i))) wx) (fun _ iv _ => k - (intOf iv).toNat)
        case atStart => exact ⟨0, Nat.zero_le _, rfl, hBb, hbld⟩
        case round =>
          obtain ⟨i, hi, rfl, hb, hbd⟩ := hrel
          have HB := Lib.hid hb
          have HD := Lib.hid hbd
          have hbs := hb.size
          clear hb hbd
          by_cases hlt : i < k
          · (try (exfalso; omega))
            all_goals
              have ho := ownC_below HO.out HB.out
              obtain ⟨b', off', c', e2, _, _⟩ := ownC_pos ho (by omega)
              simp only [Value.slice.injEq, Option.some.injEq] at e2
              obtain ⟨e3, _, rfl⟩ := e2
              first | subst e3 | (simp only [Addr.mk.injEq] at e3; obtain ⟨e4, e5, _⟩ := e3; have e4' := e4.symm; have e5' := e5.symm; subst e4'; subst e5')
              obtain ⟨q0, q1, q2, q3, q4⟩ := ownC_cel ho i (by omega) rfl
              have hix2 := idx_at (P := Tryz.prog) (size := 5) Tryz.underlying68 cell_info b' off' k vc i hlt
              have hok := HW.out.2 (l.getD i noC) (by rw [List.getD_eq_getElem?_getD, List.getElem?_eq_getElem (by omega)]; exact List.getElem_mem _)
              have hsn := cellsText_snoc (l.take i) (l.getD i noC)
              rw [← take_last l i (by omega)] at hsn
              have HSN := Lib.hid hsn
              have hcl := cellsText_le (l.take i)
              rw [List.length_take, Nat.min_eq_left (by omega)] at hcl
              clear ho hsn
              generalize l.getD i noC = cc at *
              obtain ⟨cr, cw, cs⟩ := cc
              obtain ⟨hr0, hr1⟩ := hok
              dsimp only at q0 q1 q2 q3 q4 hr0 hr1 HSN
              have HD2 := Lib.hid (bld_alloc HD.out (.cells #[.int .i32 cr, .int .i64 cw, .int .i64 cs.fg, .int .i64 cs.bg, .int .i64 cs.attr] 133))
              have HB2' := Lib.hid (HB.out.alloc hbs (.cells #[.int .i32 cr, .int .i64 cw, .int .i64 cs.fg, .int .i64 cs.bg, .int .i64 cs.attr] 133))
              by_cases hcw : 0 < cw
              · have dw : decide (0 < cw) = true := decide_eq_true hcw
                have HWR := Lib.hid (writeRune_any w2.heap.size w2.heap.size _ cr hr0 hr1 _ HD2.out (by omega) (by simp; omega))
                go_wp2_with fail
                refine HWR.out.mono ?_
                rintro e w5 ⟨⟨nn, rfl⟩, h5, b5⟩
                have HD5 := Lib.hid h5
                have HB5 := Lib.hid (HB2'.out.trans b5)
                clear h5 b5 HWR
                go_wp2_with fail
                go_roundw
                case rel =>
                  refine ⟨i + 1, by omega, by go_num, HB5.out, ?_⟩
                  rw [HSN.out, if_pos hcw, byteCells_app, Lib.byteCells_encodeRune]
                  exact HD5.out
                case measure => simp [intOf] <;> omega
              · have dw : decide (0 < cw) = false := decide_eq_false hcw
                go_wp2_with fail
                go_roundw
                case rel =>
                  refine ⟨i + 1, by omega, by go_num, HB2'.out, ?_⟩
                  rw [HSN.out, if_neg hcw, List.append_nil]
                  exact HD2.out
                case measure => simp [intOf] <;> omega
          · have hik : i = k := by omega
            subst hik
            have HST := Lib.hid (Tryz.Builder_String_any_f w2.heap.size w2.heap.size _ wr HD.out hbs)
            go_wp2_with fail
            refine HST.out.mono ?_
            rintro e w6 ⟨rfl, _, b6⟩
            have HB6 := Lib.hid (HB2.out.trans ((HB.out.trans b6).mono HB2.out.size))
            clear b6
            go_wp2_with fail
            go_ret
            refine ⟨?_, HB6.out⟩
            unfold textL
            rw [HE.out]
            first | rfl | (rw [h0]; rfl)
end Go.Proofs.YtlfdgkiliegaiaaGreatDoor

/- Walks of package grid: on, Wrap; a row's cells turned. -/
namespace Go.Proofs.YtlfdgkiliegaiaaGreatDoor
open Go.RowKit

/-- What style.Right tells of a style, in any world behind w0. -/
def RightIn (w0 : World) (s : Sty) : Prop := ∀ w, Below w0.heap.size w0 w → Calls Tryz.prog 18 #[s.val] w fun e w' => e = .returned (.bool (okS s)) ∧ Below w.heap.size w w'
theorem RightIn.below {w0 w1 : World} {s : Sty} (h : RightIn w0 s) (b : Below w0.heap.size w0 w1) : RightIn w1 s := fun w hb => h w (b.trans (hb.mono b.size))
theorem name_plain (w : World) : Calls Tryz.prog 59 #[.int .i64 (-1)] w fun e w' => e = .returned (.string ⟨#[100, 101, 102, 97, 117, 108, 116]⟩) ∧ w' = w := by
  go_enter Tryz.func59, Tryz.ntmps59
  go_wp2_with fail
  go_ret
  exact ⟨rfl, rfl⟩
set_option maxRecDepth 100000 in
theorem right_plain {w0 : World} : RightIn w0 plainS := by
  intro w _
  have HB := Lib.hid ((Below.refl w.heap.size w).alloc (Nat.le_refl _) (.cells #[.int .i64 (-1), .int .i64 (-1), .int .i64 0] 35))
  unfold Sty.val plainS
  go_enter Tryz.func18, Tryz.ntmps18
  go_wp2_with fail
  refine (name_plain _).mono ?_
  rintro e w2 ⟨rfl, rfl⟩
  go_wp2_with fail
  refine (name_plain _).mono ?_
  rintro e w2 ⟨rfl, rfl⟩
  go_wp2_with fail
  go_ret
  exact ⟨rfl, HB.out⟩
set_option maxRecDepth 100000 in
theorem on_no {T : Nat → Nat} {p : Nat} {w : World} {g : Gr} (h : GM T p w g) (x y : Int) (s : Sty) (hs : RightIn w s) (hn : g.onIt x y s = false) :
    Calls Tryz.prog 206 #[.pointer (some ⟨p, 0, none⟩), .int .i64 x, .int .i64 y, s.val] w fun e w' => e = .returned (.slice none 0 0) ∧ Below w.heap.size w w' := by
  have hBz := Below.alloc (Below.refl w.heap.size w) (Nat.le_refl _) (.cells #[.int .i64 s.fg, .int .i64 s.bg, .int .i64 s.attr] 35)
  have HB := Lib.hid hBz
  have h' := h.below hBz
  have wf := h.wf
  clear h
  obtain ⟨vr, vo, Lr, Lo, h⟩ := h'
  obtain ⟨c0, c1, c2, c3⟩ := gm_cells h
  have hl := ownC_ln Tryz.underlying126 h.rr.own
  rw [(rows_len h).1] at hl
  clear h
  have HN := Lib.hid hn
  have w1 := wf.r2
  have w2 := wf.c2
  clear hn wf
  unfold Gr.onIt at HN
  unfold Sty.val
  by_cases h0 : 0 ≤ y
  rotate_left
  · have d0 : decide (y < 0) = true := decide_eq_true (by omega)
    go_enter Tryz.func206, Tryz.ntmps206
    go_wp2_with fail
    go_ret
    exact ⟨rfl, HB.out⟩
  have d0 : decide (y < 0) = false := decide_eq_false (by omega)
  by_cases h1 : y < (g.rows.length : Int)
  rotate_left
  · have d1 : decide ((g.rows.length : Int) ≤ y) = true := decide_eq_true (by omega)
    go_enter Tryz.func206, Tryz.ntmps206
    go_wp2_with fail
    go_ret
    exact ⟨rfl, HB.out⟩
  have d1 : decide ((g.rows.length : Int) ≤ y) = false := decide_eq_false (by omega)
  by_cases h2 : 0 ≤ x
  rotate_left
  · have d2 : decide (x < 0) = true := decide_eq_true (by omega)
    go_enter Tryz.func206, Tryz.ntmps206
    go_wp2_with fail
    go_ret
    exact ⟨rfl, HB.out⟩
  have d2 : decide (x < 0) = false := decide_eq_false (by omega)
  by_cases h3 : x < (g.cols : Int)
  rotate_left
  · have d3 : decide ((g.cols : Int) ≤ x) = true := decide_eq_true (by omega)
    go_enter Tryz.func206, Tryz.ntmps206
    go_wp2_with fail
    go_ret
    exact ⟨rfl, HB.out⟩
  have d3 : decide ((g.cols : Int) ≤ x) = false := decide_eq_false (by omega)
  have hok : okS s = false := by
    have := HN.out
    rw [decide_eq_true h0, decide_eq_true h1, decide_eq_true h2, decide_eq_true h3] at this
    simpa using this
  have HR := Lib.hid hs
  clear hs
  go_enter Tryz.func206, Tryz.ntmps206
  go_wp2_with fail
  refine (HR.out _ HB.out).mono ?_
  rintro e w3 ⟨rfl, b3⟩
  rw [hok]
  have HB3 := Lib.hid (HB.out.trans (b3.mono (by simp)))
  clear b3
  go_wp2_with fail
  go_ret
  exact ⟨rfl, HB3.out⟩
set_option maxRecDepth 100000 in
theorem on_yes {T : Nat → Nat} {p : Nat} {vr vo : Value} {Lr Lo : List (Value × Rw)} {w : World} {g : Gr} (h0 : GAt T p vr vo Lr Lo w g) (x y : Nat) (s : Sty) (hs : RightIn w s) (hx : x < g.cols) (hy : y < Lr.length) (hok : okS s = true) :
    Calls Tryz.prog 206 #[.pointer (some ⟨p, 0, none⟩), .int .i64 x, .int .i64 y, s.val] w fun e w' => e = .returned Lr[y].1 ∧ Below w.heap.size w w' := by
  have hBz := Below.alloc (Below.refl w.heap.size w) (Nat.le_refl _) (.cells #[.int .i64 s.fg, .int .i64 s.bg, .int .i64 s.attr] 35)
  have HB := Lib.hid hBz
  have H := Lib.hid (h0.mod (.of_below hBz) id id id (fun _ => id))
  have wf := h0.wf
  have w1 := wf.r2
  have w2 := wf.c2
  have hlen := (rows_len h0).1
  clear h0 wf
  obtain ⟨c0, c1, c2, c3⟩ := gm_cells H.out
  have hl := ownC_ln Tryz.underlying126 H.out.rr.own
  have d0 : decide ((y : Int) < 0) = false := decide_eq_false (by omega)
  have d1 : decide ((Lr.length : Int) ≤ (y : Int)) = false := decide_eq_false (by omega)
  have d1' : decide (Lr.length ≤ y) = false := decide_eq_false (by omega)
  have d2 : decide ((x : Int) < 0) = false := decide_eq_false (by omega)
  have d3 : decide ((g.cols : Int) ≤ (x : Int)) = false := decide_eq_false (by omega)
  have d3' : decide (g.cols ≤ x) = false := decide_eq_false (by omega)
  clear hlen
  have HR := Lib.hid hs
  clear hs hBz
  unfold Sty.val
  go_enter Tryz.func206, Tryz.ntmps206
  go_wp2_with fail
  refine (HR.out _ HB.out).mono ?_
  rintro e w3 ⟨rfl, b3⟩
  rw [hok]
  have HB3 := Lib.hid (HB.out.trans (b3.mono (by simp)))
  have H3 := H.out.mod (.of_below b3) id id id (fun _ => id)
  clear b3 c0 c1 c2 c3
  obtain ⟨c0, c1, c2, c3⟩ := gm_cells H3
  obtain ⟨b, off, c, rfl, _, _⟩ := ownC_pos H3.rr.own (by omega)
  obtain ⟨r0, r1⟩ := ownC_row2 H3.rr.own y hy
  have hix := idx_at (P := Tryz.prog) (size := 2) Tryz.underlying126 row_info b off Lr.length c y hy
  have hxs := ownC_sl (H3.ca Lr[y] (List.mem_append_left _ (List.getElem_mem hy))).own
  generalize hxv : Lr[y].1 = xv at *
  obtain ⟨xa, xc, rfl⟩ := hxs
  clear H3
  go_wp2_with fail
  exact ret1v rfl rfl rfl ⟨by rw [hxv]; rfl, HB3.out⟩
/-- A row's cells turned. -/
theorem GAt.turned {T : Nat → Nat} {p : Nat} {vr vo : Value} {Lr Lo : List (Value × Rw)} {w w' : World} {g : Gr} (h : GAt T p vr vo Lr Lo w g) (k : Nat) (hk : k < Lr.length) {b : Nat} (hb : Lr[k].1.ownBlock = some b)
    (m : Mod T (fun t => t = 10 + b) w w') (f : List Cel → List Cel) (ho : OwnC w' 0 5 Lr[k].1 (f Lr[k].2.cells).length (cvals (f Lr[k].2.cells))) (hl : (f Lr[k].2.cells).length = g.cols) (hok : ∀ c ∈ f Lr[k].2.cells, c.Ok) :
    GM T p w' (g.turn k f) := by
  have hlen := (rows_len h).1
  have hr : g.rows.getD k noR = Lr[k].2 := by
    rw [← h.er, List.getD_eq_getElem?_getD, List.getElem?_map, List.getElem?_eq_getElem hk]; rfl
  have hkb : ∀ k', Lr[k].1.ownBlock = some k' → k' = b := fun k' e => by rw [hb] at e; injection e with e; exact e.symm
  have hcb : ∀ x ∈ Lr ++ Lo, x.1.ownBlock = some b → x ∈ Lr ++ Lo := fun x hx _ => hx
  have hset : (Lr.set k (Lr[k].1, { Lr[k].2 with cells := f Lr[k].2.cells })).map (·.1.ownBlock) = Lr.map (·.1.ownBlock) := by
    rw [List.map_set]
    apply List.ext_getElem?
    intro j
    by_cases hj : j = k
    · subst hj
      rw [List.getElem?_set_self (by simpa using hk), List.getElem?_map, List.getElem?_eq_getElem hk]; rfl
    · rw [List.getElem?_set_ne (fun e => hj e.symm)]
  have hrv : rowVals (Lr.set k (Lr[k].1, { Lr[k].2 with cells := f Lr[k].2.cells })) = rowVals Lr := by
    unfold rowVals
    rw [List.flatMap_def, List.flatMap_def, List.map_set]
    congr 1
    apply List.ext_getElem?
    intro j
    by_cases hj : j = k
    · subst hj
      rw [List.getElem?_set_self (by simpa using hk), List.getElem?_map, List.getElem?_eq_getElem hk]; rfl
    · rw [List.getElem?_set_ne (fun e => hj e.symm)]
  refine ⟨vr, vo, Lr.set k (Lr[k].1, { Lr[k].2 with cells := f Lr[k].2.cells }), Lo, ⟨fun k' hk' => Nat.lt_of_lt_of_le (h.lt k' hk') m.size, ?_, h.tp, ?_, h.ro.mod m (by omega), ?_, h.eo, fun x hx => ?_, ?_, ?_⟩⟩
  · exact (m.block p (heap_lt h.blk) (by rw [h.tp]; omega)).trans h.blk
  · rw [List.length_set, hrv]
    exact h.rr.mod m (by omega)
  · rw [List.map_set, h.er]
    unfold Gr.turn
    rw [hr]
  · rcases List.mem_append.1 hx with hx | hx
    · obtain ⟨j, hj⟩ := List.mem_iff_getElem?.1 hx
      by_cases hjk : j = k
      · subst hjk
        rw [List.getElem?_set_self hk] at hj
        injection hj with hj
        subst hj
        exact ⟨ho, (h.ca _ (List.mem_append_left _ (List.getElem_mem hk))).tag⟩
      · rw [List.getElem?_set_ne (fun e => hjk e.symm)] at hj
        have hjl : j < Lr.length := (List.getElem?_eq_some_iff.1 hj).1
        have hje : Lr[j] = x := (List.getElem?_eq_some_iff.1 hj).2
        have hxm : x ∈ Lr ++ Lo := List.mem_append_left _ (List.mem_of_getElem? hj)
        refine (h.ca x hxm).mod m (fun q hq e => ?_)
        have e' : q = b := by omega
        subst e'
        have hnd := h.nd
        rw [List.map_append, List.nodup_append] at hnd
        have hn1 := hnd.1
        have hh := List.pairwise_iff_getElem.1 hn1
        have g1 : ∀ i (hi : i < Lr.length), (Lr.map (·.1.ownBlock))[i]'(by simpa using hi) = Lr[i].1.ownBlock := fun i hi => by rw [List.getElem_map]
        rcases Nat.lt_trichotomy j k with hlt | heq | hgt
        · refine hh j k (by simpa using hjl) (by simpa using hk) hlt ?_
          rw [g1 j hjl, g1 k hk, hje, hq, hb]
        · exact hjk heq
        · refine hh k j (by simpa using hk) (by simpa using hjl) hgt ?_
          rw [g1 j hjl, g1 k hk, hje, hq, hb]
    · have hxm : x ∈ Lr ++ Lo := List.mem_append_right _ hx
      refine (h.ca x hxm).mod m (fun q hq e => ?_)
      have e' : q = b := by omega
      subst e'
      have hnd := h.nd
      rw [List.map_append, List.nodup_append] at hnd
      exact hnd.2.2 _ (List.mem_map_of_mem (List.getElem_mem hk)) _ (List.mem_map_of_mem hx) (by rw [hb, hq])
  · rw [List.map_append, hset, ← List.map_append]; exact h.nd
  · have wf := h.wf
    refine ⟨wf.c1, wf.c2, ?_, ?_, wf.li, wf.ol, fun r hr' => ?_⟩
    · show 1 ≤ (g.rows.set k _).length
      rw [List.length_set]; exact wf.r1
    · show (g.rows.set k _).length ≤ 120
      rw [List.length_set]; exact wf.r2
    · have hr2 : r ∈ g.rows.set k { g.rows.getD k noR with cells := f (g.rows.getD k noR).cells } ++ g.old := hr'
      rcases List.mem_append.1 hr2 with hm | hm
      · rcases List.mem_or_eq_of_mem_set hm with hm | rfl
        · exact wf.ce r (List.mem_append_left _ hm)
        · rw [hr]
          exact ⟨hl, hok⟩
      · exact wf.ce r (List.mem_append_right _ hm)
end Go.Proofs.YtlfdgkiliegaiaaGreatDoor

/- Walks of package grid: Put. -/
namespace Go.Proofs.YtlfdgkiliegaiaaGreatDoor
open Go.RowKit

def Gr.putOk (g : Gr) (x y : Int) (c : Cel) : Bool := g.onIt x y c.sty && (decide (1 ≤ c.width) && (c.width == wid c.rune && decide (x + c.width ≤ (g.cols : Int))))
def Gr.put (g : Gr) (x y : Int) (c : Cel) : Gr := if g.putOk x y c = true then g.turn y.toNat (fun l => layL l x.toNat c) else g
theorem wid_le (r : Int) : wid r ≤ 2 := by
  unfold wid
  repeat' split
  all_goals decide
theorem putAt_mem {α : Type} {l m : List α} {i : Nat} {x : α} (h : x ∈ putAt l i m) : x ∈ l ∨ x ∈ m := by
  unfold putAt at h
  rcases List.mem_append.1 h with h | h
  · rcases List.mem_append.1 h with h | h
    · exact .inl (List.mem_of_mem_take h)
    · exact .inr h
  · exact .inl (List.mem_of_mem_drop h)
theorem blank_ok (s : Sty) : (blankC s).Ok := ⟨by show (-2147483648 : Int) ≤ 32; decide, by show (32 : Int) ≤ 2147483647; decide⟩
theorem fillL_ok {l : List Cel} {x n : Nat} {s : Sty} (h : ∀ c ∈ l, c.Ok) : ∀ c ∈ fillL l x n s, c.Ok := fun c hc => by
  rcases putAt_mem hc with hc | hc
  · exact h c hc
  · rw [List.eq_of_mem_replicate hc]; exact blank_ok s
theorem cutL_ok {l : List Cel} {x : Int} (h : ∀ c ∈ l, c.Ok) : ∀ c ∈ cutL l x, c.Ok := by
  unfold cutL
  split
  · exact fillL_ok h
  · exact h
theorem putAt_two {α : Type} (l : List α) (x : Nat) (a b : α) (h : x + 2 ≤ l.length) : putAt (putAt l x [a]) (x + 1) [b] = putAt l x [a, b] := by
  apply List.ext_getElem?
  intro j
  rw [putAt_get _ _ _ (by rw [putAt_len _ _ _ (by simp; omega)]; simp; omega), putAt_get _ _ _ (by simp; omega), putAt_get _ _ _ (by simp; omega)]
  simp only [List.length_cons, List.length_nil]
  by_cases c1 : j < x
  · rw [if_pos (by omega), if_pos c1, if_pos c1]
  rw [if_neg c1, if_neg c1]
  by_cases c2 : j < x + 1
  · rw [if_pos c2, if_pos c2, if_pos (by omega), show j - x = 0 by omega]; rfl
  rw [if_neg c2]
  by_cases c3 : j < x + 1 + 1
  · rw [if_pos c3, if_pos (by omega), show j - (x + 1) = 0 by omega, show j - x = 1 by omega]; rfl
  · rw [if_neg c3, if_neg c2, if_neg (by omega)]
theorem layL_len {l : List Cel} {x : Nat} {c : Cel} (h : x + (if c.width = 2 then 2 else 1) ≤ l.length) : (layL l x c).length = l.length := by
  unfold layL
  rw [putAt_len _ _ _ (by
    rw [cutL_len, cutL_len]
    split
    · rename_i h2; rw [if_pos h2] at h; exact h
    · rename_i h2; rw [if_neg h2] at h; exact h), cutL_len, cutL_len]
theorem layL_ok {l : List Cel} {x : Nat} {c : Cel} (h : ∀ c ∈ l, c.Ok) (hc : c.Ok) : ∀ d ∈ layL l x c, d.Ok := fun d hd => by
  unfold layL at hd
  rcases putAt_mem hd with hd | hd
  · exact cutL_ok (cutL_ok h) d hd
  · split at hd
    · rcases List.mem_cons.1 hd with rfl | hd
      · exact hc
      · rw [List.mem_singleton] at hd; subst hd; exact ⟨by show (-2147483648 : Int) ≤ 0; decide, by show (0 : Int) ≤ 2147483647; decide⟩
    · rw [List.mem_singleton] at hd; subst hd; exact hc
set_option maxRecDepth 100000 in
set_option maxHeartbeats 8000000 in
theorem put_any {T : Nat → Nat} {p : Nat} {w : World} {g : Gr} (h : GM T p w g) (x y : Int) (c : Cel) (hs : RightIn w c.sty) (hck : c.Ok) :
    Calls Tryz.prog 156 #[.pointer (some ⟨p, 0, none⟩), .int .i64 x, .int .i64 y, c.val] w fun e w' => e = .returned (.tuple #[]) ∧ Within (own T w) w w' ∧ GM T p w' (g.put x y c) := by
  obtain ⟨cr, cw, cs⟩ := c
  dsimp only at hs
  have hBz := Below.alloc (Below.refl w.heap.size w) (Nat.le_refl _) (.cells #[.int .i32 cr, .int .i64 cw, .int .i64 cs.fg, .int .i64 cs.bg, .int .i64 cs.attr] 133)
  have hbk0 := blk_new w (.cells #[.int .i32 cr, .int .i64 cw, .int .i64 cs.fg, .int .i64 cs.bg, .int .i64 cs.attr] 133)
  have HG0 := Lib.hid (h.below hBz)
  have HLT := Lib.hid h.lt
  clear h
  cases hon : g.onIt x y cs
  · have HE := Lib.hid (show g.put x y ⟨cr, cw, cs⟩ = g by unfold Gr.put Gr.putOk; rw [hon]; rfl)
    have HON := Lib.hid (on_no HG0.out x y cs (hs.below hBz) hon)
    have hq := fun (wx : World) => Lib.run_eql_slice_nil (P := Tryz.prog) wx 68 133 none 0 0 0 0 Tryz.underlying68
    unfold Sty.val at HON
    unfold Cel.val
    go_enter Tryz.func156, Tryz.ntmps156
    go_wp2_with fail
    refine HON.out.mono ?_
    rintro e w2 ⟨rfl, b2⟩
    have HG2 := Lib.hid (HG0.out.below b2)
    have HB2 := Lib.hid (hBz.trans (b2.mono (by simp)))
    clear b2 HON
    go_wp2_with fail
    go_quiet (fail)
    go_wp2_with fail
    refine ret0w rfl rfl ⟨rfl, Within.of_below (below_drewN HB2.out nq), ?_⟩
    rw [HE.out]
    exact HG2.out.below (below_drewN (Below.refl _ _) nq)
  · have hon' := hon
    unfold Gr.onIt at hon'
    simp only [Bool.and_eq_true, decide_eq_true_eq] at hon'
    obtain ⟨n1, n2, n3, n4, n5⟩ := hon'
    obtain ⟨xn, rfl⟩ : ∃ k : Nat, x = (k : Int) := ⟨x.toNat, by omega⟩
    obtain ⟨yn, rfl⟩ : ∃ k : Nat, y = (k : Int) := ⟨y.toNat, by omega⟩
    obtain ⟨vr, vo, Lr, Lo, hA⟩ := HG0.out
    have hlen := (rows_len hA).1
    have hyl : yn < Lr.length := by omega
    have hcols := hA.wf.c2
    have hrc : Lr[yn].2.cells.length = g.cols := (hA.wf.ce _ (List.mem_append_left _ (by rw [← hA.er]; exact List.mem_map_of_mem (List.getElem_mem hyl)))).1
    have hrok : ∀ c ∈ Lr[yn].2.cells, c.Ok := (hA.wf.ce _ (List.mem_append_left _ (by rw [← hA.er]; exact List.mem_map_of_mem (List.getElem_mem hyl)))).2
    have hgr : g.rows.getD yn noR = Lr[yn].2 := by
      rw [← hA.er, List.getD_eq_getElem?_getD, List.getElem?_map, List.getElem?_eq_getElem hyl]; rfl
    have HON := Lib.hid (on_yes hA xn yn cs (hs.below hBz) (by omega) hyl n5)
    have hcx := hA.ca Lr[yn] (List.mem_append_left _ (List.getElem_mem hyl))
    have HC := Lib.hid hcx
    obtain ⟨b, off, vc, hxv, hnc, hcm⟩ := ownC_pos hcx.own (by omega)
    rw [hrc] at hxv hnc
    have HA := Lib.hid hA
    clear hA hcx
    rw [hxv] at HON
    have hq := fun (wx : World) => Lib.run_eql_slice_nil (P := Tryz.prog) wx 68 133 (some ⟨b, off, none⟩) g.cols vc 0 0 Tryz.underlying68
    unfold Sty.val at HON
    unfold Cel.val
    go_enter Tryz.func156, Tryz.ntmps156
    go_wp2_with fail
    refine HON.out.mono ?_
    rintro e w2 ⟨rfl, b2⟩
    have HG2 := Lib.hid (HG0.out.below b2)
    have HA2 := Lib.hid (HA.out.mod (.of_below b2) id id id (fun _ => id))
    have HB2 := Lib.hid (hBz.trans (b2.mono (by simp)))
    have hbk2 := blk_below hbk0 b2 (by simp)
    have c0 : w2.cell? ⟨w.heap.size, 0, none⟩ = some (.int .i32 cr) := blk_cell hbk2 0
    have c1 : w2.cell? ⟨w.heap.size, 1, none⟩ = some (.int .i64 cw) := blk_cell hbk2 1
    have c2 : w2.cell? ⟨w.heap.size, 2, none⟩ = some (.int .i64 cs.fg) := blk_cell hbk2 2
    have c3 : w2.cell? ⟨w.heap.size, 3, none⟩ = some (.int .i64 cs.bg) := blk_cell hbk2 3
    have c4 : w2.cell? ⟨w.heap.size, 4, none⟩ = some (.int .i64 cs.attr) := blk_cell hbk2 4
    clear b2 HON hbk0
    by_cases hw1 : 1 ≤ cw
    rotate_left
    · have d1 : decide (cw < 1) = true := decide_eq_true (by omega)
      have HE := Lib.hid (show g.put xn yn ⟨cr, cw, cs⟩ = g by unfold Gr.put Gr.putOk; rw [decide_eq_false hw1]; simp)
      go_wp2_with fail
      go_quiet (fail)
      go_wp2_with fail
      refine ret0w rfl rfl ⟨rfl, Within.of_below (below_drewN HB2.out nq), ?_⟩
      rw [HE.out]
      exact HG2.out.below (below_drewN (Below.refl _ _) nq)
    have d1 : decide (cw < 1) = false := decide_eq_false (by omega)
    have hwl := wid_le cr
    have hlt3 : w.heap.size < w2.heap.size := heap_lt hbk2
    have g0 := (gm_cells HA2.out).1
    have hbw := Below.refl w2.heap.size w2
    have HA3 := Lib.hid (HA2.out.mod (.of_below (Below.refl _ _).drew) id id id (fun _ => id))
    have HB3 := Lib.hid HB2.out.drew
    by_cases hw2 : cw = wid cr
    rotate_left
    · have d2 : (cw != wid cr) = true := by simp [bne, beq_eq_false_iff_ne.2 hw2]
      have HE := Lib.hid (show g.put xn yn ⟨cr, cw, cs⟩ = g by unfold Gr.put Gr.putOk; rw [beq_eq_false_iff_ne.2 hw2]; simp)
      go_upto_region 2 with fail
      refine wp_region_held_drew (S := (fun w' => w'.cell? ⟨w.heap.size, 0, none⟩ = some (.int .i32 cr) ∧ w'.cell? ⟨w.heap.size, 1, none⟩ = some (.int .i64 cw) ∧ w'.cell? ⟨p, 0, none⟩ = some (.int .i64 g.cols))) (by kernel_rfl) ⟨c0, c1, g0⟩ (fun hHeld => ?_)
      refine wpAnyH_take (i := 0) (oi := ?o201) (v := ?v0) ?h201 (by kernel_rfl) (by kernel_rfl) (by kernel_rfl) ?q201 (Or.inl ⟨?w201, ?y0⟩) hHeld ?r0
      case h201 => (simp only [List.getElem?_toArray, List.getElem?_cons_zero]; rfl)
      case q201 => exact fun _ _ _ h => h
      case w201 => rfl
      case y0 =>
        intro wS hSw
        (try dsimp only at hSw)
        go_simp
        (try (with_reducible rfl))
      try simp only [Act.put, List.setIfInBounds_toArray, List.set_cons_zero, List.set_cons_succ]
      refine wpAnyH_take (i := 1) (oi := ?o202) (v := ?v1) ?h202 (by kernel_rfl) (by kernel_rfl) (by kernel_rfl) ?q202 (Or.inl ⟨?w202, ?y1⟩) hHeld ?r1
      case h202 => (simp only [List.getElem?_toArray, List.getElem?_cons_succ, List.getElem?_cons_zero]; rfl)
      case q202 => exact fun _ _ _ h => h
      case w202 => rfl
      case y1 =>
        intro wS hSw
        (try dsimp only at hSw)
        go_simp
        (try (with_reducible rfl))
      try simp only [Act.put, List.setIfInBounds_toArray, List.set_cons_zero, List.set_cons_succ]
      refine wpAnyH_take (i := 2) (oi := ?o203) (v := ?v2) ?h203 (by kernel_rfl) (by kernel_rfl) (by kernel_rfl) ?q203 (Or.inl ⟨?w203, ?y2⟩) hHeld ?r2
      case h203 => (simp only [List.getElem?_toArray, List.getElem?_cons_succ, List.getElem?_cons_zero]; rfl)
      case q203 => exact fun _ _ _ h => h
      case w203 => rfl
      case y2 =>
        intro wS hSw
        (try dsimp only at hSw)
        go_simp
        (try (with_reducible rfl))
      try simp only [Act.put, List.setIfInBounds_toArray, List.set_cons_zero, List.set_cons_succ]
      refine wpAnyH_take (i := 3) (oi := ?o204) (v := ?v3) ?h204 (by kernel_rfl) (by kernel_rfl) (by kernel_rfl) ?q204 (Or.inl ⟨?w204, ?y3⟩) hHeld ?r3
      case h204 => (simp only [List.getElem?_toArray, List.getElem?_cons_succ, List.getElem?_cons_zero]; rfl)
      case q204 => exact fun _ _ _ h => h
      case w204 => rfl
      case y3 =>
        intro wS hSw
        (try dsimp only at hSw)
        go_simp
        (try (with_reducible rfl))
      try simp only [Act.put, List.setIfInBounds_toArray, List.set_cons_zero, List.set_cons_succ]
      refine wpAnyH_take (i := 4) (oi := ?o205) (v := ?v4) ?h205 (by kernel_rfl) (by kernel_rfl) (by kernel_rfl) ?q205 (Or.inl ⟨?w205, ?y4⟩) hHeld ?r4
      case h205 => (simp only [List.getElem?_toArray, List.getElem?_cons_succ, List.getElem?_cons_zero]; rfl)
      case q205 => exact fun _ _ _ h => h
      case w205 => rfl
      case y4 =>
        intro wS hSw
        (try dsimp only at hSw)
        go_simp
        (try (with_reducible rfl))
      try simp only [Act.put, List.setIfInBounds_toArray, List.set_cons_zero, List.set_cons_succ]
      refine wpAnyH_take (i := 5) (oi := ?o206) (v := ?v5) ?h206 (by kernel_rfl) (by kernel_rfl) (by kernel_rfl) ?q206 (Or.inl ⟨?w206, ?y5⟩) hHeld ?r5
      case h206 => (simp only [List.getElem?_toArray, List.getElem?_cons_succ, List.getElem?_cons_zero]; rfl)
      case q206 => exact fun _ _ _ h => h
      case w206 => rfl
      case y5 =>
        intro wS hSw
        (try dsimp only at hSw)
        go_simp
        (try (with_reducible rfl))
      try simp only [Act.put, List.setIfInBounds_toArray, List.set_cons_zero, List.set_cons_succ]
      refine wpAnyH_take (i := 6) (oi := ?o207) (v := ?v6) ?h207 (by kernel_rfl) (by kernel_rfl) (by kernel_rfl) ?q207 (Or.inl ⟨?w207, ?y6⟩) hHeld ?r6
      case h207 => (simp only [List.getElem?_toArray, List.getElem?_cons_succ, List.getElem?_cons_zero]; rfl)
      case q207 => exact fun _ _ _ h => h
      case w207 => rfl
      case y6 =>
        intro wS hSw
        (try dsimp only at hSw)
        go_simp
        (try (with_reducible rfl))
      try simp only [Act.put, List.setIfInBounds_toArray, List.set_cons_zero, List.set_cons_succ]
      refine wpAnyH_take (i := 7) (oi := ?o208) (v := ?v7) ?h208 (by kernel_rfl) (by kernel_rfl) (by kernel_rfl) ?q208 (Or.inl ⟨?w208, ?y7⟩) hHeld ?r7
      case h208 => (simp only [List.getElem?_toArray, List.getElem?_cons_succ, List.getElem?_cons_zero]; rfl)
      case q208 => exact fun _ _ _ h => h
      case w208 => rfl
      case y7 =>
        intro wS hSw
        (try dsimp only at hSw)
        go_simp
        (try (with_reducible rfl))
      try simp only [Act.put, List.setIfInBounds_toArray, List.set_cons_zero, List.set_cons_succ]
      refine wpAnyH_take (i := 8) (oi := ?o209) (v := ?v8) ?h209 (by kernel_rfl) (by kernel_rfl) (by kernel_rfl) ?q209 (Or.inl ⟨?w209, ?y8⟩) hHeld ?r8
      case h209 => (simp only [List.getElem?_toArray, List.getElem?_cons_succ, List.getElem?_cons_zero]; rfl)
      case q209 => exact fun _ _ _ h => h
      case w209 => rfl
      case y8 =>
        intro wS hSw
        (try dsimp only at hSw)
        go_simp
        (try (with_reducible rfl))
      try simp only [Act.put, List.setIfInBounds_toArray, List.set_cons_zero, List.set_cons_succ]
      refine wpAnyH_take (i := 9) (oi := ?o210) (v := ?v9) ?h210 (by kernel_rfl) (by kernel_rfl) (by kernel_rfl) ?q210 (Or.inl ⟨?w210, ?y9⟩) hHeld ?r9
      case h210 => (simp only [List.getElem?_toArray, List.getElem?_cons_succ, List.getElem?_cons_zero]; rfl)
      case q210 => exact fun _ _ _ h => h
      case w210 => rfl
      case y9 =>
        intro wS hSw
        (try dsimp only at hSw)
        go_simp
        (try (with_reducible rfl))
      try simp only [Act.put, List.setIfInBounds_toArray, List.set_cons_zero, List.set_cons_succ]
      refine wpAnyH_take (i := 10) (oi := ?o211) (v := ?v10) ?h211 (by kernel_rfl) (by kernel_rfl) (by kernel_rfl) ?q211 (Or.inl ⟨?w211, ?y10⟩) hHeld ?r10
      case h211 => (simp only [List.getElem?_toArray, List.getElem?_cons_succ, List.getElem?_cons_zero]; rfl)
      case q211 => exact fun _ _ _ h => h
      case w211 => rfl
      case y10 =>
        intro wS hSw
        (try dsimp only at hSw)
        go_simp
        (try (with_reducible rfl))
      try simp only [Act.put, List.setIfInBounds_toArray, List.set_cons_zero, List.set_cons_succ]
      refine wpAnyH_take (i := 11) (oi := ?o212) (v := ?v11) ?h212 (by kernel_rfl) (by kernel_rfl) (by kernel_rfl) ?q212 (Or.inl ⟨?w212, ?y11⟩) hHeld ?r11
      case h212 => (simp only [List.getElem?_toArray, List.getElem?_cons_succ, List.getElem?_cons_zero]; rfl)
      case q212 => exact fun _ _ _ h => h
      case w212 => rfl
      case y11 =>
        intro wS hSw
        (try dsimp only at hSw)
        go_simp
        (try (with_reducible rfl))
      try simp only [Act.put, List.setIfInBounds_toArray, List.set_cons_zero, List.set_cons_succ]
      refine wpAnyH_ready (rs := [12]) (by kernel_rfl) (by simp) ?_
      refine AllReadyH.cons (o := ?o213) ?h213 ?k213 AllReadyH.nil
      case h213 => (simp only [List.getElem?_toArray, List.getElem?_cons_succ, List.getElem?_cons_zero]; rfl)
      intro K hK
      rw [if_pos (by rfl)]
      go_wp2_with fail
      refine (width_any cr _).mono ?_
      rintro e w4 ⟨rfl, b4⟩
      have HA4 := Lib.hid (HA3.out.mod (.of_below b4) id id id (fun _ => id))
      have HB4 := Lib.hid (HB3.out.trans (b4.mono HB3.out.size))
      have hbk4 := blk_below (blk_drew hbk2) b4 hlt3
      refine hK.out _ _ ⟨blk_cell hbk4 0, blk_cell hbk4 1, (gm_cells HA4.out).1⟩ (fun hHeld2 => ?_)
      clear hK K hHeld hbk4 b4
      try simp only [Act.put, List.setIfInBounds_toArray, List.set_cons_zero, List.set_cons_succ]
      refine wpAnyH_take (i := 13) (oi := ?o214) (v := ?v13) ?h214 (by kernel_rfl) (by kernel_rfl) (by kernel_rfl) ?q214 (Or.inl ⟨?w214, ?y13⟩) hHeld2 ?r13
      case h214 => (simp only [List.getElem?_toArray, List.getElem?_cons_succ, List.getElem?_cons_zero]; rfl)
      case q214 => exact fun _ _ _ h => h
      case w214 => rfl
      case y13 =>
        intro wS hSw
        (try dsimp only at hSw)
        go_simp
        (try (with_reducible rfl))
      try simp only [Act.put, List.setIfInBounds_toArray, List.set_cons_zero, List.set_cons_succ]
      refine wpAnyH_take (i := 14) (oi := ?o215) (v := ?v14) ?h215 (by kernel_rfl) (by kernel_rfl) (by kernel_rfl) ?q215 (Or.inl ⟨?w215, ?y14⟩) hHeld2 ?r14
      case h215 => (simp only [List.getElem?_toArray, List.getElem?_cons_succ, List.getElem?_cons_zero]; rfl)
      case q215 => exact fun _ _ _ h => h
      case w215 => rfl
      case y14 =>
        intro wS hSw
        (try dsimp only at hSw)
        go_simp
        (try (with_reducible rfl))
      try simp only [Act.put, List.setIfInBounds_toArray, List.set_cons_zero, List.set_cons_succ]
      refine wpAnyH_take (i := 15) (oi := ?o216) (v := ?v15) ?h216 (by kernel_rfl) (by kernel_rfl) (by kernel_rfl) ?q216 (Or.inl ⟨?w216, ?y15⟩) hHeld2 ?r15
      case h216 => (simp only [List.getElem?_toArray, List.getElem?_cons_succ, List.getElem?_cons_zero]; rfl)
      case q216 => exact fun _ _ _ h => h
      case w216 => rfl
      case y15 =>
        intro wS hSw
        (try dsimp only at hSw)
        go_simp
        (try (with_reducible rfl))
      try simp only [Act.put, List.setIfInBounds_toArray, List.set_cons_zero, List.set_cons_succ]
      refine wpAnyH_take (i := 16) (oi := ?o217) (v := undef) ?h217 (by kernel_rfl) (by kernel_rfl) (by kernel_rfl) ?q217 (Or.inr ⟨?w217, rfl⟩) hHeld2 ?s217
      case h217 => (simp only [List.getElem?_toArray, List.getElem?_cons_succ, List.getElem?_cons_zero]; rfl)
      case q217 => exact fun _ _ _ h => h
      case w217 => rfl
      try simp only [Act.put, List.setIfInBounds_toArray, List.set_cons_zero, List.set_cons_succ]
      refine wpAnyH_take (i := 17) (oi := ?o218) (v := undef) ?h218 (by kernel_rfl) (by kernel_rfl) (by kernel_rfl) ?q218 (Or.inr ⟨?w218, rfl⟩) hHeld2 ?s218
      case h218 => (simp only [List.getElem?_toArray, List.getElem?_cons_succ, List.getElem?_cons_zero]; rfl)
      case q218 => exact fun _ _ _ h => h
      case w218 => rfl
      try simp only [Act.put, List.setIfInBounds_toArray, List.set_cons_zero, List.set_cons_succ]
      refine wpAnyH_take (i := 18) (oi := ?o219) (v := undef) ?h219 (by kernel_rfl) (by kernel_rfl) (by kernel_rfl) ?q219 (Or.inr ⟨?w219, rfl⟩) hHeld2 ?s219
      case h219 => (simp only [List.getElem?_toArray, List.getElem?_cons_succ, List.getElem?_cons_zero]; rfl)
      case q219 => exact fun _ _ _ h => h
      case w219 => rfl
      try simp only [Act.put, List.setIfInBounds_toArray, List.set_cons_zero, List.set_cons_succ]
      refine wpAnyH_take (i := 19) (oi := ?o220) (v := undef) ?h220 (by kernel_rfl) (by kernel_rfl) (by kernel_rfl) ?q220 (Or.inr ⟨?w220, rfl⟩) hHeld2 ?s220
      case h220 => (simp only [List.getElem?_toArray, List.getElem?_cons_succ, List.getElem?_cons_zero]; rfl)
      case q220 => exact fun _ _ _ h => h
      case w220 => rfl
      try simp only [Act.put, List.setIfInBounds_toArray, List.set_cons_zero, List.set_cons_succ]
      refine wpAnyH_take (i := 20) (oi := ?o221) (v := undef) ?h221 (by kernel_rfl) (by kernel_rfl) (by kernel_rfl) ?q221 (Or.inr ⟨?w221, rfl⟩) hHeld2 ?s221
      case h221 => (simp only [List.getElem?_toArray, List.getElem?_cons_succ, List.getElem?_cons_zero]; rfl)
      case q221 => exact fun _ _ _ h => h
      case w221 => rfl
      try simp only [Act.put, List.setIfInBounds_toArray, List.set_cons_zero, List.set_cons_succ]
      refine wpAnyH_take (i := 21) (oi := ?o222) (v := undef) ?h222 (by kernel_rfl) (by kernel_rfl) (by kernel_rfl) ?q222 (Or.inr ⟨?w222, rfl⟩) hHeld2 ?s222
      case h222 => (simp only [List.getElem?_toArray, List.getElem?_cons_succ, List.getElem?_cons_zero]; rfl)
      case q222 => exact fun _ _ _ h => h
      case w222 => rfl
      try simp only [Act.put, List.setIfInBounds_toArray, List.set_cons_zero, List.set_cons_succ]
      refine wpAnyH_take (i := 22) (oi := ?o223) (v := undef) ?h223 (by kernel_rfl) (by kernel_rfl) (by kernel_rfl) ?q223 (Or.inr ⟨?w223, rfl⟩) hHeld2 ?s223
      case h223 => (simp only [List.getElem?_toArray, List.getElem?_cons_succ, List.getElem?_cons_zero]; rfl)
      case q223 => exact fun _ _ _ h => h
      case w223 => rfl
      try simp only [Act.put, List.setIfInBounds_toArray, List.set_cons_zero, List.set_cons_succ]
      refine wpAnyH_take (i := 23) (oi := ?o224) (v := undef) ?h224 (by kernel_rfl) (by kernel_rfl) (by kernel_rfl) ?q224 (Or.inr ⟨?w224, rfl⟩) hHeld2 ?s224
      case h224 => (simp only [List.getElem?_toArray, List.getElem?_cons_succ, List.getElem?_cons_zero]; rfl)
      case q224 => exact fun _ _ _ h => h
      case w224 => rfl
      try simp only [Act.put, List.setIfInBounds_toArray, List.set_cons_zero, List.set_cons_succ]
      refine wpAnyH_take (i := 24) (oi := ?o225) (v := undef) ?h225 (by kernel_rfl) (by kernel_rfl) (by kernel_rfl) ?q225 (Or.inr ⟨?w225, rfl⟩) hHeld2 ?s225
      case h225 => (simp only [List.getElem?_toArray, List.getElem?_cons_succ, List.getElem?_cons_zero]; rfl)
      case q225 => exact fun _ _ _ h => h
      case w225 => rfl
      try simp only [Act.put, List.setIfInBounds_toArray, List.set_cons_zero, List.set_cons_succ]
      refine wpAnyH_take (i := 25) (oi := ?o226) (v := ?v25) ?h226 (by kernel_rfl) (by kernel_rfl) (by kernel_rfl) ?q226 (Or.inl ⟨?w226, ?y25⟩) hHeld2 ?r25
      case h226 => (simp only [List.getElem?_toArray, List.getElem?_cons_succ, List.getElem?_cons_zero]; rfl)
      case q226 => exact fun _ _ _ h => h
      case w226 => rfl
      case y25 =>
        intro wS hSw
        (try dsimp only at hSw)
        go_simp
        (try (with_reducible rfl))
      try simp only [Act.put, List.setIfInBounds_toArray, List.set_cons_zero, List.set_cons_succ]
      refine wpAnyH_done (by kernel_rfl) ?_ _
      go_wp2_with fail
      refine ret0w rfl rfl ⟨rfl, Within.of_below HB4.out, ?_⟩
      rw [HE.out]
      exact ⟨_, _, _, _, HA4.out⟩
    have d2 : (cw != wid cr) = false := by simp [bne, hw2]
    have hcw2 : cw ≤ 2 := by omega
    have HW2 := Lib.hid hw2
    clear hw2 hwl
    have hwrap : IntKind.i64.wrap ((xn : Int) + cw) = (xn : Int) + cw := wrap64_id _ (by omega) (by omega)
    by_cases hw3 : (xn : Int) + cw ≤ (g.cols : Int)
    rotate_left
    · have d3 : decide ((g.cols : Int) < (xn : Int) + cw) = true := decide_eq_true (by omega)
      have HE := Lib.hid (show g.put xn yn ⟨cr, cw, cs⟩ = g by unfold Gr.put Gr.putOk; rw [decide_eq_false hw3]; simp)
      go_upto_region 2 with fail
      go_region_held3 (fun w' => w'.cell? ⟨w.heap.size, 0, none⟩ = some (.int .i32 cr) ∧ w'.cell? ⟨w.heap.size, 1, none⟩ = some (.int .i64 cw) ∧ w'.cell? ⟨p, 0, none⟩ = some (.int .i64 g.cols)) (go_keep)
        (first | (go_at_call 77; refine (width_any cr _).mono ?_; rintro e w4 ⟨rfl, b4⟩; have HA4 := Lib.hid (HA3.out.mod (.of_below b4) id id id (fun _ => id)); have HB4 := Lib.hid (HB3.out.trans (b4.mono HB3.out.size)); have hbk4 := blk_below (blk_drew hbk2) b4 hlt3; have z0 : w4.cell? ⟨w.heap.size, 0, none⟩ = some (.int .i32 cr) := blk_cell hbk4 0; have z1 : w4.cell? ⟨w.heap.size, 1, none⟩ = some (.int .i64 cw) := blk_cell hbk4 1; have z2 := (gm_cells HA4.out).1; have hHB4 := Lib.hid hbk4; clear b4 hbk4))
      go_wp2_with fail
      refine ret0w rfl rfl ⟨rfl, Within.of_below HB4.out, ?_⟩
      rw [HE.out]
      exact ⟨_, _, _, _, HA4.out⟩
    have d3 : decide ((g.cols : Int) < (xn : Int) + cw) = false := decide_eq_false (by omega)
    have HE := Lib.hid (show g.put xn yn ⟨cr, cw, cs⟩ = g.turn yn (fun l => layL l xn ⟨cr, cw, cs⟩) by
      unfold Gr.put Gr.putOk
      rw [hon, decide_eq_true hw1, decide_eq_true hw3, beq_iff_eq.2 HW2.out, Int.toNat_natCast, Int.toNat_natCast]; rfl)
    go_upto_region 2 with fail
    go_region_held3 (fun w' => w'.cell? ⟨w.heap.size, 0, none⟩ = some (.int .i32 cr) ∧ w'.cell? ⟨w.heap.size, 1, none⟩ = some (.int .i64 cw) ∧ w'.cell? ⟨p, 0, none⟩ = some (.int .i64 g.cols)) (go_keep)
      (first | (go_at_call 77; refine (width_any cr _).mono ?_; rintro e w4 ⟨rfl, b4⟩; have HA4 := Lib.hid (HA3.out.mod (.of_below b4) id id id (fun _ => id)); have HB4 := Lib.hid (HB3.out.trans (b4.mono HB3.out.size)); have hbk4 := blk_below (blk_drew hbk2) b4 hlt3; have z0 : w4.cell? ⟨w.heap.size, 0, none⟩ = some (.int .i32 cr) := blk_cell hbk4 0; have z1 : w4.cell? ⟨w.heap.size, 1, none⟩ = some (.int .i64 cw) := blk_cell hbk4 1; have z2 := (gm_cells HA4.out).1; have hHB4 := Lib.hid hbk4; clear b4 hbk4))
    go_wp2_with fail
    have hbt : T b = 10 + b := by
      obtain ⟨q, e1, e2⟩ := HC.out.tag
      rw [hxv] at e1
      simp only [Value.ownBlock] at e1
      injection e1 with e1
      subst e1; exact e2
    have hbl : b < w.heap.size := HLT.out b (by omega)
    have O4 := (HA4.out.ca Lr[yn] (List.mem_append_left _ (List.getElem_mem hyl))).own
    rw [hxv, hrc] at O4
    generalize hlx : Lr[yn].2.cells = lx at *
    have hgc : g.cols ≤ 1000000 := by omega
    refine (cut_any lx xn b off g.cols vc w4 O4 hrc hgc (by omega)).mono ?_
    rintro e w5 ⟨rfl, g5, o5⟩
    have hbk4 := hHB4.out
    have hbk5 := blk_grown hbk4 g5 (by intro e; injection e with e; omega)
    have e0 : w5.cell? ⟨w.heap.size, 0, none⟩ = some (.int .i32 cr) := blk_cell hbk5 0
    have e1 : w5.cell? ⟨w.heap.size, 1, none⟩ = some (.int .i64 cw) := blk_cell hbk5 1
    have HO5 := Lib.hid o5
    have HK5 := Lib.hid hbk5
    have HG5 := Lib.hid g5
    clear o5 hbk5 g5 O4 z0 z1 z2 hbk4 hHB4 c0 c1 c2 c3 c4 g0 hbk2
    go_wp2_with fail
    refine (cut_any (cutL lx xn) ((xn : Int) + cw) b off g.cols vc w5 HO5.out (by rw [cutL_len]; exact hrc) hgc (by omega)).mono ?_
    rintro e w6 ⟨rfl, g6, o6⟩
    have hbk6 := blk_grown HK5.out g6 (by intro e; injection e with e; omega)
    have HG6 := Lib.hid (gb_trans HG5.out g6)
    have HK6 := Lib.hid hbk6
    have f0 : w6.cell? ⟨w.heap.size, 0, none⟩ = some (.int .i32 cr) := blk_cell hbk6 0
    have f1 : w6.cell? ⟨w.heap.size, 1, none⟩ = some (.int .i64 cw) := blk_cell hbk6 1
    have f2 : w6.cell? ⟨w.heap.size, 2, none⟩ = some (.int .i64 cs.fg) := blk_cell hbk6 2
    have f3 : w6.cell? ⟨w.heap.size, 3, none⟩ = some (.int .i64 cs.bg) := blk_cell hbk6 3
    have f4 : w6.cell? ⟨w.heap.size, 4, none⟩ = some (.int .i64 cs.attr) := blk_cell hbk6 4
    have hlen2 : (cutL (cutL lx xn) ((xn : Int) + cw)).length = g.cols := by rw [cutL_len, cutL_len]; exact hrc
    have hix := idx_at (P := Tryz.prog) (size := 5) Tryz.underlying68 cell_info b off g.cols vc xn (by omega)
    have hst := store_own (P := Tryz.prog) cell_info o6 xn (by omega) #[.int .i32 cr, .int .i64 cw, .int .i64 cs.fg, .int .i64 cs.bg, .int .i64 cs.attr] rfl (cvals_one' ⟨cr, cw, cs⟩)
    have HP := ownC_put o6 (xn * 5) (cvals [(⟨cr, cw, cs⟩ : Cel)]) (by rw [cvals_len]; simp; omega)
    rw [← cvals_put] at HP
    have g7 := gb_setCells w6 b (off + xn * 5) (cvals [(⟨cr, cw, cs⟩ : Cel)])
    replace hst : (storeVar 133 ⟨b, off + xn * 5, none⟩ (.agg #[.int .i32 cr, .int .i64 cw, .int .i64 cs.fg, .int .i64 cs.bg, .int .i64 cs.attr])).run Tryz.prog w6 = .ok () (w6.setCells b (off + xn * 5) (cvals [(⟨cr, cw, cs⟩ : Cel)])) := hst
    have HG7 := Lib.hid (gb_trans HG6.out g7)
    have hbk7 := blk_grown HK6.out g7 (by intro e; injection e with e; omega)
    have HO7 := Lib.hid HP
    clear HP g7 o6 g6 e0 e1
    generalize w6.setCells b (off + xn * 5) (cvals [(⟨cr, cw, cs⟩ : Cel)]) = w7 at *
    have i1 : w7.cell? ⟨w.heap.size, 1, none⟩ = some (.int .i64 cw) := blk_cell hbk7 1
    have i2 : w7.cell? ⟨w.heap.size, 2, none⟩ = some (.int .i64 cs.fg) := blk_cell hbk7 2
    have i3 : w7.cell? ⟨w.heap.size, 3, none⟩ = some (.int .i64 cs.bg) := blk_cell hbk7 3
    have i4 : w7.cell? ⟨w.heap.size, 4, none⟩ = some (.int .i64 cs.attr) := blk_cell hbk7 4
    have HWI := Lib.hid (show ∀ w', w4.grownBy w' (some b) → Within (own T w) w w' from fun w' g' => (Within.of_below HB4.out).trans (Within.of_gb g' (fun k hk => .inl (by injection hk with hk; subst hk; omega))))
    have HFIN := Lib.hid (show ∀ w', w4.grownBy w' (some b) → OwnC w' 0 5 (.slice (some ⟨b, off, none⟩) g.cols vc) g.cols (cvals (layL lx xn ⟨cr, cw, cs⟩)) → GM T p w' (g.turn yn (fun l => layL l xn ⟨cr, cw, cs⟩)) from fun w' g' o' => by
      have hll : (layL lx xn ⟨cr, cw, cs⟩).length = g.cols := by
        rw [layL_len (by
          show xn + (if cw = 2 then 2 else 1) ≤ lx.length
          split <;> omega)]
        exact hrc
      refine HA4.out.turned yn hyl (b := b) (by rw [hxv]; rfl) (Mod.of_gb g' (fun k hk => by injection hk with hk; subst hk; exact hbt)) _ ?_ ?_ ?_
      · rw [hlx, hll, hxv]; exact o'
      · rw [hlx]; exact hll
      · rw [hlx]; exact layL_ok hrok hck)
    by_cases h2 : cw = 2
    · have d5 : (cw == 2) = true := beq_iff_eq.2 h2
      have H2 := Lib.hid h2
      have hxn2 : xn + 2 ≤ g.cols := by omega
      clear h2
      have hwrap2 : IntKind.i64.wrap ((xn : Int) + 1) = (xn : Int) + 1 := wrap64_id _ (by omega) (by omega)
      have hix2 := idx_at (P := Tryz.prog) (size := 5) Tryz.underlying68 cell_info b off g.cols vc (xn + 1) (by omega)
      rw [show ((xn + 1 : Nat) : Int) = (xn : Int) + 1 by omega] at hix2
      have hst2 := store_own (P := Tryz.prog) cell_info HO7.out (xn + 1) (by omega) #[.int .i32 0, .int .i64 0, .int .i64 cs.fg, .int .i64 cs.bg, .int .i64 cs.attr] rfl (cvals_one' ⟨0, 0, cs⟩)
      have HP := ownC_put HO7.out ((xn + 1) * 5) (cvals [(⟨0, 0, cs⟩ : Cel)]) (by rw [cvals_len]; simp; omega)
      rw [← cvals_put, putAt_two _ _ _ _ (by omega)] at HP
      have g8 := gb_setCells w7 b (off + (xn + 1) * 5) (cvals [(⟨0, 0, cs⟩ : Cel)])
      replace hst2 : (storeVar 133 ⟨b, off + (xn + 1) * 5, none⟩ (.agg #[.int .i32 0, .int .i64 0, .int .i64 cs.fg, .int .i64 cs.bg, .int .i64 cs.attr])).run Tryz.prog w7 = .ok () (w7.setCells b (off + (xn + 1) * 5) (cvals [(⟨0, 0, cs⟩ : Cel)])) := hst2
      have HG8 := Lib.hid (gb_trans HG7.out g8)
      have HO8 := Lib.hid HP
      clear HP g8
      generalize w7.setCells b (off + (xn + 1) * 5) (cvals [(⟨0, 0, cs⟩ : Cel)]) = w8 at *
      go_wp2_with (first | refine wpList_storeR rfl _ _ _ rfl hst rfl rfl ?_ | refine wpList_storeR rfl _ _ _ rfl hst2 rfl rfl ?_)
      go_end0
      refine ⟨rfl, HWI.out _ HG8.out, ?_⟩
      rw [HE.out]
      refine HFIN.out _ HG8.out ?_
      unfold layL
      rw [if_pos H2.out]
      exact HO8.out
    · have d5 : (cw == 2) = false := beq_eq_false_iff_ne.2 h2
      go_wp2_with (refine wpList_storeR rfl _ _ _ rfl hst rfl rfl ?_)
      go_end0
      refine ⟨rfl, HWI.out _ HG7.out, ?_⟩
      rw [HE.out]
      refine HFIN.out _ HG7.out ?_
      unfold layL
      rw [if_neg h2]
      exact HO7.out
end Go.Proofs.YtlfdgkiliegaiaaGreatDoor

/- copy and clear in a buffer of one's own. -/
namespace Go.Proofs.YtlfdgkiliegaiaaGreatDoor
open Go.RowKit

theorem copy_own {P : Program} {t e : TypeId} {size : Nat} (ht : P.underlying t = some (.slice e)) (hs : (P.info? e).map (·.size) = some size) {w : World} {base b off n c : Nat} {xs : List Value} (h : OwnC w base size (.slice (some ⟨b, off, none⟩) n c) n xs)
    (x m c1 : Nat) (d : Addr) (hd : 0 < m → d = ⟨b, off + x * size, none⟩) (hx : x + m ≤ n) {y : Value} {k : Nat} {ys : List Value} (hr : Reads w size y k ys) (h1 : ∀ u ∈ ys, u.oneCell' = true) (ty : TypeId) :
    (Builtin.copy_ #[t, t] ty #[.slice (some d) m c1, y]).run P w = .ok (goInt (Nat.min k m)) (w.setCells b (off + x * size) (ys.take (Nat.min k m * size))) := by
  obtain ⟨i, hi, hi2⟩ := Option.map_eq_some_iff.1 hs
  obtain ⟨e1, h2⟩ := h
  rcases h2 with ⟨e, _⟩ | ⟨b', off', c', e, hb, hbs, hnc, hcm, hcells, hxs⟩
  · simp at e
  simp only [Value.slice.injEq, Option.some.injEq, Addr.mk.injEq] at e
  obtain ⟨⟨rfl, rfl, _⟩, _, rfl⟩ := e
  have hst : (storeCells d (ys.take (Nat.min k m * size))).run P w = .ok () (w.setCells b (off + x * size) (ys.take (Nat.min k m * size))) := by
    rcases Nat.eq_zero_or_pos m with h0 | h0
    · have : ys.take (Nat.min k m * size) = [] := by rw [h0, show Nat.min k 0 = 0 from Nat.min_zero k, Nat.zero_mul]; simp
      rw [this]; rfl
    · rw [hd h0]
      have hlen : (ys.take (Nat.min k m * size)).length ≤ m * size := by
        rw [List.length_take]
        exact Nat.le_trans (Nat.min_le_left _ _) (Nat.mul_le_mul_right _ (Nat.min_le_right k m))
      have hin : ∀ j, j < (ys.take (Nat.min k m * size)).length → x * size + j < c * size := fun j hj => by
        have a1 : x * size + m * size ≤ c * size := by rw [← Nat.add_mul]; exact Nat.mul_le_mul_right _ (by omega)
        omega
      have := run_storeCells_cells (P := P) b (off + x * size) (ys.take (Nat.min k m * size)) 0 w (fun j hj => by
          have := (hcells _ (hin j hj)).1
          rwa [← Nat.add_assoc] at this) (fun j hj => by
          have := (hcells _ (hin j hj)).2
          rwa [← Nat.add_assoc] at this) (fun v hv => h1 v (List.mem_of_mem_take hv))
      rwa [Nat.add_zero] at this
  rcases hr with ⟨rfl, rfl, rfl⟩ | ⟨a, c2, rfl, hl, hc⟩
  · have hz : Nat.min 0 m = 0 := Nat.zero_min m
    rw [hz] at hst ⊢
    simp only [List.take_nil] at hst ⊢
    simp [Builtin.copy_, run_underlying ht, Builtin.lenOf, Builtin.firstCells, sizeOf, typeInfo, hi, storeCells, World.setCells]
  · have hll : (ys.take (Nat.min k m * size)).length = Nat.min k m * size := by
      rw [List.length_take, hl]
      exact Nat.min_eq_left (Nat.mul_le_mul_right _ (Nat.min_le_left k m))
    have hld := run_loadCells_list (P := P) w a (ys.take (Nat.min k m * size)) (fun j v hv => by
      rw [List.getElem?_take] at hv
      split at hv
      · exact hc j v hv
      · simp at hv)
    rw [hll] at hld
    simp [Builtin.copy_, run_underlying ht, Builtin.lenOf, Builtin.firstCells, sizeOf, typeInfo, hi, hi2, hld, hst]
/-- What lies in the buffer then. -/
theorem copy_owned {w : World} {base size b off n c : Nat} {xs : List Value} (h : OwnC w base size (.slice (some ⟨b, off, none⟩) n c) n xs) (x : Nat) (vs : List Value) (hx : x * size + vs.length ≤ n * size) :
    OwnC (w.setCells b (off + x * size) vs) base size (.slice (some ⟨b, off, none⟩) n c) n (putAt xs (x * size) vs) := ownC_put h (x * size) vs hx
/-- l[x:y], at the end of the array, too. -/
theorem slice_lh' {P : Program} {t e : TypeId} {size : Nat} (ht : P.underlying t = some (.slice e)) (hs : (P.info? e).map (·.size) = some size) (b off n c x y : Nat) (h1 : x ≤ y) (h2 : y ≤ c) :
    ∃ a : Addr, (∀ wx, (Instr.slice t (.slice (some ⟨b, off, none⟩) n c) (some (.int .i64 (x : Int))) (some (.int .i64 (y : Int))) none).run P wx = .ok (.slice (some a) (y - x) (c - x)) wx) ∧ (x < y → a = ⟨b, off + x * size, none⟩) := by
  by_cases hx : x < c
  · exact ⟨_, slice_lh ht hs b off n c x y h1 h2 hx, fun _ => rfl⟩
  · have hxc : x = c := by omega
    have hyc : y = c := by omega
    subst hxc hyc
    refine ⟨⟨b, off, none⟩, fun wx => ?_, fun h => by omega⟩
    have hel : P.elem t = e := by simp [Program.elem, ht]
    rw [run_slice_lh wx t _ _ y (elem_of ht) .i64 .i64 _ _ (by omega) (by omega) (by omega), hel, run_sizeN hs, Int.toNat_natCast]
    show Result.ok (sliced _ y y y size) wx = _
    unfold sliced
    rw [if_pos rfl]
/-- l[x:], at the end of the array, too. -/
theorem slice_l' {P : Program} {t e : TypeId} {size : Nat} (ht : P.underlying t = some (.slice e)) (hs : (P.info? e).map (·.size) = some size) (b off n c x : Nat) (h1 : x ≤ n) (h2 : n ≤ c) :
    ∃ a : Addr, (∀ wx, (Instr.slice t (.slice (some ⟨b, off, none⟩) n c) (some (.int .i64 (x : Int))) none none).run P wx = .ok (.slice (some a) (n - x) (c - x)) wx) ∧ (x < n → a = ⟨b, off + x * size, none⟩) := by
  by_cases hx : x < c
  · exact ⟨_, slice_l ht hs b off n c x h1 hx, fun _ => rfl⟩
  · have hxc : x = c := by omega
    have hyc : n = c := by omega
    subst hxc hyc
    refine ⟨⟨b, off, none⟩, fun wx => ?_, fun h => by omega⟩
    have hel : P.elem t = e := by simp [Program.elem, ht]
    rw [run_slice_l wx t _ _ n (elem_of ht) .i64 _ (by omega) (by omega), hel, run_sizeN hs, Int.toNat_natCast]
    show Result.ok (sliced _ n n n size) wx = _
    unfold sliced
    rw [if_pos rfl]
theorem reads_sub {w : World} {base size b off n c : Nat} {xs : List Value} (h : OwnC w base size (.slice (some ⟨b, off, none⟩) n c) n xs) (x y c1 : Nat) (a : Addr) (ha : x < y → a = ⟨b, off + x * size, none⟩) (h1 : x ≤ y) (h2 : y ≤ n) :
    Reads w size (.slice (some a) (y - x) c1) (y - x) ((xs.drop (x * size)).take ((y - x) * size)) := by
  obtain ⟨e1, h2'⟩ := h
  rcases h2' with ⟨e, _⟩ | ⟨b', off', c', e, hb, hbs, hnc, hcm, hcells, hxs⟩
  · simp at e
  simp only [Value.slice.injEq, Option.some.injEq, Addr.mk.injEq] at e
  obtain ⟨⟨rfl, rfl, _⟩, _, rfl⟩ := e
  have hle : x * size + (y - x) * size ≤ xs.length := by
    rw [e1, ← Nat.add_mul]; exact Nat.mul_le_mul_right _ (by omega)
  refine .inr ⟨a, c1, rfl, by rw [List.length_take, List.length_drop]; omega, fun j u hu => ?_⟩
  rw [List.getElem?_take] at hu
  split at hu
  · rename_i hj
    have hxy : x < y := by
      rcases Nat.lt_or_ge x y with h' | h'
      · exact h'
      · rw [show y - x = 0 by omega, Nat.zero_mul] at hj; omega
    rw [ha hxy, add_eq]
    rw [List.getElem?_drop] at hu
    have := hxs _ u hu
    rwa [← Nat.add_assoc] at this
  · simp at hu
theorem rowVals_one (L : List (Value × Rw)) (h : ∀ x ∈ L, ∃ a n c, x.1 = Value.slice a n c) : ∀ u ∈ rowVals L, u.oneCell' = true := by
  intro u hu
  obtain ⟨x, hx, hu⟩ := List.mem_flatMap.1 hu
  obtain ⟨a, n, c, e⟩ := h x hx
  rw [e] at hu
  simp only [List.mem_cons, List.not_mem_nil, or_false] at hu
  rcases hu with rfl | rfl <;> rfl
end Go.Proofs.YtlfdgkiliegaiaaGreatDoor
