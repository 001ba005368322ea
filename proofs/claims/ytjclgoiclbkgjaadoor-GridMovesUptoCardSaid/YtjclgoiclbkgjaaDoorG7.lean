/- Walks of package grid: Text. -/
import Derived.Test.YtjclgoiclbkgjaaDoorG6
namespace Go.Proofs.YtjclgoiclbkgjaaDoor
open Go.RowKit

def cellsText (l : List Cel) : List UInt8 := l.flatMap fun c => if 0 < c.width then Lib.encodeRune c.rune else []
def textL (l : List Cel) : List UInt8 := cellsText (trimL l)
theorem trim_snoc (l : List Cel) (c : Cel) : trimL (l ++ [c]) = if c.rune == 32 then trimL l else l ++ [c] := by
  unfold trimL
  rw [List.reverse_append, List.reverse_singleton, List.singleton_append, List.dropWhile_cons]
  split
  · rfl
  · rw [List.reverse_cons, List.reverse_reverse]
theorem take_last (l : List Cel) (k : Nat) (h : k < l.length) : l.take (k + 1) = l.take k ++ [l.getD k noC] := take_succ_getD l noC k h
theorem byteCells_app (a b : List UInt8) : Lib.byteCells (a ++ b) = Lib.byteCells a ++ Lib.byteCells b := by simp [Lib.byteCells]
theorem cellsText_snoc (l : List Cel) (c : Cel) : cellsText (l ++ [c]) = cellsText l ++ (if 0 < c.width then Lib.encodeRune c.rune else []) := by
  simp [cellsText]
theorem enc4 (r : Int) : (Lib.byteCells (Lib.encodeRune r)).length ≤ 4 := by rw [Lib.byteCells_encodeRune]; exact (Lib.runeCells_le r).2
theorem cellsText_le (l : List Cel) : (Lib.byteCells (cellsText l)).length ≤ 4 * l.length := by
  induction l with
  | nil => simp [cellsText, Lib.byteCells]
  | cons c l ih =>
    have e : cellsText (c :: l) = (if 0 < c.width then Lib.encodeRune c.rune else []) ++ cellsText l := rfl
    rw [e, byteCells_app, List.length_append, List.length_cons]
    have := enc4 c.rune
    split
    · omega
    · simp [Lib.byteCells] at ih ⊢; omega
theorem bld_alloc {T e : TypeId} {B b : Nat} {bs : List Value} {w : World} (h : Lib.IsBuilderF T e B b bs w) (o : Obj) : Lib.IsBuilderF T e B b bs (w.alloc o) := h.elim (fun x => .inl (x.alloc o)) (fun x => .inr (x.alloc o))
set_option maxHeartbeats 4000000 in
set_option maxRecDepth 100000 in
theorem text_any {T : Nat → Nat} {p : Nat} {w : World} {g : Gr} (h : GM T p w g) (y : Int) :
    Calls Tryd.prog 25 #[.pointer (some ⟨p, 0, none⟩), .int .i64 y] w fun e w' => e = .returned (.string ⟨(textL (g.row y).cells).toArray⟩) ∧ Below w.heap.size w w' := by
  have HW := Lib.hid (wf_row h.wf y)
  have HR := Lib.hid (row_any h y)
  clear h
  generalize g.row y = r at *
  obtain ⟨l, wrap⟩ := r
  dsimp only at HW HR ⊢
  go_enter Tryd.func25, Tryd.ntmps25
  go_wp2_with fail
  refine HR.out.mono ?_
  rintro e w2 ⟨v, rfl, b2, o2⟩
  have HB2 := Lib.hid b2
  have o2' := ownC_below o2 b2
  clear b2 o2
  obtain ⟨va, vc, rfl⟩ := ownC_sl o2'
  have hln := HW.out.1
  have hnc : l.length ≤ vc := by
    rcases o2'.2 with ⟨e, h0⟩ | ⟨_, _, _, e, _, _, h1, _⟩
    · omega
    · simp only [Value.slice.injEq] at e; omega
  have HO := Lib.hid o2'
  clear o2'
  have hf := row_field0 (.slice va l.length vc) (.bool wrap)
  go_wp2_with fail
  clear hf
  go_loopw [5] (fun sv wr => ∃ k : Nat, k ≤ l.length ∧ sv = .slice va k vc ∧ wr = w2 ∧ Hid (trimL (l.take k) = trimL l)) (fun sv _ => match sv with | .slice _ k _ => k | _ => 0)
  case atStart => exact ⟨l.length, Nat.le_refl _, rfl, rfl, Lib.hid (by rw [List.take_length])⟩
  case round =>
    obtain ⟨k, hk, rfl, hw, ht⟩ := hrel
    have hw' := hw.symm
    subst hw'
    have HT := Lib.hid ht.out
    clear ht
    by_cases hstop : 0 < k ∧ (l.getD (k - 1) noC).rune = 32
    · obtain ⟨b, off, c, e2, _, _⟩ := ownC_pos HO.out (by omega)
      simp only [Value.slice.injEq] at e2
      obtain ⟨rfl, _, rfl⟩ := e2
      obtain ⟨c0, _⟩ := ownC_cel HO.out (k - 1) (by omega) rfl
      rw [hstop.2] at c0
      have hix := idx_at (P := Tryd.prog) (size := 5) Tryd.underlying51 cell_info b off k vc (k - 1) (by omega)
      rw [show ((k - 1 : Nat) : Int) = (k : Int) - 1 by omega] at hix
      have hsl := slice_h (P := Tryd.prog) (size := 5) Tryd.underlying51 cell_info (some ⟨b, off, none⟩) k vc (k - 1) (by omega)
      rw [show ((k - 1 : Nat) : Int) = (k : Int) - 1 by omega] at hsl
      have d1 : decide (0 < (k : Int)) = true := decide_eq_true (by omega)
      have d1' : decide (0 < k) = true := decide_eq_true (by omega)
      go_wp2_with fail
      go_roundw
      case rel =>
        refine ⟨k - 1, by omega, rfl, by trivial, ?_⟩
        have := HT.out
        rw [show k = (k - 1) + 1 by omega, take_last _ _ (by omega), trim_snoc, hstop.2] at this
        exact this
      case measure => simp only []; omega
    · have HE := Lib.hid (show trimL l = l.take k from by
        rw [← HT.out]
        rcases Nat.eq_zero_or_pos k with h0 | h0
        · subst h0; simp [trimL]
        · have e : l.take k = l.take (k - 1) ++ [l.getD (k - 1) noC] := by
            rw [← take_last _ _ (by omega), show k - 1 + 1 = k by omega]
          rw [e, trim_snoc, beq_eq_false_iff_ne.2 (fun e => hstop ⟨h0, e⟩)]
          simp)
      have hbld : Lib.IsBuilderF 88 5 w2.heap.size w2.heap.size (Lib.byteCells (cellsText (l.take 0))) (w2.alloc (.cells #[.pointer none, .slice none 0 0] 88)) :=
        Lib.IsBuilderF.of (.inl ⟨Nat.le_refl _, .slice none 0 0, blk_new _ _, World.ownsRow_nil _ _ _ _, by simp [Value.ownBlock]⟩)
      have hBb := Below.alloc (Below.refl w2.heap.size w2) (Nat.le_refl _) (.cells #[.pointer none, .slice none 0 0] 88)
      rcases Nat.eq_zero_or_pos k with h0 | h0
      case' inl =>
        have d1 : decide (0 < (k : Int)) = false := decide_eq_false (by omega)
        have d1' : decide (0 < k) = false := decide_eq_false (by omega)
        go_wp2_with fail
      case' inr =>
        have d1 : decide (0 < (k : Int)) = true := decide_eq_true (by omega)
        have d1' : decide (0 < k) = true := decide_eq_true (by omega)
        obtain ⟨b, off, c, e2, _, _⟩ := ownC_pos HO.out (by omega)
        simp only [Value.slice.injEq] at e2
        obtain ⟨rfl, _, rfl⟩ := e2
        obtain ⟨c0, _⟩ := ownC_cel HO.out (k - 1) (by omega) rfl
        have d3 : ((l.getD (k - 1) noC).rune == 32) = false := beq_eq_false_iff_ne.2 (fun e => hstop ⟨h0, e⟩)
        have hix := idx_at (P := Tryd.prog) (size := 5) Tryd.underlying51 cell_info b off k vc (k - 1) (by omega)
        rw [show ((k - 1 : Nat) : Int) = (k : Int) - 1 by omega] at hix
        generalize (l.getD (k - 1) noC).rune = rn at *
        go_wp2_with fail
      all_goals
        go_loopw [8, 33] (fun _ iv wx => ∃ i : Nat, i ≤ k ∧ iv = .int .i64 i ∧ Below w2.heap.size w2 wx ∧ Lib.IsBuilderF 88 5 w2.heap.size w2.heap.size (Lib.byteCells (cellsText (l.take i))) wx) (fun _ iv _ => k - (intOf iv).toNat)
        case atStart => exact ⟨0, Nat.zero_le _, rfl, hBb, hbld⟩
        case round =>
          obtain ⟨i, hi, rfl, hb, hbd⟩ := hrel
          have HB := Lib.hid hb
          have HD := Lib.hid hbd
          have hbs := hb.size
          clear hb hbd
          by_cases hlt : i < k
          · (try (exfalso; omega))
            all_goals
              have ho := ownC_below HO.out HB.out
              obtain ⟨b', off', c', e2, _, _⟩ := ownC_pos ho (by omega)
              simp only [Value.slice.injEq, Option.some.injEq] at e2
              obtain ⟨e3, _, rfl⟩ := e2
              first | subst e3 | (simp only [Addr.mk.injEq] at e3; obtain ⟨e4, e5, _⟩ := e3; have e4' := e4.symm; have e5' := e5.symm; subst e4'; subst e5')
              obtain ⟨q0, q1, q2, q3, q4⟩ := ownC_cel ho i (by omega) rfl
              have hix2 := idx_at (P := Tryd.prog) (size := 5) Tryd.underlying51 cell_info b' off' k vc i hlt
              have hok := HW.out.2 (l.getD i noC) (by rw [List.getD_eq_getElem?_getD, List.getElem?_eq_getElem (by omega)]; exact List.getElem_mem _)
              have hsn := cellsText_snoc (l.take i) (l.getD i noC)
              rw [← take_last l i (by omega)] at hsn
              have HSN := Lib.hid hsn
              have hcl := cellsText_le (l.take i)
              rw [List.length_take, Nat.min_eq_left (by omega)] at hcl
              clear ho hsn
              generalize l.getD i noC = cc at *
              obtain ⟨cr, cw, cs⟩ := cc
              obtain ⟨hr0, hr1⟩ := hok
              dsimp only at q0 q1 q2 q3 q4 hr0 hr1 HSN
              have HD2 := Lib.hid (bld_alloc HD.out (.cells #[.int .i32 cr, .int .i64 cw, .int .i64 cs.fg, .int .i64 cs.bg, .int .i64 cs.attr] 38))
              have HB2' := Lib.hid (HB.out.alloc hbs (.cells #[.int .i32 cr, .int .i64 cw, .int .i64 cs.fg, .int .i64 cs.bg, .int .i64 cs.attr] 38))
              by_cases hcw : 0 < cw
              · have dw : decide (0 < cw) = true := decide_eq_true hcw
                have HWR := Lib.hid (writeRune_any w2.heap.size w2.heap.size _ cr hr0 hr1 _ HD2.out (by omega) (by simp; omega))
                go_wp2_with fail
                refine HWR.out.mono ?_
                rintro e w5 ⟨⟨nn, rfl⟩, h5, b5⟩
                have HD5 := Lib.hid h5
                have HB5 := Lib.hid (HB2'.out.trans b5)
                clear h5 b5 HWR
                go_wp2_with fail
                go_roundw
                case rel =>
                  refine ⟨i + 1, by omega, by go_num, HB5.out, ?_⟩
                  rw [HSN.out, if_pos hcw, byteCells_app, Lib.byteCells_encodeRune]
                  exact HD5.out
                case measure => simp [intOf] <;> omega
              · have dw : decide (0 < cw) = false := decide_eq_false hcw
                go_wp2_with fail
                go_roundw
                case rel =>
                  refine ⟨i + 1, by omega, by go_num, HB2'.out, ?_⟩
                  rw [HSN.out, if_neg hcw, List.append_nil]
                  exact HD2.out
                case measure => simp [intOf] <;> omega
          · have hik : i = k := by omega
            subst hik
            have HST := Lib.hid (Tryd.Builder_String_any_f w2.heap.size w2.heap.size _ wr HD.out hbs)
            go_wp2_with fail
            refine HST.out.mono ?_
            rintro e w6 ⟨rfl, _, b6⟩
            have HB6 := Lib.hid (HB2.out.trans ((HB.out.trans b6).mono HB2.out.size))
            clear b6
            go_wp2_with fail
            go_ret
            refine ⟨?_, HB6.out⟩
            unfold textL
            rw [HE.out]
            first | rfl | (rw [h0]; rfl)
end Go.Proofs.YtjclgoiclbkgjaaDoor
