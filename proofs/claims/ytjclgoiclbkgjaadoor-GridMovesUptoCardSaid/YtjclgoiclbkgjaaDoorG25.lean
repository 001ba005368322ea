/- The examples that stand at the head of each law of package grid: the walk. -/
import Derived.Test.YtjclgoiclbkgjaaDoorG24
namespace Go.Proofs.YtjclgoiclbkgjaaDoor
open Go.RowKit
attribute [local go_sem ↓] Go.wp_at_zero Go.wp_at_succ

theorem eq_pos_in (a b c e : Int) (d : Nat) (w : World) : (Op.equalIn (d + 2) 43 (.agg #[.int .i64 a, .int .i64 b]) (.agg #[.int .i64 c, .int .i64 e])).run Tryd.prog w = .ok (a == c && b == e) w := by
  have hS : Tryd.prog.underlying 43 = some (.struct (Tryd.prog.fieldsOf 43)) := by kernel_rfl
  have hp : Tryd.prog.stoodInHeld 43 = false := by kernel_rfl
  rw [run_equalIn_agg w (d + 1) 43 _ _ hS hp]
  simp only [Program.fieldsOf, Tryd.underlying43]
  go_simp
  by_cases h1 : a = c <;> by_cases h2 : b = e <;> simp [h1, h2]
theorem eql_pos (a b c e : Int) (w : World) : (binOp .eql 43 (.agg #[.int .i64 a, .int .i64 b]) (.agg #[.int .i64 c, .int .i64 e])).run Tryd.prog w = .ok (.bool (a == c && b == e)) w := by
  have := eq_pos_in a b c e 9998 w
  rw [run_eql_struct, show (10000 : Nat) = 9998 + 2 from rfl, this]; rfl
theorem guard_pos (op : BinOp) (x y : Operand) (a b c e : Int) (w : World) : (eqGuard op 43 x y (.agg #[.int .i64 a, .int .i64 b]) (.agg #[.int .i64 c, .int .i64 e])).run Tryd.prog w = .ok () w := run_eqGuard_agg w op 43 x y _ _ (by kernel_rfl)
/-- A grid that lies in memory made since w. -/
structure Sh (w : World) (T : Nat → Nat) (p : Nat) (wi : World) (g : Gr) : Prop where
  b : Below w.heap.size w wi
  gm : GM T p wi g
  n : ∀ k, T k ≠ 0 → w.heap.size ≤ k
theorem Sh.below {w : World} {T : Nat → Nat} {p : Nat} {wi wj : World} {g : Gr} (h : Sh w T p wi g) (b : Below wi.heap.size wi wj) : Sh w T p wj g := ⟨h.b.trans (b.mono h.b.size), h.gm.below b, h.n⟩
theorem Sh.turn {w : World} {T T' : Nat → Nat} {p : Nat} {wi wj : World} {g g' : Gr} (h : Sh w T p wi g) (hw : Within (own T wi) wi wj) (hg : GM T' p wj g') (hn : ∀ k, T' k ≠ 0 → own T wi k) : Sh w T' p wj g' :=
  ⟨h.b.trans (own_below hw h.b.size h.n), hg, fun k hk => by
    rcases hn k hk with e | e
    · exact h.n k e
    · have := h.b.size; omega⟩
theorem Sh.put {w : World} {T : Nat → Nat} {p : Nat} {wi wj : World} {g g' : Gr} (h : Sh w T p wi g) (hw : Within (own T wi) wi wj) (hg : GM T p wj g') : Sh w T p wj g' := h.turn hw hg (fun _ hk => .inl hk)
set_option maxRecDepth 100000 in
set_option maxHeartbeats 4000000 in
theorem shown_any (w : World) : Calls Tryd.prog 7 #[] w fun e w' => e = .returned (.bool true) ∧ Below w.heap.size w w' := by
  have hok : ∀ k : Nat, k ≤ 1000 → (⟨97 + k, 1, plainS⟩ : Cel).Ok := fun k hk => ⟨by show (-2147483648 : Int) ≤ 97 + k; omega, by show (97 : Int) + k ≤ 2147483647; omega⟩
  have HOK := Lib.hid hok
  clear hok
  go_enter Tryd.func7, Tryd.ntmps7
  go_wp2_with fail
  refine (newGrid_any 3 2 5 w (by decide) (by decide) (by decide) (by decide) (by decide)).mono ?_
  rintro e w1 ⟨p, T, rfl, b1, h1, n1⟩
  have HS1 := Lib.hid (show Sh w T p w1 (newG 3 2 5) from ⟨b1, h1, n1⟩)
  clear b1 h1 n1
  go_wp2_with fail
  refine (letter_any 97 1 w1).mono ?_
  rintro e w2 ⟨rfl, b2⟩
  have HS2 := Lib.hid (HS1.out.below b2)
  clear HS1 b2
  go_wp2_with fail
  refine (put_any HS2.out.gm 0 0 ⟨97, 1, plainS⟩ right_plain ⟨by decide, by decide⟩).mono ?_
  rintro e w3 ⟨rfl, hw3, h3⟩
  have HS3 := Lib.hid (HS2.out.put hw3 h3)
  clear HS2 hw3 h3
  go_wp2_with fail
  refine (letter_any 20013 2 w3).mono ?_
  rintro e w4 ⟨rfl, b4⟩
  have HS4 := Lib.hid (HS3.out.below b4)
  clear HS3 b4
  go_wp2_with fail
  refine (put_any HS4.out.gm 1 0 ⟨20013, 2, plainS⟩ right_plain ⟨by decide, by decide⟩).mono ?_
  rintro e w5 ⟨rfl, hw5, h5⟩
  have HS5 := Lib.hid (HS4.out.put hw5 h5)
  clear HS4 hw5 h5
  go_wp2_with fail
  refine (letter_any 98 1 w5).mono ?_
  rintro e w6 ⟨rfl, b6⟩
  have HS6 := Lib.hid (HS5.out.below b6)
  clear HS5 b6
  go_wp2_with fail
  refine (put_any HS6.out.gm 1 0 ⟨98, 1, plainS⟩ right_plain ⟨by decide, by decide⟩).mono ?_
  rintro e w7 ⟨rfl, hw7, h7⟩
  have HS7 := Lib.hid (show Sh w T p w7 sh1 from HS6.out.put hw7 h7)
  clear HS6 hw7 h7
  go_wp2_with fail
  refine (text_any HS7.out.gm 0).mono ?_
  rintro e w8 ⟨rfl, b8⟩
  have HS8 := Lib.hid (HS7.out.below b8)
  clear HS7 b8
  rw [sh1_text]
  have hcq := fun (wx : World) => eql_cel ⟨32, 1, plainS⟩ ⟨32, 1, plainS⟩ wx
  have hgq := fun (x y : Operand) (wx : World) => guard_cel .eql x y ⟨32, 1, plainS⟩ ⟨32, 1, plainS⟩ wx
  rw [show (Cel.eqb ⟨32, 1, plainS⟩ ⟨32, 1, plainS⟩) = true from rfl] at hcq
  go_wp2_with fail
  refine (cell_any HS8.out.gm 2 0).mono ?_
  rintro e w9 ⟨rfl, b9⟩
  have HS9 := Lib.hid (HS8.out.below b9)
  clear HS8 b9
  rw [sh1_cell]
  go_wp2_with fail
  refine (letter_any 32 1 w9).mono ?_
  rintro e w10 ⟨rfl, b10⟩
  have HB10 := Lib.hid (HS9.out.below b10).b
  clear HS9 b10
  go_wp2_with fail
  refine (newGrid_any 4 2 5 w10 (by decide) (by decide) (by decide) (by decide) (by decide)).mono ?_
  rintro e w11 ⟨q, T2, rfl, b11, h11, n11⟩
  have HS11 := Lib.hid (show Sh w10 T2 q w11 (sh2 0) from ⟨b11, h11, n11⟩)
  clear b11 h11 n11 hcq hgq
  go_upto_region 12 with fail
  go_loopw [5] (fun iv wr => ∃ k : Nat, k ≤ 6 ∧ iv = .int .i64 k ∧ Hid (Sh w10 T2 q wr (sh2 k))) (fun iv _ => 6 - (intOf iv).toNat)
  case atStart => exact ⟨0, by decide, rfl, HS11⟩
  case round =>
    obtain ⟨k, hk, rfl, HS⟩ := hrel
    by_cases hlt : k < 6
    · rcases (show k = 0 ∨ k = 1 ∨ k = 2 ∨ k = 3 ∨ k = 4 ∨ k = 5 by omega) with rfl | rfl | rfl | rfl | rfl | rfl
      · go_wp2_with fail
        refine (letter_any 97 1 _).mono ?_
        rintro e w12 ⟨rfl, b12⟩
        have HS12 := Lib.hid (HS.out.below b12)
        clear b12
        go_wp2_with fail
        refine (put_any HS12.out.gm 0 0 ⟨97, 1, plainS⟩ right_plain ⟨by decide, by decide⟩).mono ?_
        rintro e w13 ⟨rfl, hw13, h13⟩
        have HS13 := Lib.hid (show Sh w10 T2 q w13 (sh2 1) from HS12.out.put hw13 h13)
        clear hw13 h13
        go_wp2_with fail
        go_roundw
        case rel => exact ⟨1, by decide, by go_num, HS13⟩
        case measure => simp [intOf]
      · go_wp2_with fail
        refine (letter_any 98 1 _).mono ?_
        rintro e w12 ⟨rfl, b12⟩
        have HS12 := Lib.hid (HS.out.below b12)
        clear b12
        go_wp2_with fail
        refine (put_any HS12.out.gm 1 0 ⟨98, 1, plainS⟩ right_plain ⟨by decide, by decide⟩).mono ?_
        rintro e w13 ⟨rfl, hw13, h13⟩
        have HS13 := Lib.hid (show Sh w10 T2 q w13 (sh2 2) from HS12.out.put hw13 h13)
        clear hw13 h13
        go_wp2_with fail
        go_roundw
        case rel => exact ⟨2, by decide, by go_num, HS13⟩
        case measure => simp [intOf]
      · go_wp2_with fail
        refine (letter_any 99 1 _).mono ?_
        rintro e w12 ⟨rfl, b12⟩
        have HS12 := Lib.hid (HS.out.below b12)
        clear b12
        go_wp2_with fail
        refine (put_any HS12.out.gm 2 0 ⟨99, 1, plainS⟩ right_plain ⟨by decide, by decide⟩).mono ?_
        rintro e w13 ⟨rfl, hw13, h13⟩
        have HS13 := Lib.hid (show Sh w10 T2 q w13 (sh2 3) from HS12.out.put hw13 h13)
        clear hw13 h13
        go_wp2_with fail
        go_roundw
        case rel => exact ⟨3, by decide, by go_num, HS13⟩
        case measure => simp [intOf]
      · go_wp2_with fail
        refine (letter_any 100 1 _).mono ?_
        rintro e w12 ⟨rfl, b12⟩
        have HS12 := Lib.hid (HS.out.below b12)
        clear b12
        go_wp2_with fail
        refine (put_any HS12.out.gm 3 0 ⟨100, 1, plainS⟩ right_plain ⟨by decide, by decide⟩).mono ?_
        rintro e w13 ⟨rfl, hw13, h13⟩
        have HS13 := Lib.hid (show Sh w10 T2 q w13 (sh2 4) from HS12.out.put hw13 h13)
        clear hw13 h13
        go_wp2_with fail
        go_roundw
        case rel => exact ⟨4, by decide, by go_num, HS13⟩
        case measure => simp [intOf]
      · go_wp2_with fail
        refine (letter_any 101 1 _).mono ?_
        rintro e w12 ⟨rfl, b12⟩
        have HS12 := Lib.hid (HS.out.below b12)
        clear b12
        go_wp2_with fail
        refine (put_any HS12.out.gm 0 1 ⟨101, 1, plainS⟩ right_plain ⟨by decide, by decide⟩).mono ?_
        rintro e w13 ⟨rfl, hw13, h13⟩
        have HS13 := Lib.hid (show Sh w10 T2 q w13 (sh2 5) from HS12.out.put hw13 h13)
        clear hw13 h13
        go_wp2_with fail
        go_roundw
        case rel => exact ⟨5, by decide, by go_num, HS13⟩
        case measure => simp [intOf]
      · go_wp2_with fail
        refine (letter_any 102 1 _).mono ?_
        rintro e w12 ⟨rfl, b12⟩
        have HS12 := Lib.hid (HS.out.below b12)
        clear b12
        go_wp2_with fail
        refine (put_any HS12.out.gm 1 1 ⟨102, 1, plainS⟩ right_plain ⟨by decide, by decide⟩).mono ?_
        rintro e w13 ⟨rfl, hw13, h13⟩
        have HS13 := Lib.hid (show Sh w10 T2 q w13 (sh2 6) from HS12.out.put hw13 h13)
        clear hw13 h13
        go_wp2_with fail
        go_roundw
        case rel => exact ⟨6, by decide, by go_num, HS13⟩
        case measure => simp [intOf]
    · have hk6 : k = 6 := by omega
      subst hk6
      go_wp2_with fail
      refine (wrap_any HS.out.gm 0 true).mono ?_
      rintro e w13 ⟨rfl, hw13, h13⟩
      have HS13 := Lib.hid (show Sh w10 T2 q w13 sh3 from HS.out.put hw13 h13)
      clear hw13 h13
      go_wp2_with fail
      refine (resizeF_any HS13.out.gm 2 2 1 1 (by decide) (by decide) (by decide) (by decide)).mono ?_
      rintro e w14 ⟨rfl, hw14, T3, h14, n14⟩
      rw [show (sh3.resize 2 2 1 1 true).2.1 = 1 by kernel_rfl, show (sh3.resize 2 2 1 1 true).2.2 = 1 by kernel_rfl]
      have HS14 := Lib.hid (show Sh w10 T3 q w14 sh4.1 from HS13.out.turn hw14 h14 n14)
      clear hw14 h14 n14
      go_upto_region 17 with fail
      have HK15 := Lib.hid (blk_new w14 (.cells #[.int .i64 1, .int .i64 1] 43))
      have HS15 := Lib.hid (HS14.out.below (Below.alloc (Below.refl w14.heap.size w14) (Nat.le_refl _) (.cells #[.int .i64 1, .int .i64 1] 43)))
      have HT3 := Lib.hid (show T3 w14.heap.size = 0 from by
        by_cases h0 : T3 w14.heap.size = 0
        · exact h0
        · have := HS14.out.gm.lt _ h0; omega)
      have hb14 := HS14.out.b.size
      generalize hpk : w14.heap.size = pk at *
      have HPK := Lib.hid hpk
      clear hpk HS14
      generalize w14.alloc (.cells #[.int .i64 1, .int .i64 1] 43) = w15 at *
      have x0 : w15.cell? ⟨pk, 0, none⟩ = some (.int .i64 1) := blk_cell HK15.out 0
      have x1 : w15.cell? ⟨pk, 1, none⟩ = some (.int .i64 1) := blk_cell HK15.out 1
      have hpq := fun (wx : World) => eql_pos 1 1 1 1 wx
      have hgq := fun (x y : Operand) (wx : World) => guard_pos .eql x y 1 1 1 1 wx
      rw [show ((1 : Int) == 1 && (1 : Int) == 1) = true from rfl] at hpq
      go_wp2_with fail
      refine (text_any HS15.out.gm 0).mono ?_
      rintro e w16 ⟨rfl, b16⟩
      have HS16 := Lib.hid (HS15.out.below b16)
      have HK16 := Lib.hid (blk_below HK15.out b16 (heap_lt HK15.out))
      clear HS15 HK15 b16
      clear x0 x1 hpq hgq
      rw [sh4_t0]
      go_wp2_with fail
      refine (text_any HS16.out.gm 1).mono ?_
      rintro e w17 ⟨rfl, b17⟩
      have HS17 := Lib.hid (HS16.out.below b17)
      have HK17 := Lib.hid (blk_below HK16.out b17 (heap_lt HK16.out))
      clear HS16 HK16 b17
      rw [sh4_t1]
      go_wp2_with fail
      refine (text_any HS17.out.gm (-1)).mono ?_
      rintro e w18 ⟨rfl, b18⟩
      have HS18 := Lib.hid (HS17.out.below b18)
      have HK18 := Lib.hid (blk_below HK17.out b18 (heap_lt HK17.out))
      clear HS17 HK17 b18
      rw [sh4_tm]
      go_wp2_with fail
      refine (wrapped_any HS18.out.gm (-1)).mono ?_
      rintro e w19 ⟨rfl, b19⟩
      have HS19 := Lib.hid (HS18.out.below b19)
      have HK19 := Lib.hid (blk_below HK18.out b19 (heap_lt HK18.out))
      clear HS18 HK18 b19
      rw [sh4_wr]
      have x0 : w19.cell? ⟨pk, 0, none⟩ = some (.int .i64 1) := blk_cell HK19.out 0
      have x1 : w19.cell? ⟨pk, 1, none⟩ = some (.int .i64 1) := blk_cell HK19.out 1
      go_wp2_with fail
      refine (resizeF_any HS19.out.gm 6 2 1 1 (by decide) (by decide) (by decide) (by decide)).mono ?_
      rintro e w20 ⟨rfl, hw20, T4, h20, n20⟩
      rw [show (sh4.1.resize 6 2 1 1 true).2.1 = 5 by kernel_rfl, show (sh4.1.resize 6 2 1 1 true).2.2 = 0 by kernel_rfl]
      have hno : ¬ own T3 w19 pk := fun e => by
        rcases e with e | e
        · exact e HT3.out
        · have := heap_lt HK19.out; omega
      have HS20 := Lib.hid (show Sh w10 T4 q w20 sh5.1 from HS19.out.turn hw20 h20 n20)
      have hk20 := (hw20.block pk (heap_lt HK19.out) hno).trans HK19.out
      have hst := run_storeVar_row (P := Tryd.prog) w20 pk 43 43 _ #[.int .i64 5, .int .i64 0] hk20 (by kernel_rfl) rfl (by simp [Value.oneCell'])
      have HK21 := Lib.hid (setRow_blk (cells := #[.int .i64 5, .int .i64 0]) hk20)
      have HGE := Lib.hid (gb_setRow w20 pk #[.int .i64 5, .int .i64 0])
      have HS21 := Lib.hid (show Sh w10 T4 q (w20.setRow pk #[.int .i64 5, .int .i64 0]) sh5.1 from
        ⟨HS20.out.b.trans (below_of_gb HGE.out HS20.out.b.size (fun k hk => by injection hk with hk; omega)),
         HS20.out.gm.other (Tp := fun k => if k = pk then 1 else 0) (Within.of_gb HGE.out (fun k hk => by
            injection hk with hk
            subst hk
            exact .inl (by show (if _ then 1 else 0) ≠ 0; rw [if_pos rfl]; decide))) (fun k hk => by
            show (if _ then 1 else 0) = 0
            rw [if_neg (fun e => hno (by rw [← e]; exact n20 k hk))]), HS20.out.n⟩)
      clear x0 x1 hk20 hw20 h20 n20 HS19 HS20 hno
      have x0 : (w20.setRow pk #[.int .i64 5, .int .i64 0]).cell? ⟨pk, 0, none⟩ = some (.int .i64 5) := blk_cell HK21.out 0
      have x1 : (w20.setRow pk #[.int .i64 5, .int .i64 0]).cell? ⟨pk, 1, none⟩ = some (.int .i64 0) := blk_cell HK21.out 1
      have hpq := fun (wx : World) => eql_pos 5 0 5 0 wx
      have hgq := fun (x y : Operand) (wx : World) => guard_pos .eql x y 5 0 5 0 wx
      rw [show ((5 : Int) == 5 && (0 : Int) == 0) = true from rfl] at hpq
      go_wp2_with (refine wpList_storeR rfl _ _ _ rfl hst rfl rfl ?_)
      refine (text_any HS21.out.gm 0).mono ?_
      rintro e w22 ⟨rfl, b22⟩
      have HS22 := Lib.hid (HS21.out.below b22)
      clear HS21 b22
      rw [sh5_t0]
      go_wp2_with fail
      refine (text_any HS22.out.gm 1).mono ?_
      rintro e w23 ⟨rfl, b23⟩
      have HS23 := Lib.hid (HS22.out.below b23)
      clear HS22 b23
      rw [sh5_t1]
      go_wp2_with fail
      refine (history_any HS23.out.gm).mono ?_
      rintro e w24 ⟨rfl, hw24⟩
      subst hw24
      rw [sh5_old]
      go_wp2_with fail
      exact ret1v rfl rfl rfl ⟨rfl, HB10.out.trans (HS23.out.b.mono HB10.out.size)⟩
end Go.Proofs.YtjclgoiclbkgjaaDoor
