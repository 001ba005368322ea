/- Package vtparse: take. -/
import Derived.Test.YtkdicejlfagaeaaDoorW7
import Derived.Test.YtkdicejlfagaeaaDoorD1
import Derived.WalkMore
import Derived.ScopeJumps
namespace Go.Proofs.YtkdicejlfagaeaaDoor
open Go.RowKit

def PSt.fed (s : PSt) (b : UInt8) : PSt × List VAct := ({ s with dec := (feedD s.dec (b.toNat : Int)).1 }, (feedD s.dec (b.toNat : Int)).2.map prAct)
def PSt.took (s : PSt) (b : UInt8) : PSt × List VAct :=
  if s.state = 1 then s.esced b
  else if s.state = 2 ∨ s.state = 5 then s.seqd b
  else if s.state = 3 then (if 64 ≤ (b.toNat : Int) ∨ (48 ≤ (b.toNat : Int) ∧ s.frm = 1) then (s.begun (if s.frm = 5 then 7 else 0), []) else (s, []))
  else if s.state = 4 ∨ s.state = 6 then (if s.text.length < 1024 then ({ s with text := s.text ++ [b] }, []) else (s, []))
  else if s.state = 7 then (s, [])
  else s.fed b
theorem within_alloc {G : Nat → Prop} {w : World} (hg : ∀ k, w.heap.size ≤ k → G k) (o : Obj) : Within G w (w.alloc o) := by
  have _ := hg
  exact ⟨rfl, rfl, rfl, by simp, fun k hk _ => heap_alloc_old w o hk⟩
theorem InvT.alloc {G : Nat → Prop} {u : Bool} {T : Nat → Nat} {p o : Nat} {w : World} {s : PSt} {acts : List VAct} (h : InvT G u T p o w s acts) (ob : Obj) : InvT G u T p o (w.alloc ob) s acts := by
  obtain ⟨d, vi, vp, vt, vo, L, hL, hA, hC, hT⟩ := h
  have m : Mod T (fun _ => False) w (w.alloc ob) := Mod.of_gb (World.grownBy_alloc w ob none) (by intro k hk; simp at hk)
  exact ⟨d, vi, vp, vt, vo, L, hL, hA.mono m.size, hC.mod m id id id id id, hT.mod m id id id⟩
/-- A scope in which the run jumps ahead, once at most. -/
theorem wp_scope_once {P : Program} {a : Act} {w : World} {Q : Exit → Act → World → Prop} {c rest : Code} (l : Nat) (hf : findLabel c l = some rest)
    (first : c.wp P (Exit.jump l (fun a w => rest.wp P (Exit.noGoto Q) a w) Q) a w) : (Code.scope c).wp P Q a w := by
  refine wp_scope_jumps l (fun a w => rest.wp P (Exit.noGoto Q) a w) (fun _ _ => 0) hf first fun a w h => ?_
  intro b k cs
  obtain ⟨e, a', w', hq, harr⟩ := h b k cs
  refine ⟨e, a', w', ?_, harr⟩
  cases e <;> first | exact hq | exact hq.elim
/-- What of a parser is always so. -/
structure PSt.Fine (s : PSt) : Prop where
  il : s.inter.length ≤ 3
  pne : s.any = true → s.params ≠ []
  pl : s.params.length ≤ 33
  pr : ∀ x ∈ s.params, -1 ≤ x ∧ x ≤ 9999
  tl : s.text.length ≤ 1024
  st : 0 ≤ s.state ∧ s.state ≤ 7
  e1 : s.state = 1 → s.inter.length ≤ 2

/-- The decoder's block has changed. -/
theorem dec_inv {G : Nat → Prop} {u : Bool} {T : Nat → Nat} {p o d : Nat} {vi vp vt vo v : Value} {w w' : World} {s : PSt} {L : List (VAct × Value)} {D : Dec} {l : List Int} (hA : Arena G T w) (hC : Core u T p d (tellV o) vi vp vt w s) (hT : Told G T o vo w L)
    (g : w.grownBy w' (some d)) (hd : DecAt w' d D) (hok : D.ok) (hv : w'.ownsRow w.heap.size 21 1 v l.length (l.map (Value.int .i32))) :
    Within G w w' ∧ InvT G u T p o w' { s with dec := D } (L.map (·.1)) ∧ Row T 0 1 v l.length (l.map (Value.int .i32)) w' := by
  have m : Mod T (fun x => x = 2) w w' := Mod.of_gb g (fun k hk => by injection hk with hk; subst hk; exact hC.td)
  refine ⟨m.within hA (by decide), ⟨d, vi, vp, vt, vo, L, rfl, hA.mono g.size, ?_, hT.mod m (by decide) (by decide) (by decide)⟩, ownC_own (own_mono hv (Nat.zero_le _)), fun k hk => ?_⟩
  · exact ⟨(m.block p (heap_lt hC.blk) (by rw [hC.tp]; decide)).trans hC.blk, hd, hok, hC.ri.mod m (by decide), fun hu => (hC.rp hu).mod m (by decide), hC.rt.mod m (by decide), hC.tp, hC.td⟩
  · have h1 := (hv.lt k hk).1
    by_cases h0 : T k = 0
    · exact h0
    · have := (hA.tl k h0).1; omega
set_option maxRecDepth 100000 in
set_option maxHeartbeats 4000000 in
theorem take_inv {G : Nat → Prop} {T : Nat → Nat} {p o : Nat} {w : World} {s : PSt} {acts : List VAct} (b : UInt8) (h : InvT G true T p o w s acts) (hf : s.Fine) (hn : acts.length + 10 ≤ 1000000000) (hb32 : 32 ≤ (b.toNat : Int)) :
    Calls Tryd.prog 21 #[.pointer (some ⟨p, 0, none⟩), .int .u8 (b.toNat : Int)] w fun e w' => e = .returned (.tuple #[]) ∧ Within G w w' ∧ InvO G true p o w' (s.took b).1 (acts ++ (s.took b).2) := by
  have H := Lib.hid h
  have HE := Lib.hid (show s.took b = if s.state = 1 then s.esced b
    else if s.state = 2 ∨ s.state = 5 then s.seqd b
    else if s.state = 3 then (if 64 ≤ (b.toNat : Int) ∨ (48 ≤ (b.toNat : Int) ∧ s.frm = 1) then (s.begun (if s.frm = 5 then 7 else 0), []) else (s, []))
    else if s.state = 4 ∨ s.state = 6 then (if s.text.length < 1024 then ({ s with text := s.text ++ [b] }, []) else (s, []))
    else if s.state = 7 then (s, [])
    else s.fed b from rfl)
  obtain ⟨d, vi, vp, vt, vo, L, hL, hA, hC, hT⟩ := h
  have c0 : w.cell? ⟨p, 0, none⟩ = some (.int .i64 s.state) := parCell hC 0
  have c1 : w.cell? ⟨p, 1, none⟩ = some (.pointer (some ⟨d, 0, none⟩)) := parCell hC 1
  have c6 : w.cell? ⟨p, 6, none⟩ = some vt := parCell hC 6
  have c9 : w.cell? ⟨p, 9, none⟩ = some (.int .i64 s.frm) := parCell hC 9
  have fz := blk_free hC.blk
  have htl : ∀ (ty : TypeId) (wx : World), (Builtin.len_ #[24] ty #[vt]).run Tryd.prog wx = .ok (.int .i64 s.text.length) wx := ownC_len Tryd.underlying24 hC.rt.own
  obtain ⟨xt, mt, ct, rfl⟩ := ownC_form hC.rt.own
  have HF := Lib.hid hf
  have HC := Lib.hid hC
  have HA := Lib.hid hA
  have HT := Lib.hid hT
  have HL := Lib.hid hL
  have hac : acts.length = L.length := by rw [← hL, List.length_map]
  clear hA hC hT hL hf
  have HB1 := Lib.hid (blk_alloc HC.out.blk (.cells #[.int .u8 (b.toNat : Int)] 5))
  by_cases h1 : s.state = 1
  · rw [if_pos h1] at HE
    have h1' : (s.state == 1) = true := beq_iff_eq.2 h1
    clear h1
    go_enter Tryd.func21, Tryd.ntmps21
    go_wp2_with fail
    refine wp_scope_once 0 rfl ?_
    go_wp2_with fail
    go_step3
    refine ⟨rfl, ?_⟩
    go_wp2_with fail
    refine (escaped_inv b H.out (by have := HF.out.il; omega) (by omega)).mono ?_
    rintro e w2 ⟨rfl, hw2, hi2⟩
    have HW2 := Lib.hid hw2
    have HI2 := Lib.hid hi2
    clear hw2 hi2
    go_wp2_with fail
    simp only [Exit.noGoto]
    refine ret0 rfl rfl ?_
    rw [HE.out]
    exact ⟨rfl, HW2.out, HI2.out⟩
  rw [if_neg h1] at HE
  have h1' : (s.state == 1) = false := beq_eq_false_iff_ne.2 h1
  by_cases h2 : s.state = 2 ∨ s.state = 5
  · rw [if_pos h2] at HE
    rcases h2 with h2 | h2
    · have h2' : (s.state == 2) = true := beq_iff_eq.2 h2
      clear h1 h2
      go_enter Tryd.func21, Tryd.ntmps21
      go_wp2_with fail
      refine wp_scope_once 1 rfl ?_
      go_wp2_with fail
      go_step3
      refine ⟨rfl, ?_⟩
      go_wp2_with fail
      refine (sequence_inv b H.out (by have := HF.out.il; omega) (by omega) hb32 HF.out.pne (by have := HF.out.pl; omega) HF.out.pr).mono ?_
      rintro e w2 ⟨rfl, hw2, hi2⟩
      have HW2 := Lib.hid hw2
      have HI2 := Lib.hid hi2
      clear hw2 hi2
      go_wp2_with fail
      simp only [Exit.noGoto]
      refine ret0 rfl rfl ?_
      rw [HE.out]
      exact ⟨rfl, HW2.out, HI2.out⟩
    · have h2' : (s.state == 2) = false := by rw [beq_eq_false_iff_ne]; omega
      have h5' : (s.state == 5) = true := beq_iff_eq.2 h2
      clear h1 h2
      go_enter Tryd.func21, Tryd.ntmps21
      go_wp2_with fail
      refine wp_scope_once 1 rfl ?_
      go_wp2_with fail
      go_step3
      refine ⟨rfl, ?_⟩
      go_wp2_with fail
      refine (sequence_inv b H.out (by have := HF.out.il; omega) (by omega) hb32 HF.out.pne (by have := HF.out.pl; omega) HF.out.pr).mono ?_
      rintro e w2 ⟨rfl, hw2, hi2⟩
      have HW2 := Lib.hid hw2
      have HI2 := Lib.hid hi2
      clear hw2 hi2
      go_wp2_with fail
      simp only [Exit.noGoto]
      refine ret0 rfl rfl ?_
      rw [HE.out]
      exact ⟨rfl, HW2.out, HI2.out⟩
  rw [if_neg h2] at HE
  have h2' : (s.state == 2) = false := by rw [beq_eq_false_iff_ne]; omega
  have h5' : (s.state == 5) = false := by rw [beq_eq_false_iff_ne]; omega
  by_cases h3 : s.state = 3
  · rw [if_pos h3] at HE
    have h3' : (s.state == 3) = true := beq_iff_eq.2 h3
    clear h1 h2 h3
    by_cases hg : 64 ≤ (b.toNat : Int) ∨ (48 ≤ (b.toNat : Int) ∧ s.frm = 1)
    · rw [if_pos hg] at HE
      have hgo : decide (64 ≤ (b.toNat : Int)) = true ∨ (decide (64 ≤ (b.toNat : Int)) = false ∧ decide (48 ≤ (b.toNat : Int)) = true ∧ (s.frm == 1) = true) := by
        by_cases h64 : 64 ≤ (b.toNat : Int)
        · exact .inl (decide_eq_true h64)
        · rcases hg with h | ⟨h, h'⟩
          · exact absurd h h64
          · exact .inr ⟨decide_eq_false h64, decide_eq_true h, beq_iff_eq.2 h'⟩
      have HAL := Lib.hid (H.out.alloc (.cells #[.int .i64 0, .int .i64 7] 3))
      have HWA := Lib.hid (within_alloc HA.out.gn (.cells #[.int .i64 0, .int .i64 7] 3))
      have a9 : (w.alloc (.cells #[.int .i64 0, .int .i64 7] 3)).cell? ⟨p, 9, none⟩ = some (.int .i64 s.frm) := blk_cell (blk_alloc HC.out.blk _) 9
      clear hg
      rcases hgo with h64' | ⟨h64', h48', hf1'⟩
      · skip
        go_enter Tryd.func21, Tryd.ntmps21
        go_wp2_with fail
        refine wp_scope_once 2 rfl ?_
        go_wp2_with fail
        go_step3
        refine ⟨rfl, ?_⟩
        go_wp2_with fail
        refine (flag_any _ _).mono ?_
        rintro e w2 ⟨rfl, rfl⟩
        cases hf5 : (s.frm == 5)
        · have hfx : ¬ s.frm = 5 := by rw [beq_eq_false_iff_ne] at hf5; exact hf5
          rw [if_neg hfx] at HE
          clear hfx
          go_wp2_with fail
          refine (begin_inv 0 HAL.out).mono ?_
          rintro e w2 ⟨rfl, hw2, hi2⟩
          have HW2 := Lib.hid (HWA.out.trans hw2)
          have HI2 := Lib.hid hi2
          clear hw2 hi2
          go_wp2_with fail
          simp only [Exit.noGoto]
          refine ret0 rfl rfl ?_
          rw [HE.out, List.append_nil]
          exact ⟨rfl, HW2.out, T, HI2.out⟩
        · have hfx : s.frm = 5 := beq_iff_eq.1 hf5
          rw [if_pos hfx] at HE
          clear hfx
          go_wp2_with fail
          refine (begin_inv 7 HAL.out).mono ?_
          rintro e w2 ⟨rfl, hw2, hi2⟩
          have HW2 := Lib.hid (HWA.out.trans hw2)
          have HI2 := Lib.hid hi2
          clear hw2 hi2
          go_wp2_with fail
          simp only [Exit.noGoto]
          refine ret0 rfl rfl ?_
          rw [HE.out, List.append_nil]
          exact ⟨rfl, HW2.out, T, HI2.out⟩
      · skip
        go_enter Tryd.func21, Tryd.ntmps21
        go_wp2_with fail
        refine wp_scope_once 2 rfl ?_
        go_wp2_with fail
        go_step3
        refine ⟨rfl, ?_⟩
        go_wp2_with fail
        refine (flag_any _ _).mono ?_
        rintro e w2 ⟨rfl, rfl⟩
        cases hf5 : (s.frm == 5)
        · have hfx : ¬ s.frm = 5 := by rw [beq_eq_false_iff_ne] at hf5; exact hf5
          rw [if_neg hfx] at HE
          clear hfx
          go_wp2_with fail
          refine (begin_inv 0 HAL.out).mono ?_
          rintro e w2 ⟨rfl, hw2, hi2⟩
          have HW2 := Lib.hid (HWA.out.trans hw2)
          have HI2 := Lib.hid hi2
          clear hw2 hi2
          go_wp2_with fail
          simp only [Exit.noGoto]
          refine ret0 rfl rfl ?_
          rw [HE.out, List.append_nil]
          exact ⟨rfl, HW2.out, T, HI2.out⟩
        · have hfx : s.frm = 5 := beq_iff_eq.1 hf5
          rw [if_pos hfx] at HE
          clear hfx
          go_wp2_with fail
          refine (begin_inv 7 HAL.out).mono ?_
          rintro e w2 ⟨rfl, hw2, hi2⟩
          have HW2 := Lib.hid (HWA.out.trans hw2)
          have HI2 := Lib.hid hi2
          clear hw2 hi2
          go_wp2_with fail
          simp only [Exit.noGoto]
          refine ret0 rfl rfl ?_
          rw [HE.out, List.append_nil]
          exact ⟨rfl, HW2.out, T, HI2.out⟩
    · rw [if_neg hg] at HE
      have h64' : decide (64 ≤ (b.toNat : Int)) = false := decide_eq_false (fun h => hg (.inl h))
      by_cases h48 : 48 ≤ (b.toNat : Int)
      · have h48' : decide (48 ≤ (b.toNat : Int)) = true := decide_eq_true h48
        have hf1' : (s.frm == 1) = false := beq_eq_false_iff_ne.2 (fun h => hg (.inr ⟨h48, h⟩))
        clear hg
        go_enter Tryd.func21, Tryd.ntmps21
        go_wp2_with fail
        refine wp_scope_once 2 rfl ?_
        go_wp2_with fail
        go_step3
        refine ⟨rfl, ?_⟩
        go_wp2_with fail
        simp only [Exit.noGoto]
        refine ret0 rfl rfl ?_
        rw [HE.out, List.append_nil]
        exact ⟨rfl, Within.refl _ _, T, H.out⟩
      · have h48' : decide (48 ≤ (b.toNat : Int)) = false := decide_eq_false h48
        clear hg
        go_enter Tryd.func21, Tryd.ntmps21
        go_wp2_with fail
        refine wp_scope_once 2 rfl ?_
        go_wp2_with fail
        go_step3
        refine ⟨rfl, ?_⟩
        go_wp2_with fail
        simp only [Exit.noGoto]
        refine ret0 rfl rfl ?_
        rw [HE.out, List.append_nil]
        exact ⟨rfl, Within.refl _ _, T, H.out⟩
  rw [if_neg h3] at HE
  have h3' : (s.state == 3) = false := beq_eq_false_iff_ne.2 h3
  by_cases h4 : s.state = 4 ∨ s.state = 6
  · rw [if_pos h4] at HE
    have hst : (s.state == 4) = true ∨ ((s.state == 4) = false ∧ (s.state == 6) = true) := by
      rcases h4 with h | h
      · exact .inl (beq_iff_eq.2 h)
      · exact .inr ⟨by rw [beq_eq_false_iff_ne]; omega, beq_iff_eq.2 h⟩
    clear h1 h2 h3 h4
    by_cases htx : s.text.length < 1024
    · rw [if_pos htx] at HE
      have htx' : decide ((s.text.length : Int) < 1024) = true := decide_eq_true (by omega)
      have htx'' : decide (s.text.length < 1024) = true := decide_eq_true htx
      rcases hst with h4' | ⟨h4', h6'⟩
      · skip
        go_enter Tryd.func21, Tryd.ntmps21
        go_wp2_with fail
        refine wp_scope_once 3 rfl ?_
        go_wp2_with fail
        go_step3
        refine ⟨rfl, ?_⟩
        go_wp2_with (at_builtin; refine held ?_)
        unfold Held
        refine wpList_appD bytes_elem rfl rfl 0 (ownC_alloc HC.out.rt.own _) rfl (reads_one _ _ _) rfl (int_one _ _) (by unfold maxLen; omega) (by omega) (by omega) ?_
        intro v6 w6 o6 g6 n6
        obtain ⟨x6, m6, c6, rfl⟩ := ownC_form o6
        have hb6 := blk_grown HB1.out g6 (fun e => by have h1 := HC.out.rt.tag p e.symm; have h2 := HC.out.tp; omega)
        have cc6 : w6.cell? ⟨p, 6, none⟩ = some (.slice xt mt ct) := blk_cell hb6 6
        have fz6 := blk_free hb6
        have HB6 := Lib.hid hb6
        have ho6 : OwnC w6 0 1 (.slice x6 m6 c6) (s.text ++ [b]).length (byteVals (s.text ++ [b])) := by
          rw [List.length_append, byteVals_append]; exact o6
        obtain ⟨T', hw', hr', hrow, hpb, hfin⟩ := grow_inv (t := 6) (.inr (.inr rfl)) rfl HA.out HC.out HT.out HC.out.rt (World.grownBy_alloc w _ none) g6 ho6 n6
        obtain ⟨hw'', hi''⟩ := hfin (w6.setCell ⟨p, 6, none⟩ (.slice x6 m6 c6)) { s with text := s.text ++ [b] } vi vp (.slice x6 m6 c6) (gb_set (gb_refl _ _) _ _) (blk_set HB6.out 6 _) rfl (hrow 4 1 _ _ _ (by decide) HC.out.ri) (hrow 5 1 _ _ _ (by decide) (HC.out.rp rfl)) hr'
        have HW2 := Lib.hid hw''
        have HI2 := Lib.hid hi''
        clear o6 g6 n6 ho6 hw' hr' hrow hpb hfin hw'' hi'' hb6
        go_wp2_with fail
        simp only [Exit.noGoto]
        go_end0
        rw [HE.out, ← HL.out, List.append_nil]
        exact ⟨rfl, HW2.out, T', HI2.out⟩
      · skip
        go_enter Tryd.func21, Tryd.ntmps21
        go_wp2_with fail
        refine wp_scope_once 3 rfl ?_
        go_wp2_with fail
        go_step3
        refine ⟨rfl, ?_⟩
        go_wp2_with (at_builtin; refine held ?_)
        unfold Held
        refine wpList_appD bytes_elem rfl rfl 0 (ownC_alloc HC.out.rt.own _) rfl (reads_one _ _ _) rfl (int_one _ _) (by unfold maxLen; omega) (by omega) (by omega) ?_
        intro v6 w6 o6 g6 n6
        obtain ⟨x6, m6, c6, rfl⟩ := ownC_form o6
        have hb6 := blk_grown HB1.out g6 (fun e => by have h1 := HC.out.rt.tag p e.symm; have h2 := HC.out.tp; omega)
        have cc6 : w6.cell? ⟨p, 6, none⟩ = some (.slice xt mt ct) := blk_cell hb6 6
        have fz6 := blk_free hb6
        have HB6 := Lib.hid hb6
        have ho6 : OwnC w6 0 1 (.slice x6 m6 c6) (s.text ++ [b]).length (byteVals (s.text ++ [b])) := by
          rw [List.length_append, byteVals_append]; exact o6
        obtain ⟨T', hw', hr', hrow, hpb, hfin⟩ := grow_inv (t := 6) (.inr (.inr rfl)) rfl HA.out HC.out HT.out HC.out.rt (World.grownBy_alloc w _ none) g6 ho6 n6
        obtain ⟨hw'', hi''⟩ := hfin (w6.setCell ⟨p, 6, none⟩ (.slice x6 m6 c6)) { s with text := s.text ++ [b] } vi vp (.slice x6 m6 c6) (gb_set (gb_refl _ _) _ _) (blk_set HB6.out 6 _) rfl (hrow 4 1 _ _ _ (by decide) HC.out.ri) (hrow 5 1 _ _ _ (by decide) (HC.out.rp rfl)) hr'
        have HW2 := Lib.hid hw''
        have HI2 := Lib.hid hi''
        clear o6 g6 n6 ho6 hw' hr' hrow hpb hfin hw'' hi'' hb6
        go_wp2_with fail
        simp only [Exit.noGoto]
        go_end0
        rw [HE.out, ← HL.out, List.append_nil]
        exact ⟨rfl, HW2.out, T', HI2.out⟩
    · rw [if_neg htx] at HE
      have htx' : decide ((s.text.length : Int) < 1024) = false := decide_eq_false (by omega)
      have htx'' : decide (s.text.length < 1024) = false := decide_eq_false htx
      rcases hst with h4' | ⟨h4', h6'⟩
      · skip
        go_enter Tryd.func21, Tryd.ntmps21
        go_wp2_with fail
        refine wp_scope_once 3 rfl ?_
        go_wp2_with fail
        go_step3
        refine ⟨rfl, ?_⟩
        go_wp2_with fail
        simp only [Exit.noGoto]
        go_end0
        rw [HE.out, List.append_nil]
        exact ⟨rfl, Within.refl _ _, T, H.out⟩
      · skip
        go_enter Tryd.func21, Tryd.ntmps21
        go_wp2_with fail
        refine wp_scope_once 3 rfl ?_
        go_wp2_with fail
        go_step3
        refine ⟨rfl, ?_⟩
        go_wp2_with fail
        simp only [Exit.noGoto]
        go_end0
        rw [HE.out, List.append_nil]
        exact ⟨rfl, Within.refl _ _, T, H.out⟩
  rw [if_neg h4] at HE
  have h4' : (s.state == 4) = false := by rw [beq_eq_false_iff_ne]; omega
  have h6' : (s.state == 6) = false := by rw [beq_eq_false_iff_ne]; omega
  by_cases h7 : s.state = 7
  · rw [if_pos h7] at HE
    have h7' : (s.state == 7) = true := beq_iff_eq.2 h7
    clear h1 h2 h3 h4 h7
    go_enter Tryd.func21, Tryd.ntmps21
    go_wp2_with fail
    go_step3
    go_wp2_with fail
    simp only [Exit.noGoto]
    refine ret0 rfl rfl ?_
    rw [HE.out, List.append_nil]
    exact ⟨rfl, Within.refl _ _, T, H.out⟩
  rw [if_neg h7] at HE
  have h7' : (s.state == 7) = false := beq_eq_false_iff_ne.2 h7
  clear h1 h2 h3 h4 h7
  have HFD := Lib.hid (show s.fed b = ({ s with dec := (feedD s.dec (b.toNat : Int)).1 }, (feedD s.dec (b.toNat : Int)).2.map prAct) from rfl)
  have hfl := feedD_len s.dec (b.toNat : Int)
  have HOK := Lib.hid (feedD_ok s.dec (b.toNat : Int) (by omega) (byte_le b) HC.out.dok)
  have HFE := Lib.hid (feed_any d s.dec (b.toNat : Int) w HC.out.dec (by omega) (byte_le b) HC.out.dok)
  generalize feedD s.dec (b.toNat : Int) = D at *
  obtain ⟨D, l⟩ := D
  dsimp only at hfl HOK HFE HFD
  go_enter Tryd.func21, Tryd.ntmps21
  go_wp2_with fail
  go_step3
  go_wp2_with fail
  refine HFE.out.mono ?_
  rintro e w2 ⟨v, rfl, o2, g2, d2⟩
  obtain ⟨hw2, hi2, hr2⟩ := dec_inv HA.out HC.out HT.out g2 d2 HOK.out o2
  have HW2 := Lib.hid hw2
  have HI2 := Lib.hid hi2
  have HR2 := Lib.hid hr2
  clear o2 g2 d2 hw2 hi2 hr2
  go_wp2_with fail
  refine (parRunes_inv v l HI2.out HR2.out (by rw [List.length_map]; omega)).mono ?_
  rintro e w3 ⟨rfl, hw3, hi3⟩
  have HW3 := Lib.hid (HW2.out.trans hw3)
  have HI3 := Lib.hid hi3
  clear hw3 hi3
  go_wp2_with fail
  simp only [Exit.noGoto]
  refine ret0 rfl rfl ?_
  rw [HE.out, HFD.out, ← HL.out]
  exact ⟨rfl, HW3.out, HI3.out⟩
end Go.Proofs.YtkdicejlfagaeaaDoor
