/- Package vtparse: escaped. -/
import Derived.Test.YtkdicejlfagaeaaDoorW5
namespace Go.Proofs.YtkdicejlfagaeaaDoor
open Go.RowKit

def PSt.esced (s : PSt) (b : UInt8) : PSt × List VAct :=
  if betweenL (b.toNat : Int) then (if s.inter.length = 2 then (s.passed, []) else ({ s with inter := s.inter ++ [b] }, []))
  else if s.inter.length = 0 then
    if (b.toNat : Int) = 91 then (s.begun 2, [])
    else if (b.toNat : Int) = 93 then (s.begun 4, [])
    else if (b.toNat : Int) = 80 then (s.begun 5, [])
    else if (b.toNat : Int) = 88 ∨ (b.toNat : Int) = 94 ∨ (b.toNat : Int) = 95 then (s.begun 7, [])
    else if (b.toNat : Int) = 92 ∧ s.ended = true then (s.begun 0, [])
    else (s.begun 0, [escAct b s.inter])
  else (s.begun 0, [escAct b s.inter])
theorem ret0 {P : Program} {fn : Func} {R : Ending → World → Prop} {a : Act} {w : World} (h : fn.results = #[]) (hd : a.defers = []) (hR : R (.returned (.tuple #[])) w) :
    bodyPost P fn R .ret a w := bodyPost_ret (results_none h _ _ _) hd hR
theorem InvT.weakT {G : Nat → Prop} {u : Bool} {T : Nat → Nat} {p o : Nat} {w : World} {s : PSt} {acts : List VAct} (h : InvT G true T p o w s acts) : InvT G u T p o w s acts := by
  cases u
  · exact h.weak
  · exact h
set_option maxRecDepth 100000 in
set_option maxHeartbeats 2000000 in
theorem escaped_inv {G : Nat → Prop} {T : Nat → Nat} {p o : Nat} {w : World} {s : PSt} {acts : List VAct} (b : UInt8) (h : InvT G true T p o w s acts) (hi3 : s.inter.length ≤ 10) (hn : acts.length ≤ 1000000000) :
    Calls Tryd.prog 37 #[.pointer (some ⟨p, 0, none⟩), .int .u8 (b.toNat : Int)] w fun e w' => e = .returned (.tuple #[]) ∧ Within G w w' ∧ InvO G true p o w' (s.esced b).1 (acts ++ (s.esced b).2) := by
  have H := Lib.hid h
  have HE := Lib.hid (show s.esced b = if betweenL (b.toNat : Int) then (if s.inter.length = 2 then (s.passed, []) else ({ s with inter := s.inter ++ [b] }, []))
    else if s.inter.length = 0 then
      if (b.toNat : Int) = 91 then (s.begun 2, [])
      else if (b.toNat : Int) = 93 then (s.begun 4, [])
      else if (b.toNat : Int) = 80 then (s.begun 5, [])
      else if (b.toNat : Int) = 88 ∨ (b.toNat : Int) = 94 ∨ (b.toNat : Int) = 95 then (s.begun 7, [])
      else if (b.toNat : Int) = 92 ∧ s.ended = true then (s.begun 0, [])
      else (s.begun 0, [escAct b s.inter])
    else (s.begun 0, [escAct b s.inter]) from rfl)
  obtain ⟨d, vi, vp, vt, vo, L, hL, hA, hC, hT⟩ := h
  have c2 : w.cell? ⟨p, 2, none⟩ = some (.func (.func 19) #[] #[.pointer (some ⟨o, 0, none⟩)]) := parCell hC 2
  have c3 : w.cell? ⟨p, 3, none⟩ = some vi := parCell hC 3
  have c8 : w.cell? ⟨p, 8, none⟩ = some (.bool s.ended) := parCell hC 8
  have fz := blk_free hC.blk
  have hri := hC.ri
  rw [byteVals] at hri
  have hil : ∀ (ty : TypeId) (wx : World), (Builtin.len_ #[24] ty #[vi]).run Tryd.prog wx = .ok (.int .i64 s.inter.length) wx := ownC_len Tryd.underlying24 hC.ri.own
  have hcti : (convert 24 9 vi).run Tryd.prog w.drew = .ok (.string ⟨s.inter.toArray⟩) w.drew := run_bytes_reads (P := Tryd.prog) (w := w.drew) Tryd.underlying24 Tryd.underlying5 Tryd.underlying9 (ownC_reads hC.ri.own)
  obtain ⟨xi, mi, ci, rfl⟩ := ownC_form hC.ri.own
  have HC := Lib.hid hC
  have HA := Lib.hid hA
  have HT := Lib.hid hT
  have HL := Lib.hid hL
  clear hA hC hT hL hri
  have HB1 := Lib.hid (blk_alloc HC.out.blk (.cells #[.int .u8 (b.toNat : Int)] 5))
  cases hbt : betweenL (b.toNat : Int)
  rotate_left
  · rw [hbt, if_pos rfl] at HE
    by_cases h2 : s.inter.length = 2
    · rw [if_pos h2] at HE
      have h2' : ((s.inter.length : Int) == 2) = true := by simp; omega
      go_enter Tryd.func37, Tryd.ntmps37
      go_wp2_with fail
      refine (between_any (b.toNat : Int) _).mono ?_
      rintro e w2 ⟨rfl, hw⟩
      rw [hw]
      clear hw
      go_wp2_with fail
      refine (pass_inv H.out).mono ?_
      rintro e w2 ⟨rfl, hw2, hi2⟩
      have HW2 := Lib.hid hw2
      have HI2 := Lib.hid hi2
      clear hw2 hi2
      go_wp2_with fail
      refine ret0 rfl rfl ?_
      rw [HE.out, List.append_nil]
      exact ⟨rfl, HW2.out, T, HI2.out⟩
    · rw [if_neg h2] at HE
      have h2' : ((s.inter.length : Int) == 2) = false := by simp; omega
      go_enter Tryd.func37, Tryd.ntmps37
      go_wp2_with fail
      refine (between_any (b.toNat : Int) _).mono ?_
      rintro e w2 ⟨rfl, hw⟩
      rw [hw]
      clear hw
      go_wp2_with (at_builtin; refine held ?_)
      unfold Held
      refine wpList_appD bytes_elem rfl rfl 0 (ownC_alloc HC.out.ri.own _) rfl (reads_one _ _ _) rfl (int_one _ _) (by unfold maxLen; omega) (by omega) (by omega) ?_
      intro v6 w6 o6 g6 n6
      obtain ⟨x6, m6, c6, rfl⟩ := ownC_form o6
      have hb6 := blk_grown HB1.out g6 (fun e => by have h1 := HC.out.ri.tag p e.symm; have h2 := HC.out.tp; omega)
      have cc6 : w6.cell? ⟨p, 3, none⟩ = some (.slice xi mi ci) := blk_cell hb6 3
      have fz6 := blk_free hb6
      have HB6 := Lib.hid hb6
      have ho6 : OwnC w6 0 1 (.slice x6 m6 c6) (s.inter ++ [b]).length (byteVals (s.inter ++ [b])) := by
        rw [List.length_append, byteVals_append]; exact o6
      obtain ⟨T', hw', hr', hrow, hpb, hfin⟩ := grow_inv (t := 4) (.inl rfl) rfl HA.out HC.out HT.out HC.out.ri (World.grownBy_alloc w _ none) g6 ho6 n6
      obtain ⟨hw'', hi''⟩ := hfin (w6.setCell ⟨p, 3, none⟩ (.slice x6 m6 c6)) { s with inter := s.inter ++ [b] } (.slice x6 m6 c6) vp vt (gb_set (gb_refl _ _) _ _) (blk_set HB6.out 3 _) rfl hr' (hrow 5 1 _ _ _ (by decide) (HC.out.rp rfl)) (hrow 6 1 _ _ _ (by decide) HC.out.rt)
      have HW2 := Lib.hid hw''
      have HI2 := Lib.hid hi''
      clear o6 g6 n6 ho6 hw' hr' hrow hpb hfin hw'' hi'' hb6
      go_wp2_with fail
      refine ret0 rfl rfl ?_
      rw [HE.out, ← HL.out, List.append_nil]
      exact ⟨rfl, HW2.out, T', HI2.out⟩
  rw [hbt, if_neg (by decide)] at HE
  by_cases h0 : s.inter.length = 0
  rotate_left
  · rw [if_neg h0] at HE
    have h0' : ((s.inter.length : Int) == 0) = false := by rw [beq_eq_false_iff_ne]; omega
    go_enter Tryd.func37, Tryd.ntmps37
    go_wp2_with fail
    refine (between_any (b.toNat : Int) _).mono ?_
    rintro e w2 ⟨rfl, hw⟩
    rw [hbt, hw]
    clear hw
    go_upto_region 19 with fail
    go_still_tail 11, (by kernel_rfl)
    change wpList _ _ _ _ _ w.drew
    have HTl := Lib.hid (tell_inv (escAct b s.inter) rfl H.out.drew hn)
    generalize hwd : w.drew = wd at *
    go_wp2_with fail
    refine HTl.out.mono ?_
    rintro e w2 ⟨rfl, hw2, m2, T2, ht2, hi2⟩
    have HW2 := Lib.hid ((hwd ▸ Within.drew G w).trans hw2)
    have HI2 := Lib.hid hi2
    clear hw2 m2 ht2 hi2
    go_wp2_with fail
    refine (begin_inv 0 HI2.out).mono ?_
    rintro e w3 ⟨rfl, hw3, hi3⟩
    have HW3 := Lib.hid (HW2.out.trans hw3)
    have HI3 := Lib.hid hi3
    clear hw3 hi3
    go_wp2_with fail
    go_end0
    rw [HE.out]
    exact ⟨rfl, HW3.out, T2, HI3.out⟩
  rw [if_pos h0] at HE
  have h0' : ((s.inter.length : Int) == 0) = true := by rw [beq_iff_eq]; omega
  clear h0
  by_cases hb0 : (b.toNat : Int) = 91
  · rw [if_pos hb0] at HE
    have hb0' : ((b.toNat : Int) == 91) = true := beq_iff_eq.2 hb0
    clear hb0
    go_enter Tryd.func37, Tryd.ntmps37
    go_wp2_with fail
    refine (between_any (b.toNat : Int) _).mono ?_
    rintro e w2 ⟨rfl, hw⟩
    rw [hbt, hw]
    clear hw
    go_wp2_with fail
    refine (begin_inv 2 H.out).mono ?_
    rintro e w2 ⟨rfl, hw2, hi2⟩
    have HW2 := Lib.hid hw2
    have HI2 := Lib.hid hi2
    clear hw2 hi2
    go_wp2_with fail
    refine ret0 rfl rfl ?_
    rw [HE.out, List.append_nil]
    exact ⟨rfl, HW2.out, T, HI2.out⟩
  rw [if_neg hb0] at HE
  have hb0' : ((b.toNat : Int) == 91) = false := beq_eq_false_iff_ne.2 hb0
  by_cases hb1 : (b.toNat : Int) = 93
  · rw [if_pos hb1] at HE
    have hb1' : ((b.toNat : Int) == 93) = true := beq_iff_eq.2 hb1
    clear hb1
    go_enter Tryd.func37, Tryd.ntmps37
    go_wp2_with fail
    refine (between_any (b.toNat : Int) _).mono ?_
    rintro e w2 ⟨rfl, hw⟩
    rw [hbt, hw]
    clear hw
    go_wp2_with fail
    refine (begin_inv 4 H.out).mono ?_
    rintro e w2 ⟨rfl, hw2, hi2⟩
    have HW2 := Lib.hid hw2
    have HI2 := Lib.hid hi2
    clear hw2 hi2
    go_wp2_with fail
    refine ret0 rfl rfl ?_
    rw [HE.out, List.append_nil]
    exact ⟨rfl, HW2.out, T, HI2.out⟩
  rw [if_neg hb1] at HE
  have hb1' : ((b.toNat : Int) == 93) = false := beq_eq_false_iff_ne.2 hb1
  by_cases hb2 : (b.toNat : Int) = 80
  · rw [if_pos hb2] at HE
    have hb2' : ((b.toNat : Int) == 80) = true := beq_iff_eq.2 hb2
    clear hb2
    go_enter Tryd.func37, Tryd.ntmps37
    go_wp2_with fail
    refine (between_any (b.toNat : Int) _).mono ?_
    rintro e w2 ⟨rfl, hw⟩
    rw [hbt, hw]
    clear hw
    go_wp2_with fail
    refine (begin_inv 5 H.out).mono ?_
    rintro e w2 ⟨rfl, hw2, hi2⟩
    have HW2 := Lib.hid hw2
    have HI2 := Lib.hid hi2
    clear hw2 hi2
    go_wp2_with fail
    refine ret0 rfl rfl ?_
    rw [HE.out, List.append_nil]
    exact ⟨rfl, HW2.out, T, HI2.out⟩
  rw [if_neg hb2] at HE
  have hb2' : ((b.toNat : Int) == 80) = false := beq_eq_false_iff_ne.2 hb2
  by_cases hx : (b.toNat : Int) = 88 ∨ (b.toNat : Int) = 94 ∨ (b.toNat : Int) = 95
  · rw [if_pos hx] at HE
    rcases hx with hx | hx | hx
    · have hx' : ((b.toNat : Int) == 88) = true := beq_iff_eq.2 hx
      clear hx
      go_enter Tryd.func37, Tryd.ntmps37
      go_wp2_with fail
      refine (between_any (b.toNat : Int) _).mono ?_
      rintro e w2 ⟨rfl, hw⟩
      rw [hbt, hw]
      clear hw
      go_wp2_with fail
      refine (begin_inv 7 H.out).mono ?_
      rintro e w2 ⟨rfl, hw2, hi2⟩
      have HW2 := Lib.hid hw2
      have HI2 := Lib.hid hi2
      clear hw2 hi2
      go_wp2_with fail
      refine ret0 rfl rfl ?_
      rw [HE.out, List.append_nil]
      exact ⟨rfl, HW2.out, T, HI2.out⟩
    · have hx0 : ((b.toNat : Int) == 88) = false := by rw [beq_eq_false_iff_ne]; omega
      have hx' : ((b.toNat : Int) == 94) = true := beq_iff_eq.2 hx
      clear hx
      go_enter Tryd.func37, Tryd.ntmps37
      go_wp2_with fail
      refine (between_any (b.toNat : Int) _).mono ?_
      rintro e w2 ⟨rfl, hw⟩
      rw [hbt, hw]
      clear hw
      go_wp2_with fail
      refine (begin_inv 7 H.out).mono ?_
      rintro e w2 ⟨rfl, hw2, hi2⟩
      have HW2 := Lib.hid hw2
      have HI2 := Lib.hid hi2
      clear hw2 hi2
      go_wp2_with fail
      refine ret0 rfl rfl ?_
      rw [HE.out, List.append_nil]
      exact ⟨rfl, HW2.out, T, HI2.out⟩
    · have hx0 : ((b.toNat : Int) == 88) = false := by rw [beq_eq_false_iff_ne]; omega
      have hx1 : ((b.toNat : Int) == 94) = false := by rw [beq_eq_false_iff_ne]; omega
      have hx' : ((b.toNat : Int) == 95) = true := beq_iff_eq.2 hx
      clear hx
      go_enter Tryd.func37, Tryd.ntmps37
      go_wp2_with fail
      refine (between_any (b.toNat : Int) _).mono ?_
      rintro e w2 ⟨rfl, hw⟩
      rw [hbt, hw]
      clear hw
      go_wp2_with fail
      refine (begin_inv 7 H.out).mono ?_
      rintro e w2 ⟨rfl, hw2, hi2⟩
      have HW2 := Lib.hid hw2
      have HI2 := Lib.hid hi2
      clear hw2 hi2
      go_wp2_with fail
      refine ret0 rfl rfl ?_
      rw [HE.out, List.append_nil]
      exact ⟨rfl, HW2.out, T, HI2.out⟩
  rw [if_neg hx] at HE
  have hx0 : ((b.toNat : Int) == 88) = false := by rw [beq_eq_false_iff_ne]; omega
  have hx1 : ((b.toNat : Int) == 94) = false := by rw [beq_eq_false_iff_ne]; omega
  have hx2 : ((b.toNat : Int) == 95) = false := by rw [beq_eq_false_iff_ne]; omega
  clear hx hb0 hb1 hb2
  by_cases h92 : (b.toNat : Int) = 92
  · have h92' : ((b.toNat : Int) == 92) = true := beq_iff_eq.2 h92
    cases hen : s.ended
    · rw [hen, if_neg (by simp)] at HE
      rw [hen] at c8
      clear h92
      go_enter Tryd.func37, Tryd.ntmps37
      go_wp2_with fail
      refine (between_any (b.toNat : Int) _).mono ?_
      rintro e w2 ⟨rfl, hw⟩
      rw [hbt, hw]
      clear hw
      go_upto_region 19 with fail
      go_still_tail 11, (by kernel_rfl)
      change wpList _ _ _ _ _ w.drew
      have HTl := Lib.hid (tell_inv (escAct b s.inter) rfl H.out.drew hn)
      generalize hwd : w.drew = wd at *
      go_wp2_with fail
      refine HTl.out.mono ?_
      rintro e w2 ⟨rfl, hw2, m2, T2, ht2, hi2⟩
      have HW2 := Lib.hid ((hwd ▸ Within.drew G w).trans hw2)
      have HI2 := Lib.hid hi2
      clear hw2 m2 ht2 hi2
      go_wp2_with fail
      refine (begin_inv 0 HI2.out).mono ?_
      rintro e w3 ⟨rfl, hw3, hi3⟩
      have HW3 := Lib.hid (HW2.out.trans hw3)
      have HI3 := Lib.hid hi3
      clear hw3 hi3
      go_wp2_with fail
      go_end0
      rw [HE.out]
      exact ⟨rfl, HW3.out, T2, HI3.out⟩
    · rw [if_pos ⟨h92, hen⟩] at HE
      rw [hen] at c8
      clear h92
      go_enter Tryd.func37, Tryd.ntmps37
      go_wp2_with fail
      refine (between_any (b.toNat : Int) _).mono ?_
      rintro e w2 ⟨rfl, hw⟩
      rw [hbt, hw]
      clear hw
      go_wp2_with fail
      refine (begin_inv 0 H.out).mono ?_
      rintro e w2 ⟨rfl, hw2, hi2⟩
      have HW2 := Lib.hid hw2
      have HI2 := Lib.hid hi2
      clear hw2 hi2
      go_wp2_with fail
      refine ret0 rfl rfl ?_
      rw [HE.out, List.append_nil]
      exact ⟨rfl, HW2.out, T, HI2.out⟩
  · rw [if_neg (fun h => h92 h.1)] at HE
    have h92' : ((b.toNat : Int) == 92) = false := beq_eq_false_iff_ne.2 h92
    clear h92
    go_enter Tryd.func37, Tryd.ntmps37
    go_wp2_with fail
    refine (between_any (b.toNat : Int) _).mono ?_
    rintro e w2 ⟨rfl, hw⟩
    rw [hbt, hw]
    clear hw
    go_upto_region 19 with fail
    go_still_tail 11, (by kernel_rfl)
    change wpList _ _ _ _ _ w.drew
    have HTl := Lib.hid (tell_inv (escAct b s.inter) rfl H.out.drew hn)
    generalize hwd : w.drew = wd at *
    go_wp2_with fail
    refine HTl.out.mono ?_
    rintro e w2 ⟨rfl, hw2, m2, T2, ht2, hi2⟩
    have HW2 := Lib.hid ((hwd ▸ Within.drew G w).trans hw2)
    have HI2 := Lib.hid hi2
    clear hw2 m2 ht2 hi2
    go_wp2_with fail
    refine (begin_inv 0 HI2.out).mono ?_
    rintro e w3 ⟨rfl, hw3, hi3⟩
    have HW3 := Lib.hid (HW2.out.trans hw3)
    have HI3 := Lib.hid hi3
    clear hw3 hi3
    go_wp2_with fail
    go_end0
    rw [HE.out]
    exact ⟨rfl, HW3.out, T2, HI3.out⟩
end Go.Proofs.YtkdicejlfagaeaaDoor
