/- Package grid, texts laid together: W7 W8 W9. -/
import Derived.Test.YtlfdgkiliegaiaaGreatDoorY8
import Derived.Test.YtlfdgkiliegaiaaGreatDoorY7
import Derived.WalkMore
import Derived.ScopeJumps
/- Package vtparse: sequence. -/
namespace Go.Proofs.YtlfdgkiliegaiaaGreatDoor
open Go.RowKit
set_option maxRecDepth 100000

def PSt.marked (s : PSt) : Bool := match s.inter with | [] => false | c :: _ => decide (60 ≤ (c.toNat : Int))
def PSt.btw (s : PSt) : Nat := if s.marked then s.inter.length - 1 else s.inter.length
def PSt.cut (s : PSt) : PSt := { s with params := s.params.take 32 }
def PSt.seqd (s : PSt) (b : UInt8) : PSt × List VAct :=
  if 64 ≤ (b.toNat : Int) then (if s.state = 2 then (s.cut.begun 0, [csiAct b (s.params.take 32) s.inter]) else ({ s.cut with state := 6, final := b }, []))
  else if betweenL (b.toNat : Int) = true ∧ s.btw < 2 then ({ s with inter := s.inter ++ [b] }, [])
  else if (b.toNat : Int) < 58 ∧ betweenL (b.toNat : Int) = false ∧ s.btw = 0 then (s.digit ((b.toNat : Int) - 48), [])
  else if (b.toNat : Int) = 59 ∧ s.btw = 0 then (s.digit (-1), [])
  else if 60 ≤ (b.toNat : Int) ∧ s.inter.length = 0 ∧ s.any = false then ({ s with inter := s.inter ++ [b] }, [])
  else (s.passed, [])
theorem ownC_take {P : Program} {t e : TypeId} {w : World} {v : Value} {n : Nat} {xs : List Value} (ht : P.underlying t = some (.slice e)) (hs : (P.info? e).map (·.size) = some 1) (h : OwnC w 0 1 v n xs) (m : Nat) (hm : m ≤ n) :
    ∃ v', (∀ wx, (Instr.slice t v none (some (.int .i64 m)) none).run P wx = .ok v' wx) ∧ OwnC w 0 1 v' m (xs.take m) ∧ v'.ownBlock = v.ownBlock := by
  have hel : P.elem t = e := by simp [Program.elem, ht]
  obtain ⟨h1, h2⟩ := id h
  rcases h2 with ⟨rfl, h0⟩ | ⟨b, off, c, rfl, hb, hbs, hnc, hcm, hcells, hxs⟩
  · have : m = 0 := by omega
    subst this
    refine ⟨.slice none 0 0, fun wx => ?_, ownC_nil _ _ _, rfl⟩
    rw [run_slice_h wx t none 0 0 (elem_of ht) .i64 _ (by omega) (by simp), hel, run_size hs]
    simp [Result.andThen, sliced]
  · refine ⟨.slice (some ⟨b, off, none⟩) m c, fun wx => ?_, ⟨by rw [List.length_take]; omega, .inr ⟨b, off, c, rfl, hb, hbs, by omega, hcm, hcells, fun j u hu => ?_⟩⟩, rfl⟩
    · rw [run_slice_h wx t _ _ c (elem_of ht) .i64 _ (by omega) (by omega), hel, run_size hs]
      simp [Result.andThen, sliced]
      intro _; rfl
    · rw [List.getElem?_take] at hu
      split at hu
      · exact hxs j u hu
      · simp at hu
set_option maxRecDepth 100000 in
set_option maxHeartbeats 4000000 in
theorem sequence_inv {G : Nat → Prop} {T : Nat → Nat} {p o : Nat} {w : World} {s : PSt} {acts : List VAct} (b : UInt8) (h : InvT G true T p o w s acts) (hi3 : s.inter.length ≤ 10) (hn : acts.length ≤ 1000000000) (hb32 : 32 ≤ (b.toNat : Int))
    (hp : s.any = true → s.params ≠ []) (hl : s.params.length ≤ 40) (hr : ∀ x ∈ s.params, -1 ≤ x ∧ x ≤ 9999) :
    Calls Tryz.prog 151 #[.pointer (some ⟨p, 0, none⟩), .int .u8 (b.toNat : Int)] w fun e w' => e = .returned (.tuple #[]) ∧ Within G w w' ∧ InvO G true p o w' (s.seqd b).1 (acts ++ (s.seqd b).2) := by
  have H := Lib.hid h
  have HP := Lib.hid (And.intro hp (And.intro hl hr))
  have HE := Lib.hid (show s.seqd b = if 64 ≤ (b.toNat : Int) then (if s.state = 2 then (s.cut.begun 0, [csiAct b (s.params.take 32) s.inter]) else ({ s.cut with state := 6, final := b }, []))
    else if betweenL (b.toNat : Int) = true ∧ s.btw < 2 then ({ s with inter := s.inter ++ [b] }, [])
    else if (b.toNat : Int) < 58 ∧ betweenL (b.toNat : Int) = false ∧ s.btw = 0 then (s.digit ((b.toNat : Int) - 48), [])
    else if (b.toNat : Int) = 59 ∧ s.btw = 0 then (s.digit (-1), [])
    else if 60 ≤ (b.toNat : Int) ∧ s.inter.length = 0 ∧ s.any = false then ({ s with inter := s.inter ++ [b] }, [])
    else (s.passed, []) from rfl)
  obtain ⟨d, vi, vp, vt, vo, L, hL, hA, hC, hT⟩ := h
  clear hp hl hr
  have c0 : w.cell? ⟨p, 0, none⟩ = some (.int .i64 s.state) := parCell hC 0
  have c2 : w.cell? ⟨p, 2, none⟩ = some (.func (.func 105) #[] #[.pointer (some ⟨o, 0, none⟩)]) := parCell hC 2
  have c3 : w.cell? ⟨p, 3, none⟩ = some vi := parCell hC 3
  have c4 : w.cell? ⟨p, 4, none⟩ = some vp := parCell hC 4
  have c5 : w.cell? ⟨p, 5, none⟩ = some (.bool s.any) := parCell hC 5
  have fz := blk_free hC.blk
  have hil : ∀ (ty : TypeId) (wx : World), (Builtin.len_ #[38] ty #[vi]).run Tryz.prog wx = .ok (.int .i64 s.inter.length) wx := ownC_len Tryz.underlying38 hC.ri.own
  have hpl : ∀ (ty : TypeId) (wx : World), (Builtin.len_ #[63] ty #[vp]).run Tryz.prog wx = .ok (.int .i64 s.params.length) wx := ownC_len Tryz.underlying63 (hC.rp rfl).own
  have HM0 := Lib.hid (fun (h0 : 0 < s.inter.length) => ownC_at Tryz.underlying38 (by kernel_rfl) hC.ri.own 0 h0)
  obtain ⟨vc, hsl, hoc, hbc⟩ := ownC_take Tryz.underlying63 (by kernel_rfl) (hC.rp rfl).own (min s.params.length 32) (Nat.min_le_left _ _)
  replace hsl : ∀ wx, (Instr.slice 63 vp none (some (.int .i64 (min (s.params.length : Int) 32))) none).run Tryz.prog wx = .ok vc wx := by
    intro wx
    rw [← hsl wx]
    congr 4
    omega
  have HOC := Lib.hid hoc
  have HBC := Lib.hid hbc
  clear hoc hbc
  obtain ⟨xi, mi, ci, rfl⟩ := ownC_form hC.ri.own
  obtain ⟨xp, mp, cp', rfl⟩ := ownC_form (hC.rp rfl).own
  obtain ⟨xc, mc, cc', rfl⟩ := ownC_form HOC.out
  have HC := Lib.hid hC
  have HA := Lib.hid hA
  have HT := Lib.hid hT
  have HL := Lib.hid hL
  clear hA hC hT hL
  have HB1 := Lib.hid (blk_alloc HC.out.blk (.cells #[.int .u8 (b.toNat : Int)] 5))
  have HBT := Lib.hid (show s.btw = if s.marked then s.inter.length - 1 else s.inter.length from rfl)
  have HMK := Lib.hid (show s.marked = match s.inter with | [] => false | c :: _ => decide (60 ≤ (c.toNat : Int)) from rfl)
  go_enter Tryz.func151, Tryz.ntmps151
  go_upto_region 1 with fail
  go_cut [20] (fun v wx => v = .bool s.marked ∧ wx = w)
  case first =>
    by_cases h0 : 0 < s.inter.length
    · obtain ⟨b0, off0, c0', hv0, had, ⟨x0, hx0, hx0c⟩, _, _⟩ := HM0.out h0
      have h0' : decide (0 < (s.inter.length : Int)) = true := decide_eq_true (by omega)
      have h0'' : decide (0 < s.inter.length) = true := decide_eq_true h0
      have hin : ∃ c r, s.inter = c :: r := by
        cases hs : s.inter with
        | nil => rw [hs] at h0; simp at h0
        | cons c r => exact ⟨c, r, rfl⟩
      obtain ⟨cc, rr, hin⟩ := hin
      rw [hin] at hx0 HMK
      have hxe : x0 = .int .u8 (cc.toNat : Int) := by simp [byteVals] at hx0; exact hx0.symm
      subst hxe
      replace had : ∀ wx, (Instr.indexAt 38 (.slice xi mi ci) (.int .i64 0)).run Tryz.prog wx = .ok (.pointer (some ⟨b0, off0 + 0, none⟩)) wx := had
      rw [Nat.add_zero] at had hx0c
      clear hin hx0 h0 hv0
      go_wp2_with fail
      go_meet
      rw [HMK.out]
      exact ⟨rfl, rfl⟩
    · have h0' : decide (0 < (s.inter.length : Int)) = false := decide_eq_false (by omega)
      have h0'' : decide (0 < s.inter.length) = false := decide_eq_false h0
      have hin : s.inter = [] := List.eq_nil_of_length_eq_zero (by omega)
      rw [hin] at HMK
      clear hin h0
      go_wp2_with fail
      go_meet
      rw [HMK.out]
      exact ⟨rfl, rfl⟩
  case rest =>
    obtain ⟨rfl, hw⟩ := hcut
    rw [hw]
    clear hw
    clear HMK HM0
    go_upto_if 20 with fail
    go_cut [4] (fun v wx => v = .int .i64 s.btw ∧ wx = w)
    case first =>
      cases hmk : s.marked
      · rw [hmk] at HBT
        go_wp2_with fail
        go_meet
        rw [HBT.out, if_neg (by decide)]
        exact ⟨rfl, rfl⟩
      · have hpos : 1 ≤ s.inter.length := by
          unfold PSt.marked at hmk
          cases hs : s.inter with
          | nil => rw [hs] at hmk; simp at hmk
          | cons c r => simp
        have hsub : ((s.inter.length - 1 : Nat) : Int) = (s.inter.length : Int) - 1 := by omega
        have HSB := Lib.hid hsub
        clear hsub
        rw [hmk] at HBT
        go_wp2_with fail
        go_meet
        refine ⟨?_, rfl⟩
        rw [HBT.out]
        simp only [if_true, HSB.out]
    case rest =>
      obtain ⟨rfl, hw⟩ := hcut
      rw [hw]
      clear hw HBT
      generalize s.btw = bt at *
      by_cases h64 : 64 ≤ (b.toNat : Int)
      · rw [if_pos h64] at HE
        have h64' : decide (64 ≤ (b.toNat : Int)) = true := decide_eq_true h64
        go_upto_region 5 with fail
        go_still_tail 14, (by kernel_rfl)
        change wpList _ _ _ _ _ w.drew
        have hCd : Core true T p d (tellV o) (.slice xi mi ci) (.slice xp mp cp') vt w.drew s := HC.out.mod (mod_drew T w) id id id id id
        have hTd : Told G T o vo w.drew L := HT.out.mod (mod_drew T w) id id id
        have hAd : Arena G T w.drew := HA.out.mono (Nat.le_refl _)
        have fzd := blk_free hCd.blk
        have d4 : w.drew.cell? ⟨p, 4, none⟩ = some (.slice xp mp cp') := parCell hCd 4
        have hRc : Row T 5 1 (.slice xc mc cc') (s.params.take 32).length ((s.params.take 32).map (Value.int .i64)) w.drew := by
          have e1 : (s.params.take 32).length = min s.params.length 32 := by rw [List.length_take, Nat.min_comm]
          have e2 : (s.params.take 32).map (Value.int .i64) = (s.params.map (Value.int .i64)).take (min s.params.length 32) := by
            rw [List.map_take]
            by_cases hle : s.params.length ≤ 32
            · rw [Nat.min_eq_left hle, List.take_of_length_le (by rw [List.length_map]; exact hle), List.take_of_length_le (by rw [List.length_map]; exact Nat.le_refl _)]
            · rw [Nat.min_eq_right (by omega)]
          rw [e1, e2]
          have hr : Row T 5 1 (.slice xc mc cc') (min s.params.length 32) ((s.params.map (Value.int .i64)).take (min s.params.length 32)) w := ⟨HOC.out, fun k hk => (HC.out.rp rfl).tag k (by rw [← HBC.out]; exact hk)⟩
          exact hr.mod (mod_drew T w) id
        have hC5 : Core true T p d (tellV o) (.slice xi mi ci) (.slice xc mc cc') vt (w.drew.setCell ⟨p, 4, none⟩ (.slice xc mc cc')) s.cut := hCd.put (gb_set (gb_refl _ _) _ _) (blk_set hCd.blk 4 _) rfl hCd.ri (fun _ => hRc) hCd.rt
        have m5 : Mod T (fun x => x = 1) w.drew (w.drew.setCell ⟨p, 4, none⟩ (.slice xc mc cc')) := Mod.of_gb (gb_set (gb_refl _ (some p)) _ _) (fun k hk => by injection hk with hk; subst hk; exact hCd.tp)
        have hT5 := hTd.mod m5 (by decide) (by decide) (by decide)
        have hA5 := hAd.mono (w' := w.drew.setCell ⟨p, 4, none⟩ (.slice xc mc cc')) (by simp)
        have hW5 : Within G w (w.drew.setCell ⟨p, 4, none⟩ (.slice xc mc cc')) := (Within.drew G w).trans (m5.within hAd (by decide))
        have HI5 := Lib.hid (show InvT G true T p o (w.drew.setCell ⟨p, 4, none⟩ (.slice xc mc cc')) s.cut acts from ⟨d, .slice xi mi ci, .slice xc mc cc', vt, vo, L, HL.out, hA5, hC5, hT5⟩)
        have HC5 := Lib.hid hC5
        have HT5 := Lib.hid hT5
        have HA5 := Lib.hid hA5
        have HW5 := Lib.hid hW5
        clear hCd hTd hAd hRc hC5 m5 hT5 hA5 hW5
        clear c0 c3 c4 c5 c2 fz
        generalize hwd : w.drew = wd at *
        generalize hw5 : wd.setCell ⟨p, 4, none⟩ (.slice xc mc cc') = w5 at *
        have k0 : w5.cell? ⟨p, 0, none⟩ = some (.int .i64 s.state) := parCell HC5.out 0
        have k2 : w5.cell? ⟨p, 2, none⟩ = some (.func (.func 105) #[] #[.pointer (some ⟨o, 0, none⟩)]) := parCell HC5.out 2
        have k3 : w5.cell? ⟨p, 3, none⟩ = some (.slice xi mi ci) := parCell HC5.out 3
        have k4 : w5.cell? ⟨p, 4, none⟩ = some (.slice xc mc cc') := parCell HC5.out 4
        have k7 : w5.cell? ⟨p, 7, none⟩ = some (.int .u8 (s.final.toNat : Int)) := parCell HC5.out 7
        have kfz := blk_free HC5.out.blk
        by_cases hst : s.state = 2
        · rw [if_pos hst] at HE
          have hst' : (s.state == 2) = true := beq_iff_eq.2 hst
          have hcti : (convert 38 9 (.slice xi mi ci)).run Tryz.prog w5.drew = .ok (.string ⟨s.inter.toArray⟩) w5.drew := run_bytes_reads (P := Tryz.prog) (w := w5.drew) Tryz.underlying38 Tryz.underlying5 Tryz.underlying9 (ownC_reads HC5.out.ri.own)
          have HTl := Lib.hid (tellPar_inv (csiAct b (s.params.take 32) s.inter) rfl (HA5.out.mono (w' := w5.drew) (Nat.le_refl _)) (HC5.out.mod (mod_drew T w5) id id id id id) (HT5.out.mod (mod_drew T w5) id id id) (by rw [← HL.out, List.length_map] at hn; exact hn))
          clear hst
          go_wp2_with fail
          try simp only [hw5]
          go_upto_region 7 with fail
          go_still_tail 15, (by kernel_rfl)
          change wpList _ _ _ _ _ w5.drew
          generalize hw5d : w5.drew = w5d at *
          go_wp2_with fail
          refine HTl.out.mono ?_
          rintro e w6 ⟨rfl, hw6, T6, hi6⟩
          have HW6 := Lib.hid ((HW5.out.trans (hw5d ▸ Within.drew G w5)).trans hw6)
          have HI6 := Lib.hid hi6
          clear hw6 hi6
          go_wp2_with fail
          refine (begin_inv 0 HI6.out).mono ?_
          rintro e w7 ⟨rfl, hw7, hi7⟩
          have HW7 := Lib.hid (HW6.out.trans hw7)
          have HI7 := Lib.hid hi7
          clear hw7 hi7
          go_wp2_with fail
          refine ret0 rfl rfl ?_
          rw [HE.out, ← HL.out]
          exact ⟨rfl, HW7.out, T6, HI7.out⟩
        · rw [if_neg hst] at HE
          have hst' : (s.state == 2) = false := beq_eq_false_iff_ne.2 hst
          have hi6 := HI5.out.set 0 (.int .i64 6) { s.cut with state := 6 } (fun _ _ _ _ _ => rfl) rfl rfl rfl rfl
          have hi7 := hi6.set 7 (.int .u8 (b.toNat : Int)) { s.cut with state := 6, final := b } (fun _ _ _ _ _ => rfl) rfl rfl rfl rfl
          have HW7 := Lib.hid ((HW5.out.trans (within_set HI5.out.inG w5 0 (.int .i64 6))).trans (within_set HI5.out.inG _ 7 (.int .u8 (b.toNat : Int))))
          have HI7 := Lib.hid hi7
          clear hst hi6 hi7
          go_wp2_with fail
          try simp only [hw5]
          go_wp2_with fail
          go_end0
          rw [HE.out, List.append_nil]
          exact ⟨rfl, HW7.out, T, HI7.out⟩
      rw [if_neg h64] at HE
      have h64' : decide (64 ≤ (b.toNat : Int)) = false := decide_eq_false h64
      cases hbt : betweenL (b.toNat : Int)
      · rw [hbt, if_neg (by simp)] at HE
        by_cases h58 : (b.toNat : Int) < 58
        · have h58' : decide ((b.toNat : Int) < 58) = true := decide_eq_true h58
          by_cases hb0 : bt = 0
          · rw [if_pos ⟨h58, rfl, hb0⟩] at HE
            have hb0' : ((bt : Int) == 0) = true := by rw [beq_iff_eq]; omega
            have h48 : 48 ≤ (b.toNat : Int) := by
              unfold betweenL at hbt
              rw [Bool.and_eq_false_iff, decide_eq_false_iff_not, decide_eq_false_iff_not] at hbt
              omega
            clear hb0
            go_wp2_with fail
            refine (between_any (b.toNat : Int) _).mono ?_
            rintro e w2 ⟨rfl, hw⟩
            rw [hw, hbt]
            clear hw
            go_wp2_with fail
            refine (between_any (b.toNat : Int) _).mono ?_
            rintro e w2 ⟨rfl, hw⟩
            rw [hw, hbt]
            clear hw
            go_wp2_with fail
            refine (digit_inv ((b.toNat : Int) - 48) H.out (by omega) (by omega) HP.out.1 HP.out.2.1 HP.out.2.2).mono ?_
            rintro e w2 ⟨rfl, hw2, hi2⟩
            have HW2 := Lib.hid hw2
            have HI2 := Lib.hid hi2
            clear hw2 hi2
            go_wp2_with fail
            go_end0
            rw [HE.out, List.append_nil]
            exact ⟨rfl, HW2.out, HI2.out⟩
          · rw [if_neg (fun h => hb0 h.2.2), if_neg (fun h => hb0 h.2), if_neg (fun h => by omega)] at HE
            have hb0' : ((bt : Int) == 0) = false := by rw [beq_eq_false_iff_ne]; omega
            have h59' : ((b.toNat : Int) == 59) = false := by rw [beq_eq_false_iff_ne]; omega
            have h60' : decide (60 ≤ (b.toNat : Int)) = false := decide_eq_false (by omega)
            clear hb0
            go_wp2_with fail
            refine (between_any (b.toNat : Int) _).mono ?_
            rintro e w2 ⟨rfl, hw⟩
            rw [hw, hbt]
            clear hw
            go_wp2_with fail
            refine (between_any (b.toNat : Int) _).mono ?_
            rintro e w2 ⟨rfl, hw⟩
            rw [hw, hbt]
            clear hw
            go_wp2_with fail
            refine (pass_inv H.out).mono ?_
            rintro e w2 ⟨rfl, hw2, hi2⟩
            have HW2 := Lib.hid hw2
            have HI2 := Lib.hid hi2
            clear hw2 hi2
            go_wp2_with fail
            go_end0
            rw [HE.out, List.append_nil]
            exact ⟨rfl, HW2.out, T, HI2.out⟩
        rw [if_neg (fun h => h58 h.1)] at HE
        have h58' : decide ((b.toNat : Int) < 58) = false := decide_eq_false h58
        by_cases h59 : (b.toNat : Int) = 59
        · have h59' : ((b.toNat : Int) == 59) = true := beq_iff_eq.2 h59
          by_cases hb0 : bt = 0
          · rw [if_pos ⟨h59, hb0⟩] at HE
            have hb0' : ((bt : Int) == 0) = true := by rw [beq_iff_eq]; omega
            clear hb0 h59
            go_wp2_with fail
            refine (between_any (b.toNat : Int) _).mono ?_
            rintro e w2 ⟨rfl, hw⟩
            rw [hw, hbt]
            clear hw
            go_wp2_with fail
            refine (digit_inv (-1) H.out (by omega) (by omega) HP.out.1 HP.out.2.1 HP.out.2.2).mono ?_
            rintro e w2 ⟨rfl, hw2, hi2⟩
            have HW2 := Lib.hid hw2
            have HI2 := Lib.hid hi2
            clear hw2 hi2
            go_wp2_with fail
            go_end0
            rw [HE.out, List.append_nil]
            exact ⟨rfl, HW2.out, HI2.out⟩
          · rw [if_neg (fun h => hb0 h.2), if_neg (fun h => by omega)] at HE
            have hb0' : ((bt : Int) == 0) = false := by rw [beq_eq_false_iff_ne]; omega
            have h60' : decide (60 ≤ (b.toNat : Int)) = false := decide_eq_false (by omega)
            clear hb0 h59
            go_wp2_with fail
            refine (between_any (b.toNat : Int) _).mono ?_
            rintro e w2 ⟨rfl, hw⟩
            rw [hw, hbt]
            clear hw
            go_wp2_with fail
            refine (pass_inv H.out).mono ?_
            rintro e w2 ⟨rfl, hw2, hi2⟩
            have HW2 := Lib.hid hw2
            have HI2 := Lib.hid hi2
            clear hw2 hi2
            go_wp2_with fail
            go_end0
            rw [HE.out, List.append_nil]
            exact ⟨rfl, HW2.out, T, HI2.out⟩
        rw [if_neg (fun h => h59 h.1)] at HE
        have h59' : ((b.toNat : Int) == 59) = false := beq_eq_false_iff_ne.2 h59
        by_cases h60 : 60 ≤ (b.toNat : Int)
        rotate_left
        · rw [if_neg (fun h => h60 h.1)] at HE
          have h60' : decide (60 ≤ (b.toNat : Int)) = false := decide_eq_false h60
          clear h59
          go_wp2_with fail
          refine (between_any (b.toNat : Int) _).mono ?_
          rintro e w2 ⟨rfl, hw⟩
          rw [hw, hbt]
          clear hw
          go_wp2_with fail
          refine (pass_inv H.out).mono ?_
          rintro e w2 ⟨rfl, hw2, hi2⟩
          have HW2 := Lib.hid hw2
          have HI2 := Lib.hid hi2
          clear hw2 hi2
          go_wp2_with fail
          go_end0
          rw [HE.out, List.append_nil]
          exact ⟨rfl, HW2.out, T, HI2.out⟩
        have h60' : decide (60 ≤ (b.toNat : Int)) = true := decide_eq_true h60
        by_cases hi0 : s.inter.length = 0
        rotate_left
        · rw [if_neg (fun h => hi0 h.2.1)] at HE
          have hi0' : ((s.inter.length : Int) == 0) = false := by rw [beq_eq_false_iff_ne]; omega
          clear h59 hi0
          go_wp2_with fail
          refine (between_any (b.toNat : Int) _).mono ?_
          rintro e w2 ⟨rfl, hw⟩
          rw [hw, hbt]
          clear hw
          go_wp2_with fail
          refine (pass_inv H.out).mono ?_
          rintro e w2 ⟨rfl, hw2, hi2⟩
          have HW2 := Lib.hid hw2
          have HI2 := Lib.hid hi2
          clear hw2 hi2
          go_wp2_with fail
          go_end0
          rw [HE.out, List.append_nil]
          exact ⟨rfl, HW2.out, T, HI2.out⟩
        have hi0' : ((s.inter.length : Int) == 0) = true := by rw [beq_iff_eq]; omega
        cases hany : s.any
        rotate_left
        · rw [hany, if_neg (fun h => by simp at h)] at HE
          rw [hany] at c5
          clear h59 hi0
          go_wp2_with fail
          refine (between_any (b.toNat : Int) _).mono ?_
          rintro e w2 ⟨rfl, hw⟩
          rw [hw, hbt]
          clear hw
          go_wp2_with fail
          refine (pass_inv H.out).mono ?_
          rintro e w2 ⟨rfl, hw2, hi2⟩
          have HW2 := Lib.hid hw2
          have HI2 := Lib.hid hi2
          clear hw2 hi2
          go_wp2_with fail
          go_end0
          rw [HE.out, List.append_nil]
          exact ⟨rfl, HW2.out, T, HI2.out⟩
        rw [if_pos ⟨h60, hi0, hany⟩] at HE
        rw [hany] at c5
        clear h59 hi0
        go_wp2_with fail
        refine (between_any (b.toNat : Int) _).mono ?_
        rintro e w2 ⟨rfl, hw⟩
        rw [hw, hbt]
        clear hw
        go_wp2_with (at_builtin; refine held ?_)
        unfold Held
        refine wpList_appD bytes_elem rfl rfl 0 (ownC_alloc HC.out.ri.own _) rfl (reads_one _ _ _) rfl (int_one _ _) (by unfold maxLen; omega) (by omega) (by omega) ?_
        intro v6 w6 o6 g6 n6
        obtain ⟨x6, m6, c6, rfl⟩ := ownC_form o6
        have hb6 := blk_grown HB1.out g6 (fun e => by have h1 := HC.out.ri.tag p e.symm; have h2 := HC.out.tp; omega)
        have cc6 : w6.cell? ⟨p, 3, none⟩ = some (.slice xi mi ci) := blk_cell hb6 3
        have fz6 := blk_free hb6
        have HB6 := Lib.hid hb6
        have ho6 : OwnC w6 0 1 (.slice x6 m6 c6) (s.inter ++ [b]).length (byteVals (s.inter ++ [b])) := by
          rw [List.length_append, byteVals_append]; exact o6
        obtain ⟨T', hw', hr', hrow, hpb, hfin⟩ := grow_inv (t := 4) (.inl rfl) rfl HA.out HC.out HT.out HC.out.ri (World.grownBy_alloc w _ none) g6 ho6 n6
        obtain ⟨hw'', hi''⟩ := hfin (w6.setCell ⟨p, 3, none⟩ (.slice x6 m6 c6)) { s with inter := s.inter ++ [b] } (.slice x6 m6 c6) (.slice xp mp cp') vt (gb_set (gb_refl _ _) _ _) (blk_set HB6.out 3 _) rfl hr' (hrow 5 1 _ _ _ (by decide) (HC.out.rp rfl)) (hrow 6 1 _ _ _ (by decide) HC.out.rt)
        have HW2 := Lib.hid hw''
        have HI2 := Lib.hid hi''
        clear o6 g6 n6 ho6 hw' hr' hrow hpb hfin hw'' hi'' hb6
        go_wp2_with fail
        go_end0
        rw [HE.out, ← HL.out, List.append_nil]
        exact ⟨rfl, HW2.out, T', HI2.out⟩
      · rw [hbt] at HE
        have hlt : (b.toNat : Int) < 48 := by
          unfold betweenL at hbt
          rw [Bool.and_eq_true, decide_eq_true_eq, decide_eq_true_eq] at hbt
          omega
        have h58' : decide ((b.toNat : Int) < 58) = true := decide_eq_true (by omega)
        have h59' : ((b.toNat : Int) == 59) = false := by rw [beq_eq_false_iff_ne]; omega
        have h60' : decide (60 ≤ (b.toNat : Int)) = false := decide_eq_false (by omega)
        by_cases hb2 : bt < 2
        · rw [if_pos ⟨rfl, hb2⟩] at HE
          have hb2' : decide ((bt : Int) < 2) = true := decide_eq_true (by omega)
          have hb2'' : decide (bt < 2) = true := decide_eq_true (by omega)
          clear hb2
          go_wp2_with fail
          refine (between_any (b.toNat : Int) _).mono ?_
          rintro e w2 ⟨rfl, hw⟩
          rw [hw, hbt]
          clear hw
          go_wp2_with (at_builtin; refine held ?_)
          unfold Held
          refine wpList_appD bytes_elem rfl rfl 0 (ownC_alloc HC.out.ri.own _) rfl (reads_one _ _ _) rfl (int_one _ _) (by unfold maxLen; omega) (by omega) (by omega) ?_
          intro v6 w6 o6 g6 n6
          obtain ⟨x6, m6, c6, rfl⟩ := ownC_form o6
          have hb6 := blk_grown HB1.out g6 (fun e => by have h1 := HC.out.ri.tag p e.symm; have h2 := HC.out.tp; omega)
          have cc6 : w6.cell? ⟨p, 3, none⟩ = some (.slice xi mi ci) := blk_cell hb6 3
          have fz6 := blk_free hb6
          have HB6 := Lib.hid hb6
          have ho6 : OwnC w6 0 1 (.slice x6 m6 c6) (s.inter ++ [b]).length (byteVals (s.inter ++ [b])) := by
            rw [List.length_append, byteVals_append]; exact o6
          obtain ⟨T', hw', hr', hrow, hpb, hfin⟩ := grow_inv (t := 4) (.inl rfl) rfl HA.out HC.out HT.out HC.out.ri (World.grownBy_alloc w _ none) g6 ho6 n6
          obtain ⟨hw'', hi''⟩ := hfin (w6.setCell ⟨p, 3, none⟩ (.slice x6 m6 c6)) { s with inter := s.inter ++ [b] } (.slice x6 m6 c6) (.slice xp mp cp') vt (gb_set (gb_refl _ _) _ _) (blk_set HB6.out 3 _) rfl hr' (hrow 5 1 _ _ _ (by decide) (HC.out.rp rfl)) (hrow 6 1 _ _ _ (by decide) HC.out.rt)
          have HW2 := Lib.hid hw''
          have HI2 := Lib.hid hi''
          clear o6 g6 n6 ho6 hw' hr' hrow hpb hfin hw'' hi'' hb6
          go_wp2_with fail
          go_end0
          rw [HE.out, ← HL.out, List.append_nil]
          exact ⟨rfl, HW2.out, T', HI2.out⟩
        · rw [if_neg (fun h => hb2 h.2), if_neg (fun h => by simp at h), if_neg (fun h => by omega), if_neg (fun h => by omega)] at HE
          have hb2' : decide ((bt : Int) < 2) = false := decide_eq_false (by omega)
          have hb2'' : decide (bt < 2) = false := decide_eq_false (by omega)
          clear hb2
          go_wp2_with fail
          refine (between_any (b.toNat : Int) _).mono ?_
          rintro e w2 ⟨rfl, hw⟩
          rw [hw, hbt]
          clear hw
          go_wp2_with fail
          refine (between_any (b.toNat : Int) _).mono ?_
          rintro e w2 ⟨rfl, hw⟩
          rw [hw, hbt]
          clear hw
          go_wp2_with fail
          refine (pass_inv H.out).mono ?_
          rintro e w2 ⟨rfl, hw2, hi2⟩
          have HW2 := Lib.hid hw2
          have HI2 := Lib.hid hi2
          clear hw2 hi2
          go_wp2_with fail
          go_end0
          rw [HE.out, List.append_nil]
          exact ⟨rfl, HW2.out, T, HI2.out⟩
end Go.Proofs.YtlfdgkiliegaiaaGreatDoor

/- Package vtparse: take. -/
namespace Go.Proofs.YtlfdgkiliegaiaaGreatDoor
open Go.RowKit
set_option maxRecDepth 100000

def PSt.fed (s : PSt) (b : UInt8) : PSt × List VAct := ({ s with dec := (feedD s.dec (b.toNat : Int)).1 }, (feedD s.dec (b.toNat : Int)).2.map prAct)
def PSt.took (s : PSt) (b : UInt8) : PSt × List VAct :=
  if s.state = 1 then s.esced b
  else if s.state = 2 ∨ s.state = 5 then s.seqd b
  else if s.state = 3 then (if 64 ≤ (b.toNat : Int) ∨ (48 ≤ (b.toNat : Int) ∧ s.frm = 1) then (s.begun (if s.frm = 5 then 7 else 0), []) else (s, []))
  else if s.state = 4 ∨ s.state = 6 then (if s.text.length < 1024 then ({ s with text := s.text ++ [b] }, []) else (s, []))
  else if s.state = 7 then (s, [])
  else s.fed b
theorem within_alloc {G : Nat → Prop} {w : World} (hg : ∀ k, w.heap.size ≤ k → G k) (o : Obj) : Within G w (w.alloc o) := by
  have _ := hg
  exact ⟨rfl, rfl, rfl, by simp, fun k hk _ => heap_alloc_old w o hk⟩
theorem InvT.alloc {G : Nat → Prop} {u : Bool} {T : Nat → Nat} {p o : Nat} {w : World} {s : PSt} {acts : List VAct} (h : InvT G u T p o w s acts) (ob : Obj) : InvT G u T p o (w.alloc ob) s acts := by
  obtain ⟨d, vi, vp, vt, vo, L, hL, hA, hC, hT⟩ := h
  have m : Mod T (fun _ => False) w (w.alloc ob) := Mod.of_gb (World.grownBy_alloc w ob none) (by intro k hk; simp at hk)
  exact ⟨d, vi, vp, vt, vo, L, hL, hA.mono m.size, hC.mod m id id id id id, hT.mod m id id id⟩
/-- A scope in which the run jumps ahead, once at most. -/
theorem wp_scope_once {P : Program} {a : Act} {w : World} {Q : Exit → Act → World → Prop} {c rest : Code} (l : Nat) (hf : findLabel c l = some rest)
    (first : c.wp P (Exit.jump l (fun a w => rest.wp P (Exit.noGoto Q) a w) Q) a w) : (Code.scope c).wp P Q a w := by
  refine wp_scope_jumps l (fun a w => rest.wp P (Exit.noGoto Q) a w) (fun _ _ => 0) hf first fun a w h => ?_
  intro b k cs
  obtain ⟨e, a', w', hq, harr⟩ := h b k cs
  refine ⟨e, a', w', ?_, harr⟩
  cases e <;> first | exact hq | exact hq.elim
/-- What of a parser is always so. -/
structure PSt.Fine (s : PSt) : Prop where
  il : s.inter.length ≤ 3
  pne : s.any = true → s.params ≠ []
  pl : s.params.length ≤ 33
  pr : ∀ x ∈ s.params, -1 ≤ x ∧ x ≤ 9999
  tl : s.text.length ≤ 1024
  st : 0 ≤ s.state ∧ s.state ≤ 7
  e1 : s.state = 1 → s.inter.length ≤ 2

/-- The decoder's block has changed. -/
theorem dec_inv {G : Nat → Prop} {u : Bool} {T : Nat → Nat} {p o d : Nat} {vi vp vt vo v : Value} {w w' : World} {s : PSt} {L : List (VAct × Value)} {D : Dec} {l : List Int} (hA : Arena G T w) (hC : Core u T p d (tellV o) vi vp vt w s) (hT : Told G T o vo w L)
    (g : w.grownBy w' (some d)) (hd : DecAt w' d D) (hok : D.ok) (hv : w'.ownsRow w.heap.size 21 1 v l.length (l.map (Value.int .i32))) :
    Within G w w' ∧ InvT G u T p o w' { s with dec := D } (L.map (·.1)) ∧ Row T 0 1 v l.length (l.map (Value.int .i32)) w' := by
  have m : Mod T (fun x => x = 2) w w' := Mod.of_gb g (fun k hk => by injection hk with hk; subst hk; exact hC.td)
  refine ⟨m.within hA (by decide), ⟨d, vi, vp, vt, vo, L, rfl, hA.mono g.size, ?_, hT.mod m (by decide) (by decide) (by decide)⟩, ownC_own (own_mono hv (Nat.zero_le _)), fun k hk => ?_⟩
  · exact ⟨(m.block p (heap_lt hC.blk) (by rw [hC.tp]; decide)).trans hC.blk, hd, hok, hC.ri.mod m (by decide), fun hu => (hC.rp hu).mod m (by decide), hC.rt.mod m (by decide), hC.tp, hC.td⟩
  · have h1 := (hv.lt k hk).1
    by_cases h0 : T k = 0
    · exact h0
    · have := (hA.tl k h0).1; omega
set_option maxRecDepth 100000 in
set_option maxHeartbeats 4000000 in
theorem take_inv {G : Nat → Prop} {T : Nat → Nat} {p o : Nat} {w : World} {s : PSt} {acts : List VAct} (b : UInt8) (h : InvT G true T p o w s acts) (hf : s.Fine) (hn : acts.length + 10 ≤ 1000000000) (hb32 : 32 ≤ (b.toNat : Int)) :
    Calls Tryz.prog 107 #[.pointer (some ⟨p, 0, none⟩), .int .u8 (b.toNat : Int)] w fun e w' => e = .returned (.tuple #[]) ∧ Within G w w' ∧ InvO G true p o w' (s.took b).1 (acts ++ (s.took b).2) := by
  have H := Lib.hid h
  have HE := Lib.hid (show s.took b = if s.state = 1 then s.esced b
    else if s.state = 2 ∨ s.state = 5 then s.seqd b
    else if s.state = 3 then (if 64 ≤ (b.toNat : Int) ∨ (48 ≤ (b.toNat : Int) ∧ s.frm = 1) then (s.begun (if s.frm = 5 then 7 else 0), []) else (s, []))
    else if s.state = 4 ∨ s.state = 6 then (if s.text.length < 1024 then ({ s with text := s.text ++ [b] }, []) else (s, []))
    else if s.state = 7 then (s, [])
    else s.fed b from rfl)
  obtain ⟨d, vi, vp, vt, vo, L, hL, hA, hC, hT⟩ := h
  have c0 : w.cell? ⟨p, 0, none⟩ = some (.int .i64 s.state) := parCell hC 0
  have c1 : w.cell? ⟨p, 1, none⟩ = some (.pointer (some ⟨d, 0, none⟩)) := parCell hC 1
  have c6 : w.cell? ⟨p, 6, none⟩ = some vt := parCell hC 6
  have c9 : w.cell? ⟨p, 9, none⟩ = some (.int .i64 s.frm) := parCell hC 9
  have fz := blk_free hC.blk
  have htl : ∀ (ty : TypeId) (wx : World), (Builtin.len_ #[38] ty #[vt]).run Tryz.prog wx = .ok (.int .i64 s.text.length) wx := ownC_len Tryz.underlying38 hC.rt.own
  obtain ⟨xt, mt, ct, rfl⟩ := ownC_form hC.rt.own
  have HF := Lib.hid hf
  have HC := Lib.hid hC
  have HA := Lib.hid hA
  have HT := Lib.hid hT
  have HL := Lib.hid hL
  have hac : acts.length = L.length := by rw [← hL, List.length_map]
  clear hA hC hT hL hf
  have HB1 := Lib.hid (blk_alloc HC.out.blk (.cells #[.int .u8 (b.toNat : Int)] 5))
  by_cases h1 : s.state = 1
  · rw [if_pos h1] at HE
    have h1' : (s.state == 1) = true := beq_iff_eq.2 h1
    clear h1
    go_enter Tryz.func107, Tryz.ntmps107
    go_wp2_with fail
    refine wp_scope_once 0 rfl ?_
    go_wp2_with fail
    go_step3
    refine ⟨rfl, ?_⟩
    go_wp2_with fail
    refine (escaped_inv b H.out (by have := HF.out.il; omega) (by omega)).mono ?_
    rintro e w2 ⟨rfl, hw2, hi2⟩
    have HW2 := Lib.hid hw2
    have HI2 := Lib.hid hi2
    clear hw2 hi2
    go_wp2_with fail
    simp only [Exit.noGoto]
    refine ret0 rfl rfl ?_
    rw [HE.out]
    exact ⟨rfl, HW2.out, HI2.out⟩
  rw [if_neg h1] at HE
  have h1' : (s.state == 1) = false := beq_eq_false_iff_ne.2 h1
  by_cases h2 : s.state = 2 ∨ s.state = 5
  · rw [if_pos h2] at HE
    rcases h2 with h2 | h2
    · have h2' : (s.state == 2) = true := beq_iff_eq.2 h2
      clear h1 h2
      go_enter Tryz.func107, Tryz.ntmps107
      go_wp2_with fail
      refine wp_scope_once 1 rfl ?_
      go_wp2_with fail
      go_step3
      refine ⟨rfl, ?_⟩
      go_wp2_with fail
      refine (sequence_inv b H.out (by have := HF.out.il; omega) (by omega) hb32 HF.out.pne (by have := HF.out.pl; omega) HF.out.pr).mono ?_
      rintro e w2 ⟨rfl, hw2, hi2⟩
      have HW2 := Lib.hid hw2
      have HI2 := Lib.hid hi2
      clear hw2 hi2
      go_wp2_with fail
      simp only [Exit.noGoto]
      refine ret0 rfl rfl ?_
      rw [HE.out]
      exact ⟨rfl, HW2.out, HI2.out⟩
    · have h2' : (s.state == 2) = false := by rw [beq_eq_false_iff_ne]; omega
      have h5' : (s.state == 5) = true := beq_iff_eq.2 h2
      clear h1 h2
      go_enter Tryz.func107, Tryz.ntmps107
      go_wp2_with fail
      refine wp_scope_once 1 rfl ?_
      go_wp2_with fail
      go_step3
      refine ⟨rfl, ?_⟩
      go_wp2_with fail
      refine (sequence_inv b H.out (by have := HF.out.il; omega) (by omega) hb32 HF.out.pne (by have := HF.out.pl; omega) HF.out.pr).mono ?_
      rintro e w2 ⟨rfl, hw2, hi2⟩
      have HW2 := Lib.hid hw2
      have HI2 := Lib.hid hi2
      clear hw2 hi2
      go_wp2_with fail
      simp only [Exit.noGoto]
      refine ret0 rfl rfl ?_
      rw [HE.out]
      exact ⟨rfl, HW2.out, HI2.out⟩
  rw [if_neg h2] at HE
  have h2' : (s.state == 2) = false := by rw [beq_eq_false_iff_ne]; omega
  have h5' : (s.state == 5) = false := by rw [beq_eq_false_iff_ne]; omega
  by_cases h3 : s.state = 3
  · rw [if_pos h3] at HE
    have h3' : (s.state == 3) = true := beq_iff_eq.2 h3
    clear h1 h2 h3
    by_cases hg : 64 ≤ (b.toNat : Int) ∨ (48 ≤ (b.toNat : Int) ∧ s.frm = 1)
    · rw [if_pos hg] at HE
      have hgo : decide (64 ≤ (b.toNat : Int)) = true ∨ (decide (64 ≤ (b.toNat : Int)) = false ∧ decide (48 ≤ (b.toNat : Int)) = true ∧ (s.frm == 1) = true) := by
        by_cases h64 : 64 ≤ (b.toNat : Int)
        · exact .inl (decide_eq_true h64)
        · rcases hg with h | ⟨h, h'⟩
          · exact absurd h h64
          · exact .inr ⟨decide_eq_false h64, decide_eq_true h, beq_iff_eq.2 h'⟩
      have HAL := Lib.hid (H.out.alloc (.cells #[.int .i64 0, .int .i64 7] 3))
      have HWA := Lib.hid (within_alloc HA.out.gn (.cells #[.int .i64 0, .int .i64 7] 3))
      have a9 : (w.alloc (.cells #[.int .i64 0, .int .i64 7] 3)).cell? ⟨p, 9, none⟩ = some (.int .i64 s.frm) := blk_cell (blk_alloc HC.out.blk _) 9
      clear hg
      rcases hgo with h64' | ⟨h64', h48', hf1'⟩
      · skip
        go_enter Tryz.func107, Tryz.ntmps107
        go_wp2_with fail
        refine wp_scope_once 2 rfl ?_
        go_wp2_with fail
        go_step3
        refine ⟨rfl, ?_⟩
        go_wp2_with fail
        refine (flag_any _ _).mono ?_
        rintro e w2 ⟨rfl, rfl⟩
        cases hf5 : (s.frm == 5)
        · have hfx : ¬ s.frm = 5 := by rw [beq_eq_false_iff_ne] at hf5; exact hf5
          rw [if_neg hfx] at HE
          clear hfx
          go_wp2_with fail
          refine (begin_inv 0 HAL.out).mono ?_
          rintro e w2 ⟨rfl, hw2, hi2⟩
          have HW2 := Lib.hid (HWA.out.trans hw2)
          have HI2 := Lib.hid hi2
          clear hw2 hi2
          go_wp2_with fail
          simp only [Exit.noGoto]
          refine ret0 rfl rfl ?_
          rw [HE.out, List.append_nil]
          exact ⟨rfl, HW2.out, T, HI2.out⟩
        · have hfx : s.frm = 5 := beq_iff_eq.1 hf5
          rw [if_pos hfx] at HE
          clear hfx
          go_wp2_with fail
          refine (begin_inv 7 HAL.out).mono ?_
          rintro e w2 ⟨rfl, hw2, hi2⟩
          have HW2 := Lib.hid (HWA.out.trans hw2)
          have HI2 := Lib.hid hi2
          clear hw2 hi2
          go_wp2_with fail
          simp only [Exit.noGoto]
          refine ret0 rfl rfl ?_
          rw [HE.out, List.append_nil]
          exact ⟨rfl, HW2.out, T, HI2.out⟩
      · skip
        go_enter Tryz.func107, Tryz.ntmps107
        go_wp2_with fail
        refine wp_scope_once 2 rfl ?_
        go_wp2_with fail
        go_step3
        refine ⟨rfl, ?_⟩
        go_wp2_with fail
        refine (flag_any _ _).mono ?_
        rintro e w2 ⟨rfl, rfl⟩
        cases hf5 : (s.frm == 5)
        · have hfx : ¬ s.frm = 5 := by rw [beq_eq_false_iff_ne] at hf5; exact hf5
          rw [if_neg hfx] at HE
          clear hfx
          go_wp2_with fail
          refine (begin_inv 0 HAL.out).mono ?_
          rintro e w2 ⟨rfl, hw2, hi2⟩
          have HW2 := Lib.hid (HWA.out.trans hw2)
          have HI2 := Lib.hid hi2
          clear hw2 hi2
          go_wp2_with fail
          simp only [Exit.noGoto]
          refine ret0 rfl rfl ?_
          rw [HE.out, List.append_nil]
          exact ⟨rfl, HW2.out, T, HI2.out⟩
        · have hfx : s.frm = 5 := beq_iff_eq.1 hf5
          rw [if_pos hfx] at HE
          clear hfx
          go_wp2_with fail
          refine (begin_inv 7 HAL.out).mono ?_
          rintro e w2 ⟨rfl, hw2, hi2⟩
          have HW2 := Lib.hid (HWA.out.trans hw2)
          have HI2 := Lib.hid hi2
          clear hw2 hi2
          go_wp2_with fail
          simp only [Exit.noGoto]
          refine ret0 rfl rfl ?_
          rw [HE.out, List.append_nil]
          exact ⟨rfl, HW2.out, T, HI2.out⟩
    · rw [if_neg hg] at HE
      have h64' : decide (64 ≤ (b.toNat : Int)) = false := decide_eq_false (fun h => hg (.inl h))
      by_cases h48 : 48 ≤ (b.toNat : Int)
      · have h48' : decide (48 ≤ (b.toNat : Int)) = true := decide_eq_true h48
        have hf1' : (s.frm == 1) = false := beq_eq_false_iff_ne.2 (fun h => hg (.inr ⟨h48, h⟩))
        clear hg
        go_enter Tryz.func107, Tryz.ntmps107
        go_wp2_with fail
        refine wp_scope_once 2 rfl ?_
        go_wp2_with fail
        go_step3
        refine ⟨rfl, ?_⟩
        go_wp2_with fail
        simp only [Exit.noGoto]
        refine ret0 rfl rfl ?_
        rw [HE.out, List.append_nil]
        exact ⟨rfl, Within.refl _ _, T, H.out⟩
      · have h48' : decide (48 ≤ (b.toNat : Int)) = false := decide_eq_false h48
        clear hg
        go_enter Tryz.func107, Tryz.ntmps107
        go_wp2_with fail
        refine wp_scope_once 2 rfl ?_
        go_wp2_with fail
        go_step3
        refine ⟨rfl, ?_⟩
        go_wp2_with fail
        simp only [Exit.noGoto]
        refine ret0 rfl rfl ?_
        rw [HE.out, List.append_nil]
        exact ⟨rfl, Within.refl _ _, T, H.out⟩
  rw [if_neg h3] at HE
  have h3' : (s.state == 3) = false := beq_eq_false_iff_ne.2 h3
  by_cases h4 : s.state = 4 ∨ s.state = 6
  · rw [if_pos h4] at HE
    have hst : (s.state == 4) = true ∨ ((s.state == 4) = false ∧ (s.state == 6) = true) := by
      rcases h4 with h | h
      · exact .inl (beq_iff_eq.2 h)
      · exact .inr ⟨by rw [beq_eq_false_iff_ne]; omega, beq_iff_eq.2 h⟩
    clear h1 h2 h3 h4
    by_cases htx : s.text.length < 1024
    · rw [if_pos htx] at HE
      have htx' : decide ((s.text.length : Int) < 1024) = true := decide_eq_true (by omega)
      have htx'' : decide (s.text.length < 1024) = true := decide_eq_true htx
      rcases hst with h4' | ⟨h4', h6'⟩
      · skip
        go_enter Tryz.func107, Tryz.ntmps107
        go_wp2_with fail
        refine wp_scope_once 3 rfl ?_
        go_wp2_with fail
        go_step3
        refine ⟨rfl, ?_⟩
        go_wp2_with (at_builtin; refine held ?_)
        unfold Held
        refine wpList_appD bytes_elem rfl rfl 0 (ownC_alloc HC.out.rt.own _) rfl (reads_one _ _ _) rfl (int_one _ _) (by unfold maxLen; omega) (by omega) (by omega) ?_
        intro v6 w6 o6 g6 n6
        obtain ⟨x6, m6, c6, rfl⟩ := ownC_form o6
        have hb6 := blk_grown HB1.out g6 (fun e => by have h1 := HC.out.rt.tag p e.symm; have h2 := HC.out.tp; omega)
        have cc6 : w6.cell? ⟨p, 6, none⟩ = some (.slice xt mt ct) := blk_cell hb6 6
        have fz6 := blk_free hb6
        have HB6 := Lib.hid hb6
        have ho6 : OwnC w6 0 1 (.slice x6 m6 c6) (s.text ++ [b]).length (byteVals (s.text ++ [b])) := by
          rw [List.length_append, byteVals_append]; exact o6
        obtain ⟨T', hw', hr', hrow, hpb, hfin⟩ := grow_inv (t := 6) (.inr (.inr rfl)) rfl HA.out HC.out HT.out HC.out.rt (World.grownBy_alloc w _ none) g6 ho6 n6
        obtain ⟨hw'', hi''⟩ := hfin (w6.setCell ⟨p, 6, none⟩ (.slice x6 m6 c6)) { s with text := s.text ++ [b] } vi vp (.slice x6 m6 c6) (gb_set (gb_refl _ _) _ _) (blk_set HB6.out 6 _) rfl (hrow 4 1 _ _ _ (by decide) HC.out.ri) (hrow 5 1 _ _ _ (by decide) (HC.out.rp rfl)) hr'
        have HW2 := Lib.hid hw''
        have HI2 := Lib.hid hi''
        clear o6 g6 n6 ho6 hw' hr' hrow hpb hfin hw'' hi'' hb6
        go_wp2_with fail
        simp only [Exit.noGoto]
        go_end0
        rw [HE.out, ← HL.out, List.append_nil]
        exact ⟨rfl, HW2.out, T', HI2.out⟩
      · skip
        go_enter Tryz.func107, Tryz.ntmps107
        go_wp2_with fail
        refine wp_scope_once 3 rfl ?_
        go_wp2_with fail
        go_step3
        refine ⟨rfl, ?_⟩
        go_wp2_with (at_builtin; refine held ?_)
        unfold Held
        refine wpList_appD bytes_elem rfl rfl 0 (ownC_alloc HC.out.rt.own _) rfl (reads_one _ _ _) rfl (int_one _ _) (by unfold maxLen; omega) (by omega) (by omega) ?_
        intro v6 w6 o6 g6 n6
        obtain ⟨x6, m6, c6, rfl⟩ := ownC_form o6
        have hb6 := blk_grown HB1.out g6 (fun e => by have h1 := HC.out.rt.tag p e.symm; have h2 := HC.out.tp; omega)
        have cc6 : w6.cell? ⟨p, 6, none⟩ = some (.slice xt mt ct) := blk_cell hb6 6
        have fz6 := blk_free hb6
        have HB6 := Lib.hid hb6
        have ho6 : OwnC w6 0 1 (.slice x6 m6 c6) (s.text ++ [b]).length (byteVals (s.text ++ [b])) := by
          rw [List.length_append, byteVals_append]; exact o6
        obtain ⟨T', hw', hr', hrow, hpb, hfin⟩ := grow_inv (t := 6) (.inr (.inr rfl)) rfl HA.out HC.out HT.out HC.out.rt (World.grownBy_alloc w _ none) g6 ho6 n6
        obtain ⟨hw'', hi''⟩ := hfin (w6.setCell ⟨p, 6, none⟩ (.slice x6 m6 c6)) { s with text := s.text ++ [b] } vi vp (.slice x6 m6 c6) (gb_set (gb_refl _ _) _ _) (blk_set HB6.out 6 _) rfl (hrow 4 1 _ _ _ (by decide) HC.out.ri) (hrow 5 1 _ _ _ (by decide) (HC.out.rp rfl)) hr'
        have HW2 := Lib.hid hw''
        have HI2 := Lib.hid hi''
        clear o6 g6 n6 ho6 hw' hr' hrow hpb hfin hw'' hi'' hb6
        go_wp2_with fail
        simp only [Exit.noGoto]
        go_end0
        rw [HE.out, ← HL.out, List.append_nil]
        exact ⟨rfl, HW2.out, T', HI2.out⟩
    · rw [if_neg htx] at HE
      have htx' : decide ((s.text.length : Int) < 1024) = false := decide_eq_false (by omega)
      have htx'' : decide (s.text.length < 1024) = false := decide_eq_false htx
      rcases hst with h4' | ⟨h4', h6'⟩
      · skip
        go_enter Tryz.func107, Tryz.ntmps107
        go_wp2_with fail
        refine wp_scope_once 3 rfl ?_
        go_wp2_with fail
        go_step3
        refine ⟨rfl, ?_⟩
        go_wp2_with fail
        simp only [Exit.noGoto]
        go_end0
        rw [HE.out, List.append_nil]
        exact ⟨rfl, Within.refl _ _, T, H.out⟩
      · skip
        go_enter Tryz.func107, Tryz.ntmps107
        go_wp2_with fail
        refine wp_scope_once 3 rfl ?_
        go_wp2_with fail
        go_step3
        refine ⟨rfl, ?_⟩
        go_wp2_with fail
        simp only [Exit.noGoto]
        go_end0
        rw [HE.out, List.append_nil]
        exact ⟨rfl, Within.refl _ _, T, H.out⟩
  rw [if_neg h4] at HE
  have h4' : (s.state == 4) = false := by rw [beq_eq_false_iff_ne]; omega
  have h6' : (s.state == 6) = false := by rw [beq_eq_false_iff_ne]; omega
  by_cases h7 : s.state = 7
  · rw [if_pos h7] at HE
    have h7' : (s.state == 7) = true := beq_iff_eq.2 h7
    clear h1 h2 h3 h4 h7
    go_enter Tryz.func107, Tryz.ntmps107
    go_wp2_with fail
    go_step3
    go_wp2_with fail
    simp only [Exit.noGoto]
    refine ret0 rfl rfl ?_
    rw [HE.out, List.append_nil]
    exact ⟨rfl, Within.refl _ _, T, H.out⟩
  rw [if_neg h7] at HE
  have h7' : (s.state == 7) = false := beq_eq_false_iff_ne.2 h7
  clear h1 h2 h3 h4 h7
  have HFD := Lib.hid (show s.fed b = ({ s with dec := (feedD s.dec (b.toNat : Int)).1 }, (feedD s.dec (b.toNat : Int)).2.map prAct) from rfl)
  have hfl := feedD_len s.dec (b.toNat : Int)
  have HOK := Lib.hid (feedD_ok s.dec (b.toNat : Int) (by omega) (byte_le b) HC.out.dok)
  have HFE := Lib.hid (feed_any d s.dec (b.toNat : Int) w HC.out.dec (by omega) (byte_le b) HC.out.dok)
  generalize feedD s.dec (b.toNat : Int) = D at *
  obtain ⟨D, l⟩ := D
  dsimp only at hfl HOK HFE HFD
  go_enter Tryz.func107, Tryz.ntmps107
  go_wp2_with fail
  go_step3
  go_wp2_with fail
  refine HFE.out.mono ?_
  rintro e w2 ⟨v, rfl, o2, g2, d2⟩
  obtain ⟨hw2, hi2, hr2⟩ := dec_inv HA.out HC.out HT.out g2 d2 HOK.out o2
  have HW2 := Lib.hid hw2
  have HI2 := Lib.hid hi2
  have HR2 := Lib.hid hr2
  clear o2 g2 d2 hw2 hi2 hr2
  go_wp2_with fail
  refine (parRunes_inv v l HI2.out HR2.out (by rw [List.length_map]; omega)).mono ?_
  rintro e w3 ⟨rfl, hw3, hi3⟩
  have HW3 := Lib.hid (HW2.out.trans hw3)
  have HI3 := Lib.hid hi3
  clear hw3 hi3
  go_wp2_with fail
  simp only [Exit.noGoto]
  refine ret0 rfl rfl ?_
  rw [HE.out, HFD.out, ← HL.out]
  exact ⟨rfl, HW3.out, HI3.out⟩
end Go.Proofs.YtlfdgkiliegaiaaGreatDoor

/- Package vtparse: anywhere. -/
namespace Go.Proofs.YtlfdgkiliegaiaaGreatDoor
open Go.RowKit
set_option maxRecDepth 100000

def PSt.any1 (s : PSt) (b : UInt8) : Bool × PSt × List VAct :=
  if (b.toNat : Int) = 24 ∨ (b.toNat : Int) = 26 then (true, ({ s with dec := dec0 } : PSt).begun 0, [])
  else if (b.toNat : Int) = 27 then (true, { ({ s with dec := (endD s.dec).1 } : PSt).begun 1 with ended := s.texts }, (endD s.dec).2.map prAct ++ s.endActs)
  else if (b.toNat : Int) = 7 ∧ s.state = 4 then (true, s.begun 0, s.endActs)
  else if ((b.toNat : Int) = 127 ∧ s.texts = false) ∨ ((b.toNat : Int) < 32 ∧ s.texts = true) then (true, s, [])
  else if (b.toNat : Int) < 32 then (true, { s with dec := (endD s.dec).1 }, (endD s.dec).2.map prAct ++ [ctlAct b])
  else if 127 < (b.toNat : Int) ∧ s.texts = false then (false, (if s.state = 0 then s else s.begun 0), [])
  else (false, s, [])
theorem endD_ok (d : Dec) (h : d.ok) : (endD d).1.ok := by
  unfold endD
  split
  · exact h
  · have k1 := h.h1
    have k0 := h.h0
    have km := h.m0
    exact ⟨by simp, by simp only []; omega, h.m0, h.r0, fun e => absurd rfl e, fun e => absurd rfl e, fun e => absurd rfl e, fun e => absurd rfl e⟩
theorem newdec_inv {G : Nat → Prop} {u : Bool} {T : Nat → Nat} {p o d : Nat} {vi vp vt vo : Value} {w : World} {s : PSt} {L : List (VAct × Value)} (hA : Arena G T w) (hC : Core u T p d (tellV o) vi vp vt w s) (hT : Told G T o vo w L) :
    Within G w ((w.setCell ⟨p, 1, none⟩ (.pointer (some ⟨w.heap.size, 0, none⟩))).alloc (.cells dec0.cells 214)) ∧
      InvT G u (adopt T w.heap.size (w.heap.size + 1) 2) p o ((w.setCell ⟨p, 1, none⟩ (.pointer (some ⟨w.heap.size, 0, none⟩))).alloc (.cells dec0.cells 214)) { s with dec := dec0 } (L.map (·.1)) := by
  have hsz : ((w.setCell ⟨p, 1, none⟩ (.pointer (some ⟨w.heap.size, 0, none⟩))).alloc (.cells dec0.cells 214)).heap.size = w.heap.size + 1 := by simp
  have g := gb_alloc (gb_set (gb_refl w (some p)) 1 (.pointer (some ⟨w.heap.size, 0, none⟩))) (.cells dec0.cells 214)
  have m : Mod T (fun x => x = 1) w _ := Mod.of_gb g (fun k hk => by injection hk with hk; subst hk; exact hC.tp)
  have ad : ∀ k, k < w.heap.size → adopt T w.heap.size (w.heap.size + 1) 2 k = T k := fun k hk => adopt_old hk
  have hA' := hA.adopt m.size 2
  rw [hsz] at hA'
  have hb := blk_alloc (blk_set hC.blk 1 (.pointer (some ⟨w.heap.size, 0, none⟩))) (.cells dec0.cells 214)
  have hd : DecAt ((w.setCell ⟨p, 1, none⟩ (.pointer (some ⟨w.heap.size, 0, none⟩))).alloc (.cells dec0.cells 214)) w.heap.size dec0 := by
    have := heap_alloc_new (w.setCell ⟨p, 1, none⟩ (.pointer (some ⟨w.heap.size, 0, none⟩))) (.cells dec0.cells 214)
    rw [show (w.setCell ⟨p, 1, none⟩ (.pointer (some ⟨w.heap.size, 0, none⟩))).heap.size = w.heap.size by simp] at this
    exact this
  refine ⟨m.within hA (by decide), w.heap.size, vi, vp, vt, vo, L, rfl, hA', ⟨hb, hd, dec0_ok, ?_, fun hu => ?_, ?_, ?_, ?_⟩, (hT.retag ad).mod (m.retag ad) (by decide) (by decide) (by decide)⟩
  · exact (hC.ri.retag fun k hk ht => (ad k hk).trans ht).mod (m.retag ad) (by decide)
  · exact ((hC.rp hu).retag fun k hk ht => (ad k hk).trans ht).mod (m.retag ad) (by decide)
  · exact (hC.rt.retag fun k hk ht => (ad k hk).trans ht).mod (m.retag ad) (by decide)
  · exact (ad p (heap_lt hC.blk)).trans hC.tp
  · exact adopt_new (Nat.le_refl _) (by omega)
theorem invBlk {G : Nat → Prop} {u : Bool} {T : Nat → Nat} {p o : Nat} {w : World} {s : PSt} {acts : List VAct} (h : InvT G u T p o w s acts) : w.cell? ⟨p, 8, none⟩ = some (.bool s.ended) ∧ ∀ i, w.frozen? ⟨p, i, none⟩ = false := by
  obtain ⟨d, vi, vp, vt, vo, L, hL, hA, hC, hT⟩ := h
  exact ⟨parCell hC 8, blk_free hC.blk⟩
set_option maxRecDepth 100000 in
set_option maxHeartbeats 4000000 in
theorem anywhere_inv {G : Nat → Prop} {T : Nat → Nat} {p o : Nat} {w : World} {s : PSt} {acts : List VAct} (b : UInt8) (h : InvT G true T p o w s acts) (hn : acts.length + 10 ≤ 1000000000) :
    Calls Tryz.prog 106 #[.pointer (some ⟨p, 0, none⟩), .int .u8 (b.toNat : Int)] w fun e w' => e = .returned (.bool (s.any1 b).1) ∧ Within G w w' ∧ InvO G true p o w' (s.any1 b).2.1 (acts ++ (s.any1 b).2.2) := by
  have H := Lib.hid h
  have HE := Lib.hid (show s.any1 b = if (b.toNat : Int) = 24 ∨ (b.toNat : Int) = 26 then (true, ({ s with dec := dec0 } : PSt).begun 0, [])
    else if (b.toNat : Int) = 27 then (true, { ({ s with dec := (endD s.dec).1 } : PSt).begun 1 with ended := s.texts }, (endD s.dec).2.map prAct ++ s.endActs)
    else if (b.toNat : Int) = 7 ∧ s.state = 4 then (true, s.begun 0, s.endActs)
    else if ((b.toNat : Int) = 127 ∧ s.texts = false) ∨ ((b.toNat : Int) < 32 ∧ s.texts = true) then (true, s, [])
    else if (b.toNat : Int) < 32 then (true, { s with dec := (endD s.dec).1 }, (endD s.dec).2.map prAct ++ [ctlAct b])
    else if 127 < (b.toNat : Int) ∧ s.texts = false then (false, (if s.state = 0 then s else s.begun 0), [])
    else (false, s, []) from rfl)
  obtain ⟨d, vi, vp, vt, vo, L, hL, hA, hC, hT⟩ := h
  have c0 : w.cell? ⟨p, 0, none⟩ = some (.int .i64 s.state) := parCell hC 0
  have c1 : w.cell? ⟨p, 1, none⟩ = some (.pointer (some ⟨d, 0, none⟩)) := parCell hC 1
  have fz := blk_free hC.blk
  have hpl := heap_lt hC.blk
  have hb1 := blk_alloc hC.blk (.cells dec0.cells 214)
  have a1 : (w.alloc (.cells dec0.cells 214)).cell? ⟨p, 1, none⟩ = some (.pointer (some ⟨d, 0, none⟩)) := blk_cell hb1 1
  have afz : ∀ i, (w.alloc (.cells dec0.cells 214)).frozen? ⟨p, i, none⟩ = false := blk_free hb1
  have HTX := Lib.hid (texts_any p d s (tellV o) vi vp vt w hC.blk)
  have HND := Lib.hid (newdec_inv hA hC hT)
  rw [hL] at HND
  have HL := Lib.hid hL
  have hac : acts.length = L.length := by rw [← hL, List.length_map]
  have HED := Lib.hid (end_any d s.dec w hC.dec)
  have HOK := Lib.hid (endD_ok s.dec hC.dok)
  have hel := endD_len s.dec
  generalize adopt T w.heap.size (w.heap.size + 1) 2 = TN at *
  generalize endD s.dec = D at *
  obtain ⟨D, l⟩ := D
  dsimp only at HE HED HOK hel
  have HC := Lib.hid hC
  have HA := Lib.hid hA
  have HT := Lib.hid hT
  clear hA hC hT hL hb1
  by_cases hc : (b.toNat : Int) = 24 ∨ (b.toNat : Int) = 26
  · rw [if_pos hc] at HE
    rcases hc with hc | hc
    · have hc' : ((b.toNat : Int) == 24) = true := beq_iff_eq.2 hc
      clear hc
      go_enter Tryz.func106, Tryz.ntmps106
      go_wp2_with fail
      refine HTX.out.mono ?_
      rintro e w2 ⟨rfl, hw⟩
      rw [hw]
      clear hw
      go_wp2_with fail
      refine (newDec_any _).mono ?_
      rintro e w2 ⟨rfl, rfl⟩
      go_wp2_with fail
      refine (begin_inv 0 HND.out.2).mono ?_
      rintro e w3 ⟨rfl, hw3, hi3⟩
      have HW3 := Lib.hid (HND.out.1.trans hw3)
      have HI3 := Lib.hid hi3
      clear hw3 hi3
      go_wp2_with fail
      go_ret
      rw [HE.out, List.append_nil]
      exact ⟨rfl, HW3.out, TN, HI3.out⟩
    · have hc0 : ((b.toNat : Int) == 24) = false := by rw [beq_eq_false_iff_ne]; omega
      have hc' : ((b.toNat : Int) == 26) = true := beq_iff_eq.2 hc
      clear hc
      go_enter Tryz.func106, Tryz.ntmps106
      go_wp2_with fail
      refine HTX.out.mono ?_
      rintro e w2 ⟨rfl, hw⟩
      rw [hw]
      clear hw
      go_wp2_with fail
      refine (newDec_any _).mono ?_
      rintro e w2 ⟨rfl, rfl⟩
      go_wp2_with fail
      refine (begin_inv 0 HND.out.2).mono ?_
      rintro e w3 ⟨rfl, hw3, hi3⟩
      have HW3 := Lib.hid (HND.out.1.trans hw3)
      have HI3 := Lib.hid hi3
      clear hw3 hi3
      go_wp2_with fail
      go_ret
      rw [HE.out, List.append_nil]
      exact ⟨rfl, HW3.out, TN, HI3.out⟩
  clear a1 afz HND
  rw [if_neg hc] at HE
  have hc0 : ((b.toNat : Int) == 24) = false := by rw [beq_eq_false_iff_ne]; omega
  have hc1 : ((b.toNat : Int) == 26) = false := by rw [beq_eq_false_iff_ne]; omega
  by_cases h27 : (b.toNat : Int) = 27
  · rw [if_pos h27] at HE
    have h27' : ((b.toNat : Int) == 27) = true := beq_iff_eq.2 h27
    clear hc h27
    go_enter Tryz.func106, Tryz.ntmps106
    go_wp2_with fail
    refine HTX.out.mono ?_
    rintro e w2 ⟨rfl, hw⟩
    rw [hw]
    clear hw
    go_wp2_with fail
    refine HED.out.mono ?_
    rintro e w2 ⟨v, rfl, o2, g2, d2⟩
    obtain ⟨hw2, hi2, hr2⟩ := dec_inv HA.out HC.out HT.out g2 d2 HOK.out o2
    have HW2 := Lib.hid hw2
    have HI2 := Lib.hid hi2
    have HR2 := Lib.hid hr2
    clear o2 g2 d2 hw2 hi2 hr2
    go_wp2_with fail
    refine (parRunes_inv v l HI2.out HR2.out (by rw [List.length_map]; omega)).mono ?_
    rintro e w3 ⟨rfl, hw3, T3, hi3⟩
    have HW3 := Lib.hid (HW2.out.trans hw3)
    have HI3 := Lib.hid hi3
    clear hw3 hi3
    go_wp2_with fail
    refine (ends_inv HI3.out (by rw [List.length_append, List.length_map, List.length_map]; omega)).mono ?_
    rintro e w4 ⟨rfl, hw4, T4, hi4⟩
    have HW4 := Lib.hid (HW3.out.trans hw4)
    have HI4 := Lib.hid hi4
    clear hw4 hi4
    go_wp2_with fail
    refine (begin_inv 1 HI4.out).mono ?_
    rintro e w5 ⟨rfl, hw5, hi5⟩
    have HW5 := Lib.hid (HW4.out.trans hw5)
    have HI5 := Lib.hid hi5
    have k8 := invBlk hi5
    clear hw5 hi5
    obtain ⟨k8, kfz⟩ := k8
    have HI6 := Lib.hid (HI5.out.set 8 (.bool s.texts) { ({ s with dec := D } : PSt).begun 1 with ended := s.texts } (fun _ _ _ _ _ => rfl) rfl rfl rfl rfl)
    have HW6 := Lib.hid (HW5.out.trans (within_set HI5.out.inG w5 8 (.bool s.texts)))
    go_wp2_with fail
    go_ret
    rw [HE.out]
    refine ⟨rfl, HW6.out, T4, ?_⟩
    have := HI6.out
    rw [HL.out, List.append_assoc] at this
    exact this
  rw [if_neg h27] at HE
  have h27' : ((b.toNat : Int) == 27) = false := beq_eq_false_iff_ne.2 h27
  clear hc h27
  by_cases h7 : (b.toNat : Int) = 7 ∧ s.state = 4
  · rw [if_pos h7] at HE
    have h7' : ((b.toNat : Int) == 7) = true := beq_iff_eq.2 h7.1
    have h4' : (s.state == 4) = true := beq_iff_eq.2 h7.2
    clear h7
    go_enter Tryz.func106, Tryz.ntmps106
    go_wp2_with fail
    refine HTX.out.mono ?_
    rintro e w2 ⟨rfl, hw⟩
    rw [hw]
    clear hw
    go_wp2_with fail
    refine (ends_inv H.out (by omega)).mono ?_
    rintro e w4 ⟨rfl, hw4, T4, hi4⟩
    have HW4 := Lib.hid hw4
    have HI4 := Lib.hid hi4
    clear hw4 hi4
    go_wp2_with fail
    refine (begin_inv 0 HI4.out).mono ?_
    rintro e w5 ⟨rfl, hw5, hi5⟩
    have HW5 := Lib.hid (HW4.out.trans hw5)
    have HI5 := Lib.hid hi5
    clear hw5 hi5
    go_wp2_with fail
    go_ret
    rw [HE.out]
    exact ⟨rfl, HW5.out, T4, HI5.out⟩
  rw [if_neg h7] at HE
  have h7s : ((b.toNat : Int) == 7) = false ∨ (((b.toNat : Int) == 7) = true ∧ (s.state == 4) = false) := by
    by_cases h : (b.toNat : Int) = 7
    · exact .inr ⟨beq_iff_eq.2 h, beq_eq_false_iff_ne.2 (fun h' => h7 ⟨h, h'⟩)⟩
    · exact .inl (beq_eq_false_iff_ne.2 h)
  clear h7
  cases htx : s.texts
  · rw [htx] at HE HTX
    by_cases h127 : (b.toNat : Int) = 127
    · rw [if_pos (.inl ⟨h127, rfl⟩)] at HE
      have h127' : ((b.toNat : Int) == 127) = true := beq_iff_eq.2 h127
      have h7' : ((b.toNat : Int) == 7) = false := by rw [beq_eq_false_iff_ne]; omega
      clear h127 h7s
      go_enter Tryz.func106, Tryz.ntmps106
      go_wp2_with fail
      refine HTX.out.mono ?_
      rintro e w2 ⟨rfl, hw⟩
      rw [hw]
      clear hw
      go_wp2_with fail
      go_ret
      rw [HE.out, List.append_nil]
      exact ⟨rfl, Within.refl _ _, T, H.out⟩
    have h127' : ((b.toNat : Int) == 127) = false := beq_eq_false_iff_ne.2 h127
    rw [if_neg (fun h => by rcases h with ⟨h, _⟩ | ⟨_, h⟩; exact h127 h; simp at h)] at HE
    by_cases h32 : (b.toNat : Int) < 32
    · rw [if_pos h32] at HE
      have h32' : decide ((b.toNat : Int) < 32) = true := decide_eq_true h32
      clear h127 h32
      rcases h7s with h7' | ⟨h7', h4'⟩
      · skip
        go_enter Tryz.func106, Tryz.ntmps106
        go_wp2_with fail
        refine HTX.out.mono ?_
        rintro e w2 ⟨rfl, hw⟩
        rw [hw]
        clear hw
        go_wp2_with fail
        refine HED.out.mono ?_
        rintro e w2 ⟨v, rfl, o2, g2, d2⟩
        obtain ⟨hw2, hi2, hr2⟩ := dec_inv HA.out HC.out HT.out g2 d2 HOK.out o2
        have HW2 := Lib.hid hw2
        have HI2 := Lib.hid hi2
        have HR2 := Lib.hid hr2
        clear o2 g2 d2 hw2 hi2 hr2
        go_wp2_with fail
        refine (parRunes_inv v l HI2.out HR2.out (by rw [List.length_map]; omega)).mono ?_
        rintro e w3 ⟨rfl, hw3, T3, hi3⟩
        have HW3 := Lib.hid (HW2.out.trans hw3)
        have HI3 := Lib.hid hi3
        clear hw3 hi3
        have k2 := invCell HI3.out
        go_wp2_with fail
        refine (tell_inv (ctlAct b) rfl HI3.out (by rw [List.length_append, List.length_map, List.length_map]; omega)).mono ?_
        rintro e w4 ⟨rfl, hw4, m4, T4, ht4, hi4⟩
        have HW4 := Lib.hid (HW3.out.trans hw4)
        have HI4 := Lib.hid hi4
        clear hw4 hi4 m4 ht4
        go_wp2_with fail
        go_ret
        rw [HE.out]
        refine ⟨rfl, HW4.out, T4, ?_⟩
        have := HI4.out
        rw [HL.out, List.append_assoc] at this
        exact this
      · skip
        go_enter Tryz.func106, Tryz.ntmps106
        go_wp2_with fail
        refine HTX.out.mono ?_
        rintro e w2 ⟨rfl, hw⟩
        rw [hw]
        clear hw
        go_wp2_with fail
        refine HED.out.mono ?_
        rintro e w2 ⟨v, rfl, o2, g2, d2⟩
        obtain ⟨hw2, hi2, hr2⟩ := dec_inv HA.out HC.out HT.out g2 d2 HOK.out o2
        have HW2 := Lib.hid hw2
        have HI2 := Lib.hid hi2
        have HR2 := Lib.hid hr2
        clear o2 g2 d2 hw2 hi2 hr2
        go_wp2_with fail
        refine (parRunes_inv v l HI2.out HR2.out (by rw [List.length_map]; omega)).mono ?_
        rintro e w3 ⟨rfl, hw3, T3, hi3⟩
        have HW3 := Lib.hid (HW2.out.trans hw3)
        have HI3 := Lib.hid hi3
        clear hw3 hi3
        have k2 := invCell HI3.out
        go_wp2_with fail
        refine (tell_inv (ctlAct b) rfl HI3.out (by rw [List.length_append, List.length_map, List.length_map]; omega)).mono ?_
        rintro e w4 ⟨rfl, hw4, m4, T4, ht4, hi4⟩
        have HW4 := Lib.hid (HW3.out.trans hw4)
        have HI4 := Lib.hid hi4
        clear hw4 hi4 m4 ht4
        go_wp2_with fail
        go_ret
        rw [HE.out]
        refine ⟨rfl, HW4.out, T4, ?_⟩
        have := HI4.out
        rw [HL.out, List.append_assoc] at this
        exact this
    rw [if_neg h32] at HE
    have h32' : decide ((b.toNat : Int) < 32) = false := decide_eq_false h32
    have h7' : ((b.toNat : Int) == 7) = false := by rw [beq_eq_false_iff_ne]; omega
    clear h7s
    by_cases hgt : 127 < (b.toNat : Int)
    · rw [if_pos ⟨hgt, rfl⟩] at HE
      have hgt' : decide (127 < (b.toNat : Int)) = true := decide_eq_true hgt
      clear h127 h32 hgt
      by_cases h0 : s.state = 0
      · rw [if_pos h0] at HE
        have h0' : (s.state != 0) = false := by rw [h0]; rfl
        clear h0
        go_enter Tryz.func106, Tryz.ntmps106
        go_wp2_with fail
        refine HTX.out.mono ?_
        rintro e w2 ⟨rfl, hw⟩
        rw [hw]
        clear hw
        go_wp2_with fail
        refine ret1v rfl rfl rfl ?_
        rw [HE.out, List.append_nil]
        exact ⟨rfl, Within.refl _ _, T, H.out⟩
      · rw [if_neg h0] at HE
        have h0' : (s.state != 0) = true := by simpa using h0
        clear h0
        go_enter Tryz.func106, Tryz.ntmps106
        go_wp2_with fail
        refine HTX.out.mono ?_
        rintro e w2 ⟨rfl, hw⟩
        rw [hw]
        clear hw
        go_wp2_with fail
        refine (begin_inv 0 H.out).mono ?_
        rintro e w5 ⟨rfl, hw5, hi5⟩
        have HW5 := Lib.hid hw5
        have HI5 := Lib.hid hi5
        clear hw5 hi5
        go_wp2_with fail
        refine ret1v rfl rfl rfl ?_
        rw [HE.out, List.append_nil]
        exact ⟨rfl, HW5.out, T, HI5.out⟩
    · rw [if_neg (fun h => hgt h.1)] at HE
      have hgt' : decide (127 < (b.toNat : Int)) = false := decide_eq_false hgt
      clear h127 h32 hgt
      go_enter Tryz.func106, Tryz.ntmps106
      go_wp2_with fail
      refine HTX.out.mono ?_
      rintro e w2 ⟨rfl, hw⟩
      rw [hw]
      clear hw
      go_wp2_with fail
      refine ret1v rfl rfl rfl ?_
      rw [HE.out, List.append_nil]
      exact ⟨rfl, Within.refl _ _, T, H.out⟩
  · rw [htx] at HE HTX
    by_cases h32 : (b.toNat : Int) < 32
    · rw [if_pos (.inr ⟨h32, rfl⟩)] at HE
      have h32' : decide ((b.toNat : Int) < 32) = true := decide_eq_true h32
      have h127' : ((b.toNat : Int) == 127) = false := by rw [beq_eq_false_iff_ne]; omega
      clear h32
      rcases h7s with h7' | ⟨h7', h4'⟩
      · skip
        go_enter Tryz.func106, Tryz.ntmps106
        go_wp2_with fail
        refine HTX.out.mono ?_
        rintro e w2 ⟨rfl, hw⟩
        rw [hw]
        clear hw
        go_wp2_with fail
        go_ret
        rw [HE.out, List.append_nil]
        exact ⟨rfl, Within.refl _ _, T, H.out⟩
      · skip
        go_enter Tryz.func106, Tryz.ntmps106
        go_wp2_with fail
        refine HTX.out.mono ?_
        rintro e w2 ⟨rfl, hw⟩
        rw [hw]
        clear hw
        go_wp2_with fail
        go_ret
        rw [HE.out, List.append_nil]
        exact ⟨rfl, Within.refl _ _, T, H.out⟩
    rw [if_neg (fun h => by rcases h with ⟨_, h⟩ | ⟨h, _⟩; simp at h; exact h32 h), if_neg h32, if_neg (fun h => by simp at h)] at HE
    have h32' : decide ((b.toNat : Int) < 32) = false := decide_eq_false h32
    have h7' : ((b.toNat : Int) == 7) = false := by rw [beq_eq_false_iff_ne]; omega
    clear h7s
    generalize hq : ((b.toNat : Int) == 127) = q at *
    generalize hq2 : decide (127 < (b.toNat : Int)) = q2 at *
    clear h32
    cases q <;> cases q2
    all_goals
      go_enter Tryz.func106, Tryz.ntmps106
      go_wp2_with fail
      refine HTX.out.mono ?_
      rintro e w2 ⟨rfl, hw⟩
      rw [hw]
      clear hw
      go_wp2_with fail
      refine ret1v rfl rfl rfl ?_
      rw [HE.out, List.append_nil]
      exact ⟨rfl, Within.refl _ _, T, H.out⟩
end Go.Proofs.YtlfdgkiliegaiaaGreatDoor
