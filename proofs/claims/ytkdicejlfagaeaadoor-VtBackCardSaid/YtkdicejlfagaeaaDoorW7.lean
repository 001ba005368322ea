/- Package vtparse: sequence. -/
import Derived.Test.YtkdicejlfagaeaaDoorW6
namespace Go.Proofs.YtkdicejlfagaeaaDoor
open Go.RowKit

def PSt.marked (s : PSt) : Bool := match s.inter with | [] => false | c :: _ => decide (60 ≤ (c.toNat : Int))
def PSt.btw (s : PSt) : Nat := if s.marked then s.inter.length - 1 else s.inter.length
def PSt.cut (s : PSt) : PSt := { s with params := s.params.take 32 }
def PSt.seqd (s : PSt) (b : UInt8) : PSt × List VAct :=
  if 64 ≤ (b.toNat : Int) then (if s.state = 2 then (s.cut.begun 0, [csiAct b (s.params.take 32) s.inter]) else ({ s.cut with state := 6, final := b }, []))
  else if betweenL (b.toNat : Int) = true ∧ s.btw < 2 then ({ s with inter := s.inter ++ [b] }, [])
  else if (b.toNat : Int) < 58 ∧ betweenL (b.toNat : Int) = false ∧ s.btw = 0 then (s.digit ((b.toNat : Int) - 48), [])
  else if (b.toNat : Int) = 59 ∧ s.btw = 0 then (s.digit (-1), [])
  else if 60 ≤ (b.toNat : Int) ∧ s.inter.length = 0 ∧ s.any = false then ({ s with inter := s.inter ++ [b] }, [])
  else (s.passed, [])
theorem ownC_take {P : Program} {t e : TypeId} {w : World} {v : Value} {n : Nat} {xs : List Value} (ht : P.underlying t = some (.slice e)) (hs : (P.info? e).map (·.size) = some 1) (h : OwnC w 0 1 v n xs) (m : Nat) (hm : m ≤ n) :
    ∃ v', (∀ wx, (Instr.slice t v none (some (.int .i64 m)) none).run P wx = .ok v' wx) ∧ OwnC w 0 1 v' m (xs.take m) ∧ v'.ownBlock = v.ownBlock := by
  have hel : P.elem t = e := by simp [Program.elem, ht]
  obtain ⟨h1, h2⟩ := id h
  rcases h2 with ⟨rfl, h0⟩ | ⟨b, off, c, rfl, hb, hbs, hnc, hcm, hcells, hxs⟩
  · have : m = 0 := by omega
    subst this
    refine ⟨.slice none 0 0, fun wx => ?_, ownC_nil _ _ _, rfl⟩
    rw [run_slice_h wx t none 0 0 (elem_of ht) .i64 _ (by omega) (by simp), hel, run_size hs]
    simp [Result.andThen, sliced]
  · refine ⟨.slice (some ⟨b, off, none⟩) m c, fun wx => ?_, ⟨by rw [List.length_take]; omega, .inr ⟨b, off, c, rfl, hb, hbs, by omega, hcm, hcells, fun j u hu => ?_⟩⟩, rfl⟩
    · rw [run_slice_h wx t _ _ c (elem_of ht) .i64 _ (by omega) (by omega), hel, run_size hs]
      simp [Result.andThen, sliced]
      intro _; rfl
    · rw [List.getElem?_take] at hu
      split at hu
      · exact hxs j u hu
      · simp at hu
set_option maxRecDepth 100000 in
set_option maxHeartbeats 4000000 in
theorem sequence_inv {G : Nat → Prop} {T : Nat → Nat} {p o : Nat} {w : World} {s : PSt} {acts : List VAct} (b : UInt8) (h : InvT G true T p o w s acts) (hi3 : s.inter.length ≤ 10) (hn : acts.length ≤ 1000000000) (hb32 : 32 ≤ (b.toNat : Int))
    (hp : s.any = true → s.params ≠ []) (hl : s.params.length ≤ 40) (hr : ∀ x ∈ s.params, -1 ≤ x ∧ x ≤ 9999) :
    Calls Tryd.prog 38 #[.pointer (some ⟨p, 0, none⟩), .int .u8 (b.toNat : Int)] w fun e w' => e = .returned (.tuple #[]) ∧ Within G w w' ∧ InvO G true p o w' (s.seqd b).1 (acts ++ (s.seqd b).2) := by
  have H := Lib.hid h
  have HP := Lib.hid (And.intro hp (And.intro hl hr))
  have HE := Lib.hid (show s.seqd b = if 64 ≤ (b.toNat : Int) then (if s.state = 2 then (s.cut.begun 0, [csiAct b (s.params.take 32) s.inter]) else ({ s.cut with state := 6, final := b }, []))
    else if betweenL (b.toNat : Int) = true ∧ s.btw < 2 then ({ s with inter := s.inter ++ [b] }, [])
    else if (b.toNat : Int) < 58 ∧ betweenL (b.toNat : Int) = false ∧ s.btw = 0 then (s.digit ((b.toNat : Int) - 48), [])
    else if (b.toNat : Int) = 59 ∧ s.btw = 0 then (s.digit (-1), [])
    else if 60 ≤ (b.toNat : Int) ∧ s.inter.length = 0 ∧ s.any = false then ({ s with inter := s.inter ++ [b] }, [])
    else (s.passed, []) from rfl)
  obtain ⟨d, vi, vp, vt, vo, L, hL, hA, hC, hT⟩ := h
  clear hp hl hr
  have c0 : w.cell? ⟨p, 0, none⟩ = some (.int .i64 s.state) := parCell hC 0
  have c2 : w.cell? ⟨p, 2, none⟩ = some (.func (.func 19) #[] #[.pointer (some ⟨o, 0, none⟩)]) := parCell hC 2
  have c3 : w.cell? ⟨p, 3, none⟩ = some vi := parCell hC 3
  have c4 : w.cell? ⟨p, 4, none⟩ = some vp := parCell hC 4
  have c5 : w.cell? ⟨p, 5, none⟩ = some (.bool s.any) := parCell hC 5
  have fz := blk_free hC.blk
  have hil : ∀ (ty : TypeId) (wx : World), (Builtin.len_ #[24] ty #[vi]).run Tryd.prog wx = .ok (.int .i64 s.inter.length) wx := ownC_len Tryd.underlying24 hC.ri.own
  have hpl : ∀ (ty : TypeId) (wx : World), (Builtin.len_ #[28] ty #[vp]).run Tryd.prog wx = .ok (.int .i64 s.params.length) wx := ownC_len Tryd.underlying28 (hC.rp rfl).own
  have HM0 := Lib.hid (fun (h0 : 0 < s.inter.length) => ownC_at Tryd.underlying24 (by kernel_rfl) hC.ri.own 0 h0)
  obtain ⟨vc, hsl, hoc, hbc⟩ := ownC_take Tryd.underlying28 (by kernel_rfl) (hC.rp rfl).own (min s.params.length 32) (Nat.min_le_left _ _)
  replace hsl : ∀ wx, (Instr.slice 28 vp none (some (.int .i64 (min (s.params.length : Int) 32))) none).run Tryd.prog wx = .ok vc wx := by
    intro wx
    rw [← hsl wx]
    congr 4
    omega
  have HOC := Lib.hid hoc
  have HBC := Lib.hid hbc
  clear hoc hbc
  obtain ⟨xi, mi, ci, rfl⟩ := ownC_form hC.ri.own
  obtain ⟨xp, mp, cp', rfl⟩ := ownC_form (hC.rp rfl).own
  obtain ⟨xc, mc, cc', rfl⟩ := ownC_form HOC.out
  have HC := Lib.hid hC
  have HA := Lib.hid hA
  have HT := Lib.hid hT
  have HL := Lib.hid hL
  clear hA hC hT hL
  have HB1 := Lib.hid (blk_alloc HC.out.blk (.cells #[.int .u8 (b.toNat : Int)] 5))
  have HBT := Lib.hid (show s.btw = if s.marked then s.inter.length - 1 else s.inter.length from rfl)
  have HMK := Lib.hid (show s.marked = match s.inter with | [] => false | c :: _ => decide (60 ≤ (c.toNat : Int)) from rfl)
  go_enter Tryd.func38, Tryd.ntmps38
  go_upto_region 1 with fail
  go_cut [20] (fun v wx => v = .bool s.marked ∧ wx = w)
  case first =>
    by_cases h0 : 0 < s.inter.length
    · obtain ⟨b0, off0, c0', hv0, had, ⟨x0, hx0, hx0c⟩, _, _⟩ := HM0.out h0
      have h0' : decide (0 < (s.inter.length : Int)) = true := decide_eq_true (by omega)
      have h0'' : decide (0 < s.inter.length) = true := decide_eq_true h0
      have hin : ∃ c r, s.inter = c :: r := by
        cases hs : s.inter with
        | nil => rw [hs] at h0; simp at h0
        | cons c r => exact ⟨c, r, rfl⟩
      obtain ⟨cc, rr, hin⟩ := hin
      rw [hin] at hx0 HMK
      have hxe : x0 = .int .u8 (cc.toNat : Int) := by simp [byteVals] at hx0; exact hx0.symm
      subst hxe
      replace had : ∀ wx, (Instr.indexAt 24 (.slice xi mi ci) (.int .i64 0)).run Tryd.prog wx = .ok (.pointer (some ⟨b0, off0 + 0, none⟩)) wx := had
      rw [Nat.add_zero] at had hx0c
      clear hin hx0 h0 hv0
      go_wp2_with fail
      go_meet
      rw [HMK.out]
      exact ⟨rfl, rfl⟩
    · have h0' : decide (0 < (s.inter.length : Int)) = false := decide_eq_false (by omega)
      have h0'' : decide (0 < s.inter.length) = false := decide_eq_false h0
      have hin : s.inter = [] := List.eq_nil_of_length_eq_zero (by omega)
      rw [hin] at HMK
      clear hin h0
      go_wp2_with fail
      go_meet
      rw [HMK.out]
      exact ⟨rfl, rfl⟩
  case rest =>
    obtain ⟨rfl, hw⟩ := hcut
    rw [hw]
    clear hw
    clear HMK HM0
    go_upto_if 20 with fail
    go_cut [4] (fun v wx => v = .int .i64 s.btw ∧ wx = w)
    case first =>
      cases hmk : s.marked
      · rw [hmk] at HBT
        go_wp2_with fail
        go_meet
        rw [HBT.out, if_neg (by decide)]
        exact ⟨rfl, rfl⟩
      · have hpos : 1 ≤ s.inter.length := by
          unfold PSt.marked at hmk
          cases hs : s.inter with
          | nil => rw [hs] at hmk; simp at hmk
          | cons c r => simp
        have hsub : ((s.inter.length - 1 : Nat) : Int) = (s.inter.length : Int) - 1 := by omega
        have HSB := Lib.hid hsub
        clear hsub
        rw [hmk] at HBT
        go_wp2_with fail
        go_meet
        refine ⟨?_, rfl⟩
        rw [HBT.out]
        simp only [if_true, HSB.out]
    case rest =>
      obtain ⟨rfl, hw⟩ := hcut
      rw [hw]
      clear hw HBT
      generalize s.btw = bt at *
      by_cases h64 : 64 ≤ (b.toNat : Int)
      · rw [if_pos h64] at HE
        have h64' : decide (64 ≤ (b.toNat : Int)) = true := decide_eq_true h64
        go_upto_region 5 with fail
        go_still_tail 14, (by kernel_rfl)
        change wpList _ _ _ _ _ w.drew
        have hCd : Core true T p d (tellV o) (.slice xi mi ci) (.slice xp mp cp') vt w.drew s := HC.out.mod (mod_drew T w) id id id id id
        have hTd : Told G T o vo w.drew L := HT.out.mod (mod_drew T w) id id id
        have hAd : Arena G T w.drew := HA.out.mono (Nat.le_refl _)
        have fzd := blk_free hCd.blk
        have d4 : w.drew.cell? ⟨p, 4, none⟩ = some (.slice xp mp cp') := parCell hCd 4
        have hRc : Row T 5 1 (.slice xc mc cc') (s.params.take 32).length ((s.params.take 32).map (Value.int .i64)) w.drew := by
          have e1 : (s.params.take 32).length = min s.params.length 32 := by rw [List.length_take, Nat.min_comm]
          have e2 : (s.params.take 32).map (Value.int .i64) = (s.params.map (Value.int .i64)).take (min s.params.length 32) := by
            rw [List.map_take]
            by_cases hle : s.params.length ≤ 32
            · rw [Nat.min_eq_left hle, List.take_of_length_le (by rw [List.length_map]; exact hle), List.take_of_length_le (by rw [List.length_map]; exact Nat.le_refl _)]
            · rw [Nat.min_eq_right (by omega)]
          rw [e1, e2]
          have hr : Row T 5 1 (.slice xc mc cc') (min s.params.length 32) ((s.params.map (Value.int .i64)).take (min s.params.length 32)) w := ⟨HOC.out, fun k hk => (HC.out.rp rfl).tag k (by rw [← HBC.out]; exact hk)⟩
          exact hr.mod (mod_drew T w) id
        have hC5 : Core true T p d (tellV o) (.slice xi mi ci) (.slice xc mc cc') vt (w.drew.setCell ⟨p, 4, none⟩ (.slice xc mc cc')) s.cut := hCd.put (gb_set (gb_refl _ _) _ _) (blk_set hCd.blk 4 _) rfl hCd.ri (fun _ => hRc) hCd.rt
        have m5 : Mod T (fun x => x = 1) w.drew (w.drew.setCell ⟨p, 4, none⟩ (.slice xc mc cc')) := Mod.of_gb (gb_set (gb_refl _ (some p)) _ _) (fun k hk => by injection hk with hk; subst hk; exact hCd.tp)
        have hT5 := hTd.mod m5 (by decide) (by decide) (by decide)
        have hA5 := hAd.mono (w' := w.drew.setCell ⟨p, 4, none⟩ (.slice xc mc cc')) (by simp)
        have hW5 : Within G w (w.drew.setCell ⟨p, 4, none⟩ (.slice xc mc cc')) := (Within.drew G w).trans (m5.within hAd (by decide))
        have HI5 := Lib.hid (show InvT G true T p o (w.drew.setCell ⟨p, 4, none⟩ (.slice xc mc cc')) s.cut acts from ⟨d, .slice xi mi ci, .slice xc mc cc', vt, vo, L, HL.out, hA5, hC5, hT5⟩)
        have HC5 := Lib.hid hC5
        have HT5 := Lib.hid hT5
        have HA5 := Lib.hid hA5
        have HW5 := Lib.hid hW5
        clear hCd hTd hAd hRc hC5 m5 hT5 hA5 hW5
        clear c0 c3 c4 c5 c2 fz
        generalize hwd : w.drew = wd at *
        generalize hw5 : wd.setCell ⟨p, 4, none⟩ (.slice xc mc cc') = w5 at *
        have k0 : w5.cell? ⟨p, 0, none⟩ = some (.int .i64 s.state) := parCell HC5.out 0
        have k2 : w5.cell? ⟨p, 2, none⟩ = some (.func (.func 19) #[] #[.pointer (some ⟨o, 0, none⟩)]) := parCell HC5.out 2
        have k3 : w5.cell? ⟨p, 3, none⟩ = some (.slice xi mi ci) := parCell HC5.out 3
        have k4 : w5.cell? ⟨p, 4, none⟩ = some (.slice xc mc cc') := parCell HC5.out 4
        have k7 : w5.cell? ⟨p, 7, none⟩ = some (.int .u8 (s.final.toNat : Int)) := parCell HC5.out 7
        have kfz := blk_free HC5.out.blk
        by_cases hst : s.state = 2
        · rw [if_pos hst] at HE
          have hst' : (s.state == 2) = true := beq_iff_eq.2 hst
          have hcti : (convert 24 9 (.slice xi mi ci)).run Tryd.prog w5.drew = .ok (.string ⟨s.inter.toArray⟩) w5.drew := run_bytes_reads (P := Tryd.prog) (w := w5.drew) Tryd.underlying24 Tryd.underlying5 Tryd.underlying9 (ownC_reads HC5.out.ri.own)
          have HTl := Lib.hid (tellPar_inv (csiAct b (s.params.take 32) s.inter) rfl (HA5.out.mono (w' := w5.drew) (Nat.le_refl _)) (HC5.out.mod (mod_drew T w5) id id id id id) (HT5.out.mod (mod_drew T w5) id id id) (by rw [← HL.out, List.length_map] at hn; exact hn))
          clear hst
          go_wp2_with fail
          try simp only [hw5]
          go_upto_region 7 with fail
          go_still_tail 15, (by kernel_rfl)
          change wpList _ _ _ _ _ w5.drew
          generalize hw5d : w5.drew = w5d at *
          go_wp2_with fail
          refine HTl.out.mono ?_
          rintro e w6 ⟨rfl, hw6, T6, hi6⟩
          have HW6 := Lib.hid ((HW5.out.trans (hw5d ▸ Within.drew G w5)).trans hw6)
          have HI6 := Lib.hid hi6
          clear hw6 hi6
          go_wp2_with fail
          refine (begin_inv 0 HI6.out).mono ?_
          rintro e w7 ⟨rfl, hw7, hi7⟩
          have HW7 := Lib.hid (HW6.out.trans hw7)
          have HI7 := Lib.hid hi7
          clear hw7 hi7
          go_wp2_with fail
          refine ret0 rfl rfl ?_
          rw [HE.out, ← HL.out]
          exact ⟨rfl, HW7.out, T6, HI7.out⟩
        · rw [if_neg hst] at HE
          have hst' : (s.state == 2) = false := beq_eq_false_iff_ne.2 hst
          have hi6 := HI5.out.set 0 (.int .i64 6) { s.cut with state := 6 } (fun _ _ _ _ _ => rfl) rfl rfl rfl rfl
          have hi7 := hi6.set 7 (.int .u8 (b.toNat : Int)) { s.cut with state := 6, final := b } (fun _ _ _ _ _ => rfl) rfl rfl rfl rfl
          have HW7 := Lib.hid ((HW5.out.trans (within_set HI5.out.inG w5 0 (.int .i64 6))).trans (within_set HI5.out.inG _ 7 (.int .u8 (b.toNat : Int))))
          have HI7 := Lib.hid hi7
          clear hst hi6 hi7
          go_wp2_with fail
          try simp only [hw5]
          go_wp2_with fail
          go_end0
          rw [HE.out, List.append_nil]
          exact ⟨rfl, HW7.out, T, HI7.out⟩
      rw [if_neg h64] at HE
      have h64' : decide (64 ≤ (b.toNat : Int)) = false := decide_eq_false h64
      cases hbt : betweenL (b.toNat : Int)
      · rw [hbt, if_neg (by simp)] at HE
        by_cases h58 : (b.toNat : Int) < 58
        · have h58' : decide ((b.toNat : Int) < 58) = true := decide_eq_true h58
          by_cases hb0 : bt = 0
          · rw [if_pos ⟨h58, rfl, hb0⟩] at HE
            have hb0' : ((bt : Int) == 0) = true := by rw [beq_iff_eq]; omega
            have h48 : 48 ≤ (b.toNat : Int) := by
              unfold betweenL at hbt
              rw [Bool.and_eq_false_iff, decide_eq_false_iff_not, decide_eq_false_iff_not] at hbt
              omega
            clear hb0
            go_wp2_with fail
            refine (between_any (b.toNat : Int) _).mono ?_
            rintro e w2 ⟨rfl, hw⟩
            rw [hw, hbt]
            clear hw
            go_wp2_with fail
            refine (between_any (b.toNat : Int) _).mono ?_
            rintro e w2 ⟨rfl, hw⟩
            rw [hw, hbt]
            clear hw
            go_wp2_with fail
            refine (digit_inv ((b.toNat : Int) - 48) H.out (by omega) (by omega) HP.out.1 HP.out.2.1 HP.out.2.2).mono ?_
            rintro e w2 ⟨rfl, hw2, hi2⟩
            have HW2 := Lib.hid hw2
            have HI2 := Lib.hid hi2
            clear hw2 hi2
            go_wp2_with fail
            go_end0
            rw [HE.out, List.append_nil]
            exact ⟨rfl, HW2.out, HI2.out⟩
          · rw [if_neg (fun h => hb0 h.2.2), if_neg (fun h => hb0 h.2), if_neg (fun h => by omega)] at HE
            have hb0' : ((bt : Int) == 0) = false := by rw [beq_eq_false_iff_ne]; omega
            have h59' : ((b.toNat : Int) == 59) = false := by rw [beq_eq_false_iff_ne]; omega
            have h60' : decide (60 ≤ (b.toNat : Int)) = false := decide_eq_false (by omega)
            clear hb0
            go_wp2_with fail
            refine (between_any (b.toNat : Int) _).mono ?_
            rintro e w2 ⟨rfl, hw⟩
            rw [hw, hbt]
            clear hw
            go_wp2_with fail
            refine (between_any (b.toNat : Int) _).mono ?_
            rintro e w2 ⟨rfl, hw⟩
            rw [hw, hbt]
            clear hw
            go_wp2_with fail
            refine (pass_inv H.out).mono ?_
            rintro e w2 ⟨rfl, hw2, hi2⟩
            have HW2 := Lib.hid hw2
            have HI2 := Lib.hid hi2
            clear hw2 hi2
            go_wp2_with fail
            go_end0
            rw [HE.out, List.append_nil]
            exact ⟨rfl, HW2.out, T, HI2.out⟩
        rw [if_neg (fun h => h58 h.1)] at HE
        have h58' : decide ((b.toNat : Int) < 58) = false := decide_eq_false h58
        by_cases h59 : (b.toNat : Int) = 59
        · have h59' : ((b.toNat : Int) == 59) = true := beq_iff_eq.2 h59
          by_cases hb0 : bt = 0
          · rw [if_pos ⟨h59, hb0⟩] at HE
            have hb0' : ((bt : Int) == 0) = true := by rw [beq_iff_eq]; omega
            clear hb0 h59
            go_wp2_with fail
            refine (between_any (b.toNat : Int) _).mono ?_
            rintro e w2 ⟨rfl, hw⟩
            rw [hw, hbt]
            clear hw
            go_wp2_with fail
            refine (digit_inv (-1) H.out (by omega) (by omega) HP.out.1 HP.out.2.1 HP.out.2.2).mono ?_
            rintro e w2 ⟨rfl, hw2, hi2⟩
            have HW2 := Lib.hid hw2
            have HI2 := Lib.hid hi2
            clear hw2 hi2
            go_wp2_with fail
            go_end0
            rw [HE.out, List.append_nil]
            exact ⟨rfl, HW2.out, HI2.out⟩
          · rw [if_neg (fun h => hb0 h.2), if_neg (fun h => by omega)] at HE
            have hb0' : ((bt : Int) == 0) = false := by rw [beq_eq_false_iff_ne]; omega
            have h60' : decide (60 ≤ (b.toNat : Int)) = false := decide_eq_false (by omega)
            clear hb0 h59
            go_wp2_with fail
            refine (between_any (b.toNat : Int) _).mono ?_
            rintro e w2 ⟨rfl, hw⟩
            rw [hw, hbt]
            clear hw
            go_wp2_with fail
            refine (pass_inv H.out).mono ?_
            rintro e w2 ⟨rfl, hw2, hi2⟩
            have HW2 := Lib.hid hw2
            have HI2 := Lib.hid hi2
            clear hw2 hi2
            go_wp2_with fail
            go_end0
            rw [HE.out, List.append_nil]
            exact ⟨rfl, HW2.out, T, HI2.out⟩
        rw [if_neg (fun h => h59 h.1)] at HE
        have h59' : ((b.toNat : Int) == 59) = false := beq_eq_false_iff_ne.2 h59
        by_cases h60 : 60 ≤ (b.toNat : Int)
        rotate_left
        · rw [if_neg (fun h => h60 h.1)] at HE
          have h60' : decide (60 ≤ (b.toNat : Int)) = false := decide_eq_false h60
          clear h59
          go_wp2_with fail
          refine (between_any (b.toNat : Int) _).mono ?_
          rintro e w2 ⟨rfl, hw⟩
          rw [hw, hbt]
          clear hw
          go_wp2_with fail
          refine (pass_inv H.out).mono ?_
          rintro e w2 ⟨rfl, hw2, hi2⟩
          have HW2 := Lib.hid hw2
          have HI2 := Lib.hid hi2
          clear hw2 hi2
          go_wp2_with fail
          go_end0
          rw [HE.out, List.append_nil]
          exact ⟨rfl, HW2.out, T, HI2.out⟩
        have h60' : decide (60 ≤ (b.toNat : Int)) = true := decide_eq_true h60
        by_cases hi0 : s.inter.length = 0
        rotate_left
        · rw [if_neg (fun h => hi0 h.2.1)] at HE
          have hi0' : ((s.inter.length : Int) == 0) = false := by rw [beq_eq_false_iff_ne]; omega
          clear h59 hi0
          go_wp2_with fail
          refine (between_any (b.toNat : Int) _).mono ?_
          rintro e w2 ⟨rfl, hw⟩
          rw [hw, hbt]
          clear hw
          go_wp2_with fail
          refine (pass_inv H.out).mono ?_
          rintro e w2 ⟨rfl, hw2, hi2⟩
          have HW2 := Lib.hid hw2
          have HI2 := Lib.hid hi2
          clear hw2 hi2
          go_wp2_with fail
          go_end0
          rw [HE.out, List.append_nil]
          exact ⟨rfl, HW2.out, T, HI2.out⟩
        have hi0' : ((s.inter.length : Int) == 0) = true := by rw [beq_iff_eq]; omega
        cases hany : s.any
        rotate_left
        · rw [hany, if_neg (fun h => by simp at h)] at HE
          rw [hany] at c5
          clear h59 hi0
          go_wp2_with fail
          refine (between_any (b.toNat : Int) _).mono ?_
          rintro e w2 ⟨rfl, hw⟩
          rw [hw, hbt]
          clear hw
          go_wp2_with fail
          refine (pass_inv H.out).mono ?_
          rintro e w2 ⟨rfl, hw2, hi2⟩
          have HW2 := Lib.hid hw2
          have HI2 := Lib.hid hi2
          clear hw2 hi2
          go_wp2_with fail
          go_end0
          rw [HE.out, List.append_nil]
          exact ⟨rfl, HW2.out, T, HI2.out⟩
        rw [if_pos ⟨h60, hi0, hany⟩] at HE
        rw [hany] at c5
        clear h59 hi0
        go_wp2_with fail
        refine (between_any (b.toNat : Int) _).mono ?_
        rintro e w2 ⟨rfl, hw⟩
        rw [hw, hbt]
        clear hw
        go_wp2_with (at_builtin; refine held ?_)
        unfold Held
        refine wpList_appD bytes_elem rfl rfl 0 (ownC_alloc HC.out.ri.own _) rfl (reads_one _ _ _) rfl (int_one _ _) (by unfold maxLen; omega) (by omega) (by omega) ?_
        intro v6 w6 o6 g6 n6
        obtain ⟨x6, m6, c6, rfl⟩ := ownC_form o6
        have hb6 := blk_grown HB1.out g6 (fun e => by have h1 := HC.out.ri.tag p e.symm; have h2 := HC.out.tp; omega)
        have cc6 : w6.cell? ⟨p, 3, none⟩ = some (.slice xi mi ci) := blk_cell hb6 3
        have fz6 := blk_free hb6
        have HB6 := Lib.hid hb6
        have ho6 : OwnC w6 0 1 (.slice x6 m6 c6) (s.inter ++ [b]).length (byteVals (s.inter ++ [b])) := by
          rw [List.length_append, byteVals_append]; exact o6
        obtain ⟨T', hw', hr', hrow, hpb, hfin⟩ := grow_inv (t := 4) (.inl rfl) rfl HA.out HC.out HT.out HC.out.ri (World.grownBy_alloc w _ none) g6 ho6 n6
        obtain ⟨hw'', hi''⟩ := hfin (w6.setCell ⟨p, 3, none⟩ (.slice x6 m6 c6)) { s with inter := s.inter ++ [b] } (.slice x6 m6 c6) (.slice xp mp cp') vt (gb_set (gb_refl _ _) _ _) (blk_set HB6.out 3 _) rfl hr' (hrow 5 1 _ _ _ (by decide) (HC.out.rp rfl)) (hrow 6 1 _ _ _ (by decide) HC.out.rt)
        have HW2 := Lib.hid hw''
        have HI2 := Lib.hid hi''
        clear o6 g6 n6 ho6 hw' hr' hrow hpb hfin hw'' hi'' hb6
        go_wp2_with fail
        go_end0
        rw [HE.out, ← HL.out, List.append_nil]
        exact ⟨rfl, HW2.out, T', HI2.out⟩
      · rw [hbt] at HE
        have hlt : (b.toNat : Int) < 48 := by
          unfold betweenL at hbt
          rw [Bool.and_eq_true, decide_eq_true_eq, decide_eq_true_eq] at hbt
          omega
        have h58' : decide ((b.toNat : Int) < 58) = true := decide_eq_true (by omega)
        have h59' : ((b.toNat : Int) == 59) = false := by rw [beq_eq_false_iff_ne]; omega
        have h60' : decide (60 ≤ (b.toNat : Int)) = false := decide_eq_false (by omega)
        by_cases hb2 : bt < 2
        · rw [if_pos ⟨rfl, hb2⟩] at HE
          have hb2' : decide ((bt : Int) < 2) = true := decide_eq_true (by omega)
          have hb2'' : decide (bt < 2) = true := decide_eq_true (by omega)
          clear hb2
          go_wp2_with fail
          refine (between_any (b.toNat : Int) _).mono ?_
          rintro e w2 ⟨rfl, hw⟩
          rw [hw, hbt]
          clear hw
          go_wp2_with (at_builtin; refine held ?_)
          unfold Held
          refine wpList_appD bytes_elem rfl rfl 0 (ownC_alloc HC.out.ri.own _) rfl (reads_one _ _ _) rfl (int_one _ _) (by unfold maxLen; omega) (by omega) (by omega) ?_
          intro v6 w6 o6 g6 n6
          obtain ⟨x6, m6, c6, rfl⟩ := ownC_form o6
          have hb6 := blk_grown HB1.out g6 (fun e => by have h1 := HC.out.ri.tag p e.symm; have h2 := HC.out.tp; omega)
          have cc6 : w6.cell? ⟨p, 3, none⟩ = some (.slice xi mi ci) := blk_cell hb6 3
          have fz6 := blk_free hb6
          have HB6 := Lib.hid hb6
          have ho6 : OwnC w6 0 1 (.slice x6 m6 c6) (s.inter ++ [b]).length (byteVals (s.inter ++ [b])) := by
            rw [List.length_append, byteVals_append]; exact o6
          obtain ⟨T', hw', hr', hrow, hpb, hfin⟩ := grow_inv (t := 4) (.inl rfl) rfl HA.out HC.out HT.out HC.out.ri (World.grownBy_alloc w _ none) g6 ho6 n6
          obtain ⟨hw'', hi''⟩ := hfin (w6.setCell ⟨p, 3, none⟩ (.slice x6 m6 c6)) { s with inter := s.inter ++ [b] } (.slice x6 m6 c6) (.slice xp mp cp') vt (gb_set (gb_refl _ _) _ _) (blk_set HB6.out 3 _) rfl hr' (hrow 5 1 _ _ _ (by decide) (HC.out.rp rfl)) (hrow 6 1 _ _ _ (by decide) HC.out.rt)
          have HW2 := Lib.hid hw''
          have HI2 := Lib.hid hi''
          clear o6 g6 n6 ho6 hw' hr' hrow hpb hfin hw'' hi'' hb6
          go_wp2_with fail
          go_end0
          rw [HE.out, ← HL.out, List.append_nil]
          exact ⟨rfl, HW2.out, T', HI2.out⟩
        · rw [if_neg (fun h => hb2 h.2), if_neg (fun h => by simp at h), if_neg (fun h => by omega), if_neg (fun h => by omega)] at HE
          have hb2' : decide ((bt : Int) < 2) = false := decide_eq_false (by omega)
          have hb2'' : decide (bt < 2) = false := decide_eq_false (by omega)
          clear hb2
          go_wp2_with fail
          refine (between_any (b.toNat : Int) _).mono ?_
          rintro e w2 ⟨rfl, hw⟩
          rw [hw, hbt]
          clear hw
          go_wp2_with fail
          refine (between_any (b.toNat : Int) _).mono ?_
          rintro e w2 ⟨rfl, hw⟩
          rw [hw, hbt]
          clear hw
          go_wp2_with fail
          refine (pass_inv H.out).mono ?_
          rintro e w2 ⟨rfl, hw2, hi2⟩
          have HW2 := Lib.hid hw2
          have HI2 := Lib.hid hi2
          clear hw2 hi2
          go_wp2_with fail
          go_end0
          rw [HE.out, List.append_nil]
          exact ⟨rfl, HW2.out, T, HI2.out⟩
end Go.Proofs.YtkdicejlfagaeaaDoor
