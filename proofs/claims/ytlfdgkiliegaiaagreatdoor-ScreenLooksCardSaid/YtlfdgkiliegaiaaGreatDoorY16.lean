/- Package grid, texts laid together: K15 K19 K20. -/
import Derived.Test.YtlfdgkiliegaiaaGreatDoorY15
import Derived.Test.YtlfdgkiliegaiaaGreatDoorShelf
import Derived.Test.YtlfdgkiliegaiaaGreatDoorY13
/- Walks of package screen: private modes, controls, reports. -/
namespace Go.Proofs.YtlfdgkiliegaiaaGreatDoor
open Go.RowKit
set_option maxRecDepth 100000

theorem privateS_any {B : World} {C : Nat → Nat} {p c r : Nat} {w : World} {s : Scr} {ps : PSt} (h : SR B C p w s ps) (hok : s.Ok c r) (k : Int) (on : Bool) :
    Calls Tryz.prog 165 #[.pointer (some ⟨p, 0, none⟩), .int .i64 k, .bool on] w fun e w' => e = .returned (.tuple #[]) ∧ Does B C p w w' (s.private k on) ps := by
  by_cases h1 : k = 1
  · subst h1
    have HE := Lib.hid (show s.private 1 on = s.mode 16 on from rfl)
    have HR := Lib.hid h
    have HOK := Lib.hid hok
    clear h hok
    go_enter Tryz.func165, Tryz.ntmps165
    go_wp2_with fail
    refine (modeS_any HR.out 16 on).mono ?_
    rintro e wc1 ⟨rfl, Cc1, hc1, pc1⟩
    have Hc1 := Lib.hid hc1
    have Pc1 := Lib.hid (pc1)
    clear hc1 pc1
    go_wp2_with fail
    go_end0
    refine ⟨rfl, ?_⟩
    rw [HE.out]
    exact ⟨_, Hc1.out, Pc1.out⟩
  by_cases h6 : k = 6
  · subst h6
    have HE := Lib.hid (show s.private 6 on = (s.mode 4 on).place 0 ((s.mode 4 on).line 0) from rfl)
    have HO1 := Lib.hid (hok.mode 4 ⟨by decide, by decide⟩ on)
    have HR := Lib.hid h
    have HOK := Lib.hid hok
    clear h hok
    go_enter Tryz.func165, Tryz.ntmps165
    go_wp2_with fail
    refine (modeS_any HR.out 4 on).mono ?_
    rintro e wc1 ⟨rfl, Cc1, hc1, pc1⟩
    have Hc1 := Lib.hid hc1
    have Pc1 := Lib.hid (pc1)
    clear hc1 pc1
    go_wp2_with fail
    have HN := Lib.hid (Hc1.out.nums HO1.out)
    refine (lineS_any Hc1.out 0 ⟨by decide, by decide⟩ ⟨HN.out.t0, by have h1 := HN.out.tb; have h2 := HN.out.b1; have h3 := HN.out.r2; omega⟩).mono ?_
    rintro e wl ⟨rfl, m, hwl⟩
    have HBL := Lib.hid (show Below wc1.heap.size wc1 wl from hwl ▸ below_drewN (Below.refl _ _) m)
    have HL := Lib.hid (Hc1.out.below HBL.out)
    have PL := Lib.hid (Pc1.out.below HBL.out)
    clear hwl
    go_wp2_with fail
    refine (placeS_any HL.out 0 ((s.mode 4 on).line 0)).mono ?_
    rintro e wc2 ⟨rfl, Cc2, hc2, pc2⟩
    have Hc2 := Lib.hid hc2
    have Pc2 := Lib.hid (PL.out.trans pc2)
    clear hc2 pc2
    go_wp2_with fail
    go_end0
    refine ⟨rfl, ?_⟩
    rw [HE.out]
    exact ⟨_, Hc2.out, Pc2.out⟩
  by_cases h7 : k = 7
  · subst h7
    have HE := Lib.hid (show s.private 7 on = { s.mode 1 on with now := { s.now with wait := s.now.wait && on } } from rfl)
    have HR := Lib.hid h
    have HOK := Lib.hid hok
    clear h hok
    go_enter Tryz.func165, Tryz.ntmps165
    go_wp2_with fail
    refine (modeS_any HR.out 1 on).mono ?_
    rintro e wc1 ⟨rfl, Cc1, hc1, pc1⟩
    have Hc1 := Lib.hid hc1
    have Pc1 := Lib.hid (pc1)
    clear hc1 pc1
    have c2 : wc1.cell? ⟨p, 2, none⟩ = some (.bool s.now.wait) := Hc1.out.at_ 2 _
    have f2 := Hc1.out.fz 2
    cases hwt : s.now.wait
    · rw [hwt] at c2 HE
      obtain ⟨hs2_0, gs2_0⟩ := (Hc1.out).set 2 (.bool (false && on)) ({ s.mode 1 on with now := { s.now with wait := false && on } })
      have Hc2 := Lib.hid hs2_0
      have Pc2 := Lib.hid (Pc1.out.trans gs2_0)
      clear hs2_0 gs2_0
      go_wp2_with fail
      go_end0
      refine ⟨rfl, ?_⟩
      rw [HE.out]
      exact ⟨_, Hc2.out, Pc2.out⟩
    · rw [hwt] at c2 HE
      obtain ⟨hs2_0, gs2_0⟩ := (Hc1.out).set 2 (.bool (true && on)) ({ s.mode 1 on with now := { s.now with wait := true && on } })
      have Hc2 := Lib.hid hs2_0
      have Pc2 := Lib.hid (Pc1.out.trans gs2_0)
      clear hs2_0 gs2_0
      go_wp2_with fail
      go_end0
      refine ⟨rfl, ?_⟩
      rw [HE.out]
      exact ⟨_, Hc2.out, Pc2.out⟩
  by_cases h25 : k = 25
  · subst h25
    have HE := Lib.hid (show s.private 25 on = s.mode 8 on from rfl)
    have HR := Lib.hid h
    have HOK := Lib.hid hok
    clear h hok
    go_enter Tryz.func165, Tryz.ntmps165
    go_wp2_with fail
    refine (modeS_any HR.out 8 on).mono ?_
    rintro e wc1 ⟨rfl, Cc1, hc1, pc1⟩
    have Hc1 := Lib.hid hc1
    have Pc1 := Lib.hid (pc1)
    clear hc1 pc1
    go_wp2_with fail
    go_end0
    refine ⟨rfl, ?_⟩
    rw [HE.out]
    exact ⟨_, Hc1.out, Pc1.out⟩
  by_cases h47 : k = 47
  · subst h47
    have HE := Lib.hid (show s.private 47 on = s.swap on from rfl)
    have HR := Lib.hid h
    have HOK := Lib.hid hok
    clear h hok
    go_enter Tryz.func165, Tryz.ntmps165
    go_wp2_with fail
    refine (turnS_any HR.out on).mono ?_
    rintro e wc1 ⟨rfl, Cc1, hc1, pc1⟩
    have Hc1 := Lib.hid hc1
    have Pc1 := Lib.hid (pc1)
    clear hc1 pc1
    go_wp2_with fail
    go_end0
    refine ⟨rfl, ?_⟩
    rw [HE.out]
    exact ⟨_, Hc1.out, Pc1.out⟩
  by_cases h1047 : k = 1047
  · subst h1047
    have HE := Lib.hid (show s.private 1047 on = s.swap on from rfl)
    have HR := Lib.hid h
    have HOK := Lib.hid hok
    clear h hok
    go_enter Tryz.func165, Tryz.ntmps165
    go_wp2_with fail
    refine (turnS_any HR.out on).mono ?_
    rintro e wc1 ⟨rfl, Cc1, hc1, pc1⟩
    have Hc1 := Lib.hid hc1
    have Pc1 := Lib.hid (pc1)
    clear hc1 pc1
    go_wp2_with fail
    go_end0
    refine ⟨rfl, ?_⟩
    rw [HE.out]
    exact ⟨_, Hc1.out, Pc1.out⟩
  by_cases h1048 : k = 1048
  · subst h1048
    have HE := Lib.hid (show s.private 1048 on = s.keep on from rfl)
    have HR := Lib.hid h
    have HOK := Lib.hid hok
    clear h hok
    go_enter Tryz.func165, Tryz.ntmps165
    go_wp2_with fail
    refine (keepS_any HR.out on).mono ?_
    rintro e wc1 ⟨rfl, Cc1, hc1, pc1⟩
    have Hc1 := Lib.hid hc1
    have Pc1 := Lib.hid (pc1)
    clear hc1 pc1
    go_wp2_with fail
    go_end0
    refine ⟨rfl, ?_⟩
    rw [HE.out]
    exact ⟨_, Hc1.out, Pc1.out⟩
  by_cases h1049 : k = 1049
  · subst h1049
    have HE := Lib.hid (show s.private 1049 on = if on = true then s.save.swap true else (s.swap false).restore from rfl)
    have HR := Lib.hid h
    clear h hok
    cases on
    · have HE := Lib.hid (show s.private 1049 false = (s.swap false).restore from rfl)
      go_enter Tryz.func165, Tryz.ntmps165
      go_wp2_with fail
      refine (turnS_any HR.out false).mono ?_
      rintro e wc1 ⟨rfl, Cc1, hc1, pc1⟩
      have Hc1 := Lib.hid hc1
      have Pc1 := Lib.hid (pc1)
      clear hc1 pc1
      go_wp2_with fail
      refine (restoreS_any Hc1.out).mono ?_
      rintro e wc2 ⟨rfl, Cc2, hc2, pc2⟩
      have Hc2 := Lib.hid hc2
      have Pc2 := Lib.hid (Pc1.out.trans pc2)
      clear hc2 pc2
      go_wp2_with fail
      go_end0
      refine ⟨rfl, ?_⟩
      rw [HE.out]
      exact ⟨_, Hc2.out, Pc2.out⟩
    · have HE := Lib.hid (show s.private 1049 true = s.save.swap true from rfl)
      go_enter Tryz.func165, Tryz.ntmps165
      go_wp2_with fail
      refine (saveS_any HR.out).mono ?_
      rintro e wc1 ⟨rfl, Cc1, hc1, pc1⟩
      have Hc1 := Lib.hid hc1
      have Pc1 := Lib.hid (pc1)
      clear hc1 pc1
      go_wp2_with fail
      refine (turnS_any Hc1.out true).mono ?_
      rintro e wc2 ⟨rfl, Cc2, hc2, pc2⟩
      have Hc2 := Lib.hid hc2
      have Pc2 := Lib.hid (Pc1.out.trans pc2)
      clear hc2 pc2
      go_wp2_with fail
      go_end0
      refine ⟨rfl, ?_⟩
      rw [HE.out]
      exact ⟨_, Hc2.out, Pc2.out⟩
  by_cases h1000 : k = 1000
  · subst h1000
    have HE := Lib.hid (show s.private 1000 on = s.mode 128 on from rfl)
    have HR := Lib.hid h
    have HOK := Lib.hid hok
    clear h hok
    go_enter Tryz.func165, Tryz.ntmps165
    go_wp2_with fail
    refine (modeS_any HR.out 128 on).mono ?_
    rintro e wc1 ⟨rfl, Cc1, hc1, pc1⟩
    have Hc1 := Lib.hid hc1
    have Pc1 := Lib.hid (pc1)
    clear hc1 pc1
    go_wp2_with fail
    go_end0
    refine ⟨rfl, ?_⟩
    rw [HE.out]
    exact ⟨_, Hc1.out, Pc1.out⟩
  by_cases h2004 : k = 2004
  · subst h2004
    have HE := Lib.hid (show s.private 2004 on = s.mode 64 on from rfl)
    have HR := Lib.hid h
    have HOK := Lib.hid hok
    clear h hok
    go_enter Tryz.func165, Tryz.ntmps165
    go_wp2_with fail
    refine (modeS_any HR.out 64 on).mono ?_
    rintro e wc1 ⟨rfl, Cc1, hc1, pc1⟩
    have Hc1 := Lib.hid hc1
    have Pc1 := Lib.hid (pc1)
    clear hc1 pc1
    go_wp2_with fail
    go_end0
    refine ⟨rfl, ?_⟩
    rw [HE.out]
    exact ⟨_, Hc1.out, Pc1.out⟩
  have HE := Lib.hid (show s.private k on = s by unfold Scr.private; rw [if_neg h1, if_neg h6, if_neg h7, if_neg h25, if_neg (by omega), if_neg h1048, if_neg h1049, if_neg h1000, if_neg h2004])
  have e1 : (k == 1) = false := beq_eq_false_iff_ne.2 h1
  have e6 : (k == 6) = false := beq_eq_false_iff_ne.2 h6
  have e7 : (k == 7) = false := beq_eq_false_iff_ne.2 h7
  have e25 : (k == 25) = false := beq_eq_false_iff_ne.2 h25
  have e47 : (k == 47) = false := beq_eq_false_iff_ne.2 h47
  have e1047 : (k == 1047) = false := beq_eq_false_iff_ne.2 h1047
  have e1048 : (k == 1048) = false := beq_eq_false_iff_ne.2 h1048
  have e1049 : (k == 1049) = false := beq_eq_false_iff_ne.2 h1049
  have e1000 : (k == 1000) = false := beq_eq_false_iff_ne.2 h1000
  have e2004 : (k == 2004) = false := beq_eq_false_iff_ne.2 h2004
  have HR := Lib.hid h
  clear h hok h1 h6 h7 h25 h47 h1047 h1048 h1049 h1000 h2004
  go_enter Tryz.func165, Tryz.ntmps165
  go_wp2_with fail
  go_end0
  refine ⟨rfl, ?_⟩
  rw [HE.out]
  exact .refl HR.out
theorem controlS_any {B : World} {C : Nat → Nat} {p c r : Nat} {w : World} {s : Scr} {ps : PSt} (h : SR B C p w s ps) (hok : s.Ok c r) (b : UInt8) :
    Calls Tryz.prog 109 #[.pointer (some ⟨p, 0, none⟩), .int .u8 (b.toNat : Int)] w fun e w' => e = .returned (.tuple #[]) ∧ Does B C p w w' (s.control b) ps := by
  have hb0 : (0 : Int) ≤ (b.toNat : Int) ∧ (b.toNat : Int) ≤ 255 := by have := b.toNat_lt; omega
  obtain ⟨k, hk⟩ : ∃ k : Int, k = (b.toNat : Int) := ⟨_, rfl⟩
  rw [← hk] at hb0 ⊢
  by_cases h7 : k = 7
  · subst h7
    have HE := Lib.hid (show s.control b = { s with bells := IntKind.i64.wrap (s.bells + 1) } by unfold Scr.control; dsimp only; rw [← hk]; rfl)
    have HOKC := Lib.hid hok.calm
    have HNU := Lib.hid (h.nums hok)
    have c38 : w.cell? ⟨p, 38, none⟩ = some (.int .i64 s.bells) := h.at_ 38 _
    have f38 := h.fz 38
    obtain ⟨bw, hbw⟩ : ∃ bw, IntKind.i64.wrap (s.bells + 1) = bw := ⟨_, rfl⟩
    rw [hbw] at HE
    obtain ⟨h1, g1⟩ := h.set 38 (.int .i64 bw) { s with bells := bw }
    have HD := Lib.hid (show Does B C p w _ _ ps from ⟨_, h1, g1⟩)
    clear h h1 g1 hok hk hb0
    go_enter Tryz.func109, Tryz.ntmps109
    go_wp2_with fail
    go_end0
    refine ⟨rfl, ?_⟩
    rw [HE.out]
    exact HD.out
  by_cases h8 : k = 8
  · subst h8
    have HE := Lib.hid (show s.control b = s.calm.toX (max 0 (s.now.x - 1)) by unfold Scr.control; dsimp only; rw [← hk]; rfl)
    have HOKC := Lib.hid hok.calm
    have HNU := Lib.hid (h.nums hok)
    have c2 : w.cell? ⟨p, 2, none⟩ = some (.bool s.now.wait) := h.at_ 2 _
    have f2 := h.fz 2
    obtain ⟨h1, g1⟩ := h.set 2 (.bool false) s.calm
    have HR := Lib.hid h1
    have P1 := Lib.hid g1
    clear h h1 g1 hok hk hb0
    go_enter Tryz.func109, Tryz.ntmps109
    go_upto_region 6 with fail
    generalize w.setCell ⟨p, 2, none⟩ (.bool false) = w1 at *
    clear c2 f2
    have c0 : w1.cell? ⟨p, 0, none⟩ = some (.int .i64 s.now.x) := HR.out.at_ 0 _
    have f0 := HR.out.fz 0
    have hw : IntKind.i64.wrap (s.now.x - 1) = s.now.x - 1 := by have h1 := HNU.out.x0; have h2 := HNU.out.x1; have h3 := HNU.out.c2; exact wrap64_id _ (by omega) (by omega)
    obtain ⟨h2, g2⟩ := HR.out.set 0 (.int .i64 (max 0 (s.now.x - 1))) (s.calm.toX (max 0 (s.now.x - 1)))
    have HD := Lib.hid (show Does B C p w _ _ ps from ⟨_, h2, P1.out.trans g2⟩)
    clear h2 g2
    go_wp2_with fail
    go_end0
    refine ⟨rfl, ?_⟩
    rw [HE.out]
    exact HD.out
  by_cases h9 : k = 9
  · subst h9
    have HE := Lib.hid (show s.control b = s.calm.tab by unfold Scr.control; dsimp only; rw [← hk]; rfl)
    have HOKC := Lib.hid hok.calm
    have HNU := Lib.hid (h.nums hok)
    have c2 : w.cell? ⟨p, 2, none⟩ = some (.bool s.now.wait) := h.at_ 2 _
    have f2 := h.fz 2
    obtain ⟨h1, g1⟩ := h.set 2 (.bool false) s.calm
    have HR := Lib.hid h1
    have P1 := Lib.hid g1
    clear h h1 g1 hok hk hb0
    go_enter Tryz.func109, Tryz.ntmps109
    go_upto_region 8 with fail
    generalize w.setCell ⟨p, 2, none⟩ (.bool false) = w1 at *
    clear c2 f2
    go_wp2_with fail
    refine (tabS_any HR.out HOKC.out).mono ?_
    rintro e wc1 ⟨rfl, Cc1, hc1, pc1⟩
    have Hc1 := Lib.hid hc1
    have Pc1 := Lib.hid (P1.out.trans pc1)
    clear hc1 pc1
    go_wp2_with fail
    go_end0
    refine ⟨rfl, ?_⟩
    rw [HE.out]
    exact ⟨_, Hc1.out, Pc1.out⟩
  by_cases h10 : k = 10
  · subst h10
    have HE := Lib.hid (show s.control b = if s.calm.index.has 512 = true then s.calm.index.toX 0 else s.calm.index by unfold Scr.control; dsimp only; rw [← hk]; rfl)
    have HOKC := Lib.hid hok.calm
    have HNU := Lib.hid (h.nums hok)
    have c2 : w.cell? ⟨p, 2, none⟩ = some (.bool s.now.wait) := h.at_ 2 _
    have f2 := h.fz 2
    obtain ⟨h1, g1⟩ := h.set 2 (.bool false) s.calm
    have HR := Lib.hid h1
    have P1 := Lib.hid g1
    clear h h1 g1 hok hk hb0
    go_enter Tryz.func109, Tryz.ntmps109
    go_upto_region 12 with fail
    generalize w.setCell ⟨p, 2, none⟩ (.bool false) = w1 at *
    clear c2 f2
    go_wp2_with fail
    refine (indexS_any HR.out HOKC.out).mono ?_
    rintro e wc1 ⟨rfl, Cc1, hc1, pc1⟩
    have Hc1 := Lib.hid hc1
    have Pc1 := Lib.hid (P1.out.trans pc1)
    clear hc1 pc1
    go_wp2_with fail
    refine (hasS_any Hc1.out 512).mono ?_
    rintro e wq ⟨rfl, rfl⟩
    cases hh : s.calm.index.has 512
    · have HE := Lib.hid (show s.control b = s.calm.index by rw [HE.out, hh]; rfl)
      go_wp2_with fail
      go_end0
      refine ⟨rfl, ?_⟩
      rw [HE.out]
      exact ⟨_, Hc1.out, Pc1.out⟩
    · have HE := Lib.hid (show s.control b = s.calm.index.toX 0 by rw [HE.out, hh]; rfl)
      have c0 : wq.cell? ⟨p, 0, none⟩ = some (.int .i64 s.calm.index.now.x) := Hc1.out.at_ 0 _
      have f0 := Hc1.out.fz 0
      obtain ⟨hs2_0, gs2_0⟩ := (Hc1.out).set 0 (.int .i64 0) (s.calm.index.toX 0)
      have Hc2 := Lib.hid hs2_0
      have Pc2 := Lib.hid (Pc1.out.trans gs2_0)
      clear hs2_0 gs2_0
      go_wp2_with fail
      go_end0
      refine ⟨rfl, ?_⟩
      rw [HE.out]
      exact ⟨_, Hc2.out, Pc2.out⟩
  by_cases h11 : k = 11
  · subst h11
    have HE := Lib.hid (show s.control b = if s.calm.index.has 512 = true then s.calm.index.toX 0 else s.calm.index by unfold Scr.control; dsimp only; rw [← hk]; rfl)
    have HOKC := Lib.hid hok.calm
    have HNU := Lib.hid (h.nums hok)
    have c2 : w.cell? ⟨p, 2, none⟩ = some (.bool s.now.wait) := h.at_ 2 _
    have f2 := h.fz 2
    obtain ⟨h1, g1⟩ := h.set 2 (.bool false) s.calm
    have HR := Lib.hid h1
    have P1 := Lib.hid g1
    clear h h1 g1 hok hk hb0
    go_enter Tryz.func109, Tryz.ntmps109
    go_upto_region 12 with fail
    generalize w.setCell ⟨p, 2, none⟩ (.bool false) = w1 at *
    clear c2 f2
    go_wp2_with fail
    refine (indexS_any HR.out HOKC.out).mono ?_
    rintro e wc1 ⟨rfl, Cc1, hc1, pc1⟩
    have Hc1 := Lib.hid hc1
    have Pc1 := Lib.hid (P1.out.trans pc1)
    clear hc1 pc1
    go_wp2_with fail
    refine (hasS_any Hc1.out 512).mono ?_
    rintro e wq ⟨rfl, rfl⟩
    cases hh : s.calm.index.has 512
    · have HE := Lib.hid (show s.control b = s.calm.index by rw [HE.out, hh]; rfl)
      go_wp2_with fail
      go_end0
      refine ⟨rfl, ?_⟩
      rw [HE.out]
      exact ⟨_, Hc1.out, Pc1.out⟩
    · have HE := Lib.hid (show s.control b = s.calm.index.toX 0 by rw [HE.out, hh]; rfl)
      have c0 : wq.cell? ⟨p, 0, none⟩ = some (.int .i64 s.calm.index.now.x) := Hc1.out.at_ 0 _
      have f0 := Hc1.out.fz 0
      obtain ⟨hs2_0, gs2_0⟩ := (Hc1.out).set 0 (.int .i64 0) (s.calm.index.toX 0)
      have Hc2 := Lib.hid hs2_0
      have Pc2 := Lib.hid (Pc1.out.trans gs2_0)
      clear hs2_0 gs2_0
      go_wp2_with fail
      go_end0
      refine ⟨rfl, ?_⟩
      rw [HE.out]
      exact ⟨_, Hc2.out, Pc2.out⟩
  by_cases h12 : k = 12
  · subst h12
    have HE := Lib.hid (show s.control b = if s.calm.index.has 512 = true then s.calm.index.toX 0 else s.calm.index by unfold Scr.control; dsimp only; rw [← hk]; rfl)
    have HOKC := Lib.hid hok.calm
    have HNU := Lib.hid (h.nums hok)
    have c2 : w.cell? ⟨p, 2, none⟩ = some (.bool s.now.wait) := h.at_ 2 _
    have f2 := h.fz 2
    obtain ⟨h1, g1⟩ := h.set 2 (.bool false) s.calm
    have HR := Lib.hid h1
    have P1 := Lib.hid g1
    clear h h1 g1 hok hk hb0
    go_enter Tryz.func109, Tryz.ntmps109
    go_upto_region 12 with fail
    generalize w.setCell ⟨p, 2, none⟩ (.bool false) = w1 at *
    clear c2 f2
    go_wp2_with fail
    refine (indexS_any HR.out HOKC.out).mono ?_
    rintro e wc1 ⟨rfl, Cc1, hc1, pc1⟩
    have Hc1 := Lib.hid hc1
    have Pc1 := Lib.hid (P1.out.trans pc1)
    clear hc1 pc1
    go_wp2_with fail
    refine (hasS_any Hc1.out 512).mono ?_
    rintro e wq ⟨rfl, rfl⟩
    cases hh : s.calm.index.has 512
    · have HE := Lib.hid (show s.control b = s.calm.index by rw [HE.out, hh]; rfl)
      go_wp2_with fail
      go_end0
      refine ⟨rfl, ?_⟩
      rw [HE.out]
      exact ⟨_, Hc1.out, Pc1.out⟩
    · have HE := Lib.hid (show s.control b = s.calm.index.toX 0 by rw [HE.out, hh]; rfl)
      have c0 : wq.cell? ⟨p, 0, none⟩ = some (.int .i64 s.calm.index.now.x) := Hc1.out.at_ 0 _
      have f0 := Hc1.out.fz 0
      obtain ⟨hs2_0, gs2_0⟩ := (Hc1.out).set 0 (.int .i64 0) (s.calm.index.toX 0)
      have Hc2 := Lib.hid hs2_0
      have Pc2 := Lib.hid (Pc1.out.trans gs2_0)
      clear hs2_0 gs2_0
      go_wp2_with fail
      go_end0
      refine ⟨rfl, ?_⟩
      rw [HE.out]
      exact ⟨_, Hc2.out, Pc2.out⟩
  by_cases h13 : k = 13
  · subst h13
    have HE := Lib.hid (show s.control b = s.calm.toX 0 by unfold Scr.control; dsimp only; rw [← hk]; rfl)
    have HOKC := Lib.hid hok.calm
    have HNU := Lib.hid (h.nums hok)
    have c2 : w.cell? ⟨p, 2, none⟩ = some (.bool s.now.wait) := h.at_ 2 _
    have f2 := h.fz 2
    obtain ⟨h1, g1⟩ := h.set 2 (.bool false) s.calm
    have HR := Lib.hid h1
    have P1 := Lib.hid g1
    clear h h1 g1 hok hk hb0
    go_enter Tryz.func109, Tryz.ntmps109
    go_upto_region 16 with fail
    generalize w.setCell ⟨p, 2, none⟩ (.bool false) = w1 at *
    clear c2 f2
    have c0 : w1.cell? ⟨p, 0, none⟩ = some (.int .i64 s.now.x) := HR.out.at_ 0 _
    have f0 := HR.out.fz 0
    obtain ⟨h2, g2⟩ := HR.out.set 0 (.int .i64 0) (s.calm.toX 0)
    have HD := Lib.hid (show Does B C p w _ _ ps from ⟨_, h2, P1.out.trans g2⟩)
    clear h2 g2
    go_wp2_with fail
    go_end0
    refine ⟨rfl, ?_⟩
    rw [HE.out]
    exact HD.out
  by_cases h14 : k = 14
  · subst h14
    have HE := Lib.hid (show s.control b = { s with now := { s.now with second := 1 } } by unfold Scr.control; dsimp only; rw [← hk]; rfl)
    have HOKC := Lib.hid hok.calm
    have HNU := Lib.hid (h.nums hok)
    have c9 : w.cell? ⟨p, 9, none⟩ = some (.int .i64 s.now.second) := h.at_ 9 _
    have f9 := h.fz 9
    obtain ⟨h1, g1⟩ := h.set 9 (.int .i64 1) { s with now := { s.now with second := 1 } }
    have HD := Lib.hid (show Does B C p w _ _ ps from ⟨_, h1, g1⟩)
    clear h h1 g1 hok hk hb0
    go_enter Tryz.func109, Tryz.ntmps109
    go_wp2_with fail
    go_end0
    refine ⟨rfl, ?_⟩
    rw [HE.out]
    exact HD.out
  by_cases h15 : k = 15
  · subst h15
    have HE := Lib.hid (show s.control b = { s with now := { s.now with second := 0 } } by unfold Scr.control; dsimp only; rw [← hk]; rfl)
    have HOKC := Lib.hid hok.calm
    have HNU := Lib.hid (h.nums hok)
    have c9 : w.cell? ⟨p, 9, none⟩ = some (.int .i64 s.now.second) := h.at_ 9 _
    have f9 := h.fz 9
    obtain ⟨h1, g1⟩ := h.set 9 (.int .i64 0) { s with now := { s.now with second := 0 } }
    have HD := Lib.hid (show Does B C p w _ _ ps from ⟨_, h1, g1⟩)
    clear h h1 g1 hok hk hb0
    go_enter Tryz.func109, Tryz.ntmps109
    go_wp2_with fail
    go_end0
    refine ⟨rfl, ?_⟩
    rw [HE.out]
    exact HD.out
  have HE := Lib.hid (show s.control b = s by
    unfold Scr.control
    dsimp only
    rw [← hk, if_neg h7, if_neg h8, if_neg h9, if_neg (show ¬ (k = 10 ∨ k = 11 ∨ k = 12) by omega), if_neg h13, if_neg (show ¬ (k = 14 ∨ k = 15) by omega), if_neg (show ¬ (8 ≤ k ∧ k ≤ 13) by omega)])
  have e7 : (k == 7) = false := beq_eq_false_iff_ne.2 h7
  have e8 : (k == 8) = false := beq_eq_false_iff_ne.2 h8
  have e9 : (k == 9) = false := beq_eq_false_iff_ne.2 h9
  have e10 : (k == 10) = false := beq_eq_false_iff_ne.2 h10
  have e11 : (k == 11) = false := beq_eq_false_iff_ne.2 h11
  have e12 : (k == 12) = false := beq_eq_false_iff_ne.2 h12
  have e13 : (k == 13) = false := beq_eq_false_iff_ne.2 h13
  have e14 : (k == 14) = false := beq_eq_false_iff_ne.2 h14
  have e15 : (k == 15) = false := beq_eq_false_iff_ne.2 h15
  have HR := Lib.hid h
  clear h hok hk
  by_cases hl : 8 ≤ k
  · have d1 : decide (8 ≤ k) = true := decide_eq_true hl
    have d2 : decide (k ≤ 13) = false := decide_eq_false (by omega)
    clear hb0 hl h7 h8 h9 h10 h11 h12 h13 h14 h15
    go_enter Tryz.func109, Tryz.ntmps109
    go_wp2_with fail
    go_end0
    refine ⟨rfl, ?_⟩
    rw [HE.out]
    exact .refl HR.out
  · have d1 : decide (8 ≤ k) = false := decide_eq_false hl
    clear hb0 hl h7 h8 h9 h10 h11 h12 h13 h14 h15
    go_enter Tryz.func109, Tryz.ntmps109
    go_wp2_with fail
    go_end0
    refine ⟨rfl, ?_⟩
    rw [HE.out]
    exact .refl HR.out
end Go.Proofs.YtlfdgkiliegaiaaGreatDoor

/- Walks of package screen: reports, escapes. -/
namespace Go.Proofs.YtlfdgkiliegaiaaGreatDoor
open Go.RowKit
set_option maxRecDepth 100000

theorem itoaS_any (n : Int) (h0 : -9223372036854775808 ≤ n) (h1 : n ≤ 9223372036854775807) (w : World) (ht : Tabs w) :
    Calls Tryz.prog 65 #[.int .i64 n] w fun e w' => ∃ str : ByteArray, e = .returned (.string str) ∧ str.data.toList = Lib.itoa n ∧ str.size ≤ 21 ∧ Below w.heap.size w w' := by
  refine (Tryz.strconv_Itoa n h0 h1 w ht.pw.here).mono ?_
  rintro e w' ⟨rfl, k, os, rfl⟩
  refine ⟨_, rfl, by simp, ?_, Lib.below_grow w.heap.size w (Nat.le_refl _) k os⟩
  show (Lib.itoa n).toArray.size ≤ 21
  rw [List.size_toArray]
  exact Lib.itoa_length_le n h0 h1
theorem cat_le {a b : ByteArray} {n m : Nat} (ha : a.size ≤ n) (hb : b.size ≤ m) : (a ++ b).size ≤ n + m := by rw [ByteArray.size_append]; omega
theorem ba_app (a b : ByteArray) : (a ++ b).data.toList = a.data.toList ++ b.data.toList := by
  rw [ByteArray.data_append, Array.toList_append]
theorem ba_len (a : ByteArray) : a.data.toList.length = a.size := by rw [Array.length_toList]; rfl
theorem SR.tabs' {B : World} {C : Nat → Nat} {p : Nat} {w : World} {s : Scr} {ps : PSt} (h : SR B C p w s ps) : Tabs w := h.tb.below h.bl
set_option maxHeartbeats 1000000 in
theorem reportS_any {B : World} {C : Nat → Nat} {p c r : Nat} {w : World} {s : Scr} {ps : PSt} (h : SR B C p w s ps) (hok : s.Ok c r) (k : Int) (ho : s.out.length ≤ 100000) :
    Calls Tryz.prog 234 #[.pointer (some ⟨p, 0, none⟩), .int .i64 k] w fun e w' => e = .returned (.tuple #[]) ∧ Does B C p w w' (s.report k) ps := by
  have HR := Lib.hid h
  have HN := Lib.hid (h.nums hok)
  have HOL := Lib.hid (show s.out.length ≤ 1000000 by omega)
  clear hok ho
  by_cases h5 : k = 5
  · subst h5
    have HE := Lib.hid (show s.report 5 = s.say [27, 91, 48, 110] from rfl)
    clear h
    go_enter Tryz.func234, Tryz.ntmps234
    go_wp2_with fail
    refine (sayS_any HR.out ⟨#[27, 91, 48, 110]⟩ HOL.out (by decide)).mono ?_
    rintro e wc1 ⟨rfl, Cc1, hc1, pc1⟩
    have Hc1 := Lib.hid hc1
    have Pc1 := Lib.hid (pc1)
    clear hc1 pc1
    go_wp2_with fail
    go_end0
    refine ⟨rfl, ?_⟩
    rw [HE.out]
    exact ⟨_, Hc1.out, Pc1.out⟩
  by_cases h6 : k = 6
  rotate_left
  · have HE := Lib.hid (show s.report k = s by unfold Scr.report; rw [if_neg h5, if_neg h6])
    have e5 : (k == 5) = false := beq_eq_false_iff_ne.2 h5
    have e6 : (k == 6) = false := beq_eq_false_iff_ne.2 h6
    clear h h5 h6
    go_enter Tryz.func234, Tryz.ntmps234
    go_wp2_with fail
    go_end0
    refine ⟨rfl, ?_⟩
    rw [HE.out]
    exact .refl HR.out
  subst h6
  clear h5
  obtain ⟨yv, hyv⟩ : ∃ yv, yv = if s.has 4 then max 0 (s.now.y - s.top) else s.now.y := ⟨_, rfl⟩
  have HE := Lib.hid (show s.report 6 = s.say ([27, 91] ++ Lib.itoa (yv + 1) ++ [59] ++ Lib.itoa (s.now.x + 1) ++ [82]) by rw [hyv]; rfl)
  have hnu := HN.out
  have x0 := hnu.x0
  have x1 := hnu.x1
  have k2 := hnu.c2
  have y0 := hnu.y0
  have y1 := hnu.y1
  have r2 := hnu.r2
  have t0 := hnu.t0
  have tb := hnu.tb
  have b1 := hnu.b1
  have hyb : 0 ≤ yv ∧ yv ≤ 200 := by rw [hyv]; split <;> omega
  have hw0 : IntKind.i64.wrap (s.now.y - s.top) = s.now.y - s.top := wrap64_id _ (by omega) (by omega)
  have hw1 : IntKind.i64.wrap (yv + 1) = yv + 1 := wrap64_id _ (by omega) (by omega)
  have hw2 : IntKind.i64.wrap (s.now.x + 1) = s.now.x + 1 := wrap64_id _ (by omega) (by omega)
  have HXB := Lib.hid (show 0 ≤ s.now.x + 1 ∧ s.now.x + 1 ≤ 1000 by omega)
  have HYB := Lib.hid (show 0 ≤ yv + 1 ∧ yv + 1 ≤ 1000 by omega)
  have c0 : w.cell? ⟨p, 0, none⟩ = some (.int .i64 s.now.x) := h.at_ 0 _
  have c1 : w.cell? ⟨p, 1, none⟩ = some (.int .i64 s.now.y) := h.at_ 1 _
  have c33 : w.cell? ⟨p, 33, none⟩ = some (.int .i64 s.top) := h.at_ 33 _
  clear h x0 x1 k2 y0 y1 r2 t0 tb b1 hyb hnu
  have HH := Lib.hid (hasS_any HR.out 4)
  go_enter Tryz.func234, Tryz.ntmps234
  go_upto_if 18 with (refine HH.out.mono ?_; rintro e w2 ⟨rfl, rfl⟩)
  go_cut [4] (fun v wz => v = .int .i64 yv ∧ wz = w2)
  case first =>
    cases hh : s.has 4
    · have HYE := Lib.hid (show yv = s.now.y by rw [hyv, hh]; rfl)
      go_wp2_with fail
      go_meet
      exact ⟨by rw [HYE.out], rfl⟩
    · have HYE := Lib.hid (show yv = max 0 (s.now.y - s.top) by rw [hyv, hh]; rfl)
      go_wp2_with fail
      go_meet
      exact ⟨by rw [HYE.out], rfl⟩
  case rest =>
  obtain ⟨rfl, hwz⟩ := hcut
  subst hwz
  obtain ⟨w, rfl⟩ : ∃ z, z = wc := ⟨wc, rfl⟩
  clear hyv c1 c33 hw0 HH
  go_upto_region 7 with fail
  refine wpL_begin (c := 15) (S := (fun bb w' => w'.cell? ⟨p, 0, none⟩ = some (.int .i64 s.now.x) ∧ (bb = false → True))) (by kernel_rfl) (⟨c0, fun _ => trivial⟩) (fun _ => ?_)
  refine wpL_tk false 0 (⟨c0, fun _ => trivial⟩) ?_
  refine wpL_tk false 1 (⟨c0, fun _ => trivial⟩) ?_
  refine wpL_tk false 2 (⟨c0, fun _ => trivial⟩) ?_
  refine wpL_tk false 6 (⟨c0, fun _ => trivial⟩) ?_
  refine wpL_tk false 7 (⟨c0, fun _ => trivial⟩) ?_
  refine wpL_tk false 8 (⟨c0, fun _ => trivial⟩) ?_
  refine wpL_tk false 9 (⟨c0, fun _ => trivial⟩) ?_
  refine wpL_tk false 10 (⟨c0, fun _ => trivial⟩) ?_
  refine wpL_tk false 11 (⟨c0, fun _ => trivial⟩) ?_
  refine wpL_on false 3 fun K hK => ?_
  refine wanted_on rfl ?_
  go_wp2_with fail
  refine (itoaS_any (yv + 1) (by have := HYB.out; omega) (by have := HYB.out; omega) w.drew (HR.out.below (Below.refl _ _).drew).tabs').mono ?_
  rintro e w5 ⟨s5, rfl, hs5, hz5, b5⟩
  have HS5 := Lib.hid hs5
  have HB5 := Lib.hid ((Below.refl w.heap.size w).drew.trans b5)
  have z5 := cell_below b5 c0
  refine hK.out _ _ (⟨z5, fun _ => trivial⟩) (fun _ => ?_)
  clear hK K hs5 b5
  try simp only [Act.put, List.setIfInBounds_toArray, List.set_cons_zero, List.set_cons_succ]
  refine wpL_tw false false 4 12 ?_ ?_
  · intro K hK
    refine wanted_on rfl ?_
    go_wp2_with fail
    refine hK.out _ _ (⟨z5, fun _ => trivial⟩) (fun _ => ?_)
    clear hK K 
    try simp only [Act.put, List.setIfInBounds_toArray, List.set_cons_zero, List.set_cons_succ]
    refine wpL_tw false false 5 12 ?_ ?_
    · intro K hK
      refine wanted_on rfl ?_
      go_wp2_with fail
      refine hK.out _ _ (⟨z5, fun _ => trivial⟩) (fun _ => ?_)
      clear hK K 
      try simp only [Act.put, List.setIfInBounds_toArray, List.set_cons_zero, List.set_cons_succ]
      refine wpL_on false 12 fun K hK => ?_
      refine wanted_on rfl ?_
      go_wp2_with fail
      refine (itoaS_any (s.now.x + 1) (by have := HXB.out; omega) (by have := HXB.out; omega) w5 (HR.out.below HB5.out).tabs').mono ?_
      rintro e w6 ⟨s6, rfl, hs6, hz6, b6⟩
      have HS6 := Lib.hid hs6
      have HB6 := Lib.hid (HB5.out.trans (b6.mono HB5.out.size))
      have z6 := cell_below b6 z5
      refine hK.out _ _ (⟨z6, fun _ => trivial⟩) (fun _ => ?_)
      clear hK K hs6 b6
      try simp only [Act.put, List.setIfInBounds_toArray, List.set_cons_zero, List.set_cons_succ]
      refine wpL_on false 13 fun K hK => ?_
      refine wanted_on rfl ?_
      go_wp2_with fail
      refine hK.out _ _ (⟨z6, fun _ => trivial⟩) (fun _ => ?_)
      clear hK K 
      try simp only [Act.put, List.setIfInBounds_toArray, List.set_cons_zero, List.set_cons_succ]
      refine wpL_on false 14 fun K hK => ?_
      refine wanted_on rfl ?_
      go_wp2_with fail
      refine hK.out _ _ (⟨z6, fun _ => trivial⟩) (fun _ => ?_)
      clear hK K 
      try simp only [Act.put, List.setIfInBounds_toArray, List.set_cons_zero, List.set_cons_succ]
      refine wpL_on true 15 fun K hK => ?_
      refine wanted_on rfl ?_
      go_wp2_with fail
      have q4 := cat_le (cat_le (cat_le (cat_le (a := ⟨#[27, 91]⟩) (n := 2) (Nat.le_refl _) hz5) (b := ⟨#[59]⟩) (m := 1) (Nat.le_refl _)) hz6) (b := ⟨#[82]⟩) (m := 1) (Nat.le_refl _)
      refine (sayS_any (HR.out.below HB6.out) _ HOL.out (by rw [ba_len]; omega)).mono ?_
      rintro e w7 ⟨rfl, C7, h7, p7⟩
      have z7 := h7.at_ 0 (.int .i64 s.now.x)
      have H7 := Lib.hid h7
      have P7 := Lib.hid (((Pre.refl C w).below HB6.out).trans p7)
      refine hK.out _ _ (⟨z7, fun e => by cases e⟩) (fun _ => ?_)
      clear hK K h7 p7 q4
      try simp only [Act.put, List.setIfInBounds_toArray, List.set_cons_zero, List.set_cons_succ]
      refine wpL_done (by kernel_rfl) ?_ _
      have HEE := Lib.hid (show s.report 6 = s.say (((((⟨#[27, 91]⟩ : ByteArray) ++ s5) ++ ⟨#[59]⟩) ++ s6) ++ ⟨#[82]⟩).data.toList by
        rw [HE.out, ba_app, ba_app, ba_app, ba_app, HS5.out, HS6.out])
      go_wp2_with fail
      go_end0
      refine ⟨rfl, ?_⟩
      rw [HEE.out]
      exact ⟨_, H7.out, P7.out⟩
    · intro K hK
      refine wanted_on rfl ?_
      go_wp2_with fail
      refine (itoaS_any (s.now.x + 1) (by have := HXB.out; omega) (by have := HXB.out; omega) w5 (HR.out.below HB5.out).tabs').mono ?_
      rintro e w6 ⟨s6, rfl, hs6, hz6, b6⟩
      have HS6 := Lib.hid hs6
      have HB6 := Lib.hid (HB5.out.trans (b6.mono HB5.out.size))
      have z6 := cell_below b6 z5
      refine hK.out _ _ (⟨z6, fun _ => trivial⟩) (fun _ => ?_)
      clear hK K hs6 b6
      try simp only [Act.put, List.setIfInBounds_toArray, List.set_cons_zero, List.set_cons_succ]
      refine wpL_on false 5 fun K hK => ?_
      refine wanted_on rfl ?_
      go_wp2_with fail
      refine hK.out _ _ (⟨z6, fun _ => trivial⟩) (fun _ => ?_)
      clear hK K 
      try simp only [Act.put, List.setIfInBounds_toArray, List.set_cons_zero, List.set_cons_succ]
      refine wpL_on false 13 fun K hK => ?_
      refine wanted_on rfl ?_
      go_wp2_with fail
      refine hK.out _ _ (⟨z6, fun _ => trivial⟩) (fun _ => ?_)
      clear hK K 
      try simp only [Act.put, List.setIfInBounds_toArray, List.set_cons_zero, List.set_cons_succ]
      refine wpL_on false 14 fun K hK => ?_
      refine wanted_on rfl ?_
      go_wp2_with fail
      refine hK.out _ _ (⟨z6, fun _ => trivial⟩) (fun _ => ?_)
      clear hK K 
      try simp only [Act.put, List.setIfInBounds_toArray, List.set_cons_zero, List.set_cons_succ]
      refine wpL_on true 15 fun K hK => ?_
      refine wanted_on rfl ?_
      go_wp2_with fail
      have q4 := cat_le (cat_le (cat_le (cat_le (a := ⟨#[27, 91]⟩) (n := 2) (Nat.le_refl _) hz5) (b := ⟨#[59]⟩) (m := 1) (Nat.le_refl _)) hz6) (b := ⟨#[82]⟩) (m := 1) (Nat.le_refl _)
      refine (sayS_any (HR.out.below HB6.out) _ HOL.out (by rw [ba_len]; omega)).mono ?_
      rintro e w7 ⟨rfl, C7, h7, p7⟩
      have z7 := h7.at_ 0 (.int .i64 s.now.x)
      have H7 := Lib.hid h7
      have P7 := Lib.hid (((Pre.refl C w).below HB6.out).trans p7)
      refine hK.out _ _ (⟨z7, fun e => by cases e⟩) (fun _ => ?_)
      clear hK K h7 p7 q4
      try simp only [Act.put, List.setIfInBounds_toArray, List.set_cons_zero, List.set_cons_succ]
      refine wpL_done (by kernel_rfl) ?_ _
      have HEE := Lib.hid (show s.report 6 = s.say (((((⟨#[27, 91]⟩ : ByteArray) ++ s5) ++ ⟨#[59]⟩) ++ s6) ++ ⟨#[82]⟩).data.toList by
        rw [HE.out, ba_app, ba_app, ba_app, ba_app, HS5.out, HS6.out])
      go_wp2_with fail
      go_end0
      refine ⟨rfl, ?_⟩
      rw [HEE.out]
      exact ⟨_, H7.out, P7.out⟩
  · intro K hK
    refine wanted_on rfl ?_
    go_wp2_with fail
    refine (itoaS_any (s.now.x + 1) (by have := HXB.out; omega) (by have := HXB.out; omega) w5 (HR.out.below HB5.out).tabs').mono ?_
    rintro e w6 ⟨s6, rfl, hs6, hz6, b6⟩
    have HS6 := Lib.hid hs6
    have HB6 := Lib.hid (HB5.out.trans (b6.mono HB5.out.size))
    have z6 := cell_below b6 z5
    refine hK.out _ _ (⟨z6, fun _ => trivial⟩) (fun _ => ?_)
    clear hK K hs6 b6
    try simp only [Act.put, List.setIfInBounds_toArray, List.set_cons_zero, List.set_cons_succ]
    refine wpL_on false 4 fun K hK => ?_
    refine wanted_on rfl ?_
    go_wp2_with fail
    refine hK.out _ _ (⟨z6, fun _ => trivial⟩) (fun _ => ?_)
    clear hK K 
    try simp only [Act.put, List.setIfInBounds_toArray, List.set_cons_zero, List.set_cons_succ]
    refine wpL_on false 5 fun K hK => ?_
    refine wanted_on rfl ?_
    go_wp2_with fail
    refine hK.out _ _ (⟨z6, fun _ => trivial⟩) (fun _ => ?_)
    clear hK K 
    try simp only [Act.put, List.setIfInBounds_toArray, List.set_cons_zero, List.set_cons_succ]
    refine wpL_on false 13 fun K hK => ?_
    refine wanted_on rfl ?_
    go_wp2_with fail
    refine hK.out _ _ (⟨z6, fun _ => trivial⟩) (fun _ => ?_)
    clear hK K 
    try simp only [Act.put, List.setIfInBounds_toArray, List.set_cons_zero, List.set_cons_succ]
    refine wpL_on false 14 fun K hK => ?_
    refine wanted_on rfl ?_
    go_wp2_with fail
    refine hK.out _ _ (⟨z6, fun _ => trivial⟩) (fun _ => ?_)
    clear hK K 
    try simp only [Act.put, List.setIfInBounds_toArray, List.set_cons_zero, List.set_cons_succ]
    refine wpL_on true 15 fun K hK => ?_
    refine wanted_on rfl ?_
    go_wp2_with fail
    have q4 := cat_le (cat_le (cat_le (cat_le (a := ⟨#[27, 91]⟩) (n := 2) (Nat.le_refl _) hz5) (b := ⟨#[59]⟩) (m := 1) (Nat.le_refl _)) hz6) (b := ⟨#[82]⟩) (m := 1) (Nat.le_refl _)
    refine (sayS_any (HR.out.below HB6.out) _ HOL.out (by rw [ba_len]; omega)).mono ?_
    rintro e w7 ⟨rfl, C7, h7, p7⟩
    have z7 := h7.at_ 0 (.int .i64 s.now.x)
    have H7 := Lib.hid h7
    have P7 := Lib.hid (((Pre.refl C w).below HB6.out).trans p7)
    refine hK.out _ _ (⟨z7, fun e => by cases e⟩) (fun _ => ?_)
    clear hK K h7 p7 q4
    try simp only [Act.put, List.setIfInBounds_toArray, List.set_cons_zero, List.set_cons_succ]
    refine wpL_done (by kernel_rfl) ?_ _
    have HEE := Lib.hid (show s.report 6 = s.say (((((⟨#[27, 91]⟩ : ByteArray) ++ s5) ++ ⟨#[59]⟩) ++ s6) ++ ⟨#[82]⟩).data.toList by
      rw [HE.out, ba_app, ba_app, ba_app, ba_app, HS5.out, HS6.out])
    go_wp2_with fail
    go_end0
    refine ⟨rfl, ?_⟩
    rw [HEE.out]
    exact ⟨_, H7.out, P7.out⟩
end Go.Proofs.YtlfdgkiliegaiaaGreatDoor

/- Walks of package screen: escapes. -/
namespace Go.Proofs.YtlfdgkiliegaiaaGreatDoor
open Go.RowKit
set_option maxRecDepth 100000

/-- The parser behind an escape of one byte. -/
def barePar (b : UInt8) (ps : PSt) : PSt := if (b.toNat : Int) = 99 then s0 else ps
theorem tabs_store {B : World} {C : Nat → Nat} {p : Nat} {w : World} {s : Scr} {ps : PSt} (h : SR B C p w s ps) (x : Nat) (hx : x < s.tabs.length) (y : Bool) :
    ∃ b off c, w.cell? ⟨p, 35, none⟩ = some (.slice (some ⟨b, off, none⟩) s.tabs.length c) ∧ (∀ wx, (Instr.indexAt 87 (.slice (some ⟨b, off, none⟩) s.tabs.length c) (.int .i64 x)).run Tryz.prog wx = .ok (.pointer (some ⟨b, off + x, none⟩)) wx) ∧
      w.cell? ⟨b, off + x, none⟩ = some (.bool (s.tabs.getD x false)) ∧ w.frozen? ⟨b, off + x, none⟩ = false ∧ Does B C p w (w.setCell ⟨b, off + x, none⟩ (.bool y)) { s with tabs := s.tabs.set x y } ps := by
  obtain ⟨vt, ct, ot, _, _⟩ := h.tabs
  obtain ⟨b, off, c, hv, hi, ⟨u, hu, hc⟩, hf, hset⟩ := ownC_at Tryz.underlying87 bool_info ot x hx
  subst hv
  rw [bools_at _ _ hx] at hu
  injection hu with hu
  subst hu
  refine ⟨b, off, c, ct, hi, hc, hf, ?_⟩
  refine h.tabsIn ct (x := s.tabs.set x y) (by rw [List.length_set]) (gb_set (gb_refl _ (some b)) _ _) ?_
  rw [List.map_set]
  exact hset (.bool y)
set_option maxHeartbeats 1000000 in
theorem bareS_any {B : World} {C : Nat → Nat} {p c r : Nat} {w : World} {s : Scr} {ps : PSt} (h : SR B C p w s ps) (hok : s.Ok c r) (b : UInt8) (ho : s.out.length ≤ 100000) :
    Calls Tryz.prog 160 #[.pointer (some ⟨p, 0, none⟩), .int .u8 (b.toNat : Int)] w fun e w' => e = .returned (.tuple #[]) ∧ Does B C p w w' (s.bare b) (barePar b ps) := by
  have hb0 : (0 : Int) ≤ (b.toNat : Int) ∧ (b.toNat : Int) ≤ 255 := by have := b.toNat_lt; omega
  have HOL := Lib.hid (show s.out.length ≤ 1000000 by omega)
  clear ho
  obtain ⟨k, hk⟩ : ∃ k : Int, k = (b.toNat : Int) := ⟨_, rfl⟩
  have HN := Lib.hid (h.nums hok)
  have HR := Lib.hid h
  have HOK := Lib.hid hok
  have HPS := Lib.hid (show barePar b ps = if k = 99 then s0 else ps by unfold barePar; rw [hk])
  rw [← hk] at hb0 ⊢
  clear h hok
  by_cases h55 : k = 55
  · subst h55
    have HE := Lib.hid (show s.bare b = s.save ∧ barePar b ps = ps from ⟨by unfold Scr.bare; dsimp only; rw [← hk]; rfl, HPS.out.trans rfl⟩)
    clear hk hb0 HPS
    go_enter Tryz.func160, Tryz.ntmps160
    go_wp2_with fail
    refine (saveS_any HR.out).mono ?_
    rintro e wc1 ⟨rfl, Cc1, hc1, pc1⟩
    have Hc1 := Lib.hid hc1
    have Pc1 := Lib.hid (pc1)
    clear hc1 pc1
    go_wp2_with fail
    go_end0
    refine ⟨rfl, ?_⟩
    rw [HE.out.1, HE.out.2]
    exact ⟨_, Hc1.out, Pc1.out⟩
  by_cases h56 : k = 56
  · subst h56
    have HE := Lib.hid (show s.bare b = s.restore ∧ barePar b ps = ps from ⟨by unfold Scr.bare; dsimp only; rw [← hk]; rfl, HPS.out.trans rfl⟩)
    clear hk hb0 HPS
    go_enter Tryz.func160, Tryz.ntmps160
    go_wp2_with fail
    refine (restoreS_any HR.out).mono ?_
    rintro e wc1 ⟨rfl, Cc1, hc1, pc1⟩
    have Hc1 := Lib.hid hc1
    have Pc1 := Lib.hid (pc1)
    clear hc1 pc1
    go_wp2_with fail
    go_end0
    refine ⟨rfl, ?_⟩
    rw [HE.out.1, HE.out.2]
    exact ⟨_, Hc1.out, Pc1.out⟩
  by_cases h69 : k = 69
  · subst h69
    have HE := Lib.hid (show s.bare b = (s.toX 0).index.calm ∧ barePar b ps = ps from ⟨by unfold Scr.bare; dsimp only; rw [← hk]; rfl, HPS.out.trans rfl⟩)
    clear hk hb0 HPS
    have c0 : w.cell? ⟨p, 0, none⟩ = some (.int .i64 s.now.x) := HR.out.at_ 0 _
    have f0 := HR.out.fz 0
    obtain ⟨hs1_0, gs1_0⟩ := (HR.out).set 0 (.int .i64 0) (s.toX 0)
    have Hc1 := Lib.hid hs1_0
    have Pc1 := Lib.hid (gs1_0)
    clear hs1_0 gs1_0
    have HOK2 := Lib.hid (HOK.out.toX (x := 0) (by decide) (by rw [(HN.out.ok HOK.out).1]; have := HN.out.c1; omega))
    go_enter Tryz.func160, Tryz.ntmps160
    go_wp2_with fail
    refine (indexS_any Hc1.out HOK2.out).mono ?_
    rintro e wc2 ⟨rfl, Cc2, hc2, pc2⟩
    have Hc2 := Lib.hid hc2
    have Pc2 := Lib.hid (Pc1.out.trans pc2)
    clear hc2 pc2
    have c2 : wc2.cell? ⟨p, 2, none⟩ = some (.bool ((s.toX 0).index).now.wait) := Hc2.out.at_ 2 _
    have f2 := Hc2.out.fz 2
    obtain ⟨hs3_0, gs3_0⟩ := (Hc2.out).set 2 (.bool false) (((s.toX 0).index).calm)
    have Hc3 := Lib.hid hs3_0
    have Pc3 := Lib.hid (Pc2.out.trans gs3_0)
    clear hs3_0 gs3_0
    go_wp2_with fail
    go_end0
    refine ⟨rfl, ?_⟩
    rw [HE.out.1, HE.out.2]
    exact ⟨_, Hc3.out, Pc3.out⟩
  by_cases h68 : k = 68
  · subst h68
    have HE := Lib.hid (show s.bare b = s.index.calm ∧ barePar b ps = ps from ⟨by unfold Scr.bare; dsimp only; rw [← hk]; rfl, HPS.out.trans rfl⟩)
    clear hk hb0 HPS
    go_enter Tryz.func160, Tryz.ntmps160
    go_wp2_with fail
    refine (indexS_any HR.out HOK.out).mono ?_
    rintro e wc1 ⟨rfl, Cc1, hc1, pc1⟩
    have Hc1 := Lib.hid hc1
    have Pc1 := Lib.hid (pc1)
    clear hc1 pc1
    have c2 : wc1.cell? ⟨p, 2, none⟩ = some (.bool (s.index).now.wait) := Hc1.out.at_ 2 _
    have f2 := Hc1.out.fz 2
    obtain ⟨hs2_0, gs2_0⟩ := (Hc1.out).set 2 (.bool false) ((s.index).calm)
    have Hc2 := Lib.hid hs2_0
    have Pc2 := Lib.hid (Pc1.out.trans gs2_0)
    clear hs2_0 gs2_0
    go_wp2_with fail
    go_end0
    refine ⟨rfl, ?_⟩
    rw [HE.out.1, HE.out.2]
    exact ⟨_, Hc2.out, Pc2.out⟩
  by_cases h77 : k = 77
  · subst h77
    have HE := Lib.hid (show s.bare b = s.reverse.calm ∧ barePar b ps = ps from ⟨by unfold Scr.bare; dsimp only; rw [← hk]; rfl, HPS.out.trans rfl⟩)
    clear hk hb0 HPS
    go_enter Tryz.func160, Tryz.ntmps160
    go_wp2_with fail
    refine (reverseS_any HR.out HOK.out).mono ?_
    rintro e wc1 ⟨rfl, Cc1, hc1, pc1⟩
    have Hc1 := Lib.hid hc1
    have Pc1 := Lib.hid (pc1)
    clear hc1 pc1
    have c2 : wc1.cell? ⟨p, 2, none⟩ = some (.bool (s.reverse).now.wait) := Hc1.out.at_ 2 _
    have f2 := Hc1.out.fz 2
    obtain ⟨hs2_0, gs2_0⟩ := (Hc1.out).set 2 (.bool false) ((s.reverse).calm)
    have Hc2 := Lib.hid hs2_0
    have Pc2 := Lib.hid (Pc1.out.trans gs2_0)
    clear hs2_0 gs2_0
    go_wp2_with fail
    go_end0
    refine ⟨rfl, ?_⟩
    rw [HE.out.1, HE.out.2]
    exact ⟨_, Hc2.out, Pc2.out⟩
  by_cases h72 : k = 72
  · subst h72
    have HE := Lib.hid (show s.bare b = { s with tabs := s.tabs.set s.now.x.toNat true } ∧ barePar b ps = ps from ⟨by unfold Scr.bare; dsimp only; rw [← hk]; rfl, HPS.out.trans rfl⟩)
    clear hk hb0 HPS
    have hnu := HN.out
    obtain ⟨x, hx⟩ : ∃ x : Nat, s.now.x = x := ⟨s.now.x.toNat, by have := hnu.x0; omega⟩
    obtain ⟨bb, off, cc, ct, hi, hc, hf, hd⟩ := tabs_store (HR.out.below (Below.refl w.heap.size w).drew) x (by have := hnu.x1; have := hnu.tl; omega) true
    have HD := Lib.hid (Does.after ((Pre.refl C w).below (Below.refl w.heap.size w).drew) hd)
    have HXE := Lib.hid (show s.now.x.toNat = x by rw [hx, Int.toNat_natCast])
    have c0 : w.cell? ⟨p, 0, none⟩ = some (.int .i64 x) := by rw [← hx]; exact HR.out.at_ 0 _
    have ct2 : w.cell? ⟨p, 35, none⟩ = some (.slice (some ⟨bb, off, none⟩) s.tabs.length cc) := ct
    have hc2 : w.cell? ⟨bb, off + x, none⟩ = some (.bool (s.tabs.getD x false)) := hc
    have hf2 : w.frozen? ⟨bb, off + x, none⟩ = false := hf
    clear hnu hx hd
    go_enter Tryz.func160, Tryz.ntmps160
    go_upto_region 18 with fail
    go_still_tail 10, (by kernel_rfl)
    change wpList _ _ _ _ _ w.drew
    go_wp2_with fail
    go_end0
    refine ⟨rfl, ?_⟩
    rw [HE.out.1, HE.out.2, HXE.out]
    exact HD.out
  by_cases h99 : k = 99
  · subst h99
    have HE := Lib.hid (show s.bare b = s.reset ∧ barePar b ps = s0 from ⟨by unfold Scr.bare; dsimp only; rw [← hk]; rfl, HPS.out.trans rfl⟩)
    clear hk hb0 HPS
    go_enter Tryz.func160, Tryz.ntmps160
    go_wp2_with fail
    refine (resetS_any HR.out).mono ?_
    rintro e wc1 ⟨rfl, Cc1, hc1, pc1⟩
    have Hc1 := Lib.hid hc1
    have Pc1 := Lib.hid (pc1)
    clear hc1 pc1
    go_wp2_with fail
    go_end0
    refine ⟨rfl, ?_⟩
    rw [HE.out.1, HE.out.2]
    exact ⟨_, Hc1.out, Pc1.out⟩
  by_cases h61 : k = 61
  · subst h61
    have HE := Lib.hid (show s.bare b = s.mode 32 true ∧ barePar b ps = ps from ⟨by unfold Scr.bare; dsimp only; rw [← hk]; rfl, HPS.out.trans rfl⟩)
    clear hk hb0 HPS
    go_enter Tryz.func160, Tryz.ntmps160
    go_wp2_with fail
    refine (modeS_any HR.out 32 true).mono ?_
    rintro e wc1 ⟨rfl, Cc1, hc1, pc1⟩
    have Hc1 := Lib.hid hc1
    have Pc1 := Lib.hid (pc1)
    clear hc1 pc1
    go_wp2_with fail
    go_end0
    refine ⟨rfl, ?_⟩
    rw [HE.out.1, HE.out.2]
    exact ⟨_, Hc1.out, Pc1.out⟩
  by_cases h62 : k = 62
  · subst h62
    have HE := Lib.hid (show s.bare b = s.mode 32 false ∧ barePar b ps = ps from ⟨by unfold Scr.bare; dsimp only; rw [← hk]; rfl, HPS.out.trans rfl⟩)
    clear hk hb0 HPS
    go_enter Tryz.func160, Tryz.ntmps160
    go_wp2_with fail
    refine (modeS_any HR.out 32 false).mono ?_
    rintro e wc1 ⟨rfl, Cc1, hc1, pc1⟩
    have Hc1 := Lib.hid hc1
    have Pc1 := Lib.hid (pc1)
    clear hc1 pc1
    go_wp2_with fail
    go_end0
    refine ⟨rfl, ?_⟩
    rw [HE.out.1, HE.out.2]
    exact ⟨_, Hc1.out, Pc1.out⟩
  by_cases h90 : k = 90
  · subst h90
    have HE := Lib.hid (show s.bare b = s.say da1 ∧ barePar b ps = ps from ⟨by unfold Scr.bare; dsimp only; rw [← hk]; rfl, HPS.out.trans rfl⟩)
    clear hk hb0 HPS
    go_enter Tryz.func160, Tryz.ntmps160
    go_wp2_with fail
    refine (sayS_any HR.out ⟨#[27, 91, 63, 54, 50, 59, 99]⟩ HOL.out (by decide)).mono ?_
    rintro e wc1 ⟨rfl, Cc1, hc1, pc1⟩
    have Hc1 := Lib.hid hc1
    have Pc1 := Lib.hid (pc1)
    clear hc1 pc1
    go_wp2_with fail
    go_end0
    refine ⟨rfl, ?_⟩
    rw [HE.out.1, HE.out.2]
    exact ⟨_, Hc1.out, Pc1.out⟩
  have HE := Lib.hid (show s.bare b = s ∧ barePar b ps = ps from ⟨by
    unfold Scr.bare
    dsimp only
    rw [← hk, if_neg h55, if_neg h56, if_neg h69, if_neg h68, if_neg h77, if_neg h72, if_neg h99, if_neg (show ¬ (k = 61 ∨ k = 62) by omega), if_neg h90], by rw [HPS.out, if_neg h99]⟩)
  have e55 : (k == 55) = false := beq_eq_false_iff_ne.2 h55
  have e56 : (k == 56) = false := beq_eq_false_iff_ne.2 h56
  have e69 : (k == 69) = false := beq_eq_false_iff_ne.2 h69
  have e68 : (k == 68) = false := beq_eq_false_iff_ne.2 h68
  have e77 : (k == 77) = false := beq_eq_false_iff_ne.2 h77
  have e72 : (k == 72) = false := beq_eq_false_iff_ne.2 h72
  have e99 : (k == 99) = false := beq_eq_false_iff_ne.2 h99
  have e61 : (k == 61) = false := beq_eq_false_iff_ne.2 h61
  have e62 : (k == 62) = false := beq_eq_false_iff_ne.2 h62
  have e90 : (k == 90) = false := beq_eq_false_iff_ne.2 h90
  clear hb0 hk HPS h55 h56 h69 h68 h77 h72 h99 h61 h62 h90
  go_enter Tryz.func160, Tryz.ntmps160
  go_wp2_with fail
  go_end0
  refine ⟨rfl, ?_⟩
  rw [HE.out.1, HE.out.2]
  exact .refl HR.out
end Go.Proofs.YtlfdgkiliegaiaaGreatDoor
