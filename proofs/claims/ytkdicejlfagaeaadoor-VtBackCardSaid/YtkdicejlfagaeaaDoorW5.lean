/- Package vtparse: digit. -/
import Derived.Test.YtkdicejlfagaeaaDoorW4
namespace Go.Proofs.YtkdicejlfagaeaaDoor
open Go.RowKit

def PSt.started (s : PSt) : PSt := if s.any then s else { s with any := true, params := [-1] }
def clamp (x d : Int) : Int := min (10 * max x 0 + d) 9999
def setLast (l : List Int) (d : Int) : List Int := l.set (l.length - 1) (clamp (l.getD (l.length - 1) 0) d)
def PSt.digit (s : PSt) (d : Int) : PSt :=
  if 0 ≤ d then { s.started with params := setLast s.started.params d }
  else if s.started.params.length ≤ 32 then { s.started with params := s.started.params ++ [-1] } else s.started

theorem ownC_len {P : Program} {t e : TypeId} {w : World} {base size : Nat} {v : Value} {n : Nat} {xs : List Value} (ht : P.underlying t = some (.slice e)) (h : OwnC w base size v n xs) (ty : TypeId) (wx : World) : (Builtin.len_ #[t] ty #[v]).run P wx = .ok (.int .i64 n) wx := by
  rcases h.2 with ⟨rfl, rfl⟩ | ⟨b, off, c, rfl, _⟩ <;> simp [Builtin.len_, run_underlying ht, goInt]
theorem ints_elem : Elem Tryd.prog 28 3 1 8 (.int .i64 0) := ⟨Tryd.underlying28, by kernel_rfl, rfl, by decide⟩
theorem ownC_at {P : Program} {t e : TypeId} {w : World} {v : Value} {n : Nat} {xs : List Value} (ht : P.underlying t = some (.slice e)) (hs : (P.info? e).map (·.size) = some 1) (h : OwnC w 0 1 v n xs) (j : Nat) (hj : j < n) :
    ∃ b off c, v = .slice (some ⟨b, off, none⟩) n c ∧ (∀ wx, (Instr.indexAt t v (.int .i64 j)).run P wx = .ok (.pointer (some ⟨b, off + j, none⟩)) wx) ∧ (∃ x, xs[j]? = some x ∧ w.cell? ⟨b, off + j, none⟩ = some x) ∧ w.frozen? ⟨b, off + j, none⟩ = false ∧
      ∀ y, OwnC (w.setCell ⟨b, off + j, none⟩ y) 0 1 v n (xs.set j y) := by
  obtain ⟨h1, h2⟩ := id h
  rcases h2 with ⟨_, h0⟩ | ⟨b, off, c, rfl, hb, hbs, hnc, hcm, hcells, hxs⟩
  · omega
  · obtain ⟨i, hi, hi2⟩ := Option.map_eq_some_iff.1 hs
    have hj' : (0 : Int) ≤ (j : Int) ∧ (j : Int) < (n : Int) := by omega
    have hjx : j < xs.length := by omega
    refine ⟨b, off, c, rfl, fun wx => ?_, ⟨xs[j], by rw [List.getElem?_eq_getElem hjx], hxs j _ (by rw [List.getElem?_eq_getElem hjx])⟩, (hcells j (by omega)).2, fun y => ?_⟩
    · simp [Instr.indexAt, asIntOf, run_underlying ht, hj', sizeOf, typeInfo, hi, hi2, add_eq]
      omega
    · have hcell : ∀ k, k ≠ j → (w.setCell ⟨b, off + j, none⟩ y).cell? ⟨b, off + k, none⟩ = w.cell? ⟨b, off + k, none⟩ := fun k hk => World.cell?_setCell_other w _ _ y (by intro e; injection e with _ e; omega)
      have hsame : (w.setCell ⟨b, off + j, none⟩ y).cell? ⟨b, off + j, none⟩ = some y := World.cell?_setCell_same' w _ y (hcells j (by omega)).1
      refine ⟨by rw [List.length_set]; exact h1, .inr ⟨b, off, c, rfl, hb, by simpa using hbs, hnc, hcm, fun k hk => ⟨?_, ?_⟩, fun k u hu => ?_⟩⟩
      · by_cases e : k = j
        · subst e; rw [hsame]; rfl
        · rw [hcell k e]; exact (hcells k hk).1
      · rw [World.frozen?_setCell]; exact (hcells k hk).2
      · by_cases e : k = j
        · subst e
          rw [hsame]
          rw [List.getElem?_set_self (by omega)] at hu
          exact hu
        · rw [hcell k e]
          rw [List.getElem?_set_ne (fun e' => e e'.symm)] at hu
          exact hxs k u hu

theorem ints_vals_set (l : List Int) (j : Nat) (x : Int) : (l.map (Value.int .i64)).set j (.int .i64 x) = (l.set j x).map (Value.int .i64) := by rw [List.map_set]
theorem digit_inv {G : Nat → Prop} {T : Nat → Nat} {p o : Nat} {w : World} {s : PSt} {acts : List VAct} (dg : Int) (h : InvT G true T p o w s acts) (hd0 : -1 ≤ dg) (hd1 : dg ≤ 9) (hp : s.any = true → s.params ≠ []) (hl : s.params.length ≤ 40) (hr : ∀ x ∈ s.params, -1 ≤ x ∧ x ≤ 9999) :
    Calls Tryd.prog 46 #[.pointer (some ⟨p, 0, none⟩), .int .i64 dg] w fun e w' => e = .returned (.tuple #[]) ∧ Within G w w' ∧ InvO G true p o w' (s.digit dg) acts := by
  have HR := Lib.hid (show (s.started.params ≠ [] ∧ s.started.params.length ≤ 40 ∧ (∀ x ∈ s.started.params, -1 ≤ x ∧ x ≤ 9999)) ∧ s.started.any = true by
    unfold PSt.started
    cases ha : s.any
    · exact ⟨⟨by simp, by simp, by simp⟩, rfl⟩
    · exact ⟨⟨hp ha, hl, hr⟩, ha⟩)
  clear hp hl hr
  have H := Lib.hid h
  have HS := Lib.hid (show s.started = if s.any then s else { s with any := true, params := [-1] } from rfl)
  obtain ⟨d, vi, vp, vt, vo, L, hL, hA, hC, hT⟩ := h
  have c5 : w.cell? ⟨p, 5, none⟩ = some (.bool s.any) := parCell hC 5
  have c4 : w.cell? ⟨p, 4, none⟩ = some vp := parCell hC 4
  have fz := blk_free hC.blk
  have hpl := heap_lt hC.blk
  have hb1 := blk_alloc hC.blk (.cells #[.int .i64 (-1)] 3)
  have a5 : (w.alloc (.cells #[.int .i64 (-1)] 3)).cell? ⟨p, 5, none⟩ = some (.bool s.any) := blk_cell hb1 5
  have a4 : (w.alloc (.cells #[.int .i64 (-1)] 3)).cell? ⟨p, 4, none⟩ = some vp := blk_cell hb1 4
  have afz : ∀ i, (w.alloc (.cells #[.int .i64 (-1)] 3)).frozen? ⟨p, i, none⟩ = false := blk_free hb1
  have HC := Lib.hid hC
  have HA := Lib.hid hA
  have HT := Lib.hid hT
  have HL := Lib.hid hL
  clear hC hA hT hL hb1
  go_enter Tryd.func46, Tryd.ntmps46
  go_upto_if 9 with fail
  go_cut [10] (fun _ wx => Within G w wx ∧ InvO G true p o wx s.started acts)
  case first =>
    cases hany : s.any
    · rw [hany] at HS c5 a5
      go_wp2_with fail
      go_meet
      have hg := gb_set (gb_set (gb_refl (w.alloc (.cells #[.int .i64 (-1)] 3)) (some p)) 5 (.bool true)) 4 (.slice (some ⟨w.heap.size, 0, none⟩) 1 1)
      have hb := blk_set (blk_set (blk_alloc HC.out.blk (.cells #[.int .i64 (-1)] 3)) 5 (.bool true)) 4 (.slice (some ⟨w.heap.size, 0, none⟩) 1 1)
      have ho : OwnC (w.alloc (.cells #[.int .i64 (-1)] 3)) 0 1 (.slice (some ⟨w.heap.size, 0, none⟩) 1 1) 1 [.int .i64 (-1)] := ownC_own (ownsRow_new (base := 0) #[.int .i64 (-1)] [.int .i64 (-1)] rfl (by omega) (by decide) rfl rfl)
      obtain ⟨T', hw', hr', hrow, hpb, hfin⟩ := grow_inv (t := 5) (v := nilS) (n := 0) (xs := []) (w1 := w) (.inr (.inl rfl)) rfl HA.out HC.out HT.out (row_nil _ _ _ _) (gb_refl _ _) (World.grownBy_alloc w (.cells #[.int .i64 (-1)] 3) none) ho (fun k hk => by simp [Value.ownBlock] at hk; exact .inr (by omega))
      obtain ⟨hw'', hi''⟩ := hfin _ { s with any := true, params := [-1] } vi (.slice (some ⟨w.heap.size, 0, none⟩) 1 1) vt hg hb rfl (hrow 4 1 _ _ _ (by decide) HC.out.ri) hr' (hrow 6 1 _ _ _ (by decide) HC.out.rt)
      have hcomm : ((w.alloc (.cells #[.int .i64 (-1)] 3)).setCell ⟨p, 5, none⟩ (.bool true)).setCell ⟨p, 4, none⟩ (.slice (some ⟨w.heap.size, 0, none⟩) 1 1) = ((w.setCell ⟨p, 5, none⟩ (.bool true)).setCell ⟨p, 4, none⟩ (.slice (some ⟨w.heap.size, 0, none⟩) 1 1)).alloc (.cells #[.int .i64 (-1)] 3) := by
        rw [World.setCell_alloc_past _ p 5 _ hpl, World.setCell_alloc_past _ p 4 _ (by simpa using hpl)]
      rw [HS.out, ← HL.out, ← hcomm, if_neg (by decide)]
      exact ⟨hw'', T', hi''⟩
    · rw [hany] at HS c5 a5
      go_wp2_with fail
      go_meet
      rw [HS.out]
      exact ⟨Within.refl _ _, T, H.out⟩
  case rest =>
    obtain ⟨hw, T2, hi⟩ := hcut
    have HW := Lib.hid hw
    have HI := Lib.hid hi
    clear hw c5 c4 fz a5 a4 afz hpl
    have HD := Lib.hid (show s.digit dg = if 0 ≤ dg then { s.started with params := setLast s.started.params dg } else if s.started.params.length ≤ 32 then { s.started with params := s.started.params ++ [-1] } else s.started from rfl)
    generalize hsd : s.digit dg = sd at *
    replace hsd := Lib.hid hsd
    generalize s.started = s1 at *
    clear HS HC HA HT HL H
    obtain ⟨d, vi, vp, vt, vo, L, hL, hA, hC, hT⟩ := hi
    have c4 : wc.cell? ⟨p, 4, none⟩ = some vp := parCell hC 4
    have fz := blk_free hC.blk
    have hrp := hC.rp rfl
    have hlen := rd_len Tryd.underlying28 (isRd_own hrp.own)
    have hne := List.length_pos_iff.2 HR.out.1.1
    have hl40 := HR.out.1.2.1
    have HC := Lib.hid hC
    have HA := Lib.hid hA
    have HT := Lib.hid hT
    have HL := Lib.hid hL
    have HRP := Lib.hid hrp
    clear hC hA hT hL hrp
    obtain ⟨xp, mp, cp', rfl⟩ := ownC_form HRP.out.own
    by_cases hdg : 0 ≤ dg
    · rw [if_pos hdg] at HD
      have hdg' : decide (0 ≤ dg) = true := decide_eq_true hdg
      obtain ⟨b, off, c, hvp, had, ⟨x, hx1, hx2⟩, hfz, hset⟩ := ownC_at Tryd.underlying28 (by kernel_rfl) HRP.out.own (s1.params.length - 1) (by omega)
      have hxe : x = .int .i64 (s1.params.getD (s1.params.length - 1) 0) := by
        rw [List.getElem?_map, getD_of _ _ (by omega)] at hx1
        exact (Option.some.inj hx1).symm
      subst hxe
      have hji : (((s1.params.length - 1 : Nat)) : Int) = (s1.params.length : Int) - 1 := by omega
      rw [hji] at had
      have hxr := HR.out.1.2.2 (s1.params.getD (s1.params.length - 1) 0) (by rw [List.getD_eq_getElem?_getD, List.getElem?_eq_getElem (by omega)]; exact List.getElem_mem _)
      have HSL := Lib.hid (show setLast s1.params dg = s1.params.set (s1.params.length - 1) (clamp (s1.params.getD (s1.params.length - 1) 0) dg) from rfl)
      have HCL := Lib.hid (show clamp (s1.params.getD (s1.params.length - 1) 0) dg = min (10 * max (s1.params.getD (s1.params.length - 1) 0) 0 + dg) 9999 from rfl)
      generalize s1.params.getD (s1.params.length - 1) 0 = x at *
      have HSET := Lib.hid (hset (.int .i64 (clamp x dg)))
      rw [ints_vals_set] at HSET
      have HVP := Lib.hid hvp
      have HJI := Lib.hid hji
      clear hset hx1 hvp hji
      go_upto_region 4 with fail
      go_still_tail 18, (by kernel_rfl)
      change wpList _ _ _ _ _ wc.drew
      have hfz' : wc.drew.frozen? ⟨b, off + (s1.params.length - 1), none⟩ = false := hfz
      have hx2' : wc.drew.cell? ⟨b, off + (s1.params.length - 1), none⟩ = some (.int .i64 x) := hx2
      have HSET2 := Lib.hid (ownC_grown (w := wc.setCell ⟨b, off + (s1.params.length - 1), none⟩ (.int .i64 (clamp x dg))) (w' := wc.drew.setCell ⟨b, off + (s1.params.length - 1), none⟩ (.int .i64 (clamp x dg))) (row := none) HSET.out ⟨rfl, rfl, rfl, Nat.le_refl _, fun _ _ _ => rfl⟩ (by intro k _ e; simp at e))
      have HB := Lib.hid (show (Value.slice xp mp cp').ownBlock = some b by rw [HVP.out]; rfl)
      clear hfz hx2
      generalize hwd : wc.drew = wd at *
      go_wp2_with fail
      go_end0
      have hCd : Core true T2 p d (tellV o) vi (.slice xp mp cp') vt wd s1 := by rw [← hwd]; exact HC.out.mod (mod_drew T2 wc) id id id id id
      have hTd : Told G T2 o vo wd L := by rw [← hwd]; exact HT.out.mod (mod_drew T2 wc) id id id
      have hAd : Arena G T2 wd := by rw [← hwd]; exact HA.out.mono (Nat.le_refl _)
      have hRd := hCd.rp rfl
      have ho := HSET2.out
      have hln : s1.params.length = (s1.params.set (s1.params.length - 1) (clamp x dg)).length := by rw [List.length_set]
      obtain ⟨T', hw', hr', hrow, hpb, hfin⟩ := grow_inv (t := 5) (.inr (.inl rfl)) rfl hAd hCd hTd hRd (gb_refl wd none) (by rw [HB.out]; exact gb_set (gb_refl wd (some b)) (off + (s1.params.length - 1)) (.int .i64 (clamp x dg))) ho (fun k hk => .inl hk)
      have hr'' : Row T' 5 1 (.slice xp mp cp') (s1.params.set (s1.params.length - 1) (clamp x dg)).length ((s1.params.set (s1.params.length - 1) (clamp x dg)).map (Value.int .i64)) (wd.setCell ⟨b, off + (s1.params.length - 1), none⟩ (.int .i64 (clamp x dg))) := by rw [← hln]; exact hr'
      obtain ⟨hw'', hi''⟩ := hfin _ { s1 with params := setLast s1.params dg } vi (.slice xp mp cp') vt (gb_refl _ _) (hpb.trans hCd.blk) rfl (hrow 4 1 _ _ _ (by decide) hCd.ri) (by rw [HSL.out]; exact hr'') (hrow 6 1 _ _ _ (by decide) hCd.rt)
      rw [hsd.out, HD.out, ← HL.out]
      exact ⟨rfl, HW.out.trans ((hwd ▸ Within.drew G wc).trans hw''), T', hi''⟩
    · rw [if_neg hdg] at HD
      have hdg' : decide (0 ≤ dg) = false := decide_eq_false hdg
      by_cases h32 : s1.params.length ≤ 32
      · rw [if_pos h32] at HD
        have h32' : decide ((s1.params.length : Int) - 1 < 32) = true := decide_eq_true (by omega)
        have hb1 := blk_alloc HC.out.blk (.cells #[.int .i64 (-1)] 3)
        have HB1 := Lib.hid hb1
        clear hb1
        go_wp2_with (at_builtin; refine held ?_)
        unfold Held
        refine wpList_appD ints_elem rfl rfl 0 (ownC_alloc HRP.out.own _) rfl (reads_one _ _ _) rfl (int_one _ _) (by unfold maxLen; omega) (by omega) (by omega) ?_
        intro v6 w6 o6 g6 n6
        obtain ⟨x6, m6, c6, rfl⟩ := ownC_form o6
        have hb6 := blk_grown HB1.out g6 (fun e => by have h1 := HRP.out.tag p e.symm; have h2 := HC.out.tp; omega)
        have cc6 : w6.cell? ⟨p, 4, none⟩ = some (.slice xp mp cp') := blk_cell hb6 4
        have fz6 := blk_free hb6
        have HB6 := Lib.hid hb6
        have ho6 : OwnC w6 0 1 (.slice x6 m6 c6) (s1.params ++ [-1]).length ((s1.params ++ [-1]).map (Value.int .i64)) := by
          rw [List.length_append, List.map_append]; exact o6
        obtain ⟨T', hw', hr', hrow, hpb, hfin⟩ := grow_inv (t := 5) (.inr (.inl rfl)) rfl HA.out HC.out HT.out HRP.out (World.grownBy_alloc wc _ none) g6 ho6 n6
        obtain ⟨hw'', hi''⟩ := hfin (w6.setCell ⟨p, 4, none⟩ (.slice x6 m6 c6)) { s1 with params := s1.params ++ [-1] } vi (.slice x6 m6 c6) vt (gb_set (gb_refl _ _) _ _) (blk_set HB6.out 4 _) rfl (hrow 4 1 _ _ _ (by decide) HC.out.ri) hr' (hrow 6 1 _ _ _ (by decide) HC.out.rt)
        have HW2 := Lib.hid (HW.out.trans hw'')
        have HI2 := Lib.hid hi''
        clear o6 g6 n6 ho6 hw' hr' hrow hpb hfin hw'' hi'' hb6
        go_wp2_with fail
        go_end0
        rw [hsd.out, HD.out, ← HL.out]
        exact ⟨rfl, HW2.out, T', HI2.out⟩
      · rw [if_neg h32] at HD
        have h32' : decide ((s1.params.length : Int) - 1 < 32) = false := decide_eq_false (by omega)
        go_wp2_with fail
        go_end0
        rw [hsd.out, HD.out]
        exact ⟨rfl, HW.out, T2, HI.out⟩
end Go.Proofs.YtkdicejlfagaeaaDoor
