/- Package vtparse: anywhere. -/
import Derived.Test.YtkdicejlfagaeaaDoorW8
namespace Go.Proofs.YtkdicejlfagaeaaDoor
open Go.RowKit

def PSt.any1 (s : PSt) (b : UInt8) : Bool × PSt × List VAct :=
  if (b.toNat : Int) = 24 ∨ (b.toNat : Int) = 26 then (true, ({ s with dec := dec0 } : PSt).begun 0, [])
  else if (b.toNat : Int) = 27 then (true, { ({ s with dec := (endD s.dec).1 } : PSt).begun 1 with ended := s.texts }, (endD s.dec).2.map prAct ++ s.endActs)
  else if (b.toNat : Int) = 7 ∧ s.state = 4 then (true, s.begun 0, s.endActs)
  else if ((b.toNat : Int) = 127 ∧ s.texts = false) ∨ ((b.toNat : Int) < 32 ∧ s.texts = true) then (true, s, [])
  else if (b.toNat : Int) < 32 then (true, { s with dec := (endD s.dec).1 }, (endD s.dec).2.map prAct ++ [ctlAct b])
  else if 127 < (b.toNat : Int) ∧ s.texts = false then (false, (if s.state = 0 then s else s.begun 0), [])
  else (false, s, [])
theorem endD_ok (d : Dec) (h : d.ok) : (endD d).1.ok := by
  unfold endD
  split
  · exact h
  · have k1 := h.h1
    have k0 := h.h0
    have km := h.m0
    exact ⟨by simp, by simp only []; omega, h.m0, h.r0, fun e => absurd rfl e, fun e => absurd rfl e, fun e => absurd rfl e, fun e => absurd rfl e⟩
theorem newdec_inv {G : Nat → Prop} {u : Bool} {T : Nat → Nat} {p o d : Nat} {vi vp vt vo : Value} {w : World} {s : PSt} {L : List (VAct × Value)} (hA : Arena G T w) (hC : Core u T p d (tellV o) vi vp vt w s) (hT : Told G T o vo w L) :
    Within G w ((w.setCell ⟨p, 1, none⟩ (.pointer (some ⟨w.heap.size, 0, none⟩))).alloc (.cells dec0.cells 60)) ∧
      InvT G u (adopt T w.heap.size (w.heap.size + 1) 2) p o ((w.setCell ⟨p, 1, none⟩ (.pointer (some ⟨w.heap.size, 0, none⟩))).alloc (.cells dec0.cells 60)) { s with dec := dec0 } (L.map (·.1)) := by
  have hsz : ((w.setCell ⟨p, 1, none⟩ (.pointer (some ⟨w.heap.size, 0, none⟩))).alloc (.cells dec0.cells 60)).heap.size = w.heap.size + 1 := by simp
  have g := gb_alloc (gb_set (gb_refl w (some p)) 1 (.pointer (some ⟨w.heap.size, 0, none⟩))) (.cells dec0.cells 60)
  have m : Mod T (fun x => x = 1) w _ := Mod.of_gb g (fun k hk => by injection hk with hk; subst hk; exact hC.tp)
  have ad : ∀ k, k < w.heap.size → adopt T w.heap.size (w.heap.size + 1) 2 k = T k := fun k hk => adopt_old hk
  have hA' := hA.adopt m.size 2
  rw [hsz] at hA'
  have hb := blk_alloc (blk_set hC.blk 1 (.pointer (some ⟨w.heap.size, 0, none⟩))) (.cells dec0.cells 60)
  have hd : DecAt ((w.setCell ⟨p, 1, none⟩ (.pointer (some ⟨w.heap.size, 0, none⟩))).alloc (.cells dec0.cells 60)) w.heap.size dec0 := by
    have := heap_alloc_new (w.setCell ⟨p, 1, none⟩ (.pointer (some ⟨w.heap.size, 0, none⟩))) (.cells dec0.cells 60)
    rw [show (w.setCell ⟨p, 1, none⟩ (.pointer (some ⟨w.heap.size, 0, none⟩))).heap.size = w.heap.size by simp] at this
    exact this
  refine ⟨m.within hA (by decide), w.heap.size, vi, vp, vt, vo, L, rfl, hA', ⟨hb, hd, dec0_ok, ?_, fun hu => ?_, ?_, ?_, ?_⟩, (hT.retag ad).mod (m.retag ad) (by decide) (by decide) (by decide)⟩
  · exact (hC.ri.retag fun k hk ht => (ad k hk).trans ht).mod (m.retag ad) (by decide)
  · exact ((hC.rp hu).retag fun k hk ht => (ad k hk).trans ht).mod (m.retag ad) (by decide)
  · exact (hC.rt.retag fun k hk ht => (ad k hk).trans ht).mod (m.retag ad) (by decide)
  · exact (ad p (heap_lt hC.blk)).trans hC.tp
  · exact adopt_new (Nat.le_refl _) (by omega)
theorem invBlk {G : Nat → Prop} {u : Bool} {T : Nat → Nat} {p o : Nat} {w : World} {s : PSt} {acts : List VAct} (h : InvT G u T p o w s acts) : w.cell? ⟨p, 8, none⟩ = some (.bool s.ended) ∧ ∀ i, w.frozen? ⟨p, i, none⟩ = false := by
  obtain ⟨d, vi, vp, vt, vo, L, hL, hA, hC, hT⟩ := h
  exact ⟨parCell hC 8, blk_free hC.blk⟩
set_option maxRecDepth 100000 in
set_option maxHeartbeats 4000000 in
theorem anywhere_inv {G : Nat → Prop} {T : Nat → Nat} {p o : Nat} {w : World} {s : PSt} {acts : List VAct} (b : UInt8) (h : InvT G true T p o w s acts) (hn : acts.length + 10 ≤ 1000000000) :
    Calls Tryd.prog 20 #[.pointer (some ⟨p, 0, none⟩), .int .u8 (b.toNat : Int)] w fun e w' => e = .returned (.bool (s.any1 b).1) ∧ Within G w w' ∧ InvO G true p o w' (s.any1 b).2.1 (acts ++ (s.any1 b).2.2) := by
  have H := Lib.hid h
  have HE := Lib.hid (show s.any1 b = if (b.toNat : Int) = 24 ∨ (b.toNat : Int) = 26 then (true, ({ s with dec := dec0 } : PSt).begun 0, [])
    else if (b.toNat : Int) = 27 then (true, { ({ s with dec := (endD s.dec).1 } : PSt).begun 1 with ended := s.texts }, (endD s.dec).2.map prAct ++ s.endActs)
    else if (b.toNat : Int) = 7 ∧ s.state = 4 then (true, s.begun 0, s.endActs)
    else if ((b.toNat : Int) = 127 ∧ s.texts = false) ∨ ((b.toNat : Int) < 32 ∧ s.texts = true) then (true, s, [])
    else if (b.toNat : Int) < 32 then (true, { s with dec := (endD s.dec).1 }, (endD s.dec).2.map prAct ++ [ctlAct b])
    else if 127 < (b.toNat : Int) ∧ s.texts = false then (false, (if s.state = 0 then s else s.begun 0), [])
    else (false, s, []) from rfl)
  obtain ⟨d, vi, vp, vt, vo, L, hL, hA, hC, hT⟩ := h
  have c0 : w.cell? ⟨p, 0, none⟩ = some (.int .i64 s.state) := parCell hC 0
  have c1 : w.cell? ⟨p, 1, none⟩ = some (.pointer (some ⟨d, 0, none⟩)) := parCell hC 1
  have fz := blk_free hC.blk
  have hpl := heap_lt hC.blk
  have hb1 := blk_alloc hC.blk (.cells dec0.cells 60)
  have a1 : (w.alloc (.cells dec0.cells 60)).cell? ⟨p, 1, none⟩ = some (.pointer (some ⟨d, 0, none⟩)) := blk_cell hb1 1
  have afz : ∀ i, (w.alloc (.cells dec0.cells 60)).frozen? ⟨p, i, none⟩ = false := blk_free hb1
  have HTX := Lib.hid (texts_any p d s (tellV o) vi vp vt w hC.blk)
  have HND := Lib.hid (newdec_inv hA hC hT)
  rw [hL] at HND
  have HL := Lib.hid hL
  have hac : acts.length = L.length := by rw [← hL, List.length_map]
  have HED := Lib.hid (end_any d s.dec w hC.dec)
  have HOK := Lib.hid (endD_ok s.dec hC.dok)
  have hel := endD_len s.dec
  generalize adopt T w.heap.size (w.heap.size + 1) 2 = TN at *
  generalize endD s.dec = D at *
  obtain ⟨D, l⟩ := D
  dsimp only at HE HED HOK hel
  have HC := Lib.hid hC
  have HA := Lib.hid hA
  have HT := Lib.hid hT
  clear hA hC hT hL hb1
  by_cases hc : (b.toNat : Int) = 24 ∨ (b.toNat : Int) = 26
  · rw [if_pos hc] at HE
    rcases hc with hc | hc
    · have hc' : ((b.toNat : Int) == 24) = true := beq_iff_eq.2 hc
      clear hc
      go_enter Tryd.func20, Tryd.ntmps20
      go_wp2_with fail
      refine HTX.out.mono ?_
      rintro e w2 ⟨rfl, hw⟩
      rw [hw]
      clear hw
      go_wp2_with fail
      refine (newDec_any _).mono ?_
      rintro e w2 ⟨rfl, rfl⟩
      go_wp2_with fail
      refine (begin_inv 0 HND.out.2).mono ?_
      rintro e w3 ⟨rfl, hw3, hi3⟩
      have HW3 := Lib.hid (HND.out.1.trans hw3)
      have HI3 := Lib.hid hi3
      clear hw3 hi3
      go_wp2_with fail
      go_ret
      rw [HE.out, List.append_nil]
      exact ⟨rfl, HW3.out, TN, HI3.out⟩
    · have hc0 : ((b.toNat : Int) == 24) = false := by rw [beq_eq_false_iff_ne]; omega
      have hc' : ((b.toNat : Int) == 26) = true := beq_iff_eq.2 hc
      clear hc
      go_enter Tryd.func20, Tryd.ntmps20
      go_wp2_with fail
      refine HTX.out.mono ?_
      rintro e w2 ⟨rfl, hw⟩
      rw [hw]
      clear hw
      go_wp2_with fail
      refine (newDec_any _).mono ?_
      rintro e w2 ⟨rfl, rfl⟩
      go_wp2_with fail
      refine (begin_inv 0 HND.out.2).mono ?_
      rintro e w3 ⟨rfl, hw3, hi3⟩
      have HW3 := Lib.hid (HND.out.1.trans hw3)
      have HI3 := Lib.hid hi3
      clear hw3 hi3
      go_wp2_with fail
      go_ret
      rw [HE.out, List.append_nil]
      exact ⟨rfl, HW3.out, TN, HI3.out⟩
  clear a1 afz HND
  rw [if_neg hc] at HE
  have hc0 : ((b.toNat : Int) == 24) = false := by rw [beq_eq_false_iff_ne]; omega
  have hc1 : ((b.toNat : Int) == 26) = false := by rw [beq_eq_false_iff_ne]; omega
  by_cases h27 : (b.toNat : Int) = 27
  · rw [if_pos h27] at HE
    have h27' : ((b.toNat : Int) == 27) = true := beq_iff_eq.2 h27
    clear hc h27
    go_enter Tryd.func20, Tryd.ntmps20
    go_wp2_with fail
    refine HTX.out.mono ?_
    rintro e w2 ⟨rfl, hw⟩
    rw [hw]
    clear hw
    go_wp2_with fail
    refine HED.out.mono ?_
    rintro e w2 ⟨v, rfl, o2, g2, d2⟩
    obtain ⟨hw2, hi2, hr2⟩ := dec_inv HA.out HC.out HT.out g2 d2 HOK.out o2
    have HW2 := Lib.hid hw2
    have HI2 := Lib.hid hi2
    have HR2 := Lib.hid hr2
    clear o2 g2 d2 hw2 hi2 hr2
    go_wp2_with fail
    refine (parRunes_inv v l HI2.out HR2.out (by rw [List.length_map]; omega)).mono ?_
    rintro e w3 ⟨rfl, hw3, T3, hi3⟩
    have HW3 := Lib.hid (HW2.out.trans hw3)
    have HI3 := Lib.hid hi3
    clear hw3 hi3
    go_wp2_with fail
    refine (ends_inv HI3.out (by rw [List.length_append, List.length_map, List.length_map]; omega)).mono ?_
    rintro e w4 ⟨rfl, hw4, T4, hi4⟩
    have HW4 := Lib.hid (HW3.out.trans hw4)
    have HI4 := Lib.hid hi4
    clear hw4 hi4
    go_wp2_with fail
    refine (begin_inv 1 HI4.out).mono ?_
    rintro e w5 ⟨rfl, hw5, hi5⟩
    have HW5 := Lib.hid (HW4.out.trans hw5)
    have HI5 := Lib.hid hi5
    have k8 := invBlk hi5
    clear hw5 hi5
    obtain ⟨k8, kfz⟩ := k8
    have HI6 := Lib.hid (HI5.out.set 8 (.bool s.texts) { ({ s with dec := D } : PSt).begun 1 with ended := s.texts } (fun _ _ _ _ _ => rfl) rfl rfl rfl rfl)
    have HW6 := Lib.hid (HW5.out.trans (within_set HI5.out.inG w5 8 (.bool s.texts)))
    go_wp2_with fail
    go_ret
    rw [HE.out]
    refine ⟨rfl, HW6.out, T4, ?_⟩
    have := HI6.out
    rw [HL.out, List.append_assoc] at this
    exact this
  rw [if_neg h27] at HE
  have h27' : ((b.toNat : Int) == 27) = false := beq_eq_false_iff_ne.2 h27
  clear hc h27
  by_cases h7 : (b.toNat : Int) = 7 ∧ s.state = 4
  · rw [if_pos h7] at HE
    have h7' : ((b.toNat : Int) == 7) = true := beq_iff_eq.2 h7.1
    have h4' : (s.state == 4) = true := beq_iff_eq.2 h7.2
    clear h7
    go_enter Tryd.func20, Tryd.ntmps20
    go_wp2_with fail
    refine HTX.out.mono ?_
    rintro e w2 ⟨rfl, hw⟩
    rw [hw]
    clear hw
    go_wp2_with fail
    refine (ends_inv H.out (by omega)).mono ?_
    rintro e w4 ⟨rfl, hw4, T4, hi4⟩
    have HW4 := Lib.hid hw4
    have HI4 := Lib.hid hi4
    clear hw4 hi4
    go_wp2_with fail
    refine (begin_inv 0 HI4.out).mono ?_
    rintro e w5 ⟨rfl, hw5, hi5⟩
    have HW5 := Lib.hid (HW4.out.trans hw5)
    have HI5 := Lib.hid hi5
    clear hw5 hi5
    go_wp2_with fail
    go_ret
    rw [HE.out]
    exact ⟨rfl, HW5.out, T4, HI5.out⟩
  rw [if_neg h7] at HE
  have h7s : ((b.toNat : Int) == 7) = false ∨ (((b.toNat : Int) == 7) = true ∧ (s.state == 4) = false) := by
    by_cases h : (b.toNat : Int) = 7
    · exact .inr ⟨beq_iff_eq.2 h, beq_eq_false_iff_ne.2 (fun h' => h7 ⟨h, h'⟩)⟩
    · exact .inl (beq_eq_false_iff_ne.2 h)
  clear h7
  cases htx : s.texts
  · rw [htx] at HE HTX
    by_cases h127 : (b.toNat : Int) = 127
    · rw [if_pos (.inl ⟨h127, rfl⟩)] at HE
      have h127' : ((b.toNat : Int) == 127) = true := beq_iff_eq.2 h127
      have h7' : ((b.toNat : Int) == 7) = false := by rw [beq_eq_false_iff_ne]; omega
      clear h127 h7s
      go_enter Tryd.func20, Tryd.ntmps20
      go_wp2_with fail
      refine HTX.out.mono ?_
      rintro e w2 ⟨rfl, hw⟩
      rw [hw]
      clear hw
      go_wp2_with fail
      go_ret
      rw [HE.out, List.append_nil]
      exact ⟨rfl, Within.refl _ _, T, H.out⟩
    have h127' : ((b.toNat : Int) == 127) = false := beq_eq_false_iff_ne.2 h127
    rw [if_neg (fun h => by rcases h with ⟨h, _⟩ | ⟨_, h⟩; exact h127 h; simp at h)] at HE
    by_cases h32 : (b.toNat : Int) < 32
    · rw [if_pos h32] at HE
      have h32' : decide ((b.toNat : Int) < 32) = true := decide_eq_true h32
      clear h127 h32
      rcases h7s with h7' | ⟨h7', h4'⟩
      · skip
        go_enter Tryd.func20, Tryd.ntmps20
        go_wp2_with fail
        refine HTX.out.mono ?_
        rintro e w2 ⟨rfl, hw⟩
        rw [hw]
        clear hw
        go_wp2_with fail
        refine HED.out.mono ?_
        rintro e w2 ⟨v, rfl, o2, g2, d2⟩
        obtain ⟨hw2, hi2, hr2⟩ := dec_inv HA.out HC.out HT.out g2 d2 HOK.out o2
        have HW2 := Lib.hid hw2
        have HI2 := Lib.hid hi2
        have HR2 := Lib.hid hr2
        clear o2 g2 d2 hw2 hi2 hr2
        go_wp2_with fail
        refine (parRunes_inv v l HI2.out HR2.out (by rw [List.length_map]; omega)).mono ?_
        rintro e w3 ⟨rfl, hw3, T3, hi3⟩
        have HW3 := Lib.hid (HW2.out.trans hw3)
        have HI3 := Lib.hid hi3
        clear hw3 hi3
        have k2 := invCell HI3.out
        go_wp2_with fail
        refine (tell_inv (ctlAct b) rfl HI3.out (by rw [List.length_append, List.length_map, List.length_map]; omega)).mono ?_
        rintro e w4 ⟨rfl, hw4, m4, T4, ht4, hi4⟩
        have HW4 := Lib.hid (HW3.out.trans hw4)
        have HI4 := Lib.hid hi4
        clear hw4 hi4 m4 ht4
        go_wp2_with fail
        go_ret
        rw [HE.out]
        refine ⟨rfl, HW4.out, T4, ?_⟩
        have := HI4.out
        rw [HL.out, List.append_assoc] at this
        exact this
      · skip
        go_enter Tryd.func20, Tryd.ntmps20
        go_wp2_with fail
        refine HTX.out.mono ?_
        rintro e w2 ⟨rfl, hw⟩
        rw [hw]
        clear hw
        go_wp2_with fail
        refine HED.out.mono ?_
        rintro e w2 ⟨v, rfl, o2, g2, d2⟩
        obtain ⟨hw2, hi2, hr2⟩ := dec_inv HA.out HC.out HT.out g2 d2 HOK.out o2
        have HW2 := Lib.hid hw2
        have HI2 := Lib.hid hi2
        have HR2 := Lib.hid hr2
        clear o2 g2 d2 hw2 hi2 hr2
        go_wp2_with fail
        refine (parRunes_inv v l HI2.out HR2.out (by rw [List.length_map]; omega)).mono ?_
        rintro e w3 ⟨rfl, hw3, T3, hi3⟩
        have HW3 := Lib.hid (HW2.out.trans hw3)
        have HI3 := Lib.hid hi3
        clear hw3 hi3
        have k2 := invCell HI3.out
        go_wp2_with fail
        refine (tell_inv (ctlAct b) rfl HI3.out (by rw [List.length_append, List.length_map, List.length_map]; omega)).mono ?_
        rintro e w4 ⟨rfl, hw4, m4, T4, ht4, hi4⟩
        have HW4 := Lib.hid (HW3.out.trans hw4)
        have HI4 := Lib.hid hi4
        clear hw4 hi4 m4 ht4
        go_wp2_with fail
        go_ret
        rw [HE.out]
        refine ⟨rfl, HW4.out, T4, ?_⟩
        have := HI4.out
        rw [HL.out, List.append_assoc] at this
        exact this
    rw [if_neg h32] at HE
    have h32' : decide ((b.toNat : Int) < 32) = false := decide_eq_false h32
    have h7' : ((b.toNat : Int) == 7) = false := by rw [beq_eq_false_iff_ne]; omega
    clear h7s
    by_cases hgt : 127 < (b.toNat : Int)
    · rw [if_pos ⟨hgt, rfl⟩] at HE
      have hgt' : decide (127 < (b.toNat : Int)) = true := decide_eq_true hgt
      clear h127 h32 hgt
      by_cases h0 : s.state = 0
      · rw [if_pos h0] at HE
        have h0' : (s.state != 0) = false := by rw [h0]; rfl
        clear h0
        go_enter Tryd.func20, Tryd.ntmps20
        go_wp2_with fail
        refine HTX.out.mono ?_
        rintro e w2 ⟨rfl, hw⟩
        rw [hw]
        clear hw
        go_wp2_with fail
        refine ret1v rfl rfl rfl ?_
        rw [HE.out, List.append_nil]
        exact ⟨rfl, Within.refl _ _, T, H.out⟩
      · rw [if_neg h0] at HE
        have h0' : (s.state != 0) = true := by simpa using h0
        clear h0
        go_enter Tryd.func20, Tryd.ntmps20
        go_wp2_with fail
        refine HTX.out.mono ?_
        rintro e w2 ⟨rfl, hw⟩
        rw [hw]
        clear hw
        go_wp2_with fail
        refine (begin_inv 0 H.out).mono ?_
        rintro e w5 ⟨rfl, hw5, hi5⟩
        have HW5 := Lib.hid hw5
        have HI5 := Lib.hid hi5
        clear hw5 hi5
        go_wp2_with fail
        refine ret1v rfl rfl rfl ?_
        rw [HE.out, List.append_nil]
        exact ⟨rfl, HW5.out, T, HI5.out⟩
    · rw [if_neg (fun h => hgt h.1)] at HE
      have hgt' : decide (127 < (b.toNat : Int)) = false := decide_eq_false hgt
      clear h127 h32 hgt
      go_enter Tryd.func20, Tryd.ntmps20
      go_wp2_with fail
      refine HTX.out.mono ?_
      rintro e w2 ⟨rfl, hw⟩
      rw [hw]
      clear hw
      go_wp2_with fail
      refine ret1v rfl rfl rfl ?_
      rw [HE.out, List.append_nil]
      exact ⟨rfl, Within.refl _ _, T, H.out⟩
  · rw [htx] at HE HTX
    by_cases h32 : (b.toNat : Int) < 32
    · rw [if_pos (.inr ⟨h32, rfl⟩)] at HE
      have h32' : decide ((b.toNat : Int) < 32) = true := decide_eq_true h32
      have h127' : ((b.toNat : Int) == 127) = false := by rw [beq_eq_false_iff_ne]; omega
      clear h32
      rcases h7s with h7' | ⟨h7', h4'⟩
      · skip
        go_enter Tryd.func20, Tryd.ntmps20
        go_wp2_with fail
        refine HTX.out.mono ?_
        rintro e w2 ⟨rfl, hw⟩
        rw [hw]
        clear hw
        go_wp2_with fail
        go_ret
        rw [HE.out, List.append_nil]
        exact ⟨rfl, Within.refl _ _, T, H.out⟩
      · skip
        go_enter Tryd.func20, Tryd.ntmps20
        go_wp2_with fail
        refine HTX.out.mono ?_
        rintro e w2 ⟨rfl, hw⟩
        rw [hw]
        clear hw
        go_wp2_with fail
        go_ret
        rw [HE.out, List.append_nil]
        exact ⟨rfl, Within.refl _ _, T, H.out⟩
    rw [if_neg (fun h => by rcases h with ⟨_, h⟩ | ⟨h, _⟩; simp at h; exact h32 h), if_neg h32, if_neg (fun h => by simp at h)] at HE
    have h32' : decide ((b.toNat : Int) < 32) = false := decide_eq_false h32
    have h7' : ((b.toNat : Int) == 7) = false := by rw [beq_eq_false_iff_ne]; omega
    clear h7s
    generalize hq : ((b.toNat : Int) == 127) = q at *
    generalize hq2 : decide (127 < (b.toNat : Int)) = q2 at *
    clear h32
    cases q <;> cases q2
    all_goals
      go_enter Tryd.func20, Tryd.ntmps20
      go_wp2_with fail
      refine HTX.out.mono ?_
      rintro e w2 ⟨rfl, hw⟩
      rw [hw]
      clear hw
      go_wp2_with fail
      refine ret1v rfl rfl rfl ?_
      rw [HE.out, List.append_nil]
      exact ⟨rfl, Within.refl _ _, T, H.out⟩
end Go.Proofs.YtkdicejlfagaeaaDoor
