/- Package vtparse: Feed. -/
import Derived.Test.YtkdicejlfagaeaaDoorP4
import Derived.Laws.EntriesVeiled
namespace Go.Proofs.YtkdicejlfagaeaaDoor
open Go.RowKit

/-- A parser at rest. -/
def Rest (T : Nat → Nat) (p : Nat) (w : World) (s : PSt) : Prop :=
  (∀ k, T k ≠ 0 → k < w.heap.size) ∧ s.Fine ∧ ∃ d vi vp vt, Core true T p d .nilFunc vi vp vt w s
/-- What it may write from here on. -/
def own (T : Nat → Nat) (w : World) : Nat → Prop := fun k => T k ≠ 0 ∨ w.heap.size ≤ k

theorem feed_start {T : Nat → Nat} {p : Nat} {w : World} {s : PSt} (h : Rest T p w s) :
    Within (own T w) w ((w.setCell ⟨p, 2, none⟩ (tellV w.heap.size)).alloc (.cells #[nilS] 22)) ∧
      InvT (own T w) true (adopt T w.heap.size (w.heap.size + 1) 3) p w.heap.size ((w.setCell ⟨p, 2, none⟩ (tellV w.heap.size)).alloc (.cells #[nilS] 22)) s [] := by
  obtain ⟨hl, _, d, vi, vp, vt, hC⟩ := h
  have hA : Arena (own T w) T w := ⟨fun k hk => ⟨hl k hk, .inl hk⟩, fun k hk => .inr hk⟩
  have hsz : ((w.setCell ⟨p, 2, none⟩ (tellV w.heap.size)).alloc (.cells #[nilS] 22)).heap.size = w.heap.size + 1 := by simp
  have g := gb_alloc (gb_set (gb_refl w (some p)) 2 (tellV w.heap.size)) (.cells #[nilS] 22)
  have m : Mod T (fun x => x = 1) w _ := Mod.of_gb g (fun k hk => by injection hk with hk; subst hk; exact hC.tp)
  have ad : ∀ k, k < w.heap.size → adopt T w.heap.size (w.heap.size + 1) 3 k = T k := fun k hk => adopt_old hk
  have hA' := hA.adopt m.size 3
  rw [hsz] at hA'
  have hb := blk_alloc (blk_set hC.blk 2 (tellV w.heap.size)) (.cells #[nilS] 22)
  have ho : ((w.setCell ⟨p, 2, none⟩ (tellV w.heap.size)).alloc (.cells #[nilS] 22)).heap[w.heap.size]? = some (.cells #[nilS] 22 (0, 0)) := by
    have := heap_alloc_new (w.setCell ⟨p, 2, none⟩ (tellV w.heap.size)) (.cells #[nilS] 22)
    rw [show (w.setCell ⟨p, 2, none⟩ (tellV w.heap.size)).heap.size = w.heap.size by simp] at this
    exact this
  have hCr := (hC.retag ad).put (u' := true) (s' := s) (tell' := tellV w.heap.size) (vi' := vi) (vp' := vp) (vt' := vt) g hb rfl (hC.ri.retag fun k hk ht => (ad k hk).trans ht) (fun _ => (hC.rp rfl).retag fun k hk ht => (ad k hk).trans ht) (hC.rt.retag fun k hk ht => (ad k hk).trans ht)
  refine ⟨m.within hA (by decide), d, vi, vp, vt, nilS, [], rfl, hA', hCr, ⟨ho, row_nil _ _ _ _, adopt_new (Nat.le_refl _) (by omega), fun x hx => by simp at hx⟩⟩
/-- What was told is the caller's. -/
def gone (T : Nat → Nat) : Nat → Nat := fun k => if T k = 3 ∨ T k = 7 then 0 else T k
theorem gone_of {T : Nat → Nat} {k t : Nat} (h : T k = t) (h3 : t ≠ 3) (h7 : t ≠ 7) : gone T k = t := by unfold gone; rw [if_neg (by omega)]; exact h
theorem gone_out {T : Nat → Nat} {k : Nat} (h : T k = 7) : gone T k = 0 := by unfold gone; rw [if_pos (.inr h)]
theorem feed_end {G : Nat → Prop} {T : Nat → Nat} {p o : Nat} {w : World} {s : PSt} {acts : List VAct} (h : InvT G true T p o w s acts) (hf : s.Fine) :
    ∃ vo L, L.map (·.1) = acts ∧ w.cell? ⟨o, 0, none⟩ = some vo ∧ (w.setCell ⟨p, 2, none⟩ .nilFunc).cell? ⟨o, 0, none⟩ = some vo ∧ w.cell? ⟨p, 2, none⟩ = some (tellV o) ∧ (∀ i, w.frozen? ⟨p, i, none⟩ = false) ∧ Within G w (w.setCell ⟨p, 2, none⟩ .nilFunc) ∧ Rest (gone T) p (w.setCell ⟨p, 2, none⟩ .nilFunc) s ∧
      Row (gone T) 0 6 vo L.length (actCells L) (w.setCell ⟨p, 2, none⟩ .nilFunc) ∧ (∀ k, vo.ownBlock = some k → G k) ∧
      (∀ x ∈ L, Row (gone T) 0 1 x.2 x.1.params.length (x.1.params.map (Value.int .i64)) (w.setCell ⟨p, 2, none⟩ .nilFunc) ∧ ∀ k, x.2.ownBlock = some k → G k) ∧ (∀ k, gone T k ≠ 0 → G k) := by
  obtain ⟨d, vi, vp, vt, vo, L, hL, hA, hC, hT⟩ := h
  have g := gb_set (gb_refl w (some p)) 2 .nilFunc
  have m : Mod T (fun x => x = 1) w (w.setCell ⟨p, 2, none⟩ .nilFunc) := Mod.of_gb g (fun k hk => by injection hk with hk; subst hk; exact hC.tp)
  have hb := blk_set hC.blk 2 .nilFunc
  have hC' := hC.put (u' := true) (s' := s) (tell' := .nilFunc) (vi' := vi) (vp' := vp) (vt' := vt) g hb rfl hC.ri (fun _ => hC.rp rfl) hC.rt
  have hT' := hT.mod m (by decide) (by decide) (by decide)
  have h0 : ∀ k, gone T k ≠ 0 → T k ≠ 0 := fun k hk e => hk (gone_of e (by decide) (by decide))
  refine ⟨vo, L, hL, blk_cell hT.blk 0, blk_cell hT'.blk 0, parCell hC 2, blk_free hC.blk, m.within hA (by decide), ⟨fun k hk => ?_, hf, d, vi, vp, vt, ?_⟩, hT'.ro.retag fun k _ ht => gone_out ht, fun k hk => (hA.tl k (by rw [hT.ro.tag k hk]; decide)).2, fun x hx => ⟨(hT'.told x hx).1.retag fun k _ ht => gone_of ht (by decide) (by decide), (hT.told x hx).2⟩, fun k hk => (hA.tl k (h0 k hk)).2⟩
  · exact Nat.lt_of_lt_of_le (hA.tl k (h0 k hk)).1 m.size
  · exact ⟨hC'.blk, hC'.dec, hC'.dok, hC'.ri.retag fun k _ ht => gone_of ht (by decide) (by decide), fun _ => (hC'.rp rfl).retag fun k _ ht => gone_of ht (by decide) (by decide), hC'.rt.retag fun k _ ht => gone_of ht (by decide) (by decide), gone_of hC'.tp (by decide) (by decide), gone_of hC'.td (by decide) (by decide)⟩
theorem Row.within {G : Nat → Prop} {T : Nat → Nat} {t size : Nat} {v : Value} {n : Nat} {xs : List Value} {w w' : World} (h : Row T t size v n xs w) (hw : Within G w w') (hg : ∀ k, v.ownBlock = some k → ¬ G k) : OwnC w' 0 size v n xs :=
  ownC_blocks h.own hw.size fun k hk => hw.block k (ownC_lt h.own k hk).2 (hg k hk)
theorem take_snoc (l : List UInt8) (k : Nat) (h : k < l.length) : l.take (k + 1) = l.take k ++ [l.getD k 0] := take_succ_getD l 0 k h
set_option maxRecDepth 100000 in
set_option maxHeartbeats 4000000 in
theorem feed_any_p {T : Nat → Nat} {p : Nat} {w : World} {s : PSt} (vb : Value) (l : List UInt8) (h : Rest T p w s) (hv : Row T 0 1 vb l.length (byteVals l) w) (hl : l.length ≤ 100000000) :
    Calls Tryd.prog 12 #[.pointer (some ⟨p, 0, none⟩), vb] w fun e w' => ∃ vo T' L, e = .returned vo ∧ L.map (·.1) = (s.run l).2 ∧ Within (own T w) w w' ∧ Rest T' p w' (s.run l).1 ∧ (∀ k, T' k ≠ 0 → own T w k) ∧
      Row T' 0 6 vo L.length (actCells L) w' ∧ (∀ k, vo.ownBlock = some k → own T w k) ∧ ∀ x ∈ L, Row T' 0 1 x.2 x.1.params.length (x.1.params.map (Value.int .i64)) w' ∧ ∀ k, x.2.ownBlock = some k → own T w k := by
  have hlen : ∀ (ty : TypeId) (wx : World), (Builtin.len_ #[24] ty #[vb]).run Tryd.prog wx = .ok (.int .i64 l.length) wx := ownC_len Tryd.underlying24 hv.own
  have hmf : ∀ (fn : Fn) (first cap : Array Value) (w : World), (Instr.makeFunc fn first cap).run Tryd.prog w = .ok (.func fn first cap) w := fun _ _ _ _ => rfl
  have HV := Lib.hid hv
  have HN := Lib.hid (show ∀ k, vb.ownBlock = some k → ¬ own T w k from fun k hk hg => by
    rcases hg with hg | hg
    · exact hg (hv.tag k hk)
    · have := (ownC_lt hv.own k hk).2; omega)
  obtain ⟨hs1, hs2⟩ := feed_start h
  have HS1 := Lib.hid hs1
  have HS2 := Lib.hid hs2
  have HF := Lib.hid h.2.1
  obtain ⟨hlr, hfr, d, vi, vp, vt, hC⟩ := h
  have fz := blk_free hC.blk
  have c2 : w.cell? ⟨p, 2, none⟩ = some .nilFunc := parCell hC 2
  have hpl := heap_lt hC.blk
  have hb1 := blk_alloc hC.blk (.cells #[nilS] 22)
  have a2 : (w.alloc (.cells #[.slice none 0 0] 22)).cell? ⟨p, 2, none⟩ = some .nilFunc := blk_cell hb1 2
  have afz : ∀ i, (w.alloc (.cells #[.slice none 0 0] 22)).frozen? ⟨p, i, none⟩ = false := blk_free hb1
  clear hv hs1 hs2 hlr hfr hC hb1
  generalize own T w = G at *
  go_enter Tryd.func12, Tryd.ntmps12
  go_wp2_with fail
  go_loopw [14] (fun iv wr => ∃ k : Nat, k ≤ l.length ∧ iv = .int .i64 k ∧ Within G w wr ∧ InvO G true p w.heap.size wr (s.run (l.take k)).1 (s.run (l.take k)).2) (fun iv _ => l.length - (intOf iv).toNat)
  case atStart => exact ⟨0, by omega, rfl, HS1.out, _, HS2.out⟩
  case round =>
    obtain ⟨k, hk, rfl, hw, T2, hi⟩ := hrel
    have HW := Lib.hid hw
    have HI := Lib.hid hi
    clear hw hi
    by_cases hlt : k < l.length
    · have HO := Lib.hid (HV.out.within HW.out HN.out)
      obtain ⟨b0, off0, c0, hvb, had, ⟨x, hx1, hx2⟩, _, _⟩ := ownC_at Tryd.underlying24 (by kernel_rfl) HO.out k hlt
      have hxe : x = .int .u8 ((l.getD k 0).toNat : Int) := by
        unfold byteVals at hx1
        rw [List.getElem?_map, List.getElem?_eq_getElem hlt] at hx1
        rw [List.getD_eq_getElem?_getD, List.getElem?_eq_getElem hlt]
        exact (Option.some.inj hx1).symm
      subst hxe
      have HSN := Lib.hid (run_snoc (l.take k) (l.getD k 0) s)
      rw [← take_snoc l k hlt] at HSN
      have hrl := run_len (l.take k) s
      have htl : (l.take k).length ≤ k := List.length_take_le _ _
      have HFk := Lib.hid (run_fine (l.take k) HF.out)
      generalize l.getD k 0 = b at *
      generalize s.run (l.take k) = R at *
      obtain ⟨s1, acts⟩ := R
      dsimp only at hrl HFk HI HSN
      have HST := Lib.hid (show s1.step b = if (s1.any1 b).1 then (s1.any1 b).2 else ((((s1.any1 b).2.1).took b).1, (s1.any1 b).2.2 ++ (((s1.any1 b).2.1).took b).2) from rfl)
      have HA1 := Lib.hid (anywhere_inv b HI.out (by omega))
      have HAF := Lib.hid (any1_fine b HFk.out)
      have HA32 := Lib.hid (any1_32 (s := s1) (b := b))
      have hal := any1_len s1 b
      generalize s1.any1 b = A at *
      obtain ⟨ab, s2, acts2⟩ := A
      dsimp only at HST HA1 HAF HA32 hal
      have HVB := Lib.hid hvb
      clear hx1 hvb
      go_wp2_with fail
      refine HA1.out.mono ?_
      rintro e w2 ⟨rfl, hw2, T3, hi2⟩
      have HW2 := Lib.hid (HW.out.trans hw2)
      have HI2 := Lib.hid hi2
      clear hw2 hi2
      cases ab
      · rw [if_neg (by decide)] at HST
        have HT2 := Lib.hid (take_inv b HI2.out HAF.out (by rw [List.length_append]; omega) (HA32.out rfl))
        go_wp2_with fail
        refine HT2.out.mono ?_
        rintro e w4 ⟨rfl, hw4, hi4⟩
        have HW4 := Lib.hid (HW2.out.trans hw4)
        have HI4 := Lib.hid hi4
        clear hw4 hi4
        go_wp2_with fail
        go_roundw
        case rel =>
          refine ⟨k + 1, by omega, by go_num, HW4.out, ?_⟩
          have := HI4.out
          rw [HSN.out, HST.out]
          rw [List.append_assoc] at this
          exact this
        case measure => simp [intOf]; omega
      · rw [if_pos rfl] at HST
        go_wp2_with fail
        go_roundw
        case rel =>
          refine ⟨k + 1, by omega, by go_num, HW2.out, T3, ?_⟩
          rw [HSN.out, HST.out]
          exact HI2.out
        case measure => simp [intOf]; omega
    · have hk2 : k = l.length := by omega
      have HE := Lib.hid (show (l.take k) = l by rw [hk2, List.take_length])
      rw [HE.out] at HI
      have HFl := Lib.hid (run_fine l HF.out)
      obtain ⟨vo, L, hL, ho1, ho2, hp2, hpf, hwn, hrest, hrow, hog, htold, hgg⟩ := feed_end HI.out HFl.out
      obtain ⟨xo, mo, co, rfl⟩ := ownC_form hrow.own
      have HL := Lib.hid hL
      have HWN := Lib.hid (HW.out.trans hwn)
      have HREST := Lib.hid hrest
      have HROW := Lib.hid hrow
      have HOG := Lib.hid hog
      have HTOLD := Lib.hid htold
      have HGG := Lib.hid hgg
      clear hL hwn hrest hrow hog htold hgg
      unfold tellV at hp2
      go_wp2_with fail
      go_ret
      exact ⟨_, gone T2, L, rfl, HL.out, HWN.out, HREST.out, HGG.out, HROW.out, HOG.out, HTOLD.out⟩
end Go.Proofs.YtkdicejlfagaeaaDoor
