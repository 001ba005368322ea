/- Package grid, texts laid together: K0 K4 K10 K11 K5 K12 K13. -/
import Derived.Test.YtlfdgkiliegaiaaGreatDoorY10
import Derived.Test.YtlfdgkiliegaiaaGreatDoorY11
import Derived.Test.YtlfdgkiliegaiaaGreatDoorY9
import Derived.Test.YtlfdgkiliegaiaaGreatDoorY5
/- A screen's own buffers (tab stops, what is answered), its parser. -/
namespace Go.Proofs.YtlfdgkiliegaiaaGreatDoor
open Go.RowKit

def oneT (v : Value) : Nat → Nat := fun k => if v.ownBlock = some k then 1 else 0
theorem oneT_of {v : Value} {k : Nat} (h : oneT v k ≠ 0) : v.ownBlock = some k := by
  unfold oneT at h
  by_cases e : v.ownBlock = some k
  · exact e
  · rw [if_neg e] at h; exact absurd rfl h
theorem oneT_to {v : Value} {k : Nat} (h : v.ownBlock = some k) : oneT v k ≠ 0 := by unfold oneT; rw [if_pos h]; decide

theorem SAt.outs {C Tm To Tp : Nat → Nat} {p pm : Nat} {po : Option Nat} {pp : Nat} {vt vo vo' : Value} {w w1 w2 : World} {s : Scr} {ps : PSt} {x : List UInt8} (h : SAt C Tm To Tp p pm po pp vt vo w s ps) (g1 : w.grownBy w1 none) (g : w1.grownBy w2 vo.ownBlock)
    (ho : OwnC w2 0 1 vo' x.length (byteVals x)) (hn : ∀ k, vo'.ownBlock = some k → vo.ownBlock = some k ∨ w1.heap.size ≤ k) :
    SAt (reC C 3 (oneT vo')) Tm To Tp p pm po pp vt vo' (w2.setCell ⟨p, 40, none⟩ vo') { s with out := x } ps ∧ Pre C w (reC C 3 (oneT vo')) (w2.setCell ⟨p, 40, none⟩ vo') := by
  have hs : w.heap.size ≤ w2.heap.size := Nat.le_trans g1.size g.size
  have K : Keep C 3 w w2 := ⟨⟨g.os.trans g1.os, g.tape.trans g1.tape, g.output.trans g1.output, hs, fun k hk hg => (g.block k (Nat.lt_of_lt_of_le hk g1.size) (fun e => hg (.inl (h.t3 k e.symm)))).trans (g1.block k hk (by simp))⟩⟩
  have hn' : ∀ k, oneT vo' k ≠ 0 → own (oneT vo) w k := fun k hk => by
    rcases hn k (oneT_of hk) with e | e
    · exact .inl (oneT_to e)
    · exact .inr (Nat.le_trans g1.size e)
  have hk : ∀ {d k : Nat}, C k = d → d ≠ 0 → d ≠ 3 → reC C 3 (oneT vo') k = d := fun e h0 hd => reC_keep h.lt (fun k hk => h.t3 k (oneT_of hk)) hn' e h0 hd
  have hp : reC C 3 (oneT vo') p = 1 := hk h.cp (by decide) (by decide)
  have hb2 := K.blk h.blk h.cp (by decide)
  have K2 : Keep (reC C 3 (oneT vo')) 1 w2 (w2.setCell ⟨p, 40, none⟩ vo') := .of_gb (gb_set (gb_refl _ (some p)) 40 vo') (fun k hk => by injection hk with hk; subst hk; exact .inl hp)
  have lt' : ∀ k, reC C 3 (oneT vo') k ≠ 0 → k < w2.heap.size := fun k hk2 => by
    rcases reC_from hk2 with e | e
    · exact (ownC_lt ho k (oneT_of e)).2
    · exact Nat.lt_of_lt_of_le (h.lt k e) hs
  have n' : ∀ k, reC C 3 (oneT vo') k ≠ 0 → own C w k := fun k hk2 => by
    rcases reC_from hk2 with e | e
    · rcases hn' k e with e2 | e2
      · exact .inl (by rw [h.t3 k (oneT_of e2)]; decide)
      · exact .inr e2
    · exact .inl e
  refine ⟨⟨fun k hk2 => Nat.lt_of_lt_of_le (lt' k hk2) K2.wi.size, hp, blk_set hb2 40 vo', K2.gm (K.gm h.gm h.t4 (by decide)) (fun k e => hk (h.t4 k e) (by decide) (by decide)) (by decide), K2.oth (K.oth h.go h.t5 (by decide)) (fun k e => hk (h.t5 k e) (by decide) (by decide)) (by decide), K2.rest (K.rest h.rp h.t6 (by decide)) (fun k e => hk (h.t6 k e) (by decide) (by decide)) (by decide), K2.row (K.row h.ta h.t2 (by decide)) (fun k e => hk (h.t2 k e) (by decide) (by decide)) (by decide), K2.row ho (fun k e => reC_new (oneT_to e)) (by decide), fun k e => hk (h.t2 k e) (by decide) (by decide), fun k e => reC_new (oneT_to e), fun k e => hk (h.t4 k e) (by decide) (by decide), fun k e => hk (h.t5 k e) (by decide) (by decide), fun k e => hk (h.t6 k e) (by decide) (by decide)⟩, ?_, n'⟩
  exact own_trans (K.own (by decide)) n' (K2.own (by decide))

theorem SAt.stops' {C Tm To Tp : Nat → Nat} {p pm : Nat} {po : Option Nat} {pp : Nat} {vt vo vt' : Value} {w w1 w2 : World} {s : Scr} {ps : PSt} {x : List Bool} (h : SAt C Tm To Tp p pm po pp vt vo w s ps) (g1 : w.grownBy w1 none) (g : w1.grownBy w2 vt.ownBlock)
    (ho : OwnC w2 0 1 vt' x.length (x.map Value.bool)) (hn : ∀ k, vt'.ownBlock = some k → vt.ownBlock = some k ∨ w1.heap.size ≤ k) :
    SAt (reC C 2 (oneT vt')) Tm To Tp p pm po pp vt' vo (w2.setCell ⟨p, 35, none⟩ vt') { s with tabs := x } ps ∧ Pre C w (reC C 2 (oneT vt')) (w2.setCell ⟨p, 35, none⟩ vt') := by
  have hs : w.heap.size ≤ w2.heap.size := Nat.le_trans g1.size g.size
  have K : Keep C 2 w w2 := ⟨⟨g.os.trans g1.os, g.tape.trans g1.tape, g.output.trans g1.output, hs, fun k hk hg => (g.block k (Nat.lt_of_lt_of_le hk g1.size) (fun e => hg (.inl (h.t2 k e.symm)))).trans (g1.block k hk (by simp))⟩⟩
  have hn' : ∀ k, oneT vt' k ≠ 0 → own (oneT vt) w k := fun k hk => by
    rcases hn k (oneT_of hk) with e | e
    · exact .inl (oneT_to e)
    · exact .inr (Nat.le_trans g1.size e)
  have hk : ∀ {d k : Nat}, C k = d → d ≠ 0 → d ≠ 2 → reC C 2 (oneT vt') k = d := fun e h0 hd => reC_keep h.lt (fun k hk => h.t2 k (oneT_of hk)) hn' e h0 hd
  have hp : reC C 2 (oneT vt') p = 1 := hk h.cp (by decide) (by decide)
  have hb2 := K.blk h.blk h.cp (by decide)
  have K2 : Keep (reC C 2 (oneT vt')) 1 w2 (w2.setCell ⟨p, 35, none⟩ vt') := .of_gb (gb_set (gb_refl _ (some p)) 35 vt') (fun k hk => by injection hk with hk; subst hk; exact .inl hp)
  have lt' : ∀ k, reC C 2 (oneT vt') k ≠ 0 → k < w2.heap.size := fun k hk2 => by
    rcases reC_from hk2 with e | e
    · exact (ownC_lt ho k (oneT_of e)).2
    · exact Nat.lt_of_lt_of_le (h.lt k e) hs
  have n' : ∀ k, reC C 2 (oneT vt') k ≠ 0 → own C w k := fun k hk2 => by
    rcases reC_from hk2 with e | e
    · rcases hn' k e with e2 | e2
      · exact .inl (by rw [h.t2 k (oneT_of e2)]; decide)
      · exact .inr e2
    · exact .inl e
  refine ⟨⟨fun k hk2 => Nat.lt_of_lt_of_le (lt' k hk2) K2.wi.size, hp, blk_set hb2 35 vt', K2.gm (K.gm h.gm h.t4 (by decide)) (fun k e => hk (h.t4 k e) (by decide) (by decide)) (by decide), K2.oth (K.oth h.go h.t5 (by decide)) (fun k e => hk (h.t5 k e) (by decide) (by decide)) (by decide), K2.rest (K.rest h.rp h.t6 (by decide)) (fun k e => hk (h.t6 k e) (by decide) (by decide)) (by decide), K2.row ho (fun k e => reC_new (oneT_to e)) (by decide), K2.row (K.row h.ou h.t3 (by decide)) (fun k e => hk (h.t3 k e) (by decide) (by decide)) (by decide), fun k e => reC_new (oneT_to e), fun k e => hk (h.t3 k e) (by decide) (by decide), fun k e => hk (h.t4 k e) (by decide) (by decide), fun k e => hk (h.t5 k e) (by decide) (by decide), fun k e => hk (h.t6 k e) (by decide) (by decide)⟩, ?_, n'⟩
  exact own_trans (K.own (by decide)) n' (K2.own (by decide))

section
variable {B : World} {C : Nat → Nat} {p : Nat} {w w' : World} {s : Scr} {ps : PSt}
theorem SR.outs (h : SR B C p w s ps) : ∃ vo, w.cell? ⟨p, 40, none⟩ = some vo ∧ OwnC w 0 1 vo s.out.length (byteVals s.out) ∧ (∀ k, vo.ownBlock = some k → C k = 3 ∧ k ≠ p) ∧
    ∀ w1 w2 vo' (x : List UInt8), w.grownBy w1 none → w1.grownBy w2 vo.ownBlock → OwnC w2 0 1 vo' x.length (byteVals x) → (∀ k, vo'.ownBlock = some k → vo.ownBlock = some k ∨ w1.heap.size ≤ k) → Does B C p w (w2.setCell ⟨p, 40, none⟩ vo') { s with out := x } ps := by
  obtain ⟨Tm, To, Tp, pm, po, pp, vt, vo, hs⟩ := h.sm
  refine ⟨vo, blk_cell hs.blk 40, hs.ou, fun k e => ⟨hs.t3 k e, fun e2 => ?_⟩, fun w1 w2 vo' x g1 g ho hn => ?_⟩
  · have h1 := hs.t3 k e
    rw [e2, hs.cp] at h1
    exact absurd h1 (by decide)
  · obtain ⟨h2, g2⟩ := hs.outs g1 g ho hn
    exact ⟨_, h.step g2 ⟨_, _, _, _, _, _, _, _, h2⟩, g2⟩
theorem SR.tabs (h : SR B C p w s ps) : ∃ vt, w.cell? ⟨p, 35, none⟩ = some vt ∧ OwnC w 0 1 vt s.tabs.length (s.tabs.map Value.bool) ∧ (∀ k, vt.ownBlock = some k → C k = 2 ∧ k ≠ p) ∧
    ∀ w1 w2 vt' (x : List Bool), w.grownBy w1 none → w1.grownBy w2 vt.ownBlock → OwnC w2 0 1 vt' x.length (x.map Value.bool) → (∀ k, vt'.ownBlock = some k → vt.ownBlock = some k ∨ w1.heap.size ≤ k) → Does B C p w (w2.setCell ⟨p, 35, none⟩ vt') { s with tabs := x } ps := by
  obtain ⟨Tm, To, Tp, pm, po, pp, vt, vo, hs⟩ := h.sm
  refine ⟨vt, blk_cell hs.blk 35, hs.ta, fun k e => ⟨hs.t2 k e, fun e2 => ?_⟩, fun w1 w2 vt' x g1 g ho hn => ?_⟩
  · have h1 := hs.t2 k e
    rw [e2, hs.cp] at h1
    exact absurd h1 (by decide)
  · obtain ⟨h2, g2⟩ := hs.stops' g1 g ho hn
    exact ⟨_, h.step g2 ⟨_, _, _, _, _, _, _, _, h2⟩, g2⟩
/-- The tab stops written in place. -/
theorem SR.tabsIn (h : SR B C p w s ps) {vt : Value} (hc : w.cell? ⟨p, 35, none⟩ = some vt) {x : List Bool} (hl : x.length = s.tabs.length) (g : w.grownBy w' vt.ownBlock) (ho : OwnC w' 0 1 vt s.tabs.length (x.map Value.bool)) : Does B C p w w' { s with tabs := x } ps := by
  obtain ⟨Tm, To, Tp, pm, po, pp, vt0, vo, hs⟩ := h.sm
  have e : w.cell? ⟨p, 35, none⟩ = some vt0 := blk_cell hs.blk 35
  obtain rfl : vt = vt0 := by rw [e] at hc; injection hc with hc; exact hc.symm
  have K : Keep C 2 w w' := .of_gb g (fun k e => .inl (hs.t2 k e))
  have g' : Pre C w C w' := ⟨K.own (by decide), fun _ hk => .inl hk⟩
  exact ⟨C, h.step g' ⟨Tm, To, Tp, pm, po, pp, vt, vo, ⟨fun k hk => Nat.lt_of_lt_of_le (hs.lt k hk) g.size, hs.cp, K.blk hs.blk hs.cp (by decide), K.gm hs.gm hs.t4 (by decide), K.oth hs.go hs.t5 (by decide), K.rest hs.rp hs.t6 (by decide), by show OwnC w' 0 1 vt x.length _; rw [hl]; exact ho, K.row hs.ou hs.t3 (by decide), hs.t2, hs.t3, hs.t4, hs.t5, hs.t6⟩⟩, g'⟩
theorem SR.parser (h : SR B C p w s ps) : ∃ T q, Rest T q w ps ∧ w.cell? ⟨p, 39, none⟩ = some (.pointer (some ⟨q, 0, none⟩)) ∧ (∀ k, T k ≠ 0 → C k = 6) ∧
    ∀ w' T' ps', Within (own T w) w w' → Rest T' q w' ps' → (∀ k, T' k ≠ 0 → own T w k) → ∃ C', SR B C' p w' s ps' ∧ Pre C w C' w' ∧ ∀ k, own T w k → T' k = 0 → C' k = 0 := by
  obtain ⟨Tm, To, Tp, pm, po, pp, vt, vo, hs⟩ := h.sm
  refine ⟨Tp, pp, hs.rp, blk_cell hs.blk 39, hs.t6, fun w' T' ps' hw hg hn => ?_⟩
  obtain ⟨h2, n2⟩ := hs.parser' hw hg hn
  have K := Keep.of_own hw hs.t6
  have g2 : Pre C w (reC C 6 T') w' := ⟨K.own (by decide), n2⟩
  refine ⟨_, h.step g2 ⟨_, _, _, _, _, _, _, _, h2⟩, g2, fun k hk h0 => ?_⟩
  unfold reC
  rw [if_neg (by rw [h0]; decide)]
  by_cases e : C k = 6
  · rw [if_pos e]
  · rw [if_neg e]
    rcases hk with hk | hk
    · exact absurd (hs.t6 k hk) e
    · by_cases h1 : C k = 0
      · exact h1
      · have := hs.lt k h1; omega
end
end Go.Proofs.YtlfdgkiliegaiaaGreatDoor

/- Walks of package screen: tab, back. -/
namespace Go.Proofs.YtlfdgkiliegaiaaGreatDoor
open Go.RowKit
set_option maxRecDepth 100000

theorem bools_at (l : List Bool) (j : Nat) (hj : j < l.length) : (l.map Value.bool)[j]? = some (.bool (l.getD j false)) := by
  rw [List.getElem?_map, List.getElem?_eq_getElem hj, List.getD_eq_getElem?_getD, List.getElem?_eq_getElem hj]; rfl
theorem bool_info : (Tryz.prog.info? 4).map (·.size) = some 1 := by kernel_rfl
/-- A tab stop is read. -/
theorem tab_at {P : Program} {t e : TypeId} {w : World} {b off c : Nat} {l : List Bool} (h : OwnC w 0 1 (.slice (some ⟨b, off, none⟩) l.length c) l.length (l.map Value.bool)) (ht : P.underlying t = some (.slice e)) (hs : (P.info? e).map (·.size) = some 1) (j : Nat) (hj : j < l.length) :
    (∀ wx, (Instr.indexAt t (.slice (some ⟨b, off, none⟩) l.length c) (.int .i64 j)).run P wx = .ok (.pointer (some ⟨b, off + j, none⟩)) wx) ∧ w.cell? ⟨b, off + j, none⟩ = some (.bool (l.getD j false)) ∧ w.frozen? ⟨b, off + j, none⟩ = false := by
  obtain ⟨b', off', c', e1, hi, ⟨x, hx, hc⟩, hf, _⟩ := ownC_at ht hs h j hj
  injection e1 with e1 e2 e3
  injection e1 with e1
  injection e1 with e1 e4
  subst e1 e4
  rw [bools_at l j hj] at hx
  injection hx with hx
  subst hx
  exact ⟨hi, hc, hf⟩
theorem nextF_stop {n : Nat} {t : List Bool} {m x : Int} (h : ¬ (x < m ∧ t.getD x.toNat false = false)) : nextF n t m x = x := by
  cases n with
  | zero => rfl
  | succ n => unfold nextF; rw [if_neg h]
theorem prevF_stop {n : Nat} {t : List Bool} {x : Int} (h : ¬ (0 < x ∧ t.getD x.toNat false = false)) : prevF n t x = x := by
  cases n with
  | zero => rfl
  | succ n => unfold prevF; rw [if_neg h]
theorem tabS_any {B : World} {C : Nat → Nat} {p c r : Nat} {w : World} {s : Scr} {ps : PSt} (h : SR B C p w s ps) (hok : s.Ok c r) :
    Calls Tryz.prog 157 #[.pointer (some ⟨p, 0, none⟩)] w fun e w' => e = .returned (.tuple #[]) ∧ Does B C p w w' s.tab ps := by
  have hn := h.nums hok
  obtain ⟨x0, x1, y0, y1, t0, tb, b1, k1, k2, r1, r2, tl, pn⟩ := hn
  have c0 : w.cell? ⟨p, 0, none⟩ = some (.int .i64 s.now.x) := h.at_ 0 _
  have hw1 : IntKind.i64.wrap ((s.main.cols : Int) - 1) = (s.main.cols : Int) - 1 := wrap64_id _ (by omega) (by omega)
  have hw2 : IntKind.i64.wrap (s.now.x + 1) = s.now.x + 1 := wrap64_id _ (by omega) (by omega)
  have HR := Lib.hid h
  have HC := Lib.hid (fun w' hb => colsS_any (h.below (w' := w') hb))
  obtain ⟨vt, ct, ot, _, _⟩ := h.tabs
  obtain ⟨b, off, cc, hvt, hnc, hcm⟩ := ownC_pos ot (by omega)
  subst hvt
  have HT := Lib.hid ot
  have TL := Lib.hid tl
  clear tl
  generalize hN : s.main.cols = N at *
  have HTG := Lib.hid (show s.tab = s.place (nextF N s.tabs ((N : Int) - 1) (min (s.now.x + 1) ((N : Int) - 1))) s.now.y by unfold Scr.tab Scr.cols; rw [hN])
  clear ot h hok hN
  go_enter Tryz.func157, Tryz.ntmps157
  go_upto_region 0 with fail
  go_quiet (first | (go_at_call 93; exact Calls.quiet_of_same (HC.out _ (below_drewN (Below.refl _ _) _))))
  have HB := Lib.hid (below_drewN (Below.refl w.heap.size w) nq)
  have HR2 := Lib.hid (HR.out.below HB.out)
  generalize hwn : w.drewN nq = wn at *
  have ct2 : wn.cell? ⟨p, 35, none⟩ = some (.slice (some ⟨b, off, none⟩) s.tabs.length cc) := cell_below HB.out ct
  have HT2 := Lib.hid (ownC_below HT.out HB.out)
  have d1 : wn.cell? ⟨p, 1, none⟩ = some (.int .i64 s.now.y) := HR2.out.at_ 1 _
  clear ct c0
  have HC2 := Lib.hid (HC.out _ HB.out)
  obtain ⟨x0', hx0'⟩ : ∃ z, z = min (s.now.x + 1) ((N : Int) - 1) := ⟨_, rfl⟩
  rw [← hx0'] at HTG ⊢
  have HX0 := Lib.hid (show 0 ≤ x0' ∧ x0' ≤ (N : Int) - 1 by omega)
  clear hx0'
  go_wp2_with fail
  go_loopw [2] (fun iv wr => ∃ (x : Int) (k : Nat), iv = .int .i64 x ∧ wr = wn ∧ 0 ≤ x ∧ x ≤ (N : Int) - 1 ∧ Hid ((N : Int) - 1 - x ≤ k) ∧ Hid (nextF k s.tabs ((N : Int) - 1) x = nextF N s.tabs ((N : Int) - 1) x0')) (fun iv _ => N - (intOf iv).toNat)
  case atStart => exact ⟨_, N, rfl, rfl, HX0.out.1, HX0.out.2, Lib.hid (by have := HX0.out; omega), Lib.hid rfl⟩
  case round =>
    obtain ⟨x, k, rfl, rfl, hx0, hx1, HK, HF⟩ := hrel
    by_cases hlt : x < (N : Int) - 1
    rotate_left
    · have e1 : decide (x < (N : Int) - 1) = false := decide_eq_false hlt
      have HT3 := Lib.hid (show s.tab = s.place x s.now.y by rw [HTG.out, ← HF.out, nextF_stop (fun e => hlt e.1)])
      go_wp2_with fail
      refine HC2.out.mono ?_
      rintro e w2 ⟨rfl, rfl⟩
      go_wp2_with fail
      refine (placeS_any HR2.out x s.now.y).mono ?_
      rintro e w8 ⟨rfl, d8⟩
      have HD8 := Lib.hid (Does.after ((Pre.refl _ _).below HB.out) d8)
      clear d8
      go_wp2_with fail
      go_end0
      refine ⟨rfl, ?_⟩
      rw [HT3.out]
      exact HD8.out
    obtain ⟨j, rfl⟩ : ∃ j : Nat, x = j := ⟨x.toNat, by omega⟩
    have e1 : decide ((j : Int) < (N : Int) - 1) = true := decide_eq_true hlt
    obtain ⟨ix, ic, _⟩ := tab_at HT2.out Tryz.underlying87 bool_info j (by have := TL.out; omega)
    cases hb : s.tabs.getD j false
    rotate_left
    · rw [hb] at ic
      have HT3 := Lib.hid (show s.tab = s.place j s.now.y by rw [HTG.out, ← HF.out, nextF_stop (fun e => by rw [Int.toNat_natCast, hb] at e; cases e.2)])
      go_wp2_with fail
      refine HC2.out.mono ?_
      rintro e w2 ⟨rfl, rfl⟩
      go_wp2_with fail
      refine (placeS_any HR2.out j s.now.y).mono ?_
      rintro e w8 ⟨rfl, d8⟩
      have HD8 := Lib.hid (Does.after ((Pre.refl _ _).below HB.out) d8)
      clear d8
      go_wp2_with fail
      go_end0
      refine ⟨rfl, ?_⟩
      rw [HT3.out]
      exact HD8.out
    · rw [hb] at ic
      have hw5 : IntKind.i64.wrap ((j : Int) + 1) = (j : Int) + 1 := wrap64_id _ (by omega) (by omega)
      obtain ⟨k', rfl⟩ : ∃ k', k = k' + 1 := ⟨k - 1, by have := HK.out; omega⟩
      have HF2 := Lib.hid (show nextF k' s.tabs ((N : Int) - 1) ((j : Int) + 1) = nextF N s.tabs ((N : Int) - 1) x0' by
        rw [← HF.out]
        conv => rhs; unfold nextF
        rw [if_pos ⟨hlt, by rw [Int.toNat_natCast]; exact hb⟩])
      go_wp2_with fail
      refine HC2.out.mono ?_
      rintro e w2 ⟨rfl, rfl⟩
      go_wp2_with fail
      go_roundw
      case rel => exact ⟨_, k', by go_num, by trivial, by omega, by omega, Lib.hid (by have := HK.out; omega), HF2⟩
      case measure => simp [intOf] <;> omega
theorem backS_any {B : World} {C : Nat → Nat} {p c r : Nat} {w : World} {s : Scr} {ps : PSt} (h : SR B C p w s ps) (hok : s.Ok c r) :
    Calls Tryz.prog 280 #[.pointer (some ⟨p, 0, none⟩)] w fun e w' => e = .returned (.tuple #[]) ∧ Does B C p w w' s.back ps := by
  have hn := h.nums hok
  obtain ⟨x0, x1, y0, y1, t0, tb, b1, k1, k2, r1, r2, tl, pn⟩ := hn
  have c0 : w.cell? ⟨p, 0, none⟩ = some (.int .i64 s.now.x) := h.at_ 0 _
  have hw1 : IntKind.i64.wrap ((s.main.cols : Int) - 1) = (s.main.cols : Int) - 1 := wrap64_id _ (by omega) (by omega)
  have hw2 : IntKind.i64.wrap (s.now.x - 1) = s.now.x - 1 := wrap64_id _ (by omega) (by omega)
  have HR := Lib.hid h
  have HC := Lib.hid (fun w' hb => colsS_any (h.below (w' := w') hb))
  obtain ⟨vt, ct, ot, _, _⟩ := h.tabs
  obtain ⟨b, off, cc, hvt, hnc, hcm⟩ := ownC_pos ot (by omega)
  subst hvt
  have HT := Lib.hid ot
  have TL := Lib.hid tl
  clear tl
  generalize hN : s.main.cols = N at *
  have HTG := Lib.hid (show s.back = s.place (prevF N s.tabs (s.now.x - 1)) s.now.y by unfold Scr.back; rw [hN])
  clear ot h hok hN
  go_enter Tryz.func280, Tryz.ntmps280
  have HB := Lib.hid (Below.refl w.heap.size w)
  have HR2 := HR
  obtain ⟨wn, hwn⟩ : ∃ z, z = w := ⟨_, rfl⟩
  have ct2 : w.cell? ⟨p, 35, none⟩ = some (.slice (some ⟨b, off, none⟩) s.tabs.length cc) := ct
  have HT2 := HT
  have d1 : w.cell? ⟨p, 1, none⟩ = some (.int .i64 s.now.y) := HR2.out.at_ 1 _
  clear ct
  subst hwn
  have HX0 := Lib.hid (show -1 ≤ s.now.x - 1 ∧ s.now.x - 1 ≤ (N : Int) - 1 by omega)
  go_wp2_with fail
  go_loopw [2] (fun iv wr => ∃ (x : Int) (k : Nat), iv = .int .i64 x ∧ wr = wn ∧ -1 ≤ x ∧ x ≤ (N : Int) - 1 ∧ Hid (x ≤ k) ∧ Hid (prevF k s.tabs x = prevF N s.tabs (s.now.x - 1))) (fun iv _ => (intOf iv + 1).toNat)
  case atStart => exact ⟨_, N, rfl, rfl, HX0.out.1, HX0.out.2, Lib.hid (by have := HX0.out; omega), Lib.hid rfl⟩
  case round =>
    obtain ⟨x, k, rfl, rfl, hx0, hx1, HK, HF⟩ := hrel
    by_cases hlt : 0 < x
    rotate_left
    · have e1 : decide (0 < x) = false := decide_eq_false hlt
      have HT3 := Lib.hid (show s.back = s.place x s.now.y by rw [HTG.out, ← HF.out, prevF_stop (fun e => hlt e.1)])
      go_wp2_with fail
      refine (placeS_any HR2.out x s.now.y).mono ?_
      rintro e w8 ⟨rfl, d8⟩
      have HD8 := Lib.hid (Does.after ((Pre.refl _ _).below HB.out) d8)
      clear d8
      go_wp2_with fail
      go_end0
      refine ⟨rfl, ?_⟩
      rw [HT3.out]
      exact HD8.out
    obtain ⟨j, rfl⟩ : ∃ j : Nat, x = j := ⟨x.toNat, by omega⟩
    have e1 : decide (0 < (j : Int)) = true := decide_eq_true hlt
    obtain ⟨ix, ic, _⟩ := tab_at HT2.out Tryz.underlying87 bool_info j (by have := TL.out; omega)
    cases hb : s.tabs.getD j false
    rotate_left
    · rw [hb] at ic
      have HT3 := Lib.hid (show s.back = s.place j s.now.y by rw [HTG.out, ← HF.out, prevF_stop (fun e => by rw [Int.toNat_natCast, hb] at e; cases e.2)])
      go_wp2_with fail
      refine (placeS_any HR2.out j s.now.y).mono ?_
      rintro e w8 ⟨rfl, d8⟩
      have HD8 := Lib.hid (Does.after ((Pre.refl _ _).below HB.out) d8)
      clear d8
      go_wp2_with fail
      go_end0
      refine ⟨rfl, ?_⟩
      rw [HT3.out]
      exact HD8.out
    · rw [hb] at ic
      have hw5 : IntKind.i64.wrap ((j : Int) - 1) = (j : Int) - 1 := wrap64_id _ (by omega) (by omega)
      obtain ⟨k', rfl⟩ : ∃ k', k = k' + 1 := ⟨k - 1, by have := HK.out; omega⟩
      have HF2 := Lib.hid (show prevF k' s.tabs ((j : Int) - 1) = prevF N s.tabs (s.now.x - 1) by
        rw [← HF.out]
        conv => rhs; unfold prevF
        rw [if_pos ⟨hlt, by rw [Int.toNat_natCast]; exact hb⟩])
      go_wp2_with fail
      go_roundw
      case rel => exact ⟨_, k', by go_num, by trivial, by omega, by omega, Lib.hid (by have := HK.out; omega), HF2⟩
      case measure => simp [intOf] <;> omega
end Go.Proofs.YtlfdgkiliegaiaaGreatDoor

/- Walks of package screen: the other screen, E's, stops, begun anew softly. -/
namespace Go.Proofs.YtlfdgkiliegaiaaGreatDoor
open Go.RowKit
set_option maxRecDepth 100000

section
variable {B : World} {C : Nat → Nat} {p : Nat} {w w1 : World} {s : Scr} {ps : PSt}
/-- Main is shown. -/
theorem SR.noOther (h : SR B C p w s ps) : SR B C p (w.setCell ⟨p, 11, none⟩ (.pointer none)) { s with other := none } ps ∧ Pre C w C (w.setCell ⟨p, 11, none⟩ (.pointer none)) := by
  obtain ⟨Tm, To, Tp, pm, po, pp, vt, vo, hs⟩ := h.sm
  have g : w.grownBy (w.setCell ⟨p, 11, none⟩ (.pointer none)) (some p) := gb_set (gb_refl _ _) _ _
  have K : Keep C 1 w (w.setCell ⟨p, 11, none⟩ (.pointer none)) := .of_gb g (fun k hk => by injection hk with hk; subst hk; exact .inl hs.cp)
  have g' : Pre C w C (w.setCell ⟨p, 11, none⟩ (.pointer none)) := ⟨K.own (by decide), fun _ hk => .inl hk⟩
  exact ⟨h.step g' ⟨Tm, fun _ => 0, Tp, pm, none, pp, vt, vo, ⟨fun k hk => Nat.lt_of_lt_of_le (hs.lt k hk) g.size, hs.cp, blk_set hs.blk 11 _, K.gm hs.gm hs.t4 (by decide), .inl ⟨rfl, rfl, fun _ => rfl⟩, K.rest hs.rp hs.t6 (by decide), K.row hs.ta hs.t2 (by decide), K.row hs.ou hs.t3 (by decide), hs.t2, hs.t3, hs.t4, fun k e => absurd rfl e, hs.t6⟩⟩, g'⟩
/-- Another grid is shown, a new one. -/
theorem SR.newOther {T1 : Nat → Nat} {q : Nat} {g1 : Gr} (h : SR B C p w s ps) (hb : Below w.heap.size w w1) (hg : GM T1 q w1 g1) (n1 : ∀ k, T1 k ≠ 0 → w.heap.size ≤ k) :
    Does B C p w (w1.setCell ⟨p, 11, none⟩ (.pointer (some ⟨q, 0, none⟩))) { s with other := some g1 } ps := by
  obtain ⟨Tm, To, Tp, pm, po, pp, vt, vo, hs0⟩ := h.sm
  have hs := hs0.below hb
  have hn : ∀ k, T1 k ≠ 0 → own (fun _ => 0) w k := fun k hk => .inr (n1 k hk)
  have hk : ∀ {d k : Nat}, C k = d → d ≠ 0 → d ≠ 5 → reC C 5 T1 k = d := fun e h0 hd => reC_keep hs0.lt (T := fun _ => 0) (fun k hk => absurd rfl hk) hn e h0 hd
  have hp : reC C 5 T1 p = 1 := hk hs.cp (by decide) (by decide)
  have lt' : ∀ k, reC C 5 T1 k ≠ 0 → k < w1.heap.size := fun k hk2 => by
    rcases reC_from hk2 with e | e
    · exact hg.lt k e
    · exact hs.lt k e
  have n' : ∀ k, reC C 5 T1 k ≠ 0 → own C w k := fun k hk2 => by
    rcases reC_from hk2 with e | e
    · exact .inr (n1 k e)
    · exact .inl e
  have K2 : Keep (reC C 5 T1) 1 w1 (w1.setCell ⟨p, 11, none⟩ (.pointer (some ⟨q, 0, none⟩))) := .of_gb (gb_set (gb_refl _ (some p)) 11 _) (fun k hk => by injection hk with hk; subst hk; exact .inl hp)
  have g : Pre C w (reC C 5 T1) (w1.setCell ⟨p, 11, none⟩ (.pointer (some ⟨q, 0, none⟩))) := ⟨own_trans (Within.of_below hb) n' (K2.own (by decide)), n'⟩
  exact ⟨_, h.step g ⟨Tm, T1, Tp, pm, some q, pp, vt, vo, ⟨fun k hk2 => Nat.lt_of_lt_of_le (lt' k hk2) K2.wi.size, hp, blk_set hs.blk 11 _, K2.gm hs.gm (fun k e => hk (hs.t4 k e) (by decide) (by decide)) (by decide), .inr ⟨q, g1, rfl, rfl, K2.gm hg (fun k e => reC_new e) (by decide)⟩, K2.rest hs.rp (fun k e => hk (hs.t6 k e) (by decide) (by decide)) (by decide),
    K2.row hs.ta (fun k e => hk (hs.t2 k e) (by decide) (by decide)) (by decide), K2.row hs.ou (fun k e => hk (hs.t3 k e) (by decide) (by decide)) (by decide), fun k e => hk (hs.t2 k e) (by decide) (by decide), fun k e => hk (hs.t3 k e) (by decide) (by decide), fun k e => hk (hs.t4 k e) (by decide) (by decide), fun k e => reC_new e, fun k e => hk (hs.t6 k e) (by decide) (by decide)⟩⟩, g⟩
end
theorem turnS_any {B : World} {C : Nat → Nat} {p : Nat} {w : World} {s : Scr} {ps : PSt} (h : SR B C p w s ps) (on : Bool) :
    Calls Tryz.prog 237 #[.pointer (some ⟨p, 0, none⟩), .bool on] w fun e w' => e = .returned (.tuple #[]) ∧ Does B C p w w' (s.swap on) ps := by
  rcases h.oth with ⟨c11, hno⟩ | ⟨qo, c11, hno⟩
  · cases on
    · skip
      have HD := Lib.hid (show Does B C p w w (s.swap false) ps by
        have e : s.swap false = s := by unfold Scr.swap; rw [if_pos (by revert hno; cases s.other <;> simp)]
        rw [e]; exact .refl h)
      clear h hno
      go_enter Tryz.func237, Tryz.ntmps237
      go_wp2_with fail
      refine ret0 rfl rfl ?_
      exact ⟨rfl, HD.out⟩
    · skip
      have HE := Lib.hid (show s.swap true = ((({ s with other := some (newG s.main.cols s.main.rows.length 0) } : Scr).mode 256 true).whole).calm by
        unfold Scr.swap
        rw [if_neg (by revert hno; cases s.other <;> simp)]; rfl)
      have f11 := h.fz 11
      have HR := Lib.hid h
      obtain ⟨h1, p1⟩ := h.noOther
      clear h hno
      go_enter Tryz.func237, Tryz.ntmps237
      have H1 := Lib.hid h1
      have P0 := Lib.hid p1
      have HN := Lib.hid h1.wf
      clear h1 p1
      go_upto_region 2 with fail
      generalize w.setCell ⟨p, 11, none⟩ (.pointer none) = w1 at *
      go_wp2_with fail
      refine (colsS_any H1.out).mono ?_
      rintro e w2 ⟨rfl, rfl⟩
      go_wp2_with fail
      refine (rowsS_any H1.out).mono ?_
      rintro e w2 ⟨rfl, rfl⟩
      go_wp2_with fail
      refine (newGrid_any s.main.cols s.main.rows.length 0 w2 HN.out.c1 HN.out.c2 HN.out.r1 HN.out.r2 (by decide)).mono ?_
      rintro e w3 ⟨q, T, rfl, b3, g3, n3⟩
      have c11 : w3.cell? ⟨p, 11, none⟩ = some (.pointer none) := by
        rcases H1.out.oth with ⟨c11, _⟩ | ⟨_, _, hno⟩
        · exact cell_below b3 c11
        · cases hno
      have f11' := (H1.out.below b3).fz 11
      obtain ⟨C1, h1, p1'⟩ := H1.out.newOther b3 g3 n3
      have p1 := P0.out.trans p1'
      clear p1' b3 g3 n3
      have HD1 := Lib.hid h1
      have P1 := Lib.hid p1
      clear h1 p1
      go_wp2_with fail
      refine (modeS_any HD1.out 256 true).mono ?_
      rintro e w4 ⟨rfl, C2, h2, p2⟩
      have HD2 := Lib.hid h2
      have P2 := Lib.hid (P1.out.trans p2)
      clear h2 p2
      go_wp2_with fail
      refine (wholeS_any HD2.out).mono ?_
      rintro e w5 ⟨rfl, C3, h3, p3⟩
      have c2 := h3.at_ 2 (.bool _)
      have f2 := h3.fz 2
      obtain ⟨h4, p4⟩ := h3.set 2 (.bool false) (Scr.calm _)
      have HD4 := Lib.hid (show Does B C p w _ _ ps from ⟨_, h4, (P2.out.trans p3).trans p4⟩)
      clear h3 p3 h4 p4
      go_wp2_with fail
      go_end0
      refine ⟨rfl, ?_⟩
      rw [HE.out]
      exact HD4.out
  · cases on
    · skip
      have HE := Lib.hid (show s.swap false = ((({ s with other := none } : Scr).mode 256 false).whole).calm by
        unfold Scr.swap
        rw [if_neg (by revert hno; cases s.other <;> simp)]; rfl)
      have f11 := h.fz 11
      have HR := Lib.hid h
      obtain ⟨h1, p1⟩ := h.noOther
      clear h hno
      go_enter Tryz.func237, Tryz.ntmps237
      have HD1 := Lib.hid h1
      have P1 := Lib.hid p1
      clear h1 p1
      go_wp2_with fail
      refine (modeS_any HD1.out 256 false).mono ?_
      rintro e w4 ⟨rfl, C2, h2, p2⟩
      have HD2 := Lib.hid h2
      have P2 := Lib.hid (P1.out.trans p2)
      clear h2 p2
      go_wp2_with fail
      refine (wholeS_any HD2.out).mono ?_
      rintro e w5 ⟨rfl, C3, h3, p3⟩
      have c2 := h3.at_ 2 (.bool _)
      have f2 := h3.fz 2
      obtain ⟨h4, p4⟩ := h3.set 2 (.bool false) (Scr.calm _)
      have HD4 := Lib.hid (show Does B C p w _ _ ps from ⟨_, h4, (P2.out.trans p3).trans p4⟩)
      clear h3 p3 h4 p4
      go_wp2_with fail
      go_end0
      refine ⟨rfl, ?_⟩
      rw [HE.out]
      exact HD4.out
    · skip
      have HD := Lib.hid (show Does B C p w w (s.swap true) ps by
        have e : s.swap true = s := by unfold Scr.swap; rw [if_pos (by revert hno; cases s.other <;> simp)]
        rw [e]; exact .refl h)
      clear h hno
      go_enter Tryz.func237, Tryz.ntmps237
      go_wp2_with fail
      refine ret0 rfl rfl ?_
      exact ⟨rfl, HD.out⟩
end Go.Proofs.YtlfdgkiliegaiaaGreatDoor

/- Walks of package screen: E's, tab stops, softly anew. -/
namespace Go.Proofs.YtlfdgkiliegaiaaGreatDoor
open Go.RowKit
set_option maxRecDepth 100000

theorem fillS_any {B : World} {C : Nat → Nat} {p c r : Nat} {w : World} {s : Scr} {ps : PSt} (h : SR B C p w s ps) (hok : s.Ok c r) :
    Calls Tryz.prog 159 #[.pointer (some ⟨p, 0, none⟩)] w fun e w' => e = .returned (.tuple #[]) ∧ Does B C p w w' s.fill ps := by
  have hn := h.nums hok
  have HCC := Lib.hid (hn.ok hok).1
  have HRR := Lib.hid (hn.ok hok).2
  have HN := Lib.hid hn
  have HOK := Lib.hid ((hok.whole (by rw [(hn.ok hok).2]; exact hn.r1)).place (by rw [(hn.ok hok).1]; exact hn.c1) (by rw [(hn.ok hok).2]; exact hn.r1) 0 0)
  have HFL := Lib.hid (show s.fill = ((s.whole).place 0 0).turn (fun g => fillAll g c r) by unfold Scr.fill; rw [HCC.out, HRR.out])
  have HW := Lib.hid (wholeS_any h)
  clear hn h hok
  go_enter Tryz.func159, Tryz.ntmps159
  go_wp2_with fail
  refine HW.out.mono ?_
  rintro e w2 ⟨rfl, C2, h2, p2⟩
  have H2 := Lib.hid h2
  have P2 := Lib.hid p2
  clear h2 p2 HW
  go_wp2_with fail
  refine (placeS_any H2.out 0 0).mono ?_
  rintro e w3 ⟨rfl, C3, h3, p3⟩
  have H3 := Lib.hid h3
  have P3 := Lib.hid (P2.out.trans p3)
  clear h3 p3 H2 P2
  generalize (s.whole).place 0 0 = u at *
  have HCU := Lib.hid (show u.main.cols = c from HOK.out.main.1)
  have HRU := Lib.hid (show u.main.rows.length = r from HOK.out.main.2)
  go_wp2_with fail
  refine (rowsS_any H3.out).mono ?_
  rintro e w4 ⟨rfl, rfl⟩
  rw [HRU.out]
  have HR120 := Lib.hid (show r ≤ 120 by rw [HRR.out]; exact HN.out.r2)
  have HC250 := Lib.hid (show c ≤ 250 by rw [HCC.out]; exact HN.out.c2)
  go_wp2_with fail
  go_loopw [10] (fun iv wr => ∃ (y : Nat) (C1 : Nat → Nat), y ≤ r ∧ iv = .int .i64 y ∧ Hid (SR B C1 p wr (u.turn (fun g => fillAll g c y)) ps) ∧ Hid (Pre C w C1 wr)) (fun iv _ => r - (intOf iv).toNat)
  case atStart => exact ⟨0, C3, Nat.zero_le _, rfl, Lib.hid (by rw [show (fun g => fillAll g c 0) = fun g => g from rfl, turn_id]; exact H3.out), P3⟩
  case round =>
    obtain ⟨y, C1, hy, rfl, H4, P4⟩ := hrel
    by_cases hlt : y < r
    rotate_left
    · obtain rfl : y = r := by omega
      have HD := Lib.hid (show Does B C p w wr s.fill ps by rw [HFL.out]; exact ⟨C1, H4.out, P4.out⟩)
      go_wp2_with fail
      go_end0
      exact ⟨rfl, HD.out⟩
    have HO4 := Lib.hid (show (u.turn (fun g => fillAll g c y)).Ok c r from HOK.out.turn _ fun g hg => fillAll_same hg _ _)
    have HM4 := Lib.hid HO4.out.main.1
    have hy120 : y < 120 := by have := HR120.out; omega
    go_wp2_with fail
    refine (colsS_any H4.out).mono ?_
    rintro e w5 ⟨rfl, rfl⟩
    rw [HM4.out]
    go_wp2_with fail
    go_loopw [15] (fun iv wr => ∃ (x : Nat) (C5 : Nat → Nat), x ≤ c ∧ iv = .int .i64 x ∧ Hid (SR B C5 p wr (u.turn (fun g => fillE (fillAll g c y) y x)) ps) ∧ Hid (Pre C w C5 wr)) (fun iv _ => c - (intOf iv).toNat)
    case atStart => exact ⟨0, C1, Nat.zero_le _, rfl, H4, P4⟩
    case round =>
      obtain ⟨x, C5, hx, rfl, H5, P5⟩ := hrel
      obtain ⟨T, q, hg, hq, hk⟩ := H5.out.grid
      have HG := Lib.hid hg
      have HQ := Lib.hid hq
      have HK := Lib.hid hk
      clear hg hq hk
      by_cases hlx : x < c
      · have hx250 : x < 250 := by have := HC250.out; omega
        go_wp2_with fail
        refine (shownS_any HQ.out).mono ?_
        rintro e w6 ⟨rfl, rfl⟩
        go_wp2_with fail
        refine (plain_any _).mono ?_
        rintro e w7 ⟨rfl, b7⟩
        have HB7 := Lib.hid b7
        clear b7
        unfold Sty.val plainS
        go_wp2_with fail
        refine (put_any (HG.out.below HB7.out) x y ⟨69, 1, plainS⟩ right_plain ⟨by decide, by decide⟩).mono ?_
        rintro e w8 ⟨rfl, hw8, g8⟩
        obtain ⟨d8, _⟩ := HK.out _ _ _ (fun g => g.put x y ⟨69, 1, plainS⟩) HB7.out hw8 g8 (fun k hk => .inl hk)
        rw [turn_turn] at d8
        obtain ⟨C6, h6, p6⟩ := d8
        have H6 := Lib.hid h6
        have P6 := Lib.hid (P5.out.trans p6)
        clear hw8 g8 h6 p6
        go_wp2_with fail
        go_roundw
        case rel => exact ⟨x + 1, C6, by omega, by go_num, H6, P6⟩
        case measure => simp [intOf]; omega
      · obtain rfl : x = c := by omega
        go_wp2_with fail
        refine (shownS_any HQ.out).mono ?_
        rintro e w6 ⟨rfl, rfl⟩
        go_wp2_with fail
        refine (wrap_any HG.out y false).mono ?_
        rintro e w8 ⟨rfl, hw8, g8⟩
        obtain ⟨d8, _⟩ := HK.out _ _ _ (fun g => g.setWrap y false) (Below.refl _ _) hw8 g8 (fun k hk => .inl hk)
        rw [turn_turn] at d8
        obtain ⟨C6, h6, p6⟩ := d8
        have H6 := Lib.hid h6
        have P6 := Lib.hid (P5.out.trans p6)
        clear hw8 g8 h6 p6
        go_wp2_with fail
        go_roundw
        case rel => exact ⟨y + 1, C6, by omega, by go_num, H6, P6⟩
        case measure => simp [intOf]; omega
theorem blk_alloc_same {w : World} {p : Nat} (h : p < w.heap.size) (o : Obj) : (w.alloc o).heap[p]? = w.heap[p]? := by
  obtain ⟨x, hx⟩ : ∃ x, w.heap[p]? = some x := ⟨_, Array.getElem?_eq_getElem h⟩
  rw [hx]; exact blk_alloc hx o
theorem frozen_heap {w w' : World} {p : Nat} (h : w'.heap[p]? = w.heap[p]?) (i : Nat) : w'.frozen? ⟨p, i, none⟩ = w.frozen? ⟨p, i, none⟩ := by
  unfold World.frozen?
  rw [h]
theorem bools_elem : Elem Tryz.prog 87 4 1 1 (.bool false) := ⟨Tryz.underlying87, by kernel_rfl, rfl, by decide⟩
def stopB (n : Nat) : Bool := decide (0 < n ∧ n % 8 = 0)
def stopsTo (t : List Bool) (n : Nat) : List Bool := t ++ (List.range' t.length (n - t.length)).map stopB
theorem stopsTo_len (t : List Bool) (n : Nat) (h : t.length ≤ n) : (stopsTo t n).length = n := by
  unfold stopsTo; rw [List.length_append, List.length_map, List.length_range']; omega
theorem stopsTo_succ (t : List Bool) (n : Nat) (h : t.length ≤ n) : stopsTo t (n + 1) = stopsTo t n ++ [stopB n] := by
  unfold stopsTo
  rw [show n + 1 - t.length = (n - t.length) + 1 by omega, List.range'_concat, List.map_append, List.append_assoc]
  rw [show t.length + 1 * (n - t.length) = n by omega]; rfl
theorem stopsTo_end (t : List Bool) (n c : Nat) (h2 : c ≤ n) (h3 : n ≤ c ∨ n = t.length) : (stopsTo t n).take c = stopsL t c := by
  unfold stopsTo stopsL
  rcases h3 with h3 | h3
  · rw [show n = c by omega]; rfl
  · rw [h3, Nat.sub_self, show c - t.length = 0 by omega]; rfl
theorem stopsS_any {B : World} {C : Nat → Nat} {p : Nat} {w : World} {s : Scr} {ps : PSt} (h : SR B C p w s ps) (hl : s.tabs.length ≤ 1000) :
    Calls Tryz.prog 48 #[.pointer (some ⟨p, 0, none⟩)] w fun e w' => e = .returned (.tuple #[]) ∧ Does B C p w w' s.stops ps := by
  have HW := Lib.hid h.wf
  obtain ⟨vt, ct, ot, _, _⟩ := h.tabs
  have hlen := ownC_len Tryz.underlying87 ot
  have HR := Lib.hid h
  have HM := Lib.hid (show ∀ t : List Bool, ({ s with tabs := t } : Scr).main.cols = s.main.cols from fun _ => rfl)
  clear ot h
  obtain ⟨c, hc⟩ : ∃ c, c = s.main.cols := ⟨_, rfl⟩
  have HC := Lib.hid hc
  have HC250 := Lib.hid (show c ≤ 250 by rw [hc]; exact HW.out.c2)
  have HST := Lib.hid (show s.stops = { s with tabs := stopsL s.tabs c } by rw [hc]; rfl)
  clear hc
  go_enter Tryz.func48, Tryz.ntmps48
  go_wp2_with fail
  go_loopw [2] (fun iv wr => ∃ (n : Nat) (C1 : Nat → Nat), iv = .int .i64 n ∧ s.tabs.length ≤ n ∧ n ≤ 1000 ∧ (n ≤ c ∨ n = s.tabs.length) ∧ Hid (SR B C1 p wr { s with tabs := stopsTo s.tabs n } ps) ∧ Hid (Pre C w C1 wr)) (fun iv _ => c - (intOf iv).toNat)
  case atStart => exact ⟨s.tabs.length, C, rfl, Nat.le_refl _, hl, .inr rfl, Lib.hid (by
    rw [show stopsTo s.tabs s.tabs.length = s.tabs by unfold stopsTo; rw [Nat.sub_self]; simp]; exact HR.out), Lib.hid (Pre.refl _ _)⟩
  case round =>
    obtain ⟨n, C1, rfl, hn1, hn2, hn3, H1, P1⟩ := hrel
    have HC1 := Lib.hid (colsS_any H1.out)
    obtain ⟨v1, c1, o1, t1, hk1⟩ := H1.out.tabs
    have HK1 := Lib.hid hk1
    have HT1 := Lib.hid t1
    have HO1 := Lib.hid (show OwnC wr 0 1 v1 n ((stopsTo s.tabs n).map Value.bool) by
      have := o1
      rw [show ({ s with tabs := stopsTo s.tabs n } : Scr).tabs.length = n from stopsTo_len s.tabs n hn1] at this
      exact this)
    obtain ⟨x1, m1, cp1, rfl⟩ := ownC_form HO1.out
    clear o1 hk1 t1 ct hlen
    by_cases hlt : n < c
    · have hltI : (n : Int) < c := by omega
      have d1 : decide ((n : Int) < (c : Int)) = true := decide_eq_true hltI
      have HB := Lib.hid (show ∀ (b : Bool), b = stopB n → ∀ w6 x6 m6 c6, OwnC w6 0 1 (.slice x6 m6 c6) (n + 1) ((stopsTo s.tabs n).map Value.bool ++ [.bool b]) → OwnC w6 0 1 (.slice x6 m6 c6) (stopsTo s.tabs (n + 1)).length ((stopsTo s.tabs (n + 1)).map Value.bool) from fun b hb w6 x6 m6 c6 o6 => by
        rw [stopsTo_len _ _ (by omega), stopsTo_succ _ _ hn1, List.map_append, ← hb]; exact o6)
      go_wp2_with fail
      refine HC1.out.mono ?_
      rintro e w5 ⟨rfl, rfl⟩
      rw [show ({ s with tabs := stopsTo s.tabs n } : Scr).main.cols = c from HC.out.symm]
      have f35 := H1.out.fz 35
      go_upto_region 3 with fail
      have hn0 : (0 < n) ∨ n = 0 := by omega
      obtain ⟨bn, hbn⟩ : ∃ b, b = stopB n := ⟨_, rfl⟩
      have HBN := Lib.hid hbn
      clear hbn
      rcases hn0 with hn0 | hn0
      · have d2 : decide (0 < (n : Int)) = true := decide_eq_true (by omega)
        have d2' : decide (0 < n) = true := decide_eq_true hn0
        have HBN := Lib.hid (show ((n : Int) % 8 == 0) = stopB n by
          unfold stopB
          by_cases h8 : n % 8 = 0
          · rw [decide_eq_true ⟨hn0, h8⟩, show ((n : Int) % 8 == 0) = true from beq_iff_eq.2 (by omega)]
          · rw [decide_eq_false (fun e => h8 e.2), show ((n : Int) % 8 == 0) = false from beq_eq_false_iff_ne.2 (by omega)])
        go_wp2_with (at_builtin; refine held ?_)
        unfold Held
        refine wpList_appD bools_elem rfl rfl 0 (ownC_alloc HO1.out _) rfl (reads_one _ _ _) rfl (by intro u hu; simp at hu; subst hu; rfl) (by unfold maxLen; omega) (by omega) (by omega) ?_
        intro v6 w6 o6 g6 n6
        obtain ⟨x6, m6, c6, rfl⟩ := ownC_form o6
        have o7 := HB.out _ HBN.out w6 x6 m6 c6 o6
        obtain ⟨C7, h7, p7⟩ := HK1.out _ w6 _ (stopsTo s.tabs (n + 1)) (World.grownBy_alloc w5 _ none) g6 o7 n6
        have H7 := Lib.hid h7
        have P7 := Lib.hid (P1.out.trans p7)
        have b6 : w6.heap[p]? = w5.heap[p]? := by
          rw [g6.block p (by have := H1.out.pl; simp; omega) (fun e => (HT1.out p e.symm).2 rfl)]
          exact blk_alloc_same H1.out.pl _
        have c6' := (cell_heap b6 35).trans c1
        have f6 := (frozen_heap b6 35).trans f35
        clear o6 g6 n6 o7 h7 p7 b6 f35 c1
        go_wp2_with fail
        go_roundw
        case rel => exact ⟨n + 1, C7, by go_num, by omega, by have := HC250.out; omega, .inl (by omega), H7, P7⟩
        case measure => simp [intOf]; omega
      · subst hn0
        have HBN := Lib.hid (show false = stopB 0 from rfl)
        go_wp2_with (at_builtin; refine held ?_)
        unfold Held
        refine wpList_appD bools_elem rfl rfl 0 (ownC_alloc HO1.out _) rfl (reads_one _ _ _) rfl (by intro u hu; simp at hu; subst hu; rfl) (by unfold maxLen; omega) (by omega) (by omega) ?_
        intro v6 w6 o6 g6 n6
        obtain ⟨x6, m6, c6, rfl⟩ := ownC_form o6
        have o7 := HB.out _ HBN.out w6 x6 m6 c6 o6
        obtain ⟨C7, h7, p7⟩ := HK1.out _ w6 _ (stopsTo s.tabs (0 + 1)) (World.grownBy_alloc w5 _ none) g6 o7 n6
        have H7 := Lib.hid h7
        have P7 := Lib.hid (P1.out.trans p7)
        have b6 : w6.heap[p]? = w5.heap[p]? := by
          rw [g6.block p (by have := H1.out.pl; simp; omega) (fun e => (HT1.out p e.symm).2 rfl)]
          exact blk_alloc_same H1.out.pl _
        have c6' := (cell_heap b6 35).trans c1
        have f6 := (frozen_heap b6 35).trans f35
        clear o6 g6 n6 o7 h7 p7 b6 f35 c1
        go_wp2_with fail
        go_roundw
        case rel => exact ⟨0 + 1, C7, by go_num, by omega, by have := HC250.out; omega, .inl (by omega), H7, P7⟩
        case measure => simp [intOf]; omega
    · have d1 : decide ((n : Int) < (c : Int)) = false := decide_eq_false (by omega)
      have d1' : decide (n < c) = false := decide_eq_false hlt
      obtain ⟨v9, hsl, otk, hob⟩ := ownC_take (P := Tryz.prog) Tryz.underlying87 bool_info HO1.out c (by omega)
      obtain ⟨x9, m9, c9, rfl⟩ := ownC_form otk
      have HSE := Lib.hid (stopsTo_end s.tabs n c (by omega) hn3)
      have hbd : wr.grownBy wr.drew none := gb_drew (gb_refl _ _)
      obtain ⟨C7, h7, p7⟩ := HK1.out wr.drew wr.drew _ (stopsL s.tabs c) hbd (gb_refl _ _) (by
        rw [← List.map_take, HSE.out] at otk
        have hl9 : (stopsL s.tabs c).length = c := stopsL_len _ _
        rw [hl9]
        exact ownC_below otk (Below.refl _ _).drew) (fun k e => .inl (by rw [← hob]; exact e))
      have HD := Lib.hid (show Does B C p w _ s.stops ps by rw [HST.out]; exact ⟨C7, h7, P1.out.trans p7⟩)
      have c35 : wr.drew.cell? ⟨p, 35, none⟩ = some (.slice x1 m1 cp1) := c1
      have f35 : wr.drew.frozen? ⟨p, 35, none⟩ = false := H1.out.fz 35
      have HCD := Lib.hid (colsS_any (H1.out.below (Below.refl _ _).drew))
      clear otk hob h7 p7 hbd
      go_wp2_with fail
      refine HC1.out.mono ?_
      rintro e w5 ⟨rfl, rfl⟩
      rw [show ({ s with tabs := stopsTo s.tabs n } : Scr).main.cols = c from HC.out.symm]
      go_upto_region 4 with fail
      go_still_tail 10, (by kernel_rfl)
      still_call HCD.out
      rw [show ({ s with tabs := stopsTo s.tabs n } : Scr).main.cols = c from HC.out.symm]
      repeat still_step
      refine wpStill_nil ?_
      change wpList _ _ _ _ _ w5.drew
      go_wp2_with fail
      go_end0
      exact ⟨rfl, HD.out⟩
end Go.Proofs.YtlfdgkiliegaiaaGreatDoor

/- A screen that is made anew. -/
namespace Go.Proofs.YtlfdgkiliegaiaaGreatDoor
open Go.RowKit

def madeC (p : Nat) (vo : Value) (T1 Tp : Nat → Nat) : Nat → Nat := fun k => if k = p then 1 else if vo.ownBlock = some k then 3 else if T1 k ≠ 0 then 4 else if Tp k ≠ 0 then 6 else 0
theorem made_scr {B : World} {C T1 Tp : Nat → Nat} {p q1 pp : Nat} {w w1 w2 : World} {s : Scr} {ps : PSt} {vo : Value} (hlt : ∀ k, C k ≠ 0 → k < w.heap.size) (cp : C p = 1) (hi : ∀ k, C k ≠ 0 → B.heap.size ≤ k) (tb : Tabs B) (bl : Below B.heap.size B w)
    (ou : OwnC w 0 1 vo s.out.length (byteVals s.out)) (t3 : ∀ k, vo.ownBlock = some k → C k = 3) (hb : Below w.heap.size w w1) (hg : GM T1 q1 w1 s.main) (n1 : ∀ k, T1 k ≠ 0 → w.heap.size ≤ k) (hp : Rest Tp pp w1 ps) (np : ∀ k, Tp k ≠ 0 → w.heap.size ≤ k) (nd : ∀ k, Tp k ≠ 0 → T1 k = 0)
    (g2 : w1.grownBy w2 (some p)) (hblk : w2.heap[p]? = some (.cells (s.cells q1 none pp nilS vo) 90 (0, 0))) (ho : s.other = none) (ht : s.tabs = []) : Does B C p w w2 s ps := by
  have hpl : p < w.heap.size := hlt p (by rw [cp]; decide)
  have hvl : ∀ k, vo.ownBlock = some k → k < w.heap.size := fun k e => (ownC_lt ou k e).2
  have hvp : vo.ownBlock ≠ some p := fun e => by have := t3 p e; rw [cp] at this; exact absurd this (by decide)
  have c1 : madeC p vo T1 Tp p = 1 := by unfold madeC; rw [if_pos rfl]
  have c3 : ∀ k, vo.ownBlock = some k → madeC p vo T1 Tp k = 3 := fun k e => by
    unfold madeC; rw [if_neg (fun e2 => hvp (by rw [e, e2])), if_pos e]
  have c4 : ∀ k, T1 k ≠ 0 → madeC p vo T1 Tp k = 4 := fun k e => by
    have := n1 k e
    unfold madeC; rw [if_neg (by omega), if_neg (fun e2 => by have := hvl k e2; omega), if_pos e]
  have c6 : ∀ k, Tp k ≠ 0 → madeC p vo T1 Tp k = 6 := fun k e => by
    have := np k e
    unfold madeC; rw [if_neg (by omega), if_neg (fun e2 => by have := hvl k e2; omega), if_neg (fun e2 => e2 (nd k e)), if_pos e]
  have from' : ∀ k, madeC p vo T1 Tp k ≠ 0 → k = p ∨ vo.ownBlock = some k ∨ T1 k ≠ 0 ∨ Tp k ≠ 0 := fun k hk => by
    unfold madeC at hk
    by_cases h1 : k = p
    · exact .inl h1
    · rw [if_neg h1] at hk
      by_cases h2 : vo.ownBlock = some k
      · exact .inr (.inl h2)
      · rw [if_neg h2] at hk
        by_cases h3 : T1 k ≠ 0
        · exact .inr (.inr (.inl h3))
        · rw [if_neg h3] at hk
          by_cases h4 : Tp k ≠ 0
          · exact .inr (.inr (.inr h4))
          · rw [if_neg h4] at hk; exact absurd rfl hk
  have hs2 : w.heap.size ≤ w2.heap.size := Nat.le_trans hb.size g2.size
  have K : Keep (madeC p vo T1 Tp) 1 w1 w2 := .of_gb g2 (fun k e => by injection e with e; subst e; exact .inl c1)
  have sm : SAt (madeC p vo T1 Tp) T1 (fun _ => 0) Tp p q1 none pp nilS vo w2 s ps := by
    refine ⟨fun k hk => ?_, c1, hblk, K.gm hg c4 (by decide), .inl ⟨rfl, ho, fun _ => rfl⟩, K.rest hp c6 (by decide), ?_, K.row (ownC_below ou hb) c3 (by decide), fun k e => ?_, c3, c4, fun k e => absurd rfl e, c6⟩
    · rcases from' k hk with e | e | e | e
      · omega
      · have := hvl k e; omega
      · exact Nat.lt_of_lt_of_le (hg.lt k e) g2.size
      · exact Nat.lt_of_lt_of_le (hp.1 k e) g2.size
    · rw [ht]; exact ownC_nil _ _ _
    · simp [nilS, Value.ownBlock] at e
  have g : Pre C w (madeC p vo T1 Tp) w2 := ⟨(Within.of_below hb).trans (Within.of_gb g2 (fun k e => by injection e with e; subst e; exact .inl (by rw [cp]; decide))), fun k hk => by
    rcases from' k hk with e | e | e | e
    · exact .inl (by rw [e, cp]; decide)
    · exact .inl (by rw [t3 k e]; decide)
    · exact .inr (n1 k e)
    · exact .inr (np k e)⟩
  exact ⟨_, ⟨⟨_, _, _, _, _, _, _, _, sm⟩, tb, bl.trans (own_below g.wi bl.size hi), own_from g.n bl.size hi⟩, g⟩
end Go.Proofs.YtlfdgkiliegaiaaGreatDoor

/- Walks of package screen: begun anew, made. -/
namespace Go.Proofs.YtlfdgkiliegaiaaGreatDoor
open Go.RowKit
set_option maxRecDepth 100000

/-- A screen that is being made: its main grid, its bell, what is answered. -/
structure Half (B : World) (C : Nat → Nat) (p : Nat) (w : World) (g : Gr) (bells : Int) (out : List UInt8) : Prop where
  lt : ∀ k, C k ≠ 0 → k < w.heap.size
  cp : C p = 1
  hi : ∀ k, C k ≠ 0 → B.heap.size ≤ k
  tb : Tabs B
  bl : Below B.heap.size B w
  ex : ∃ cs Tm pm vo, w.heap[p]? = some (.cells cs 90 (0, 0)) ∧ cs.size = 41 ∧ cs[10]? = some (.pointer (some ⟨pm, 0, none⟩)) ∧ cs[38]? = some (.int .i64 bells) ∧ cs[40]? = some vo ∧ GM Tm pm w g ∧ OwnC w 0 1 vo out.length (byteVals out) ∧ (∀ k, vo.ownBlock = some k → C k = 3)
theorem SR.half {B : World} {C : Nat → Nat} {p : Nat} {w : World} {s : Scr} {ps : PSt} (h : SR B C p w s ps) : Half B C p w s.main s.bells s.out := by
  obtain ⟨Tm, To, Tp, pm, po, pp, vt, vo, hs⟩ := h.sm
  exact ⟨hs.lt, hs.cp, h.hi, h.tb, h.bl, _, Tm, pm, vo, hs.blk, rfl, rfl, rfl, rfl, hs.gm, hs.ou, hs.t3⟩
def resetS (g : Gr) (bells : Int) (out : List UInt8) : Scr := ⟨sav0, newG g.cols g.rows.length g.limit, none, sav0, sav0, 9, 0, 0, [], [], 0, bells, out⟩
theorem fresh_lit (w : World) : Calls Tryz.prog 84 #[] w fun e w' => e = .returned (.agg #[.int .i64 0, .int .i64 0, .bool false, .int .i64 (-1), .int .i64 (-1), .int .i64 0, .bool false, .bool false, .bool false, .int .i64 0]) ∧ Below w.heap.size w w' := fresh_scr w
set_option maxHeartbeats 2000000 in
theorem resetH_any {B : World} {C : Nat → Nat} {p : Nat} {w : World} {g : Gr} {bells : Int} {out : List UInt8} (h : Half B C p w g bells out) :
    Calls Tryz.prog 44 #[.pointer (some ⟨p, 0, none⟩)] w fun e w' => e = .returned (.tuple #[]) ∧ Does B C p w w' (((resetS g bells out).stops).whole) s0 := by
  obtain ⟨cs, Tm, pm, vo, hb, hsz, e10, e38, e40, hg, ho, ht3⟩ := h.ex
  obtain ⟨xo, mo, co, rfl⟩ := ownC_form ho
  have c10 : w.cell? ⟨p, 10, none⟩ = some (.pointer (some ⟨pm, 0, none⟩)) := (blk_cell hb 10).trans e10
  have c38 : w.cell? ⟨p, 38, none⟩ = some (.int .i64 bells) := (blk_cell hb 38).trans e38
  have c40 : w.cell? ⟨p, 40, none⟩ = some (.slice xo mo co) := (blk_cell hb 40).trans e40
  have HB := Lib.hid hb
  have HSZ := Lib.hid hsz
  have HG := Lib.hid hg
  have HO := Lib.hid ho
  have HT3 := Lib.hid ht3
  have HH := Lib.hid h
  have HPL := Lib.hid (heap_lt hb)
  clear hb hsz e10 e38 e40 hg ho ht3 h
  go_enter Tryz.func44, Tryz.ntmps44
  go_upto_region 0 with fail
  go_region_held3 (fun w' => w'.cell? ⟨p, 10, none⟩ = some (.pointer (some ⟨pm, 0, none⟩))) (first | exact c10 | exact z0)
    (first
      | (go_at_call 29; refine (cols_any (HG.out.below (Below.refl _ _).drew)).mono ?_; rintro e wq ⟨rfl, rfl⟩)
      | (go_at_call 30; refine (rowsN_any (HG.out.below (Below.refl _ _).drew)).mono ?_; rintro e wq ⟨rfl, rfl⟩)
      | (go_at_call 32; refine (limit_any (HG.out.below (Below.refl _ _).drew)).mono ?_; rintro e wq ⟨rfl, rfl⟩)
      | (go_at_call 43; refine (newGrid_any g.cols g.rows.length g.limit w.drew HG.out.wf.c1 HG.out.wf.c2 HG.out.wf.r1 HG.out.wf.r2 HG.out.wf.li).mono ?_; rintro e w4 ⟨q1, T1, rfl, b4, g4, n4⟩; have HB4 := Lib.hid ((Below.refl w.heap.size w).drew.trans b4); have HG4 := Lib.hid g4; have HN4 := Lib.hid n4; have z0 := cell_below b4 c10; clear b4 g4 n4))
  have d38 : w4.cell? ⟨p, 38, none⟩ = some (.int .i64 bells) := cell_below HB4.out c38
  have d40 : w4.cell? ⟨p, 40, none⟩ = some (.slice xo mo co) := cell_below HB4.out c40
  clear c10 c38 c40 z0
  go_upto_region 1 with fail
  have e38 : w4.drew.cell? ⟨p, 38, none⟩ = some (.int .i64 bells) := d38
  have e40 : w4.drew.cell? ⟨p, 40, none⟩ = some (.slice xo mo co) := d40
  have HBd := Lib.hid (HB4.out.trans ((Below.refl w4.heap.size w4).drew.mono HB4.out.size))
  refine wpL_begin (c := 17) (S := (fun bb w' => (w'.cell? ⟨p, 38, none⟩ = some (.int .i64 bells) ∧ w'.cell? ⟨p, 40, none⟩ = some (.slice xo mo co)) ∧ (bb = false → True))) (by kernel_rfl) (⟨⟨e38, e40⟩, fun _ => trivial⟩) (fun _ => ?_)
  refine wpL_tk false 0 (⟨⟨e38, e40⟩, fun _ => trivial⟩) ?_
  refine wpL_tk false 2 (⟨⟨e38, e40⟩, fun _ => trivial⟩) ?_
  refine wpL_tk false 6 (⟨⟨e38, e40⟩, fun _ => trivial⟩) ?_
  refine wpL_tk false 7 (⟨⟨e38, e40⟩, fun _ => trivial⟩) ?_
  refine wpL_tk false 8 (⟨⟨e38, e40⟩, fun _ => trivial⟩) ?_
  refine wpL_tk false 9 (⟨⟨e38, e40⟩, fun _ => trivial⟩) ?_
  refine wpL_tk false 10 (⟨⟨e38, e40⟩, fun _ => trivial⟩) ?_
  refine wpL_tk false 11 (⟨⟨e38, e40⟩, fun _ => trivial⟩) ?_
  refine wpL_tk false 12 (⟨⟨e38, e40⟩, fun _ => trivial⟩) ?_
  refine wpL_tk false 13 (⟨⟨e38, e40⟩, fun _ => trivial⟩) ?_
  refine wpL_on false 1 fun K hK => ?_
  refine wanted_on rfl ?_
  go_wp2_with fail
  refine (fresh_lit w4.drew).mono ?_
  rintro e wa ⟨rfl, ba⟩
  have a38 := cell_below ba e38
  have a40 := cell_below ba e40
  have HBa := Lib.hid (HBd.out.trans (ba.mono HBd.out.size))
  have HWa := Lib.hid (show Below w4.heap.size w4 wa from (Below.refl w4.heap.size w4).drew.trans ba)
  refine hK.out _ _ (⟨⟨a38, a40⟩, fun _ => trivial⟩) (fun _ => ?_)
  clear hK K ba
  try simp only [Act.put, List.setIfInBounds_toArray, List.set_cons_zero, List.set_cons_succ]
  refine wpL_on false 3 fun K hK => ?_
  refine wanted_on rfl ?_
  go_wp2_with fail
  refine (fresh_lit wa).mono ?_
  rintro e wb ⟨rfl, bb⟩
  have b38 := cell_below bb a38
  have b40 := cell_below bb a40
  have HBb := Lib.hid (HBa.out.trans (bb.mono HBa.out.size))
  have HWb := Lib.hid (show Below w4.heap.size w4 wb from HWa.out.trans (bb.mono HWa.out.size))
  refine hK.out _ _ (⟨⟨b38, b40⟩, fun _ => trivial⟩) (fun _ => ?_)
  clear hK K bb
  try simp only [Act.put, List.setIfInBounds_toArray, List.set_cons_zero, List.set_cons_succ]
  refine wpL_on false 4 fun K hK => ?_
  refine wanted_on rfl ?_
  go_wp2_with fail
  refine (fresh_lit wb).mono ?_
  rintro e wc ⟨rfl, bc⟩
  have c38 := cell_below bc b38
  have c40 := cell_below bc b40
  have HBc := Lib.hid (HBb.out.trans (bc.mono HBb.out.size))
  have HWc := Lib.hid (show Below w4.heap.size w4 wc from HWb.out.trans (bc.mono HWb.out.size))
  refine hK.out _ _ (⟨⟨c38, c40⟩, fun _ => trivial⟩) (fun _ => ?_)
  clear hK K bc
  try simp only [Act.put, List.setIfInBounds_toArray, List.set_cons_zero, List.set_cons_succ]
  refine wpL_tk false 5 (⟨⟨c38, c40⟩, fun _ => trivial⟩) ?_
  refine wpL_on false 14 fun K hK => ?_
  refine wanted_on rfl ?_
  go_wp2_with fail
  refine (new_any wc).mono ?_
  rintro e wn ⟨pp, Tp, rfl, bn, rn, nn⟩
  have n38 := cell_below bn c38
  have n40 := cell_below bn c40
  have HBn := Lib.hid (HBc.out.trans (bn.mono HBc.out.size))
  have HW4c := Lib.hid (show Below w4.heap.size w4 wc from HWc.out)
  have HW4n := Lib.hid (show Below w4.heap.size w4 wn from HWc.out.trans (bn.mono HWc.out.size))
  have HRN := Lib.hid rn
  have HNN := Lib.hid nn
  refine hK.out _ _ (⟨⟨n38, n40⟩, fun _ => trivial⟩) (fun _ => ?_)
  clear hK K bn rn nn
  try simp only [Act.put, List.setIfInBounds_toArray, List.set_cons_zero, List.set_cons_succ]
  refine wpL_tk false 15 (⟨⟨n38, n40⟩, fun _ => trivial⟩) ?_
  refine wpL_tk false 16 (⟨⟨n38, n40⟩, fun _ => trivial⟩) ?_
  refine wpL_on true 17 fun K hK => ?_
  refine wanted_on rfl ?_
  have hst := run_storeVar_row (P := Tryz.prog) wn p 90 90 cs ((resetS g bells out).cells q1 none pp nilS (.slice xo mo co)) (blk_below HB.out HBn.out HPL.out) (by kernel_rfl) (by rw [HSZ.out]; rfl) (by simp [Scr.cells, Value.oneCell', ptrV, nilS, resetS])
  refine wp_storeR _ _ _ rfl hst rfl rfl ?_
  have hb9 := setRow_blk (cells := (resetS g bells out).cells q1 none pp nilS (.slice xo mo co)) (blk_below HB.out HBn.out HPL.out)
  have g9 := gb_setRow wn p ((resetS g bells out).cells q1 none pp nilS (.slice xo mo co))
  have hle : ∀ {a b : World}, Below a.heap.size a b → a.heap.size ≤ b.heap.size := fun h => h.size
  obtain ⟨C7, h7, p7⟩ := made_scr (s := resetS g bells out) HH.out.lt HH.out.cp HH.out.hi HH.out.tb HH.out.bl HO.out HT3.out HBn.out (HG4.out.below HW4n.out) (fun k hk => HN4.out k hk) HRN.out (fun k hk => Nat.le_trans HBc.out.size (HNN.out k hk)) (fun k hk => HG4.out.own0 (Nat.le_trans HW4c.out.size (HNN.out k hk))) g9 hb9 rfl rfl
  have H7 := Lib.hid h7
  have P7 := Lib.hid p7
  have r38 : (wn.setRow p ((resetS g bells out).cells q1 none pp nilS (.slice xo mo co))).cell? ⟨p, 38, none⟩ = some (.int .i64 bells) := blk_cell hb9 38
  have r40 : (wn.setRow p ((resetS g bells out).cells q1 none pp nilS (.slice xo mo co))).cell? ⟨p, 40, none⟩ = some (.slice xo mo co) := blk_cell hb9 40
  refine hK.out _ _ (⟨⟨r38, r40⟩, fun e => by cases e⟩) (fun _ => ?_)
  clear hK K hst hb9 g9 h7 p7
  try simp only [Act.put]
  refine wpL_done (by kernel_rfl) ?_ _
  clear r38 r40 n38 n40 c38 c40 b38 b40 a38 a40 d38 d40 e38 e40
  generalize wn.setRow p ((resetS g bells out).cells q1 none pp nilS (.slice xo mo co)) = w9 at *
  go_wp2_with fail
  refine (stopsS_any H7.out (by show (0 : Nat) ≤ 1000; decide)).mono ?_
  rintro e w10 ⟨rfl, C8, h8, p8⟩
  have H8 := Lib.hid h8
  have P8 := Lib.hid (P7.out.trans p8)
  clear h8 p8
  go_wp2_with fail
  refine (wholeS_any H8.out).mono ?_
  rintro e w11 ⟨rfl, d9⟩
  have HD := Lib.hid (Does.after P8.out d9)
  clear d9
  go_wp2_with fail
  go_end0
  exact ⟨rfl, HD.out⟩
end Go.Proofs.YtlfdgkiliegaiaaGreatDoor

/- Walks of package screen: made; softly anew. -/
namespace Go.Proofs.YtlfdgkiliegaiaaGreatDoor
open Go.RowKit
set_option maxRecDepth 100000

theorem resetS_any {B : World} {C : Nat → Nat} {p : Nat} {w : World} {s : Scr} {ps : PSt} (h : SR B C p w s ps) : Calls Tryz.prog 44 #[.pointer (some ⟨p, 0, none⟩)] w fun e w' => e = .returned (.tuple #[]) ∧ Does B C p w w' s.reset s0 := resetH_any h.half
theorem newScr_any (cols rows hist : Nat) (w : World) (h1 : 1 ≤ cols) (h2 : cols ≤ 250) (h3 : 1 ≤ rows) (h4 : rows ≤ 120) (h5 : hist ≤ 2000) (ht : Tabs w) :
    Calls Tryz.prog 12 #[.int .i64 cols, .int .i64 rows, .int .i64 hist] w fun e w' => ∃ p C, e = .returned (.tuple #[.pointer (some ⟨p, 0, none⟩), .int .i64 0]) ∧ SR w C p w' (newS cols rows hist) s0 := by
  have HT := Lib.hid ht
  have HN := Lib.hid (newGrid_any cols rows hist w h1 h2 h3 h4 h5)
  have HL := Lib.hid (show (newG cols rows hist).rows.length = rows by unfold newG freshL; exact List.length_replicate)
  clear ht h1 h2 h3 h4 h5
  go_enter Tryz.func12, Tryz.ntmps12
  go_wp2_with fail
  refine HN.out.mono ?_
  rintro e w2 ⟨q, T, rfl, b2, g2, n2⟩
  have HB2 := Lib.hid b2
  have HG2 := Lib.hid g2
  clear b2 g2 n2
  have hbk := blk_new w2 (.cells #[.int .i64 0, .int .i64 0, .bool false, .int .i64 0, .int .i64 0, .int .i64 0, .bool false, .bool false, .bool false, .int .i64 0, .pointer (some ⟨q, 0, none⟩), .pointer none, .int .i64 0, .int .i64 0, .bool false, .int .i64 0, .int .i64 0, .int .i64 0, .bool false, .bool false, .bool false, .int .i64 0, .int .i64 0, .int .i64 0, .bool false, .int .i64 0, .int .i64 0, .int .i64 0, .bool false, .bool false, .bool false, .int .i64 0, .int .i64 0, .int .i64 0, .int .i64 0, .slice none 0 0, .string ⟨#[]⟩, .int .i32 0, .int .i64 0, .pointer none, .slice none 0 0] 90)
  have hbb := (Below.refl w2.heap.size w2).alloc (Nat.le_refl _) (.cells #[.int .i64 0, .int .i64 0, .bool false, .int .i64 0, .int .i64 0, .int .i64 0, .bool false, .bool false, .bool false, .int .i64 0, .pointer (some ⟨q, 0, none⟩), .pointer none, .int .i64 0, .int .i64 0, .bool false, .int .i64 0, .int .i64 0, .int .i64 0, .bool false, .bool false, .bool false, .int .i64 0, .int .i64 0, .int .i64 0, .bool false, .int .i64 0, .int .i64 0, .int .i64 0, .bool false, .bool false, .bool false, .int .i64 0, .int .i64 0, .int .i64 0, .int .i64 0, .slice none 0 0, .string ⟨#[]⟩, .int .i32 0, .int .i64 0, .pointer none, .slice none 0 0] 90)
  have HH := Lib.hid (show Half w (fun k => if k = w2.heap.size then 1 else 0) w2.heap.size (w2.alloc (.cells #[.int .i64 0, .int .i64 0, .bool false, .int .i64 0, .int .i64 0, .int .i64 0, .bool false, .bool false, .bool false, .int .i64 0, .pointer (some ⟨q, 0, none⟩), .pointer none, .int .i64 0, .int .i64 0, .bool false, .int .i64 0, .int .i64 0, .int .i64 0, .bool false, .bool false, .bool false, .int .i64 0, .int .i64 0, .int .i64 0, .bool false, .int .i64 0, .int .i64 0, .int .i64 0, .bool false, .bool false, .bool false, .int .i64 0, .int .i64 0, .int .i64 0, .int .i64 0, .slice none 0 0, .string ⟨#[]⟩, .int .i32 0, .int .i64 0, .pointer none, .slice none 0 0] 90)) (newG cols rows hist) 0 [] from
    ⟨fun k hk => by
        by_cases e : k = w2.heap.size
        · rw [e]; simp
        · simp [e] at hk, by simp, fun k hk => by
        by_cases e : k = w2.heap.size
        · rw [e]; exact HB2.out.size
        · simp [e] at hk, HT.out, HB2.out.trans (hbb.mono HB2.out.size), _, T, q, .slice none 0 0, hbk, rfl, rfl, rfl, rfl, HG2.out.below hbb, ownC_nil _ _ _, fun k e => by simp [Value.ownBlock] at e⟩)
  clear hbk hbb
  go_upto_region 5 with fail
  generalize (w2.alloc (.cells #[.int .i64 0, .int .i64 0, .bool false, .int .i64 0, .int .i64 0, .int .i64 0, .bool false, .bool false, .bool false, .int .i64 0, .pointer (some ⟨q, 0, none⟩), .pointer none, .int .i64 0, .int .i64 0, .bool false, .int .i64 0, .int .i64 0, .int .i64 0, .bool false, .bool false, .bool false, .int .i64 0, .int .i64 0, .int .i64 0, .bool false, .int .i64 0, .int .i64 0, .int .i64 0, .bool false, .bool false, .bool false, .int .i64 0, .int .i64 0, .int .i64 0, .int .i64 0, .slice none 0 0, .string ⟨#[]⟩, .int .i32 0, .int .i64 0, .pointer none, .slice none 0 0] 90)) = w3 at *
  generalize w2.heap.size = p at *
  go_wp2_with fail
  refine (resetH_any HH.out).mono ?_
  rintro e w4 ⟨rfl, C4, h4, p4⟩
  have H4 := Lib.hid (show SR w C4 p w4 (newS cols rows hist) s0 from by
    have : newS cols rows hist = ((resetS (newG cols rows hist) 0 []).stops).whole := rfl
    rw [this]; exact h4)
  clear h4 p4
  go_wp2_with fail
  refine ret2w rfl rfl rfl rfl ⟨p, C4, rfl, H4.out⟩
def Scr.soft0 (s : Scr) : Scr := { s with now := { sav0 with x := s.now.x, y := s.now.y } }
theorem softS_any {B : World} {C : Nat → Nat} {p : Nat} {w : World} {s : Scr} {ps : PSt} (h : SR B C p w s ps) :
    Calls Tryz.prog 166 #[.pointer (some ⟨p, 0, none⟩)] w fun e w' => e = .returned (.tuple #[]) ∧ Does B C p w w' s.soft ps := by
  have HR := Lib.hid h
  have c0 : w.cell? ⟨p, 0, none⟩ = some (.int .i64 s.now.x) := h.at_ 0 _
  have c1 : w.cell? ⟨p, 1, none⟩ = some (.int .i64 s.now.y) := h.at_ 1 _
  clear h
  go_enter Tryz.func166, Tryz.ntmps166
  go_upto_region 0 with fail
  go_quiet (fail)
  have HB := Lib.hid (below_drewN (Below.refl w.heap.size w) nq)
  have h := HR.out.below HB.out
  have HR1 := Lib.hid h
  clear h
  generalize w.drewN nq = wn at *
  clear c0 c1
  go_wp2_with fail
  refine (fresh_lit wn).mono ?_
  rintro e w2 ⟨rfl, b2⟩
  have h2 := HR1.out.below b2
  have HB2 := Lib.hid (HB.out.trans (b2.mono HB.out.size))
  have hst := store_sav sav0 (h2.there 0 10 (by decide))
  rw [show sav0.arr = #[.int .i64 0, .int .i64 0, .bool false, .int .i64 (-1), .int .i64 (-1), .int .i64 0, .bool false, .bool false, .bool false, .int .i64 0] from rfl] at hst
  obtain ⟨h3, g3⟩ := h2.setNow sav0
  have H3 := Lib.hid h3
  have G3 := Lib.hid g3
  clear h2 h3 g3 b2
  go_upto_region 2 with (refine wpList_storeR rfl _ _ _ rfl hst rfl rfl ?_)
  clear hst
  generalize w2.setCells p 0 sav0.vals = w3 at *
  have c0 : w3.cell? ⟨p, 0, none⟩ = some (.int .i64 0) := H3.out.at_ 0 _
  have c1 : w3.cell? ⟨p, 1, none⟩ = some (.int .i64 0) := H3.out.at_ 1 _
  have f0 := H3.out.fz 0
  have f1 := H3.out.fz 1
  obtain ⟨h4, g4⟩ := H3.out.set 0 (.int .i64 s.now.x) { s with now := { sav0 with x := s.now.x } }
  obtain ⟨h5, g5⟩ := h4.set 1 (.int .i64 s.now.y) s.soft0
  have H5 := Lib.hid h5
  have P5 := Lib.hid ((Pre.refl C w).below HB2.out |>.trans (G3.out.trans (g4.trans g5)))
  clear h4 g4 h5 g5
  go_upto_region 3 with fail
  generalize (w3.setCell ⟨p, 0, none⟩ (.int .i64 s.now.x)).setCell ⟨p, 1, none⟩ (.int .i64 s.now.y) = w4 at *
  clear c0 c1 f0 f1
  go_wp2_with fail
  refine (wholeS_any H5.out).mono ?_
  rintro e w5 ⟨rfl, C6, h6, p6⟩
  have c32 : w5.cell? ⟨p, 32, none⟩ = some (.int .i64 s.modes) := h6.at_ 32 _
  have f32 := h6.fz 32
  obtain ⟨h7, g7⟩ := h6.set 32 (.int .i64 (bNot s.modes 54)) { s.soft0.whole with modes := bNot s.modes 54 }
  obtain ⟨h8, g8⟩ := h7.set 32 (.int .i64 (bOr (bNot s.modes 54) 9)) { s.soft0.whole with modes := bOr (bNot s.modes 54) 9 }
  have H8 := Lib.hid h8
  have P8 := Lib.hid (P5.out.trans (p6.trans (g7.trans g8)))
  clear h6 p6 h7 g7 h8 g8
  go_upto_region 6 with fail
  rw [show bits BinOp.andNot IntKind.i64 s.modes 54 = bNot s.modes 54 from rfl, show bits BinOp.or IntKind.i64 (bNot s.modes 54) 9 = bOr (bNot s.modes 54) 9 from rfl]
  generalize hw6 : (w5.setCell ⟨p, 32, none⟩ (.int .i64 (bNot s.modes 54))).setCell ⟨p, 32, none⟩ (.int .i64 (bOr (bNot s.modes 54) 9)) = w6 at *
  clear c32 f32
  have HSF := Lib.hid (show s.soft = ({ s.soft0.whole with modes := bOr (bNot s.modes 54) 9 } : Scr).setSlot sav0 from rfl)
  generalize ({ s.soft0.whole with modes := bOr (bNot s.modes 54) 9 } : Scr) = s6 at *
  go_wp2_with fail
  refine (slotS_any H8.out).mono ?_
  rintro e w7 ⟨rfl, rfl⟩
  go_wp2_with fail
  refine (fresh_lit _).mono ?_
  rintro e w8 ⟨rfl, b8⟩
  have h9 := H8.out.below b8
  have hst := store_sav sav0 h9.thereSlot
  rw [show sav0.arr = #[.int .i64 0, .int .i64 0, .bool false, .int .i64 (-1), .int .i64 (-1), .int .i64 0, .bool false, .bool false, .bool false, .int .i64 0] from rfl] at hst
  obtain ⟨h10, g10⟩ := h9.setSlot sav0
  have HD := Lib.hid (show Does B C p w _ s.soft ps by rw [HSF.out]; exact ⟨_, h10, (P8.out.below b8).trans g10⟩)
  clear h9 h10 g10 b8
  go_wp2_with (refine wpList_storeR rfl _ _ _ rfl hst rfl rfl ?_)
  go_end0
  exact ⟨rfl, HD.out⟩
end Go.Proofs.YtlfdgkiliegaiaaGreatDoor
