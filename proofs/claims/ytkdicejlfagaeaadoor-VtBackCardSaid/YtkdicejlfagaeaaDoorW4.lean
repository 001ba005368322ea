/- Package vtparse: pass, digit. -/
import Derived.Test.YtkdicejlfagaeaaDoorW3
import Derived.Deep.DeepCutAuto
namespace Go.Proofs.YtkdicejlfagaeaaDoor
open Go.RowKit

theorem InvT.inG {G : Nat → Prop} {u : Bool} {T : Nat → Nat} {p o : Nat} {w : World} {s : PSt} {acts : List VAct} (h : InvT G u T p o w s acts) : G p := by
  obtain ⟨d, vi, vp, vt, vo, L, hL, hA, hC, hT⟩ := h
  exact (hA.tl p (by rw [hC.tp]; decide)).2
theorem within_set {G : Nat → Prop} {p : Nat} (hp : G p) (w : World) (i : Nat) (v : Value) : Within G w (w.setCell ⟨p, i, none⟩ v) :=
  ⟨rfl, rfl, rfl, by simp, fun k _ hg => heap_setCell_other w ⟨p, i, none⟩ k v (fun e => hg (by rw [e]; exact hp))⟩
theorem InvT.set {G : Nat → Prop} {u : Bool} {T : Nat → Nat} {p o : Nat} {w : World} {s : PSt} {acts : List VAct} (h : InvT G u T p o w s acts) (i : Nat) (v : Value) (s' : PSt)
    (hc : ∀ d t a b c, (s.cells d t a b c).setIfInBounds i v = s'.cells d t a b c) (h1 : s'.dec = s.dec) (h2 : s'.inter = s.inter) (h3 : s'.params = s.params) (h4 : s'.text = s.text) : InvT G u T p o (w.setCell ⟨p, i, none⟩ v) s' acts := by
  obtain ⟨d, vi, vp, vt, vo, L, hL, hA, hC, hT⟩ := h
  have g := gb_set (gb_refl w (some p)) i v
  have m : Mod T (fun x => x = 1) w (w.setCell ⟨p, i, none⟩ v) := Mod.of_gb g (fun k hk => by injection hk with hk; subst hk; exact hC.tp)
  have hb := blk_set hC.blk i v
  rw [hc] at hb
  exact ⟨d, vi, vp, vt, vo, L, hL, hA.mono g.size, hC.put g hb h1 (by rw [h2]; exact hC.ri) (fun hu => by rw [h3]; exact hC.rp hu) (by rw [h4]; exact hC.rt), hT.mod m (by decide) (by decide) (by decide)⟩
/-- A buffer of tag t has got more, maybe in another block. -/
theorem grow_inv {G : Nat → Prop} {T : Nat → Nat} {p o d : Nat} {tell vi vp vt vo : Value} {w w1 w' : World} {s : PSt} {L : List (VAct × Value)} {t : Nat} (ht : t = 4 ∨ t = 5 ∨ t = 6) (htell : tell = tellV o)
    (hA : Arena G T w) (hC : Core true T p d tell vi vp vt w s) (hT : Told G T o vo w L) {v v' : Value} {n m : Nat} {xs ys : List Value} (hv : Row T t 1 v n xs w) (g1 : w.grownBy w1 none) (g : w1.grownBy w' v.ownBlock) (ho : OwnC w' 0 1 v' m ys)
    (hn : ∀ k, v'.ownBlock = some k → v.ownBlock = some k ∨ w1.heap.size ≤ k) :
    ∃ T', Within G w w' ∧ Row T' t 1 v' m ys w' ∧ (∀ t' size v n xs, t' ≠ t → Row T t' size v n xs w → Row T' t' size v n xs w') ∧ w'.heap[p]? = w.heap[p]? ∧
      ∀ (w'' : World) (s' : PSt) (vi' vp' vt' : Value), w'.grownBy w'' (some p) → w''.heap[p]? = some (.cells (s'.cells d tell vi' vp' vt') 45 (0, 0)) → s'.dec = s.dec → Row T' 4 1 vi' s'.inter.length (byteVals s'.inter) w' → Row T' 5 1 vp' s'.params.length (s'.params.map (Value.int .i64)) w' → Row T' 6 1 vt' s'.text.length (byteVals s'.text) w' →
        Within G w w'' ∧ InvT G true T' p o w'' s' (L.map (·.1)) := by
  have m : Mod T (fun x => x = t) w w' := (Mod.of_gb g1 (by intro k hk; simp at hk)).trans ⟨g.os, g.tape, g.output, g.size, fun k hk hq => by
    by_cases hlt : k < w.heap.size
    · exact g.block k hk (fun e => hq (hv.tag k e.symm))
    · exact g.block k hk (fun e => hlt (ownC_lt hv.own k e.symm).2)⟩
  have ad : ∀ k, k < w.heap.size → adopt T w.heap.size w'.heap.size t k = T k := fun k hk => adopt_old hk
  have hrow : ∀ t' size v n xs, t' ≠ t → Row T t' size v n xs w → Row (adopt T w.heap.size w'.heap.size t) t' size v n xs w' := fun t' size v n xs hne h => by
    have h' := h.mod m hne
    exact ⟨h'.own, fun k hk => by rw [ad k (ownC_lt h.own k hk).2]; exact h.tag k hk⟩
  have hpb : w'.heap[p]? = w.heap[p]? := m.block p (heap_lt hC.blk) (by rw [hC.tp]; omega)
  have hTr := hT.retag ad
  have hTm := hTr.mod (m.retag ad) (by omega) (by omega) (by omega)
  refine ⟨adopt T w.heap.size w'.heap.size t, m.within hA (by omega), ⟨ho, fun k hk => ?_⟩, hrow, hpb, ?_⟩
  · rcases hn k hk with h | h
    · rw [ad k (ownC_lt hv.own k h).2]; exact hv.tag k h
    · exact adopt_new (Nat.le_trans g1.size h) (ownC_lt ho k hk).2
  · intro w'' s' vi' vp' vt' g2 hb hd r4 r5 r6
    have tp' : adopt T w.heap.size w'.heap.size t p = 1 := by rw [ad p (heap_lt hC.blk)]; exact hC.tp
    have td' : adopt T w.heap.size w'.heap.size t d = 2 := by rw [ad d (heap_lt hC.dec)]; exact hC.td
    have m2 : Mod (adopt T w.heap.size w'.heap.size t) (fun y => y = 1) w' w'' := Mod.of_gb g2 (fun k hk => by injection hk with hk; subst hk; exact tp')
    have hdec : DecAt w' d s.dec := (m.block d (heap_lt hC.dec) (by rw [hC.td]; omega)).trans hC.dec
    subst htell
    have hA' := hA.adopt m.size t
    exact ⟨(m.within hA (by omega)).trans (m2.within hA' (by decide)), d, vi', vp', vt', vo, L, rfl, (hA.adopt m.size t).mono g2.size,
      ⟨hb, by rw [hd]; exact (m2.block d (heap_lt hdec) (by rw [td']; decide)).trans hdec, by rw [hd]; exact hC.dok, r4.mod m2 (by decide), fun _ => r5.mod m2 (by decide), r6.mod m2 (by decide), tp', td'⟩, hTm.mod m2 (by decide) (by decide) (by decide)⟩

def PSt.passed (s : PSt) : PSt := ({ s with frm := s.state }).begun 3
theorem pass_inv {G : Nat → Prop} {u : Bool} {T : Nat → Nat} {p o : Nat} {w : World} {s : PSt} {acts : List VAct} (h : InvT G u T p o w s acts) :
    Calls Tryd.prog 45 #[.pointer (some ⟨p, 0, none⟩)] w fun e w' => e = .returned (.tuple #[]) ∧ Within G w w' ∧ InvT G true T p o w' s.passed acts := by
  have H2 := Lib.hid (h.set 9 (.int .i64 s.state) { s with frm := s.state } (fun _ _ _ _ _ => rfl) rfl rfl rfl rfl)
  have HG := Lib.hid (within_set h.inG w 9 (.int .i64 s.state))
  obtain ⟨d, vi, vp, vt, vo, L, hL, hA, hC, hT⟩ := h
  have c0 : w.cell? ⟨p, 0, none⟩ = some (.int .i64 s.state) := parCell hC 0
  have c9 : w.cell? ⟨p, 9, none⟩ = some (.int .i64 s.frm) := parCell hC 9
  have fz := blk_free hC.blk
  clear hL hA hC hT
  go_enter Tryd.func45, Tryd.ntmps45
  go_wp2_with fail
  refine (begin_inv 3 H2.out).mono ?_
  rintro e w2 ⟨rfl, hw2, hi2⟩
  have HW2 := Lib.hid (HG.out.trans hw2)
  have HI2 := Lib.hid hi2
  clear hw2 hi2
  go_wp2_with fail
  go_end0
  exact ⟨rfl, HW2.out, HI2.out⟩
end Go.Proofs.YtkdicejlfagaeaaDoor
