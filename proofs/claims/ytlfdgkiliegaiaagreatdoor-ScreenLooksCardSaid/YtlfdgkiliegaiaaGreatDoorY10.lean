/- Package grid, texts laid together: P4 W10 W11 W12 Z2 K1 K2. -/
import Derived.Test.YtlfdgkiliegaiaaGreatDoorY9
import Derived.Test.YtlfdgkiliegaiaaGreatDoorY1
import Derived.Laws.EntriesVeiled
import Derived.Test.YtlfdgkiliegaiaaGreatDoorY8
import Derived.Test.YtlfdgkiliegaiaaGreatDoorY7
import Derived.Test.YtlfdgkiliegaiaaGreatDoorY6
import Derived.Deep.MidRow
import Derived.Test.YtlfdgkiliegaiaaGreatDoorY2
/- Package vtparse, plain: a byte, some bytes; what is always so. -/
namespace Go.Proofs.YtlfdgkiliegaiaaGreatDoor
open Go.RowKit

def PSt.step (s : PSt) (b : UInt8) : PSt × List VAct :=
  if (s.any1 b).1 then (s.any1 b).2 else ((((s.any1 b).2.1).took b).1, (s.any1 b).2.2 ++ (((s.any1 b).2.1).took b).2)
def PSt.run : PSt → List UInt8 → PSt × List VAct
  | s, [] => (s, [])
  | s, b :: l => (((s.step b).1.run l).1, (s.step b).2 ++ ((s.step b).1.run l).2)
theorem run_append : ∀ (l m : List UInt8) (s : PSt), s.run (l ++ m) = (((s.run l).1.run m).1, (s.run l).2 ++ ((s.run l).1.run m).2)
  | [], m, s => by simp [PSt.run]
  | b :: l, m, s => by
    rw [List.cons_append]
    simp only [PSt.run]
    rw [run_append l m]
    simp
theorem run_snoc (l : List UInt8) (b : UInt8) (s : PSt) : s.run (l ++ [b]) = (((s.run l).1.step b).1, (s.run l).2 ++ ((s.run l).1.step b).2) := by
  rw [run_append]
  simp [PSt.run]
def s0 : PSt := ⟨0, dec0, [], [], false, [], 0, false, 0⟩
theorem s0_fine : s0.Fine := ⟨by decide, fun h => by simp [s0] at h, by decide, fun x hx => by simp [s0] at hx, by decide, by decide, fun _ => by decide⟩

theorem begun_fine {s : PSt} {st : Int} (h : 0 ≤ st ∧ st ≤ 7) : (s.begun st).Fine :=
  ⟨by simp [PSt.begun], fun h => by simp [PSt.begun] at h, by simp [PSt.begun], fun x hx => by simp [PSt.begun] at hx, by simp [PSt.begun], h, fun _ => by simp [PSt.begun]⟩
theorem passed_fine (s : PSt) : s.passed.Fine := begun_fine (by decide)
theorem any1_fine {s : PSt} (b : UInt8) (h : s.Fine) : (s.any1 b).2.1.Fine := by
  unfold PSt.any1
  repeat' split
  · exact begun_fine (by decide)
  · have := begun_fine (s := { s with dec := (endD s.dec).1 }) (st := 1) (by decide)
    exact ⟨this.il, this.pne, this.pl, this.pr, this.tl, this.st, this.e1⟩
  · exact begun_fine (by decide)
  · exact h
  · exact ⟨h.il, h.pne, h.pl, h.pr, h.tl, h.st, h.e1⟩
  · exact h
  · exact begun_fine (by decide)
  · exact h
theorem esced_fine {s : PSt} (b : UInt8) (h : s.Fine) (h1 : s.state = 1) : (s.esced b).1.Fine := by
  have hi := h.e1 h1
  unfold PSt.esced
  repeat' split
  all_goals first | exact passed_fine s | exact begun_fine (by decide) | skip
  have hk : (s.inter ++ [b]).length ≤ 2 := by rw [List.length_append, List.length_singleton]; omega
  exact ⟨by show (s.inter ++ [b]).length ≤ 3; omega, h.pne, h.pl, h.pr, h.tl, h.st, fun _ => hk⟩
theorem clamp_range (x d : Int) (h : 0 ≤ d) : -1 ≤ clamp x d ∧ clamp x d ≤ 9999 := by
  unfold clamp; omega
theorem digit_fine {s : PSt} (d : Int) (h : s.Fine) : (s.digit d).Fine := by
  have hs : s.started.params ≠ [] ∧ s.started.params.length ≤ 33 ∧ (∀ x ∈ s.started.params, -1 ≤ x ∧ x ≤ 9999) ∧ s.started.inter = s.inter ∧ s.started.text = s.text ∧ s.started.state = s.state := by
    unfold PSt.started
    cases ha : s.any
    · exact ⟨by simp, by simp, by simp, rfl, rfl, rfl⟩
    · exact ⟨h.pne ha, h.pl, h.pr, rfl, rfl, rfl⟩
  obtain ⟨h1, h2, h3, h4, h5, h6⟩ := hs
  unfold PSt.digit
  split
  · rename_i hd
    refine ⟨by show s.started.inter.length ≤ 3; rw [h4]; exact h.il, fun _ => ?_, ?_, ?_, by show s.started.text.length ≤ 1024; rw [h5]; exact h.tl, by show 0 ≤ s.started.state ∧ s.started.state ≤ 7; rw [h6]; exact h.st, fun e => by have e' : s.started.state = 1 := e; show s.started.inter.length ≤ 2; rw [h4]; exact h.e1 (h6 ▸ e')⟩
    · show setLast s.started.params d ≠ []
      intro e
      have := congrArg List.length e
      simp [setLast] at this
      exact h1 this
    · show (setLast s.started.params d).length ≤ 33
      simp [setLast]; exact h2
    · intro x hx
      have hx' : x ∈ setLast s.started.params d := hx
      unfold setLast at hx'
      rcases List.mem_or_eq_of_mem_set hx' with hm | rfl
      · exact h3 x hm
      · exact clamp_range _ _ hd
  · split
    · rename_i h32
      refine ⟨by show s.started.inter.length ≤ 3; rw [h4]; exact h.il, fun _ => by simp, ?_, ?_, by show s.started.text.length ≤ 1024; rw [h5]; exact h.tl, by show 0 ≤ s.started.state ∧ s.started.state ≤ 7; rw [h6]; exact h.st, fun e => by have e' : s.started.state = 1 := e; show s.started.inter.length ≤ 2; rw [h4]; exact h.e1 (h6 ▸ e')⟩
      · show (s.started.params ++ [-1]).length ≤ 33
        rw [List.length_append, List.length_singleton]; omega
      · intro x hx
        have hx' : x ∈ s.started.params ++ [-1] := hx
        rw [List.mem_append, List.mem_singleton] at hx'
        rcases hx' with hm | rfl
        · exact h3 x hm
        · decide
    · exact ⟨by rw [h4]; exact h.il, fun _ => h1, h2, h3, by rw [h5]; exact h.tl, by rw [h6]; exact h.st, fun e => by rw [h4]; exact h.e1 (h6 ▸ e)⟩
theorem btw_len {s : PSt} : s.inter.length ≤ s.btw + 1 := by
  unfold PSt.btw; split <;> omega
theorem seqd_fine {s : PSt} (b : UInt8) (h : s.Fine) (h1 : ¬ s.state = 1) : (s.seqd b).1.Fine := by
  have hi := h.il
  have hb := btw_len (s := s)
  have hap : s.inter.length ≤ 2 → ({ s with inter := s.inter ++ [b] } : PSt).Fine := fun h2 =>
    ⟨by show (s.inter ++ [b]).length ≤ 3; rw [List.length_append, List.length_singleton]; omega, h.pne, h.pl, h.pr, h.tl, h.st, fun e => absurd e h1⟩
  unfold PSt.seqd
  split
  · split
    · exact begun_fine (by decide)
    · refine ⟨h.il, fun ha => ?_, ?_, ?_, h.tl, ⟨by show (0 : Int) ≤ 6; decide, by show (6 : Int) ≤ 7; decide⟩, fun e => by have e' : (6 : Int) = 1 := e; omega⟩
      · show s.params.take 32 ≠ []
        have := h.pne ha
        cases hp : s.params with
        | nil => exact absurd hp this
        | cons x l => simp
      · show (s.params.take 32).length ≤ 33
        rw [List.length_take]; omega
      · intro x hx
        exact h.pr x (List.mem_of_mem_take hx)
  split
  · exact hap (by omega)
  split
  · exact digit_fine ((b.toNat : Int) - 48) h
  split
  · exact digit_fine (-1) h
  split
  · exact hap (by omega)
  · exact passed_fine s
theorem took_fine {s : PSt} (b : UInt8) (h : s.Fine) : (s.took b).1.Fine := by
  unfold PSt.took
  split
  · rename_i h1; exact esced_fine b h h1
  rename_i h1
  split
  · exact seqd_fine b h h1
  split
  · split
    · by_cases hf : s.frm = 5
      · rw [if_pos hf]; exact begun_fine (by decide)
      · rw [if_neg hf]; exact begun_fine (by decide)
    · exact h
  split
  · split
    · rename_i ht
      exact ⟨h.il, h.pne, h.pl, h.pr, by show (s.text ++ [b]).length ≤ 1024; rw [List.length_append, List.length_singleton]; omega, h.st, h.e1⟩
    · exact h
  split
  · exact h
  · exact ⟨h.il, h.pne, h.pl, h.pr, h.tl, h.st, h.e1⟩
theorem step_fine {s : PSt} (b : UInt8) (h : s.Fine) : (s.step b).1.Fine := by
  unfold PSt.step
  split
  · exact any1_fine b h
  · exact took_fine b (any1_fine b h)
theorem run_fine : ∀ (l : List UInt8) {s : PSt}, s.Fine → (s.run l).1.Fine
  | [], _, h => h
  | b :: l, _, h => run_fine l (step_fine b h)
theorem any1_32 {s : PSt} {b : UInt8} (h : (s.any1 b).1 = false) : 32 ≤ (b.toNat : Int) := by
  unfold PSt.any1 at h
  repeat' split at h
  all_goals first | (simp at h; done) | omega | skip
theorem endActs_len (s : PSt) : s.endActs.length ≤ 1 := by
  unfold PSt.endActs
  split
  · simp
  · split <;> simp
theorem any1_len (s : PSt) (b : UInt8) : (s.any1 b).2.2.length ≤ 2 := by
  have h1 := endActs_len s
  have h2 := endD_len s.dec
  unfold PSt.any1
  repeat' split
  all_goals simp only [List.length_append, List.length_map, List.length_nil, List.length_singleton] <;> omega
theorem took_len (s : PSt) (b : UInt8) : (s.took b).2.length ≤ 2 := by
  have h1 := feedD_len s.dec (b.toNat : Int)
  unfold PSt.took PSt.esced PSt.seqd PSt.fed
  repeat' split
  all_goals simp only [List.length_map, List.length_nil, List.length_singleton] <;> omega
theorem step_len (s : PSt) (b : UInt8) : (s.step b).2.length ≤ 4 := by
  have h1 := any1_len s b
  have h2 := took_len (s.any1 b).2.1 b
  unfold PSt.step
  split
  · omega
  · rw [List.length_append]; omega
theorem run_len : ∀ (l : List UInt8) (s : PSt), (s.run l).2.length ≤ 4 * l.length
  | [], s => by simp [PSt.run]
  | b :: l, s => by
    have h1 := step_len s b
    have h2 := run_len l (s.step b).1
    simp only [PSt.run, List.length_append, List.length_cons]
    omega
end Go.Proofs.YtlfdgkiliegaiaaGreatDoor

/- Package vtparse: Feed. -/
namespace Go.Proofs.YtlfdgkiliegaiaaGreatDoor
open Go.RowKit
set_option maxRecDepth 100000

/-- A parser at rest. -/
def Rest (T : Nat → Nat) (p : Nat) (w : World) (s : PSt) : Prop :=
  (∀ k, T k ≠ 0 → k < w.heap.size) ∧ s.Fine ∧ ∃ d vi vp vt, Core true T p d .nilFunc vi vp vt w s
theorem feed_start {T : Nat → Nat} {p : Nat} {w : World} {s : PSt} (h : Rest T p w s) :
    Within (own T w) w ((w.setCell ⟨p, 2, none⟩ (tellV w.heap.size)).alloc (.cells #[nilS] 111)) ∧
      InvT (own T w) true (adopt T w.heap.size (w.heap.size + 1) 3) p w.heap.size ((w.setCell ⟨p, 2, none⟩ (tellV w.heap.size)).alloc (.cells #[nilS] 111)) s [] := by
  obtain ⟨hl, _, d, vi, vp, vt, hC⟩ := h
  have hA : Arena (own T w) T w := ⟨fun k hk => ⟨hl k hk, .inl hk⟩, fun k hk => .inr hk⟩
  have hsz : ((w.setCell ⟨p, 2, none⟩ (tellV w.heap.size)).alloc (.cells #[nilS] 111)).heap.size = w.heap.size + 1 := by simp
  have g := gb_alloc (gb_set (gb_refl w (some p)) 2 (tellV w.heap.size)) (.cells #[nilS] 111)
  have m : Mod T (fun x => x = 1) w _ := Mod.of_gb g (fun k hk => by injection hk with hk; subst hk; exact hC.tp)
  have ad : ∀ k, k < w.heap.size → adopt T w.heap.size (w.heap.size + 1) 3 k = T k := fun k hk => adopt_old hk
  have hA' := hA.adopt m.size 3
  rw [hsz] at hA'
  have hb := blk_alloc (blk_set hC.blk 2 (tellV w.heap.size)) (.cells #[nilS] 111)
  have ho : ((w.setCell ⟨p, 2, none⟩ (tellV w.heap.size)).alloc (.cells #[nilS] 111)).heap[w.heap.size]? = some (.cells #[nilS] 111 (0, 0)) := by
    have := heap_alloc_new (w.setCell ⟨p, 2, none⟩ (tellV w.heap.size)) (.cells #[nilS] 111)
    rw [show (w.setCell ⟨p, 2, none⟩ (tellV w.heap.size)).heap.size = w.heap.size by simp] at this
    exact this
  have hCr := (hC.retag ad).put (u' := true) (s' := s) (tell' := tellV w.heap.size) (vi' := vi) (vp' := vp) (vt' := vt) g hb rfl (hC.ri.retag fun k hk ht => (ad k hk).trans ht) (fun _ => (hC.rp rfl).retag fun k hk ht => (ad k hk).trans ht) (hC.rt.retag fun k hk ht => (ad k hk).trans ht)
  refine ⟨m.within hA (by decide), d, vi, vp, vt, nilS, [], rfl, hA', hCr, ⟨ho, row_nil _ _ _ _, adopt_new (Nat.le_refl _) (by omega), fun x hx => by simp at hx⟩⟩
/-- What was told is the caller's. -/
def gone (T : Nat → Nat) : Nat → Nat := fun k => if T k = 3 ∨ T k = 7 then 0 else T k
theorem gone_of {T : Nat → Nat} {k t : Nat} (h : T k = t) (h3 : t ≠ 3) (h7 : t ≠ 7) : gone T k = t := by unfold gone; rw [if_neg (by omega)]; exact h
theorem gone_out {T : Nat → Nat} {k : Nat} (h : T k = 7) : gone T k = 0 := by unfold gone; rw [if_pos (.inr h)]
theorem feed_end {G : Nat → Prop} {T : Nat → Nat} {p o : Nat} {w : World} {s : PSt} {acts : List VAct} (h : InvT G true T p o w s acts) (hf : s.Fine) :
    ∃ vo L, L.map (·.1) = acts ∧ w.cell? ⟨o, 0, none⟩ = some vo ∧ (w.setCell ⟨p, 2, none⟩ .nilFunc).cell? ⟨o, 0, none⟩ = some vo ∧ w.cell? ⟨p, 2, none⟩ = some (tellV o) ∧ (∀ i, w.frozen? ⟨p, i, none⟩ = false) ∧ Within G w (w.setCell ⟨p, 2, none⟩ .nilFunc) ∧ Rest (gone T) p (w.setCell ⟨p, 2, none⟩ .nilFunc) s ∧
      Row (gone T) 0 6 vo L.length (actCells L) (w.setCell ⟨p, 2, none⟩ .nilFunc) ∧ (∀ k, vo.ownBlock = some k → G k) ∧
      (∀ x ∈ L, Row (gone T) 0 1 x.2 x.1.params.length (x.1.params.map (Value.int .i64)) (w.setCell ⟨p, 2, none⟩ .nilFunc) ∧ ∀ k, x.2.ownBlock = some k → G k) ∧ (∀ k, gone T k ≠ 0 → G k) := by
  obtain ⟨d, vi, vp, vt, vo, L, hL, hA, hC, hT⟩ := h
  have g := gb_set (gb_refl w (some p)) 2 .nilFunc
  have m : Mod T (fun x => x = 1) w (w.setCell ⟨p, 2, none⟩ .nilFunc) := Mod.of_gb g (fun k hk => by injection hk with hk; subst hk; exact hC.tp)
  have hb := blk_set hC.blk 2 .nilFunc
  have hC' := hC.put (u' := true) (s' := s) (tell' := .nilFunc) (vi' := vi) (vp' := vp) (vt' := vt) g hb rfl hC.ri (fun _ => hC.rp rfl) hC.rt
  have hT' := hT.mod m (by decide) (by decide) (by decide)
  have h0 : ∀ k, gone T k ≠ 0 → T k ≠ 0 := fun k hk e => hk (gone_of e (by decide) (by decide))
  refine ⟨vo, L, hL, blk_cell hT.blk 0, blk_cell hT'.blk 0, parCell hC 2, blk_free hC.blk, m.within hA (by decide), ⟨fun k hk => ?_, hf, d, vi, vp, vt, ?_⟩, hT'.ro.retag fun k _ ht => gone_out ht, fun k hk => (hA.tl k (by rw [hT.ro.tag k hk]; decide)).2, fun x hx => ⟨(hT'.told x hx).1.retag fun k _ ht => gone_of ht (by decide) (by decide), (hT.told x hx).2⟩, fun k hk => (hA.tl k (h0 k hk)).2⟩
  · exact Nat.lt_of_lt_of_le (hA.tl k (h0 k hk)).1 m.size
  · exact ⟨hC'.blk, hC'.dec, hC'.dok, hC'.ri.retag fun k _ ht => gone_of ht (by decide) (by decide), fun _ => (hC'.rp rfl).retag fun k _ ht => gone_of ht (by decide) (by decide), hC'.rt.retag fun k _ ht => gone_of ht (by decide) (by decide), gone_of hC'.tp (by decide) (by decide), gone_of hC'.td (by decide) (by decide)⟩
theorem Row.within {G : Nat → Prop} {T : Nat → Nat} {t size : Nat} {v : Value} {n : Nat} {xs : List Value} {w w' : World} (h : Row T t size v n xs w) (hw : Within G w w') (hg : ∀ k, v.ownBlock = some k → ¬ G k) : OwnC w' 0 size v n xs :=
  ownC_blocks h.own hw.size fun k hk => hw.block k (ownC_lt h.own k hk).2 (hg k hk)
theorem take_snoc (l : List UInt8) (k : Nat) (h : k < l.length) : l.take (k + 1) = l.take k ++ [l.getD k 0] := take_succ_getD l 0 k h
set_option maxRecDepth 100000 in
set_option maxHeartbeats 4000000 in
theorem feed_any_p {T : Nat → Nat} {p : Nat} {w : World} {s : PSt} (vb : Value) (l : List UInt8) (h : Rest T p w s) (hv : Row T 0 1 vb l.length (byteVals l) w) (hl : l.length ≤ 100000000) :
    Calls Tryz.prog 60 #[.pointer (some ⟨p, 0, none⟩), vb] w fun e w' => ∃ vo T' L, e = .returned vo ∧ L.map (·.1) = (s.run l).2 ∧ Within (own T w) w w' ∧ Rest T' p w' (s.run l).1 ∧ (∀ k, T' k ≠ 0 → own T w k) ∧
      Row T' 0 6 vo L.length (actCells L) w' ∧ (∀ k, vo.ownBlock = some k → own T w k) ∧ ∀ x ∈ L, Row T' 0 1 x.2 x.1.params.length (x.1.params.map (Value.int .i64)) w' ∧ ∀ k, x.2.ownBlock = some k → own T w k := by
  have hlen : ∀ (ty : TypeId) (wx : World), (Builtin.len_ #[38] ty #[vb]).run Tryz.prog wx = .ok (.int .i64 l.length) wx := ownC_len Tryz.underlying38 hv.own
  have hmf : ∀ (fn : Fn) (first cap : Array Value) (w : World), (Instr.makeFunc fn first cap).run Tryz.prog w = .ok (.func fn first cap) w := fun _ _ _ _ => rfl
  have HV := Lib.hid hv
  have HN := Lib.hid (show ∀ k, vb.ownBlock = some k → ¬ own T w k from fun k hk hg => by
    rcases hg with hg | hg
    · exact hg (hv.tag k hk)
    · have := (ownC_lt hv.own k hk).2; omega)
  obtain ⟨hs1, hs2⟩ := feed_start h
  have HS1 := Lib.hid hs1
  have HS2 := Lib.hid hs2
  have HF := Lib.hid h.2.1
  obtain ⟨hlr, hfr, d, vi, vp, vt, hC⟩ := h
  have fz := blk_free hC.blk
  have c2 : w.cell? ⟨p, 2, none⟩ = some .nilFunc := parCell hC 2
  have hpl := heap_lt hC.blk
  have hb1 := blk_alloc hC.blk (.cells #[nilS] 111)
  have a2 : (w.alloc (.cells #[.slice none 0 0] 111)).cell? ⟨p, 2, none⟩ = some .nilFunc := blk_cell hb1 2
  have afz : ∀ i, (w.alloc (.cells #[.slice none 0 0] 111)).frozen? ⟨p, i, none⟩ = false := blk_free hb1
  clear hv hs1 hs2 hlr hfr hC hb1
  generalize own T w = G at *
  go_enter Tryz.func60, Tryz.ntmps60
  go_wp2_with fail
  go_loopw [14] (fun iv wr => ∃ k : Nat, k ≤ l.length ∧ iv = .int .i64 k ∧ Within G w wr ∧ InvO G true p w.heap.size wr (s.run (l.take k)).1 (s.run (l.take k)).2) (fun iv _ => l.length - (intOf iv).toNat)
  case atStart => exact ⟨0, by omega, rfl, HS1.out, _, HS2.out⟩
  case round =>
    obtain ⟨k, hk, rfl, hw, T2, hi⟩ := hrel
    have HW := Lib.hid hw
    have HI := Lib.hid hi
    clear hw hi
    by_cases hlt : k < l.length
    · have HO := Lib.hid (HV.out.within HW.out HN.out)
      obtain ⟨b0, off0, c0, hvb, had, ⟨x, hx1, hx2⟩, _, _⟩ := ownC_at Tryz.underlying38 (by kernel_rfl) HO.out k hlt
      have hxe : x = .int .u8 ((l.getD k 0).toNat : Int) := by
        unfold byteVals at hx1
        rw [List.getElem?_map, List.getElem?_eq_getElem hlt] at hx1
        rw [List.getD_eq_getElem?_getD, List.getElem?_eq_getElem hlt]
        exact (Option.some.inj hx1).symm
      subst hxe
      have HSN := Lib.hid (run_snoc (l.take k) (l.getD k 0) s)
      rw [← take_snoc l k hlt] at HSN
      have hrl := run_len (l.take k) s
      have htl : (l.take k).length ≤ k := List.length_take_le _ _
      have HFk := Lib.hid (run_fine (l.take k) HF.out)
      generalize l.getD k 0 = b at *
      generalize s.run (l.take k) = R at *
      obtain ⟨s1, acts⟩ := R
      dsimp only at hrl HFk HI HSN
      have HST := Lib.hid (show s1.step b = if (s1.any1 b).1 then (s1.any1 b).2 else ((((s1.any1 b).2.1).took b).1, (s1.any1 b).2.2 ++ (((s1.any1 b).2.1).took b).2) from rfl)
      have HA1 := Lib.hid (anywhere_inv b HI.out (by omega))
      have HAF := Lib.hid (any1_fine b HFk.out)
      have HA32 := Lib.hid (any1_32 (s := s1) (b := b))
      have hal := any1_len s1 b
      generalize s1.any1 b = A at *
      obtain ⟨ab, s2, acts2⟩ := A
      dsimp only at HST HA1 HAF HA32 hal
      have HVB := Lib.hid hvb
      clear hx1 hvb
      go_wp2_with fail
      refine HA1.out.mono ?_
      rintro e w2 ⟨rfl, hw2, T3, hi2⟩
      have HW2 := Lib.hid (HW.out.trans hw2)
      have HI2 := Lib.hid hi2
      clear hw2 hi2
      cases ab
      · rw [if_neg (by decide)] at HST
        have HT2 := Lib.hid (take_inv b HI2.out HAF.out (by rw [List.length_append]; omega) (HA32.out rfl))
        go_wp2_with fail
        refine HT2.out.mono ?_
        rintro e w4 ⟨rfl, hw4, hi4⟩
        have HW4 := Lib.hid (HW2.out.trans hw4)
        have HI4 := Lib.hid hi4
        clear hw4 hi4
        go_wp2_with fail
        go_roundw
        case rel =>
          refine ⟨k + 1, by omega, by go_num, HW4.out, ?_⟩
          have := HI4.out
          rw [HSN.out, HST.out]
          rw [List.append_assoc] at this
          exact this
        case measure => simp [intOf]; omega
      · rw [if_pos rfl] at HST
        go_wp2_with fail
        go_roundw
        case rel =>
          refine ⟨k + 1, by omega, by go_num, HW2.out, T3, ?_⟩
          rw [HSN.out, HST.out]
          exact HI2.out
        case measure => simp [intOf]; omega
    · have hk2 : k = l.length := by omega
      have HE := Lib.hid (show (l.take k) = l by rw [hk2, List.take_length])
      rw [HE.out] at HI
      have HFl := Lib.hid (run_fine l HF.out)
      obtain ⟨vo, L, hL, ho1, ho2, hp2, hpf, hwn, hrest, hrow, hog, htold, hgg⟩ := feed_end HI.out HFl.out
      obtain ⟨xo, mo, co, rfl⟩ := ownC_form hrow.own
      have HL := Lib.hid hL
      have HWN := Lib.hid (HW.out.trans hwn)
      have HREST := Lib.hid hrest
      have HROW := Lib.hid hrow
      have HOG := Lib.hid hog
      have HTOLD := Lib.hid htold
      have HGG := Lib.hid hgg
      clear hL hwn hrest hrow hog htold hgg
      unfold tellV at hp2
      go_wp2_with fail
      go_ret
      exact ⟨_, gone T2, L, rfl, HL.out, HWN.out, HREST.out, HGG.out, HROW.out, HOG.out, HTOLD.out⟩
end Go.Proofs.YtlfdgkiliegaiaaGreatDoor

/- Package vtparse: New, State, Reset. -/
namespace Go.Proofs.YtlfdgkiliegaiaaGreatDoor
open Go.RowKit
set_option maxRecDepth 100000

def newT (p d : Nat) : Nat → Nat := fun k => if k = p then 1 else if k = d then 2 else 0
theorem core_new (p d : Nat) (w : World) (hp : w.heap[p]? = some (.cells (s0.cells d .nilFunc nilS nilS nilS) 161 (0, 0))) (hd : DecAt w d dec0) (hne : d ≠ p) : Rest (newT p d) p w s0 := by
  refine ⟨fun k hk => ?_, s0_fine, d, nilS, nilS, nilS, ⟨hp, hd, dec0_ok, row_nil _ _ _ _, fun _ => row_nil _ _ _ _, row_nil _ _ _ _, by simp [newT], by simp [newT, hne]⟩⟩
  unfold newT at hk
  by_cases h1 : k = p
  · subst h1; exact heap_lt hp
  · by_cases h2 : k = d
    · subst h2; exact heap_lt hd
    · simp [h1, h2] at hk
theorem new_ex (w : World) :
    Calls Tryz.prog 85 #[] w fun e w' => e = .returned (.pointer (some ⟨w.heap.size + 1, 0, none⟩)) ∧ w' = (w.alloc (.cells dec0.cells 214)).alloc (.cells (s0.cells w.heap.size .nilFunc nilS nilS nilS) 161) := by
  go_enter Tryz.func85, Tryz.ntmps85
  go_wp2_with fail
  refine (newDec_any _).mono ?_
  rintro e w1 ⟨rfl, rfl⟩
  go_wp2_with fail
  go_ret
  exact ⟨rfl, rfl⟩
theorem new_any (w : World) :
    Calls Tryz.prog 85 #[] w fun e w' => ∃ p T, e = .returned (.pointer (some ⟨p, 0, none⟩)) ∧ Below w.heap.size w w' ∧ Rest T p w' s0 ∧ ∀ k, T k ≠ 0 → w.heap.size ≤ k := by
  refine (new_ex w).mono ?_
  rintro e w' ⟨rfl, rfl⟩
  refine ⟨w.heap.size + 1, newT (w.heap.size + 1) w.heap.size, rfl, ((Below.refl _ _).alloc (Nat.le_refl _) _).alloc (by simp) _, core_new _ _ _ ?_ ?_ (by omega), fun k hk => ?_⟩
  · have := heap_alloc_new (w.alloc (.cells dec0.cells 214)) (.cells (s0.cells w.heap.size .nilFunc nilS nilS nilS) 161)
    rw [show (w.alloc (.cells dec0.cells 214)).heap.size = w.heap.size + 1 by simp] at this
    exact this
  · exact blk_alloc (heap_alloc_new w (.cells dec0.cells 214)) _
  · unfold newT at hk
    by_cases h1 : k = w.heap.size + 1
    · omega
    · by_cases h2 : k = w.heap.size
      · omega
      · simp [h1, h2] at hk
end Go.Proofs.YtlfdgkiliegaiaaGreatDoor

/- Walks of mullionlaw5: same, all. -/
namespace Go.Proofs.YtlfdgkiliegaiaaGreatDoor
open Go.RowKit

theorem actCells_at : ∀ (L : List (VAct × Value)) (j : Nat) (hj : j < L.length) (i : Nat), i < 6 → (actCells L)[j * 6 + i]? = (L[j].1.cells L[j].2)[i]?
  | x :: L, 0, _, i, hi => by
    simp only [actCells, List.flatMap_cons, Nat.zero_mul, Nat.zero_add]
    rw [List.getElem?_append_left (by simp [VAct.cells]; omega)]
    rfl
  | x :: L, j + 1, hj, i, hi => by
    have hl : (x.1.cells x.2).length = 6 := rfl
    simp only [actCells, List.flatMap_cons]
    rw [List.getElem?_append_right (by rw [hl]; omega), hl, show (j + 1) * 6 + i - 6 = j * 6 + i by omega]
    exact actCells_at L j (by simpa using hj) i hi
/-- Actions in memory that are the caller's. -/
def Acts (T : Nat → Nat) (w : World) (v : Value) (L : List (VAct × Value)) : Prop :=
  Row T 0 6 v L.length (actCells L) w ∧ ∀ x ∈ L, Row T 0 1 x.2 x.1.params.length (x.1.params.map (Value.int .i64)) w
theorem Rest.below {T : Nat → Nat} {p : Nat} {w w' : World} {s : PSt} (h : Rest T p w s) (g : Below w.heap.size w w') : Rest T p w' s := by
  obtain ⟨hl, hf, d, vi, vp, vt, hC⟩ := h
  exact ⟨fun k hk => Nat.lt_of_lt_of_le (hl k hk) g.size, hf, d, vi, vp, vt, hC.mod (.of_below g) id id id id id⟩
theorem rd_small {k : IntKind} {w : World} {v : Value} {l : List Int} (h : IsRd k w v l) : l.length ≤ 9223372036854775807 := by
  rcases h with ⟨_, rfl⟩ | ⟨a, c, _, h1, h2, _⟩
  · simp
  · omega
end Go.Proofs.YtlfdgkiliegaiaaGreatDoor

/- A screen in memory. -/
namespace Go.Proofs.YtlfdgkiliegaiaaGreatDoor
open Go.RowKit

theorem rest_kept {Tp Tq : Nat → Nat} {q : Nat} {w w' : World} {s : PSt} (hq : Rest Tq q w s) (hw : Within (own Tp w) w w') (hd : ∀ k, Tq k ≠ 0 → Tp k = 0) : Rest Tq q w' s := by
  obtain ⟨hl, hf, d, vi, vp, vt, hC⟩ := hq
  have m : Mod Tq (fun x => x = 0) w w' := ⟨hw.os, hw.tape, hw.output, hw.size, fun k hk h0 => hw.block k hk (fun e => by
    rcases e with e | e
    · exact e (hd k h0)
    · omega)⟩
  exact ⟨fun k hk => Nat.lt_of_lt_of_le (hl k hk) hw.size, hf, d, vi, vp, vt, hC.mod m (by decide) (by decide) (by decide) (by decide) (by decide)⟩
def ptrV (o : Option Nat) : Value := .pointer (o.map fun q => ⟨q, 0, none⟩)
def Scr.cells (s : Scr) (pm : Nat) (po : Option Nat) (pp : Nat) (vt vo : Value) : Array Value :=
  #[.int .i64 s.now.x, .int .i64 s.now.y, .bool s.now.wait, .int .i64 s.now.pen.fg, .int .i64 s.now.pen.bg, .int .i64 s.now.pen.attr, .bool s.now.origin, .bool s.now.l0, .bool s.now.l1, .int .i64 s.now.second,
    .pointer (some ⟨pm, 0, none⟩), ptrV po,
    .int .i64 s.k0.x, .int .i64 s.k0.y, .bool s.k0.wait, .int .i64 s.k0.pen.fg, .int .i64 s.k0.pen.bg, .int .i64 s.k0.pen.attr, .bool s.k0.origin, .bool s.k0.l0, .bool s.k0.l1, .int .i64 s.k0.second,
    .int .i64 s.k1.x, .int .i64 s.k1.y, .bool s.k1.wait, .int .i64 s.k1.pen.fg, .int .i64 s.k1.pen.bg, .int .i64 s.k1.pen.attr, .bool s.k1.origin, .bool s.k1.l0, .bool s.k1.l1, .int .i64 s.k1.second,
    .int .i64 s.modes, .int .i64 s.top, .int .i64 s.bottom, vt, .string ⟨s.title.toArray⟩, .int .i32 s.last, .int .i64 s.bells, .pointer (some ⟨pp, 0, none⟩), vo]
/-- The other screen's grid in memory. -/
def Oth (To : Nat → Nat) (po : Option Nat) (w : World) (o : Option Gr) : Prop := (po = none ∧ o = none ∧ ∀ k, To k = 0) ∨ ∃ q g, po = some q ∧ o = some g ∧ GM To q w g
theorem Oth.kept {Tp To : Nat → Nat} {po : Option Nat} {w w' : World} {o : Option Gr} (h : Oth To po w o) (hw : Within (own Tp w) w w') (hd : ∀ k, To k ≠ 0 → Tp k = 0) : Oth To po w' o := by
  rcases h with h | ⟨q, g, h1, h2, hg⟩
  · exact .inl h
  · exact .inr ⟨q, g, h1, h2, hg.other hw hd⟩
/-- Components of memory: 1 the screen's block, 2 tab stops, 3 what is answered, 4 main, 5 the other grid, 6 the parser. -/
structure SAt (C Tm To Tp : Nat → Nat) (p pm : Nat) (po : Option Nat) (pp : Nat) (vt vo : Value) (w : World) (s : Scr) (ps : PSt) : Prop where
  lt : ∀ k, C k ≠ 0 → k < w.heap.size
  cp : C p = 1
  blk : w.heap[p]? = some (.cells (s.cells pm po pp vt vo) 90 (0, 0))
  gm : GM Tm pm w s.main
  go : Oth To po w s.other
  rp : Rest Tp pp w ps
  ta : OwnC w 0 1 vt s.tabs.length (s.tabs.map Value.bool)
  ou : OwnC w 0 1 vo s.out.length (byteVals s.out)
  t2 : ∀ k, vt.ownBlock = some k → C k = 2
  t3 : ∀ k, vo.ownBlock = some k → C k = 3
  t4 : ∀ k, Tm k ≠ 0 → C k = 4
  t5 : ∀ k, To k ≠ 0 → C k = 5
  t6 : ∀ k, Tp k ≠ 0 → C k = 6
def SM (C : Nat → Nat) (p : Nat) (w : World) (s : Scr) (ps : PSt) : Prop := ∃ Tm To Tp pm po pp vt vo, SAt C Tm To Tp p pm po pp vt vo w s ps
/-- Blocks of other components stay. -/
structure Keep (C : Nat → Nat) (c : Nat) (w w' : World) : Prop where
  wi : Within (fun k => C k = c ∨ w.heap.size ≤ k) w w'
theorem Keep.of_own {C T : Nat → Nat} {c : Nat} {w w' : World} (h : Within (own T w) w w') (ht : ∀ k, T k ≠ 0 → C k = c) : Keep C c w w' := ⟨h.mono fun k hk => by
  rcases hk with e | e
  · exact .inl (ht k e)
  · exact .inr e⟩
theorem Keep.of_gb {C : Nat → Nat} {c : Nat} {w w' : World} {row : Option Nat} (h : w.grownBy w' row) (ht : ∀ k, row = some k → C k = c ∨ w.heap.size ≤ k) : Keep C c w w' := ⟨Within.of_gb h ht⟩
theorem Keep.own {C : Nat → Nat} {c : Nat} {w w' : World} (h : Keep C c w w') (hc : c ≠ 0) : Within (own C w) w w' := h.wi.mono fun k hk => by
  rcases hk with e | e
  · exact .inl (by rw [e]; exact hc)
  · exact .inr e
theorem Keep.blk {C : Nat → Nat} {c d k : Nat} {w w' : World} {o : Obj} (h : Keep C c w w') (hk : w.heap[k]? = some o) (hd : C k = d) (hn : d ≠ c) : w'.heap[k]? = some o :=
  (h.wi.block k (heap_lt hk) (fun e => by
    have := heap_lt hk
    rcases e with e | e
    · exact hn (by rw [← hd, e])
    · omega)).trans hk
theorem Keep.row {C : Nat → Nat} {c d n : Nat} {v : Value} {xs : List Value} {w w' : World} {size : Nat} (h : Keep C c w w') (ho : OwnC w 0 size v n xs) (hd : ∀ k, v.ownBlock = some k → C k = d) (hn : d ≠ c) : OwnC w' 0 size v n xs :=
  ownC_blocks ho h.wi.size fun k hk => h.wi.block k (ownC_lt ho k hk).2 (fun e => by
    have := (ownC_lt ho k hk).2
    rcases e with e | e
    · exact hn (by rw [← hd k hk, e])
    · omega)
/-- The same as something of one's own, by tags. -/
theorem Keep.tags {C : Nat → Nat} {c d : Nat} {w w' : World} {T : Nat → Nat} (h : Keep C c w w') (hd : ∀ k, T k ≠ 0 → C k = d) (hn : d ≠ c) : ∃ Tp, Within (Go.Proofs.YtlfdgkiliegaiaaGreatDoor.own Tp w) w w' ∧ ∀ k, T k ≠ 0 → Tp k = 0 := by
  refine ⟨fun k => if C k = c then 1 else 0, h.wi.mono fun k hk => ?_, fun k hk => ?_⟩
  · rcases hk with e | e
    · exact .inl (by show (if C k = c then 1 else 0) ≠ 0; rw [if_pos e]; decide)
    · exact .inr e
  · show (if C k = c then 1 else 0) = 0
    rw [if_neg (fun e => hn (by rw [← hd k hk, e]))]
theorem Keep.gm {C : Nat → Nat} {c d q : Nat} {w w' : World} {T : Nat → Nat} {g : Gr} (h : Keep C c w w') (hg : GM T q w g) (hd : ∀ k, T k ≠ 0 → C k = d) (hn : d ≠ c) : GM T q w' g := by
  obtain ⟨Tp, h1, h2⟩ := h.tags hd hn
  exact hg.other h1 h2
theorem Keep.oth {C : Nat → Nat} {c d : Nat} {q : Option Nat} {w w' : World} {T : Nat → Nat} {g : Option Gr} (h : Keep C c w w') (hg : Oth T q w g) (hd : ∀ k, T k ≠ 0 → C k = d) (hn : d ≠ c) : Oth T q w' g := by
  obtain ⟨Tp, h1, h2⟩ := h.tags hd hn
  exact hg.kept h1 h2
theorem Keep.rest {C : Nat → Nat} {c d q : Nat} {w w' : World} {T : Nat → Nat} {s : PSt} (h : Keep C c w w') (hg : Rest T q w s) (hd : ∀ k, T k ≠ 0 → C k = d) (hn : d ≠ c) : Rest T q w' s := by
  obtain ⟨Tp, h1, h2⟩ := h.tags hd hn
  exact rest_kept hg h1 h2
/-- Component c has other blocks now. -/
def reC (C : Nat → Nat) (c : Nat) (T' : Nat → Nat) : Nat → Nat := fun k => if T' k ≠ 0 then c else if C k = c then 0 else C k
theorem reC_new {C T' : Nat → Nat} {c k : Nat} (h : T' k ≠ 0) : reC C c T' k = c := by unfold reC; rw [if_pos h]
theorem reC_old {C T' : Nat → Nat} {c d k : Nat} (h : C k = d) (hd : d ≠ c) (h0 : T' k = 0) : reC C c T' k = d := by unfold reC; rw [if_neg (by rw [h0]; decide), if_neg (by rw [h]; exact hd), h]
theorem reC_from {C T' : Nat → Nat} {c k : Nat} (h : reC C c T' k ≠ 0) : T' k ≠ 0 ∨ C k ≠ 0 := by
  unfold reC at h
  by_cases h1 : T' k ≠ 0
  · exact .inl h1
  · rw [if_neg h1] at h
    by_cases h2 : C k = c
    · rw [if_pos h2] at h; exact absurd rfl h
    · rw [if_neg h2] at h; exact .inr h
theorem reC_keep {C T T' : Nat → Nat} {c d k : Nat} {w : World} (hlt : ∀ k, C k ≠ 0 → k < w.heap.size) (ht : ∀ k, T k ≠ 0 → C k = c) (hn : ∀ k, T' k ≠ 0 → own T w k) (h : C k = d) (h0 : d ≠ 0) (hd : d ≠ c) : reC C c T' k = d := by
  refine reC_old h hd (Classical.byContradiction fun e => ?_)
  rcases hn k e with e2 | e2
  · exact hd (by rw [← h]; exact ht k e2)
  · have := hlt k (by rw [h]; exact h0); omega
section
variable {C Tm To Tp : Nat → Nat} {p pm : Nat} {po : Option Nat} {pp : Nat} {vt vo : Value} {w w' : World} {s : Scr} {ps : PSt}
theorem SAt.below (h : SAt C Tm To Tp p pm po pp vt vo w s ps) (b : Below w.heap.size w w') : SAt C Tm To Tp p pm po pp vt vo w' s ps :=
  ⟨fun k hk => Nat.lt_of_lt_of_le (h.lt k hk) b.size, h.cp, blk_below h.blk b (heap_lt h.blk), h.gm.below b, by
    rcases h.go with e | ⟨q, g, h1, h2, hg⟩
    · exact .inl e
    · exact .inr ⟨q, g, h1, h2, hg.below b⟩, h.rp.below b, ownC_below h.ta b, ownC_below h.ou b, h.t2, h.t3, h.t4, h.t5, h.t6⟩
/-- A number of the screen's own. -/
theorem SAt.field (h : SAt C Tm To Tp p pm po pp vt vo w s ps) (i : Nat) (v : Value) {s' : Scr} (hs : (s.cells pm po pp vt vo).setIfInBounds i v = s'.cells pm po pp vt vo) (h1 : s'.main = s.main) (h2 : s'.other = s.other) (h3 : s'.tabs = s.tabs) (h4 : s'.out = s.out) :
    SAt C Tm To Tp p pm po pp vt vo (w.setCell ⟨p, i, none⟩ v) s' ps := by
  have g : w.grownBy (w.setCell ⟨p, i, none⟩ v) (some p) := gb_set (gb_refl _ _) _ _
  have K : Keep C 1 w (w.setCell ⟨p, i, none⟩ v) := .of_gb g (fun k hk => by injection hk with hk; subst hk; exact .inl h.cp)
  refine ⟨fun k hk => Nat.lt_of_lt_of_le (h.lt k hk) g.size, h.cp, by rw [← hs]; exact blk_set h.blk i v, by rw [h1]; exact K.gm h.gm h.t4 (by decide), by rw [h2]; exact K.oth h.go h.t5 (by decide), K.rest h.rp h.t6 (by decide), ?_, ?_, h.t2, h.t3, h.t4, h.t5, h.t6⟩
  · rw [h3]; exact K.row h.ta h.t2 (by decide)
  · rw [h4]; exact K.row h.ou h.t3 (by decide)
/-- Main has turned. -/
theorem SAt.main' {T' : Nat → Nat} {g' : Gr} (h : SAt C Tm To Tp p pm po pp vt vo w s ps) (hw : Within (own Tm w) w w') (hg : GM T' pm w' g') (hn : ∀ k, T' k ≠ 0 → own Tm w k) :
    SAt (reC C 4 T') T' To Tp p pm po pp vt vo w' { s with main := g' } ps ∧ ∀ k, reC C 4 T' k ≠ 0 → own C w k := by
  have K := Keep.of_own hw h.t4
  have hk : ∀ {d k : Nat}, C k = d → d ≠ 0 → d ≠ 4 → reC C 4 T' k = d := fun e h0 hd => reC_keep h.lt h.t4 hn e h0 hd
  refine ⟨⟨fun k hk2 => ?_, hk h.cp (by decide) (by decide), K.blk h.blk h.cp (by decide), hg, K.oth h.go h.t5 (by decide), K.rest h.rp h.t6 (by decide), K.row h.ta h.t2 (by decide), K.row h.ou h.t3 (by decide), fun k e => hk (h.t2 k e) (by decide) (by decide), fun k e => hk (h.t3 k e) (by decide) (by decide), fun k e => reC_new e, fun k e => hk (h.t5 k e) (by decide) (by decide), fun k e => hk (h.t6 k e) (by decide) (by decide)⟩, fun k hk2 => ?_⟩
  · rcases reC_from hk2 with e | e
    · exact hg.lt k e
    · exact Nat.lt_of_lt_of_le (h.lt k e) hw.size
  · rcases reC_from hk2 with e | e
    · rcases hn k e with e2 | e2
      · exact .inl (by rw [h.t4 k e2]; decide)
      · exact .inr e2
    · exact .inl e
/-- The other grid has turned. -/
theorem SAt.other' {T' : Nat → Nat} {q : Nat} {g g' : Gr} (h : SAt C Tm To Tp p pm (some q) pp vt vo w s ps) (hw : Within (own To w) w w') (hg : GM T' q w' g') (hn : ∀ k, T' k ≠ 0 → own To w k) :
    SAt (reC C 5 T') Tm T' Tp p pm (some q) pp vt vo w' { s with other := some g' } ps ∧ ∀ k, reC C 5 T' k ≠ 0 → own C w k := by
  have K := Keep.of_own hw h.t5
  have hk : ∀ {d k : Nat}, C k = d → d ≠ 0 → d ≠ 5 → reC C 5 T' k = d := fun e h0 hd => reC_keep h.lt h.t5 hn e h0 hd
  refine ⟨⟨fun k hk2 => ?_, hk h.cp (by decide) (by decide), K.blk h.blk h.cp (by decide), K.gm h.gm h.t4 (by decide), .inr ⟨q, g', rfl, rfl, hg⟩, K.rest h.rp h.t6 (by decide), K.row h.ta h.t2 (by decide), K.row h.ou h.t3 (by decide), fun k e => hk (h.t2 k e) (by decide) (by decide), fun k e => hk (h.t3 k e) (by decide) (by decide), fun k e => hk (h.t4 k e) (by decide) (by decide), fun k e => reC_new e, fun k e => hk (h.t6 k e) (by decide) (by decide)⟩, fun k hk2 => ?_⟩
  · rcases reC_from hk2 with e | e
    · exact hg.lt k e
    · exact Nat.lt_of_lt_of_le (h.lt k e) hw.size
  · rcases reC_from hk2 with e | e
    · rcases hn k e with e2 | e2
      · exact .inl (by rw [h.t5 k e2]; decide)
      · exact .inr e2
    · exact .inl e
/-- The parser has taken something. -/
theorem SAt.parser' {T' : Nat → Nat} {ps' : PSt} (h : SAt C Tm To Tp p pm po pp vt vo w s ps) (hw : Within (own Tp w) w w') (hg : Rest T' pp w' ps') (hn : ∀ k, T' k ≠ 0 → own Tp w k) :
    SAt (reC C 6 T') Tm To T' p pm po pp vt vo w' s ps' ∧ ∀ k, reC C 6 T' k ≠ 0 → own C w k := by
  have K := Keep.of_own hw h.t6
  have hk : ∀ {d k : Nat}, C k = d → d ≠ 0 → d ≠ 6 → reC C 6 T' k = d := fun e h0 hd => reC_keep h.lt h.t6 hn e h0 hd
  refine ⟨⟨fun k hk2 => ?_, hk h.cp (by decide) (by decide), K.blk h.blk h.cp (by decide), K.gm h.gm h.t4 (by decide), K.oth h.go h.t5 (by decide), hg, K.row h.ta h.t2 (by decide), K.row h.ou h.t3 (by decide), fun k e => hk (h.t2 k e) (by decide) (by decide), fun k e => hk (h.t3 k e) (by decide) (by decide), fun k e => hk (h.t4 k e) (by decide) (by decide), fun k e => hk (h.t5 k e) (by decide) (by decide), fun k e => reC_new e⟩, fun k hk2 => ?_⟩
  · rcases reC_from hk2 with e | e
    · exact hg.1 k e
    · exact Nat.lt_of_lt_of_le (h.lt k e) hw.size
  · rcases reC_from hk2 with e | e
    · rcases hn k e with e2 | e2
      · exact .inl (by rw [h.t6 k e2]; decide)
      · exact .inr e2
    · exact .inl e
end
theorem own_trans {C0 C : Nat → Nat} {w0 w w' : World} (h : Within (own C0 w0) w0 w) (hn : ∀ k, C k ≠ 0 → own C0 w0 k) (hw : Within (own C w) w w') : Within (own C0 w0) w0 w' :=
  h.trans (hw.mono fun k hk => by
    rcases hk with e | e
    · exact hn k e
    · exact .inr (by have := h.size; omega))
end Go.Proofs.YtlfdgkiliegaiaaGreatDoor

/- A screen that is turned: what each step leaves. -/
namespace Go.Proofs.YtlfdgkiliegaiaaGreatDoor
open Go.RowKit

/-- A screen in memory, made since B; B's tables are there. -/
structure SR (B : World) (C : Nat → Nat) (p : Nat) (w : World) (s : Scr) (ps : PSt) : Prop where
  sm : SM C p w s ps
  tb : Tabs B
  bl : Below B.heap.size B w
  hi : ∀ k, C k ≠ 0 → B.heap.size ≤ k
/-- What has been done is one's own doing. -/
structure Pre (C : Nat → Nat) (w : World) (C' : Nat → Nat) (w' : World) : Prop where
  wi : Within (own C w) w w'
  n : ∀ k, C' k ≠ 0 → own C w k
theorem Pre.refl (C : Nat → Nat) (w : World) : Pre C w C w := ⟨Within.refl _ _, fun _ hk => .inl hk⟩
theorem Pre.trans {C C1 C2 : Nat → Nat} {w w1 w2 : World} (h : Pre C w C1 w1) (g : Pre C1 w1 C2 w2) : Pre C w C2 w2 :=
  ⟨own_trans h.wi h.n g.wi, fun k hk => by
    rcases g.n k hk with e | e
    · exact h.n k e
    · exact .inr (by have := h.wi.size; omega)⟩
theorem Pre.below {C C1 : Nat → Nat} {w w1 w2 : World} (h : Pre C w C1 w1) (b : Below w1.heap.size w1 w2) : Pre C w C1 w2 := ⟨h.wi.trans (Within.of_below b), h.n⟩
/-- Another screen state behind it. -/
def Does (B : World) (C : Nat → Nat) (p : Nat) (w w' : World) (s : Scr) (ps : PSt) : Prop := ∃ C', SR B C' p w' s ps ∧ Pre C w C' w'
section
variable {B : World} {C : Nat → Nat} {p : Nat} {w w' : World} {s : Scr} {ps : PSt}
theorem SR.step {C' : Nat → Nat} {s' : Scr} {ps' : PSt} (h : SR B C p w s ps) (g : Pre C w C' w') (hs : SM C' p w' s' ps') : SR B C' p w' s' ps' :=
  ⟨hs, h.tb, h.bl.trans (own_below g.wi h.bl.size h.hi), own_from g.n h.bl.size h.hi⟩
theorem SR.below (h : SR B C p w s ps) (b : Below w.heap.size w w') : SR B C p w' s ps := by
  obtain ⟨Tm, To, Tp, pm, po, pp, vt, vo, hs⟩ := h.sm
  exact h.step ⟨Within.of_below b, fun _ hk => .inl hk⟩ ⟨Tm, To, Tp, pm, po, pp, vt, vo, hs.below b⟩
theorem Does.refl (h : SR B C p w s ps) : Does B C p w w s ps := ⟨C, h, Pre.refl _ _⟩
theorem Does.after {C1 : Nat → Nat} {w1 w2 : World} {s2 : Scr} {ps2 : PSt} (g : Pre C w C1 w1) (d : Does B C1 p w1 w2 s2 ps2) : Does B C p w w2 s2 ps2 := by
  obtain ⟨C2, h2, g2⟩ := d
  exact ⟨C2, h2, g.trans g2⟩
theorem SR.blk (h : SR B C p w s ps) : ∃ pm po pp vt vo, w.heap[p]? = some (.cells (s.cells pm po pp vt vo) 90 (0, 0)) := by
  obtain ⟨Tm, To, Tp, pm, po, pp, vt, vo, hs⟩ := h.sm
  exact ⟨pm, po, pp, vt, vo, hs.blk⟩
theorem SR.fz (h : SR B C p w s ps) (i : Nat) : w.frozen? ⟨p, i, none⟩ = false := by
  obtain ⟨pm, po, pp, vt, vo, hb⟩ := h.blk
  exact blk_free hb i
theorem SR.at_ (h : SR B C p w s ps) (i : Nat) (v : Value) (hv : ∀ pm po pp vt vo, (s.cells pm po pp vt vo)[i]? = some v := by intros; rfl) : w.cell? ⟨p, i, none⟩ = some v := by
  obtain ⟨pm, po, pp, vt, vo, hb⟩ := h.blk
  exact (blk_cell hb i).trans (hv pm po pp vt vo)
theorem cell_heap {w w' : World} {p : Nat} (h : w'.heap[p]? = w.heap[p]?) (i : Nat) : w'.cell? ⟨p, i, none⟩ = w.cell? ⟨p, i, none⟩ := by
  unfold World.cell?
  rw [h]
theorem SR.pc (h : SR B C p w s ps) : C p ≠ 0 := by
  obtain ⟨Tm, To, Tp, pm, po, pp, vt, vo, hs⟩ := h.sm
  rw [hs.cp]; decide
theorem SR.pl (h : SR B C p w s ps) : p < w.heap.size := by
  obtain ⟨pm, po, pp, vt, vo, hb⟩ := h.blk
  exact heap_lt hb
/-- A field is set. -/
theorem SR.set (h : SR B C p w s ps) (i : Nat) (v : Value) (s' : Scr) (hc : ∀ pm po pp vt vo, (s.cells pm po pp vt vo).setIfInBounds i v = s'.cells pm po pp vt vo := by intros; rfl) (h1 : s'.main = s.main := by rfl) (h2 : s'.other = s.other := by rfl) (h3 : s'.tabs = s.tabs := by rfl) (h4 : s'.out = s.out := by rfl) :
    SR B C p (w.setCell ⟨p, i, none⟩ v) s' ps ∧ Pre C w C (w.setCell ⟨p, i, none⟩ v) := by
  obtain ⟨Tm, To, Tp, pm, po, pp, vt, vo, hs⟩ := h.sm
  have g : Pre C w C (w.setCell ⟨p, i, none⟩ v) := ⟨Within.of_gb (gb_set (gb_refl _ _) _ _) (fun k hk => by injection hk with hk; subst hk; exact .inl h.pc), fun _ hk => .inl hk⟩
  exact ⟨h.step g ⟨Tm, To, Tp, pm, po, pp, vt, vo, hs.field i v (hc pm po pp vt vo) h1 h2 h3 h4⟩, g⟩
/-- Main is turned. -/
theorem SR.main (h : SR B C p w s ps) : ∃ T q, GM T q w s.main ∧ w.cell? ⟨p, 10, none⟩ = some (.pointer (some ⟨q, 0, none⟩)) ∧
    ∀ w2 w' T' g', Below w.heap.size w w2 → Within (own T w2) w2 w' → GM T' q w' g' → (∀ k, T' k ≠ 0 → own T w2 k) → Does B C p w w' { s with main := g' } ps ∧ w'.heap[p]? = w.heap[p]? := by
  obtain ⟨Tm, To, Tp, pm, po, pp, vt, vo, hs⟩ := h.sm
  refine ⟨Tm, pm, hs.gm, blk_cell hs.blk 10, fun w2 w' T' g' hb hw hg hn => ?_⟩
  obtain ⟨h2, n2⟩ := (hs.below hb).main' hw hg hn
  have K := Keep.of_own hw (hs.below hb).t4
  have g2 : Pre C w2 (reC C 4 T') w' := ⟨K.own (by decide), n2⟩
  have g := ((Pre.refl C w).below hb).trans g2
  exact ⟨⟨_, h.step g ⟨_, _, _, _, _, _, _, _, h2⟩, g⟩, (K.blk (hs.below hb).blk hs.cp (by decide)).trans hs.blk.symm⟩
/-- Which grid is shown. -/
def ShQ (w : World) (p q : Nat) : Prop := (w.cell? ⟨p, 11, none⟩ = some (.pointer none) ∧ w.cell? ⟨p, 10, none⟩ = some (.pointer (some ⟨q, 0, none⟩))) ∨ w.cell? ⟨p, 11, none⟩ = some (.pointer (some ⟨q, 0, none⟩))
theorem SR.grid (h : SR B C p w s ps) : ∃ T q, GM T q w s.shown ∧ ShQ w p q ∧
    ∀ w2 w' T' (f : Gr → Gr), Below w.heap.size w w2 → Within (own T w2) w2 w' → GM T' q w' (f s.shown) → (∀ k, T' k ≠ 0 → own T w2 k) → Does B C p w w' (s.turn f) ps ∧ w'.heap[p]? = w.heap[p]? := by
  obtain ⟨Tm, To, Tp, pm, po, pp, vt, vo, hs⟩ := h.sm
  rcases hs.go with ⟨rfl, e, _⟩ | ⟨q, g0, rfl, e, hg0⟩
  · have hsh : s.shown = s.main := by unfold Scr.shown; rw [e]; rfl
    refine ⟨Tm, pm, by rw [hsh]; exact hs.gm, .inl ⟨blk_cell hs.blk 11, blk_cell hs.blk 10⟩, fun w2 w' T' f hb hw hg hn => ?_⟩
    obtain ⟨h2, n2⟩ := (hs.below hb).main' hw hg hn
    have K := Keep.of_own hw (hs.below hb).t4
    have g2 : Pre C w2 (reC C 4 T') w' := ⟨K.own (by decide), n2⟩
    have g := ((Pre.refl C w).below hb).trans g2
    have hf : s.turn f = { s with main := f s.shown } := by unfold Scr.turn; rw [e, hsh]
    rw [hf]
    exact ⟨⟨_, h.step g ⟨_, _, _, _, _, _, _, _, h2⟩, g⟩, (K.blk (hs.below hb).blk hs.cp (by decide)).trans hs.blk.symm⟩
  · have hsh : s.shown = g0 := by unfold Scr.shown; rw [e]; rfl
    refine ⟨To, q, by rw [hsh]; exact hg0, .inr (blk_cell hs.blk 11), fun w2 w' T' f hb hw hg hn => ?_⟩
    obtain ⟨h2, n2⟩ := (hs.below hb).other' (g := g0) hw hg hn
    have K := Keep.of_own hw (hs.below hb).t5
    have g2 : Pre C w2 (reC C 5 T') w' := ⟨K.own (by decide), n2⟩
    have g := ((Pre.refl C w).below hb).trans g2
    have hf : s.turn f = { s with other := some (f s.shown) } := by unfold Scr.turn; rw [e, hsh]
    rw [hf]
    exact ⟨⟨_, h.step g ⟨_, _, _, _, _, _, _, _, h2⟩, g⟩, (K.blk (hs.below hb).blk hs.cp (by decide)).trans hs.blk.symm⟩
theorem SR.right (h : SR B C p w s ps) (t : Sty) (h1 : -9223372036854775808 ≤ t.fg ∧ t.fg ≤ 9223372036854775807) (h2 : -9223372036854775808 ≤ t.bg ∧ t.bg ≤ 9223372036854775807) : RightIn w t := (right_all t B h.tb h1 h2).below h.bl
theorem okS_range {t : Sty} (h : okS t = true) : (-9223372036854775808 ≤ t.fg ∧ t.fg ≤ 9223372036854775807) ∧ (-9223372036854775808 ≤ t.bg ∧ t.bg ≤ 9223372036854775807) := by
  unfold okS colOk at h
  simp only [Bool.and_eq_true, Bool.or_eq_true, decide_eq_true_eq] at h
  omega
theorem SR.oth (h : SR B C p w s ps) : (w.cell? ⟨p, 11, none⟩ = some (.pointer none) ∧ s.other.isNone = true) ∨ ∃ q, w.cell? ⟨p, 11, none⟩ = some (.pointer (some ⟨q, 0, none⟩)) ∧ s.other.isNone = false := by
  obtain ⟨Tm, To, Tp, pm, po, pp, vt, vo, hs⟩ := h.sm
  have c := blk_cell hs.blk 11
  rcases hs.go with ⟨rfl, e, _⟩ | ⟨q, g0, rfl, e, hg0⟩
  · exact .inl ⟨c, by rw [e]; rfl⟩
  · exact .inr ⟨q, c, by rw [e]; rfl⟩
theorem SR.wf (h : SR B C p w s ps) : s.main.WF := by
  obtain ⟨T, q, hg, _⟩ := h.main
  exact hg.wf
/-- The numbers of a screen in its bounds. -/
structure Nums (s : Scr) : Prop where
  x0 : 0 ≤ s.now.x
  x1 : s.now.x < (s.main.cols : Int)
  y0 : 0 ≤ s.now.y
  y1 : s.now.y < (s.main.rows.length : Int)
  t0 : 0 ≤ s.top
  tb : s.top ≤ s.bottom
  b1 : s.bottom < (s.main.rows.length : Int)
  c1 : 1 ≤ s.main.cols
  c2 : s.main.cols ≤ 250
  r1 : 1 ≤ s.main.rows.length
  r2 : s.main.rows.length ≤ 120
  tl : s.tabs.length = s.main.cols
  pen : okS s.now.pen = true
theorem SR.nums {c r : Nat} (h : SR B C p w s ps) (hok : s.Ok c r) : Nums s := by
  have wf := h.wf
  obtain ⟨e1, e2⟩ := hok.main
  have hn := hok.now
  exact ⟨hn.x0, by rw [e1]; exact hn.x1, hn.y0, by rw [e2]; exact hn.y1, hok.t0, hok.tb, by rw [e2]; exact hok.b1, wf.c1, wf.c2, wf.r1, wf.r2, by rw [e1]; exact hok.tl, hn.pen⟩
theorem Nums.ok {s : Scr} (_ : Nums s) {c r : Nat} (hok : s.Ok c r) : c = s.main.cols ∧ r = s.main.rows.length := ⟨hok.main.1.symm, hok.main.2.symm⟩
theorem SR.blankR {c r : Nat} (h : SR B C p w s ps) (hok : s.Ok c r) : RightIn w s.blank := by
  have hr := okS_range (h.nums hok).pen
  refine h.right _ ⟨?_, ?_⟩ ?_
  · show (-9223372036854775808 : Int) ≤ -1; decide
  · show (-1 : Int) ≤ 9223372036854775807; decide
  · exact hr.2
/-- The screen's own block is written. -/
theorem SR.setG (h : SR B C p w s ps) (g : w.grownBy w' (some p)) (s' : Scr) (hb : ∀ pm po pp vt vo, w.heap[p]? = some (.cells (s.cells pm po pp vt vo) 90 (0, 0)) → w'.heap[p]? = some (.cells (s'.cells pm po pp vt vo) 90 (0, 0)))
    (h1 : s'.main = s.main := by rfl) (h2 : s'.other = s.other := by rfl) (h3 : s'.tabs = s.tabs := by rfl) (h4 : s'.out = s.out := by rfl) : SR B C p w' s' ps ∧ Pre C w C w' := by
  obtain ⟨Tm, To, Tp, pm, po, pp, vt, vo, hs⟩ := h.sm
  have K : Keep C 1 w w' := .of_gb g (fun k hk => by injection hk with hk; subst hk; exact .inl hs.cp)
  have g' : Pre C w C w' := ⟨K.own (by decide), fun _ hk => .inl hk⟩
  exact ⟨h.step g' ⟨Tm, To, Tp, pm, po, pp, vt, vo, ⟨fun k hk => Nat.lt_of_lt_of_le (hs.lt k hk) g.size, hs.cp, hb pm po pp vt vo hs.blk, by rw [h1]; exact K.gm hs.gm hs.t4 (by decide), by rw [h2]; exact K.oth hs.go hs.t5 (by decide), K.rest hs.rp hs.t6 (by decide), by rw [h3]; exact K.row hs.ta hs.t2 (by decide), by rw [h4]; exact K.row hs.ou hs.t3 (by decide), hs.t2, hs.t3, hs.t4, hs.t5, hs.t6⟩⟩, g'⟩
def Sav.vals (v : Sav) : List Value := [.int .i64 v.x, .int .i64 v.y, .bool v.wait, .int .i64 v.pen.fg, .int .i64 v.pen.bg, .int .i64 v.pen.attr, .bool v.origin, .bool v.l0, .bool v.l1, .int .i64 v.second]
theorem gb_setCells' (w : World) (p : Nat) : ∀ (vs : List Value) (o : Nat), w.grownBy (w.setCells p o vs) (some p) := fun vs o => by
  induction vs generalizing w o with
  | nil => exact gb_refl _ _
  | cons v r ih => exact gb_trans (gb_set (gb_refl w (some p)) o v) (ih _ _)
theorem blk_setCells10 {w : World} {p : Nat} {c : Array Value} {T : TypeId} (h : w.heap[p]? = some (.cells c T (0, 0))) (o : Nat) (v : Sav) :
    (w.setCells p o v.vals).heap[p]? = some (.cells ((((((((((c.setIfInBounds o (.int .i64 v.x)).setIfInBounds (o + 1) (.int .i64 v.y)).setIfInBounds (o + 2) (.bool v.wait)).setIfInBounds (o + 3) (.int .i64 v.pen.fg)).setIfInBounds (o + 4) (.int .i64 v.pen.bg)).setIfInBounds (o + 5) (.int .i64 v.pen.attr)).setIfInBounds (o + 6) (.bool v.origin)).setIfInBounds (o + 7) (.bool v.l0)).setIfInBounds (o + 8) (.bool v.l1)).setIfInBounds (o + 9) (.int .i64 v.second)) T (0, 0)) :=
  blk_set (blk_set (blk_set (blk_set (blk_set (blk_set (blk_set (blk_set (blk_set (blk_set h _ _) _ _) _ _) _ _) _ _) _ _) _ _) _ _) _ _) _ _
theorem SR.setNow (h : SR B C p w s ps) (v : Sav) : SR B C p (w.setCells p 0 v.vals) { s with now := v } ps ∧ Pre C w C (w.setCells p 0 v.vals) :=
  h.setG (gb_setCells' w p _ _) { s with now := v } (fun pm po pp vt vo hb => by
    have h2 := blk_setCells10 hb 0 v
    simp only [Scr.cells, List.setIfInBounds_toArray, List.set_cons_zero, List.set_cons_succ, Nat.reduceAdd, Nat.zero_add] at h2
    exact h2)
theorem SR.setK0 (h : SR B C p w s ps) (v : Sav) : SR B C p (w.setCells p 12 v.vals) { s with k0 := v } ps ∧ Pre C w C (w.setCells p 12 v.vals) :=
  h.setG (gb_setCells' w p _ _) { s with k0 := v } (fun pm po pp vt vo hb => by
    have h2 := blk_setCells10 hb 12 v
    simp only [Scr.cells, List.setIfInBounds_toArray, List.set_cons_zero, List.set_cons_succ, Nat.reduceAdd, Nat.zero_add] at h2
    exact h2)
theorem SR.setK1 (h : SR B C p w s ps) (v : Sav) : SR B C p (w.setCells p 22 v.vals) { s with k1 := v } ps ∧ Pre C w C (w.setCells p 22 v.vals) :=
  h.setG (gb_setCells' w p _ _) { s with k1 := v } (fun pm po pp vt vo hb => by
    have h2 := blk_setCells10 hb 22 v
    simp only [Scr.cells, List.setIfInBounds_toArray, List.set_cons_zero, List.set_cons_succ, Nat.reduceAdd, Nat.zero_add] at h2
    exact h2)
theorem range10 {w : World} {p o : Nat} {c : Array Value} {T : TypeId} {vs : List Value} (h : w.heap[p]? = some (.cells c T (0, 0))) (hv : ∀ j v, vs[j]? = some v → c[o + j]? = some v) : w.rangeAt p o vs := fun j v e => (blk_cell h (o + j)).trans (hv j v e)
theorem sav_range (v : Sav) (o : Nat) (c : Array Value) (h0 : c[o]? = some (.int .i64 v.x)) (h1 : c[o + 1]? = some (.int .i64 v.y)) (h2 : c[o + 2]? = some (.bool v.wait)) (h3 : c[o + 3]? = some (.int .i64 v.pen.fg)) (h4 : c[o + 4]? = some (.int .i64 v.pen.bg)) (h5 : c[o + 5]? = some (.int .i64 v.pen.attr)) (h6 : c[o + 6]? = some (.bool v.origin)) (h7 : c[o + 7]? = some (.bool v.l0)) (h8 : c[o + 8]? = some (.bool v.l1)) (h9 : c[o + 9]? = some (.int .i64 v.second)) :
    ∀ j u, v.vals[j]? = some u → c[o + j]? = some u
  | 0, u, e => by rw [show v.vals[0]? = some (.int .i64 v.x) from rfl] at e; rw [← e]; exact h0
  | 1, u, e => by rw [show v.vals[1]? = some (.int .i64 v.y) from rfl] at e; rw [← e]; exact h1
  | 2, u, e => by rw [show v.vals[2]? = some (.bool v.wait) from rfl] at e; rw [← e]; exact h2
  | 3, u, e => by rw [show v.vals[3]? = some (.int .i64 v.pen.fg) from rfl] at e; rw [← e]; exact h3
  | 4, u, e => by rw [show v.vals[4]? = some (.int .i64 v.pen.bg) from rfl] at e; rw [← e]; exact h4
  | 5, u, e => by rw [show v.vals[5]? = some (.int .i64 v.pen.attr) from rfl] at e; rw [← e]; exact h5
  | 6, u, e => by rw [show v.vals[6]? = some (.bool v.origin) from rfl] at e; rw [← e]; exact h6
  | 7, u, e => by rw [show v.vals[7]? = some (.bool v.l0) from rfl] at e; rw [← e]; exact h7
  | 8, u, e => by rw [show v.vals[8]? = some (.bool v.l1) from rfl] at e; rw [← e]; exact h8
  | 9, u, e => by rw [show v.vals[9]? = some (.int .i64 v.second) from rfl] at e; rw [← e]; exact h9
  | n + 10, u, e => by rw [show v.vals[n + 10]? = none from rfl] at e; cases e
theorem SR.k0R (h : SR B C p w s ps) : w.rangeAt p 12 s.k0.vals := by
  obtain ⟨pm, po, pp, vt, vo, hb⟩ := h.blk
  exact range10 hb (sav_range s.k0 12 _ rfl rfl rfl rfl rfl rfl rfl rfl rfl rfl)
theorem SR.k1R (h : SR B C p w s ps) : w.rangeAt p 22 s.k1.vals := by
  obtain ⟨pm, po, pp, vt, vo, hb⟩ := h.blk
  exact range10 hb (sav_range s.k1 22 _ rfl rfl rfl rfl rfl rfl rfl rfl rfl rfl)
theorem SR.there (h : SR B C p w s ps) (o n : Nat) (hn : o + n ≤ 41) : w.there p o n := fun j hj => by
  obtain ⟨pm, po, pp, vt, vo, hb⟩ := h.blk
  refine ⟨?_, h.fz _⟩
  rw [blk_cell hb, Array.getElem?_eq_getElem (by show o + j < 41; omega)]
  rfl
end
end Go.Proofs.YtlfdgkiliegaiaaGreatDoor

/- Walks of package screen: the small ones. -/
namespace Go.Proofs.YtlfdgkiliegaiaaGreatDoor
open Go.RowKit
set_option maxRecDepth 100000

theorem colsS_any {B : World} {C : Nat → Nat} {p : Nat} {w : World} {s : Scr} {ps : PSt} (h : SR B C p w s ps) :
    Calls Tryz.prog 93 #[.pointer (some ⟨p, 0, none⟩)] w fun e w' => e = .returned (.int .i64 s.main.cols) ∧ w' = w := by
  obtain ⟨T, q, hg, c10, _⟩ := h.main
  have HC := Lib.hid (cols_any hg)
  clear hg h
  go_enter Tryz.func93, Tryz.ntmps93
  go_wp2_with fail
  refine HC.out.mono ?_
  rintro e w2 ⟨rfl, rfl⟩
  go_wp2_with fail
  go_ret
  exact ⟨rfl, rfl⟩
theorem rowsS_any {B : World} {C : Nat → Nat} {p : Nat} {w : World} {s : Scr} {ps : PSt} (h : SR B C p w s ps) :
    Calls Tryz.prog 68 #[.pointer (some ⟨p, 0, none⟩)] w fun e w' => e = .returned (.int .i64 s.main.rows.length) ∧ w' = w := by
  obtain ⟨T, q, hg, c10, _⟩ := h.main
  have HC := Lib.hid (rowsN_any hg)
  clear hg h
  go_enter Tryz.func68, Tryz.ntmps68
  go_wp2_with fail
  refine HC.out.mono ?_
  rintro e w2 ⟨rfl, rfl⟩
  go_wp2_with fail
  go_ret
  exact ⟨rfl, rfl⟩
theorem shownS_any {p q : Nat} {w : World} (h : ShQ w p q) :
    Calls Tryz.prog 69 #[.pointer (some ⟨p, 0, none⟩)] w fun e w' => e = .returned (.pointer (some ⟨q, 0, none⟩)) ∧ w' = w := by
  rcases h with ⟨c11, c10⟩ | c11
  · go_enter Tryz.func69, Tryz.ntmps69
    go_wp2_with fail
    go_ret
    exact ⟨rfl, rfl⟩
  · go_enter Tryz.func69, Tryz.ntmps69
    go_wp2_with fail
    go_ret
    exact ⟨rfl, rfl⟩
theorem hasS_any {B : World} {C : Nat → Nat} {p : Nat} {w : World} {s : Scr} {ps : PSt} (h : SR B C p w s ps) (m : Int) :
    Calls Tryz.prog 67 #[.pointer (some ⟨p, 0, none⟩), .int .i64 m] w fun e w' => e = .returned (.bool (s.has m)) ∧ w' = w := by
  have c32 : w.cell? ⟨p, 32, none⟩ = some (.int .i64 s.modes) := h.at_ 32 _
  clear h
  go_enter Tryz.func67, Tryz.ntmps67
  go_wp2_with fail
  go_ret
  exact ⟨rfl, rfl⟩
theorem wholeS_any {B : World} {C : Nat → Nat} {p : Nat} {w : World} {s : Scr} {ps : PSt} (h : SR B C p w s ps) :
    Calls Tryz.prog 49 #[.pointer (some ⟨p, 0, none⟩)] w fun e w' => e = .returned (.tuple #[]) ∧ Does B C p w w' s.whole ps := by
  have HR := Lib.hid (rowsS_any h)
  have f33 := h.fz 33
  have f34 := h.fz 34
  have c33 : w.cell? ⟨p, 33, none⟩ = some (.int .i64 s.top) := h.at_ 33 _
  have c34 : w.cell? ⟨p, 34, none⟩ = some (.int .i64 s.bottom) := h.at_ 34 _
  have wf := h.wf
  have r2 := wf.r2
  have r1 := wf.r1
  have hw1 : IntKind.i64.wrap ((s.main.rows.length : Int) - 1) = (s.main.rows.length : Int) - 1 := wrap64_id _ (by omega) (by omega)
  obtain ⟨h1, g1⟩ := h.set 33 (.int .i64 0) { s with top := 0 }
  obtain ⟨h2, g2⟩ := h1.set 34 (.int .i64 ((s.main.rows.length : Int) - 1)) { s with top := 0, bottom := (s.main.rows.length : Int) - 1 }
  have HD := Lib.hid (show Does B C p w _ s.whole ps from ⟨C, h2, g1.trans g2⟩)
  clear h h1 h2 g1 g2 wf
  go_enter Tryz.func49, Tryz.ntmps49
  go_wp2_with fail
  refine HR.out.mono ?_
  rintro e w2 ⟨rfl, rfl⟩
  go_wp2_with fail
  go_end0
  exact ⟨rfl, HD.out⟩
theorem modeS_any {B : World} {C : Nat → Nat} {p : Nat} {w : World} {s : Scr} {ps : PSt} (h : SR B C p w s ps) (m : Int) (on : Bool) :
    Calls Tryz.prog 212 #[.pointer (some ⟨p, 0, none⟩), .int .i64 m, .bool on] w fun e w' => e = .returned (.tuple #[]) ∧ Does B C p w w' (s.mode m on) ps := by
  have f32 := h.fz 32
  have c32 : w.cell? ⟨p, 32, none⟩ = some (.int .i64 s.modes) := h.at_ 32 _
  obtain ⟨h1, g1⟩ := h.set 32 (.int .i64 (bNot s.modes m)) { s with modes := bNot s.modes m }
  cases on
  · have HD := Lib.hid (show Does B C p w _ (s.mode m false) ps from ⟨C, h1, g1⟩)
    clear h h1 g1
    go_enter Tryz.func212, Tryz.ntmps212
    go_wp2_with fail
    go_end0
    exact ⟨rfl, HD.out⟩
  · obtain ⟨h2, g2⟩ := h1.set 32 (.int .i64 (bOr (bNot s.modes m) m)) { s with modes := bOr (bNot s.modes m) m }
    have HD := Lib.hid (show Does B C p w _ (s.mode m true) ps from ⟨C, h2, g1.trans g2⟩)
    clear h h1 h2 g1 g2
    go_enter Tryz.func212, Tryz.ntmps212
    go_wp2_with fail
    go_end0
    exact ⟨rfl, HD.out⟩
theorem blankS_any {B : World} {C : Nat → Nat} {p : Nat} {w : World} {s : Scr} {ps : PSt} (h : SR B C p w s ps) :
    Calls Tryz.prog 155 #[.pointer (some ⟨p, 0, none⟩)] w fun e w' => e = .returned s.blank.val ∧ Below w.heap.size w w' := by
  have c4 : w.cell? ⟨p, 4, none⟩ = some (.int .i64 s.now.pen.bg) := h.at_ 4 _
  have hl := h.pl
  have hc := fun o => (show (w.alloc o).cell? ⟨p, 4, none⟩ = some (.int .i64 s.now.pen.bg) from cell_below ((Below.refl w.heap.size w).alloc (Nat.le_refl _) o) c4)
  clear h
  unfold Sty.val Scr.blank
  go_enter Tryz.func155, Tryz.ntmps155
  go_wp2_with fail
  exact retRow rfl rfl rfl (blk_new _ _) Tryz.underlying35 rfl (by exact sty_info) ⟨rfl, (Below.refl w.heap.size w).alloc (Nat.le_refl _) _⟩
theorem placeS_any {B : World} {C : Nat → Nat} {p : Nat} {w : World} {s : Scr} {ps : PSt} (h : SR B C p w s ps) (x y : Int) :
    Calls Tryz.prog 207 #[.pointer (some ⟨p, 0, none⟩), .int .i64 x, .int .i64 y] w fun e w' => e = .returned (.tuple #[]) ∧ Does B C p w w' (s.place x y) ps := by
  have HR := Lib.hid (rowsS_any h)
  have HC := Lib.hid (colsS_any h)
  have f0 := h.fz 0
  have f1 := h.fz 1
  have f2 := h.fz 2
  have c0 : w.cell? ⟨p, 0, none⟩ = some (.int .i64 s.now.x) := h.at_ 0 _
  have c1 : w.cell? ⟨p, 1, none⟩ = some (.int .i64 s.now.y) := h.at_ 1 _
  have c2 : w.cell? ⟨p, 2, none⟩ = some (.bool s.now.wait) := h.at_ 2 _
  have wf := h.wf
  have r2 := wf.r2
  have r1 := wf.r1
  have k1 := wf.c1
  have k2 := wf.c2
  have hw1 : IntKind.i64.wrap ((s.main.rows.length : Int) - 1) = (s.main.rows.length : Int) - 1 := wrap64_id _ (by omega) (by omega)
  have hw2 : IntKind.i64.wrap ((s.main.cols : Int) - 1) = (s.main.cols : Int) - 1 := wrap64_id _ (by omega) (by omega)
  obtain ⟨h1, g1⟩ := h.set 0 (.int .i64 (max 0 (min x ((s.main.cols : Int) - 1)))) { s with now := { s.now with x := max 0 (min x ((s.main.cols : Int) - 1)) } }
  obtain ⟨h2, g2⟩ := h1.set 1 (.int .i64 (max 0 (min y ((s.main.rows.length : Int) - 1)))) { s with now := { s.now with x := max 0 (min x ((s.main.cols : Int) - 1)), y := max 0 (min y ((s.main.rows.length : Int) - 1)) } }
  obtain ⟨h3, g3⟩ := h2.set 2 (.bool false) (s.place x y)
  have HD := Lib.hid (show Does B C p w _ (s.place x y) ps from ⟨C, h3, (g1.trans g2).trans g3⟩)
  clear h h1 h2 h3 g1 g2 g3 wf
  go_enter Tryz.func207, Tryz.ntmps207
  go_wp2_with fail
  refine HC.out.mono ?_
  rintro e w2 ⟨rfl, rfl⟩
  go_wp2_with fail
  refine HR.out.mono ?_
  rintro e w2 ⟨rfl, rfl⟩
  go_wp2_with fail
  go_end0
  exact ⟨rfl, HD.out⟩
theorem lineS_any {B : World} {C : Nat → Nat} {p : Nat} {w : World} {s : Scr} {ps : PSt} (h : SR B C p w s ps) (y : Int) (h1 : -100000 ≤ y ∧ y ≤ 100000) (h2 : 0 ≤ s.top ∧ s.top ≤ 1000) :
    Calls Tryz.prog 231 #[.pointer (some ⟨p, 0, none⟩), .int .i64 y] w fun e w' => e = .returned (.int .i64 (s.line y)) ∧ ∃ m, w' = w.drewN m := by
  have HH := Lib.hid (hasS_any h 4)
  have c33 : w.cell? ⟨p, 33, none⟩ = some (.int .i64 s.top) := h.at_ 33 _
  have c34 : w.cell? ⟨p, 34, none⟩ = some (.int .i64 s.bottom) := h.at_ 34 _
  have hw1 : IntKind.i64.wrap (y + s.top) = y + s.top := wrap64_id _ (by omega) (by omega)
  cases e4 : s.has 4
  · have HE := Lib.hid (show s.line y = y by unfold Scr.line; rw [e4]; rfl)
    rw [e4] at HH
    clear h e4
    go_enter Tryz.func231, Tryz.ntmps231
    go_wp2_with fail
    refine HH.out.mono ?_
    rintro e w2 ⟨rfl, rfl⟩
    go_wp2_with fail
    go_ret
    exact ⟨ret_int HE.out.symm, 0, rfl⟩
  · have HE := Lib.hid (show s.line y = max s.top (min (y + s.top) s.bottom) by unfold Scr.line; rw [e4]; rfl)
    rw [e4] at HH
    clear h e4
    go_enter Tryz.func231, Tryz.ntmps231
    go_upto_region 3 with (refine HH.out.mono ?_; rintro e w2 ⟨rfl, rfl⟩)
    go_quiet (fail)
    go_wp2_with fail
    go_ret
    exact ⟨ret_int HE.out.symm, _, rfl⟩

end Go.Proofs.YtlfdgkiliegaiaaGreatDoor
