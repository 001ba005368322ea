/- Package vtparse: texts, runes, ends, pass. -/
import Derived.Test.YtkdicejlfagaeaaDoorW2
import Derived.StillTailTactics
namespace Go.Proofs.YtkdicejlfagaeaaDoor
open Go.RowKit

def PSt.texts (s : PSt) : Bool := s.state == 4 || s.state == 6 || s.state == 7
def emp : ByteArray := ⟨#[]⟩
def prAct (r : Int) : VAct := ⟨1, r, 0, [], emp, emp⟩
def ctlAct (b : UInt8) : VAct := ⟨2, 0, b, [], emp, emp⟩
def escAct (b : UInt8) (inter : List UInt8) : VAct := ⟨3, 0, b, [], ⟨inter.toArray⟩, emp⟩
def csiAct (b : UInt8) (params : List Int) (inter : List UInt8) : VAct := ⟨4, 0, b, params, ⟨inter.toArray⟩, emp⟩
def oscAct (text : List UInt8) : VAct := ⟨5, 0, 0, [], emp, ⟨text.toArray⟩⟩
def dcsAct (b : UInt8) (params : List Int) (inter text : List UInt8) : VAct := ⟨6, 0, b, params, ⟨inter.toArray⟩, ⟨text.toArray⟩⟩
def PSt.endActs (s : PSt) : List VAct := if s.state = 4 then [oscAct s.text] else if s.state = 6 then [dcsAct s.final s.params s.inter s.text] else []

theorem texts_any (p d : Nat) (s : PSt) (tell vi vp vt : Value) (w : World) (hb : w.heap[p]? = some (.cells (s.cells d tell vi vp vt) 45 (0, 0))) :
    Calls Tryd.prog 31 #[.pointer (some ⟨p, 0, none⟩)] w fun e w' => e = .returned (.bool s.texts) ∧ w' = w := by
  have c0 : w.cell? ⟨p, 0, none⟩ = some (.int .i64 s.state) := blk_cell hb 0
  clear hb
  have HS := Lib.hid (show s.texts = (s.state == 4 || s.state == 6 || s.state == 7) from rfl)
  generalize s.state = st at *
  cases h1 : (st == 4)
  rotate_left
  · rw [h1] at HS
    go_enter Tryd.func31, Tryd.ntmps31
    go_wp2_with fail
    go_ret
    exact ⟨ret_bool (by rw [HS.out]; rfl), by trivial⟩
  cases h2 : (st == 6)
  rotate_left
  · rw [h1, h2] at HS
    go_enter Tryd.func31, Tryd.ntmps31
    go_wp2_with fail
    go_ret
    exact ⟨ret_bool (by rw [HS.out]; rfl), by trivial⟩
  rw [h1, h2] at HS
  go_enter Tryd.func31, Tryd.ntmps31
  go_wp2_with fail
  go_ret
  exact ⟨ret_bool (by rw [HS.out]; rfl), by trivial⟩

theorem isRd_own {k : IntKind} {w : World} {v : Value} {l : List Int} (h : OwnC w 0 1 v l.length (l.map (Value.int k))) : IsRd k w v l := isRd_ints (ownC_ints h)
theorem parCell {u : Bool} {T : Nat → Nat} {p d : Nat} {tell vi vp vt : Value} {w : World} {s : PSt} (h : Core u T p d tell vi vp vt w s) (i : Nat) : w.cell? ⟨p, i, none⟩ = (s.cells d tell vi vp vt)[i]? := blk_cell h.blk i
theorem invCell {G : Nat → Prop} {u : Bool} {T : Nat → Nat} {p o : Nat} {w : World} {s : PSt} {acts : List VAct} (h : InvT G u T p o w s acts) : w.cell? ⟨p, 2, none⟩ = some (.func (.func 19) #[] #[.pointer (some ⟨o, 0, none⟩)]) := by
  obtain ⟨d, vi, vp, vt, vo, L, hL, hA, hC, hT⟩ := h
  exact parCell hC 2
theorem parRunes_inv {G : Nat → Prop} {u : Bool} {T : Nat → Nat} {p o : Nat} {w : World} {s : PSt} {acts : List VAct} (v : Value) (l : List Int) (h : InvT G u T p o w s acts) (hv : Row T 0 1 v l.length (l.map (Value.int .i32)) w) (hn : acts.length + l.length ≤ 1000000000) :
    Calls Tryd.prog 33 #[.pointer (some ⟨p, 0, none⟩), v] w fun e w' => e = .returned (.tuple #[]) ∧ Within G w w' ∧ InvO G u p o w' s (acts ++ l.map prAct) := by
  have hrd := isRd_own hv.own
  have hlen := rd_len Tryd.underlying55 hrd
  have H := Lib.hid h
  have HV := Lib.hid hv
  clear h hv hrd
  go_enter Tryd.func33, Tryd.ntmps33
  go_wp2_with fail
  go_loopw [8] (fun iv wr => ∃ k : Nat, k ≤ l.length ∧ iv = .int .i64 k ∧ Within G w wr ∧ ∃ T', Row T' 0 1 v l.length (l.map (Value.int .i32)) wr ∧ InvT G u T' p o wr s (acts ++ (l.take k).map prAct)) (fun iv _ => l.length - (intOf iv).toNat)
  case atStart => exact ⟨0, by omega, rfl, Within.refl _ _, T, HV.out, by simpa using H.out⟩
  case round =>
    obtain ⟨k, hk, rfl, hw, T', hv, hi⟩ := hrel
    have HW := Lib.hid hw
    have HV2 := Lib.hid hv
    have HI := Lib.hid hi
    clear hw hv hi
    have c2 := invCell HI.out
    by_cases hlt : k < l.length
    · obtain ⟨ad, had, hcell⟩ := rd_at Tryd.underlying55 (by kernel_rfl) (isRd_own HV2.out.own) k hlt
      have HSN := Lib.hid (take_succ_getD l 0 k hlt)
      have hl1 : (acts ++ (l.take k).map prAct).length ≤ 1000000000 := by rw [List.length_append, List.length_map]; have := List.length_take_le k l; omega
      generalize l.getD k 0 = r at *
      go_wp2_with fail
      refine (tell_inv (prAct r) rfl HI.out hl1).mono ?_
      rintro e w2 ⟨rfl, hw2, m2, T2, ht2, hi2⟩
      have HW2 := Lib.hid (HW.out.trans hw2)
      have HV3 := Lib.hid ((HV2.out.retag (t' := 0) (fun k hk ht => (ht2 k hk).trans ht)).mod (m2.retag ht2) (by decide))
      have HI2 := Lib.hid hi2
      clear hw2 m2 ht2 hi2
      go_wp2_with fail
      go_roundw
      case rel =>
        refine ⟨k + 1, by omega, by go_num, HW2.out, T2, HV3.out, ?_⟩
        have := HI2.out
        rw [HSN.out, List.map_append, ← List.append_assoc]
        exact this
      case measure => simp [intOf]; omega
    · have hk2 : k = l.length := by omega
      have HE := Lib.hid (show (l.take k) = l by rw [hk2, List.take_length])
      go_wp2_with fail
      go_end0
      refine ⟨rfl, HW.out, T', ?_⟩
      have := HI.out
      rw [HE.out] at this
      exact this
/-- The parameters are the parser's no more. -/
def free (T : Nat → Nat) : Nat → Nat := fun k => if T k = 5 then 0 else T k
theorem free_of {T : Nat → Nat} {k t : Nat} (h : T k = t) (ht : t ≠ 5) : free T k = t := by unfold free; rw [if_neg (by omega)]; exact h
theorem Arena.free {G : Nat → Prop} {T : Nat → Nat} {w : World} (h : Arena G T w) : Arena G (free T) w :=
  ⟨fun k hk => h.tl k (fun e => hk (free_of e (by decide))), h.gn⟩
theorem Core.free {u : Bool} {T : Nat → Nat} {p d : Nat} {tell vi vp vt : Value} {w : World} {s : PSt} (h : Core u T p d tell vi vp vt w s) : Core false (free T) p d tell vi vp vt w s :=
  ⟨h.blk, h.dec, h.dok, h.ri.retag fun _ _ ht => free_of ht (by decide), fun hu => by simp at hu, h.rt.retag fun _ _ ht => free_of ht (by decide), free_of h.tp (by decide), free_of h.td (by decide)⟩
theorem Told.free {G : Nat → Prop} {T : Nat → Nat} {o : Nat} {vo : Value} {w : World} {L : List (VAct × Value)} (h : Told G T o vo w L) : Told G (free T) o vo w L :=
  ⟨h.blk, h.ro.retag fun _ _ ht => free_of ht (by decide), free_of h.tg (by decide), fun x hx => ⟨(h.told x hx).1.retag fun _ _ ht => free_of ht (by decide), (h.told x hx).2⟩⟩
theorem Row.free {T : Nat → Nat} {size : Nat} {v : Value} {n : Nat} {xs : List Value} {w : World} (h : Row T 5 size v n xs w) : Row (free T) 0 size v n xs w :=
  h.retag fun _ _ ht => by unfold _root_.Go.Proofs.YtkdicejlfagaeaaDoor.free; rw [if_pos ht]
/-- An action with the parser's own parameters is told. -/
theorem tellPar_inv {G : Nat → Prop} {T : Nat → Nat} {p o d : Nat} {vi vp vt vo : Value} {w : World} {s : PSt} {L : List (VAct × Value)} (a : VAct) (ha : a.params = s.params) (hA : Arena G T w) (hC : Core true T p d (tellV o) vi vp vt w s) (hT : Told G T o vo w L) (hn : L.length ≤ 1000000000) :
    Calls Tryd.prog 19 #[a.val vp, .pointer (some ⟨o, 0, none⟩)] w fun e w' => e = .returned (.tuple #[]) ∧ Within G w w' ∧ ∃ T', InvT G false T' p o w' s (L.map (·.1) ++ [a]) := by
  have hv := (hC.rp rfl).free
  rw [← ha] at hv
  refine (tell_told (p := p) hA.free hT.free hv (fun k hk => (hA.tl k (by rw [(hC.rp rfl).tag k hk]; decide)).2) hn).mono ?_
  rintro e w' ⟨rfl, m, T', vo', ht, hA', hT'⟩
  exact ⟨rfl, m.within hA.free (by decide), T', d, vi, vp, vt, vo', L ++ [(a, vp)], by rw [List.map_append]; rfl, hA', (hC.free.retag ht).mod (m.retag ht) (by decide) (by decide) (by decide) (by decide) (by decide), hT'⟩
theorem InvT.weak {G : Nat → Prop} {u : Bool} {T : Nat → Nat} {p o : Nat} {w : World} {s : PSt} {acts : List VAct} (h : InvT G u T p o w s acts) : InvT G false T p o w s acts := by
  obtain ⟨d, vi, vp, vt, vo, L, hL, hA, hC, hT⟩ := h
  exact ⟨d, vi, vp, vt, vo, L, hL, hA, ⟨hC.blk, hC.dec, hC.dok, hC.ri, fun hu => by simp at hu, hC.rt, hC.tp, hC.td⟩, hT⟩
theorem mod_drew (T : Nat → Nat) (w : World) : Mod T (fun _ => False) w w.drew := Mod.of_gb (row := none) (gb_drew (gb_refl w none)) (by intro k hk; simp at hk)
theorem InvT.drew {G : Nat → Prop} {u : Bool} {T : Nat → Nat} {p o : Nat} {w : World} {s : PSt} {acts : List VAct} (h : InvT G u T p o w s acts) : InvT G u T p o w.drew s acts := by
  obtain ⟨d, vi, vp, vt, vo, L, hL, hA, hC, hT⟩ := h
  exact ⟨d, vi, vp, vt, vo, L, hL, hA.mono (Nat.le_refl _), hC.mod (mod_drew T w) id id id id id, hT.mod (mod_drew T w) id id id⟩
theorem Within.drew (G : Nat → Prop) (w : World) : Within G w w.drew := ⟨rfl, rfl, rfl, Nat.le_refl _, fun _ _ _ => rfl⟩
theorem ends_inv {G : Nat → Prop} {T : Nat → Nat} {p o : Nat} {w : World} {s : PSt} {acts : List VAct} (h : InvT G true T p o w s acts) (hn : acts.length ≤ 1000000000) :
    Calls Tryd.prog 35 #[.pointer (some ⟨p, 0, none⟩)] w fun e w' => e = .returned (.tuple #[]) ∧ Within G w w' ∧ InvO G false p o w' s (acts ++ s.endActs) := by
  have H := Lib.hid h
  obtain ⟨d, vi, vp, vt, vo, L, hL, hA, hC, hT⟩ := h
  have c0 : w.cell? ⟨p, 0, none⟩ = some (.int .i64 s.state) := parCell hC 0
  have c2 : w.cell? ⟨p, 2, none⟩ = some (.func (.func 19) #[] #[.pointer (some ⟨o, 0, none⟩)]) := parCell hC 2
  have c3 : w.cell? ⟨p, 3, none⟩ = some vi := parCell hC 3
  have c4 : w.cell? ⟨p, 4, none⟩ = some vp := parCell hC 4
  have c6 : w.cell? ⟨p, 6, none⟩ = some vt := parCell hC 6
  have c7 : w.cell? ⟨p, 7, none⟩ = some (.int .u8 (s.final.toNat : Int)) := parCell hC 7
  have hcti : (convert 24 9 vi).run Tryd.prog w.drew = .ok (.string ⟨s.inter.toArray⟩) w.drew := run_bytes_reads (P := Tryd.prog) (w := w.drew) Tryd.underlying24 Tryd.underlying5 Tryd.underlying9 (ownC_reads hC.ri.own)
  have hctt : (convert 24 9 vt).run Tryd.prog w.drew = .ok (.string ⟨s.text.toArray⟩) w.drew := run_bytes_reads (P := Tryd.prog) (w := w.drew) Tryd.underlying24 Tryd.underlying5 Tryd.underlying9 (ownC_reads hC.rt.own)
  have hn' : L.length ≤ 1000000000 := by rw [← hL, List.length_map] at hn; exact hn
  have HA := Lib.hid hA
  have HC := Lib.hid hC
  have HT := Lib.hid hT
  have HL := Lib.hid hL
  obtain ⟨xp, mp, cp', rfl⟩ := ownC_form (hC.rp rfl).own
  obtain ⟨xi, mi, ci, rfl⟩ := ownC_form hC.ri.own
  obtain ⟨xt, mt, ct, rfl⟩ := ownC_form hC.rt.own
  clear hA hC hT hL hn
  have HE := Lib.hid (show s.endActs = if s.state = 4 then [oscAct s.text] else if s.state = 6 then [dcsAct s.final s.params s.inter s.text] else [] from rfl)
  by_cases h4 : s.state = 4
  · rw [if_pos h4] at HE
    have H4 := Lib.hid h4
    rw [h4] at c0
    clear h4
    have ht := tell_inv (oscAct s.text) rfl H.out.drew (by rw [← HL.out, List.length_map]; exact hn')
    have HTl := Lib.hid ht
    clear ht
    go_enter Tryd.func35, Tryd.ntmps35
    go_upto_region 2 with fail
    go_still_tail 10, (by kernel_rfl)
    change wpList _ _ _ _ _ w.drew
    generalize hwd : w.drew = wd at *
    go_wp2_with fail
    refine HTl.out.mono ?_
    rintro e w2 ⟨rfl, hw2, m2, T2, ht2, hi2⟩
    have HW2 := Lib.hid ((hwd ▸ Within.drew G w).trans hw2)
    have HI2 := Lib.hid hi2.weak
    clear hw2 m2 ht2 hi2
    go_wp2_with fail
    go_end0
    refine ⟨rfl, HW2.out, T2, ?_⟩
    rw [HE.out]
    exact HI2.out
  rw [if_neg h4] at HE
  by_cases h6 : s.state = 6
  · rw [if_pos h6] at HE
    have H6 := Lib.hid h6
    rw [h6] at c0
    clear h4 h6
    have HTl := Lib.hid (tellPar_inv (dcsAct s.final s.params s.inter s.text) rfl (HA.out.mono (w' := w.drew) (Nat.le_refl _)) (HC.out.mod (mod_drew T w) id id id id id) (HT.out.mod (mod_drew T w) id id id) hn')
    go_enter Tryd.func35, Tryd.ntmps35
    go_upto_region 4 with fail
    go_still_tail 23, (by kernel_rfl)
    change wpList _ _ _ _ _ w.drew
    generalize hwd : w.drew = wd at *
    go_wp2_with fail
    refine HTl.out.mono ?_
    rintro e w2 ⟨rfl, hw2, T2, hi2⟩
    have HW2 := Lib.hid ((hwd ▸ Within.drew G w).trans hw2)
    have HI2 := Lib.hid hi2
    clear hw2 hi2
    go_wp2_with fail
    go_end0
    refine ⟨rfl, HW2.out, T2, ?_⟩
    rw [HE.out, ← HL.out]
    exact HI2.out
  · rw [if_neg h6] at HE
    have h4' : (s.state == 4) = false := beq_eq_false_iff_ne.2 h4
    have h6' : (s.state == 6) = false := beq_eq_false_iff_ne.2 h6
    go_enter Tryd.func35, Tryd.ntmps35
    go_wp2_with fail
    go_end0
    refine ⟨rfl, Within.refl _ _, T, ?_⟩
    rw [HE.out, List.append_nil]
    exact H.out.weak
end Go.Proofs.YtkdicejlfagaeaaDoor
