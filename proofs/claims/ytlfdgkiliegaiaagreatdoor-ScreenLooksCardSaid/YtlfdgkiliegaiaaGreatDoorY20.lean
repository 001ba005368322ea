/- Package grid, texts laid together: Z13 K30. -/
import Derived.Test.YtlfdgkiliegaiaaGreatDoorY10
import Derived.Test.YtlfdgkiliegaiaaGreatDoorY19
import Derived.Test.YtlfdgkiliegaiaaGreatDoorY7
import Derived.Test.YtlfdgkiliegaiaaGreatDoorY5
import Derived.Test.YtlfdgkiliegaiaaGreatDoorY16
import Derived.Test.YtlfdgkiliegaiaaGreatDoorY6
/- A screen that is fed, plain. -/
namespace Go.Proofs.YtlfdgkiliegaiaaGreatDoor
open Go.RowKit

/-- The escape from one look that may be to another one. -/
def sgrL (f t : Sty) : List UInt8 := if f.fg = t.fg ∧ f.bg = t.bg ∧ f.attr = t.attr then [] else [27, 91] ++ parsL false (sgrP f t) ++ [109]
def Scr.asked (s : Scr) (b : UInt8) (inter text : List UInt8) : Scr :=
  if (b.toNat : Int) = 113 ∧ inter = [36] then
    if text = [109] then s.say ([27, 80, 49, 36, 114] ++ (if sgrL plainS s.now.pen = [] then [27, 91, 48, 109] else sgrL plainS s.now.pen).drop 2 ++ [27, 92])
    else if text = [114] then s.say ([27, 80, 49, 36, 114] ++ Lib.itoa (s.top + 1) ++ [59] ++ Lib.itoa (s.bottom + 1) ++ [114, 27, 92])
    else s.say [27, 80, 48, 36, 114, 27, 92]
  else s
def Scr.act (s0 : Scr) (a : VAct) : Scr :=
  let s : Scr := { s0 with out := [] }
  if a.kind = 1 then s.print a.rune
  else if a.kind = 2 then s.control a.byte
  else if a.kind = 3 then s.escape a.byte a.inter.data.toList
  else if a.kind = 4 then s.csi a.byte a.params a.inter.data.toList
  else if a.kind = 5 then s.named a.text.data.toList
  else if a.kind = 6 then s.asked a.byte a.inter.data.toList a.text.data.toList else s
/-- ESC c: all begins anew, the parser too. -/
def VAct.ris (a : VAct) : Bool := a.kind == 3 && (a.byte == 99 && a.inter.data.toList == [])
/-- A screen, its parser. -/
structure Trm where
  scr : Scr
  par : PSt
def Trm.act (t : Trm) (a : VAct) : Trm := ⟨t.scr.act a, if a.ris then s0 else t.par⟩
def Trm.acts : Trm → List VAct → Trm × List UInt8
  | t, [] => (t, [])
  | t, a :: l => (((t.act a).acts l).1, (t.act a).scr.out ++ ((t.act a).acts l).2)
def Trm.byte (t : Trm) (b : UInt8) : Trm × List UInt8 := (⟨t.scr, (t.par.step b).1⟩ : Trm).acts (t.par.step b).2
def Trm.feed : Trm → List UInt8 → Trm × List UInt8
  | t, [] => (t, [])
  | t, b :: l => (((t.byte b).1.feed l).1, (t.byte b).2 ++ ((t.byte b).1.feed l).2)
/-- Actions done, none of which makes the parser anew. -/
def Scr.acts : Scr → List VAct → Scr × List UInt8
  | s, [] => (s, [])
  | s, a :: l => (((s.act a).acts l).1, (s.act a).out ++ ((s.act a).acts l).2)
theorem scr_acts_append : ∀ (l m : List VAct) (s : Scr), s.acts (l ++ m) = (((s.acts l).1.acts m).1, (s.acts l).2 ++ ((s.acts l).1.acts m).2)
  | [], m, s => by simp [Scr.acts]
  | a :: l, m, s => by
    rw [List.cons_append]
    simp only [Scr.acts]
    rw [scr_acts_append l m]
    simp
theorem acts_no : ∀ (l : List VAct) (t : Trm), (∀ a ∈ l, a.ris = false) → t.acts l = (⟨(t.scr.acts l).1, t.par⟩, (t.scr.acts l).2)
  | [], _, _ => rfl
  | a :: l, t, h => by
    have e : t.act a = ⟨t.scr.act a, t.par⟩ := by
      unfold Trm.act
      rw [h a (List.mem_cons_self ..)]
      rfl
    unfold Trm.acts Scr.acts
    rw [e, acts_no l _ fun x hx => h x (List.mem_cons_of_mem _ hx)]
theorem feed_run : ∀ (l : List UInt8) (t : Trm), (∀ a ∈ (t.par.run l).2, a.ris = false) → t.feed l = (⟨(t.scr.acts (t.par.run l).2).1, (t.par.run l).1⟩, (t.scr.acts (t.par.run l).2).2)
  | [], _, _ => rfl
  | b :: l, t, h => by
    have h1 : ∀ a ∈ (t.par.step b).2, a.ris = false := fun a ha => h a (by unfold PSt.run; exact List.mem_append_left _ ha)
    have h2 : ∀ a ∈ ((t.par.step b).1.run l).2, a.ris = false := fun a ha => h a (by unfold PSt.run; exact List.mem_append_right _ ha)
    have e : t.byte b = (⟨(t.scr.acts (t.par.step b).2).1, (t.par.step b).1⟩, (t.scr.acts (t.par.step b).2).2) := acts_no _ _ h1
    unfold Trm.feed PSt.run
    rw [e, feed_run l _ h2, scr_acts_append]
end Go.Proofs.YtlfdgkiliegaiaaGreatDoor

/- Package style: the escape from one look to another one. -/
namespace Go.Proofs.YtlfdgkiliegaiaaGreatDoor
open Go.RowKit
set_option maxRecDepth 100000

def StyAt (w : World) (p : Nat) (s : Sty) : Prop := w.heap[p]? = some (.cells #[.int .i64 s.fg, .int .i64 s.bg, .int .i64 s.attr] 35 (0, 0))
theorem StyAt.cells {w : World} {p : Nat} {s : Sty} (h : StyAt w p s) : w.cell? ⟨p, 0, none⟩ = some (.int .i64 s.fg) ∧ w.cell? ⟨p, 1, none⟩ = some (.int .i64 s.bg) ∧ w.cell? ⟨p, 2, none⟩ = some (.int .i64 s.attr) := ⟨blk_cell h 0, blk_cell h 1, blk_cell h 2⟩
theorem StyAt.below {w w' : World} {p B : Nat} {s : Sty} (h : StyAt w p s) (b : Below B w w') (hp : p < B) : StyAt w' p s := by
  unfold StyAt
  rw [b.block p hp]
  exact h
/-- What two looks differ in: the escape's numbers of what is turned on, i of 8 seen. -/
def sgrX (z : Int) (i : Nat) : List Int := ((bitsK.take i).filter fun kc => bAnd z ((2 ^ kc.1 : Nat) : Int) != 0).map (·.2)
theorem sgrX_len (z : Int) (i : Nat) : (sgrX z i).length ≤ 8 := by
  unfold sgrX
  rw [List.length_map]
  exact Nat.le_trans (List.length_filter_le _ _) (Nat.le_trans (List.length_take_le' _ _) (by decide))
theorem sgrX_yes (z : Int) (k : Nat) (c m : Int) (hk : bitsK[k]? = some (k, c)) (hm : ((2 ^ k : Nat) : Int) = m) (h : (bits BinOp.and IntKind.i64 z m != 0) = true) : sgrX z (k + 1) = sgrX z k ++ [c] := by
  unfold sgrX
  rw [List.take_add_one, hk, Option.toList_some, List.filter_append, List.map_append, List.filter_cons]
  dsimp only
  rw [hm, if_pos (show (bAnd z m != 0) = true from h)]
  rfl
theorem sgrX_no (z : Int) (k : Nat) (c m : Int) (hk : bitsK[k]? = some (k, c)) (hm : ((2 ^ k : Nat) : Int) = m) (h : (bits BinOp.and IntKind.i64 z m != 0) = false) : sgrX z (k + 1) = sgrX z k := by
  unfold sgrX
  rw [List.take_add_one, hk, Option.toList_some, List.filter_append, List.map_append, List.filter_cons]
  dsimp only
  rw [hm, if_neg (by rw [show (bAnd z m != 0) = false from h]; decide)]
  simp
theorem numP_len (c d : Int) : (numP c d).length ≤ 5 := by
  unfold numP
  repeat' split
  all_goals simp
theorem itoa_le {x : Int} (h : 0 ≤ x ∧ x ≤ 1000) : (Lib.itoa x).length ≤ 21 := Lib.itoa_length_le x (by omega) (by omega)
theorem parsL_le : ∀ (l : List Int) (b : Bool), (∀ x ∈ l, 0 ≤ x ∧ x ≤ 1000) → (parsL b l).length ≤ 22 * l.length
  | [], _, _ => by simp [parsL]
  | x :: l, b, h => by
    have h1 := parsL_le l true (fun y hy => h y (List.mem_cons_of_mem _ hy))
    have h2 := h x (List.mem_cons_self ..)
    have h3 := itoa_le h2
    unfold parsL parL
    rw [if_pos h2.1, List.length_append, List.length_append, List.length_cons]
    have : (if b then ([59] : List UInt8) else []).length ≤ 1 := by cases b <;> decide
    omega
theorem numP_rng {c d : Int} (hc : colOk c = true) (hd : d = 0 ∨ d = 10) : ∀ x ∈ numP c d, 0 ≤ x ∧ x ≤ 1000 := by
  have hc2 : -1 ≤ c := by
    unfold colOk at hc
    simp at hc
    omega
  intro x hx
  unfold numP at hx
  by_cases h0 : c < 0
  · rw [if_pos h0, List.mem_singleton] at hx; omega
  rw [if_neg h0] at hx
  by_cases h8 : c < 8
  · rw [if_pos h8, List.mem_singleton] at hx; omega
  rw [if_neg h8] at hx
  by_cases h16 : c < 16
  · rw [if_pos h16, List.mem_singleton] at hx; omega
  rw [if_neg h16] at hx
  by_cases h256 : c < 256
  · rw [if_pos h256] at hx
    simp only [List.mem_cons, List.not_mem_nil, or_false] at hx
    omega
  · rw [if_neg h256] at hx
    simp only [List.mem_cons, List.not_mem_nil, or_false] at hx
    omega
theorem sgrX_rng (z : Int) (i : Nat) : ∀ x ∈ sgrX z i, 0 ≤ x ∧ x ≤ 1000 := by
  intro x hx
  obtain ⟨kc, hk, rfl⟩ := List.mem_map.1 hx
  have hk2 := List.mem_of_mem_take (List.mem_filter.1 hk).1
  have : ∀ kc ∈ bitsK, 0 ≤ kc.2 ∧ kc.2 ≤ 1000 := by decide
  exact this kc hk2
theorem sgrP_rng {f t : Sty} (ht : okS t = true) : ∀ x ∈ sgrP f t, 0 ≤ x ∧ x ≤ 1000 := by
  unfold okS at ht
  simp only [Bool.and_eq_true] at ht
  intro x hx
  unfold sgrP at hx
  rw [List.mem_append, List.mem_append, List.mem_append] at hx
  rcases hx with ((hx | hx) | hx) | hx
  · split at hx
    · rw [List.mem_singleton] at hx; omega
    · cases hx
  · exact sgrX_rng _ 8 x hx
  · split at hx
    · exact numP_rng ht.1 (.inl rfl) x hx
    · cases hx
  · split at hx
    · exact numP_rng ht.2.1 (.inr rfl) x hx
    · cases hx
theorem sgr_ok {f : Sty} (hf : okS f = true) : (-1 ≤ f.fg ∧ f.fg < 33554432) ∧ (-1 ≤ f.bg ∧ f.bg < 33554432) ∧ 0 ≤ f.attr ∧ f.attr ≤ 255 := by
  unfold okS colOk at hf
  simp at hf
  omega
theorem bldF_below {T e : TypeId} {B b : Nat} {bs : List Value} {w w' : World} (h : Lib.IsBuilderF T e B b bs w) (g : Below w.heap.size w w') : Lib.IsBuilderF T e B b bs w' := by
  have hg : w.grownBy w' none := ⟨g.os, g.tape, g.output, g.size, fun k hk _ => g.block k hk⟩
  have k : ∀ p, Lib.BuilderAtF T e B b p bs w → Lib.BuilderAtF T e B b p bs w' := fun p hp => by
    obtain ⟨hB, v, hbk, hown, hne⟩ := hp
    exact ⟨hB, v, blk_below hbk g (heap_lt hbk), hown.kept hg (by cases hv : v.ownBlock <;> simp), hne⟩
  exact h.elim (fun x => .inl (k _ x)) (fun x => .inr (k _ x))
set_option maxHeartbeats 8000000 in
theorem sgr_any (f t : Sty) (w : World) (ht : Tabs w) (hf : okS f = true) (hk : okS t = true) :
    Calls Tryz.prog 20 #[f.val, t.val] w fun e w' => ∃ str : ByteArray, e = .returned (.string str) ∧ str.data.toList = sgrL f t ∧ str.size ≤ 1000 ∧ Below w.heap.size w w' := by
  have hfo := sgr_ok hf
  have hto := sgr_ok hk
  have HTB := Lib.hid ht
  have HRF := Lib.hid (right_all f w ht (by omega) (by omega))
  have HRT := Lib.hid (right_all t w ht (by omega) (by omega))
  have hb1 := ((Below.refl w.heap.size w).alloc (Nat.le_refl _) (.cells #[.int .i64 f.fg, .int .i64 f.bg, .int .i64 f.attr] 35)).alloc (by simp) (.cells #[.int .i64 t.fg, .int .i64 t.bg, .int .i64 t.attr] 35)
  have hs1 : w.heap.size + 2 ≤ ((w.alloc (.cells #[.int .i64 f.fg, .int .i64 f.bg, .int .i64 f.attr] 35)).alloc (.cells #[.int .i64 t.fg, .int .i64 t.bg, .int .i64 t.attr] 35)).heap.size := by simp
  have hbf : StyAt ((w.alloc (.cells #[.int .i64 f.fg, .int .i64 f.bg, .int .i64 f.attr] 35)).alloc (.cells #[.int .i64 t.fg, .int .i64 t.bg, .int .i64 t.attr] 35)) w.heap.size f := by
    unfold StyAt
    rw [heap_alloc_old _ _ (by simp)]
    exact blk_new w _
  have hbt : StyAt ((w.alloc (.cells #[.int .i64 f.fg, .int .i64 f.bg, .int .i64 f.attr] 35)).alloc (.cells #[.int .i64 t.fg, .int .i64 t.bg, .int .i64 t.attr] 35)) (w.heap.size + 1) t := blk_new2 w _ _
  have HFO := Lib.hid hfo
  have HTO := Lib.hid hto
  have HFK := Lib.hid hf
  have HTK := Lib.hid hk
  clear ht hf hk hfo hto
  unfold Sty.val
  unfold Sty.val at HRF HRT
  go_enter Tryz.func20, Tryz.ntmps20
  go_upto_region 1 with fail
  generalize (w.alloc (.cells #[.int .i64 f.fg, .int .i64 f.bg, .int .i64 f.attr] 35)).alloc (.cells #[.int .i64 t.fg, .int .i64 t.bg, .int .i64 t.attr] 35) = w1 at *
  obtain ⟨A, hA⟩ : ∃ A, A = w.heap.size := ⟨_, rfl⟩
  rw [← hA] at hb1 hs1 hbf hbt
  rw [← hA]
  have HA := Lib.hid hA
  clear hA
  have HB1 := Lib.hid hb1
  have HS1 := Lib.hid hs1
  have HF := Lib.hid hbf
  have HT := Lib.hid hbt
  clear hb1 hs1 hbf hbt
  obtain ⟨f0, f1, f2⟩ := HF.out.cells
  go_wp2_with fail
  refine (HRF.out w1 (by have := HA.out; subst this; exact HB1.out)).mono ?_
  rintro e w2 ⟨rfl, b2⟩
  rw [HFK.out]
  have HB2 := Lib.hid (HB1.out.trans (b2.mono (by have := HS1.out; omega)))
  have HS2 := Lib.hid (show A + 2 ≤ w2.heap.size by have := HS1.out; have := b2.size; omega)
  replace HF := Lib.hid (HF.out.below b2 (by have := HS1.out; omega))
  replace HT := Lib.hid (HT.out.below b2 (by have := HS1.out; omega))
  clear b2 f0 f1 f2
  obtain ⟨t0, t1, t2⟩ := HT.out.cells
  go_wp2_with fail
  refine (HRT.out w2 (by have := HA.out; subst this; exact HB2.out)).mono ?_
  rintro e w3 ⟨rfl, b3⟩
  rw [HTK.out]
  have HB3 := Lib.hid (HB2.out.trans (b3.mono (by have := HS2.out; omega)))
  have HS3 := Lib.hid (show A + 2 ≤ w3.heap.size by have := HS2.out; have := b3.size; omega)
  replace HF := Lib.hid (HF.out.below b3 (by have := HS2.out; omega))
  replace HT := Lib.hid (HT.out.below b3 (by have := HS2.out; omega))
  clear b3 t0 t1 t2 HB1 HB2 HS1 HS2 HRF HRT
  obtain ⟨f0, f1, f2⟩ := HF.out.cells
  obtain ⟨t0, t1, t2⟩ := HT.out.cells
  have hq := fun wx => eql_sty f t wx
  have hg := fun op x y wx => guard_sty op x y f t wx
  unfold Sty.val at hq hg
  by_cases heq : f = t
  · have HE := Lib.hid (show sgrL f t = [] by unfold sgrL; rw [heq, if_pos ⟨rfl, rfl, rfl⟩])
    have hqt := (Sty.eqb_iff f t).2 heq
    clear heq
    go_wp2_with fail
    refine ret1v rfl rfl rfl ⟨_, rfl, ?_⟩
    rw [HE.out]
    exact ⟨rfl, by decide, by have := HA.out; subst this; exact HB3.out⟩
  have HE := Lib.hid (show sgrL f t = [27, 91] ++ parsL false (sgrP f t) ++ [109] by
    unfold sgrL
    rw [if_neg]
    rintro ⟨e1, e2, e3⟩
    apply heq
    obtain ⟨a1, a2, a3⟩ := f
    obtain ⟨b1, b2, b3⟩ := t
    dsimp only at e1 e2 e3
    rw [e1, e2, e3])
  have hqt : f.eqb t = false := Bool.eq_false_iff.2 (fun e => heq ((Sty.eqb_iff f t).1 e))
  clear heq
  obtain ⟨z, hz⟩ : ∃ z, z = bNot f.attr t.attr := ⟨_, rfl⟩
  have hzr : bits BinOp.andNot IntKind.i64 f.attr t.attr = z := hz.symm
  have HZ := Lib.hid hz
  clear hz
  go_upto_if 27 with fail
  clear hq hg hqt hzr
  go_cut [5] (fun lv wz => Hid (StyAt wz A (sgrF f t)) ∧ Hid (StyAt wz (A + 1) t) ∧ Hid (Below A w wz) ∧ A + 2 ≤ wz.heap.size ∧ Hid (OwnC wz (A + 2) 1 lv (if z ≠ 0 then [(0 : Int)] else []).length ((if z ≠ 0 then [(0 : Int)] else []).map (Value.int .i64))))
  case first =>
    by_cases hz0 : z = 0
    · have HF0 := Lib.hid (show sgrF f t = f by unfold sgrF; rw [← HZ.out, if_neg (fun e => e hz0)])
      have HL0 := Lib.hid (show (if z ≠ 0 then [(0 : Int)] else []) = [] from if_neg (fun e => e hz0))
      have e1 : (z != 0) = false := by rw [hz0]; rfl
      have e2 : (z == 0) = true := by rw [hz0]; rfl
      clear hz0
      go_wp2_with fail
      go_meet
      rw [HF0.out, HL0.out]
      exact ⟨HF, HT, HB3, HS3.out, Lib.hid (ownC_nil _ _ _)⟩
    · have HF0 := Lib.hid (show sgrF f t = plainS by unfold sgrF; rw [← HZ.out, if_pos hz0])
      have HL0 := Lib.hid (show (if z ≠ 0 then [(0 : Int)] else []) = [0] from if_pos hz0)
      have e2 : (z == 0) = false := beq_eq_false_iff_ne.2 hz0
      have e1 : (z != 0) = true := by unfold bne; rw [e2]; rfl
      clear hz0
      have O4 := Lib.hid (ownC_own (ownsRow_new (w := w3) (e := 3) (n := 1) (size := 1) (base := A + 2) #[.int .i64 0] [.int .i64 0] rfl HS3.out (by decide) rfl rfl))
      have B4 := Lib.hid ((Below.refl w3.heap.size w3).alloc (Nat.le_refl _) (.cells #[.int .i64 0] 3))
      go_wp2_with fail
      refine (plain_any _).mono ?_
      rintro e w5 ⟨rfl, b5⟩
      replace O4 := Lib.hid (ownC_below O4.out b5)
      have B5 := Lib.hid (B4.out.trans (b5.mono (by simp)))
      clear b5
      have HB5 := Lib.hid (HB3.out.trans (B5.out.mono (by have := HS3.out; omega)))
      have HS5 := Lib.hid (show A + 2 ≤ w5.heap.size by have := HS3.out; have := B5.out.size; omega)
      have hf5 := HF.out.below B5.out (by have := HS3.out; omega)
      have ht5 := HT.out.below B5.out (by have := HS3.out; omega)
      have hst := run_storeVar_row (P := Tryz.prog) w5 A 35 35 _ #[.int .i64 (-1), .int .i64 (-1), .int .i64 0] hf5 sty_info rfl (by simp [Value.oneCell'])
      have hr5 := Lib.hid (show StyAt (w5.setRow A #[.int .i64 (-1), .int .i64 (-1), .int .i64 0]) A plainS from setRow_blk hf5)
      have HB6 := Lib.hid (below_row HB5.out (g := A) (Nat.le_refl _) #[.int .i64 (-1), .int .i64 (-1), .int .i64 0])
      have HT6 := Lib.hid (show StyAt (w5.setRow A #[.int .i64 (-1), .int .i64 (-1), .int .i64 0]) (A + 1) t by
        unfold StyAt
        rw [setRow_other _ _ _ _ (by omega)]
        exact ht5)
      have HS6 := Lib.hid (show A + 2 ≤ (w5.setRow A #[.int .i64 (-1), .int .i64 (-1), .int .i64 0]).heap.size by rw [setRow_size]; exact HS5.out)
      have HO6 := Lib.hid (show OwnC (w5.setRow A #[.int .i64 (-1), .int .i64 (-1), .int .i64 0]) (A + 2) 1 (.slice (some ⟨w3.heap.size, 0, none⟩) 1 1) 1 [.int .i64 0] from
        ownC_blocks O4.out (by rw [setRow_size]; exact Nat.le_refl _) (fun k hk => setRow_other _ _ _ _ (by have := (ownC_lt O4.out k hk).1; omega)))
      unfold Sty.val plainS
      clear hf5 ht5 f0 f1 f2 t0 t1 t2
      generalize w5.setRow A #[.int .i64 (-1), .int .i64 (-1), .int .i64 0] = w6 at *
      go_wp2_with (refine wpList_storeR rfl _ _ _ rfl hst rfl rfl ?_)
      go_meet
      rw [HF0.out, HL0.out]
      exact ⟨hr5, HT6, HB6, HS6.out, HO6⟩
  case rest =>
  clear f0 f1 f2 t0 t1 t2 HF HT HB3 HS3
  obtain ⟨HF, HT, HBc, hsc, HOc⟩ := hcut
  obtain ⟨wz, rfl⟩ : ∃ wz, wz = wc := ⟨wc, rfl⟩
  have HS := Lib.hid hsc
  clear hsc
  obtain ⟨F, hF⟩ : ∃ F, F = sgrF f t := ⟨_, rfl⟩
  rw [← hF] at HF
  obtain ⟨L0, hL0⟩ : ∃ L0 : List Int, L0 = if z ≠ 0 then [(0 : Int)] else [] := ⟨_, rfl⟩
  rw [← hL0] at HOc
  have HL0 := Lib.hid (show L0.length ≤ 1 by rw [hL0]; split <;> simp)
  have HP := Lib.hid (show sgrP f t = L0 ++ sgrX (bNot t.attr F.attr) 8 ++ (if t.fg ≠ F.fg then numP t.fg 0 else []) ++ (if t.bg ≠ F.bg then numP t.bg 10 else []) by rw [hL0, HZ.out, hF]; rfl)
  clear hF hL0 HZ
  obtain ⟨y, hy⟩ : ∃ y, y = bNot t.attr F.attr := ⟨_, rfl⟩
  rw [← hy] at HP
  have hyr : bits BinOp.andNot IntKind.i64 t.attr F.attr = y := hy.symm
  clear hy
  go_wp2_with fail
  go_loopw [5, 31] (fun lv iv wr => ∃ (i : Nat) (ov : Value), ov = lv ∧ i ≤ 8 ∧ iv = .int .i64 i ∧ Hid (Below (A + 2) wz wr) ∧ Hid (OwnC wr (A + 2) 1 ov (L0 ++ sgrX y i).length ((L0 ++ sgrX y i).map (Value.int .i64)))) (fun _ iv _ => 8 - (intOf iv).toNat)
  case atStart => exact ⟨0, _, rfl, by omega, rfl, Lib.hid (Below.refl _ _), Lib.hid (by rw [show L0 ++ sgrX y 0 = L0 from List.append_nil _]; exact HOc.out)⟩
  case round =>
    obtain ⟨k, ov, rfl, hk, rfl, HB, HO⟩ := hrel
    obtain ⟨wi, rfl⟩ : ∃ wi, wi = wr := ⟨wr, rfl⟩
    have HFi := Lib.hid (HF.out.below HB.out (by omega))
    have HTi := Lib.hid (HT.out.below HB.out (by omega))
    have HLE := Lib.hid (show (L0 ++ sgrX y k).length ≤ 9 by rw [List.length_append]; have := HL0.out; have := sgrX_len y k; omega)
    obtain rfl | rfl | rfl | rfl | rfl | rfl | rfl | rfl | rfl : k = 0 ∨ k = 1 ∨ k = 2 ∨ k = 3 ∨ k = 4 ∨ k = 5 ∨ k = 6 ∨ k = 7 ∨ k = 8 := by omega
    · have hix : ∀ wx, (Instr.index 114 (.agg #[.int .i64 1, .int .i64 2, .int .i64 3, .int .i64 4, .int .i64 5, .int .i64 7, .int .i64 8, .int .i64 9]) (.int .i64 0)).run Tryz.prog wx = .ok (.int .i64 1) wx := fun wx => ix8 0 (by decide) wx
      have hwm : IntKind.i64.wrap 1 = 1 := wrap64_id _ (by decide) (by decide)
      obtain ⟨f0, f1, f2⟩ := HFi.out.cells
      obtain ⟨t0, t1, t2⟩ := HTi.out.cells
      have HNO := Lib.hid (sgrX_no y 0 1 1 rfl (by decide))
      have HYE := Lib.hid (sgrX_yes y 0 1 1 rfl (by decide))
      obtain ⟨u, hu⟩ : ∃ u, u = bits BinOp.and IntKind.i64 y 1 := ⟨_, rfl⟩
      have hur : bits BinOp.and IntKind.i64 y 1 = u := hu.symm
      rw [← hu] at HNO HYE
      clear hu
      go_upto_region 13 with fail
      go_quiet (fail)
      clear hix hwm f0 f1 f2 t0 t1 t2
      have HBN := Lib.hid (below_drewN (Below.refl wi.heap.size wi) nq)
      have HB3 := Lib.hid (HB.out.trans (HBN.out.mono (by have := HB.out.size; have := HS.out; omega)))
      have HO3 := Lib.hid (ownC_below HO.out HBN.out)
      generalize wi.drewN nq = wn at *
      by_cases hu0 : u = 0
      · have e1 : (u == 0) = true := beq_iff_eq.2 hu0
        have e2 : (u != 0) = false := by unfold bne; rw [e1]; rfl
        have HX := Lib.hid (HNO.out e2)
        clear hu0
        go_wp2_with fail
        go_roundw
        case rel => exact ⟨1, _, rfl, by decide, by go_num, HB3, Lib.hid (by rw [HX.out]; exact HO3.out)⟩
        case measure => simp [intOf]
      · have e1 : (u == 0) = false := beq_eq_false_iff_ne.2 hu0
        have e2 : (u != 0) = true := by unfold bne; rw [e1]; rfl
        have HX := Lib.hid (HYE.out e2)
        clear hu0
        go_wp2_with (at_builtin; refine held ?_)
        unfold Held
        refine wpList_appD ints_elem rfl rfl (A + 2) (ownC_alloc HO3.out _) rfl (reads_one _ _ _) rfl (int_one _ _) (by have := HLE.out; unfold maxLen; omega) (by have := HLE.out; omega) (by have := HB3.out.size; have := HS.out; simp; omega) ?_
        intro ov6 w6 o6 g6 n6
        have B6 := Lib.hid ((HB3.out.alloc (by have := HB3.out.size; have := HS.out; omega) (.cells #[.int .i64 1] 3)).grown g6 (by have := HB3.out.size; have := HS.out; simp; omega) (fun q hq => (ownC_lt HO3.out q hq).1))
        have O6 := Lib.hid o6
        clear o6 g6 n6
        go_wp2_with fail
        go_roundw
        case rel => exact ⟨1, _, rfl, by decide, by go_num, B6, Lib.hid (by rw [HX.out, ← List.append_assoc, List.length_append, List.map_append]; exact O6.out)⟩
        case measure => simp [intOf]
    · have hix : ∀ wx, (Instr.index 114 (.agg #[.int .i64 1, .int .i64 2, .int .i64 3, .int .i64 4, .int .i64 5, .int .i64 7, .int .i64 8, .int .i64 9]) (.int .i64 1)).run Tryz.prog wx = .ok (.int .i64 2) wx := fun wx => ix8 1 (by decide) wx
      have hwm : IntKind.i64.wrap 2 = 2 := wrap64_id _ (by decide) (by decide)
      obtain ⟨f0, f1, f2⟩ := HFi.out.cells
      obtain ⟨t0, t1, t2⟩ := HTi.out.cells
      have HNO := Lib.hid (sgrX_no y 1 2 2 rfl (by decide))
      have HYE := Lib.hid (sgrX_yes y 1 2 2 rfl (by decide))
      obtain ⟨u, hu⟩ : ∃ u, u = bits BinOp.and IntKind.i64 y 2 := ⟨_, rfl⟩
      have hur : bits BinOp.and IntKind.i64 y 2 = u := hu.symm
      rw [← hu] at HNO HYE
      clear hu
      go_upto_region 13 with fail
      go_quiet (fail)
      clear hix hwm f0 f1 f2 t0 t1 t2
      have HBN := Lib.hid (below_drewN (Below.refl wi.heap.size wi) nq)
      have HB3 := Lib.hid (HB.out.trans (HBN.out.mono (by have := HB.out.size; have := HS.out; omega)))
      have HO3 := Lib.hid (ownC_below HO.out HBN.out)
      generalize wi.drewN nq = wn at *
      by_cases hu0 : u = 0
      · have e1 : (u == 0) = true := beq_iff_eq.2 hu0
        have e2 : (u != 0) = false := by unfold bne; rw [e1]; rfl
        have HX := Lib.hid (HNO.out e2)
        clear hu0
        go_wp2_with fail
        go_roundw
        case rel => exact ⟨2, _, rfl, by decide, by go_num, HB3, Lib.hid (by rw [HX.out]; exact HO3.out)⟩
        case measure => simp [intOf]
      · have e1 : (u == 0) = false := beq_eq_false_iff_ne.2 hu0
        have e2 : (u != 0) = true := by unfold bne; rw [e1]; rfl
        have HX := Lib.hid (HYE.out e2)
        clear hu0
        go_wp2_with (at_builtin; refine held ?_)
        unfold Held
        refine wpList_appD ints_elem rfl rfl (A + 2) (ownC_alloc HO3.out _) rfl (reads_one _ _ _) rfl (int_one _ _) (by have := HLE.out; unfold maxLen; omega) (by have := HLE.out; omega) (by have := HB3.out.size; have := HS.out; simp; omega) ?_
        intro ov6 w6 o6 g6 n6
        have B6 := Lib.hid ((HB3.out.alloc (by have := HB3.out.size; have := HS.out; omega) (.cells #[.int .i64 2] 3)).grown g6 (by have := HB3.out.size; have := HS.out; simp; omega) (fun q hq => (ownC_lt HO3.out q hq).1))
        have O6 := Lib.hid o6
        clear o6 g6 n6
        go_wp2_with fail
        go_roundw
        case rel => exact ⟨2, _, rfl, by decide, by go_num, B6, Lib.hid (by rw [HX.out, ← List.append_assoc, List.length_append, List.map_append]; exact O6.out)⟩
        case measure => simp [intOf]
    · have hix : ∀ wx, (Instr.index 114 (.agg #[.int .i64 1, .int .i64 2, .int .i64 3, .int .i64 4, .int .i64 5, .int .i64 7, .int .i64 8, .int .i64 9]) (.int .i64 2)).run Tryz.prog wx = .ok (.int .i64 3) wx := fun wx => ix8 2 (by decide) wx
      have hwm : IntKind.i64.wrap 4 = 4 := wrap64_id _ (by decide) (by decide)
      obtain ⟨f0, f1, f2⟩ := HFi.out.cells
      obtain ⟨t0, t1, t2⟩ := HTi.out.cells
      have HNO := Lib.hid (sgrX_no y 2 3 4 rfl (by decide))
      have HYE := Lib.hid (sgrX_yes y 2 3 4 rfl (by decide))
      obtain ⟨u, hu⟩ : ∃ u, u = bits BinOp.and IntKind.i64 y 4 := ⟨_, rfl⟩
      have hur : bits BinOp.and IntKind.i64 y 4 = u := hu.symm
      rw [← hu] at HNO HYE
      clear hu
      go_upto_region 13 with fail
      go_quiet (fail)
      clear hix hwm f0 f1 f2 t0 t1 t2
      have HBN := Lib.hid (below_drewN (Below.refl wi.heap.size wi) nq)
      have HB3 := Lib.hid (HB.out.trans (HBN.out.mono (by have := HB.out.size; have := HS.out; omega)))
      have HO3 := Lib.hid (ownC_below HO.out HBN.out)
      generalize wi.drewN nq = wn at *
      by_cases hu0 : u = 0
      · have e1 : (u == 0) = true := beq_iff_eq.2 hu0
        have e2 : (u != 0) = false := by unfold bne; rw [e1]; rfl
        have HX := Lib.hid (HNO.out e2)
        clear hu0
        go_wp2_with fail
        go_roundw
        case rel => exact ⟨3, _, rfl, by decide, by go_num, HB3, Lib.hid (by rw [HX.out]; exact HO3.out)⟩
        case measure => simp [intOf]
      · have e1 : (u == 0) = false := beq_eq_false_iff_ne.2 hu0
        have e2 : (u != 0) = true := by unfold bne; rw [e1]; rfl
        have HX := Lib.hid (HYE.out e2)
        clear hu0
        go_wp2_with (at_builtin; refine held ?_)
        unfold Held
        refine wpList_appD ints_elem rfl rfl (A + 2) (ownC_alloc HO3.out _) rfl (reads_one _ _ _) rfl (int_one _ _) (by have := HLE.out; unfold maxLen; omega) (by have := HLE.out; omega) (by have := HB3.out.size; have := HS.out; simp; omega) ?_
        intro ov6 w6 o6 g6 n6
        have B6 := Lib.hid ((HB3.out.alloc (by have := HB3.out.size; have := HS.out; omega) (.cells #[.int .i64 3] 3)).grown g6 (by have := HB3.out.size; have := HS.out; simp; omega) (fun q hq => (ownC_lt HO3.out q hq).1))
        have O6 := Lib.hid o6
        clear o6 g6 n6
        go_wp2_with fail
        go_roundw
        case rel => exact ⟨3, _, rfl, by decide, by go_num, B6, Lib.hid (by rw [HX.out, ← List.append_assoc, List.length_append, List.map_append]; exact O6.out)⟩
        case measure => simp [intOf]
    · have hix : ∀ wx, (Instr.index 114 (.agg #[.int .i64 1, .int .i64 2, .int .i64 3, .int .i64 4, .int .i64 5, .int .i64 7, .int .i64 8, .int .i64 9]) (.int .i64 3)).run Tryz.prog wx = .ok (.int .i64 4) wx := fun wx => ix8 3 (by decide) wx
      have hwm : IntKind.i64.wrap 8 = 8 := wrap64_id _ (by decide) (by decide)
      obtain ⟨f0, f1, f2⟩ := HFi.out.cells
      obtain ⟨t0, t1, t2⟩ := HTi.out.cells
      have HNO := Lib.hid (sgrX_no y 3 4 8 rfl (by decide))
      have HYE := Lib.hid (sgrX_yes y 3 4 8 rfl (by decide))
      obtain ⟨u, hu⟩ : ∃ u, u = bits BinOp.and IntKind.i64 y 8 := ⟨_, rfl⟩
      have hur : bits BinOp.and IntKind.i64 y 8 = u := hu.symm
      rw [← hu] at HNO HYE
      clear hu
      go_upto_region 13 with fail
      go_quiet (fail)
      clear hix hwm f0 f1 f2 t0 t1 t2
      have HBN := Lib.hid (below_drewN (Below.refl wi.heap.size wi) nq)
      have HB3 := Lib.hid (HB.out.trans (HBN.out.mono (by have := HB.out.size; have := HS.out; omega)))
      have HO3 := Lib.hid (ownC_below HO.out HBN.out)
      generalize wi.drewN nq = wn at *
      by_cases hu0 : u = 0
      · have e1 : (u == 0) = true := beq_iff_eq.2 hu0
        have e2 : (u != 0) = false := by unfold bne; rw [e1]; rfl
        have HX := Lib.hid (HNO.out e2)
        clear hu0
        go_wp2_with fail
        go_roundw
        case rel => exact ⟨4, _, rfl, by decide, by go_num, HB3, Lib.hid (by rw [HX.out]; exact HO3.out)⟩
        case measure => simp [intOf]
      · have e1 : (u == 0) = false := beq_eq_false_iff_ne.2 hu0
        have e2 : (u != 0) = true := by unfold bne; rw [e1]; rfl
        have HX := Lib.hid (HYE.out e2)
        clear hu0
        go_wp2_with (at_builtin; refine held ?_)
        unfold Held
        refine wpList_appD ints_elem rfl rfl (A + 2) (ownC_alloc HO3.out _) rfl (reads_one _ _ _) rfl (int_one _ _) (by have := HLE.out; unfold maxLen; omega) (by have := HLE.out; omega) (by have := HB3.out.size; have := HS.out; simp; omega) ?_
        intro ov6 w6 o6 g6 n6
        have B6 := Lib.hid ((HB3.out.alloc (by have := HB3.out.size; have := HS.out; omega) (.cells #[.int .i64 4] 3)).grown g6 (by have := HB3.out.size; have := HS.out; simp; omega) (fun q hq => (ownC_lt HO3.out q hq).1))
        have O6 := Lib.hid o6
        clear o6 g6 n6
        go_wp2_with fail
        go_roundw
        case rel => exact ⟨4, _, rfl, by decide, by go_num, B6, Lib.hid (by rw [HX.out, ← List.append_assoc, List.length_append, List.map_append]; exact O6.out)⟩
        case measure => simp [intOf]
    · have hix : ∀ wx, (Instr.index 114 (.agg #[.int .i64 1, .int .i64 2, .int .i64 3, .int .i64 4, .int .i64 5, .int .i64 7, .int .i64 8, .int .i64 9]) (.int .i64 4)).run Tryz.prog wx = .ok (.int .i64 5) wx := fun wx => ix8 4 (by decide) wx
      have hwm : IntKind.i64.wrap 16 = 16 := wrap64_id _ (by decide) (by decide)
      obtain ⟨f0, f1, f2⟩ := HFi.out.cells
      obtain ⟨t0, t1, t2⟩ := HTi.out.cells
      have HNO := Lib.hid (sgrX_no y 4 5 16 rfl (by decide))
      have HYE := Lib.hid (sgrX_yes y 4 5 16 rfl (by decide))
      obtain ⟨u, hu⟩ : ∃ u, u = bits BinOp.and IntKind.i64 y 16 := ⟨_, rfl⟩
      have hur : bits BinOp.and IntKind.i64 y 16 = u := hu.symm
      rw [← hu] at HNO HYE
      clear hu
      go_upto_region 13 with fail
      go_quiet (fail)
      clear hix hwm f0 f1 f2 t0 t1 t2
      have HBN := Lib.hid (below_drewN (Below.refl wi.heap.size wi) nq)
      have HB3 := Lib.hid (HB.out.trans (HBN.out.mono (by have := HB.out.size; have := HS.out; omega)))
      have HO3 := Lib.hid (ownC_below HO.out HBN.out)
      generalize wi.drewN nq = wn at *
      by_cases hu0 : u = 0
      · have e1 : (u == 0) = true := beq_iff_eq.2 hu0
        have e2 : (u != 0) = false := by unfold bne; rw [e1]; rfl
        have HX := Lib.hid (HNO.out e2)
        clear hu0
        go_wp2_with fail
        go_roundw
        case rel => exact ⟨5, _, rfl, by decide, by go_num, HB3, Lib.hid (by rw [HX.out]; exact HO3.out)⟩
        case measure => simp [intOf]
      · have e1 : (u == 0) = false := beq_eq_false_iff_ne.2 hu0
        have e2 : (u != 0) = true := by unfold bne; rw [e1]; rfl
        have HX := Lib.hid (HYE.out e2)
        clear hu0
        go_wp2_with (at_builtin; refine held ?_)
        unfold Held
        refine wpList_appD ints_elem rfl rfl (A + 2) (ownC_alloc HO3.out _) rfl (reads_one _ _ _) rfl (int_one _ _) (by have := HLE.out; unfold maxLen; omega) (by have := HLE.out; omega) (by have := HB3.out.size; have := HS.out; simp; omega) ?_
        intro ov6 w6 o6 g6 n6
        have B6 := Lib.hid ((HB3.out.alloc (by have := HB3.out.size; have := HS.out; omega) (.cells #[.int .i64 5] 3)).grown g6 (by have := HB3.out.size; have := HS.out; simp; omega) (fun q hq => (ownC_lt HO3.out q hq).1))
        have O6 := Lib.hid o6
        clear o6 g6 n6
        go_wp2_with fail
        go_roundw
        case rel => exact ⟨5, _, rfl, by decide, by go_num, B6, Lib.hid (by rw [HX.out, ← List.append_assoc, List.length_append, List.map_append]; exact O6.out)⟩
        case measure => simp [intOf]
    · have hix : ∀ wx, (Instr.index 114 (.agg #[.int .i64 1, .int .i64 2, .int .i64 3, .int .i64 4, .int .i64 5, .int .i64 7, .int .i64 8, .int .i64 9]) (.int .i64 5)).run Tryz.prog wx = .ok (.int .i64 7) wx := fun wx => ix8 5 (by decide) wx
      have hwm : IntKind.i64.wrap 32 = 32 := wrap64_id _ (by decide) (by decide)
      obtain ⟨f0, f1, f2⟩ := HFi.out.cells
      obtain ⟨t0, t1, t2⟩ := HTi.out.cells
      have HNO := Lib.hid (sgrX_no y 5 7 32 rfl (by decide))
      have HYE := Lib.hid (sgrX_yes y 5 7 32 rfl (by decide))
      obtain ⟨u, hu⟩ : ∃ u, u = bits BinOp.and IntKind.i64 y 32 := ⟨_, rfl⟩
      have hur : bits BinOp.and IntKind.i64 y 32 = u := hu.symm
      rw [← hu] at HNO HYE
      clear hu
      go_upto_region 13 with fail
      go_quiet (fail)
      clear hix hwm f0 f1 f2 t0 t1 t2
      have HBN := Lib.hid (below_drewN (Below.refl wi.heap.size wi) nq)
      have HB3 := Lib.hid (HB.out.trans (HBN.out.mono (by have := HB.out.size; have := HS.out; omega)))
      have HO3 := Lib.hid (ownC_below HO.out HBN.out)
      generalize wi.drewN nq = wn at *
      by_cases hu0 : u = 0
      · have e1 : (u == 0) = true := beq_iff_eq.2 hu0
        have e2 : (u != 0) = false := by unfold bne; rw [e1]; rfl
        have HX := Lib.hid (HNO.out e2)
        clear hu0
        go_wp2_with fail
        go_roundw
        case rel => exact ⟨6, _, rfl, by decide, by go_num, HB3, Lib.hid (by rw [HX.out]; exact HO3.out)⟩
        case measure => simp [intOf]
      · have e1 : (u == 0) = false := beq_eq_false_iff_ne.2 hu0
        have e2 : (u != 0) = true := by unfold bne; rw [e1]; rfl
        have HX := Lib.hid (HYE.out e2)
        clear hu0
        go_wp2_with (at_builtin; refine held ?_)
        unfold Held
        refine wpList_appD ints_elem rfl rfl (A + 2) (ownC_alloc HO3.out _) rfl (reads_one _ _ _) rfl (int_one _ _) (by have := HLE.out; unfold maxLen; omega) (by have := HLE.out; omega) (by have := HB3.out.size; have := HS.out; simp; omega) ?_
        intro ov6 w6 o6 g6 n6
        have B6 := Lib.hid ((HB3.out.alloc (by have := HB3.out.size; have := HS.out; omega) (.cells #[.int .i64 7] 3)).grown g6 (by have := HB3.out.size; have := HS.out; simp; omega) (fun q hq => (ownC_lt HO3.out q hq).1))
        have O6 := Lib.hid o6
        clear o6 g6 n6
        go_wp2_with fail
        go_roundw
        case rel => exact ⟨6, _, rfl, by decide, by go_num, B6, Lib.hid (by rw [HX.out, ← List.append_assoc, List.length_append, List.map_append]; exact O6.out)⟩
        case measure => simp [intOf]
    · have hix : ∀ wx, (Instr.index 114 (.agg #[.int .i64 1, .int .i64 2, .int .i64 3, .int .i64 4, .int .i64 5, .int .i64 7, .int .i64 8, .int .i64 9]) (.int .i64 6)).run Tryz.prog wx = .ok (.int .i64 8) wx := fun wx => ix8 6 (by decide) wx
      have hwm : IntKind.i64.wrap 64 = 64 := wrap64_id _ (by decide) (by decide)
      obtain ⟨f0, f1, f2⟩ := HFi.out.cells
      obtain ⟨t0, t1, t2⟩ := HTi.out.cells
      have HNO := Lib.hid (sgrX_no y 6 8 64 rfl (by decide))
      have HYE := Lib.hid (sgrX_yes y 6 8 64 rfl (by decide))
      obtain ⟨u, hu⟩ : ∃ u, u = bits BinOp.and IntKind.i64 y 64 := ⟨_, rfl⟩
      have hur : bits BinOp.and IntKind.i64 y 64 = u := hu.symm
      rw [← hu] at HNO HYE
      clear hu
      go_upto_region 13 with fail
      go_quiet (fail)
      clear hix hwm f0 f1 f2 t0 t1 t2
      have HBN := Lib.hid (below_drewN (Below.refl wi.heap.size wi) nq)
      have HB3 := Lib.hid (HB.out.trans (HBN.out.mono (by have := HB.out.size; have := HS.out; omega)))
      have HO3 := Lib.hid (ownC_below HO.out HBN.out)
      generalize wi.drewN nq = wn at *
      by_cases hu0 : u = 0
      · have e1 : (u == 0) = true := beq_iff_eq.2 hu0
        have e2 : (u != 0) = false := by unfold bne; rw [e1]; rfl
        have HX := Lib.hid (HNO.out e2)
        clear hu0
        go_wp2_with fail
        go_roundw
        case rel => exact ⟨7, _, rfl, by decide, by go_num, HB3, Lib.hid (by rw [HX.out]; exact HO3.out)⟩
        case measure => simp [intOf]
      · have e1 : (u == 0) = false := beq_eq_false_iff_ne.2 hu0
        have e2 : (u != 0) = true := by unfold bne; rw [e1]; rfl
        have HX := Lib.hid (HYE.out e2)
        clear hu0
        go_wp2_with (at_builtin; refine held ?_)
        unfold Held
        refine wpList_appD ints_elem rfl rfl (A + 2) (ownC_alloc HO3.out _) rfl (reads_one _ _ _) rfl (int_one _ _) (by have := HLE.out; unfold maxLen; omega) (by have := HLE.out; omega) (by have := HB3.out.size; have := HS.out; simp; omega) ?_
        intro ov6 w6 o6 g6 n6
        have B6 := Lib.hid ((HB3.out.alloc (by have := HB3.out.size; have := HS.out; omega) (.cells #[.int .i64 8] 3)).grown g6 (by have := HB3.out.size; have := HS.out; simp; omega) (fun q hq => (ownC_lt HO3.out q hq).1))
        have O6 := Lib.hid o6
        clear o6 g6 n6
        go_wp2_with fail
        go_roundw
        case rel => exact ⟨7, _, rfl, by decide, by go_num, B6, Lib.hid (by rw [HX.out, ← List.append_assoc, List.length_append, List.map_append]; exact O6.out)⟩
        case measure => simp [intOf]
    · have hix : ∀ wx, (Instr.index 114 (.agg #[.int .i64 1, .int .i64 2, .int .i64 3, .int .i64 4, .int .i64 5, .int .i64 7, .int .i64 8, .int .i64 9]) (.int .i64 7)).run Tryz.prog wx = .ok (.int .i64 9) wx := fun wx => ix8 7 (by decide) wx
      have hwm : IntKind.i64.wrap 128 = 128 := wrap64_id _ (by decide) (by decide)
      obtain ⟨f0, f1, f2⟩ := HFi.out.cells
      obtain ⟨t0, t1, t2⟩ := HTi.out.cells
      have HNO := Lib.hid (sgrX_no y 7 9 128 rfl (by decide))
      have HYE := Lib.hid (sgrX_yes y 7 9 128 rfl (by decide))
      obtain ⟨u, hu⟩ : ∃ u, u = bits BinOp.and IntKind.i64 y 128 := ⟨_, rfl⟩
      have hur : bits BinOp.and IntKind.i64 y 128 = u := hu.symm
      rw [← hu] at HNO HYE
      clear hu
      go_upto_region 13 with fail
      go_quiet (fail)
      clear hix hwm f0 f1 f2 t0 t1 t2
      have HBN := Lib.hid (below_drewN (Below.refl wi.heap.size wi) nq)
      have HB3 := Lib.hid (HB.out.trans (HBN.out.mono (by have := HB.out.size; have := HS.out; omega)))
      have HO3 := Lib.hid (ownC_below HO.out HBN.out)
      generalize wi.drewN nq = wn at *
      by_cases hu0 : u = 0
      · have e1 : (u == 0) = true := beq_iff_eq.2 hu0
        have e2 : (u != 0) = false := by unfold bne; rw [e1]; rfl
        have HX := Lib.hid (HNO.out e2)
        clear hu0
        go_wp2_with fail
        go_roundw
        case rel => exact ⟨8, _, rfl, by decide, by go_num, HB3, Lib.hid (by rw [HX.out]; exact HO3.out)⟩
        case measure => simp [intOf]
      · have e1 : (u == 0) = false := beq_eq_false_iff_ne.2 hu0
        have e2 : (u != 0) = true := by unfold bne; rw [e1]; rfl
        have HX := Lib.hid (HYE.out e2)
        clear hu0
        go_wp2_with (at_builtin; refine held ?_)
        unfold Held
        refine wpList_appD ints_elem rfl rfl (A + 2) (ownC_alloc HO3.out _) rfl (reads_one _ _ _) rfl (int_one _ _) (by have := HLE.out; unfold maxLen; omega) (by have := HLE.out; omega) (by have := HB3.out.size; have := HS.out; simp; omega) ?_
        intro ov6 w6 o6 g6 n6
        have B6 := Lib.hid ((HB3.out.alloc (by have := HB3.out.size; have := HS.out; omega) (.cells #[.int .i64 9] 3)).grown g6 (by have := HB3.out.size; have := HS.out; simp; omega) (fun q hq => (ownC_lt HO3.out q hq).1))
        have O6 := Lib.hid o6
        clear o6 g6 n6
        go_wp2_with fail
        go_roundw
        case rel => exact ⟨8, _, rfl, by decide, by go_num, B6, Lib.hid (by rw [HX.out, ← List.append_assoc, List.length_append, List.map_append]; exact O6.out)⟩
        case measure => simp [intOf]
    · rw [show ((8 : Nat) : Int) = 8 from rfl]
      have HBz := Lib.hid (HBc.out.trans (HB.out.mono (by omega)))
      have HSi := Lib.hid (show A + 2 ≤ wi.heap.size by have := HB.out.size; have := HS.out; omega)
      obtain ⟨L1, hL1⟩ : ∃ L1, L1 = L0 ++ sgrX y 8 := ⟨_, rfl⟩
      rw [← hL1] at HO HP HLE
      clear hL1 HF HT HBc HS hyr HOc HL0
      obtain ⟨f0, f1, f2⟩ := HFi.out.cells
      obtain ⟨t0, t1, t2⟩ := HTi.out.cells
      go_upto_if 53 with fail
      clear f0 f1 f2 t0 t1 t2
      go_cut [5] (fun lv wz => Hid (StyAt wz A F) ∧ Hid (StyAt wz (A + 1) t) ∧ Hid (Below A w wz) ∧ A + 2 ≤ wz.heap.size ∧ Hid (OwnC wz (A + 2) 1 lv (L1 ++ (if t.fg ≠ F.fg then numP t.fg 0 else [])).length ((L1 ++ (if t.fg ≠ F.fg then numP t.fg 0 else [])).map (Value.int .i64))))
      case first =>
        by_cases hc : t.fg = F.fg
        · have HL := Lib.hid (show L1 ++ (if t.fg ≠ F.fg then numP t.fg 0 else []) = L1 by rw [if_neg (fun e => e hc), List.append_nil])
          have e1 : (t.fg == F.fg) = true := beq_iff_eq.2 hc
          have e2 : (t.fg != F.fg) = false := by unfold bne; rw [e1]; rfl
          clear hc
          go_wp2_with fail
          go_meet
          rw [HL.out]
          exact ⟨HFi, HTi, HBz, HSi.out, HO⟩
        · have HL := Lib.hid (show L1 ++ (if t.fg ≠ F.fg then numP t.fg 0 else []) = L1 ++ numP t.fg 0 by rw [if_pos hc])
          have e1 : (t.fg == F.fg) = false := beq_eq_false_iff_ne.2 hc
          have e2 : (t.fg != F.fg) = true := by unfold bne; rw [e1]; rfl
          clear hc
          obtain ⟨t0, t1, t2⟩ := HTi.out.cells
          go_wp2_with fail
          refine (numbers_any t.fg 0 _ HTO.out.1 (by omega)).mono ?_
          rintro e w4 ⟨nv, rfl, b4, rd4⟩
          have HO4 := Lib.hid (ownC_below HO.out b4)
          have HB4 := Lib.hid (HBz.out.trans (b4.mono (by have := HSi.out; omega)))
          have HS4 := Lib.hid (show A + 2 ≤ w4.heap.size by have := HSi.out; have := b4.size; omega)
          have HF4 := Lib.hid (HFi.out.below b4 (by have := HSi.out; omega))
          have HT4 := Lib.hid (HTi.out.below b4 (by have := HSi.out; omega))
          have hnl := numP_len t.fg 0
          have HRD := Lib.hid rd4
          clear b4 rd4 t0 t1 t2
          go_wp2_with (at_builtin; refine held ?_)
          unfold Held
          refine wpList_appD ints_elem rfl rfl (A + 2) HO4.out rfl HRD.out rfl (ints_oneCell _ _) (by have := HLE.out; unfold maxLen; omega) (by have := HLE.out; omega) HS4.out ?_
          intro ov6 w6 o6 g6 n6
          have B6 := Lib.hid (HB4.out.grown g6 (by have := HS4.out; omega) (fun q hq => by have := (ownC_lt HO4.out q hq).1; omega))
          have b62 := below_of_gb (B := A + 2) g6 HS4.out (fun q hq => (ownC_lt HO4.out q hq).1)
          have F6 := Lib.hid (HF4.out.below b62 (by omega))
          have T6 := Lib.hid (HT4.out.below b62 (by omega))
          have S6 := Lib.hid (show A + 2 ≤ w6.heap.size by have := HS4.out; have := b62.size; omega)
          have O6 := Lib.hid o6
          clear o6 g6 n6 b62 hnl
          go_wp2_with fail
          go_meet
          rw [HL.out]
          exact ⟨F6, T6, B6, S6.out, Lib.hid (by rw [List.length_append, List.map_append]; exact O6.out)⟩
      case rest =>
      clear HFi HTi HBz HSi HO
      obtain ⟨HFi, HTi, HBz, hsc, HOc⟩ := hcut
      have HSi := Lib.hid hsc
      clear hsc
      obtain ⟨wa, rfl⟩ : ∃ wa, wa = wc := ⟨wc, rfl⟩
      obtain ⟨L2, hL⟩ : ∃ L2, L2 = L1 ++ (if t.fg ≠ F.fg then numP t.fg 0 else []) := ⟨_, rfl⟩
      rw [← hL] at HOc HP
      replace HLE := Lib.hid (show L2.length ≤ 14 by
        rw [hL, List.length_append]
        have h1 := HLE.out
        have h2 := numP_len t.fg 0
        have h3 : (if t.fg ≠ F.fg then numP t.fg 0 else []).length ≤ 5 := by split <;> simp_all
        omega)
      clear hL
      have HO := Lib.hid HOc.out
      clear HOc
      obtain ⟨f0, f1, f2⟩ := HFi.out.cells
      obtain ⟨t0, t1, t2⟩ := HTi.out.cells
      go_upto_if 63 with fail
      clear f0 f1 f2 t0 t1 t2
      go_cut [5] (fun lv wz => Hid (StyAt wz A F) ∧ Hid (StyAt wz (A + 1) t) ∧ Hid (Below A w wz) ∧ A + 2 ≤ wz.heap.size ∧ Hid (OwnC wz (A + 2) 1 lv (L2 ++ (if t.bg ≠ F.bg then numP t.bg 10 else [])).length ((L2 ++ (if t.bg ≠ F.bg then numP t.bg 10 else [])).map (Value.int .i64))))
      case first =>
        by_cases hc : t.bg = F.bg
        · have HL := Lib.hid (show L2 ++ (if t.bg ≠ F.bg then numP t.bg 10 else []) = L2 by rw [if_neg (fun e => e hc), List.append_nil])
          have e1 : (t.bg == F.bg) = true := beq_iff_eq.2 hc
          have e2 : (t.bg != F.bg) = false := by unfold bne; rw [e1]; rfl
          clear hc
          go_wp2_with fail
          go_meet
          rw [HL.out]
          exact ⟨HFi, HTi, HBz, HSi.out, HO⟩
        · have HL := Lib.hid (show L2 ++ (if t.bg ≠ F.bg then numP t.bg 10 else []) = L2 ++ numP t.bg 10 by rw [if_pos hc])
          have e1 : (t.bg == F.bg) = false := beq_eq_false_iff_ne.2 hc
          have e2 : (t.bg != F.bg) = true := by unfold bne; rw [e1]; rfl
          clear hc
          obtain ⟨t0, t1, t2⟩ := HTi.out.cells
          go_wp2_with fail
          refine (numbers_any t.bg 10 _ HTO.out.2.1 (by omega)).mono ?_
          rintro e w4 ⟨nv, rfl, b4, rd4⟩
          have HO4 := Lib.hid (ownC_below HO.out b4)
          have HB4 := Lib.hid (HBz.out.trans (b4.mono (by have := HSi.out; omega)))
          have HS4 := Lib.hid (show A + 2 ≤ w4.heap.size by have := HSi.out; have := b4.size; omega)
          have HF4 := Lib.hid (HFi.out.below b4 (by have := HSi.out; omega))
          have HT4 := Lib.hid (HTi.out.below b4 (by have := HSi.out; omega))
          have hnl := numP_len t.bg 10
          have HRD := Lib.hid rd4
          clear b4 rd4 t0 t1 t2
          go_wp2_with (at_builtin; refine held ?_)
          unfold Held
          refine wpList_appD ints_elem rfl rfl (A + 2) HO4.out rfl HRD.out rfl (ints_oneCell _ _) (by have := HLE.out; unfold maxLen; omega) (by have := HLE.out; omega) HS4.out ?_
          intro ov6 w6 o6 g6 n6
          have B6 := Lib.hid (HB4.out.grown g6 (by have := HS4.out; omega) (fun q hq => by have := (ownC_lt HO4.out q hq).1; omega))
          have b62 := below_of_gb (B := A + 2) g6 HS4.out (fun q hq => (ownC_lt HO4.out q hq).1)
          have F6 := Lib.hid (HF4.out.below b62 (by omega))
          have T6 := Lib.hid (HT4.out.below b62 (by omega))
          have S6 := Lib.hid (show A + 2 ≤ w6.heap.size by have := HS4.out; have := b62.size; omega)
          have O6 := Lib.hid o6
          clear o6 g6 n6 b62 hnl
          go_wp2_with fail
          go_meet
          rw [HL.out]
          exact ⟨F6, T6, B6, S6.out, Lib.hid (by rw [List.length_append, List.map_append]; exact O6.out)⟩
      case rest =>
      clear HFi HTi HBz HSi HO
      obtain ⟨HFi, HTi, HBz, hsc, HOc⟩ := hcut
      have HSi := Lib.hid hsc
      clear hsc
      obtain ⟨wb, rfl⟩ : ∃ wb, wb = wc := ⟨wc, rfl⟩
      obtain ⟨L3, hL⟩ : ∃ L3, L3 = L2 ++ (if t.bg ≠ F.bg then numP t.bg 10 else []) := ⟨_, rfl⟩
      rw [← hL] at HOc HP
      replace HLE := Lib.hid (show L3.length ≤ 19 by
        rw [hL, List.length_append]
        have h1 := HLE.out
        have h2 := numP_len t.bg 10
        have h3 : (if t.bg ≠ F.bg then numP t.bg 10 else []).length ≤ 5 := by split <;> simp_all
        omega)
      clear hL
      have HO := Lib.hid HOc.out
      clear HOc
      clear HFi HTi
      have HRG := Lib.hid (show ∀ x ∈ L3, 0 ≤ x ∧ x ≤ 1000 by rw [← HP.out]; exact sgrP_rng HTK.out)
      rw [HP.out] at HE
      have HLE3 := Lib.hid HLE.out
      clear HP HLE HFO HTO HFK HTK
      have HL3 := Lib.hid (show L3.length ≤ 19 from HLE3.out)
      obtain ⟨Bb, hBb⟩ : ∃ Bb, Bb = wb.heap.size := ⟨_, rfl⟩
      have hbld : Lib.IsBuilderF 118 5 wb.heap.size wb.heap.size (Lib.byteCells (parsL false (L3.take 0))) (wb.alloc (.cells #[.pointer none, .slice none 0 0] 118)) :=
        Lib.IsBuilderF.of (.inl ⟨Nat.le_refl _, .slice none 0 0, blk_new _ _, World.ownsRow_nil _ _ _ _, by simp [Value.ownBlock]⟩)
      have hbb := Below.alloc (Below.refl wb.heap.size wb) (Nat.le_refl _) (.cells #[.pointer none, .slice none 0 0] 118)
      rw [← hBb] at hbld hbb
      have HBL := Lib.hid hbld
      have HBB := Lib.hid hbb
      have hln := ownC_ln Tryz.underlying63 HO.out
      clear hbld hbb
      go_upto_region 21 with fail
      rw [← hBb]
      have HBz2 := Lib.hid (HBz.out.trans (HBB.out.mono (by have := HSi.out; omega)))
      generalize wb.alloc (.cells #[.pointer none, .slice none 0 0] 118) = wd at *
      have HBS := Lib.hid (show Bb ≤ wb.heap.size by omega)
      have HOd := Lib.hid (ownC_below HO.out (by have := HBB.out; rw [hBb] at this; exact this))
      have HB0 := Lib.hid (show A ≤ Bb by have := HSi.out; omega)
      have HOB := Lib.hid (show ∀ q, ∀ v : Value, OwnC wb (A + 2) 1 v L3.length (L3.map (Value.int .i64)) → v.ownBlock = some q → q < Bb from fun q v h e => by have := (ownC_lt h q e).2; omega)
      clear hBb
      go_wp2_with fail
      go_loopw [71] (fun iv wr => ∃ (k : Nat), k ≤ L3.length ∧ iv = .int .i64 k ∧ Hid (Below Bb wd wr) ∧ Hid (Lib.IsBuilderF 118 5 Bb Bb (Lib.byteCells (parsL false (L3.take k))) wr)) (fun iv _ => L3.length - (intOf iv).toNat)
      case atStart => exact ⟨0, Nat.zero_le _, rfl, Lib.hid (Below.refl _ _), HBL⟩
      case round =>
        obtain ⟨k, hk, rfl, HBr, HBD⟩ := hrel
        have HSr := Lib.hid (show Bb ≤ wr.heap.size by have := HBr.out.size; have := HBB.out.size; have := HBS.out; omega)
        have HPL := Lib.hid (show (parsL false (L3.take k)).length ≤ 500 by
          have h1 := parsL_le (L3.take k) false (fun x hx => HRG.out x (List.mem_of_mem_take hx))
          have h2 : (L3.take k).length ≤ L3.length := List.length_take_le' _ _
          have := HL3.out
          omega)
        by_cases hlt : k < L3.length
        · have d1 : decide ((k : Int) < (L3.length : Int)) = true := decide_eq_true (by omega)
          have d1' : decide (k < L3.length) = true := decide_eq_true hlt
          have hwk : IntKind.i64.wrap ((k : Int) + 1) = (k : Int) + 1 := wrap64_id _ (by have := HL3.out; omega) (by have := HL3.out; omega)
          have HOr := Lib.hid (ownC_blocks HOd.out (by have := HBr.out.size; omega) (fun q hq => HBr.out.block q (HOB.out q _ HO.out hq)))
          obtain ⟨lb, lo, lc, e1, _, _⟩ := ownC_pos HOr.out (by omega)
          subst e1
          have p0 : wr.cell? ⟨lb, lo + k, none⟩ = some (.int .i64 (L3.getD k 0)) := by
            rw [(ownC_cellx HOr.out k (by omega)).1, List.getElem?_map, getD_of L3 k hlt]; rfl
          have hix := idx_at (P := Tryz.prog) (size := 1) Tryz.underlying63 (by kernel_rfl) lb lo L3.length lc k hlt
          rw [Nat.mul_one] at hix
          have HXR := Lib.hid (HRG.out _ (getD_mem L3 k hlt))
          have HSN := Lib.hid (show parsL false (L3.take (k + 1)) = parsL false (L3.take k) ++ parL (false || !(L3.take k).isEmpty) (L3.getD k 0) by rw [take_succ_getD L3 0 k hlt, parsL_snoc])
          generalize L3.getD k 0 = x at *
          have HPX := Lib.hid (show ∀ b, parL b x = (if b then [59] else []) ++ Lib.itoa x from fun b => by unfold parL; rw [if_pos HXR.out.1])
          have HBA := Lib.hid (HBz2.out.trans (HBr.out.mono HB0.out))
          clear HOr
          by_cases hk0 : k = 0
          · have d2 : decide ((0 : Int) < (k : Int)) = false := decide_eq_false (by omega)
            have d2' : decide (0 < k) = false := decide_eq_false (by omega)
            have HS1 := Lib.hid (show parsL false (L3.take (k + 1)) = parsL false (L3.take k) ++ Lib.itoa x by rw [HSN.out, HPX.out, hk0]; rfl)
            clear hk0
            go_wp2_with fail
            refine (itoaS_any x (by have := HXR.out; omega) (by have := HXR.out; omega) _ (HTB.out.below (by rw [← HA.out]; exact HBA.out))).mono ?_
            rintro e w6 ⟨str, rfl, es, hs, b6⟩
            have HBD6 := Lib.hid (bldF_below HBD.out b6)
            have HBr6 := Lib.hid (HBr.out.trans (b6.mono HSr.out))
            have HSr6 := Lib.hid (Nat.le_trans HSr.out b6.size)
            have HES := Lib.hid es
            clear b6 es
            go_wp2_with fail
            refine (writeString_any Bb Bb _ str w6 HBD6.out (by rw [Lib.byteCells_length]; have := HPL.out; omega) HSr6.out).mono ?_
            rintro e w7 ⟨rfl, hd7, b7⟩
            have HBD7 := Lib.hid (show Lib.IsBuilderF 118 5 Bb Bb (Lib.byteCells (parsL false (L3.take (k + 1)))) w7 from by
              rw [HS1.out]
              have e : Lib.strCells str = Lib.byteCells (Lib.itoa x) := by unfold Lib.strCells Lib.byteCells; rw [HES.out]
              rw [e] at hd7
              rw [byteCells_app]; exact hd7)
            have HBr7 := Lib.hid (HBr6.out.trans b7)
            clear hd7 b7
            go_wp2_with fail
            go_roundw
            case rel => exact ⟨k + 1, by omega, by go_num, HBr7, HBD7⟩
            case measure => simp [intOf]; omega
          · have d2 : decide ((0 : Int) < (k : Int)) = true := decide_eq_true (by omega)
            have d2' : decide (0 < k) = true := decide_eq_true (by omega)
            have HS1 := Lib.hid (show parsL false (L3.take (k + 1)) = parsL false (L3.take k) ++ [59] ++ Lib.itoa x by
              rw [HSN.out, HPX.out, List.append_assoc]
              have : (L3.take k).isEmpty = false := by
                rw [List.isEmpty_eq_false_iff]
                intro e
                have e2 := congrArg List.length e
                rw [List.length_take, List.length_nil] at e2
                omega
              rw [this]; rfl)
            clear hk0
            go_wp2_with fail
            refine (writeByte_any Bb Bb _ 59 wr HBD.out (by rw [Lib.byteCells_length]; have := HPL.out; omega) HSr.out).mono ?_
            rintro e w4 ⟨rfl, hd4, b4⟩
            replace HBD := Lib.hid hd4
            replace HBr := Lib.hid (HBr.out.trans b4)
            replace HBA := Lib.hid (HBA.out.trans (b4.mono HB0.out))
            replace HSr := Lib.hid (Nat.le_trans HSr.out b4.size)
            clear hd4 b4 p0 hix
            go_wp2_with fail
            refine (itoaS_any x (by have := HXR.out; omega) (by have := HXR.out; omega) _ (HTB.out.below (by rw [← HA.out]; exact HBA.out))).mono ?_
            rintro e w6 ⟨str, rfl, es, hs, b6⟩
            have HBD6 := Lib.hid (bldF_below HBD.out b6)
            have HBr6 := Lib.hid (HBr.out.trans (b6.mono HSr.out))
            have HSr6 := Lib.hid (Nat.le_trans HSr.out b6.size)
            have HES := Lib.hid es
            clear b6 es
            go_wp2_with fail
            refine (writeString_any Bb Bb _ str w6 HBD6.out (by rw [List.length_append, Lib.byteCells_length]; show _ + 1 + _ ≤ _; have := HPL.out; omega) HSr6.out).mono ?_
            rintro e w7 ⟨rfl, hd7, b7⟩
            have HBD7 := Lib.hid (show Lib.IsBuilderF 118 5 Bb Bb (Lib.byteCells (parsL false (L3.take (k + 1)))) w7 from by
              rw [HS1.out]
              have e : Lib.strCells str = Lib.byteCells (Lib.itoa x) := by unfold Lib.strCells Lib.byteCells; rw [HES.out]
              rw [e] at hd7
              rw [byteCells_app, byteCells_app]; exact hd7)
            have HBr7 := Lib.hid (HBr6.out.trans b7)
            clear hd7 b7
            go_wp2_with fail
            go_roundw
            case rel => exact ⟨k + 1, by omega, by go_num, HBr7, HBD7⟩
            case measure => simp [intOf]; omega
        · have HKE := Lib.hid (show L3.take k = L3 from List.take_of_length_le (by omega))
          have d1 : decide ((k : Int) < (L3.length : Int)) = false := decide_eq_false (by omega)
          have d1' : decide (k < L3.length) = false := decide_eq_false hlt
          rw [HKE.out] at HBD HPL
          clear hlt HKE
          go_wp2_with fail
          refine (Tryz.Builder_String_any_f Bb Bb _ wr HBD.out HSr.out).mono ?_
          rintro e w5 ⟨rfl, _, b5⟩
          have HFB := Lib.hid ((HBz2.out.trans (HBr.out.mono HB0.out)).trans (b5.mono HB0.out))
          obtain ⟨X, hX⟩ : ∃ X : ByteArray, X = ⟨(parsL false L3).toArray⟩ := ⟨_, rfl⟩
          rw [← hX]
          have hsz : X.size ≤ 500 := by
            rw [hX]
            have := HPL.out
            show (parsL false L3).toArray.size ≤ 500
            rw [List.size_toArray]
            exact this
          have HXE := Lib.hid (show X.data.toList = parsL false L3 by rw [hX])
          clear hX b5
          go_wp2_with fail
          refine ret1v rfl rfl rfl ⟨_, rfl, ?_, ?_, by have := HA.out; subst this; exact HFB.out⟩
          · rw [HE.out, ba_app, ba_app, HXE.out]
          · rw [ByteArray.size_append, ByteArray.size_append]
            show 2 + X.size + 1 ≤ 1000
            omega
end Go.Proofs.YtlfdgkiliegaiaaGreatDoor
