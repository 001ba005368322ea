/- Package grid, texts laid together: K16 K17 K18. -/
import Derived.Test.YtlfdgkiliegaiaaGreatDoorY12
import Derived.Test.YtlfdgkiliegaiaaGreatDoorY10
import Derived.Laws.EntriesVeiled
/- Walks of package screen: parameters, looks. -/
namespace Go.Proofs.YtlfdgkiliegaiaaGreatDoor
open Go.RowKit
set_option maxRecDepth 100000

theorem i64_info : (Tryz.prog.info? 3).map (·.size) = some 1 := by kernel_rfl
theorem param_any (a : VAct) (v : Value) (w : World) (hr : IsRd .i64 w v a.params) (i : Nat) (first : Int) :
    Calls Tryz.prog 162 #[a.val v, .int .i64 i, .int .i64 first] w fun e w' => e = .returned (.int .i64 (par a.params i first)) ∧ Below w.heap.size w w' := by
  have hlen := rd_len Tryz.underlying63 hr
  have hbk := blk_new w (.cells (a.cells v).toArray 75)
  have hb := Lib.hid ((Below.refl w.heap.size w).alloc (Nat.le_refl _) (.cells (a.cells v).toArray 75))
  have HR := Lib.hid hr
  have hP := Lib.hid (show ∀ n, a.params.length = n → a.params.length = n from fun _ h => h)
  obtain ⟨kind, rune, byte, params, inter, text⟩ := a
  unfold VAct.val
  unfold VAct.cells at hbk hb
  dsimp only at *
  have c3 : (w.alloc (.cells #[.int .i64 kind, .int .i32 rune, .int .u8 (byte.toNat : Int), v, .string inter, .string text] 75)).cell? ⟨w.heap.size, 3, none⟩ = some v := blk_cell hbk 3
  clear hr hbk
  by_cases hi : i < params.length
  · have d1 : decide ((params.length : Int) ≤ (i : Int)) = false := decide_eq_false (by omega)
    have d1' : decide (params.length ≤ i) = false := decide_eq_false (by omega)
    obtain ⟨ad, had, hcell⟩ := rd_at Tryz.underlying63 i64_info HR.out i hi
    have hcell2 : (w.alloc (.cells #[.int .i64 kind, .int .i32 rune, .int .u8 (byte.toNat : Int), v, .string inter, .string text] 75)).cell? ad = some (.int .i64 (params.getD i 0)) := cell_below hb.out hcell
    have HG := Lib.hid (show params.getD i (-1) = params.getD i 0 by rw [List.getD_eq_getElem?_getD, List.getD_eq_getElem?_getD, List.getElem?_eq_getElem hi]; rfl)
    have HI := Lib.hid hi
    clear hi hcell
    by_cases hx : params.getD i 0 < 0
    · have d2 : decide (params.getD i 0 < 0) = true := decide_eq_true hx
      have HE := Lib.hid (show par params i first = first by unfold par; rw [if_neg (by rw [HG.out]; omega)])
      clear hx
      generalize params.getD i 0 = x at *
      go_enter Tryz.func162, Tryz.ntmps162
      go_wp2_with fail
      go_ret
      exact ⟨ret_int HE.out.symm, hb.out⟩
    · have d2 : decide (params.getD i 0 < 0) = false := decide_eq_false hx
      have HE := Lib.hid (show par params i first = min (params.getD i 0) 9999 by unfold par; rw [HG.out, if_pos ⟨HI.out, by omega⟩])
      clear hx
      generalize params.getD i 0 = x at *
      go_enter Tryz.func162, Tryz.ntmps162
      go_wp2_with fail
      go_ret
      exact ⟨ret_int HE.out.symm, hb.out⟩
  · have d1 : decide ((params.length : Int) ≤ (i : Int)) = true := decide_eq_true (by omega)
    have d1' : decide (params.length ≤ i) = true := decide_eq_true (by omega)
    have HE := Lib.hid (show par params i first = first by unfold par; rw [if_neg (fun e => hi e.1)])
    clear hi
    go_enter Tryz.func162, Tryz.ntmps162
    go_wp2_with fail
    go_ret
    exact ⟨ret_int HE.out.symm, hb.out⟩
def kcL : List (Nat × Int) := [(0, 1), (1, 2), (2, 3), (3, 4), (4, 5), (5, 7), (6, 8), (7, 9)]
def penK (p : Sty) (n : Int) (k : Nat) : Sty := (kcL.take k).foldl (fun p kc => pen1 p n kc) p
def arr8 : Value := .agg #[.int .i64 1, .int .i64 2, .int .i64 3, .int .i64 4, .int .i64 5, .int .i64 7, .int .i64 8, .int .i64 9]
theorem ix8 (i : Nat) (hi : i < 8) (wx : World) : (Instr.index 114 arr8 (.int .i64 (i : Int))).run Tryz.prog wx = .ok (.int .i64 (kcL.getD i (0, 0)).2) wx := by
  have hs : (sizeOf 3).run Tryz.prog wx = .ok 1 wx := run_size (by kernel_rfl) wx
  have hi' : (0 : Int) ≤ (i : Int) ∧ (i : Int) < 8 := by omega
  unfold arr8
  simp only [Instr.index, asIntOf, Sem.run_bind, Sem.run_pure, Result.andThen_ok, run_underlying Tryz.underlying114, if_pos hi', hs]
  have : i = 0 ∨ i = 1 ∨ i = 2 ∨ i = 3 ∨ i = 4 ∨ i = 5 ∨ i = 6 ∨ i = 7 := by omega
  rcases this with rfl | rfl | rfl | rfl | rfl | rfl | rfl | rfl
  all_goals simp [part, hs, run_size, kcL]
theorem penK_end (p : Sty) (n : Int) (h0 : ¬ n = 0) (h22 : ¬ n = 22) (h30 : ¬ (30 ≤ n ∧ n ≤ 37)) (h39 : ¬ n = 39) (h40 : ¬ (40 ≤ n ∧ n ≤ 47)) (h49 : ¬ n = 49) (h90 : ¬ (90 ≤ n ∧ n ≤ 97)) (h100 : ¬ (100 ≤ n ∧ n ≤ 107)) : look1 p n = penK p n 8 := by
  unfold look1
  rw [if_neg h0, if_neg h22, if_neg h30, if_neg h39, if_neg h40, if_neg h49, if_neg h90, if_neg h100]; rfl
theorem pen1_or (p : Sty) (n : Int) (k : Nat) (c : Int) (h : n = c) : pen1 p n (k, c) = { p with attr := bOr p.attr (2 ^ k : Nat) } := by
  unfold pen1
  dsimp only
  rw [if_pos h, if_neg (show ¬ (n = c + 20 ∧ 1 < k) by omega)]
theorem pen1_not (p : Sty) (n : Int) (k : Nat) (c : Int) (h : n = c + 20) (hk : 1 < k) : pen1 p n (k, c) = { p with attr := bNot p.attr (2 ^ k : Nat) } := by
  unfold pen1
  dsimp only
  rw [if_neg (show ¬ n = c by omega), if_pos (show n = c + 20 ∧ 1 < k from ⟨h, hk⟩)]
theorem pen1_no (p : Sty) (n : Int) (k : Nat) (c : Int) (h : ¬ n = c) (h2 : ¬ (n = c + 20 ∧ 1 < k)) : pen1 p n (k, c) = p := by
  unfold pen1
  dsimp only
  rw [if_neg h, if_neg h2]
theorem penK_or (p : Sty) (n : Int) (k : Nat) (c : Int) (m : Int) (hk : kcL[k]? = some (k, c)) (hm : ((2 ^ k : Nat) : Int) = m) (h : n = c) : penK p n (k + 1) = { penK p n k with attr := bOr (penK p n k).attr m } := by
  unfold penK
  rw [List.take_succ, hk, List.foldl_append, ← hm]
  exact pen1_or _ n k c h
theorem penK_not (p : Sty) (n : Int) (k : Nat) (c : Int) (m : Int) (hk : kcL[k]? = some (k, c)) (hm : ((2 ^ k : Nat) : Int) = m) (h : n = c + 20) (h1 : 1 < k) : penK p n (k + 1) = { penK p n k with attr := bNot (penK p n k).attr m } := by
  unfold penK
  rw [List.take_succ, hk, List.foldl_append, ← hm]
  exact pen1_not _ n k c h h1
theorem penK_no (p : Sty) (n : Int) (k : Nat) (c : Int) (hk : kcL[k]? = some (k, c)) (h : ¬ n = c) (h2 : ¬ (n = c + 20 ∧ 1 < k)) : penK p n (k + 1) = penK p n k := by
  unfold penK
  rw [List.take_succ, hk, List.foldl_append]
  exact pen1_no _ n k c h h2
def Scr.ink (s : Scr) (t : Sty) : Scr := { s with now := { s.now with pen := t } }
theorem SR.setPen {B : World} {C : Nat → Nat} {p : Nat} {w : World} {s : Scr} {ps : PSt} (h : SR B C p w s ps) (t : Sty) :
    (storeVar 35 ⟨p, 3, none⟩ (.agg #[.int .i64 t.fg, .int .i64 t.bg, .int .i64 t.attr])).run Tryz.prog w = .ok () (w.setCells p 3 [.int .i64 t.fg, .int .i64 t.bg, .int .i64 t.attr]) ∧
    SR B C p (w.setCells p 3 [.int .i64 t.fg, .int .i64 t.bg, .int .i64 t.attr]) (s.ink t) ps ∧ Pre C w C (w.setCells p 3 [.int .i64 t.fg, .int .i64 t.bg, .int .i64 t.attr]) := by
  refine ⟨run_storeVar_mid w p 3 35 #[.int .i64 t.fg, .int .i64 t.bg, .int .i64 t.attr] (h.there 3 3 (by decide)) sty_info (by simp [Value.oneCell']), ?_⟩
  exact h.setG (gb_setCells' w p _ _) (s.ink t) (fun pm po pp vt vo hb => by
    have h2 := blk_set (blk_set (blk_set hb 3 (.int .i64 t.fg)) 4 (.int .i64 t.bg)) 5 (.int .i64 t.attr)
    simp only [Scr.cells, List.setIfInBounds_toArray, List.set_cons_zero, List.set_cons_succ] at h2
    exact h2)
set_option maxHeartbeats 4000000 in
theorem lookS_any {B : World} {C : Nat → Nat} {p : Nat} {w : World} {s : Scr} {ps : PSt} (h : SR B C p w s ps) (n : Int) (h0 : 0 ≤ n) (h9 : n ≤ 9999) :
    Calls Tryz.prog 286 #[.pointer (some ⟨p, 0, none⟩), .int .i64 n] w fun e w' => e = .returned (.tuple #[]) ∧ Does B C p w w' (s.ink (look1 s.now.pen n)) ps := by
  have c3 : w.cell? ⟨p, 3, none⟩ = some (.int .i64 s.now.pen.fg) := h.at_ 3 _
  have c4 : w.cell? ⟨p, 4, none⟩ = some (.int .i64 s.now.pen.bg) := h.at_ 4 _
  have c5 : w.cell? ⟨p, 5, none⟩ = some (.int .i64 s.now.pen.attr) := h.at_ 5 _
  have f3 := h.fz 3
  have f4 := h.fz 4
  have f5 := h.fz 5
  by_cases hc : n = 0
  · subst hc
    have HE := Lib.hid (show look1 s.now.pen 0 = plainS from rfl)
    have HR := Lib.hid h
    clear h h0 h9 c3 c4 c5 f3 f4 f5
    go_enter Tryz.func286, Tryz.ntmps286
    go_wp2_with fail
    refine (plain_any w).mono ?_
    rintro e w2 ⟨rfl, b2⟩
    obtain ⟨hst, h1, g1⟩ := (HR.out.below b2).setPen plainS
    have HD := Lib.hid (show Does B C p w _ _ ps from ⟨_, h1, ((Pre.refl C w).below b2).trans g1⟩)
    clear h1 g1 b2
    unfold Sty.val
    go_wp2_with (refine wpList_storeR rfl _ _ _ rfl hst rfl rfl ?_)
    go_end0
    refine ⟨rfl, ?_⟩
    rw [HE.out]
    exact HD.out
  have e0 : (n == 0) = false := beq_eq_false_iff_ne.2 hc
  have HN0 := Lib.hid hc
  clear hc
  by_cases hc : n = 22
  · subst hc
    have HE := Lib.hid (show look1 s.now.pen 22 = { s.now.pen with attr := bNot s.now.pen.attr 3 } from rfl)
    obtain ⟨h1, g1⟩ := h.set 5 (.int .i64 (bNot s.now.pen.attr 3)) (s.ink { s.now.pen with attr := bNot s.now.pen.attr 3 })
    have HD := Lib.hid (show Does B C p w _ _ ps from ⟨_, h1, g1⟩)
    clear h h1 g1 h0 h9
    go_enter Tryz.func286, Tryz.ntmps286
    go_wp2_with fail
    go_end0
    refine ⟨rfl, ?_⟩
    rw [HE.out]
    exact HD.out
  have e22 : (n == 22) = false := beq_eq_false_iff_ne.2 hc
  have HN22 := Lib.hid hc
  clear hc
  by_cases hc : 30 ≤ n ∧ n ≤ 37
  · have HE := Lib.hid (show look1 s.now.pen n = { s.now.pen with fg := n - 30 } by unfold look1; rw [if_neg HN0.out, if_neg HN22.out, if_pos hc])
    have hw : IntKind.i64.wrap (n - 30) = n - 30 := wrap64_id _ (by omega) (by omega)
    have dl30 : decide (30 ≤ n) = true := decide_eq_true (by omega)
    have dh30 : decide (n ≤ 37) = true := decide_eq_true (by omega)
    obtain ⟨h1, g1⟩ := h.set 3 (.int .i64 (n - 30)) (s.ink { s.now.pen with fg := n - 30 })
    have HD := Lib.hid (show Does B C p w _ _ ps from ⟨_, h1, g1⟩)
    clear h h1 g1 h0 h9 hc
    go_enter Tryz.func286, Tryz.ntmps286
    go_wp2_with fail
    go_end0
    refine ⟨rfl, ?_⟩
    rw [HE.out]
    exact HD.out
  have HN30 := Lib.hid hc
  clear hc
  by_cases hc : n = 39
  · subst hc
    have HE := Lib.hid (show look1 s.now.pen 39 = { s.now.pen with fg := -1 } from rfl)
    obtain ⟨h1, g1⟩ := h.set 3 (.int .i64 (-1)) (s.ink { s.now.pen with fg := -1 })
    have HD := Lib.hid (show Does B C p w _ _ ps from ⟨_, h1, g1⟩)
    clear h h1 g1 h0 h9
    go_enter Tryz.func286, Tryz.ntmps286
    go_wp2_with fail
    go_end0
    refine ⟨rfl, ?_⟩
    rw [HE.out]
    exact HD.out
  have e39 : (n == 39) = false := beq_eq_false_iff_ne.2 hc
  have HN39 := Lib.hid hc
  clear hc
  by_cases hc : 40 ≤ n ∧ n ≤ 47
  · have HE := Lib.hid (show look1 s.now.pen n = { s.now.pen with bg := n - 40 } by unfold look1; rw [if_neg HN0.out, if_neg HN22.out, if_neg HN30.out, if_neg HN39.out, if_pos hc])
    have hw : IntKind.i64.wrap (n - 40) = n - 40 := wrap64_id _ (by omega) (by omega)
    have dl30 : decide (30 ≤ n) = true := decide_eq_true (by omega)
    have dh30 : decide (n ≤ 37) = false := decide_eq_false (by omega)
    have dl40 : decide (40 ≤ n) = true := decide_eq_true (by omega)
    have dh40 : decide (n ≤ 47) = true := decide_eq_true (by omega)
    have e39 : (n == 39) = false := beq_eq_false_iff_ne.2 (by omega)
    obtain ⟨h1, g1⟩ := h.set 4 (.int .i64 (n - 40)) (s.ink { s.now.pen with bg := n - 40 })
    have HD := Lib.hid (show Does B C p w _ _ ps from ⟨_, h1, g1⟩)
    clear h h1 g1 h0 h9 hc
    go_enter Tryz.func286, Tryz.ntmps286
    go_wp2_with fail
    go_end0
    refine ⟨rfl, ?_⟩
    rw [HE.out]
    exact HD.out
  have HN40 := Lib.hid hc
  clear hc
  by_cases hc : n = 49
  · subst hc
    have HE := Lib.hid (show look1 s.now.pen 49 = { s.now.pen with bg := -1 } from rfl)
    obtain ⟨h1, g1⟩ := h.set 4 (.int .i64 (-1)) (s.ink { s.now.pen with bg := -1 })
    have HD := Lib.hid (show Does B C p w _ _ ps from ⟨_, h1, g1⟩)
    clear h h1 g1 h0 h9
    go_enter Tryz.func286, Tryz.ntmps286
    go_wp2_with fail
    go_end0
    refine ⟨rfl, ?_⟩
    rw [HE.out]
    exact HD.out
  have e49 : (n == 49) = false := beq_eq_false_iff_ne.2 hc
  have HN49 := Lib.hid hc
  clear hc
  by_cases hc : 90 ≤ n ∧ n ≤ 97
  · have HE := Lib.hid (show look1 s.now.pen n = { s.now.pen with fg := n - 82 } by unfold look1; rw [if_neg HN0.out, if_neg HN22.out, if_neg HN30.out, if_neg HN39.out, if_neg HN40.out, if_neg HN49.out, if_pos hc])
    have hw : IntKind.i64.wrap (n - 82) = n - 82 := wrap64_id _ (by omega) (by omega)
    have dl30 : decide (30 ≤ n) = true := decide_eq_true (by omega)
    have dh30 : decide (n ≤ 37) = false := decide_eq_false (by omega)
    have dl40 : decide (40 ≤ n) = true := decide_eq_true (by omega)
    have dh40 : decide (n ≤ 47) = false := decide_eq_false (by omega)
    have dl90 : decide (90 ≤ n) = true := decide_eq_true (by omega)
    have dh90 : decide (n ≤ 97) = true := decide_eq_true (by omega)
    have e39 : (n == 39) = false := beq_eq_false_iff_ne.2 (by omega)
    have e49 : (n == 49) = false := beq_eq_false_iff_ne.2 (by omega)
    obtain ⟨h1, g1⟩ := h.set 3 (.int .i64 (n - 82)) (s.ink { s.now.pen with fg := n - 82 })
    have HD := Lib.hid (show Does B C p w _ _ ps from ⟨_, h1, g1⟩)
    clear h h1 g1 h0 h9 hc
    go_enter Tryz.func286, Tryz.ntmps286
    go_wp2_with fail
    go_end0
    refine ⟨rfl, ?_⟩
    rw [HE.out]
    exact HD.out
  have HN90 := Lib.hid hc
  clear hc
  by_cases hc : 100 ≤ n ∧ n ≤ 107
  · have HE := Lib.hid (show look1 s.now.pen n = { s.now.pen with bg := n - 92 } by unfold look1; rw [if_neg HN0.out, if_neg HN22.out, if_neg HN30.out, if_neg HN39.out, if_neg HN40.out, if_neg HN49.out, if_neg HN90.out, if_pos hc])
    have hw : IntKind.i64.wrap (n - 92) = n - 92 := wrap64_id _ (by omega) (by omega)
    have dl30 : decide (30 ≤ n) = true := decide_eq_true (by omega)
    have dh30 : decide (n ≤ 37) = false := decide_eq_false (by omega)
    have dl40 : decide (40 ≤ n) = true := decide_eq_true (by omega)
    have dh40 : decide (n ≤ 47) = false := decide_eq_false (by omega)
    have dl90 : decide (90 ≤ n) = true := decide_eq_true (by omega)
    have dh90 : decide (n ≤ 97) = false := decide_eq_false (by omega)
    have dl100 : decide (100 ≤ n) = true := decide_eq_true (by omega)
    have dh100 : decide (n ≤ 107) = true := decide_eq_true (by omega)
    have e39 : (n == 39) = false := beq_eq_false_iff_ne.2 (by omega)
    have e49 : (n == 49) = false := beq_eq_false_iff_ne.2 (by omega)
    obtain ⟨h1, g1⟩ := h.set 4 (.int .i64 (n - 92)) (s.ink { s.now.pen with bg := n - 92 })
    have HD := Lib.hid (show Does B C p w _ _ ps from ⟨_, h1, g1⟩)
    clear h h1 g1 h0 h9 hc
    go_enter Tryz.func286, Tryz.ntmps286
    go_wp2_with fail
    go_end0
    refine ⟨rfl, ?_⟩
    rw [HE.out]
    exact HD.out
  have HN100 := Lib.hid hc
  clear hc
  have HE := Lib.hid (penK_end s.now.pen n HN0.out HN22.out HN30.out HN39.out HN40.out HN49.out HN90.out HN100.out)
  have HR := Lib.hid h
  clear h c3 c4 c5 f3 f4 f5
  go_enter Tryz.func286, Tryz.ntmps286
  go_upto_region 12 with fail
  go_cut [71] (fun v wz => v = .bool false ∧ wz = w)
  case first =>
    by_cases hx : 30 ≤ n
    · have d1 : decide (30 ≤ n) = true := decide_eq_true hx
      have d2 : decide (n ≤ 37) = false := decide_eq_false (fun e => HN30.out ⟨hx, e⟩)
      go_wp2_with fail
      go_meet
      exact ⟨rfl, rfl⟩
    · have d1 : decide (30 ≤ n) = false := decide_eq_false hx
      go_wp2_with fail
      go_meet
      exact ⟨rfl, rfl⟩
  case rest =>
  obtain ⟨rfl, hwz⟩ := hcut
  subst hwz
  obtain ⟨w, rfl⟩ : ∃ z, z = wc := ⟨wc, rfl⟩
  go_upto_region 16 with fail
  go_cut [93] (fun v wz => v = .bool false ∧ wz = w)
  case first =>
    by_cases hx : 40 ≤ n
    · have d1 : decide (40 ≤ n) = true := decide_eq_true hx
      have d2 : decide (n ≤ 47) = false := decide_eq_false (fun e => HN40.out ⟨hx, e⟩)
      go_wp2_with fail
      go_meet
      exact ⟨rfl, rfl⟩
    · have d1 : decide (40 ≤ n) = false := decide_eq_false hx
      go_wp2_with fail
      go_meet
      exact ⟨rfl, rfl⟩
  case rest =>
  obtain ⟨rfl, hwz⟩ := hcut
  subst hwz
  obtain ⟨w, rfl⟩ : ∃ z, z = wc := ⟨wc, rfl⟩
  go_upto_region 20 with fail
  go_cut [115] (fun v wz => v = .bool false ∧ wz = w)
  case first =>
    by_cases hx : 90 ≤ n
    · have d1 : decide (90 ≤ n) = true := decide_eq_true hx
      have d2 : decide (n ≤ 97) = false := decide_eq_false (fun e => HN90.out ⟨hx, e⟩)
      go_wp2_with fail
      go_meet
      exact ⟨rfl, rfl⟩
    · have d1 : decide (90 ≤ n) = false := decide_eq_false hx
      go_wp2_with fail
      go_meet
      exact ⟨rfl, rfl⟩
  case rest =>
  obtain ⟨rfl, hwz⟩ := hcut
  subst hwz
  obtain ⟨w, rfl⟩ : ∃ z, z = wc := ⟨wc, rfl⟩
  go_upto_region 22 with fail
  go_cut [129] (fun v wz => v = .bool false ∧ wz = w)
  case first =>
    by_cases hx : 100 ≤ n
    · have d1 : decide (100 ≤ n) = true := decide_eq_true hx
      have d2 : decide (n ≤ 107) = false := decide_eq_false (fun e => HN100.out ⟨hx, e⟩)
      go_wp2_with fail
      go_meet
      exact ⟨rfl, rfl⟩
    · have d1 : decide (100 ≤ n) = false := decide_eq_false hx
      go_wp2_with fail
      go_meet
      exact ⟨rfl, rfl⟩
  case rest =>
  obtain ⟨rfl, hwz⟩ := hcut
  subst hwz
  obtain ⟨w, rfl⟩ : ∃ z, z = wc := ⟨wc, rfl⟩
  go_wp2_with fail
  go_loopw [7] (fun iv wr => ∃ (k : Nat) (C1 : Nat → Nat), k ≤ 8 ∧ iv = .int .i64 k ∧ Hid (SR B C1 p wr (s.ink (penK s.now.pen n k)) ps) ∧ Hid (Pre C w C1 wr)) (fun iv _ => 8 - (intOf iv).toNat)
  case atStart => exact ⟨0, C, by omega, rfl, HR, Lib.hid (Pre.refl _ _)⟩
  case round =>
    obtain ⟨k, C1, hk, rfl, H1, P1⟩ := hrel
    obtain rfl | rfl | rfl | rfl | rfl | rfl | rfl | rfl | rfl : k = 0 ∨ k = 1 ∨ k = 2 ∨ k = 3 ∨ k = 4 ∨ k = 5 ∨ k = 6 ∨ k = 7 ∨ k = 8 := by omega
    · have hix : ∀ wx, (Instr.index 114 (.agg #[.int .i64 1, .int .i64 2, .int .i64 3, .int .i64 4, .int .i64 5, .int .i64 7, .int .i64 8, .int .i64 9]) (.int .i64 0)).run Tryz.prog wx = .ok (.int .i64 1) wx := fun wx => ix8 0 (by decide) wx
      have c5 : wr.cell? ⟨p, 5, none⟩ = some (.int .i64 (penK s.now.pen n 0).attr) := H1.out.at_ 5 _
      have f5 := H1.out.fz 5
      have hwm : IntKind.i64.wrap 1 = 1 := wrap64_id _ (by decide) (by decide)
      by_cases hc : n = 1
      · have e1 : (n == 1) = true := beq_iff_eq.2 hc
        have e2 : (n == 21) = false := beq_eq_false_iff_ne.2 (by omega)
        have HPK := Lib.hid (penK_or s.now.pen n 0 1 1 rfl (by decide) hc)
        clear hc
        obtain ⟨h2, g2⟩ := (H1.out.below (Below.refl wr.heap.size wr).drew).set 5 (.int .i64 (bOr (penK s.now.pen n 0).attr 1)) (s.ink { penK s.now.pen n 0 with attr := bOr (penK s.now.pen n 0).attr 1 })
        have H2 := Lib.hid h2
        have P2 := Lib.hid ((P1.out.below (Below.refl wr.heap.size wr).drew).trans g2)
        clear h2 g2
        go_upto_region 4 with fail
        go_still_tail 13, (by kernel_rfl)
        change wpList _ _ _ _ _ wr.drew
        go_wp2_with fail
        go_roundw
        case rel => exact ⟨0 + 1, C1, by decide, by go_num, Lib.hid (by rw [HPK.out]; exact H2.out), Lib.hid P2.out⟩
        case measure => simp [intOf]
      have e1 : (n == 1) = false := beq_eq_false_iff_ne.2 hc
      by_cases hd : n = 21
      · have e2 : (n == 21) = true := beq_iff_eq.2 hd
        have hc2 : ¬ (n = 1 + 20 ∧ 1 < 0) := fun e => absurd e.2 (by decide)
        clear hd
        have HPK := Lib.hid (penK_no s.now.pen n 0 1 rfl hc hc2)
        clear hc hc2
        go_wp2_with fail
        go_roundw
        case rel => exact ⟨0 + 1, C1, by decide, by go_num, Lib.hid (by rw [HPK.out]; exact H1.out), P1⟩
        case measure => simp [intOf]
      · have e2 : (n == 21) = false := beq_eq_false_iff_ne.2 hd
        have hc2 : ¬ (n = 1 + 20 ∧ 1 < 0) := fun e => hd e.1
        clear hd
        have HPK := Lib.hid (penK_no s.now.pen n 0 1 rfl hc hc2)
        clear hc hc2
        go_wp2_with fail
        go_roundw
        case rel => exact ⟨0 + 1, C1, by decide, by go_num, Lib.hid (by rw [HPK.out]; exact H1.out), P1⟩
        case measure => simp [intOf]
    · have hix : ∀ wx, (Instr.index 114 (.agg #[.int .i64 1, .int .i64 2, .int .i64 3, .int .i64 4, .int .i64 5, .int .i64 7, .int .i64 8, .int .i64 9]) (.int .i64 1)).run Tryz.prog wx = .ok (.int .i64 2) wx := fun wx => ix8 1 (by decide) wx
      have c5 : wr.cell? ⟨p, 5, none⟩ = some (.int .i64 (penK s.now.pen n 1).attr) := H1.out.at_ 5 _
      have f5 := H1.out.fz 5
      have hwm : IntKind.i64.wrap 2 = 2 := wrap64_id _ (by decide) (by decide)
      by_cases hc : n = 2
      · have e1 : (n == 2) = true := beq_iff_eq.2 hc
        have e2 : (n == 22) = false := beq_eq_false_iff_ne.2 (by omega)
        have HPK := Lib.hid (penK_or s.now.pen n 1 2 2 rfl (by decide) hc)
        clear hc
        obtain ⟨h2, g2⟩ := (H1.out.below (Below.refl wr.heap.size wr).drew).set 5 (.int .i64 (bOr (penK s.now.pen n 1).attr 2)) (s.ink { penK s.now.pen n 1 with attr := bOr (penK s.now.pen n 1).attr 2 })
        have H2 := Lib.hid h2
        have P2 := Lib.hid ((P1.out.below (Below.refl wr.heap.size wr).drew).trans g2)
        clear h2 g2
        go_upto_region 4 with fail
        go_still_tail 13, (by kernel_rfl)
        change wpList _ _ _ _ _ wr.drew
        go_wp2_with fail
        go_roundw
        case rel => exact ⟨1 + 1, C1, by decide, by go_num, Lib.hid (by rw [HPK.out]; exact H2.out), Lib.hid P2.out⟩
        case measure => simp [intOf]
      have e1 : (n == 2) = false := beq_eq_false_iff_ne.2 hc
      by_cases hd : n = 22
      · have e2 : (n == 22) = true := beq_iff_eq.2 hd
        have hc2 : ¬ (n = 2 + 20 ∧ 1 < 1) := fun e => absurd e.2 (by decide)
        clear hd
        have HPK := Lib.hid (penK_no s.now.pen n 1 2 rfl hc hc2)
        clear hc hc2
        go_wp2_with fail
        go_roundw
        case rel => exact ⟨1 + 1, C1, by decide, by go_num, Lib.hid (by rw [HPK.out]; exact H1.out), P1⟩
        case measure => simp [intOf]
      · have e2 : (n == 22) = false := beq_eq_false_iff_ne.2 hd
        have hc2 : ¬ (n = 2 + 20 ∧ 1 < 1) := fun e => hd e.1
        clear hd
        have HPK := Lib.hid (penK_no s.now.pen n 1 2 rfl hc hc2)
        clear hc hc2
        go_wp2_with fail
        go_roundw
        case rel => exact ⟨1 + 1, C1, by decide, by go_num, Lib.hid (by rw [HPK.out]; exact H1.out), P1⟩
        case measure => simp [intOf]
    · have hix : ∀ wx, (Instr.index 114 (.agg #[.int .i64 1, .int .i64 2, .int .i64 3, .int .i64 4, .int .i64 5, .int .i64 7, .int .i64 8, .int .i64 9]) (.int .i64 2)).run Tryz.prog wx = .ok (.int .i64 3) wx := fun wx => ix8 2 (by decide) wx
      have c5 : wr.cell? ⟨p, 5, none⟩ = some (.int .i64 (penK s.now.pen n 2).attr) := H1.out.at_ 5 _
      have f5 := H1.out.fz 5
      have hwm : IntKind.i64.wrap 4 = 4 := wrap64_id _ (by decide) (by decide)
      by_cases hc : n = 3
      · have e1 : (n == 3) = true := beq_iff_eq.2 hc
        have e2 : (n == 23) = false := beq_eq_false_iff_ne.2 (by omega)
        have HPK := Lib.hid (penK_or s.now.pen n 2 3 4 rfl (by decide) hc)
        clear hc
        obtain ⟨h2, g2⟩ := (H1.out.below (Below.refl wr.heap.size wr).drew).set 5 (.int .i64 (bOr (penK s.now.pen n 2).attr 4)) (s.ink { penK s.now.pen n 2 with attr := bOr (penK s.now.pen n 2).attr 4 })
        have H2 := Lib.hid h2
        have P2 := Lib.hid ((P1.out.below (Below.refl wr.heap.size wr).drew).trans g2)
        clear h2 g2
        go_upto_region 4 with fail
        go_still_tail 13, (by kernel_rfl)
        change wpList _ _ _ _ _ wr.drew
        go_wp2_with fail
        go_roundw
        case rel => exact ⟨2 + 1, C1, by decide, by go_num, Lib.hid (by rw [HPK.out]; exact H2.out), Lib.hid P2.out⟩
        case measure => simp [intOf]
      have e1 : (n == 3) = false := beq_eq_false_iff_ne.2 hc
      by_cases hd : n = 23
      · have e2 : (n == 23) = true := beq_iff_eq.2 hd
        replace hc : n = 3 + 20 := hd
        clear hd
        have HPK := Lib.hid (penK_not s.now.pen n 2 3 4 rfl (by decide) hc (by decide))
        clear hc
        obtain ⟨h2, g2⟩ := (H1.out.below (Below.refl wr.heap.size wr).drew).set 5 (.int .i64 (bNot (penK s.now.pen n 2).attr 4)) (s.ink { penK s.now.pen n 2 with attr := bNot (penK s.now.pen n 2).attr 4 })
        have H2 := Lib.hid h2
        have P2 := Lib.hid ((P1.out.below (Below.refl wr.heap.size wr).drew).trans g2)
        clear h2 g2
        go_upto_region 6 with fail
        go_still_tail 13, (by kernel_rfl)
        change wpList _ _ _ _ _ wr.drew
        go_wp2_with fail
        go_roundw
        case rel => exact ⟨2 + 1, C1, by decide, by go_num, Lib.hid (by rw [HPK.out]; exact H2.out), Lib.hid P2.out⟩
        case measure => simp [intOf]
      · have e2 : (n == 23) = false := beq_eq_false_iff_ne.2 hd
        have hc2 : ¬ (n = 3 + 20 ∧ 1 < 2) := fun e => hd e.1
        clear hd
        have HPK := Lib.hid (penK_no s.now.pen n 2 3 rfl hc hc2)
        clear hc hc2
        go_wp2_with fail
        go_roundw
        case rel => exact ⟨2 + 1, C1, by decide, by go_num, Lib.hid (by rw [HPK.out]; exact H1.out), P1⟩
        case measure => simp [intOf]
    · have hix : ∀ wx, (Instr.index 114 (.agg #[.int .i64 1, .int .i64 2, .int .i64 3, .int .i64 4, .int .i64 5, .int .i64 7, .int .i64 8, .int .i64 9]) (.int .i64 3)).run Tryz.prog wx = .ok (.int .i64 4) wx := fun wx => ix8 3 (by decide) wx
      have c5 : wr.cell? ⟨p, 5, none⟩ = some (.int .i64 (penK s.now.pen n 3).attr) := H1.out.at_ 5 _
      have f5 := H1.out.fz 5
      have hwm : IntKind.i64.wrap 8 = 8 := wrap64_id _ (by decide) (by decide)
      by_cases hc : n = 4
      · have e1 : (n == 4) = true := beq_iff_eq.2 hc
        have e2 : (n == 24) = false := beq_eq_false_iff_ne.2 (by omega)
        have HPK := Lib.hid (penK_or s.now.pen n 3 4 8 rfl (by decide) hc)
        clear hc
        obtain ⟨h2, g2⟩ := (H1.out.below (Below.refl wr.heap.size wr).drew).set 5 (.int .i64 (bOr (penK s.now.pen n 3).attr 8)) (s.ink { penK s.now.pen n 3 with attr := bOr (penK s.now.pen n 3).attr 8 })
        have H2 := Lib.hid h2
        have P2 := Lib.hid ((P1.out.below (Below.refl wr.heap.size wr).drew).trans g2)
        clear h2 g2
        go_upto_region 4 with fail
        go_still_tail 13, (by kernel_rfl)
        change wpList _ _ _ _ _ wr.drew
        go_wp2_with fail
        go_roundw
        case rel => exact ⟨3 + 1, C1, by decide, by go_num, Lib.hid (by rw [HPK.out]; exact H2.out), Lib.hid P2.out⟩
        case measure => simp [intOf]
      have e1 : (n == 4) = false := beq_eq_false_iff_ne.2 hc
      by_cases hd : n = 24
      · have e2 : (n == 24) = true := beq_iff_eq.2 hd
        replace hc : n = 4 + 20 := hd
        clear hd
        have HPK := Lib.hid (penK_not s.now.pen n 3 4 8 rfl (by decide) hc (by decide))
        clear hc
        obtain ⟨h2, g2⟩ := (H1.out.below (Below.refl wr.heap.size wr).drew).set 5 (.int .i64 (bNot (penK s.now.pen n 3).attr 8)) (s.ink { penK s.now.pen n 3 with attr := bNot (penK s.now.pen n 3).attr 8 })
        have H2 := Lib.hid h2
        have P2 := Lib.hid ((P1.out.below (Below.refl wr.heap.size wr).drew).trans g2)
        clear h2 g2
        go_upto_region 6 with fail
        go_still_tail 13, (by kernel_rfl)
        change wpList _ _ _ _ _ wr.drew
        go_wp2_with fail
        go_roundw
        case rel => exact ⟨3 + 1, C1, by decide, by go_num, Lib.hid (by rw [HPK.out]; exact H2.out), Lib.hid P2.out⟩
        case measure => simp [intOf]
      · have e2 : (n == 24) = false := beq_eq_false_iff_ne.2 hd
        have hc2 : ¬ (n = 4 + 20 ∧ 1 < 3) := fun e => hd e.1
        clear hd
        have HPK := Lib.hid (penK_no s.now.pen n 3 4 rfl hc hc2)
        clear hc hc2
        go_wp2_with fail
        go_roundw
        case rel => exact ⟨3 + 1, C1, by decide, by go_num, Lib.hid (by rw [HPK.out]; exact H1.out), P1⟩
        case measure => simp [intOf]
    · have hix : ∀ wx, (Instr.index 114 (.agg #[.int .i64 1, .int .i64 2, .int .i64 3, .int .i64 4, .int .i64 5, .int .i64 7, .int .i64 8, .int .i64 9]) (.int .i64 4)).run Tryz.prog wx = .ok (.int .i64 5) wx := fun wx => ix8 4 (by decide) wx
      have c5 : wr.cell? ⟨p, 5, none⟩ = some (.int .i64 (penK s.now.pen n 4).attr) := H1.out.at_ 5 _
      have f5 := H1.out.fz 5
      have hwm : IntKind.i64.wrap 16 = 16 := wrap64_id _ (by decide) (by decide)
      by_cases hc : n = 5
      · have e1 : (n == 5) = true := beq_iff_eq.2 hc
        have e2 : (n == 25) = false := beq_eq_false_iff_ne.2 (by omega)
        have HPK := Lib.hid (penK_or s.now.pen n 4 5 16 rfl (by decide) hc)
        clear hc
        obtain ⟨h2, g2⟩ := (H1.out.below (Below.refl wr.heap.size wr).drew).set 5 (.int .i64 (bOr (penK s.now.pen n 4).attr 16)) (s.ink { penK s.now.pen n 4 with attr := bOr (penK s.now.pen n 4).attr 16 })
        have H2 := Lib.hid h2
        have P2 := Lib.hid ((P1.out.below (Below.refl wr.heap.size wr).drew).trans g2)
        clear h2 g2
        go_upto_region 4 with fail
        go_still_tail 13, (by kernel_rfl)
        change wpList _ _ _ _ _ wr.drew
        go_wp2_with fail
        go_roundw
        case rel => exact ⟨4 + 1, C1, by decide, by go_num, Lib.hid (by rw [HPK.out]; exact H2.out), Lib.hid P2.out⟩
        case measure => simp [intOf]
      have e1 : (n == 5) = false := beq_eq_false_iff_ne.2 hc
      by_cases hd : n = 25
      · have e2 : (n == 25) = true := beq_iff_eq.2 hd
        replace hc : n = 5 + 20 := hd
        clear hd
        have HPK := Lib.hid (penK_not s.now.pen n 4 5 16 rfl (by decide) hc (by decide))
        clear hc
        obtain ⟨h2, g2⟩ := (H1.out.below (Below.refl wr.heap.size wr).drew).set 5 (.int .i64 (bNot (penK s.now.pen n 4).attr 16)) (s.ink { penK s.now.pen n 4 with attr := bNot (penK s.now.pen n 4).attr 16 })
        have H2 := Lib.hid h2
        have P2 := Lib.hid ((P1.out.below (Below.refl wr.heap.size wr).drew).trans g2)
        clear h2 g2
        go_upto_region 6 with fail
        go_still_tail 13, (by kernel_rfl)
        change wpList _ _ _ _ _ wr.drew
        go_wp2_with fail
        go_roundw
        case rel => exact ⟨4 + 1, C1, by decide, by go_num, Lib.hid (by rw [HPK.out]; exact H2.out), Lib.hid P2.out⟩
        case measure => simp [intOf]
      · have e2 : (n == 25) = false := beq_eq_false_iff_ne.2 hd
        have hc2 : ¬ (n = 5 + 20 ∧ 1 < 4) := fun e => hd e.1
        clear hd
        have HPK := Lib.hid (penK_no s.now.pen n 4 5 rfl hc hc2)
        clear hc hc2
        go_wp2_with fail
        go_roundw
        case rel => exact ⟨4 + 1, C1, by decide, by go_num, Lib.hid (by rw [HPK.out]; exact H1.out), P1⟩
        case measure => simp [intOf]
    · have hix : ∀ wx, (Instr.index 114 (.agg #[.int .i64 1, .int .i64 2, .int .i64 3, .int .i64 4, .int .i64 5, .int .i64 7, .int .i64 8, .int .i64 9]) (.int .i64 5)).run Tryz.prog wx = .ok (.int .i64 7) wx := fun wx => ix8 5 (by decide) wx
      have c5 : wr.cell? ⟨p, 5, none⟩ = some (.int .i64 (penK s.now.pen n 5).attr) := H1.out.at_ 5 _
      have f5 := H1.out.fz 5
      have hwm : IntKind.i64.wrap 32 = 32 := wrap64_id _ (by decide) (by decide)
      by_cases hc : n = 7
      · have e1 : (n == 7) = true := beq_iff_eq.2 hc
        have e2 : (n == 27) = false := beq_eq_false_iff_ne.2 (by omega)
        have HPK := Lib.hid (penK_or s.now.pen n 5 7 32 rfl (by decide) hc)
        clear hc
        obtain ⟨h2, g2⟩ := (H1.out.below (Below.refl wr.heap.size wr).drew).set 5 (.int .i64 (bOr (penK s.now.pen n 5).attr 32)) (s.ink { penK s.now.pen n 5 with attr := bOr (penK s.now.pen n 5).attr 32 })
        have H2 := Lib.hid h2
        have P2 := Lib.hid ((P1.out.below (Below.refl wr.heap.size wr).drew).trans g2)
        clear h2 g2
        go_upto_region 4 with fail
        go_still_tail 13, (by kernel_rfl)
        change wpList _ _ _ _ _ wr.drew
        go_wp2_with fail
        go_roundw
        case rel => exact ⟨5 + 1, C1, by decide, by go_num, Lib.hid (by rw [HPK.out]; exact H2.out), Lib.hid P2.out⟩
        case measure => simp [intOf]
      have e1 : (n == 7) = false := beq_eq_false_iff_ne.2 hc
      by_cases hd : n = 27
      · have e2 : (n == 27) = true := beq_iff_eq.2 hd
        replace hc : n = 7 + 20 := hd
        clear hd
        have HPK := Lib.hid (penK_not s.now.pen n 5 7 32 rfl (by decide) hc (by decide))
        clear hc
        obtain ⟨h2, g2⟩ := (H1.out.below (Below.refl wr.heap.size wr).drew).set 5 (.int .i64 (bNot (penK s.now.pen n 5).attr 32)) (s.ink { penK s.now.pen n 5 with attr := bNot (penK s.now.pen n 5).attr 32 })
        have H2 := Lib.hid h2
        have P2 := Lib.hid ((P1.out.below (Below.refl wr.heap.size wr).drew).trans g2)
        clear h2 g2
        go_upto_region 6 with fail
        go_still_tail 13, (by kernel_rfl)
        change wpList _ _ _ _ _ wr.drew
        go_wp2_with fail
        go_roundw
        case rel => exact ⟨5 + 1, C1, by decide, by go_num, Lib.hid (by rw [HPK.out]; exact H2.out), Lib.hid P2.out⟩
        case measure => simp [intOf]
      · have e2 : (n == 27) = false := beq_eq_false_iff_ne.2 hd
        have hc2 : ¬ (n = 7 + 20 ∧ 1 < 5) := fun e => hd e.1
        clear hd
        have HPK := Lib.hid (penK_no s.now.pen n 5 7 rfl hc hc2)
        clear hc hc2
        go_wp2_with fail
        go_roundw
        case rel => exact ⟨5 + 1, C1, by decide, by go_num, Lib.hid (by rw [HPK.out]; exact H1.out), P1⟩
        case measure => simp [intOf]
    · have hix : ∀ wx, (Instr.index 114 (.agg #[.int .i64 1, .int .i64 2, .int .i64 3, .int .i64 4, .int .i64 5, .int .i64 7, .int .i64 8, .int .i64 9]) (.int .i64 6)).run Tryz.prog wx = .ok (.int .i64 8) wx := fun wx => ix8 6 (by decide) wx
      have c5 : wr.cell? ⟨p, 5, none⟩ = some (.int .i64 (penK s.now.pen n 6).attr) := H1.out.at_ 5 _
      have f5 := H1.out.fz 5
      have hwm : IntKind.i64.wrap 64 = 64 := wrap64_id _ (by decide) (by decide)
      by_cases hc : n = 8
      · have e1 : (n == 8) = true := beq_iff_eq.2 hc
        have e2 : (n == 28) = false := beq_eq_false_iff_ne.2 (by omega)
        have HPK := Lib.hid (penK_or s.now.pen n 6 8 64 rfl (by decide) hc)
        clear hc
        obtain ⟨h2, g2⟩ := (H1.out.below (Below.refl wr.heap.size wr).drew).set 5 (.int .i64 (bOr (penK s.now.pen n 6).attr 64)) (s.ink { penK s.now.pen n 6 with attr := bOr (penK s.now.pen n 6).attr 64 })
        have H2 := Lib.hid h2
        have P2 := Lib.hid ((P1.out.below (Below.refl wr.heap.size wr).drew).trans g2)
        clear h2 g2
        go_upto_region 4 with fail
        go_still_tail 13, (by kernel_rfl)
        change wpList _ _ _ _ _ wr.drew
        go_wp2_with fail
        go_roundw
        case rel => exact ⟨6 + 1, C1, by decide, by go_num, Lib.hid (by rw [HPK.out]; exact H2.out), Lib.hid P2.out⟩
        case measure => simp [intOf]
      have e1 : (n == 8) = false := beq_eq_false_iff_ne.2 hc
      by_cases hd : n = 28
      · have e2 : (n == 28) = true := beq_iff_eq.2 hd
        replace hc : n = 8 + 20 := hd
        clear hd
        have HPK := Lib.hid (penK_not s.now.pen n 6 8 64 rfl (by decide) hc (by decide))
        clear hc
        obtain ⟨h2, g2⟩ := (H1.out.below (Below.refl wr.heap.size wr).drew).set 5 (.int .i64 (bNot (penK s.now.pen n 6).attr 64)) (s.ink { penK s.now.pen n 6 with attr := bNot (penK s.now.pen n 6).attr 64 })
        have H2 := Lib.hid h2
        have P2 := Lib.hid ((P1.out.below (Below.refl wr.heap.size wr).drew).trans g2)
        clear h2 g2
        go_upto_region 6 with fail
        go_still_tail 13, (by kernel_rfl)
        change wpList _ _ _ _ _ wr.drew
        go_wp2_with fail
        go_roundw
        case rel => exact ⟨6 + 1, C1, by decide, by go_num, Lib.hid (by rw [HPK.out]; exact H2.out), Lib.hid P2.out⟩
        case measure => simp [intOf]
      · have e2 : (n == 28) = false := beq_eq_false_iff_ne.2 hd
        have hc2 : ¬ (n = 8 + 20 ∧ 1 < 6) := fun e => hd e.1
        clear hd
        have HPK := Lib.hid (penK_no s.now.pen n 6 8 rfl hc hc2)
        clear hc hc2
        go_wp2_with fail
        go_roundw
        case rel => exact ⟨6 + 1, C1, by decide, by go_num, Lib.hid (by rw [HPK.out]; exact H1.out), P1⟩
        case measure => simp [intOf]
    · have hix : ∀ wx, (Instr.index 114 (.agg #[.int .i64 1, .int .i64 2, .int .i64 3, .int .i64 4, .int .i64 5, .int .i64 7, .int .i64 8, .int .i64 9]) (.int .i64 7)).run Tryz.prog wx = .ok (.int .i64 9) wx := fun wx => ix8 7 (by decide) wx
      have c5 : wr.cell? ⟨p, 5, none⟩ = some (.int .i64 (penK s.now.pen n 7).attr) := H1.out.at_ 5 _
      have f5 := H1.out.fz 5
      have hwm : IntKind.i64.wrap 128 = 128 := wrap64_id _ (by decide) (by decide)
      by_cases hc : n = 9
      · have e1 : (n == 9) = true := beq_iff_eq.2 hc
        have e2 : (n == 29) = false := beq_eq_false_iff_ne.2 (by omega)
        have HPK := Lib.hid (penK_or s.now.pen n 7 9 128 rfl (by decide) hc)
        clear hc
        obtain ⟨h2, g2⟩ := (H1.out.below (Below.refl wr.heap.size wr).drew).set 5 (.int .i64 (bOr (penK s.now.pen n 7).attr 128)) (s.ink { penK s.now.pen n 7 with attr := bOr (penK s.now.pen n 7).attr 128 })
        have H2 := Lib.hid h2
        have P2 := Lib.hid ((P1.out.below (Below.refl wr.heap.size wr).drew).trans g2)
        clear h2 g2
        go_upto_region 4 with fail
        go_still_tail 13, (by kernel_rfl)
        change wpList _ _ _ _ _ wr.drew
        go_wp2_with fail
        go_roundw
        case rel => exact ⟨7 + 1, C1, by decide, by go_num, Lib.hid (by rw [HPK.out]; exact H2.out), Lib.hid P2.out⟩
        case measure => simp [intOf]
      have e1 : (n == 9) = false := beq_eq_false_iff_ne.2 hc
      by_cases hd : n = 29
      · have e2 : (n == 29) = true := beq_iff_eq.2 hd
        replace hc : n = 9 + 20 := hd
        clear hd
        have HPK := Lib.hid (penK_not s.now.pen n 7 9 128 rfl (by decide) hc (by decide))
        clear hc
        obtain ⟨h2, g2⟩ := (H1.out.below (Below.refl wr.heap.size wr).drew).set 5 (.int .i64 (bNot (penK s.now.pen n 7).attr 128)) (s.ink { penK s.now.pen n 7 with attr := bNot (penK s.now.pen n 7).attr 128 })
        have H2 := Lib.hid h2
        have P2 := Lib.hid ((P1.out.below (Below.refl wr.heap.size wr).drew).trans g2)
        clear h2 g2
        go_upto_region 6 with fail
        go_still_tail 13, (by kernel_rfl)
        change wpList _ _ _ _ _ wr.drew
        go_wp2_with fail
        go_roundw
        case rel => exact ⟨7 + 1, C1, by decide, by go_num, Lib.hid (by rw [HPK.out]; exact H2.out), Lib.hid P2.out⟩
        case measure => simp [intOf]
      · have e2 : (n == 29) = false := beq_eq_false_iff_ne.2 hd
        have hc2 : ¬ (n = 9 + 20 ∧ 1 < 7) := fun e => hd e.1
        clear hd
        have HPK := Lib.hid (penK_no s.now.pen n 7 9 rfl hc hc2)
        clear hc hc2
        go_wp2_with fail
        go_roundw
        case rel => exact ⟨7 + 1, C1, by decide, by go_num, Lib.hid (by rw [HPK.out]; exact H1.out), P1⟩
        case measure => simp [intOf]
    · have HD := Lib.hid (show Does B C p w wr (s.ink (look1 s.now.pen n)) ps by rw [HE.out]; exact ⟨C1, H1.out, P1.out⟩)
      go_wp2_with fail
      go_end0
      exact ⟨rfl, HD.out⟩
end Go.Proofs.YtlfdgkiliegaiaaGreatDoor

/- Walks of package screen: colours, looks. -/
namespace Go.Proofs.YtlfdgkiliegaiaaGreatDoor
open Go.RowKit
set_option maxRecDepth 100000

theorem wrapE (x : Int) : IntKind.i64.wrap x = wrap64 x := by rw [IntKind.wrap_i64]; unfold wrap64; rfl
/-- What a colour's function literal reads. -/
structure CIn (a : VAct) (v : Value) (A I i : Nat) (X : Nat → Int) (w : World) : Prop where
  hA : w.heap[A]? = some (.cells (a.cells v).toArray 75 (0, 0))
  hI : w.cell? ⟨I, 0, none⟩ = some (.int .i64 i)
  hr : IsRd .i64 w v a.params
  hX : ∀ k, X k = par a.params (i + k) 0
theorem CIn.below {a : VAct} {v : Value} {A I i : Nat} {X : Nat → Int} {w w' : World} (h : CIn a v A I i X w) (b : Below w.heap.size w w') : CIn a v A I i X w' :=
  ⟨blk_below h.hA b (heap_lt h.hA), cell_below b h.hI, isRd_below h.hr b, h.hX⟩
theorem at_any {a : VAct} {v : Value} {A I i : Nat} {X : Nat → Int} {w : World} (h : CIn a v A I i X w) (k : Nat) (hk : i + k ≤ 9223372036854775807) :
    Calls Tryz.prog 299 #[.int .i64 k, .pointer (some ⟨A, 0, none⟩), .pointer (some ⟨I, 0, none⟩)] w fun e w' => e = .returned (.int .i64 (X k)) ∧ Below w.heap.size w w' := by
  have HP := Lib.hid (param_any a v w h.hr (i + k) 0)
  have HX := Lib.hid (h.hX k)
  have a0 : w.cell? ⟨A, 0, none⟩ = some (.int .i64 a.kind) := blk_cell h.hA 0
  have a1 : w.cell? ⟨A, 1, none⟩ = some (.int .i32 a.rune) := blk_cell h.hA 1
  have a2 : w.cell? ⟨A, 2, none⟩ = some (.int .u8 (a.byte.toNat : Int)) := blk_cell h.hA 2
  have a3 : w.cell? ⟨A, 3, none⟩ = some v := blk_cell h.hA 3
  have a4 : w.cell? ⟨A, 4, none⟩ = some (.string a.inter) := blk_cell h.hA 4
  have a5 : w.cell? ⟨A, 5, none⟩ = some (.string a.text) := blk_cell h.hA 5
  have hI := h.hI
  have hw : IntKind.i64.wrap ((i : Int) + (k : Int)) = ((i + k : Nat) : Int) := by rw [wrap64_id _ (by omega) (by omega)]; omega
  clear h hk
  generalize i + k = j at *
  unfold VAct.val at HP
  go_enter Tryz.func299, Tryz.ntmps299
  go_wp2_with fail
  refine HP.out.mono ?_
  rintro e w2 ⟨rfl, b2⟩
  have HB := Lib.hid b2
  clear b2
  go_wp2_with fail
  go_ret
  exact ⟨ret_int HX.out.symm, HB.out⟩
set_option maxHeartbeats 1000000 in
theorem colour_any (a : VAct) (v : Value) (w : World) (hr : IsRd .i64 w v a.params) (i : Nat) (hi : i ≤ a.params.length) :
    Calls Tryz.prog 285 #[a.val v, .int .i64 i] w fun e w' => e = .returned (.tuple #[.int .i64 (colourP a.params i).1, .int .i64 ((colourP a.params i).2 : Nat)]) ∧ Below w.heap.size w w' := by
  have hlen := rd_len Tryz.underlying63 hr
  have hsm := rd_small hr
  have hbk := blk_alloc (blk_new w (.cells (a.cells v).toArray 75)) (.cells #[.int .i64 i] 3)
  have hbi := blk_new (w.alloc (.cells (a.cells v).toArray 75)) (.cells #[.int .i64 i] 3)
  have hsz : (w.alloc (.cells (a.cells v).toArray 75)).heap.size = w.heap.size + 1 := by simp
  rw [hsz] at hbi
  have HB := Lib.hid (((Below.refl w.heap.size w).alloc (Nat.le_refl _) (.cells (a.cells v).toArray 75)).alloc (by simp) (.cells #[.int .i64 i] 3))
  obtain ⟨X, hX⟩ : ∃ X : Nat → Int, X = fun k => par a.params (i + k) 0 := ⟨_, rfl⟩
  have HCI := Lib.hid (show CIn a v w.heap.size (w.heap.size + 1) i X ((w.alloc (.cells (a.cells v).toArray 75)).alloc (.cells #[.int .i64 i] 3)) from ⟨hbk, blk_cell hbi 0, isRd_below hr HB.out, fun k => by rw [hX]⟩)
  have HXR := Lib.hid (show ∀ k, 0 ≤ X k ∧ X k ≤ 9999 from fun k => by rw [hX]; exact par_range _ _ _ (by decide) (by decide))
  have HC := Lib.hid (show colourP a.params i = if i + 2 ≤ a.params.length ∧ X 0 = 5 ∧ X 1 ≤ 255 then (X 1, 2) else if i + 4 ≤ a.params.length ∧ X 0 = 2 ∧ max (max (X 1) (X 2)) (X 3) ≤ 255 then (16777216 + X 1 * 65536 + X 2 * 256 + X 3, 4) else (0, 0) by rw [hX]; rfl)
  have c3 : ((w.alloc (.cells (a.cells v).toArray 75)).alloc (.cells #[.int .i64 i] 3)).cell? ⟨w.heap.size, 3, none⟩ = some v := blk_cell hbk 3
  have ci : ((w.alloc (.cells (a.cells v).toArray 75)).alloc (.cells #[.int .i64 i] 3)).cell? ⟨w.heap.size + 1, 0, none⟩ = some (.int .i64 i) := blk_cell hbi 0
  have hwl : IntKind.i64.wrap ((a.params.length : Int) - i) = (a.params.length : Int) - i := wrap64_id _ (by omega) (by omega)
  have hmf : ∀ (fn : Fn) (first cap : Array Value) (w : World), (Instr.makeFunc fn first cap).run Tryz.prog w = .ok (.func fn first cap) w := fun _ _ _ _ => rfl
  clear hX hbk hbi hr hsz
  obtain ⟨n, hn⟩ : ∃ n, n = a.params.length := ⟨_, rfl⟩
  rw [← hn] at hlen hsm hi HC hwl
  have HN := Lib.hid hn
  clear hn
  unfold VAct.cells at HB HCI c3 ci
  unfold VAct.val
  go_enter Tryz.func285, Tryz.ntmps285
  go_upto_region 3 with fail
  clear c3 ci hwl hmf hlen
  generalize (w.alloc (.cells [Value.int IntKind.i64 a.kind, Value.int IntKind.i32 a.rune, Value.int IntKind.u8 (a.byte.toNat : Int), v, Value.string a.inter, Value.string a.text].toArray 75)).alloc (.cells #[.int .i64 i] 3) = w1 at *
  have HC1 := HCI
  have HB1 := HB
  clear HCI HB
  by_cases h2 : i + 2 ≤ n
  rotate_left
  · have d2 : decide (2 ≤ (n : Int) - (i : Int)) = false := decide_eq_false (by omega)
    have d4 : decide (4 ≤ (n : Int) - (i : Int)) = false := decide_eq_false (by omega)
    have HE := Lib.hid (show colourP a.params i = (0, 0) by rw [HC.out]; rw [if_neg (fun e => h2 e.1), if_neg (fun e => h2 (by omega))])
    go_wp2_with fail
    refine ret2w rfl rfl rfl rfl ⟨?_, HB1.out⟩
    rw [HE.out]
    rfl
  have d2 : decide (2 ≤ (n : Int) - (i : Int)) = true := decide_eq_true (by omega)
  go_wp2_with fail
  refine (at_any HC1.out 0 (by omega)).mono ?_
  rintro e w2 ⟨rfl, b2⟩
  have HC2 := Lib.hid (HC1.out.below b2)
  have HB2 := Lib.hid (HB1.out.trans (b2.mono HB1.out.size))
  clear b2
  by_cases h5 : X 0 = 5
  · have e5 : (X 0 == 5) = true := beq_iff_eq.2 h5
    have e2 : (X 0 == 2) = false := beq_eq_false_iff_ne.2 (by omega)
    have H5 := Lib.hid h5
    clear h5
    go_wp2_with fail
    refine (at_any HC2.out 1 (by omega)).mono ?_
    rintro e w3 ⟨rfl, b3⟩
    have HC3 := Lib.hid (HC2.out.below b3)
    have HB3 := Lib.hid (HB2.out.trans (b3.mono HB2.out.size))
    clear b3
    by_cases h255 : X 1 ≤ 255
    · have d255 : decide (X 1 ≤ 255) = true := decide_eq_true h255
      have HE := Lib.hid (show colourP a.params i = (X 1, 2) by rw [HC.out, if_pos ⟨h2, H5.out, h255⟩])
      clear h255
      go_wp2_with fail
      refine (at_any HC3.out 1 (by omega)).mono ?_
      rintro e w4 ⟨rfl, b4⟩
      have HC4 := Lib.hid (HC3.out.below b4)
      have HB4 := Lib.hid (HB3.out.trans (b4.mono HB3.out.size))
      clear b4
      go_wp2_with fail
      refine ret2w rfl rfl rfl rfl ⟨?_, HB4.out⟩
      rw [HE.out]
      rfl
    · have d255 : decide (X 1 ≤ 255) = false := decide_eq_false h255
      have HE := Lib.hid (show colourP a.params i = (0, 0) by rw [HC.out, if_neg (fun e => h255 e.2.2), if_neg (fun e => by have := H5.out; omega)])
      clear h255
      by_cases h4 : i + 4 ≤ n
      · have d4 : decide (4 ≤ (n : Int) - (i : Int)) = true := decide_eq_true (by omega)
        go_wp2_with fail
        refine (at_any HC3.out 0 (by omega)).mono ?_
        rintro e w4 ⟨rfl, b4⟩
        have HC4 := Lib.hid (HC3.out.below b4)
        have HB4 := Lib.hid (HB3.out.trans (b4.mono HB3.out.size))
        clear b4
        go_wp2_with fail
        refine ret2w rfl rfl rfl rfl ⟨?_, HB4.out⟩
        rw [HE.out]
        rfl
      · have d4 : decide (4 ≤ (n : Int) - (i : Int)) = false := decide_eq_false (by omega)
        go_wp2_with fail
        refine ret2w rfl rfl rfl rfl ⟨?_, HB3.out⟩
        rw [HE.out]
        rfl
  · have e5 : (X 0 == 5) = false := beq_eq_false_iff_ne.2 h5
    have H5 := Lib.hid h5
    clear h5
    by_cases h4 : i + 4 ≤ n
    rotate_left
    · have d4 : decide (4 ≤ (n : Int) - (i : Int)) = false := decide_eq_false (by omega)
      have HE := Lib.hid (show colourP a.params i = (0, 0) by rw [HC.out, if_neg (fun e => H5.out e.2.1), if_neg (fun e => h4 e.1)])
      go_wp2_with fail
      refine ret2w rfl rfl rfl rfl ⟨?_, HB2.out⟩
      rw [HE.out]
      rfl
    have d4 : decide (4 ≤ (n : Int) - (i : Int)) = true := decide_eq_true (by omega)
    go_wp2_with fail
    refine (at_any HC2.out 0 (by omega)).mono ?_
    rintro e w3 ⟨rfl, b3⟩
    have HC3 := Lib.hid (HC2.out.below b3)
    have HB3 := Lib.hid (HB2.out.trans (b3.mono HB2.out.size))
    clear b3
    by_cases hx2 : X 0 = 2
    rotate_left
    · have e2 : (X 0 == 2) = false := beq_eq_false_iff_ne.2 hx2
      have HE := Lib.hid (show colourP a.params i = (0, 0) by rw [HC.out, if_neg (fun e => H5.out e.2.1), if_neg (fun e => hx2 e.2.1)])
      clear hx2
      go_wp2_with fail
      refine ret2w rfl rfl rfl rfl ⟨?_, HB3.out⟩
      rw [HE.out]
      rfl
    have e2 : (X 0 == 2) = true := beq_iff_eq.2 hx2
    have H2 := Lib.hid hx2
    clear hx2
    go_wp2_with fail
    refine (at_any HC3.out 1 (by omega)).mono ?_
    rintro e w4 ⟨rfl, b4⟩
    have HC4 := Lib.hid (HC3.out.below b4)
    have HB4 := Lib.hid (HB3.out.trans (b4.mono HB3.out.size))
    clear b4
    go_wp2_with fail
    refine (at_any HC4.out 2 (by omega)).mono ?_
    rintro e w5 ⟨rfl, b5⟩
    have HC5 := Lib.hid (HC4.out.below b5)
    have HB5 := Lib.hid (HB4.out.trans (b5.mono HB4.out.size))
    clear b5
    go_wp2_with fail
    refine (at_any HC5.out 3 (by omega)).mono ?_
    rintro e w6 ⟨rfl, b6⟩
    have HC6 := Lib.hid (HC5.out.below b6)
    have HB6 := Lib.hid (HB5.out.trans (b6.mono HB5.out.size))
    clear b6
    obtain ⟨M, hM⟩ : ∃ M, M = max (max (X 1) (X 2)) (X 3) := ⟨_, rfl⟩
    have hmx : (if (if X 1 < X 2 then X 2 else X 1) < X 3 then X 3 else if X 1 < X 2 then X 2 else X 1) = M := by rw [hM]; repeat' split <;> omega
    rw [← hM] at HC
    have HM := Lib.hid hM
    clear hM
    by_cases hm : M ≤ 255
    rotate_left
    · have dm : decide (M ≤ 255) = false := decide_eq_false hm
      have HE := Lib.hid (show colourP a.params i = (0, 0) by rw [HC.out, if_neg (fun e => H5.out e.2.1), if_neg (fun e => hm e.2.2)])
      clear hm
      go_wp2_with fail
      refine ret2w rfl rfl rfl rfl ⟨?_, HB6.out⟩
      rw [HE.out]
      rfl
    have dm : decide (M ≤ 255) = true := decide_eq_true hm
    have HE := Lib.hid (show colourP a.params i = (16777216 + X 1 * 65536 + X 2 * 256 + X 3, 4) by rw [HC.out, if_neg (fun e => H5.out e.2.1), if_pos ⟨h4, H2.out, hm⟩])
    have HBB := Lib.hid (show (0 ≤ X 1 ∧ X 1 ≤ 255) ∧ (0 ≤ X 2 ∧ X 2 ≤ 255) ∧ (0 ≤ X 3 ∧ X 3 ≤ 255) from ⟨⟨(HXR.out 1).1, by have := HM.out; omega⟩, ⟨(HXR.out 2).1, by have := HM.out; omega⟩, ⟨(HXR.out 3).1, by have := HM.out; omega⟩⟩)
    clear hm
    go_wp2_with fail
    refine (at_any HC6.out 1 (by omega)).mono ?_
    rintro e w7 ⟨rfl, b7⟩
    have HC7 := Lib.hid (HC6.out.below b7)
    have HB7 := Lib.hid (HB6.out.trans (b7.mono HB6.out.size))
    clear b7
    go_wp2_with fail
    refine (at_any HC7.out 2 (by omega)).mono ?_
    rintro e w8 ⟨rfl, b8⟩
    have HC8 := Lib.hid (HC7.out.below b8)
    have HB8 := Lib.hid (HB7.out.trans (b8.mono HB7.out.size))
    clear b8
    go_wp2_with fail
    refine (at_any HC8.out 3 (by omega)).mono ?_
    rintro e w9 ⟨rfl, b9⟩
    have HC9 := Lib.hid (HC8.out.below b9)
    have HB9 := Lib.hid (HB8.out.trans (b9.mono HB8.out.size))
    clear b9
    obtain ⟨⟨l1, u1⟩, ⟨l2, u2⟩, ⟨l3, u3⟩⟩ := HBB.out
    have s1 : IntKind.i64.wrap (X 1 * 65536) = X 1 * 65536 := wrap64_id _ (by omega) (by omega)
    have s2 : IntKind.i64.wrap (16777216 + X 1 * 65536) = 16777216 + X 1 * 65536 := wrap64_id _ (by omega) (by omega)
    have s3 : IntKind.i64.wrap (X 2 * 256) = X 2 * 256 := wrap64_id _ (by omega) (by omega)
    have s4 : IntKind.i64.wrap (16777216 + X 1 * 65536 + X 2 * 256) = 16777216 + X 1 * 65536 + X 2 * 256 := wrap64_id _ (by omega) (by omega)
    have s5 : IntKind.i64.wrap (16777216 + X 1 * 65536 + X 2 * 256 + X 3) = 16777216 + X 1 * 65536 + X 2 * 256 + X 3 := wrap64_id _ (by omega) (by omega)
    clear l1 u1 l2 u2 l3 u3
    go_wp2_with fail
    refine ret2w rfl rfl rfl rfl ⟨?_, HB9.out⟩
    rw [HE.out]
    show Ending.returned (.tuple #[.int .i64 (wrap64 (wrap64 (wrap64 (16777216 + wrap64 (X 1 * 65536)) + wrap64 (X 2 * 256)) + X 3)), .int .i64 4]) = _
    rw [← wrapE, ← wrapE, ← wrapE, ← wrapE, ← wrapE, s1, s2, s3, s4, s5]
    rfl
/-- The pen behind some of the numbers. -/
theorem looksF_at {ps : List Int} {f i : Nat} {p : Sty} (hi : i < ps.length) : looksF ps (f + 1) i p =
    (if par ps i 0 = 38 ∨ par ps i 0 = 48 then
        if (colourP ps (i + 1)).2 = 0 then p
        else looksF ps f (i + 1 + (colourP ps (i + 1)).2) (if par ps i 0 = 38 then { p with fg := (colourP ps (i + 1)).1 } else { p with bg := (colourP ps (i + 1)).1 })
      else looksF ps f (i + 1) (look1 p (par ps i 0))) := by
  conv => lhs; unfold looksF
  rw [if_pos hi]
theorem looksF_end {ps : List Int} {f i : Nat} {p : Sty} (hi : ps.length ≤ i) : looksF ps f i p = p := by
  cases f with
  | zero => rfl
  | succ f => unfold looksF; rw [if_neg (by omega)]
theorem colourP_two (ps : List Int) (i : Nat) : ((colourP ps i).2 = 0 ∨ i + (colourP ps i).2 ≤ ps.length) ∧ (colourP ps i).2 ≤ 4 := by
  unfold colourP
  split
  · rename_i h; exact ⟨.inr h.1, (by decide : 2 ≤ 4)⟩
  · split
    · rename_i h; exact ⟨.inr h.1, (by decide : 4 ≤ 4)⟩
    · exact ⟨.inl rfl, by decide⟩
/-- Another's reading stays while a screen is turned. -/
structure Apart (C : Nat → Nat) (w : World) (v : Value) (l : List Int) : Prop where
  rd : IsRd .i64 w v l
  own : 0 < l.length → ∀ a n c, v = .slice (some a) n c → C a.block = 0
theorem cell_same {w w' : World} {a : Addr} (h : w'.heap[a.block]? = w.heap[a.block]?) : w'.cell? a = w.cell? a := by
  unfold World.cell?
  rw [h]
theorem Apart.next {C C' : Nat → Nat} {w w' : World} {v : Value} {l : List Int} (h : Apart C w v l) (g : Pre C w C' w') : Apart C' w' v l := by
  obtain ⟨hr, ho⟩ := h
  rcases hr with ⟨rfl, rfl⟩ | ⟨a, c, rfl, h1, h2, h3⟩
  · exact ⟨.inl ⟨rfl, rfl⟩, fun h0 => by simp at h0⟩
  · have key : 0 < l.length → C a.block = 0 ∧ a.block < w.heap.size := fun h0 => ⟨ho h0 a _ _ rfl, by have := cell_lt (h3 0 h0); rwa [addr_block] at this⟩
    refine ⟨.inr ⟨a, c, rfl, h1, h2, fun j hj => ?_⟩, fun h0 a' n' c' e => ?_⟩
    · obtain ⟨k1, k2⟩ := key (by omega)
      refine (cell_same ?_).trans (h3 j hj)
      rw [addr_block]
      exact g.wi.block _ k2 (fun e => by
        rcases e with e | e
        · exact e k1
        · omega)
    · injection e with e
      injection e with e
      subst e
      obtain ⟨k1, k2⟩ := key h0
      by_cases hc : C' a.block = 0
      · exact hc
      · rcases g.n _ hc with e | e
        · exact absurd k1 e
        · omega
theorem Apart.below {C : Nat → Nat} {w w' : World} {v : Value} {l : List Int} (h : Apart C w v l) (b : Below w.heap.size w w') : Apart C w' v l := h.next ((Pre.refl C w).below b)
end Go.Proofs.YtlfdgkiliegaiaaGreatDoor

/- Walks of package screen: looks. -/
namespace Go.Proofs.YtlfdgkiliegaiaaGreatDoor
open Go.RowKit
set_option maxRecDepth 100000

/-- An action that was handed over, in a block of the call's own. -/
structure Boxed (a : VAct) (v : Value) (A : Nat) (C : Nat → Nat) (w : World) : Prop where
  blk : w.heap[A]? = some (.cells (a.cells v).toArray 75 (0, 0))
  free : C A = 0
  ap : Apart C w v a.params
theorem Boxed.next {a : VAct} {v : Value} {A : Nat} {C C' : Nat → Nat} {w w' : World} (h : Boxed a v A C w) (g : Pre C w C' w') : Boxed a v A C' w' := by
  have hl := heap_lt h.blk
  refine ⟨(g.wi.block A hl (fun e => ?_)).trans h.blk, ?_, h.ap.next g⟩
  · rcases e with e | e
    · exact e h.free
    · omega
  · by_cases hc : C' A = 0
    · exact hc
    · rcases g.n _ hc with e | e
      · exact absurd h.free e
      · omega
theorem Boxed.below {a : VAct} {v : Value} {A : Nat} {C : Nat → Nat} {w w' : World} (h : Boxed a v A C w) (b : Below w.heap.size w w') : Boxed a v A C w' := h.next ((Pre.refl C w).below b)
theorem SR.free {B : World} {C : Nat → Nat} {p : Nat} {w : World} {s : Scr} {ps : PSt} (h : SR B C p w s ps) {k : Nat} (hk : w.heap.size ≤ k) : C k = 0 := by
  obtain ⟨Tm, To, Tp, pm, po, pp, vt, vo, hs⟩ := h.sm
  by_cases e : C k = 0
  · exact e
  · have := hs.lt k e; omega
theorem boxed_new {B : World} {C : Nat → Nat} {p : Nat} {w : World} {s : Scr} {ps : PSt} {a : VAct} {v : Value} (h : SR B C p w s ps) (hv : Apart C w v a.params) : Boxed a v w.heap.size C (w.alloc (.cells (a.cells v).toArray 75)) :=
  ⟨blk_new w _, h.free (Nat.le_refl _), hv.below ((Below.refl w.heap.size w).alloc (Nat.le_refl _) _)⟩
set_option maxHeartbeats 1000000 in
theorem looksS_any {B : World} {C : Nat → Nat} {p : Nat} {w : World} {s : Scr} {ps : PSt} (h : SR B C p w s ps) (a : VAct) (v : Value) (hv : Apart C w v a.params) :
    Calls Tryz.prog 235 #[.pointer (some ⟨p, 0, none⟩), a.val v] w fun e w' => e = .returned (.tuple #[]) ∧ Does B C p w w' (s.looks a.params) ps := by
  have hbx := boxed_new h hv
  have hbb := (Below.refl w.heap.size w).alloc (Nat.le_refl _) (.cells (a.cells v).toArray 75)
  unfold VAct.cells at hbb
  have HR := Lib.hid (h.below hbb)
  have HP := Lib.hid ((Pre.refl C w).below hbb)
  have HBX := Lib.hid hbx
  have hlen := rd_len Tryz.underlying63 hv.rd
  have hsm := Lib.hid (rd_small hv.rd)
  have HLK := Lib.hid (show s.looks a.params = s.ink (looksF a.params a.params.length 0 (if a.params = [] then plainS else s.now.pen)) from rfl)
  clear hbx hbb hv h
  unfold VAct.val
  obtain ⟨A, hA⟩ : ∃ A, A = w.heap.size := ⟨_, rfl⟩
  rw [← hA] at HBX
  have c3 : (w.alloc (.cells #[.int .i64 a.kind, .int .i32 a.rune, .int .u8 (a.byte.toNat : Int), v, .string a.inter, .string a.text] 75)).cell? ⟨w.heap.size, 3, none⟩ = some v := by rw [← hA]; exact blk_cell HBX.out.blk 3
  obtain ⟨L, hL⟩ : ∃ L, L = a.params.length := ⟨_, rfl⟩
  rw [← hL] at hlen hsm HLK
  have HL := Lib.hid hL
  clear hL
  go_enter Tryz.func235, Tryz.ntmps235
  go_upto_if 11 with fail
  have HBXB := Lib.hid (show Boxed a v A C (w.alloc (.cells #[.int .i64 a.kind, .int .i32 a.rune, .int .u8 (a.byte.toNat : Int), v, .string a.inter, .string a.text] 75)) from HBX.out)
  clear HBX
  rw [← hA]
  clear hA c3
  generalize (w.alloc (.cells #[.int .i64 a.kind, .int .i32 a.rune, .int .u8 (a.byte.toNat : Int), v, .string a.inter, .string a.text] 75)) = w1 at *
  go_cut [] (fun wz => ∃ (C1 : Nat → Nat) (t : Sty), Hid (SR B C1 p wz (s.ink t) ps) ∧ Hid (Boxed a v A C1 wz) ∧ Hid (Pre C w C1 wz) ∧ Hid (t = if a.params = [] then plainS else s.now.pen))
  case first =>
    by_cases h0 : L = 0
    · have e0 : ((L : Int) == 0) = true := beq_iff_eq.2 (by omega)
      have HE := Lib.hid (show plainS = if a.params = [] then plainS else s.now.pen by rw [if_pos (List.eq_nil_of_length_eq_zero (by rw [← HL.out]; exact h0))])
      clear h0
      go_wp2_with fail
      refine (plain_any w1).mono ?_
      rintro e w2 ⟨rfl, b2⟩
      obtain ⟨hst, h1, g1⟩ := (HR.out.below b2).setPen plainS
      have H1 := Lib.hid h1
      have P1 := Lib.hid ((HP.out.below b2).trans g1)
      have HB2 := Lib.hid ((HBXB.out.below b2).next g1)
      clear h1 g1 b2
      unfold Sty.val
      go_wp2_with (refine wpList_storeR rfl _ _ _ rfl hst rfl rfl ?_)
      go_meet
      exact ⟨C, plainS, H1, HB2, P1, HE⟩
    · have e0 : ((L : Int) == 0) = false := beq_eq_false_iff_ne.2 (by omega)
      have HE := Lib.hid (show s.now.pen = if a.params = [] then plainS else s.now.pen by rw [if_neg (fun e => h0 (by rw [HL.out, e]; rfl))])
      clear h0
      go_wp2_with fail
      go_meet
      exact ⟨C, s.now.pen, HR, HBXB, HP, HE⟩
  case rest =>
  obtain ⟨C1, t0, H1, HB1, P1, HT0⟩ := hcut
  obtain ⟨w2, rfl⟩ : ∃ z, z = wc := ⟨wc, rfl⟩
  clear HR HP HBXB
  have HLK2 := Lib.hid (show s.looks a.params = s.ink (looksF a.params L 0 t0) by rw [HLK.out, HT0.out])
  clear HLK HT0
  go_wp2_with fail
  go_loopw [4] (fun iv wr => ∃ (i f : Nat) (C2 : Nat → Nat) (t : Sty), iv = .int .i64 i ∧ i ≤ L ∧ Hid (L ≤ i + f) ∧ Hid (SR B C2 p wr (s.ink t) ps) ∧ Hid (Boxed a v A C2 wr) ∧ Hid (Pre C w C2 wr) ∧ Hid (looksF a.params f i t = looksF a.params L 0 t0)) (fun iv _ => L - (intOf iv).toNat)
  case atStart => exact ⟨0, L, C1, t0, rfl, Nat.zero_le _, Lib.hid (by omega), H1, HB1, P1, Lib.hid rfl⟩
  case round =>
    obtain ⟨i, f, C2, t, rfl, hi, HF, H2, HB2, P2, HQ⟩ := hrel
    have a0 : wr.cell? ⟨A, 0, none⟩ = some (.int .i64 a.kind) := blk_cell HB2.out.blk 0
    have a1 : wr.cell? ⟨A, 1, none⟩ = some (.int .i32 a.rune) := blk_cell HB2.out.blk 1
    have a2 : wr.cell? ⟨A, 2, none⟩ = some (.int .u8 (a.byte.toNat : Int)) := blk_cell HB2.out.blk 2
    have a3 : wr.cell? ⟨A, 3, none⟩ = some v := blk_cell HB2.out.blk 3
    have a4 : wr.cell? ⟨A, 4, none⟩ = some (.string a.inter) := blk_cell HB2.out.blk 4
    have a5 : wr.cell? ⟨A, 5, none⟩ = some (.string a.text) := blk_cell HB2.out.blk 5
    by_cases hlt : i < L
    rotate_left
    · have HD := Lib.hid (show Does B C p w wr (s.looks a.params) ps by
        rw [HLK2.out, ← HQ.out, looksF_end (by rw [← HL.out]; omega)]
        exact ⟨C2, H2.out, P2.out⟩)
      have d1 : decide ((i : Int) < (L : Int)) = false := decide_eq_false (by omega)
      have d1' : decide (i < L) = false := decide_eq_false hlt
      go_wp2_with fail
      go_end0
      exact ⟨rfl, HD.out⟩
    have d1 : decide ((i : Int) < (L : Int)) = true := decide_eq_true (by omega)
    have d1' : decide (i < L) = true := decide_eq_true hlt
    obtain ⟨f', rfl⟩ : ∃ f', f = f' + 1 := ⟨f - 1, by have := HF.out; omega⟩
    have HQ2 := Lib.hid ((looksF_at (f := f') (p := t) (show i < a.params.length by rw [← HL.out]; exact hlt)).symm.trans HQ.out)
    have HP0 := Lib.hid (param_any a v wr HB2.out.ap.rd i 0)
    have HRG := Lib.hid (par_range a.params i 0 (by decide) (by decide))
    unfold VAct.val at HP0
    clear HQ
    have hii : (i : Int) + 1 ≤ 9223372036854775807 := by have := hsm.out; omega
    have hw1 : IntKind.i64.wrap ((i : Int) + 1) = (i : Int) + 1 := wrap64_id _ (by omega) (by omega)
    clear hii
    go_wp2_with fail
    refine HP0.out.mono ?_
    rintro e w3 ⟨rfl, b3⟩
    have H3 := Lib.hid (H2.out.below b3)
    have HB3 := Lib.hid (HB2.out.below b3)
    have P3 := Lib.hid (P2.out.below b3)
    clear b3 a0 a1 a2 a3 a4 a5 H2 HB2 P2 HP0
    obtain ⟨n, hn⟩ : ∃ n, n = par a.params i 0 := ⟨_, rfl⟩
    rw [← hn] at HQ2 HRG ⊢
    have HN := Lib.hid hn
    clear hn
    by_cases hc : n = 38 ∨ n = 48
    rotate_left
    · have e38 : (n == 38) = false := beq_eq_false_iff_ne.2 (by omega)
      have e48 : (n == 48) = false := beq_eq_false_iff_ne.2 (by omega)
      have HQ3 := Lib.hid (HQ2.out.symm.trans (if_neg hc)).symm
      clear hc HQ2
      go_wp2_with fail
      refine (lookS_any H3.out n HRG.out.1 HRG.out.2).mono ?_
      rintro e w4 ⟨rfl, C4, h4, p4⟩
      have H4 := Lib.hid (show SR B C4 p w4 (s.ink (look1 t n)) ps from h4)
      have HB4 := Lib.hid (HB3.out.next p4)
      have P4 := Lib.hid (P3.out.trans p4)
      clear h4 p4
      go_wp2_with fail
      go_roundw
      case rel => exact ⟨i + 1, f', C4, look1 t n, by go_num, by omega, Lib.hid (by have := HF.out; omega), H4, HB4, P4, HQ3⟩
      case measure => simp [intOf]; omega
    have HQ3 := Lib.hid ((if_pos hc).symm.trans HQ2.out)
    clear HQ2
    have a0 : w3.cell? ⟨A, 0, none⟩ = some (.int .i64 a.kind) := blk_cell HB3.out.blk 0
    have a1 : w3.cell? ⟨A, 1, none⟩ = some (.int .i32 a.rune) := blk_cell HB3.out.blk 1
    have a2 : w3.cell? ⟨A, 2, none⟩ = some (.int .u8 (a.byte.toNat : Int)) := blk_cell HB3.out.blk 2
    have a3 : w3.cell? ⟨A, 3, none⟩ = some v := blk_cell HB3.out.blk 3
    have a4 : w3.cell? ⟨A, 4, none⟩ = some (.string a.inter) := blk_cell HB3.out.blk 4
    have a5 : w3.cell? ⟨A, 5, none⟩ = some (.string a.text) := blk_cell HB3.out.blk 5
    have HCO := Lib.hid (colour_any a v w3 HB3.out.ap.rd (i + 1) (by rw [← HL.out]; omega))
    unfold VAct.val at HCO
    have HTW := Lib.hid (colourP_two a.params (i + 1))
    rw [← HL.out] at HTW
    obtain ⟨cc, ct, hcc⟩ : ∃ cc ct, colourP a.params (i + 1) = (cc, ct) := ⟨_, _, rfl⟩
    rw [hcc] at HCO HTW HQ3
    clear hcc
    dsimp only at HCO HTW HQ3
    have hcast : (((i + 1 : Nat)) : Int) = (i : Int) + 1 := by omega
    rw [hcast] at HCO
    clear hcast
    have tailp : True := trivial
    have key38 : (n == 38) = true ∨ ((n == 38) = false ∧ (n == 48) = true) := by
      rcases hc with h | h
      · exact .inl (beq_iff_eq.2 h)
      · exact .inr ⟨beq_eq_false_iff_ne.2 (by omega), beq_iff_eq.2 h⟩
    clear hc
    by_cases hz : ct = 0
    · have e0 : ((ct : Int) == 0) = true := beq_iff_eq.2 (by omega)
      have HD := Lib.hid (show SR B C2 p w3 (s.ink t) ps ∧ s.looks a.params = s.ink t from ⟨H3.out, by rw [HLK2.out, ← HQ3.out, if_pos hz]⟩)
      clear hz
      rcases key38 with e38 | ⟨e38, e48⟩
      all_goals
        go_wp2_with fail
        refine HCO.out.mono ?_
        rintro e w4 ⟨rfl, b4⟩
        have HD4 := Lib.hid (show Does B C p w w4 (s.looks a.params) ps by rw [HD.out.2]; exact ⟨C2, HD.out.1.below b4, P3.out.below b4⟩)
        clear b4
        go_wp2_with fail
        refine ret0 rfl rfl ?_
        exact ⟨rfl, HD4.out⟩
    have e0 : ((ct : Int) == 0) = false := beq_eq_false_iff_ne.2 (by omega)
    have HT2 := Lib.hid (show i + 1 + ct ≤ L ∧ 1 ≤ ct ∧ ct ≤ 4 from ⟨by have := HTW.out; omega, by omega, HTW.out.2⟩)
    have HQ4 := Lib.hid ((if_neg hz).symm.trans HQ3.out)
    clear hz HQ3 HTW
    have hsm2 := hsm.out
    have ht2 := HT2.out
    have hw2 : IntKind.i64.wrap ((i : Int) + ct) = (i : Int) + ct := wrap64_id _ (by omega) (by omega)
    have hw3 : IntKind.i64.wrap ((i : Int) + ct + 1) = (i : Int) + ct + 1 := wrap64_id _ (by omega) (by omega)
    clear hsm2 ht2
    rcases key38 with e38 | ⟨e38, e48⟩
    · have HQ5 := Lib.hid (show looksF a.params f' (i + 1 + ct) { t with fg := cc } = looksF a.params L 0 t0 by
        have := HQ4.out
        rw [if_pos (beq_iff_eq.1 e38)] at this
        exact this)
      clear HQ4
      go_wp2_with fail
      refine HCO.out.mono ?_
      rintro e w4 ⟨rfl, b4⟩
      have h4 := H3.out.below b4
      have c3 := h4.at_ 3 (.int .i64 t.fg)
      have f3 := h4.fz 3
      obtain ⟨h5, g5⟩ := h4.set 3 (.int .i64 cc) (s.ink { t with fg := cc })
      have H5 := Lib.hid h5
      have P5 := Lib.hid ((P3.out.below b4).trans g5)
      have HB5 := Lib.hid ((HB3.out.below b4).next g5)
      clear b4 h4 h5 g5 HCO
      go_wp2_with fail
      go_roundw
      case rel => exact ⟨i + 1 + ct, f', C2, { t with fg := cc }, by go_num, by have := HT2.out; omega, Lib.hid (by have := HF.out; have := HT2.out; omega), H5, HB5, P5, HQ5⟩
      case measure => have := HT2.out; simp [intOf]; omega
    · have HQ5 := Lib.hid (show looksF a.params f' (i + 1 + ct) { t with bg := cc } = looksF a.params L 0 t0 by
        have := HQ4.out
        rw [if_neg (beq_eq_false_iff_ne.1 e38)] at this
        exact this)
      clear HQ4
      go_wp2_with fail
      refine HCO.out.mono ?_
      rintro e w4 ⟨rfl, b4⟩
      have h4 := H3.out.below b4
      have c4 := h4.at_ 4 (.int .i64 t.bg)
      have f4 := h4.fz 4
      obtain ⟨h5, g5⟩ := h4.set 4 (.int .i64 cc) (s.ink { t with bg := cc })
      have H5 := Lib.hid h5
      have P5 := Lib.hid ((P3.out.below b4).trans g5)
      have HB5 := Lib.hid ((HB3.out.below b4).next g5)
      clear b4 h4 h5 g5 HCO
      go_wp2_with fail
      go_roundw
      case rel => exact ⟨i + 1 + ct, f', C2, { t with bg := cc }, by go_num, by have := HT2.out; omega, Lib.hid (by have := HF.out; have := HT2.out; omega), H5, HB5, P5, HQ5⟩
      case measure => have := HT2.out; simp [intOf]; omega
end Go.Proofs.YtlfdgkiliegaiaaGreatDoor
