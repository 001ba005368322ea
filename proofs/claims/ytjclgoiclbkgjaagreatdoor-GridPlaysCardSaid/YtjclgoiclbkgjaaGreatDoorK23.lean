/- Package grid, texts laid together: N18 N19. -/
import Derived.Test.YtjclgoiclbkgjaaGreatDoorK22
import Derived.Test.YtjclgoiclbkgjaaGreatDoorK21
import Derived.Test.YtjclgoiclbkgjaaGreatDoorK7
import Derived.Deep.CutBlock
/- Walk of the document's grid: lines. -/
namespace Go.Proofs.YtjclgoiclbkgjaaGreatDoor
open Go.RowKit
attribute [local go_sem ↓] Go.wp_at_zero Go.wp_at_succ

def lnTrim (l : Ln) : Ln := ⟨trimM l.cells l.pl, l.pl, l.wrap⟩
theorem trim_step {α : Type} (f : α → α) (R A C : List α) (c : α) (n : Nat) (hn : A.length = n) (hl : n ≤ R.length) (h : A ++ c :: C = (R.take n).map f ++ R.drop n) : A ++ f c :: C = (R.take (n + 1)).map f ++ R.drop (n + 1) ∧ c ∈ R := by
  obtain ⟨h1, h2⟩ := List.append_inj h (by simp; omega)
  have e : R = R.take n ++ c :: C := by rw [h2]; exact (List.take_append_drop n R).symm
  have hk : (R.take n).length = n := by simp; omega
  have e2 : R.take (n + 1) = R.take n ++ [c] := by
    rw [List.take_add_one]
    congr 1
    have : R[n]? = (R.take n ++ c :: C)[n]? := by rw [← e]
    rw [this, List.getElem?_append_right (by omega), hk, Nat.sub_self]; rfl
  have e3 : R.drop (n + 1) = C := by
    rw [← List.drop_drop, ← h2]; rfl
  refine ⟨?_, by rw [e]; exact List.mem_append_right _ (List.mem_cons_self ..)⟩
  rw [e2, e3, List.map_append, ← h1]; simp
theorem split_at {α : Type} (L : List α) (i : Nat) (h : i < L.length) : ∃ A x C, L = A ++ x :: C ∧ A.length = i :=
  ⟨L.take i, L[i], L.drop (i + 1), by rw [← List.drop_eq_getElem_cons h, List.take_append_drop], by simp; omega⟩
theorem lnStep_bound (place atx : Int) (out : List Ln) (i B : Nat) (r : Rw) (hr : r.cells.length ≤ 250) (h : ∀ c ∈ out, c.cells.length ≤ B) : (lnStep place atx out i r).length ≤ out.length + 1 ∧ ∀ c ∈ lnStep place atx out i r, c.cells.length ≤ B + 250 := by
  have hb : (lnBase out).length ≤ out.length ∧ ∀ c ∈ lnBase out, c ∈ out := by
    unfold lnBase
    split
    · exact ⟨Nat.le_refl _, fun c hc => hc⟩
    · exact ⟨by rw [List.length_dropLast]; omega, fun c hc => List.dropLast_subset _ hc⟩
  have hl : (lnLast out).cells.length ≤ B := by
    unfold lnLast
    split
    · exact Nat.zero_le _
    · cases e : out.getLast? with
      | none => exact Nat.zero_le _
      | some c => exact h c (List.mem_of_getLast? e)
  unfold lnStep
  refine ⟨by rw [List.length_append]; simp; omega, fun c hc => ?_⟩
  rcases List.mem_append.1 hc with hc | hc
  · have := h c (hb.2 c hc); omega
  · rw [List.mem_singleton] at hc
    subst hc
    show ((lnLast out).cells ++ r.cells).length ≤ _
    rw [List.length_append]; omega
theorem lnRun_bound (place atx : Int) (rows : List Rw) (hr : ∀ r ∈ rows, r.cells.length ≤ 250) : ∀ (out : List Ln) (i B : Nat), (∀ c ∈ out, c.cells.length ≤ B) →
    (lnRun place atx out i rows).length ≤ out.length + rows.length ∧ ∀ c ∈ lnRun place atx out i rows, c.cells.length ≤ B + 250 * rows.length := by
  induction rows with
  | nil => intro out i B h; exact ⟨Nat.le_refl _, h⟩
  | cons r rows ih =>
    intro out i B h
    obtain ⟨h1, h2⟩ := lnStep_bound place atx out i B r (hr r (List.mem_cons_self ..)) h
    obtain ⟨h3, h4⟩ := ih (fun x hx => hr x (List.mem_cons_of_mem _ hx)) (lnStep place atx out i r) (i + 1) (B + 250) h2
    refine ⟨by show (lnRun _ _ _ _ rows).length ≤ _; rw [List.length_cons]; omega, fun c hc => ?_⟩
    have := h4 c hc
    rw [List.length_cons]; omega
theorem lnBegins_split {out : List Ln} (h : lnBegins out = false) : ∃ D c, out = D ++ [c] ∧ c.wrap = true := by
  rcases List.eq_nil_or_concat out with h1 | ⟨D, c, h1⟩
  · rw [h1] at h; exact absurd h (by decide)
  · rw [List.concat_eq_append] at h1
    subst h1
    rw [begins_snoc] at h
    exact ⟨D, c, rfl, by simpa using h⟩
theorem ownC_form {w : World} {base size n q : Nat} {v : Value} {xs : List Value} (h : OwnC w base size v n xs) (hq : v.ownBlock = some q) : ∃ off cap, v = .slice (some ⟨q, off, none⟩) n cap ∧ n ≤ cap ∧ cap ≤ maxLen := by
  rcases h.2 with ⟨hv, _⟩ | ⟨b, off, cap, hv, _, _, h1, h2, _⟩
  · rw [hv] at hq; simp [Value.ownBlock] at hq
  · rw [hv] at hq
    injection hq with hq
    subst hq
    exact ⟨off, cap, hv, h1, h2⟩
theorem LnAt.at {B : Nat} {w : World} {v lv : Value} {D : List (Value × Ln)} {c : Ln} {b off k : Nat} (h : LnAt B w v D lv c) (hv : v = .slice (some ⟨b, off, none⟩) (D.length + 1) k) :
    w.cell? ⟨b, off + D.length * 3, none⟩ = some lv ∧ w.frozen? ⟨b, off + D.length * 3, none⟩ = false ∧ w.cell? ⟨b, off + D.length * 3 + 1, none⟩ = some (.int .i64 c.pl) ∧ w.frozen? ⟨b, off + D.length * 3 + 1, none⟩ = false ∧
    w.cell? ⟨b, off + D.length * 3 + 2, none⟩ = some (.bool c.wrap) ∧ w.frozen? ⟨b, off + D.length * 3 + 2, none⟩ = false ∧ B ≤ b := by
  subst hv
  obtain ⟨b2, off2, k2, e, _, _, h1, h2, h3, h4, h5, h6, _, h7⟩ := h.cellsx
  simp only [Value.slice.injEq, Option.some.injEq, Addr.mk.injEq] at e
  obtain ⟨⟨rfl, rfl, _⟩, _, rfl⟩ := e
  exact ⟨h1, h2, h3, h4, h5, h6, h7⟩
theorem LnsAt.at {B : Nat} {w : World} {v lv : Value} {A C : List (Value × Ln)} {c : Ln} {b off n k : Nat} (h : LnsAt B w v (A ++ (lv, c) :: C)) (hn : n = (A ++ (lv, c) :: C).length) (hv : v = .slice (some ⟨b, off, none⟩) n k) :
    w.cell? ⟨b, off + A.length * 3, none⟩ = some lv ∧ w.frozen? ⟨b, off + A.length * 3, none⟩ = false ∧ w.cell? ⟨b, off + A.length * 3 + 1, none⟩ = some (.int .i64 c.pl) := by
  have ho := h.own
  rw [hv, ← hn] at ho
  have hl : (lnVals A).length = A.length * 3 := lnVals_len A
  have hnl : A.length + 1 ≤ n := by rw [hn]; simp
  obtain ⟨a1, a2⟩ := ownC_cellx ho (A.length * 3) (by omega)
  obtain ⟨a3, a4⟩ := ownC_cellx ho (A.length * 3 + 1) (by omega)
  rw [lnVals_mid, List.getElem?_append_right (by omega), hl, Nat.sub_self] at a1
  rw [lnVals_mid, List.getElem?_append_right (by omega), hl, show A.length * 3 + 1 - A.length * 3 = 1 by omega] at a3
  exact ⟨a1, a2, a3⟩
theorem lns_elem : Elem Tryz.prog 117 122 3 40 (.agg #[.slice none 0 0, .int .i64 0, .bool false]) := ⟨Tryz.underlying117, by kernel_rfl, rfl, by decide⟩
theorem ln_info : (Tryz.prog.info? 122).map (·.size) = some 3 := by kernel_rfl
theorem reads_ln (w : World) (v : Value) (x : Int) (b : Bool) (T : TypeId) : Reads (w.alloc (.cells #[v, .int .i64 x, .bool b] T)) 3 (.slice (some ⟨w.heap.size, 0, none⟩) 1 1) 1 [v, .int .i64 x, .bool b] := by
  refine .inr ⟨⟨w.heap.size, 0, none⟩, 1, rfl, rfl, fun j u hu => ?_⟩
  rw [add_eq, Nat.zero_add, World.cell?_alloc_new]
  simpa using hu
theorem ln_one (a : Option Addr) (n c : Nat) (x : Int) (b : Bool) : ∀ u ∈ [Value.slice a n c, .int .i64 x, Value.bool b], u.oneCell' = true := by
  intro u hu
  simp only [List.mem_cons, List.not_mem_nil, or_false] at hu
  rcases hu with rfl | rfl | rfl <;> rfl
set_option maxRecDepth 100000 in
set_option maxHeartbeats 8000000 in
theorem linesD_any (La : List (Value × Rw)) (vA : Value) (y x : Int) (cols : Nat) (w : World) (hA : OwnC w 0 2 vA La.length (rowVals La)) (hC : ∀ r ∈ La, OwnC w 0 5 r.1 r.2.cells.length (cvals r.2.cells)) (hcol : ∀ r ∈ La, r.2.cells.length = cols)
    (h1 : 1 ≤ cols) (h2 : cols ≤ 250) (hl : La.length ≤ 2120) (hx : 0 ≤ x ∧ x ≤ 250) :
    Calls Tryz.prog 86 #[vA, .int .i64 y, .int .i64 x] w fun e w' => ∃ v L, e = .returned v ∧ Below w.heap.size w w' ∧ LnsAt w.heap.size w' v L ∧ L.map (·.2) = (lnRun y x [] 0 (La.map (·.2))).map lnTrim := by
  have HA := Lib.hid hA
  have HC := Lib.hid hC
  have HCO := Lib.hid hcol
  have HBD := Lib.hid (lnRun_bound y x (La.map (·.2)) (fun r hr => by obtain ⟨z, hz, rfl⟩ := List.mem_map.1 hr; have := hcol z hz; omega) [] 0 0 (by simp))
  have HBK := Lib.hid (fun k => lnRun_bound y x ((La.take k).map (·.2)) (fun r hr => by obtain ⟨z, hz, rfl⟩ := List.mem_map.1 hr; have := hcol z (List.mem_of_mem_take hz); omega) [] 0 0 (by simp))
  obtain ⟨aa, ak, rfl⟩ := ownC_sl hA
  have hlnA := ownC_ln Tryz.underlying62 hA
  clear hA hC hcol
  go_enter Tryz.func86, Tryz.ntmps86
  go_upto_region 4 with fail
  go_loopw [7, 8, 9] (fun vO vB iv wr => ∃ (k : Nat) (L : List (Value × Ln)), k ≤ La.length ∧ iv = .int .i64 k ∧ vB = .bool (lnBegins (lnRun y x [] 0 ((La.take k).map (·.2)))) ∧ Hid (Below w.heap.size w wr) ∧ Hid (LnsAt w.heap.size wr vO L) ∧
    Hid (L.map (·.2) = lnRun y x [] 0 ((La.take k).map (·.2)))) (fun _ _ iv _ => La.length - (intOf iv).toNat)
  case atStart => exact ⟨0, [], Nat.zero_le _, rfl, rfl, Below.refl _ _, lnsAt_nil _ _, rfl⟩
  case round =>
    obtain ⟨k, L, hk, rfl, rfl, HB, HS, HM⟩ := hrel
    by_cases hlt : k < La.length
    ·
      obtain ⟨ab, ao, ak2, e2, _, _⟩ := ownC_pos HA.out (by omega)
      simp only [Value.slice.injEq] at e2
      obtain ⟨e3, _, e4⟩ := e2
      subst e3 e4
      have HAX := Lib.hid (fun wx (bx : Below w.heap.size w wx) => ownC_row2 (ownC_below HA.out bx) k hlt)
      have hix := idx_at (P := Tryz.prog) (size := 2) Tryz.underlying62 rowD_info ab ao La.length ak k hlt
      have HXO := Lib.hid (HC.out La[k] (List.getElem_mem hlt))
      have HXL := Lib.hid (HCO.out La[k] (List.getElem_mem hlt))
      have hab : ab < w.heap.size := (ownC_lt HA.out ab rfl).2
      have HTK := Lib.hid (show (La.take (k + 1)).map (·.2) = (La.take k).map (·.2) ++ [La[k].2] by rw [List.take_succ_eq_append_getElem hlt, List.map_append]; rfl)
      generalize La[k] = r at *
      obtain ⟨rv, rr⟩ := r
      have HAX := Lib.hid (show ∀ wx, Below w.heap.size w wx → wx.cell? ⟨ab, ao + k * 2, none⟩ = some rv ∧ wx.cell? ⟨ab, ao + k * 2 + 1, none⟩ = some (.bool rr.wrap) from HAX.out)
      have HTK := Lib.hid (show (La.take (k + 1)).map (·.2) = (La.take k).map (·.2) ++ [rr] from HTK.out)
      have HXO := Lib.hid (show OwnC w 0 5 rv rr.cells.length (cvals rr.cells) from HXO.out)
      have hrl : rr.cells.length = cols := HXL.out
      obtain ⟨xa, xc, rfl⟩ := ownC_sl HXO.out
      have HST := Lib.hid (show lnRun y x [] 0 ((La.take (k + 1)).map (·.2)) = lnStep y x (lnRun y x [] 0 ((La.take k).map (·.2))) k rr by
        rw [HTK.out, lnRun_snoc, List.length_map, List.length_take, Nat.min_eq_left (by omega), Nat.zero_add])
      have HKB := Lib.hid (show (lnRun y x [] 0 ((La.take k).map (·.2))).length ≤ k ∧ ∀ c ∈ lnRun y x [] 0 ((La.take k).map (·.2)), c.cells.length ≤ 250 * k by
        have := HBK.out k
        rw [List.length_map, List.length_take, Nat.min_eq_left (by omega), List.length_nil, Nat.zero_add, Nat.zero_add] at this
        exact this)
      generalize lnRun y x [] 0 ((La.take k).map (·.2)) = R at *
      have HLR := Lib.hid (show L.length = R.length by rw [← HM.out, List.length_map])
      have hLk : L.length ≤ 2120 := by have := HLR.out; have := HKB.out.1; omega
      have HRL := Lib.hid hrl
      have hrb : rr.cells.length ≤ 250 := by omega
      have hrb1 : 1 ≤ rr.cells.length := by omega
      clear hrl
      have d1 : decide ((k : Int) < (La.length : Int)) = true := decide_eq_true (by omega)
      have d1' : decide (k < La.length) = true := decide_eq_true hlt
      obtain ⟨oa, ok, rfl⟩ := ownC_sl HS.out.own
      go_upto_region 6 with fail
      generalize hbg : lnBegins R = bg at *
      have HBG := Lib.hid hbg
      clear hbg
      go_upto_if 20 with fail
      go_cut [7] (fun v1 wx => ∃ (D : List (Value × Ln)) (lv : Value) (c : Ln), Hid (Below w.heap.size w wx) ∧ Hid (LnAt w.heap.size wx v1 D lv c) ∧ Hid (D.map (·.2) = lnBase R ∧ c = lnLast R) ∧ Hid (D.length ≤ k ∧ c.cells.length ≤ 250 * k))
      case first =>
        cases bg
        · have HSP := Lib.hid (lnBegins_split HBG.out)
          go_wp2_with fail
          go_meet
          obtain ⟨D0, c, hR, hcw⟩ := HSP.out
          obtain ⟨D, lx, hL, hD, hc⟩ : ∃ D lx, L = D ++ [lx] ∧ D.map (·.2) = D0 ∧ lx.2 = c := by
            have hm := HM.out
            rw [hR] at hm
            rcases List.eq_nil_or_concat L with h1 | ⟨D, lx, h1⟩
            · rw [h1] at hm; simp at hm
            · rw [List.concat_eq_append] at h1
              subst h1
              rw [List.map_append] at hm
              obtain ⟨h2, h3⟩ := List.append_inj' hm rfl
              exact ⟨D, lx, rfl, h2, by simpa using h3⟩
          obtain ⟨lv, c'⟩ := lx
          subst hc hL
          refine ⟨D, lv, c', HB, HS.out.last, ⟨?_, ?_⟩, ?_⟩
          · rw [hR, base_snoc, if_neg (by rw [hcw]; decide)]; exact hD
          · rw [hR, last_snoc, if_neg (by rw [hcw]; decide)]
          · refine ⟨?_, HKB.out.2 c' (by rw [hR]; exact List.mem_append_right _ (List.mem_singleton.2 rfl))⟩
            have h5 := HLR.out
            have h6 := HKB.out.1
            rw [List.length_append] at h5
            omega
        · have HB6 := Lib.hid ((Below.refl wr.heap.size wr).alloc (Nat.le_refl _) (.cells #[.slice none 0 0, .int .i64 (-1), .bool false] 122))
          go_wp2_with (at_builtin; refine held ?_)
          unfold Held
          refine wpList_appD lns_elem rfl rfl w.heap.size (HS.out.below HB6.out).own rfl (reads_ln wr _ _ _ _) rfl (ln_one _ _ _ _ _) (by unfold maxLen; omega) (by omega) (by have := HB.out.size; have := HB6.out.size; omega) ?_
          intro v7 w7 o7 g7 n7
          have HL7 := Lib.hid (LnAt.start HS.out HB6.out o7 g7 n7)
          have HB7 := Lib.hid (show Below w.heap.size wr w7 from (HB6.out.mono HB.out.size).grown g7 (by have := HB.out.size; have := HB6.out.size; omega) (fun q hq => (ownC_lt HS.out.own q hq).1))
          clear o7 g7 n7
          go_wp2_with fail
          go_meet
          refine ⟨L, _, ln0, HB.out.trans HB7.out, HL7, ⟨?_, ?_⟩, ?_⟩
          · unfold lnBase; rw [if_pos HBG.out]; exact HM.out
          · unfold lnLast; rw [if_pos HBG.out]
          · have h5 := HLR.out
            have h6 := HKB.out.1
            exact ⟨by omega, Nat.zero_le _⟩
      case rest =>
      obtain ⟨D, lv, c, HBx, HLx, HDC, HDB⟩ := hcut
      obtain ⟨wa, rfl⟩ : ∃ w0, w0 = wc := ⟨wc, rfl⟩
      obtain ⟨b, off, n3, rfl, hd1, hd2⟩ := ownC_pos HLx.out.own (by omega)
      obtain ⟨la, lc, rfl⟩ := ownC_sl HLx.out.last
      obtain ⟨n1, hn1⟩ : ∃ n1, n1 = D.length + 1 := ⟨_, rfl⟩
      rw [← hn1] at HLx hd1 ⊢
      have HN1 := Lib.hid hn1
      have hv : Value.slice (some ⟨b, off, none⟩) n1 n3 = .slice (some ⟨b, off, none⟩) (D.length + 1) n3 := by rw [hn1]
      have HV := Lib.hid hv
      have hdb := HDB.out
      have hn1b : D.length < n1 ∧ n1 ≤ 2121 := by omega
      have hw1 : IntKind.i64.wrap ((n1 : Int) - 1) = (D.length : Int) := by rw [wrap64_id _ (by omega) (by omega)]; omega
      clear hn1 hv
      have hix2 := idx_at (P := Tryz.prog) (size := 3) Tryz.underlying117 ln_info b off n1 n3 D.length hn1b.1
      obtain ⟨s0, f0, s1, f1, s2, f2, hbB⟩ := HLx.out.at HV.out
      obtain ⟨z0, z1⟩ := HAX.out wa HBx.out
      have hlc := ownC_ln Tryz.underlying42 HLx.out.last
      have hw2 : IntKind.i64.wrap ((c.cells.length : Int) + x) = (c.cells.length : Int) + x := wrap64_id _ (by omega) (by omega)
      go_upto_region 9 with fail
      go_cut [32] (fun v wx => (∃ f, v = .bool f ∧ Hid (f = true ↔ (k : Int) = y)) ∧ wx = wa)
      case first =>
        by_cases h2 : (k : Int) = y
        · have t3 : ((k : Int) == y) = true := beq_iff_eq.2 h2
          have t4 : decide ((k : Int) = y) = true := decide_eq_true h2
          have HH2 := Lib.hid h2
          clear h2
          go_wp2_with fail
          go_meet
          exact ⟨⟨true, rfl, iff_of_true rfl HH2.out⟩, rfl⟩
        · have t3 : ((k : Int) == y) = false := beq_eq_false_iff_ne.2 h2
          have t4 : decide ((k : Int) = y) = false := decide_eq_false h2
          have HH2 := Lib.hid h2
          clear h2
          go_wp2_with fail
          go_meet
          exact ⟨⟨false, rfl, iff_of_false (by decide) HH2.out⟩, rfl⟩
      case rest =>
      obtain ⟨⟨f, rfl, HF⟩, rfl⟩ := hcut
      obtain ⟨wa, rfl⟩ : ∃ w0, w0 = wc := ⟨wc, rfl⟩
      go_upto_if 32 with fail
      go_cut [10] (fun pv wx => pv = .pointer (some ⟨b, off + D.length * 3, none⟩) ∧ ∃ mk : Int, Hid (mk = if (k : Int) = y then (c.cells.length : Int) + x else c.pl) ∧ Hid (Below w.heap.size w wx) ∧ Hid (LnAt w.heap.size wx (.slice (some ⟨b, off, none⟩) n1 n3) D (.slice la c.cells.length lc) ⟨c.cells, mk, c.wrap⟩))
      case first =>
        cases f
        · have HN := Lib.hid (show ¬ ((k : Int) = y) from fun e => absurd (HF.out.2 e) (by decide))
          go_wp2_with fail
          go_meet
          exact ⟨rfl, c.pl, by show _ = _; rw [if_neg HN.out], HBx, HLx⟩
        · have HN := Lib.hid (HF.out.1 rfl)
          have HP := Lib.hid (HLx.out.place HV.out ((c.cells.length : Int) + x))
          have HBP := Lib.hid (HBx.out.grown (gb_set (gb_refl wa (some b)) (off + D.length * 3 + 1) (.int .i64 ((c.cells.length : Int) + x))) HBx.out.size (fun q hq => by injection hq with hq; omega))
          go_wp2_with fail
          go_meet
          exact ⟨rfl, _, by show _ = _; rw [if_pos HN.out], HBP, HP⟩
      case rest =>
      obtain ⟨rfl, mk, HMK, HBx, HLx⟩ := hcut
      obtain ⟨wa, rfl⟩ : ∃ w0, w0 = wc := ⟨wc, rfl⟩
      clear s0 f0 s1 f1 s2 f2 hbB z0 z1 hw1 hw2 hix2 HF
      obtain ⟨s0, f0, s1, f1, s2, f2, hbB⟩ := HLx.out.at HV.out
      obtain ⟨z0, z1⟩ := HAX.out wa HBx.out
      have HXA := Lib.hid (show OwnC wa 0 5 (.slice xa rr.cells.length xc) rr.cells.length (cvals rr.cells) from ownC_below HXO.out HBx.out)
      have hbl : b < wa.heap.size := (ownC_lt HLx.out.own b rfl).2
      have hszw : w.heap.size ≤ wa.heap.size := HBx.out.size
      have HDR := Lib.hid ((Below.refl wa.heap.size wa).drew)
      clear s1 f1 s2 f2 z1
      go_upto_region 11 with fail
      refine wpL_begin (c := 13) (S := (fun bb w' => w'.cell? ⟨ab, ao + k * 2, none⟩ = some (.slice xa rr.cells.length xc) ∧ (bb = false → w'.cell? ⟨b, off + D.length * 3, none⟩ = some (.slice la c.cells.length lc)))) (by kernel_rfl) (⟨z0, fun _ => s0⟩) (fun _ => ?_)
      refine wpL_tk false 0 (⟨z0, fun _ => s0⟩) ?_
      refine wpL_tk false 1 (⟨z0, fun _ => s0⟩) ?_
      refine wpL_tk false 2 (⟨z0, fun _ => s0⟩) ?_
      refine wpL_tk false 3 (⟨z0, fun _ => s0⟩) ?_
      refine wpL_td 4 (⟨z0, fun _ => s0⟩) ?_
      refine wpL_tk false 5 (⟨z0, fun _ => s0⟩) ?_
      refine wpL_tk false 6 (⟨z0, fun _ => s0⟩) ?_
      refine wpL_tk false 7 (⟨z0, fun _ => s0⟩) ?_
      refine wpL_tk false 8 (⟨z0, fun _ => s0⟩) ?_
      refine wpL_tk false 9 (⟨z0, fun _ => s0⟩) ?_
      refine wpL_on false 10 fun K hK => ?_
      apply step_appS cells_elem
      case hgd => rfl
      case ho => rfl
      case hown => exact ownC_below HLx.out.last HDR.out
      case hs => rfl
      case hr => exact src_reads Tryz.underlying42 (ownC_reads (ownC_below HXA.out HDR.out)) (cvals_one _)
      case hx => rfl
      case h63 => (unfold maxLen; have := HDB.out; dsimp only; omega)
      case hbytes => (have := HDB.out; dsimp only; omega)
      case hbase => exact hszw
      intro v7 w7 o7 g7 n7
      have HP := Lib.hid (HLx.out.push HV.out HDR.out (cs := rr.cells) o7 g7 n7)
      have hne7 : (Value.slice la c.cells.length lc).ownBlock ≠ some b := fun e => HLx.out.apl b e rfl
      have hna7 : (Value.slice la c.cells.length lc).ownBlock ≠ some ab := fun e => by have := (ownC_lt HLx.out.last ab e).1; omega
      have z07 : w7.cell? ⟨ab, ao + k * 2, none⟩ = some (.slice xa rr.cells.length xc) := cell_grown g7 z0 hna7
      have s07 : w7.cell? ⟨b, off + D.length * 3, none⟩ = some (.slice la c.cells.length lc) := cell_grown g7 s0 hne7
      have f07 : w7.frozen? ⟨b, off + D.length * 3, none⟩ = false := frozen_grown g7 f0 hbl hne7
      have HB7 := Lib.hid ((HBx.out.drew).grown g7 HBx.out.size (fun q hq => (ownC_lt HLx.out.last q hq).1))
      obtain ⟨a7, c7, rfl⟩ := ownC_sl o7
      have g8 := gb_set (gb_refl w7 (some b)) (off + D.length * 3) (.slice a7 (c.cells.length + rr.cells.length) c7)
      have HB8 := Lib.hid (HB7.out.grown g8 HB7.out.size (fun q hq => by injection hq with hq; omega))
      have z08 := cell_grown g8 z07 (fun e => by injection e with e; omega)
      clear o7 g7 n7 g8 hne7 hna7
      refine hK.out _ _ (⟨z07, fun _ => s07⟩) (fun _ => ?_)
      clear hK K 
      try simp only [Act.put, List.setIfInBounds_toArray, List.set_cons_zero, List.set_cons_succ]
      refine wpL_tk false 11 (⟨z07, fun _ => s07⟩) ?_
      refine wpL_tk false 12 (⟨z07, fun _ => s07⟩) ?_
      refine wpL_on true 13 fun K hK => ?_
      refine wanted_on rfl ?_
      go_wp2_with fail
      refine hK.out _ _ (⟨z08, fun e => by cases e⟩) (fun _ => ?_)
      clear hK K 
      try simp only [Act.put]
      refine wpL_done (by kernel_rfl) ?_ _
      clear s0 f0 z0 s07 f07 z07 z08 HB7
      generalize w7.setCell ⟨b, off + D.length * 3, none⟩ (.slice a7 (c.cells.length + rr.cells.length) c7) = w8 at *
      obtain ⟨s0, f0, s1, f1, s2, f2, _⟩ := HP.out.at HV.out
      obtain ⟨z0, z1⟩ := HAX.out w8 HB8.out
      have HP9 := Lib.hid (HP.out.mark HV.out rr.wrap)
      have HB9 := Lib.hid (HB8.out.grown (gb_set (gb_refl w8 (some b)) (off + D.length * 3 + 2) (.bool rr.wrap)) HB8.out.size (fun q hq => by injection hq with hq; omega))
      go_upto_region 13 with fail
      clear s0 f0 s1 f1 s2 f2 z0 z1
      generalize w8.setCell ⟨b, off + D.length * 3 + 2, none⟩ (.bool rr.wrap) = w9 at *
      obtain ⟨z0, z1⟩ := HAX.out w9 HB9.out
      obtain ⟨q0, o0, c0, hq0, _, _⟩ := ownC_pos HP9.out.last (by show 0 < (c.cells ++ rr.cells).length; rw [List.length_append]; omega)
      have HQ := Lib.hid (show (Value.slice a7 (c.cells.length + rr.cells.length) c7).ownBlock = some q0 by rw [hq0]; rfl)
      clear hq0
      have HEN := Lib.hid (show (D ++ [((Value.slice a7 (c.cells.length + rr.cells.length) c7), (⟨c.cells ++ rr.cells, mk, rr.wrap⟩ : Ln))]).map (·.2) = lnStep y x R k rr by
        unfold lnStep
        rw [List.map_append, HDC.out.1, ← HDC.out.2, HMK.out]; rfl)
      have HBN := Lib.hid (show lnBegins (lnStep y x R k rr) = !rr.wrap by rw [← HEN.out, List.map_append]; exact begins_snoc _ _)
      go_wp2_with fail
      go_roundw
      case rel => exact ⟨k + 1, _, by omega, by go_num, by rw [HST.out, HBN.out], HB9, HP9.out.lns HQ.out, by show _ = _; rw [HST.out]; exact HEN.out⟩
      case measure => simp [intOf]; omega
    ·
      have hkn : k = La.length := by omega
      subst hkn
      have d1 : decide ((La.length : Int) < (La.length : Int)) = false := decide_eq_false (by omega)
      have d1' : decide (La.length < La.length) = false := decide_eq_false (by omega)
      generalize lnBegins (lnRun y x [] 0 ((La.take La.length).map (·.2))) = bgv
      rw [List.take_length] at HM
      have HLR := Lib.hid (show L.length = (lnRun y x [] 0 (La.map (·.2))).length by rw [← HM.out, List.length_map])
      have HRB := Lib.hid HBD.out
      generalize hRR : lnRun y x [] 0 (La.map (·.2)) = R at *
      have HRE := Lib.hid hRR
      clear hRR
      have hLb : L.length ≤ 2120 := by
        have h5 := HLR.out
        have h6 := HRB.out.1
        rw [List.length_map] at h6
        simp at h6
        omega
      have HRC := Lib.hid (show ∀ c ∈ R, c.cells.length ≤ 530000 from fun c hc => by
        have h6 := HRB.out.2 c hc
        rw [List.length_map] at h6
        omega)
      obtain ⟨oa, ok, rfl⟩ := ownC_sl HS.out.own
      have hly := ownC_ln Tryz.underlying117 HS.out.own
      go_upto_region 15 with fail
      go_loopw [11] (fun iv wt => ∃ (i : Nat) (L2 : List (Value × Ln)), i ≤ L.length ∧ iv = .int .i64 i ∧ Hid (Below w.heap.size w wt) ∧ Hid (LnsAt w.heap.size wt (.slice oa L.length ok) L2) ∧ Hid (L2.map (·.2) = (R.take i).map lnTrim ++ R.drop i)) (fun iv _ => L.length - (intOf iv).toNat)
      case atStart => exact ⟨0, L, Nat.zero_le _, rfl, HB, HS, by show _ = _; rw [HM.out]; rfl⟩
      case round =>
        obtain ⟨i, L2, hi, rfl, HB2, HS2, HM2⟩ := hrel
        obtain ⟨wt, rfl⟩ : ∃ w0, w0 = wr := ⟨wr, rfl⟩
        have HL2 := Lib.hid (show L2.length = L.length by
          have := congrArg List.length HM2.out
          rw [List.length_map, List.length_append, List.length_map, List.length_take, List.length_drop, ← HLR.out] at this
          omega)
        by_cases hlt2 : i < L.length
        · obtain ⟨A, lx, C, hLA, hAi⟩ := split_at L2 i (by have := HL2.out; omega)
          subst hLA
          obtain ⟨lv, c⟩ := lx
          have HTS := Lib.hid (trim_step lnTrim R (A.map (·.2)) (C.map (·.2)) c i (by rw [List.length_map]; exact hAi) (by have := HLR.out; omega) (by have := HM2.out; rw [List.map_append] at this; exact this))
          have hcb : c.cells.length ≤ 530000 := HRC.out c HTS.out.2
          subst hAi
          have hmem : (lv, c) ∈ A ++ (lv, c) :: C := List.mem_append_right _ (List.mem_cons_self ..)
          obtain ⟨q, hq, hqv⟩ := HS2.out.ap (lv, c) hmem
          obtain ⟨lo, lk, e3, hlk1, hlk2⟩ := ownC_form (HS2.out.cells (lv, c) hmem) hq
          dsimp only at e3 hlk1
          subst e3
          have HCO2 := Lib.hid (show OwnC wt w.heap.size 5 (.slice (some ⟨q, lo, none⟩) c.cells.length lk) c.cells.length (cvals c.cells) from HS2.out.cells _ hmem)
          have HLL := Lib.hid (show L.length = (A ++ (Value.slice (some ⟨q, lo, none⟩) c.cells.length lk, c) :: C).length from HL2.out.symm)
          have hown := HS2.out.own
          rw [← HLL.out] at hown
          obtain ⟨b, off, n3, e4, _, _⟩ := ownC_pos hown (by omega)
          simp only [Value.slice.injEq] at e4
          obtain ⟨e5, _, e6⟩ := e4
          subst e5 e6
          have hbB : w.heap.size ≤ b ∧ b < wt.heap.size := ownC_lt hown b rfl
          have hqB : w.heap.size ≤ q ∧ q < wt.heap.size := ownC_lt HCO2.out q rfl
          clear hown hmem hq hqv
          obtain ⟨s0, f0, s1⟩ := HS2.out.at HLL.out rfl
          have hix2 := idx_at (P := Tryz.prog) (size := 3) Tryz.underlying117 ln_info b off L.length ok A.length hlt2
          have d2 : decide ((A.length : Int) < (L.length : Int)) = true := decide_eq_true (by omega)
          have d2' : decide (A.length < L.length) = true := decide_eq_true hlt2
          go_upto_block 4 with fail
          go_cut [13] (fun nv wx => ∃ m : Nat, m ≤ c.cells.length ∧ nv = .int .i64 m ∧ Hid (c.cells.take m = trimM c.cells c.pl) ∧ Hid (Below wt.heap.size wt wx))
          case first =>
            go_upto_region 19 with fail
            go_loopw [13] (fun nv wu => ∃ m : Nat, m ≤ c.cells.length ∧ nv = .int .i64 m ∧ Hid (trimM (c.cells.take m) c.pl = trimM c.cells c.pl) ∧ Hid (Below wt.heap.size wt wu)) (fun nv _ => (intOf nv).toNat)
            case atStart => exact ⟨c.cells.length, Nat.le_refl _, rfl, by show _ = _; rw [List.take_length], Below.refl _ _⟩
            case round =>
              obtain ⟨m, hm, rfl, HT, HBu⟩ := hrel
              obtain ⟨wu, rfl⟩ : ∃ w0, w0 = wr := ⟨wr, rfl⟩
              have u0 := cell_below HBu.out s0
              have u1 := cell_below HBu.out s1
              by_cases hm0 : m = 0
              · subst hm0
                have HE := Lib.hid (show c.cells.take 0 = trimM c.cells c.pl by rw [← HT.out]; rfl)
                have HBD2 := Lib.hid (HBu.out.drew)
                go_upto_region 19 with fail
                refine wpL_begin (c := 99) (S := (fun bb w' => True ∧ (bb = false → True))) (by kernel_rfl) (⟨trivial, fun _ => trivial⟩) (fun _ => ?_)
                refine wpL_tk false 0 (⟨trivial, fun _ => trivial⟩) ?_
                refine wpL_tk false 1 (⟨trivial, fun _ => trivial⟩) ?_
                refine wpL_tk false 2 (⟨trivial, fun _ => trivial⟩) ?_
                refine wpL_un false 3 (⟨trivial, fun _ => trivial⟩) ?_
                refine wpL_un false 4 (⟨trivial, fun _ => trivial⟩) ?_
                refine wpL_un false 5 (⟨trivial, fun _ => trivial⟩) ?_
                refine wpL_un false 6 (⟨trivial, fun _ => trivial⟩) ?_
                refine wpL_un false 7 (⟨trivial, fun _ => trivial⟩) ?_
                refine wpL_un false 8 (⟨trivial, fun _ => trivial⟩) ?_
                refine wpL_un false 9 (⟨trivial, fun _ => trivial⟩) ?_
                refine wpL_tk false 10 (⟨trivial, fun _ => trivial⟩) ?_
                refine wpL_tk false 11 (⟨trivial, fun _ => trivial⟩) ?_
                refine wpL_un false 12 (⟨trivial, fun _ => trivial⟩) ?_
                refine wpL_un false 13 (⟨trivial, fun _ => trivial⟩) ?_
                refine wpL_un false 14 (⟨trivial, fun _ => trivial⟩) ?_
                refine wpL_un false 15 (⟨trivial, fun _ => trivial⟩) ?_
                refine wpL_un false 16 (⟨trivial, fun _ => trivial⟩) ?_
                refine wpL_un false 17 (⟨trivial, fun _ => trivial⟩) ?_
                refine wpL_un false 18 (⟨trivial, fun _ => trivial⟩) ?_
                refine wpL_un false 19 (⟨trivial, fun _ => trivial⟩) ?_
                refine wpL_un false 20 (⟨trivial, fun _ => trivial⟩) ?_
                refine wpL_un false 21 (⟨trivial, fun _ => trivial⟩) ?_
                refine wpL_un false 22 (⟨trivial, fun _ => trivial⟩) ?_
                refine wpL_tk false 23 (⟨trivial, fun _ => trivial⟩) ?_
                refine wpL_done (by kernel_rfl) ?_ _
                go_wp2_with fail
                go_meet
                exact ⟨0, Nat.zero_le _, rfl, HE, HBD2⟩
              · obtain ⟨m', hm'⟩ : ∃ m', m = m' + 1 := ⟨m - 1, by omega⟩
                have hw5 : IntKind.i64.wrap ((m : Int) - 1) = (m' : Int) := by rw [wrap64_id _ (by omega) (by omega)]; omega
                have d3 : decide (0 < (m : Int)) = true := decide_eq_true (by omega)
                have d3' : decide (0 < m) = true := decide_eq_true (by omega)
                have hml : m' < c.cells.length ∧ m' + 1 = m := by omega
                have HTM := Lib.hid (trimM_at c.cells c.pl m' hml.1)
                have HM1 := Lib.hid hm'
                clear hm'
                by_cases hpl : c.pl < (m' : Int)
                · have d4 : decide (c.pl < (m' : Int)) = true := decide_eq_true hpl
                  have hixc := idx_at (P := Tryz.prog) (size := 5) Tryz.underlying42 cell_info q lo c.cells.length lk m' hml.1
                  have HAT := Lib.hid (fun wx (bx : Below wt.heap.size wt wx) => ownC_cel (ownC_below HCO2.out bx) m' hml.1 rfl)
                  generalize c.cells.getD m' noC = cc at *
                  obtain ⟨cr, cw, ⟨cf, cb, ca⟩⟩ := cc
                  have HAT := Lib.hid (show ∀ wx, Below wt.heap.size wt wx → wx.cell? ⟨q, lo + m' * 5, none⟩ = some (.int .i32 cr) ∧ wx.cell? ⟨q, lo + m' * 5 + 1, none⟩ = some (.int .i64 cw) ∧ wx.cell? ⟨q, lo + m' * 5 + 2, none⟩ = some (.int .i64 cf) ∧ wx.cell? ⟨q, lo + m' * 5 + 3, none⟩ = some (.int .i64 cb) ∧ wx.cell? ⟨q, lo + m' * 5 + 4, none⟩ = some (.int .i64 ca) from HAT.out)
                  obtain ⟨q0, q1, q2, q3, q4⟩ := HAT.out wu HBu.out
                  have hq : ∀ wx, (binOp .eql 38 (.agg #[.int .i32 cr, .int .i64 cw, .int .i64 cf, .int .i64 cb, .int .i64 ca]) (blankC plainS).val).run Tryz.prog wx = .ok (.bool (isPlain ⟨cr, cw, ⟨cf, cb, ca⟩⟩)) wx := fun wx => eql_cel ⟨cr, cw, ⟨cf, cb, ca⟩⟩ (blankC plainS) wx
                  have hgd : ∀ x y wx, (eqGuard .eql 38 x y (.agg #[.int .i32 cr, .int .i64 cw, .int .i64 cf, .int .i64 cb, .int .i64 ca]) (blankC plainS).val).run Tryz.prog wx = .ok () wx := fun x y wx => guard_cel .eql x y ⟨cr, cw, ⟨cf, cb, ca⟩⟩ (blankC plainS) wx
                  go_upto_region 19 with fail
                  refine wpL_begin (c := 99) (S := (fun bb w' => (w'.cell? ⟨b, off + A.length * 3, none⟩ = some (.slice (some ⟨q, lo, none⟩) c.cells.length lk) ∧ w'.cell? ⟨b, off + A.length * 3 + 1, none⟩ = some (.int .i64 c.pl) ∧ w'.cell? ⟨q, lo + m' * 5, none⟩ = some (.int .i32 cr) ∧ w'.cell? ⟨q, lo + m' * 5 + 1, none⟩ = some (.int .i64 cw) ∧ w'.cell? ⟨q, lo + m' * 5 + 2, none⟩ = some (.int .i64 cf) ∧ w'.cell? ⟨q, lo + m' * 5 + 3, none⟩ = some (.int .i64 cb) ∧ w'.cell? ⟨q, lo + m' * 5 + 4, none⟩ = some (.int .i64 ca)) ∧ (bb = false → True))) (by kernel_rfl) (⟨⟨u0, u1, q0, q1, q2, q3, q4⟩, fun _ => trivial⟩) (fun _ => ?_)
                  refine wpL_tk false 0 (⟨⟨u0, u1, q0, q1, q2, q3, q4⟩, fun _ => trivial⟩) ?_
                  refine wpL_tk false 1 (⟨⟨u0, u1, q0, q1, q2, q3, q4⟩, fun _ => trivial⟩) ?_
                  refine wpL_tk false 2 (⟨⟨u0, u1, q0, q1, q2, q3, q4⟩, fun _ => trivial⟩) ?_
                  refine wpL_tk false 3 (⟨⟨u0, u1, q0, q1, q2, q3, q4⟩, fun _ => trivial⟩) ?_
                  refine wpL_tk false 4 (⟨⟨u0, u1, q0, q1, q2, q3, q4⟩, fun _ => trivial⟩) ?_
                  refine wpL_tk false 5 (⟨⟨u0, u1, q0, q1, q2, q3, q4⟩, fun _ => trivial⟩) ?_
                  refine wpL_tk false 6 (⟨⟨u0, u1, q0, q1, q2, q3, q4⟩, fun _ => trivial⟩) ?_
                  refine wpL_tk false 7 (⟨⟨u0, u1, q0, q1, q2, q3, q4⟩, fun _ => trivial⟩) ?_
                  refine wpL_tk false 8 (⟨⟨u0, u1, q0, q1, q2, q3, q4⟩, fun _ => trivial⟩) ?_
                  refine wpL_tk false 9 (⟨⟨u0, u1, q0, q1, q2, q3, q4⟩, fun _ => trivial⟩) ?_
                  refine wpL_tk false 10 (⟨⟨u0, u1, q0, q1, q2, q3, q4⟩, fun _ => trivial⟩) ?_
                  refine wpL_tk false 11 (⟨⟨u0, u1, q0, q1, q2, q3, q4⟩, fun _ => trivial⟩) ?_
                  refine wpL_tk false 12 (⟨⟨u0, u1, q0, q1, q2, q3, q4⟩, fun _ => trivial⟩) ?_
                  refine wpL_tk false 13 (⟨⟨u0, u1, q0, q1, q2, q3, q4⟩, fun _ => trivial⟩) ?_
                  refine wpL_tk false 14 (⟨⟨u0, u1, q0, q1, q2, q3, q4⟩, fun _ => trivial⟩) ?_
                  refine wpL_tk false 15 (⟨⟨u0, u1, q0, q1, q2, q3, q4⟩, fun _ => trivial⟩) ?_
                  refine wpL_tk false 16 (⟨⟨u0, u1, q0, q1, q2, q3, q4⟩, fun _ => trivial⟩) ?_
                  refine wpL_tk false 17 (⟨⟨u0, u1, q0, q1, q2, q3, q4⟩, fun _ => trivial⟩) ?_
                  refine wpL_tk false 18 (⟨⟨u0, u1, q0, q1, q2, q3, q4⟩, fun _ => trivial⟩) ?_
                  refine wpL_tk false 19 (⟨⟨u0, u1, q0, q1, q2, q3, q4⟩, fun _ => trivial⟩) ?_
                  refine wpL_on false 20 fun K hK => ?_
                  refine wanted_yes rfl ?_
                  go_wp2_with fail
                  refine (refPlain_any _).mono ?_
                  rintro e w5 ⟨rfl, b5⟩
                  have HB5 := Lib.hid (show Below wu.heap.size wu w5 from ((Below.refl wu.heap.size wu).drew).trans b5)
                  have hs5 := HAT.out w5 (HBu.out.trans (HB5.out.mono HBu.out.size))
                  have v0 := cell_below HB5.out u0
                  have v1 := cell_below HB5.out u1
                  clear b5
                  refine hK.out _ _ (⟨⟨v0, v1, hs5⟩, fun _ => trivial⟩) (fun _ => ?_)
                  clear hK K 
                  try simp only [Act.put, List.setIfInBounds_toArray, List.set_cons_zero, List.set_cons_succ]
                  refine wpL_on false 21 fun K hK => ?_
                  refine wanted_yes rfl ?_
                  go_wp2_with fail
                  refine (blankD_any plainS _).mono ?_
                  rintro e w6 ⟨rfl, b6⟩
                  have HB6 := Lib.hid (show Below wu.heap.size wu w6 from HB5.out.trans (b6.mono HB5.out.size))
                  have hs6 := HAT.out w6 (HBu.out.trans (HB6.out.mono HBu.out.size))
                  have t0 := cell_below HB6.out u0
                  have t1 := cell_below HB6.out u1
                  clear b6
                  refine hK.out _ _ (⟨⟨t0, t1, hs6⟩, fun _ => trivial⟩) (fun _ => ?_)
                  clear hK K 
                  try simp only [Act.put, List.setIfInBounds_toArray, List.set_cons_zero, List.set_cons_succ]
                  refine wpL_tk false 22 (⟨⟨t0, t1, hs6⟩, fun _ => trivial⟩) ?_
                  refine wpL_tk false 23 (⟨⟨t0, t1, hs6⟩, fun _ => trivial⟩) ?_
                  refine wpL_done (by kernel_rfl) ?_ _
                  clear u0 u1 q0 q1 q2 q3 q4 hs5 hs6 v0 v1 t0 t1 hq hgd
                  have HBU6 := Lib.hid (HBu.out.trans (HB6.out.mono HBu.out.size))
                  generalize hip : isPlain ⟨cr, cw, ⟨cf, cb, ca⟩⟩ = ip at *
                  have HIP := Lib.hid hip
                  clear hip
                  cases ip
                  · have HE := Lib.hid (show c.cells.take m = trimM c.cells c.pl by
                      rw [← HT.out, HM1.out, HTM.out, if_neg (fun e => absurd e.2 (by decide))])
                    go_wp2_with fail
                    go_meet
                    exact ⟨m, hm, rfl, HE, HBU6⟩
                  · have HE := Lib.hid (show trimM (c.cells.take m') c.pl = trimM c.cells c.pl by
                      rw [← HT.out, HM1.out, HTM.out, if_pos ⟨hpl, rfl⟩])
                    go_wp2_with fail
                    go_roundw
                    case rel => exact ⟨m', by omega, by go_num, HE, HBU6⟩
                    case measure => simp [intOf]; omega
                · have d4 : decide (c.pl < (m' : Int)) = false := decide_eq_false hpl
                  have HE := Lib.hid (show c.cells.take m = trimM c.cells c.pl by rw [← HT.out, HM1.out, HTM.out, if_neg (fun e => hpl e.1)])
                  have HBD2 := Lib.hid (HBu.out.drew)
                  clear HTM HM1
                  go_upto_region 19 with fail
                  refine wpL_begin (c := 99) (S := (fun bb w' => w'.cell? ⟨b, off + A.length * 3 + 1, none⟩ = some (.int .i64 c.pl) ∧ (bb = false → True))) (by kernel_rfl) (⟨u1, fun _ => trivial⟩) (fun _ => ?_)
                  refine wpL_tk false 0 (⟨u1, fun _ => trivial⟩) ?_
                  refine wpL_tk false 1 (⟨u1, fun _ => trivial⟩) ?_
                  refine wpL_tk false 2 (⟨u1, fun _ => trivial⟩) ?_
                  refine wpL_tk false 3 (⟨u1, fun _ => trivial⟩) ?_
                  refine wpL_tk false 4 (⟨u1, fun _ => trivial⟩) ?_
                  refine wpL_tk false 5 (⟨u1, fun _ => trivial⟩) ?_
                  refine wpL_tk false 6 (⟨u1, fun _ => trivial⟩) ?_
                  refine wpL_tk false 7 (⟨u1, fun _ => trivial⟩) ?_
                  refine wpL_tk false 8 (⟨u1, fun _ => trivial⟩) ?_
                  refine wpL_tk false 9 (⟨u1, fun _ => trivial⟩) ?_
                  refine wpL_tk false 10 (⟨u1, fun _ => trivial⟩) ?_
                  refine wpL_tk false 11 (⟨u1, fun _ => trivial⟩) ?_
                  refine wpL_un false 12 (⟨u1, fun _ => trivial⟩) ?_
                  refine wpL_un false 13 (⟨u1, fun _ => trivial⟩) ?_
                  refine wpL_un false 14 (⟨u1, fun _ => trivial⟩) ?_
                  refine wpL_un false 15 (⟨u1, fun _ => trivial⟩) ?_
                  refine wpL_un false 16 (⟨u1, fun _ => trivial⟩) ?_
                  refine wpL_un false 17 (⟨u1, fun _ => trivial⟩) ?_
                  refine wpL_un false 18 (⟨u1, fun _ => trivial⟩) ?_
                  refine wpL_un false 19 (⟨u1, fun _ => trivial⟩) ?_
                  refine wpL_un false 20 (⟨u1, fun _ => trivial⟩) ?_
                  refine wpL_un false 21 (⟨u1, fun _ => trivial⟩) ?_
                  refine wpL_un false 22 (⟨u1, fun _ => trivial⟩) ?_
                  refine wpL_tk false 23 (⟨u1, fun _ => trivial⟩) ?_
                  refine wpL_done (by kernel_rfl) ?_ _
                  go_wp2_with fail
                  go_meet
                  exact ⟨m, hm, rfl, HE, HBD2⟩
          case rest =>
          obtain ⟨m, hm, rfl, HE, HBv⟩ := hcut
          obtain ⟨wv, rfl⟩ : ∃ w0, w0 = wc := ⟨wc, rfl⟩
          have HSv := Lib.hid (HS2.out.below HBv.out)
          have HCv := Lib.hid (ownC_below HCO2.out HBv.out)
          clear s0 f0 s1
          obtain ⟨s0, f0, s1⟩ := HSv.out.at HLL.out rfl
          have hsl := slice_h (P := Tryz.prog) (size := 5) Tryz.underlying42 cell_info (some ⟨q, lo, none⟩) c.cells.length lk m (by omega)
          have HTR := Lib.hid (HSv.out.trim (lv' := .slice (some ⟨q, lo, none⟩) m lk) (c' := lnTrim c) HLL.out rfl rfl rfl rfl rfl (by
            show OwnC wv w.heap.size 5 _ (trimM c.cells c.pl).length (cvals (trimM c.cells c.pl))
            rw [← HE.out, List.length_take, Nat.min_eq_left hm, ← cvals_take]
            exact ownC_pre HCv.out m hm))
          have HBw := Lib.hid ((HB2.out.trans (HBv.out.mono HB2.out.size)).grown (gb_set (gb_refl wv (some b)) (off + A.length * 3) (.slice (some ⟨q, lo, none⟩) m lk)) (by have := HB2.out.size; have := HBv.out.size; omega) (fun q hq => by injection hq with hq; omega))
          go_wp2_with fail
          go_roundw
          case rel => exact ⟨A.length + 1, _, by omega, by go_num, HBw, HTR, by show _ = _; rw [List.map_append, List.map_cons]; exact HTS.out.1⟩
          case measure => simp [intOf]; omega
        · have hin : i = L.length := by omega
          subst hin
          have d2 : decide ((L.length : Int) < (L.length : Int)) = false := decide_eq_false (by omega)
          have d2' : decide (L.length < L.length) = false := decide_eq_false (by omega)
          have HE := Lib.hid (show L2.map (·.2) = R.map lnTrim by rw [HM2.out, HLR.out, List.take_length, List.drop_length, List.append_nil])
          go_wp2_with fail
          exact ret1v rfl rfl rfl ⟨_, L2, rfl, HB2.out, HS2.out, HE.out.trans (by rw [HRE.out])⟩
end Go.Proofs.YtjclgoiclbkgjaaGreatDoor

/- Walk of the document's grid: flow; plain laws, the state in memory. -/
namespace Go.Proofs.YtjclgoiclbkgjaaGreatDoor
open Go.RowKit

def lnTot (l : List Ln) : Nat := (l.map fun c => c.cells.length + 1).sum
theorem lnTot_append (l m : List Ln) : lnTot (l ++ m) = lnTot l + lnTot m := by unfold lnTot; rw [List.map_append, List.sum_append]
theorem lnTot_len (R : List Ln) : R.length ≤ lnTot R := by
  induction R with
  | nil => exact Nat.zero_le _
  | cons c R ih =>
    have e : lnTot (c :: R) = c.cells.length + 1 + lnTot R := by
      show lnTot ([c] ++ R) = _
      rw [lnTot_append]; rfl
    rw [e, List.length_cons]; omega
theorem lnTot_one (c : Ln) : lnTot [c] = c.cells.length + 1 := by simp [lnTot]
theorem lnStep_tot (place atx : Int) (out : List Ln) (i : Nat) (r : Rw) : lnTot (lnStep place atx out i r) ≤ lnTot out + r.cells.length + 1 := by
  unfold lnStep
  rw [lnTot_append, lnTot_one]
  show lnTot (lnBase out) + (((lnLast out).cells ++ r.cells).length + 1) ≤ _
  rw [List.length_append]
  cases h : lnBegins out
  · obtain ⟨D, c, rfl, hc⟩ := lnBegins_split h
    rw [base_snoc, last_snoc, if_neg (by rw [hc]; decide), if_neg (by rw [hc]; decide), lnTot_append, lnTot_one]
    omega
  · unfold lnBase lnLast
    rw [if_pos h, if_pos h]
    show lnTot out + (([] : List Cel).length + r.cells.length + 1) ≤ _
    simp; omega
theorem lnRun_tot (place atx : Int) (rows : List Rw) (hr : ∀ r ∈ rows, r.cells.length ≤ 250) : ∀ (out : List Ln) (i : Nat), lnTot (lnRun place atx out i rows) ≤ lnTot out + 251 * rows.length := by
  induction rows with
  | nil => intro out i; exact Nat.le_add_right _ _
  | cons r rows ih =>
    intro out i
    have h1 := lnStep_tot place atx out i r
    have h2 := ih (fun x hx => hr x (List.mem_cons_of_mem _ hx)) (lnStep place atx out i r) (i + 1)
    have h3 := hr r (List.mem_cons_self ..)
    show lnTot (lnRun place atx (lnStep place atx out i r) (i + 1) rows) ≤ _
    rw [List.length_cons]; omega
theorem lnStep_all (P : Cel → Prop) (place atx : Int) (out : List Ln) (i : Nat) (r : Rw) (hr : ∀ c ∈ r.cells, P c) (h : ∀ l ∈ out, ∀ c ∈ l.cells, P c) : ∀ l ∈ lnStep place atx out i r, ∀ c ∈ l.cells, P c := by
  have hb : ∀ c ∈ lnBase out, c ∈ out := by
    unfold lnBase
    split
    · exact fun c hc => hc
    · exact fun c hc => List.dropLast_subset _ hc
  have hl : ∀ c ∈ (lnLast out).cells, P c := by
    unfold lnLast
    split
    · intro c hc; exact absurd hc (by simp [ln0])
    · cases e : out.getLast? with
      | none => intro c hc; exact absurd hc (by simp [ln0])
      | some l => exact h l (List.mem_of_getLast? e)
  intro l hl2 c hc
  unfold lnStep at hl2
  rcases List.mem_append.1 hl2 with hl2 | hl2
  · exact h l (hb l hl2) c hc
  · rw [List.mem_singleton] at hl2
    subst hl2
    rcases List.mem_append.1 hc with hc | hc
    · exact hl c hc
    · exact hr c hc
theorem lnRun_all2 (P : Cel → Prop) (place atx : Int) (rows : List Rw) (hr : ∀ r ∈ rows, ∀ c ∈ r.cells, P c) : ∀ (out : List Ln) (i : Nat), (∀ l ∈ out, ∀ c ∈ l.cells, P c) → ∀ l ∈ lnRun place atx out i rows, ∀ c ∈ l.cells, P c := by
  induction rows with
  | nil => intro out i h; exact h
  | cons r rows ih =>
    intro out i h
    exact ih (fun x hx => hr x (List.mem_cons_of_mem _ hx)) _ (i + 1) (lnStep_all P place atx out i r (hr r (List.mem_cons_self ..)) h)
theorem fold_i {cols : Nat} (h1 : 1 ≤ cols) (L : List Ln) (hl : ∀ l ∈ L, ∀ c ∈ l.cells, c.Ok) : ∀ st, FlI cols st → FlI cols (L.foldl (flLn cols) st) ∧ (L.foldl (flLn cols) st).out.length ≤ st.out.length + lnTot L := by
  induction L with
  | nil => intro st h; exact ⟨h, Nat.le_add_right _ _⟩
  | cons l L ih =>
    intro st h
    obtain ⟨a, b, _, _⟩ := flEnd_i h l.cells l.pl l.wrap (hl l (List.mem_cons_self ..)) h1
    obtain ⟨a2, b2⟩ := ih (fun x hx => hl x (List.mem_cons_of_mem _ hx)) (flLn cols st l) a
    refine ⟨a2, ?_⟩
    show (L.foldl (flLn cols) (flLn cols st l)).out.length ≤ _
    have e : lnTot (l :: L) = l.cells.length + 1 + lnTot L := by
      show lnTot ([l] ++ L) = _
      rw [lnTot_append, lnTot_one]
    have h3 : (flLn cols st l).out.length ≤ st.out.length + l.cells.length + 1 := b
    omega
theorem fold_take {α β : Type} (f : β → α → β) (L : List α) (st : β) (k : Nat) (h : k < L.length) : (L.take (k + 1)).foldl f st = f ((L.take k).foldl f st) L[k] := by
  rw [List.take_succ_eq_append_getElem h, List.foldl_append]; rfl
theorem lnTot_take (L : List Ln) (k : Nat) : lnTot (L.take k) ≤ lnTot L := by
  have := lnTot_append (L.take k) (L.drop k)
  rw [List.take_append_drop] at this
  omega
/-- A line has been split and laid behind the others. -/
theorem FlS.lineD {w5 : World} {pb : Nat} {wr wx w8 : World} {vO v2 v3 : Value} {L L2 : List (Value × Rw)} {st : Fl} (h : FlS w5 pb wr vO L st) (hpb : pb < w5.heap.size) (g : wr.grownBy wx (some pb)) (h2 : RowsAt wr.heap.size wx v2 L2)
    (cols : Nat) (l : Ln) (e2 : L2.map (·.2) = wrapLast (spEnd cols (splitG (trimM l.cells l.pl) cols l.pl)) l.wrap)
    (hk : wx.heap[pb]? = some (.cells #[.int .i64 (tellX (splitG (trimM l.cells l.pl) cols l.pl).told st.px), .int .i64 (tellY (splitG (trimM l.cells l.pl) cols l.pl).told st.py st.out.length)] 51 (0, 0)))
    (o3 : OwnC w8 w5.heap.size 2 v3 (L.length + L2.length) (rowVals L ++ rowVals L2)) (g3 : wx.grownBy w8 vO.ownBlock) (hn : ∀ k, v3.ownBlock = some k → vO.ownBlock = some k ∨ wx.heap.size ≤ k) :
    FlS w5 pb w8 v3 (L ++ L2) (flLn cols st l) := by
  have hs := h.gb.size
  have hv : ∀ q, vO.ownBlock = some q → w5.heap.size ≤ q := fun q hq => (ownC_lt h.ro.own q hq).1
  have h8 := h.ro.append g hpb h2 hs o3 g3 hn
  refine ⟨gb_trans_new (gb_trans h.gb g) g3 hv, ?_, h8, ?_⟩
  · have hm : tellX (splitG (trimM l.cells l.pl) cols l.pl).told st.px = (flLn cols st l).px ∧ tellY (splitG (trimM l.cells l.pl) cols l.pl).told st.py st.out.length = (flLn cols st l).py := ⟨rfl, rfl⟩
    rw [← hm.1, ← hm.2]
    exact blk_grown hk g3 (fun e => by have := hv pb e.symm; omega)
  · rw [List.map_append, h.er, e2]
    rfl
theorem LnsAt.at2 {B : Nat} {w : World} {v lv : Value} {A C : List (Value × Ln)} {c : Ln} {b off n k : Nat} (h : LnsAt B w v (A ++ (lv, c) :: C)) (hn : n = (A ++ (lv, c) :: C).length) (hv : v = .slice (some ⟨b, off, none⟩) n k) :
    w.cell? ⟨b, off + A.length * 3 + 2, none⟩ = some (.bool c.wrap) := by
  have ho := h.own
  rw [hv, ← hn] at ho
  have hl : (lnVals A).length = A.length * 3 := lnVals_len A
  have hnl : A.length + 1 ≤ n := by rw [hn]; simp
  obtain ⟨a3, a4⟩ := ownC_cellx ho (A.length * 3 + 2) (by omega)
  rw [lnVals_mid, List.getElem?_append_right (by omega), hl, show A.length * 3 + 2 - A.length * 3 = 2 by omega] at a3
  exact a3
theorem flowD_build {T : Nat → Nat} {p : Nat} {w : World} {g : Gr} {vr0 vo0 : Value} {Lr0 Lo0 : List (Value × Rw)} (h0 : RAt T p vr0 vo0 Lr0 Lo0 w g) {wz : World} {v9 vo2 : Value} {L L4 : List (Value × Rw)} {f d cols rows C C2 : Nat} {out : List Rw}
    (hsz : w.heap.size ≤ C) (hC : C ≤ C2) (hz : C2 ≤ wz.heap.size)
    (blk : wz.heap[p]? = some (.cells #[.int .i64 cols, .int .i64 g.limit, v9, vo2] 65 (0, 0)))
    (cl : ∀ x ∈ L, OwnC wz 0 5 x.1 x.2.cells.length (cvals x.2.cells) ∧ ∃ q, x.1.ownBlock = some q ∧ w.heap.size ≤ q ∧ q < C) (nd : (L.map (·.1.ownBlock)).Nodup)
    (ro : OwnC wz 0 2 vo2 (keptL g.limit (L.take f)).length (rowVals (keptL g.limit (L.take f)))) (no : ∀ k, vo2.ownBlock = some k → C ≤ k ∧ k < C2)
    (rr : OwnC wz 0 2 v9 ((L.drop f).take d ++ L4).length (rowVals ((L.drop f).take d ++ L4))) (nr : ∀ k, v9.ownBlock = some k → C2 ≤ k)
    (c4 : ∀ x ∈ L4, OwnC wz 0 5 x.1 x.2.cells.length (cvals x.2.cells) ∧ ∃ q, x.1.ownBlock = some q ∧ C2 ≤ q ∧ v9.ownBlock ≠ some q) (nd4 : (L4.map (·.1.ownBlock)).Nodup)
    (hout : L.map (·.2) = out) (hl4 : L4.map (·.2) = freshL (rows - ((out.drop f).take rows).length) cols plainS) (hd : (out.drop f).take rows = (out.drop f).take d)
    (wf : (⟨cols, g.limit, (out.drop f).take rows ++ freshL (rows - ((out.drop f).take rows).length) cols plainS, keepL g.limit (out.take f)⟩ : Gr).WF) :
    ∃ T', RM T' p wz ⟨cols, g.limit, (out.drop f).take rows ++ freshL (rows - ((out.drop f).take rows).length) cols plainS, keepL g.limit (out.take f)⟩ ∧ ∀ k, T' k ≠ 0 → own T w k := by
  have hM : ∀ x ∈ (L.drop f).take d, x ∈ L := fun x hx => List.mem_of_mem_drop (List.mem_of_mem_take hx)
  have hK : ∀ x ∈ keptL g.limit (L.take f), x ∈ L.take f := fun x hx => List.mem_of_mem_drop hx
  have hK2 : ∀ x ∈ keptL g.limit (L.take f), x ∈ L := fun x hx => List.mem_of_mem_take (hK x hx)
  have hLs : ∀ x ∈ L, OwnC wz 0 5 x.1 x.2.cells.length (cvals x.2.cells) ∧ ∃ q, x.1.ownBlock = some q ∧ ((q < w.heap.size ∧ T q = 10 + q) ∨ (w.heap.size ≤ q ∧ vo2.ownBlock ≠ some q ∧ v9.ownBlock ≠ some q)) := fun x hx => by
    obtain ⟨h1, q, h2, h3, h4⟩ := cl x hx
    exact ⟨h1, q, h2, .inr ⟨h3, fun e => by have := (no q e).1; omega, fun e => by have := nr q e; omega⟩⟩
  have ndM : (((L.drop f).take d).map (·.1.ownBlock)).Nodup := (nd.sublist ((List.drop_sublist f L).map _)).sublist ((List.take_sublist d _).map _)
  have ndK : ((keptL g.limit (L.take f)).map (·.1.ownBlock)).Nodup := (nd.sublist ((List.take_sublist f L).map _)).sublist ((List.drop_sublist _ _).map _)
  refine rat_build (g' := ⟨cols, g.limit, (out.drop f).take rows ++ freshL (rows - ((out.drop f).take rows).length) cols plainS, keepL g.limit (out.take f)⟩) (Lr := (L.drop f).take d ++ L4) (Lo := keptL g.limit (L.take f)) h0.lt h0.tp (by omega) blk rr ro (fun k hk => ?_) (fun k hk => ?_) (fun x hx => ?_) ?_ ?_ ?_ wf
  · have h1 := nr k hk
    exact .inr ⟨by omega, fun e => by have := (no k e).2; omega⟩
  · have h1 := (no k hk).1
    exact .inr (by omega)
  · rcases List.mem_append.1 hx with hx | hx
    · rcases List.mem_append.1 hx with hx | hx
      · exact hLs x (hM x hx)
      · obtain ⟨h1, q, h2, h3, h4⟩ := c4 x hx
        exact ⟨h1, q, h2, .inr ⟨by omega, fun e => by have := (no q e).2; omega, h4⟩⟩
    · exact hLs x (hK2 x hx)
  · have hLM : ∀ x ∈ (L.drop f).take d ++ L4, ∀ y ∈ keptL g.limit (L.take f), x.1.ownBlock ≠ y.1.ownBlock := fun x hx y hy e => by
      obtain ⟨_, qy, h2, _, h4⟩ := cl y (hK2 y hy)
      rcases List.mem_append.1 hx with hx | hx
      · have h5 := nd
        rw [← List.take_append_drop f L, List.map_append, List.nodup_append] at h5
        exact h5.2.2 _ (List.mem_map_of_mem (hK y hy)) _ (List.mem_map_of_mem (List.mem_of_mem_take hx)) e.symm
      · obtain ⟨_, q, h6, h7, _⟩ := c4 x hx
        rw [h6, h2] at e
        injection e with e
        omega
    refine nodup_map_append (nodup_map_append ndM nd4 fun x hx y hy e => ?_) ndK hLM
    obtain ⟨_, qx, h2, _, h4⟩ := cl x (hM x hx)
    obtain ⟨_, q, h6, h7, _⟩ := c4 y hy
    rw [h6, h2] at e
    injection e with e
    omega
  · rw [List.map_append, hl4, List.map_take, List.map_drop, hout]
    show (out.drop f).take d ++ _ = (out.drop f).take rows ++ _
    rw [hd]
  · show (keptL g.limit (L.take f)).map (·.2) = keepL g.limit (out.take f)
    unfold keptL keepL
    rw [List.map_drop, List.map_take, hout, List.length_take, List.length_take, ← hout, List.length_map]
end Go.Proofs.YtjclgoiclbkgjaaGreatDoor
