/- Package grid, texts laid together: G9 M4 Q4 Q5 I1 J1 J2. -/
import Derived.Test.YtjclgoiclbkgjaaGreatDoorK3
import Derived.Deep.RegionHeld3
/- Walks of package grid: Put. -/
namespace Go.Proofs.YtjclgoiclbkgjaaGreatDoor
open Go.RowKit

def Gr.putOk (g : Gr) (x y : Int) (c : Cel) : Bool := g.onIt x y c.sty && (decide (1 ≤ c.width) && (c.width == wid c.rune && decide (x + c.width ≤ (g.cols : Int))))
def Gr.put (g : Gr) (x y : Int) (c : Cel) : Gr := if g.putOk x y c = true then g.turn y.toNat (fun l => layL l x.toNat c) else g
theorem wid_le (r : Int) : wid r ≤ 2 := by
  unfold wid
  repeat' split
  all_goals decide
theorem putAt_mem {α : Type} {l m : List α} {i : Nat} {x : α} (h : x ∈ putAt l i m) : x ∈ l ∨ x ∈ m := by
  unfold putAt at h
  rcases List.mem_append.1 h with h | h
  · rcases List.mem_append.1 h with h | h
    · exact .inl (List.mem_of_mem_take h)
    · exact .inr h
  · exact .inl (List.mem_of_mem_drop h)
theorem blank_ok (s : Sty) : (blankC s).Ok := ⟨by show (-2147483648 : Int) ≤ 32; decide, by show (32 : Int) ≤ 2147483647; decide⟩
theorem fillL_ok {l : List Cel} {x n : Nat} {s : Sty} (h : ∀ c ∈ l, c.Ok) : ∀ c ∈ fillL l x n s, c.Ok := fun c hc => by
  rcases putAt_mem hc with hc | hc
  · exact h c hc
  · rw [List.eq_of_mem_replicate hc]; exact blank_ok s
theorem cutL_ok {l : List Cel} {x : Int} (h : ∀ c ∈ l, c.Ok) : ∀ c ∈ cutL l x, c.Ok := by
  unfold cutL
  split
  · exact fillL_ok h
  · exact h
theorem putAt_two {α : Type} (l : List α) (x : Nat) (a b : α) (h : x + 2 ≤ l.length) : putAt (putAt l x [a]) (x + 1) [b] = putAt l x [a, b] := by
  apply List.ext_getElem?
  intro j
  rw [putAt_get _ _ _ (by rw [putAt_len _ _ _ (by simp; omega)]; simp; omega), putAt_get _ _ _ (by simp; omega), putAt_get _ _ _ (by simp; omega)]
  simp only [List.length_cons, List.length_nil]
  by_cases c1 : j < x
  · rw [if_pos (by omega), if_pos c1, if_pos c1]
  rw [if_neg c1, if_neg c1]
  by_cases c2 : j < x + 1
  · rw [if_pos c2, if_pos c2, if_pos (by omega), show j - x = 0 by omega]; rfl
  rw [if_neg c2]
  by_cases c3 : j < x + 1 + 1
  · rw [if_pos c3, if_pos (by omega), show j - (x + 1) = 0 by omega, show j - x = 1 by omega]; rfl
  · rw [if_neg c3, if_neg c2, if_neg (by omega)]
theorem layL_len {l : List Cel} {x : Nat} {c : Cel} (h : x + (if c.width = 2 then 2 else 1) ≤ l.length) : (layL l x c).length = l.length := by
  unfold layL
  rw [putAt_len _ _ _ (by
    rw [cutL_len, cutL_len]
    split
    · rename_i h2; rw [if_pos h2] at h; exact h
    · rename_i h2; rw [if_neg h2] at h; exact h), cutL_len, cutL_len]
theorem layL_ok {l : List Cel} {x : Nat} {c : Cel} (h : ∀ c ∈ l, c.Ok) (hc : c.Ok) : ∀ d ∈ layL l x c, d.Ok := fun d hd => by
  unfold layL at hd
  rcases putAt_mem hd with hd | hd
  · exact cutL_ok (cutL_ok h) d hd
  · split at hd
    · rcases List.mem_cons.1 hd with rfl | hd
      · exact hc
      · rw [List.mem_singleton] at hd; subst hd; exact ⟨by show (-2147483648 : Int) ≤ 0; decide, by show (0 : Int) ≤ 2147483647; decide⟩
    · rw [List.mem_singleton] at hd; subst hd; exact hc
set_option maxRecDepth 100000 in
set_option maxHeartbeats 8000000 in
theorem put_any {T : Nat → Nat} {p : Nat} {w : World} {g : Gr} (h : GM T p w g) (x y : Int) (c : Cel) (hs : RightIn w c.sty) (hck : c.Ok) :
    Calls Tryz.prog 10 #[.pointer (some ⟨p, 0, none⟩), .int .i64 x, .int .i64 y, c.val] w fun e w' => e = .returned (.tuple #[]) ∧ Within (own T w) w w' ∧ GM T p w' (g.put x y c) := by
  obtain ⟨cr, cw, cs⟩ := c
  dsimp only at hs
  have hBz := Below.alloc (Below.refl w.heap.size w) (Nat.le_refl _) (.cells #[.int .i32 cr, .int .i64 cw, .int .i64 cs.fg, .int .i64 cs.bg, .int .i64 cs.attr] 38)
  have hbk0 := blk_new w (.cells #[.int .i32 cr, .int .i64 cw, .int .i64 cs.fg, .int .i64 cs.bg, .int .i64 cs.attr] 38)
  have HG0 := Lib.hid (h.below hBz)
  have HLT := Lib.hid h.lt
  clear h
  cases hon : g.onIt x y cs
  · have HE := Lib.hid (show g.put x y ⟨cr, cw, cs⟩ = g by unfold Gr.put Gr.putOk; rw [hon]; rfl)
    have HON := Lib.hid (on_no HG0.out x y cs (hs.below hBz) hon)
    have hq := fun (wx : World) => Lib.run_eql_slice_nil (P := Tryz.prog) wx 42 38 none 0 0 0 0 Tryz.underlying42
    unfold Sty.val at HON
    unfold Cel.val
    go_enter Tryz.func10, Tryz.ntmps10
    go_wp2_with fail
    refine HON.out.mono ?_
    rintro e w2 ⟨rfl, b2⟩
    have HG2 := Lib.hid (HG0.out.below b2)
    have HB2 := Lib.hid (hBz.trans (b2.mono (by simp)))
    clear b2 HON
    go_wp2_with fail
    go_quiet (fail)
    go_wp2_with fail
    refine ret0w rfl rfl ⟨rfl, Within.of_below (below_drewN HB2.out nq), ?_⟩
    rw [HE.out]
    exact HG2.out.below (below_drewN (Below.refl _ _) nq)
  · have hon' := hon
    unfold Gr.onIt at hon'
    simp only [Bool.and_eq_true, decide_eq_true_eq] at hon'
    obtain ⟨n1, n2, n3, n4, n5⟩ := hon'
    obtain ⟨xn, rfl⟩ : ∃ k : Nat, x = (k : Int) := ⟨x.toNat, by omega⟩
    obtain ⟨yn, rfl⟩ : ∃ k : Nat, y = (k : Int) := ⟨y.toNat, by omega⟩
    obtain ⟨vr, vo, Lr, Lo, hA⟩ := HG0.out
    have hlen := (rows_len hA).1
    have hyl : yn < Lr.length := by omega
    have hcols := hA.wf.c2
    have hrc : Lr[yn].2.cells.length = g.cols := (hA.wf.ce _ (List.mem_append_left _ (by rw [← hA.er]; exact List.mem_map_of_mem (List.getElem_mem hyl)))).1
    have hrok : ∀ c ∈ Lr[yn].2.cells, c.Ok := (hA.wf.ce _ (List.mem_append_left _ (by rw [← hA.er]; exact List.mem_map_of_mem (List.getElem_mem hyl)))).2
    have hgr : g.rows.getD yn noR = Lr[yn].2 := by
      rw [← hA.er, List.getD_eq_getElem?_getD, List.getElem?_map, List.getElem?_eq_getElem hyl]; rfl
    have HON := Lib.hid (on_yes hA xn yn cs (hs.below hBz) (by omega) hyl n5)
    have hcx := hA.ca Lr[yn] (List.mem_append_left _ (List.getElem_mem hyl))
    have HC := Lib.hid hcx
    obtain ⟨b, off, vc, hxv, hnc, hcm⟩ := ownC_pos hcx.own (by omega)
    rw [hrc] at hxv hnc
    have HA := Lib.hid hA
    clear hA hcx
    rw [hxv] at HON
    have hq := fun (wx : World) => Lib.run_eql_slice_nil (P := Tryz.prog) wx 42 38 (some ⟨b, off, none⟩) g.cols vc 0 0 Tryz.underlying42
    unfold Sty.val at HON
    unfold Cel.val
    go_enter Tryz.func10, Tryz.ntmps10
    go_wp2_with fail
    refine HON.out.mono ?_
    rintro e w2 ⟨rfl, b2⟩
    have HG2 := Lib.hid (HG0.out.below b2)
    have HA2 := Lib.hid (HA.out.mod (.of_below b2) id id id (fun _ => id))
    have HB2 := Lib.hid (hBz.trans (b2.mono (by simp)))
    have hbk2 := blk_below hbk0 b2 (by simp)
    have c0 : w2.cell? ⟨w.heap.size, 0, none⟩ = some (.int .i32 cr) := blk_cell hbk2 0
    have c1 : w2.cell? ⟨w.heap.size, 1, none⟩ = some (.int .i64 cw) := blk_cell hbk2 1
    have c2 : w2.cell? ⟨w.heap.size, 2, none⟩ = some (.int .i64 cs.fg) := blk_cell hbk2 2
    have c3 : w2.cell? ⟨w.heap.size, 3, none⟩ = some (.int .i64 cs.bg) := blk_cell hbk2 3
    have c4 : w2.cell? ⟨w.heap.size, 4, none⟩ = some (.int .i64 cs.attr) := blk_cell hbk2 4
    clear b2 HON hbk0
    by_cases hw1 : 1 ≤ cw
    rotate_left
    · have d1 : decide (cw < 1) = true := decide_eq_true (by omega)
      have HE := Lib.hid (show g.put xn yn ⟨cr, cw, cs⟩ = g by unfold Gr.put Gr.putOk; rw [decide_eq_false hw1]; simp)
      go_wp2_with fail
      go_quiet (fail)
      go_wp2_with fail
      refine ret0w rfl rfl ⟨rfl, Within.of_below (below_drewN HB2.out nq), ?_⟩
      rw [HE.out]
      exact HG2.out.below (below_drewN (Below.refl _ _) nq)
    have d1 : decide (cw < 1) = false := decide_eq_false (by omega)
    have hwl := wid_le cr
    have hlt3 : w.heap.size < w2.heap.size := heap_lt hbk2
    have g0 := (gm_cells HA2.out).1
    have hbw := Below.refl w2.heap.size w2
    have HA3 := Lib.hid (HA2.out.mod (.of_below (Below.refl _ _).drew) id id id (fun _ => id))
    have HB3 := Lib.hid HB2.out.drew
    by_cases hw2 : cw = wid cr
    rotate_left
    · have d2 : (cw != wid cr) = true := by simp [bne, beq_eq_false_iff_ne.2 hw2]
      have HE := Lib.hid (show g.put xn yn ⟨cr, cw, cs⟩ = g by unfold Gr.put Gr.putOk; rw [beq_eq_false_iff_ne.2 hw2]; simp)
      go_upto_region 2 with fail
      refine wp_region_held_drew (S := (fun w' => w'.cell? ⟨w.heap.size, 0, none⟩ = some (.int .i32 cr) ∧ w'.cell? ⟨w.heap.size, 1, none⟩ = some (.int .i64 cw) ∧ w'.cell? ⟨p, 0, none⟩ = some (.int .i64 g.cols))) (by kernel_rfl) ⟨c0, c1, g0⟩ (fun hHeld => ?_)
      refine wpAnyH_take (i := 0) (oi := ?o201) (v := ?v0) ?h201 (by kernel_rfl) (by kernel_rfl) (by kernel_rfl) ?q201 (Or.inl ⟨?w201, ?y0⟩) hHeld ?r0
      case h201 => (simp only [List.getElem?_toArray, List.getElem?_cons_zero]; rfl)
      case q201 => exact fun _ _ _ h => h
      case w201 => rfl
      case y0 =>
        intro wS hSw
        (try dsimp only at hSw)
        go_simp
        (try (with_reducible rfl))
      try simp only [Act.put, List.setIfInBounds_toArray, List.set_cons_zero, List.set_cons_succ]
      refine wpAnyH_take (i := 1) (oi := ?o202) (v := ?v1) ?h202 (by kernel_rfl) (by kernel_rfl) (by kernel_rfl) ?q202 (Or.inl ⟨?w202, ?y1⟩) hHeld ?r1
      case h202 => (simp only [List.getElem?_toArray, List.getElem?_cons_succ, List.getElem?_cons_zero]; rfl)
      case q202 => exact fun _ _ _ h => h
      case w202 => rfl
      case y1 =>
        intro wS hSw
        (try dsimp only at hSw)
        go_simp
        (try (with_reducible rfl))
      try simp only [Act.put, List.setIfInBounds_toArray, List.set_cons_zero, List.set_cons_succ]
      refine wpAnyH_take (i := 2) (oi := ?o203) (v := ?v2) ?h203 (by kernel_rfl) (by kernel_rfl) (by kernel_rfl) ?q203 (Or.inl ⟨?w203, ?y2⟩) hHeld ?r2
      case h203 => (simp only [List.getElem?_toArray, List.getElem?_cons_succ, List.getElem?_cons_zero]; rfl)
      case q203 => exact fun _ _ _ h => h
      case w203 => rfl
      case y2 =>
        intro wS hSw
        (try dsimp only at hSw)
        go_simp
        (try (with_reducible rfl))
      try simp only [Act.put, List.setIfInBounds_toArray, List.set_cons_zero, List.set_cons_succ]
      refine wpAnyH_take (i := 3) (oi := ?o204) (v := ?v3) ?h204 (by kernel_rfl) (by kernel_rfl) (by kernel_rfl) ?q204 (Or.inl ⟨?w204, ?y3⟩) hHeld ?r3
      case h204 => (simp only [List.getElem?_toArray, List.getElem?_cons_succ, List.getElem?_cons_zero]; rfl)
      case q204 => exact fun _ _ _ h => h
      case w204 => rfl
      case y3 =>
        intro wS hSw
        (try dsimp only at hSw)
        go_simp
        (try (with_reducible rfl))
      try simp only [Act.put, List.setIfInBounds_toArray, List.set_cons_zero, List.set_cons_succ]
      refine wpAnyH_take (i := 4) (oi := ?o205) (v := ?v4) ?h205 (by kernel_rfl) (by kernel_rfl) (by kernel_rfl) ?q205 (Or.inl ⟨?w205, ?y4⟩) hHeld ?r4
      case h205 => (simp only [List.getElem?_toArray, List.getElem?_cons_succ, List.getElem?_cons_zero]; rfl)
      case q205 => exact fun _ _ _ h => h
      case w205 => rfl
      case y4 =>
        intro wS hSw
        (try dsimp only at hSw)
        go_simp
        (try (with_reducible rfl))
      try simp only [Act.put, List.setIfInBounds_toArray, List.set_cons_zero, List.set_cons_succ]
      refine wpAnyH_take (i := 5) (oi := ?o206) (v := ?v5) ?h206 (by kernel_rfl) (by kernel_rfl) (by kernel_rfl) ?q206 (Or.inl ⟨?w206, ?y5⟩) hHeld ?r5
      case h206 => (simp only [List.getElem?_toArray, List.getElem?_cons_succ, List.getElem?_cons_zero]; rfl)
      case q206 => exact fun _ _ _ h => h
      case w206 => rfl
      case y5 =>
        intro wS hSw
        (try dsimp only at hSw)
        go_simp
        (try (with_reducible rfl))
      try simp only [Act.put, List.setIfInBounds_toArray, List.set_cons_zero, List.set_cons_succ]
      refine wpAnyH_take (i := 6) (oi := ?o207) (v := ?v6) ?h207 (by kernel_rfl) (by kernel_rfl) (by kernel_rfl) ?q207 (Or.inl ⟨?w207, ?y6⟩) hHeld ?r6
      case h207 => (simp only [List.getElem?_toArray, List.getElem?_cons_succ, List.getElem?_cons_zero]; rfl)
      case q207 => exact fun _ _ _ h => h
      case w207 => rfl
      case y6 =>
        intro wS hSw
        (try dsimp only at hSw)
        go_simp
        (try (with_reducible rfl))
      try simp only [Act.put, List.setIfInBounds_toArray, List.set_cons_zero, List.set_cons_succ]
      refine wpAnyH_take (i := 7) (oi := ?o208) (v := ?v7) ?h208 (by kernel_rfl) (by kernel_rfl) (by kernel_rfl) ?q208 (Or.inl ⟨?w208, ?y7⟩) hHeld ?r7
      case h208 => (simp only [List.getElem?_toArray, List.getElem?_cons_succ, List.getElem?_cons_zero]; rfl)
      case q208 => exact fun _ _ _ h => h
      case w208 => rfl
      case y7 =>
        intro wS hSw
        (try dsimp only at hSw)
        go_simp
        (try (with_reducible rfl))
      try simp only [Act.put, List.setIfInBounds_toArray, List.set_cons_zero, List.set_cons_succ]
      refine wpAnyH_take (i := 8) (oi := ?o209) (v := ?v8) ?h209 (by kernel_rfl) (by kernel_rfl) (by kernel_rfl) ?q209 (Or.inl ⟨?w209, ?y8⟩) hHeld ?r8
      case h209 => (simp only [List.getElem?_toArray, List.getElem?_cons_succ, List.getElem?_cons_zero]; rfl)
      case q209 => exact fun _ _ _ h => h
      case w209 => rfl
      case y8 =>
        intro wS hSw
        (try dsimp only at hSw)
        go_simp
        (try (with_reducible rfl))
      try simp only [Act.put, List.setIfInBounds_toArray, List.set_cons_zero, List.set_cons_succ]
      refine wpAnyH_take (i := 9) (oi := ?o210) (v := ?v9) ?h210 (by kernel_rfl) (by kernel_rfl) (by kernel_rfl) ?q210 (Or.inl ⟨?w210, ?y9⟩) hHeld ?r9
      case h210 => (simp only [List.getElem?_toArray, List.getElem?_cons_succ, List.getElem?_cons_zero]; rfl)
      case q210 => exact fun _ _ _ h => h
      case w210 => rfl
      case y9 =>
        intro wS hSw
        (try dsimp only at hSw)
        go_simp
        (try (with_reducible rfl))
      try simp only [Act.put, List.setIfInBounds_toArray, List.set_cons_zero, List.set_cons_succ]
      refine wpAnyH_take (i := 10) (oi := ?o211) (v := ?v10) ?h211 (by kernel_rfl) (by kernel_rfl) (by kernel_rfl) ?q211 (Or.inl ⟨?w211, ?y10⟩) hHeld ?r10
      case h211 => (simp only [List.getElem?_toArray, List.getElem?_cons_succ, List.getElem?_cons_zero]; rfl)
      case q211 => exact fun _ _ _ h => h
      case w211 => rfl
      case y10 =>
        intro wS hSw
        (try dsimp only at hSw)
        go_simp
        (try (with_reducible rfl))
      try simp only [Act.put, List.setIfInBounds_toArray, List.set_cons_zero, List.set_cons_succ]
      refine wpAnyH_take (i := 11) (oi := ?o212) (v := ?v11) ?h212 (by kernel_rfl) (by kernel_rfl) (by kernel_rfl) ?q212 (Or.inl ⟨?w212, ?y11⟩) hHeld ?r11
      case h212 => (simp only [List.getElem?_toArray, List.getElem?_cons_succ, List.getElem?_cons_zero]; rfl)
      case q212 => exact fun _ _ _ h => h
      case w212 => rfl
      case y11 =>
        intro wS hSw
        (try dsimp only at hSw)
        go_simp
        (try (with_reducible rfl))
      try simp only [Act.put, List.setIfInBounds_toArray, List.set_cons_zero, List.set_cons_succ]
      refine wpAnyH_ready (rs := [12]) (by kernel_rfl) (by simp) ?_
      refine AllReadyH.cons (o := ?o213) ?h213 ?k213 AllReadyH.nil
      case h213 => (simp only [List.getElem?_toArray, List.getElem?_cons_succ, List.getElem?_cons_zero]; rfl)
      intro K hK
      rw [if_pos (by rfl)]
      go_wp2_with fail
      refine (width_any cr _).mono ?_
      rintro e w4 ⟨rfl, b4⟩
      have HA4 := Lib.hid (HA3.out.mod (.of_below b4) id id id (fun _ => id))
      have HB4 := Lib.hid (HB3.out.trans (b4.mono HB3.out.size))
      have hbk4 := blk_below (blk_drew hbk2) b4 hlt3
      refine hK.out _ _ ⟨blk_cell hbk4 0, blk_cell hbk4 1, (gm_cells HA4.out).1⟩ (fun hHeld2 => ?_)
      clear hK K hHeld hbk4 b4
      try simp only [Act.put, List.setIfInBounds_toArray, List.set_cons_zero, List.set_cons_succ]
      refine wpAnyH_take (i := 13) (oi := ?o214) (v := ?v13) ?h214 (by kernel_rfl) (by kernel_rfl) (by kernel_rfl) ?q214 (Or.inl ⟨?w214, ?y13⟩) hHeld2 ?r13
      case h214 => (simp only [List.getElem?_toArray, List.getElem?_cons_succ, List.getElem?_cons_zero]; rfl)
      case q214 => exact fun _ _ _ h => h
      case w214 => rfl
      case y13 =>
        intro wS hSw
        (try dsimp only at hSw)
        go_simp
        (try (with_reducible rfl))
      try simp only [Act.put, List.setIfInBounds_toArray, List.set_cons_zero, List.set_cons_succ]
      refine wpAnyH_take (i := 14) (oi := ?o215) (v := ?v14) ?h215 (by kernel_rfl) (by kernel_rfl) (by kernel_rfl) ?q215 (Or.inl ⟨?w215, ?y14⟩) hHeld2 ?r14
      case h215 => (simp only [List.getElem?_toArray, List.getElem?_cons_succ, List.getElem?_cons_zero]; rfl)
      case q215 => exact fun _ _ _ h => h
      case w215 => rfl
      case y14 =>
        intro wS hSw
        (try dsimp only at hSw)
        go_simp
        (try (with_reducible rfl))
      try simp only [Act.put, List.setIfInBounds_toArray, List.set_cons_zero, List.set_cons_succ]
      refine wpAnyH_take (i := 15) (oi := ?o216) (v := ?v15) ?h216 (by kernel_rfl) (by kernel_rfl) (by kernel_rfl) ?q216 (Or.inl ⟨?w216, ?y15⟩) hHeld2 ?r15
      case h216 => (simp only [List.getElem?_toArray, List.getElem?_cons_succ, List.getElem?_cons_zero]; rfl)
      case q216 => exact fun _ _ _ h => h
      case w216 => rfl
      case y15 =>
        intro wS hSw
        (try dsimp only at hSw)
        go_simp
        (try (with_reducible rfl))
      try simp only [Act.put, List.setIfInBounds_toArray, List.set_cons_zero, List.set_cons_succ]
      refine wpAnyH_take (i := 16) (oi := ?o217) (v := undef) ?h217 (by kernel_rfl) (by kernel_rfl) (by kernel_rfl) ?q217 (Or.inr ⟨?w217, rfl⟩) hHeld2 ?s217
      case h217 => (simp only [List.getElem?_toArray, List.getElem?_cons_succ, List.getElem?_cons_zero]; rfl)
      case q217 => exact fun _ _ _ h => h
      case w217 => rfl
      try simp only [Act.put, List.setIfInBounds_toArray, List.set_cons_zero, List.set_cons_succ]
      refine wpAnyH_take (i := 17) (oi := ?o218) (v := undef) ?h218 (by kernel_rfl) (by kernel_rfl) (by kernel_rfl) ?q218 (Or.inr ⟨?w218, rfl⟩) hHeld2 ?s218
      case h218 => (simp only [List.getElem?_toArray, List.getElem?_cons_succ, List.getElem?_cons_zero]; rfl)
      case q218 => exact fun _ _ _ h => h
      case w218 => rfl
      try simp only [Act.put, List.setIfInBounds_toArray, List.set_cons_zero, List.set_cons_succ]
      refine wpAnyH_take (i := 18) (oi := ?o219) (v := undef) ?h219 (by kernel_rfl) (by kernel_rfl) (by kernel_rfl) ?q219 (Or.inr ⟨?w219, rfl⟩) hHeld2 ?s219
      case h219 => (simp only [List.getElem?_toArray, List.getElem?_cons_succ, List.getElem?_cons_zero]; rfl)
      case q219 => exact fun _ _ _ h => h
      case w219 => rfl
      try simp only [Act.put, List.setIfInBounds_toArray, List.set_cons_zero, List.set_cons_succ]
      refine wpAnyH_take (i := 19) (oi := ?o220) (v := undef) ?h220 (by kernel_rfl) (by kernel_rfl) (by kernel_rfl) ?q220 (Or.inr ⟨?w220, rfl⟩) hHeld2 ?s220
      case h220 => (simp only [List.getElem?_toArray, List.getElem?_cons_succ, List.getElem?_cons_zero]; rfl)
      case q220 => exact fun _ _ _ h => h
      case w220 => rfl
      try simp only [Act.put, List.setIfInBounds_toArray, List.set_cons_zero, List.set_cons_succ]
      refine wpAnyH_take (i := 20) (oi := ?o221) (v := undef) ?h221 (by kernel_rfl) (by kernel_rfl) (by kernel_rfl) ?q221 (Or.inr ⟨?w221, rfl⟩) hHeld2 ?s221
      case h221 => (simp only [List.getElem?_toArray, List.getElem?_cons_succ, List.getElem?_cons_zero]; rfl)
      case q221 => exact fun _ _ _ h => h
      case w221 => rfl
      try simp only [Act.put, List.setIfInBounds_toArray, List.set_cons_zero, List.set_cons_succ]
      refine wpAnyH_take (i := 21) (oi := ?o222) (v := undef) ?h222 (by kernel_rfl) (by kernel_rfl) (by kernel_rfl) ?q222 (Or.inr ⟨?w222, rfl⟩) hHeld2 ?s222
      case h222 => (simp only [List.getElem?_toArray, List.getElem?_cons_succ, List.getElem?_cons_zero]; rfl)
      case q222 => exact fun _ _ _ h => h
      case w222 => rfl
      try simp only [Act.put, List.setIfInBounds_toArray, List.set_cons_zero, List.set_cons_succ]
      refine wpAnyH_take (i := 22) (oi := ?o223) (v := undef) ?h223 (by kernel_rfl) (by kernel_rfl) (by kernel_rfl) ?q223 (Or.inr ⟨?w223, rfl⟩) hHeld2 ?s223
      case h223 => (simp only [List.getElem?_toArray, List.getElem?_cons_succ, List.getElem?_cons_zero]; rfl)
      case q223 => exact fun _ _ _ h => h
      case w223 => rfl
      try simp only [Act.put, List.setIfInBounds_toArray, List.set_cons_zero, List.set_cons_succ]
      refine wpAnyH_take (i := 23) (oi := ?o224) (v := undef) ?h224 (by kernel_rfl) (by kernel_rfl) (by kernel_rfl) ?q224 (Or.inr ⟨?w224, rfl⟩) hHeld2 ?s224
      case h224 => (simp only [List.getElem?_toArray, List.getElem?_cons_succ, List.getElem?_cons_zero]; rfl)
      case q224 => exact fun _ _ _ h => h
      case w224 => rfl
      try simp only [Act.put, List.setIfInBounds_toArray, List.set_cons_zero, List.set_cons_succ]
      refine wpAnyH_take (i := 24) (oi := ?o225) (v := undef) ?h225 (by kernel_rfl) (by kernel_rfl) (by kernel_rfl) ?q225 (Or.inr ⟨?w225, rfl⟩) hHeld2 ?s225
      case h225 => (simp only [List.getElem?_toArray, List.getElem?_cons_succ, List.getElem?_cons_zero]; rfl)
      case q225 => exact fun _ _ _ h => h
      case w225 => rfl
      try simp only [Act.put, List.setIfInBounds_toArray, List.set_cons_zero, List.set_cons_succ]
      refine wpAnyH_take (i := 25) (oi := ?o226) (v := ?v25) ?h226 (by kernel_rfl) (by kernel_rfl) (by kernel_rfl) ?q226 (Or.inl ⟨?w226, ?y25⟩) hHeld2 ?r25
      case h226 => (simp only [List.getElem?_toArray, List.getElem?_cons_succ, List.getElem?_cons_zero]; rfl)
      case q226 => exact fun _ _ _ h => h
      case w226 => rfl
      case y25 =>
        intro wS hSw
        (try dsimp only at hSw)
        go_simp
        (try (with_reducible rfl))
      try simp only [Act.put, List.setIfInBounds_toArray, List.set_cons_zero, List.set_cons_succ]
      refine wpAnyH_done (by kernel_rfl) ?_ _
      go_wp2_with fail
      refine ret0w rfl rfl ⟨rfl, Within.of_below HB4.out, ?_⟩
      rw [HE.out]
      exact ⟨_, _, _, _, HA4.out⟩
    have d2 : (cw != wid cr) = false := by simp [bne, hw2]
    have hcw2 : cw ≤ 2 := by omega
    have HW2 := Lib.hid hw2
    clear hw2 hwl
    have hwrap : IntKind.i64.wrap ((xn : Int) + cw) = (xn : Int) + cw := wrap64_id _ (by omega) (by omega)
    by_cases hw3 : (xn : Int) + cw ≤ (g.cols : Int)
    rotate_left
    · have d3 : decide ((g.cols : Int) < (xn : Int) + cw) = true := decide_eq_true (by omega)
      have HE := Lib.hid (show g.put xn yn ⟨cr, cw, cs⟩ = g by unfold Gr.put Gr.putOk; rw [decide_eq_false hw3]; simp)
      go_upto_region 2 with fail
      go_region_held3 (fun w' => w'.cell? ⟨w.heap.size, 0, none⟩ = some (.int .i32 cr) ∧ w'.cell? ⟨w.heap.size, 1, none⟩ = some (.int .i64 cw) ∧ w'.cell? ⟨p, 0, none⟩ = some (.int .i64 g.cols)) (go_keep)
        (first | (go_at_call 52; refine (width_any cr _).mono ?_; rintro e w4 ⟨rfl, b4⟩; have HA4 := Lib.hid (HA3.out.mod (.of_below b4) id id id (fun _ => id)); have HB4 := Lib.hid (HB3.out.trans (b4.mono HB3.out.size)); have hbk4 := blk_below (blk_drew hbk2) b4 hlt3; have z0 : w4.cell? ⟨w.heap.size, 0, none⟩ = some (.int .i32 cr) := blk_cell hbk4 0; have z1 : w4.cell? ⟨w.heap.size, 1, none⟩ = some (.int .i64 cw) := blk_cell hbk4 1; have z2 := (gm_cells HA4.out).1; have hHB4 := Lib.hid hbk4; clear b4 hbk4))
      go_wp2_with fail
      refine ret0w rfl rfl ⟨rfl, Within.of_below HB4.out, ?_⟩
      rw [HE.out]
      exact ⟨_, _, _, _, HA4.out⟩
    have d3 : decide ((g.cols : Int) < (xn : Int) + cw) = false := decide_eq_false (by omega)
    have HE := Lib.hid (show g.put xn yn ⟨cr, cw, cs⟩ = g.turn yn (fun l => layL l xn ⟨cr, cw, cs⟩) by
      unfold Gr.put Gr.putOk
      rw [hon, decide_eq_true hw1, decide_eq_true hw3, beq_iff_eq.2 HW2.out, Int.toNat_natCast, Int.toNat_natCast]; rfl)
    go_upto_region 2 with fail
    go_region_held3 (fun w' => w'.cell? ⟨w.heap.size, 0, none⟩ = some (.int .i32 cr) ∧ w'.cell? ⟨w.heap.size, 1, none⟩ = some (.int .i64 cw) ∧ w'.cell? ⟨p, 0, none⟩ = some (.int .i64 g.cols)) (go_keep)
      (first | (go_at_call 52; refine (width_any cr _).mono ?_; rintro e w4 ⟨rfl, b4⟩; have HA4 := Lib.hid (HA3.out.mod (.of_below b4) id id id (fun _ => id)); have HB4 := Lib.hid (HB3.out.trans (b4.mono HB3.out.size)); have hbk4 := blk_below (blk_drew hbk2) b4 hlt3; have z0 : w4.cell? ⟨w.heap.size, 0, none⟩ = some (.int .i32 cr) := blk_cell hbk4 0; have z1 : w4.cell? ⟨w.heap.size, 1, none⟩ = some (.int .i64 cw) := blk_cell hbk4 1; have z2 := (gm_cells HA4.out).1; have hHB4 := Lib.hid hbk4; clear b4 hbk4))
    go_wp2_with fail
    have hbt : T b = 10 + b := by
      obtain ⟨q, e1, e2⟩ := HC.out.tag
      rw [hxv] at e1
      simp only [Value.ownBlock] at e1
      injection e1 with e1
      subst e1; exact e2
    have hbl : b < w.heap.size := HLT.out b (by omega)
    have O4 := (HA4.out.ca Lr[yn] (List.mem_append_left _ (List.getElem_mem hyl))).own
    rw [hxv, hrc] at O4
    generalize hlx : Lr[yn].2.cells = lx at *
    have hgc : g.cols ≤ 1000000 := by omega
    refine (cut_any lx xn b off g.cols vc w4 O4 hrc hgc (by omega)).mono ?_
    rintro e w5 ⟨rfl, g5, o5⟩
    have hbk4 := hHB4.out
    have hbk5 := blk_grown hbk4 g5 (by intro e; injection e with e; omega)
    have e0 : w5.cell? ⟨w.heap.size, 0, none⟩ = some (.int .i32 cr) := blk_cell hbk5 0
    have e1 : w5.cell? ⟨w.heap.size, 1, none⟩ = some (.int .i64 cw) := blk_cell hbk5 1
    have HO5 := Lib.hid o5
    have HK5 := Lib.hid hbk5
    have HG5 := Lib.hid g5
    clear o5 hbk5 g5 O4 z0 z1 z2 hbk4 hHB4 c0 c1 c2 c3 c4 g0 hbk2
    go_wp2_with fail
    refine (cut_any (cutL lx xn) ((xn : Int) + cw) b off g.cols vc w5 HO5.out (by rw [cutL_len]; exact hrc) hgc (by omega)).mono ?_
    rintro e w6 ⟨rfl, g6, o6⟩
    have hbk6 := blk_grown HK5.out g6 (by intro e; injection e with e; omega)
    have HG6 := Lib.hid (gb_trans HG5.out g6)
    have HK6 := Lib.hid hbk6
    have f0 : w6.cell? ⟨w.heap.size, 0, none⟩ = some (.int .i32 cr) := blk_cell hbk6 0
    have f1 : w6.cell? ⟨w.heap.size, 1, none⟩ = some (.int .i64 cw) := blk_cell hbk6 1
    have f2 : w6.cell? ⟨w.heap.size, 2, none⟩ = some (.int .i64 cs.fg) := blk_cell hbk6 2
    have f3 : w6.cell? ⟨w.heap.size, 3, none⟩ = some (.int .i64 cs.bg) := blk_cell hbk6 3
    have f4 : w6.cell? ⟨w.heap.size, 4, none⟩ = some (.int .i64 cs.attr) := blk_cell hbk6 4
    have hlen2 : (cutL (cutL lx xn) ((xn : Int) + cw)).length = g.cols := by rw [cutL_len, cutL_len]; exact hrc
    have hix := idx_at (P := Tryz.prog) (size := 5) Tryz.underlying42 cell_info b off g.cols vc xn (by omega)
    have hst := store_own (P := Tryz.prog) cell_info o6 xn (by omega) #[.int .i32 cr, .int .i64 cw, .int .i64 cs.fg, .int .i64 cs.bg, .int .i64 cs.attr] rfl (cvals_one' ⟨cr, cw, cs⟩)
    have HP := ownC_put o6 (xn * 5) (cvals [(⟨cr, cw, cs⟩ : Cel)]) (by rw [cvals_len]; simp; omega)
    rw [← cvals_put] at HP
    have g7 := gb_setCells w6 b (off + xn * 5) (cvals [(⟨cr, cw, cs⟩ : Cel)])
    replace hst : (storeVar 38 ⟨b, off + xn * 5, none⟩ (.agg #[.int .i32 cr, .int .i64 cw, .int .i64 cs.fg, .int .i64 cs.bg, .int .i64 cs.attr])).run Tryz.prog w6 = .ok () (w6.setCells b (off + xn * 5) (cvals [(⟨cr, cw, cs⟩ : Cel)])) := hst
    have HG7 := Lib.hid (gb_trans HG6.out g7)
    have hbk7 := blk_grown HK6.out g7 (by intro e; injection e with e; omega)
    have HO7 := Lib.hid HP
    clear HP g7 o6 g6 e0 e1
    generalize w6.setCells b (off + xn * 5) (cvals [(⟨cr, cw, cs⟩ : Cel)]) = w7 at *
    have i1 : w7.cell? ⟨w.heap.size, 1, none⟩ = some (.int .i64 cw) := blk_cell hbk7 1
    have i2 : w7.cell? ⟨w.heap.size, 2, none⟩ = some (.int .i64 cs.fg) := blk_cell hbk7 2
    have i3 : w7.cell? ⟨w.heap.size, 3, none⟩ = some (.int .i64 cs.bg) := blk_cell hbk7 3
    have i4 : w7.cell? ⟨w.heap.size, 4, none⟩ = some (.int .i64 cs.attr) := blk_cell hbk7 4
    have HWI := Lib.hid (show ∀ w', w4.grownBy w' (some b) → Within (own T w) w w' from fun w' g' => (Within.of_below HB4.out).trans (Within.of_gb g' (fun k hk => .inl (by injection hk with hk; subst hk; omega))))
    have HFIN := Lib.hid (show ∀ w', w4.grownBy w' (some b) → OwnC w' 0 5 (.slice (some ⟨b, off, none⟩) g.cols vc) g.cols (cvals (layL lx xn ⟨cr, cw, cs⟩)) → GM T p w' (g.turn yn (fun l => layL l xn ⟨cr, cw, cs⟩)) from fun w' g' o' => by
      have hll : (layL lx xn ⟨cr, cw, cs⟩).length = g.cols := by
        rw [layL_len (by
          show xn + (if cw = 2 then 2 else 1) ≤ lx.length
          split <;> omega)]
        exact hrc
      refine HA4.out.turned yn hyl (b := b) (by rw [hxv]; rfl) (Mod.of_gb g' (fun k hk => by injection hk with hk; subst hk; exact hbt)) _ ?_ ?_ ?_
      · rw [hlx, hll, hxv]; exact o'
      · rw [hlx]; exact hll
      · rw [hlx]; exact layL_ok hrok hck)
    by_cases h2 : cw = 2
    · have d5 : (cw == 2) = true := beq_iff_eq.2 h2
      have H2 := Lib.hid h2
      have hxn2 : xn + 2 ≤ g.cols := by omega
      clear h2
      have hwrap2 : IntKind.i64.wrap ((xn : Int) + 1) = (xn : Int) + 1 := wrap64_id _ (by omega) (by omega)
      have hix2 := idx_at (P := Tryz.prog) (size := 5) Tryz.underlying42 cell_info b off g.cols vc (xn + 1) (by omega)
      rw [show ((xn + 1 : Nat) : Int) = (xn : Int) + 1 by omega] at hix2
      have hst2 := store_own (P := Tryz.prog) cell_info HO7.out (xn + 1) (by omega) #[.int .i32 0, .int .i64 0, .int .i64 cs.fg, .int .i64 cs.bg, .int .i64 cs.attr] rfl (cvals_one' ⟨0, 0, cs⟩)
      have HP := ownC_put HO7.out ((xn + 1) * 5) (cvals [(⟨0, 0, cs⟩ : Cel)]) (by rw [cvals_len]; simp; omega)
      rw [← cvals_put, putAt_two _ _ _ _ (by omega)] at HP
      have g8 := gb_setCells w7 b (off + (xn + 1) * 5) (cvals [(⟨0, 0, cs⟩ : Cel)])
      replace hst2 : (storeVar 38 ⟨b, off + (xn + 1) * 5, none⟩ (.agg #[.int .i32 0, .int .i64 0, .int .i64 cs.fg, .int .i64 cs.bg, .int .i64 cs.attr])).run Tryz.prog w7 = .ok () (w7.setCells b (off + (xn + 1) * 5) (cvals [(⟨0, 0, cs⟩ : Cel)])) := hst2
      have HG8 := Lib.hid (gb_trans HG7.out g8)
      have HO8 := Lib.hid HP
      clear HP g8
      generalize w7.setCells b (off + (xn + 1) * 5) (cvals [(⟨0, 0, cs⟩ : Cel)]) = w8 at *
      go_wp2_with (first | refine wpList_storeR rfl _ _ _ rfl hst rfl rfl ?_ | refine wpList_storeR rfl _ _ _ rfl hst2 rfl rfl ?_)
      go_end0
      refine ⟨rfl, HWI.out _ HG8.out, ?_⟩
      rw [HE.out]
      refine HFIN.out _ HG8.out ?_
      unfold layL
      rw [if_pos H2.out]
      exact HO8.out
    · have d5 : (cw == 2) = false := beq_eq_false_iff_ne.2 h2
      go_wp2_with (refine wpList_storeR rfl _ _ _ rfl hst rfl rfl ?_)
      go_end0
      refine ⟨rfl, HWI.out _ HG7.out, ?_⟩
      rw [HE.out]
      refine HFIN.out _ HG7.out ?_
      unfold layL
      rw [if_neg h2]
      exact HO7.out
end Go.Proofs.YtjclgoiclbkgjaaGreatDoor

/- copy and clear in a buffer of one's own. -/
namespace Go.Proofs.YtjclgoiclbkgjaaGreatDoor
open Go.RowKit

theorem copy_own {P : Program} {t e : TypeId} {size : Nat} (ht : P.underlying t = some (.slice e)) (hs : (P.info? e).map (·.size) = some size) {w : World} {base b off n c : Nat} {xs : List Value} (h : OwnC w base size (.slice (some ⟨b, off, none⟩) n c) n xs)
    (x m c1 : Nat) (d : Addr) (hd : 0 < m → d = ⟨b, off + x * size, none⟩) (hx : x + m ≤ n) {y : Value} {k : Nat} {ys : List Value} (hr : Reads w size y k ys) (h1 : ∀ u ∈ ys, u.oneCell' = true) (ty : TypeId) :
    (Builtin.copy_ #[t, t] ty #[.slice (some d) m c1, y]).run P w = .ok (goInt (Nat.min k m)) (w.setCells b (off + x * size) (ys.take (Nat.min k m * size))) := by
  obtain ⟨i, hi, hi2⟩ := Option.map_eq_some_iff.1 hs
  obtain ⟨e1, h2⟩ := h
  rcases h2 with ⟨e, _⟩ | ⟨b', off', c', e, hb, hbs, hnc, hcm, hcells, hxs⟩
  · simp at e
  simp only [Value.slice.injEq, Option.some.injEq, Addr.mk.injEq] at e
  obtain ⟨⟨rfl, rfl, _⟩, _, rfl⟩ := e
  have hst : (storeCells d (ys.take (Nat.min k m * size))).run P w = .ok () (w.setCells b (off + x * size) (ys.take (Nat.min k m * size))) := by
    rcases Nat.eq_zero_or_pos m with h0 | h0
    · have : ys.take (Nat.min k m * size) = [] := by rw [h0, show Nat.min k 0 = 0 from Nat.min_zero k, Nat.zero_mul]; simp
      rw [this]; rfl
    · rw [hd h0]
      have hlen : (ys.take (Nat.min k m * size)).length ≤ m * size := by
        rw [List.length_take]
        exact Nat.le_trans (Nat.min_le_left _ _) (Nat.mul_le_mul_right _ (Nat.min_le_right k m))
      have hin : ∀ j, j < (ys.take (Nat.min k m * size)).length → x * size + j < c * size := fun j hj => by
        have a1 : x * size + m * size ≤ c * size := by rw [← Nat.add_mul]; exact Nat.mul_le_mul_right _ (by omega)
        omega
      have := run_storeCells_cells (P := P) b (off + x * size) (ys.take (Nat.min k m * size)) 0 w (fun j hj => by
          have := (hcells _ (hin j hj)).1
          rwa [← Nat.add_assoc] at this) (fun j hj => by
          have := (hcells _ (hin j hj)).2
          rwa [← Nat.add_assoc] at this) (fun v hv => h1 v (List.mem_of_mem_take hv))
      rwa [Nat.add_zero] at this
  rcases hr with ⟨rfl, rfl, rfl⟩ | ⟨a, c2, rfl, hl, hc⟩
  · have hz : Nat.min 0 m = 0 := Nat.zero_min m
    rw [hz] at hst ⊢
    simp only [List.take_nil] at hst ⊢
    simp [Builtin.copy_, run_underlying ht, Builtin.lenOf, Builtin.firstCells, sizeOf, typeInfo, hi, storeCells, World.setCells]
  · have hll : (ys.take (Nat.min k m * size)).length = Nat.min k m * size := by
      rw [List.length_take, hl]
      exact Nat.min_eq_left (Nat.mul_le_mul_right _ (Nat.min_le_left k m))
    have hld := run_loadCells_list (P := P) w a (ys.take (Nat.min k m * size)) (fun j v hv => by
      rw [List.getElem?_take] at hv
      split at hv
      · exact hc j v hv
      · simp at hv)
    rw [hll] at hld
    simp [Builtin.copy_, run_underlying ht, Builtin.lenOf, Builtin.firstCells, sizeOf, typeInfo, hi, hi2, hld, hst]
/-- What lies in the buffer then. -/
theorem copy_owned {w : World} {base size b off n c : Nat} {xs : List Value} (h : OwnC w base size (.slice (some ⟨b, off, none⟩) n c) n xs) (x : Nat) (vs : List Value) (hx : x * size + vs.length ≤ n * size) :
    OwnC (w.setCells b (off + x * size) vs) base size (.slice (some ⟨b, off, none⟩) n c) n (putAt xs (x * size) vs) := ownC_put h (x * size) vs hx
/-- l[x:y], at the end of the array, too. -/
theorem slice_lh' {P : Program} {t e : TypeId} {size : Nat} (ht : P.underlying t = some (.slice e)) (hs : (P.info? e).map (·.size) = some size) (b off n c x y : Nat) (h1 : x ≤ y) (h2 : y ≤ c) :
    ∃ a : Addr, (∀ wx, (Instr.slice t (.slice (some ⟨b, off, none⟩) n c) (some (.int .i64 (x : Int))) (some (.int .i64 (y : Int))) none).run P wx = .ok (.slice (some a) (y - x) (c - x)) wx) ∧ (x < y → a = ⟨b, off + x * size, none⟩) := by
  by_cases hx : x < c
  · exact ⟨_, slice_lh ht hs b off n c x y h1 h2 hx, fun _ => rfl⟩
  · have hxc : x = c := by omega
    have hyc : y = c := by omega
    subst hxc hyc
    refine ⟨⟨b, off, none⟩, fun wx => ?_, fun h => by omega⟩
    have hel : P.elem t = e := by simp [Program.elem, ht]
    rw [run_slice_lh wx t _ _ y (elem_of ht) .i64 .i64 _ _ (by omega) (by omega) (by omega), hel, run_sizeN hs, Int.toNat_natCast]
    show Result.ok (sliced _ y y y size) wx = _
    unfold sliced
    rw [if_pos rfl]
/-- l[x:], at the end of the array, too. -/
theorem slice_l' {P : Program} {t e : TypeId} {size : Nat} (ht : P.underlying t = some (.slice e)) (hs : (P.info? e).map (·.size) = some size) (b off n c x : Nat) (h1 : x ≤ n) (h2 : n ≤ c) :
    ∃ a : Addr, (∀ wx, (Instr.slice t (.slice (some ⟨b, off, none⟩) n c) (some (.int .i64 (x : Int))) none none).run P wx = .ok (.slice (some a) (n - x) (c - x)) wx) ∧ (x < n → a = ⟨b, off + x * size, none⟩) := by
  by_cases hx : x < c
  · exact ⟨_, slice_l ht hs b off n c x h1 hx, fun _ => rfl⟩
  · have hxc : x = c := by omega
    have hyc : n = c := by omega
    subst hxc hyc
    refine ⟨⟨b, off, none⟩, fun wx => ?_, fun h => by omega⟩
    have hel : P.elem t = e := by simp [Program.elem, ht]
    rw [run_slice_l wx t _ _ n (elem_of ht) .i64 _ (by omega) (by omega), hel, run_sizeN hs, Int.toNat_natCast]
    show Result.ok (sliced _ n n n size) wx = _
    unfold sliced
    rw [if_pos rfl]
theorem reads_sub {w : World} {base size b off n c : Nat} {xs : List Value} (h : OwnC w base size (.slice (some ⟨b, off, none⟩) n c) n xs) (x y c1 : Nat) (a : Addr) (ha : x < y → a = ⟨b, off + x * size, none⟩) (h1 : x ≤ y) (h2 : y ≤ n) :
    Reads w size (.slice (some a) (y - x) c1) (y - x) ((xs.drop (x * size)).take ((y - x) * size)) := by
  obtain ⟨e1, h2'⟩ := h
  rcases h2' with ⟨e, _⟩ | ⟨b', off', c', e, hb, hbs, hnc, hcm, hcells, hxs⟩
  · simp at e
  simp only [Value.slice.injEq, Option.some.injEq, Addr.mk.injEq] at e
  obtain ⟨⟨rfl, rfl, _⟩, _, rfl⟩ := e
  have hle : x * size + (y - x) * size ≤ xs.length := by
    rw [e1, ← Nat.add_mul]; exact Nat.mul_le_mul_right _ (by omega)
  refine .inr ⟨a, c1, rfl, by rw [List.length_take, List.length_drop]; omega, fun j u hu => ?_⟩
  rw [List.getElem?_take] at hu
  split at hu
  · rename_i hj
    have hxy : x < y := by
      rcases Nat.lt_or_ge x y with h' | h'
      · exact h'
      · rw [show y - x = 0 by omega, Nat.zero_mul] at hj; omega
    rw [ha hxy, add_eq]
    rw [List.getElem?_drop] at hu
    have := hxs _ u hu
    rwa [← Nat.add_assoc] at this
  · simp at hu
theorem rowVals_one (L : List (Value × Rw)) (h : ∀ x ∈ L, ∃ a n c, x.1 = Value.slice a n c) : ∀ u ∈ rowVals L, u.oneCell' = true := by
  intro u hu
  obtain ⟨x, hx, hu⟩ := List.mem_flatMap.1 hu
  obtain ⟨a, n, c, e⟩ := h x hx
  rw [e] at hu
  simp only [List.mem_cons, List.not_mem_nil, or_false] at hu
  rcases hu with rfl | rfl <;> rfl
end Go.Proofs.YtjclgoiclbkgjaaGreatDoor

/- What a reflow computes: plain laws. -/
namespace Go.Proofs.YtjclgoiclbkgjaaGreatDoor
open Go.RowKit

theorem trimM_step (l : List Cel) (mark : Int) : trimM l mark = if mark < (l.length : Int) - 1 ∧ l ≠ [] ∧ isPlain (l.getD (l.length - 1) noC) = true then trimM (l.take (l.length - 1)) mark else l := by
  cases l with
  | nil => rw [if_neg (fun e => e.2.1 rfl)]; rfl
  | cons c l =>
    have e1 : ((c :: l).take ((c :: l).length - 1)).length = l.length := by rw [List.length_take, List.length_cons]; omega
    unfold trimM
    rw [e1]
    rfl
theorem trimF_take (n : Nat) (l : List Cel) (mark : Int) : ∃ k, k ≤ l.length ∧ trimF n l mark = l.take k := by
  induction n generalizing l with
  | zero => exact ⟨l.length, Nat.le_refl _, (List.take_length (l := l)).symm⟩
  | succ n ih =>
    unfold trimF
    split
    · obtain ⟨k, hk, e⟩ := ih (l.take (l.length - 1))
      rw [List.length_take] at hk
      refine ⟨k, by omega, ?_⟩
      rw [e, List.take_take, Nat.min_eq_left (by omega)]
    · exact ⟨l.length, Nat.le_refl _, (List.take_length (l := l)).symm⟩
theorem trimM_len (l : List Cel) (mark : Int) : (trimM l mark).length ≤ l.length := by
  obtain ⟨k, hk, e⟩ := trimF_take l.length l mark
  unfold trimM
  rw [e, List.length_take]; omega
theorem trimM_mem {l : List Cel} {mark : Int} {c : Cel} (h : c ∈ trimM l mark) : c ∈ l := by
  obtain ⟨k, hk, e⟩ := trimF_take l.length l mark
  unfold trimM at h
  rw [e] at h
  exact List.mem_of_mem_take h
theorem trimR_step (l : List Rw) (py : Int) : trimR l.length l py = if py < (l.length : Int) - 1 ∧ l ≠ [] ∧ (l.getD (l.length - 1) noR).wrap = false ∧ (l.getD (l.length - 1) noR).cells.all isPlain = true then trimR (l.take (l.length - 1)).length (l.take (l.length - 1)) py else l := by
  cases l with
  | nil => rw [if_neg (fun e => e.2.1 rfl)]; rfl
  | cons c l =>
    have e1 : ((c :: l).take ((c :: l).length - 1)).length = l.length := by rw [List.length_take, List.length_cons]; omega
    rw [e1]
    have e2 : trimR (c :: l).length (c :: l) py = if py < ((c :: l).length : Int) - 1 ∧ ((c :: l).getD ((c :: l).length - 1) noR).wrap = false ∧ ((c :: l).getD ((c :: l).length - 1) noR).cells.all isPlain = true then trimR l.length ((c :: l).take ((c :: l).length - 1)) py else c :: l := rfl
    rw [e2]
    simp only [ne_eq, reduceCtorEq, not_false_eq_true, true_and]
/-- A row as a grid of so many columns wants it. -/
def Rw.Good (cols : Nat) (r : Rw) : Prop := r.cells.length = cols ∧ ∀ c ∈ r.cells, c.Ok
structure SpI (cols : Nat) (st : Sp) : Prop where
  cur : st.cur.length ≤ cols
  ok : ∀ c ∈ st.cur, c.Ok
  done : ∀ r ∈ st.done, r.Good cols
  told : ∀ q, st.told = some q → 0 ≤ q.2 ∧ q.2 ≤ (st.done.length : Int)
theorem spLay_i {cols : Nat} {mark : Int} {st : Sp} (h : SpI cols st) (i : Nat) (c : Cel) (hc : c.Ok) (h1 : 1 ≤ cols) : SpI cols (spLay cols mark st i c) ∧ (spLay cols mark st i c).done.length ≤ st.done.length + 1 := by
  unfold spLay
  generalize hcur1 : (if c.width = 2 ∧ st.cur.length = cols - 1 then st.cur ++ [blankC plainS] else st.cur) = cur1
  have a1 : cur1.length ≤ cols ∧ ∀ c ∈ cur1, c.Ok := by
    rw [← hcur1]
    split
    · rename_i h2
      refine ⟨by rw [List.length_append]; simp; omega, fun x hx => ?_⟩
      rcases List.mem_append.1 hx with hx | hx
      · exact h.ok x hx
      · rw [List.mem_singleton] at hx; subst hx; exact blank_ok _
    · exact ⟨h.cur, h.ok⟩
  dsimp only
  by_cases hf : cur1.length = cols
  · simp only [if_pos hf]
    refine ⟨⟨by show ([] ++ [c]).length ≤ cols; simpa using h1, fun x hx => ?_, fun r hr => ?_, fun q hq => ?_⟩, by rw [List.length_append]; simp⟩
    · simp only [List.nil_append, List.mem_singleton] at hx; subst hx; exact hc
    · rcases List.mem_append.1 hr with hr | hr
      · exact h.done r hr
      · rw [List.mem_singleton] at hr; subst hr; exact ⟨hf, a1.2⟩
    · dsimp only at hq
      split at hq
      · injection hq with hq; subst hq; dsimp only; omega
      · have := h.told q hq
        rw [List.length_append]; simp; omega
  · simp only [if_neg hf]
    refine ⟨⟨by rw [List.length_append]; simp; omega, fun x hx => ?_, h.done, fun q hq => ?_⟩, by omega⟩
    · rcases List.mem_append.1 hx with hx | hx
      · exact a1.2 x hx
      · rw [List.mem_singleton] at hx; subst hx; exact hc
    · dsimp only at hq
      split at hq
      · injection hq with hq; subst hq; dsimp only; omega
      · exact h.told q hq
theorem spStep_i {cols : Nat} {mark : Int} {st : Sp} (h : SpI cols st) (i : Nat) (c : Cel) (hc : c.Ok) (h1 : 1 ≤ cols) : SpI cols (spStep cols mark st i c) ∧ (spStep cols mark st i c).done.length ≤ st.done.length + 1 := by
  unfold spStep
  split
  · split
    · refine ⟨⟨h.cur, h.ok, h.done, fun q hq => ?_⟩, by dsimp only; omega⟩
      dsimp only at hq
      split at hq
      · injection hq with hq; subst hq; dsimp only; omega
      · exact h.told q hq
    · exact spLay_i h i _ (blank_ok _) h1
  · exact spLay_i h i c hc h1
theorem spRun_i {cols : Nat} {mark : Int} (l : List Cel) (hl : ∀ c ∈ l, c.Ok) (h1 : 1 ≤ cols) : ∀ (st : Sp) (i : Nat), SpI cols st → SpI cols (spRun cols mark st i l) ∧ (spRun cols mark st i l).done.length ≤ st.done.length + l.length := by
  induction l with
  | nil => intro st i h; exact ⟨h, Nat.le_refl _⟩
  | cons c l ih =>
    intro st i h
    obtain ⟨a, b⟩ := spStep_i (mark := mark) h i c (hl c (List.mem_cons_self ..)) h1
    obtain ⟨a2, b2⟩ := ih (fun x hx => hl x (List.mem_cons_of_mem _ hx)) _ (i + 1) a
    refine ⟨a2, ?_⟩
    show (spRun cols mark (spStep cols mark st i c) (i + 1) l).done.length ≤ _
    rw [List.length_cons]; omega
theorem splitG_i (l : List Cel) (cols : Nat) (mark : Int) (hl : ∀ c ∈ l, c.Ok) (h1 : 1 ≤ cols) : SpI cols (splitG l cols mark) ∧ (splitG l cols mark).done.length ≤ l.length := by
  have := spRun_i (mark := mark) l hl h1 ⟨[], [], none⟩ 0 ⟨by simp, by simp, by simp, by simp⟩
  refine ⟨this.1, ?_⟩
  have h2 := this.2
  simp only [List.length_nil, Nat.zero_add] at h2
  exact h2
theorem spEnd_len (cols : Nat) (st : Sp) : (spEnd cols st).length = st.done.length + 1 := by unfold spEnd; simp
theorem spEnd_good {cols : Nat} {st : Sp} (h : SpI cols st) : ∀ r ∈ spEnd cols st, r.Good cols := fun r hr => by
  unfold spEnd at hr
  rcases List.mem_append.1 hr with hr | hr
  · exact h.done r hr
  · rw [List.mem_singleton] at hr
    subst hr
    refine ⟨?_, fun c hc => ?_⟩
    · show (st.cur ++ List.replicate _ _).length = cols
      rw [List.length_append, List.length_replicate]; have := h.cur; omega
    · rcases List.mem_append.1 hc with hc | hc
      · exact h.ok c hc
      · rw [List.eq_of_mem_replicate hc]; exact blank_ok _
theorem wrapLast_len (l : List Rw) (is : Bool) : (wrapLast l is).length = l.length := by unfold wrapLast; rw [List.length_set]
theorem wrapLast_good {cols : Nat} {l : List Rw} (is : Bool) (hne : l ≠ []) (h : ∀ r ∈ l, r.Good cols) : ∀ r ∈ wrapLast l is, r.Good cols := fun r hr => by
  unfold wrapLast at hr
  rcases List.mem_or_eq_of_mem_set hr with hr | hr
  · exact h r hr
  · have hm : l.getD (l.length - 1) noR ∈ l := by
      have : 0 < l.length := List.length_pos_iff.2 hne
      rw [List.getD_eq_getElem?_getD, List.getElem?_eq_getElem (by omega)]
      exact List.getElem_mem _
    have h2 := h _ hm
    rw [hr]
    exact ⟨h2.1, h2.2⟩
structure FlI (cols : Nat) (st : Fl) : Prop where
  good : ∀ r ∈ st.out, r.Good cols
  p0 : 0 ≤ st.py
  p1 : st.py ≤ (st.out.length : Int)
theorem flEnd_i {cols : Nat} {st : Fl} (h : FlI cols st) (line : List Cel) (mark : Int) (wrap : Bool) (hl : ∀ c ∈ line, c.Ok) (h1 : 1 ≤ cols) : FlI cols (flEnd cols line mark wrap st) ∧ (flEnd cols line mark wrap st).out.length ≤ st.out.length + line.length + 1 ∧ st.out.length + 1 ≤ (flEnd cols line mark wrap st).out.length ∧ (flEnd cols line mark wrap st).py < (flEnd cols line mark wrap st).out.length := by
  obtain ⟨a, b⟩ := splitG_i (trimM line mark) cols mark (fun c hc => hl c (trimM_mem hc)) h1
  have hll := trimM_len line mark
  have e : (flEnd cols line mark wrap st).out = st.out ++ wrapLast (spEnd cols (splitG (trimM line mark) cols mark)) wrap := rfl
  have e2 : (flEnd cols line mark wrap st).out.length = st.out.length + (splitG (trimM line mark) cols mark).done.length + 1 := by
    rw [e, List.length_append, wrapLast_len, spEnd_len]; omega
  have e3 : (flEnd cols line mark wrap st).py = match (splitG (trimM line mark) cols mark).told with | some q => (st.out.length : Int) + q.2 | none => st.py := rfl
  have h3 : 0 ≤ (flEnd cols line mark wrap st).py ∧ (flEnd cols line mark wrap st).py < (flEnd cols line mark wrap st).out.length := by
    rw [e2, e3]
    split
    · rename_i q hq
      have := a.told q hq
      show 0 ≤ (st.out.length : Int) + q.2 ∧ (st.out.length : Int) + q.2 < _
      omega
    · have := h.p0; have := h.p1; omega
  refine ⟨⟨fun r hr => ?_, h3.1, by omega⟩, by omega, by omega, h3.2⟩
  rw [e] at hr
  rcases List.mem_append.1 hr with hr | hr
  · exact h.good r hr
  · exact wrapLast_good wrap (by unfold spEnd; simp) (spEnd_good a) r hr
theorem flRun_i {cols : Nat} {place atx : Int} (h1 : 1 ≤ cols) (m : Nat) (l : List Rw) (hl : ∀ r ∈ l, r.Good m) : ∀ (i : Nat) (line : List Cel) (mark : Int) (st : Fl), FlI cols st → (∀ c ∈ line, c.Ok) →
    FlI cols (flRun cols place atx l i line mark st) ∧ (l ≠ [] → (flRun cols place atx l i line mark st).py < (flRun cols place atx l i line mark st).out.length) := by
  induction l with
  | nil => intro i line mark st h _; exact ⟨h, fun e => absurd rfl e⟩
  | cons r l ih =>
    intro i line mark st h ho
    have hr := hl r (List.mem_cons_self ..)
    have ho2 : ∀ c ∈ line ++ r.cells, c.Ok := fun c hc => by
      rcases List.mem_append.1 hc with hc | hc
      · exact ho c hc
      · exact hr.2 c hc
    have ih2 := ih (fun x hx => hl x (List.mem_cons_of_mem _ hx))
    show FlI cols (if _ then _ else _) ∧ (_ → (if _ then _ else _ : Fl).py < (if _ then _ else _ : Fl).out.length)
    by_cases hc : r.wrap = false ∨ l = []
    · simp only [if_pos hc]
      obtain ⟨a, _, _, d⟩ := flEnd_i h (line ++ r.cells) (if (i : Int) = place then (line.length : Int) + atx else mark) r.wrap ho2 h1
      obtain ⟨a2, b2⟩ := ih2 (i + 1) [] (-1) _ a (by simp)
      refine ⟨a2, fun _ => ?_⟩
      by_cases hne : l = []
      · subst hne; exact d
      · exact b2 hne
    · simp only [if_neg hc]
      have hne : l ≠ [] := fun e => hc (.inr e)
      obtain ⟨a2, b2⟩ := ih2 (i + 1) (line ++ r.cells) (if (i : Int) = place then (line.length : Int) + atx else mark) st h ho2
      exact ⟨a2, fun _ => b2 hne⟩
theorem flow_wf {g : Gr} (h : g.WF) (cols rows : Nat) (out : List Rw) (first : Nat) (c1 : 1 ≤ cols) (c2 : cols ≤ 250) (r1 : 1 ≤ rows) (r2 : rows ≤ 120) (hg : ∀ r ∈ out, r.Good cols) :
    (⟨cols, g.limit, (out.drop first).take rows ++ freshL (rows - ((out.drop first).take rows).length) cols plainS, keepL g.limit (out.take first)⟩ : Gr).WF := by
  have hlt : ((out.drop first).take rows).length ≤ rows := by rw [List.length_take]; omega
  refine ⟨c1, c2, ?_, ?_, h.li, ?_, fun r hr => ?_⟩
  · show 1 ≤ (_ ++ freshL _ _ _).length
    unfold freshL; rw [List.length_append, List.length_replicate]; omega
  · show (_ ++ freshL _ _ _).length ≤ 120
    unfold freshL; rw [List.length_append, List.length_replicate]; omega
  · show (keepL g.limit _).length ≤ g.limit
    unfold keepL; rw [List.length_drop]; omega
  · have hr : r ∈ ((out.drop first).take rows ++ freshL (rows - ((out.drop first).take rows).length) cols plainS) ++ keepL g.limit (out.take first) := hr
    show r.cells.length = cols ∧ _
    rcases List.mem_append.1 hr with hr | hr
    · rcases List.mem_append.1 hr with hr | hr
      · exact hg r (List.mem_of_mem_drop (List.mem_of_mem_take hr))
      · unfold freshL at hr
        rw [List.eq_of_mem_replicate hr]
        exact ⟨List.length_replicate, fun c hc => by rw [List.eq_of_mem_replicate hc]; exact blank_ok _⟩
    · unfold keepL at hr
      exact hg r (List.mem_of_mem_take (List.mem_of_mem_drop hr))
end Go.Proofs.YtjclgoiclbkgjaaGreatDoor

/- What a reflow keeps: the runes, in their order. -/
namespace Go.Proofs.YtjclgoiclbkgjaaGreatDoor
open Go.RowKit

theorem take_lastC (l : List Cel) (h : l ≠ []) : l = l.take (l.length - 1) ++ [l.getD (l.length - 1) noC] := by
  have hp : 0 < l.length := List.length_pos_iff.2 h
  have := take_succ_getD l noC (l.length - 1) (by omega)
  rw [show l.length - 1 + 1 = l.length by omega, List.take_length] at this
  exact this
end Go.Proofs.YtjclgoiclbkgjaaGreatDoor

/- The law GridFlows, plain: a reflow keeps all runes, and tells where the last place's cell lies. -/
namespace Go.Proofs.YtjclgoiclbkgjaaGreatDoor
open Go.RowKit

end Go.Proofs.YtjclgoiclbkgjaaGreatDoor

/- The law GridBack, plain: rows that are not wrapped, laid anew in a wider and higher grid, and back. -/
namespace Go.Proofs.YtjclgoiclbkgjaaGreatDoor
open Go.RowKit

theorem isPlain_eq {c : Cel} (h : isPlain c = true) : c = blankC plainS := by
  obtain ⟨r, w, ⟨f, b, a⟩⟩ := c
  unfold isPlain at h
  simp only [Bool.and_eq_true, beq_iff_eq] at h
  obtain ⟨rfl, rfl, rfl, rfl, rfl⟩ := h
  rfl
theorem trimF_pad (n : Nat) (l : List Cel) (mark : Int) : ∃ k, trimF n l mark ++ List.replicate k (blankC plainS) = l := by
  induction n generalizing l with
  | zero => exact ⟨0, by simp [trimF]⟩
  | succ n ih =>
    unfold trimF
    split
    · rename_i hc
      obtain ⟨k, e⟩ := ih (l.take (l.length - 1))
      refine ⟨k + 1, ?_⟩
      rw [List.replicate_succ', ← List.append_assoc, e]
      have h1 := take_lastC l hc.2.1
      rw [isPlain_eq hc.2.2] at h1
      exact h1.symm
    · exact ⟨0, by simp⟩
theorem trimM_pad (l : List Cel) (mark : Int) : ∃ k, trimM l mark ++ List.replicate k (blankC plainS) = l := trimF_pad _ _ _
/-- Cells that one row of so many columns takes, one behind the other. -/
def Lays (cols : Nat) (l : List Cel) : Prop := l.length ≤ cols ∧ ∀ j, j < l.length → ((l.getD j noC).width = 2 → j + 1 ≠ cols) ∧ (cols = 1 → (l.getD j noC).width = 1)
theorem lays_take {cols : Nat} {l m : List Cel} (h : Lays cols (l ++ m)) : Lays cols l := by
  refine ⟨by have := h.1; rw [List.length_append] at this; omega, fun j hj => ?_⟩
  have := h.2 j (by rw [List.length_append]; omega)
  rw [List.getD_eq_getElem?_getD, List.getElem?_append_left hj, ← List.getD_eq_getElem?_getD] at this
  exact this
/-- A row that lies in c columns, and is not wrapped. -/
def Fit (c : Nat) (r : Rw) : Prop := r.wrap = false ∧ r.cells.length = c ∧ (r.cells.getD (c - 1) noC).width ≠ 2 ∧ (c = 1 → (r.cells.getD (c - 1) noC).width = 1)
theorem Fit.lays {c cols : Nat} {r : Rw} (h : Fit c r) (hc : c ≤ cols) (h1 : 1 ≤ c) (mark : Int) : Lays cols (trimM r.cells mark) := by
  obtain ⟨k, e⟩ := trimM_pad r.cells mark
  refine lays_take (m := List.replicate k (blankC plainS)) ?_
  rw [e]
  obtain ⟨_, h2, h3, h4⟩ := h
  refine ⟨by omega, fun j hj => ⟨fun e2 e3 => ?_, fun e2 => ?_⟩⟩
  · have : j = c - 1 := by omega
    subst this
    exact h3 e2
  · have h5 : j = c - 1 := by omega
    rw [h5]
    exact h4 (by omega)
end Go.Proofs.YtjclgoiclbkgjaaGreatDoor

/- What the rows of a grid have in common: kept by New, Up and Put. -/
namespace Go.Proofs.YtjclgoiclbkgjaaGreatDoor
open Go.RowKit

/-- All rows of a grid. -/
def Gr.All (g : Gr) (P : Rw → Prop) : Prop := ∀ x ∈ g.old ++ g.rows, P x
theorem all_new (c r l : Nat) (P : Rw → Prop) (h : P (blankR c plainS)) : (newG c r l).All P := fun x hx => by
  have hx : x ∈ freshL r c plainS := by simpa [newG] using hx
  unfold freshL at hx
  rw [List.eq_of_mem_replicate hx]
  exact h
theorem upRows_mem {rows : List Rw} {t b n c : Nat} {s : Sty} {x : Rw} (h : x ∈ upRows rows t b n c s) : x ∈ rows ∨ x = blankR c s := by
  unfold upRows freshL at h
  simp only [List.mem_append] at h
  rcases h with ((h | h) | h) | h
  · exact .inl (List.mem_of_mem_take h)
  · exact .inl (List.mem_of_mem_drop (List.mem_of_mem_take h))
  · exact .inr (List.eq_of_mem_replicate h)
  · exact .inl (List.mem_of_mem_drop h)
theorem downRows_mem {rows : List Rw} {t b n c : Nat} {s : Sty} {x : Rw} (h : x ∈ downRows rows t b n c s) : x ∈ rows ∨ x = blankR c s := by
  unfold downRows freshL at h
  simp only [List.mem_append] at h
  rcases h with ((h | h) | h) | h
  · exact .inl (List.mem_of_mem_take h)
  · exact .inr (List.eq_of_mem_replicate h)
  · exact .inl (List.mem_of_mem_drop (List.mem_of_mem_take h))
  · exact .inl (List.mem_of_mem_drop h)
theorem all_up {g : Gr} {P : Rw → Prop} (h : g.All P) (t b n : Int) (s : Sty) (k : Bool) (hb : okS s = true → P (blankR g.cols s)) : (g.up t b n s k).All P := by
  unfold Gr.up
  split
  · exact h
  · rename_i h0
    have hs : okS s = true := by
      cases hs : okS s
      · refine absurd ?_ h0
        unfold regionN
        rw [if_pos (.inr (.inr (.inr hs)))]
      · rfl
    intro x hx
    rcases List.mem_append.1 hx with hx | hx
    · dsimp only at hx
      split at hx
      · unfold keepL at hx
        rcases List.mem_append.1 (List.mem_of_mem_drop hx) with hx | hx
        · exact h x (List.mem_append_left _ hx)
        · exact h x (List.mem_append_right _ (List.mem_of_mem_drop (List.mem_of_mem_take hx)))
      · exact h x (List.mem_append_left _ hx)
    · rcases upRows_mem hx with hx | hx
      · exact h x (List.mem_append_right _ hx)
      · rw [hx]; exact hb hs
theorem all_down {g : Gr} {P : Rw → Prop} (h : g.All P) (t b n : Int) (s : Sty) (hb : okS s = true → P (blankR g.cols s)) : (g.down t b n s).All P := by
  unfold Gr.down
  split
  · exact h
  · rename_i h0
    have hs : okS s = true := by
      cases hs : okS s
      · refine absurd ?_ h0
        unfold regionN
        rw [if_pos (.inr (.inr (.inr hs)))]
      · rfl
    intro x hx
    rcases List.mem_append.1 hx with hx | hx
    · exact h x (List.mem_append_left _ hx)
    · rcases downRows_mem hx with hx | hx
      · exact h x (List.mem_append_right _ hx)
      · rw [hx]; exact hb hs
theorem all_turn {g : Gr} {P : Rw → Prop} (h : g.All P) (y : Nat) (f : List Cel → List Cel) (hy : y < g.rows.length) (hf : ∀ r, P r → P { r with cells := f r.cells }) : (g.turn y f).All P := fun x hx => by
  rcases List.mem_append.1 hx with hx | hx
  · exact h x (List.mem_append_left _ hx)
  · rcases List.mem_or_eq_of_mem_set hx with hx | hx
    · exact h x (List.mem_append_right _ hx)
    · rw [hx]
      refine hf _ (h _ (List.mem_append_right _ ?_))
      rw [List.getD_eq_getElem?_getD, List.getElem?_eq_getElem hy]
      exact List.getElem_mem _
theorem putOk_iff {g : Gr} {x y : Int} {q : Cel} (h : g.putOk x y q = true) : 0 ≤ y ∧ y < (g.rows.length : Int) ∧ 0 ≤ x ∧ okS q.sty = true ∧ 1 ≤ q.width ∧ q.width = wid q.rune ∧ x + q.width ≤ (g.cols : Int) := by
  unfold Gr.putOk Gr.onIt at h
  simp only [Bool.and_eq_true, decide_eq_true_eq, beq_iff_eq] at h
  exact ⟨h.1.1, h.1.2.1, h.1.2.2.1, h.1.2.2.2.2, h.2.1, h.2.2.1, h.2.2.2⟩
theorem all_put {g : Gr} {P : Rw → Prop} (h : g.All P) (x y : Int) (q : Cel) (hf : 0 ≤ x → okS q.sty = true → q.width = 1 ∨ q.width = 2 → x + q.width ≤ (g.cols : Int) → ∀ r, P r → P { r with cells := layL r.cells x.toNat q }) : (g.put x y q).All P := by
  unfold Gr.put
  split
  · rename_i h0
    obtain ⟨h1, h2, h3, h4, h5, h6, h7⟩ := putOk_iff h0
    have h8 := wid_le q.rune
    exact all_turn h _ _ (by omega) (hf h3 h4 (by omega) h7)
  · exact h
theorem putAt_getD {l m : List Cel} {x i : Nat} (hx : x + m.length ≤ l.length) : (putAt l x m).getD i noC = if x ≤ i ∧ i < x + m.length then m.getD (i - x) noC else l.getD i noC := by
  unfold putAt
  rw [List.getD_eq_getElem?_getD, List.getD_eq_getElem?_getD, List.getD_eq_getElem?_getD]
  have e1 : (l.take x).length = x := by rw [List.length_take]; omega
  by_cases h1 : i < x
  · rw [if_neg (by omega), List.append_assoc, List.getElem?_append_left (by omega), List.getElem?_take, if_pos h1]
  · by_cases h2 : i < x + m.length
    · rw [if_pos ⟨by omega, h2⟩, List.append_assoc, List.getElem?_append_right (by omega), e1, List.getElem?_append_left (by omega)]
    · rw [if_neg (by omega), List.getElem?_append_right (by rw [List.length_append]; omega), List.length_append, e1, List.getElem?_drop, show x + m.length + (i - (x + m.length)) = i by omega]
theorem layL_size (l : List Cel) (x : Nat) (q : Cel) (hw : q.width = 1 ∨ q.width = 2) (hx : (x : Int) + q.width ≤ (l.length : Int)) : (layL l x q).length = l.length := by
  unfold layL
  rw [putAt_len, cutL_len, cutL_len]
  rw [cutL_len, cutL_len]
  split
  · simp; omega
  · simp; omega
end Go.Proofs.YtjclgoiclbkgjaaGreatDoor
