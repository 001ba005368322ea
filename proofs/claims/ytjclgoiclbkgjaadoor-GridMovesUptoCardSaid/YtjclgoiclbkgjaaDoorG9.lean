/- Walks of package grid: Put. -/
import Derived.Test.YtjclgoiclbkgjaaDoorG8
import Derived.Deep.RegionHeld3
namespace Go.Proofs.YtjclgoiclbkgjaaDoor
open Go.RowKit

def Gr.putOk (g : Gr) (x y : Int) (c : Cel) : Bool := g.onIt x y c.sty && (decide (1 ≤ c.width) && (c.width == wid c.rune && decide (x + c.width ≤ (g.cols : Int))))
def Gr.put (g : Gr) (x y : Int) (c : Cel) : Gr := if g.putOk x y c = true then g.turn y.toNat (fun l => layL l x.toNat c) else g
theorem wid_le (r : Int) : wid r ≤ 2 := by
  unfold wid
  repeat' split
  all_goals decide
theorem putAt_mem {α : Type} {l m : List α} {i : Nat} {x : α} (h : x ∈ putAt l i m) : x ∈ l ∨ x ∈ m := by
  unfold putAt at h
  rcases List.mem_append.1 h with h | h
  · rcases List.mem_append.1 h with h | h
    · exact .inl (List.mem_of_mem_take h)
    · exact .inr h
  · exact .inl (List.mem_of_mem_drop h)
theorem blank_ok (s : Sty) : (blankC s).Ok := ⟨by show (-2147483648 : Int) ≤ 32; decide, by show (32 : Int) ≤ 2147483647; decide⟩
theorem fillL_ok {l : List Cel} {x n : Nat} {s : Sty} (h : ∀ c ∈ l, c.Ok) : ∀ c ∈ fillL l x n s, c.Ok := fun c hc => by
  rcases putAt_mem hc with hc | hc
  · exact h c hc
  · rw [List.eq_of_mem_replicate hc]; exact blank_ok s
theorem cutL_ok {l : List Cel} {x : Int} (h : ∀ c ∈ l, c.Ok) : ∀ c ∈ cutL l x, c.Ok := by
  unfold cutL
  split
  · exact fillL_ok h
  · exact h
theorem putAt_two {α : Type} (l : List α) (x : Nat) (a b : α) (h : x + 2 ≤ l.length) : putAt (putAt l x [a]) (x + 1) [b] = putAt l x [a, b] := by
  apply List.ext_getElem?
  intro j
  rw [putAt_get _ _ _ (by rw [putAt_len _ _ _ (by simp; omega)]; simp; omega), putAt_get _ _ _ (by simp; omega), putAt_get _ _ _ (by simp; omega)]
  simp only [List.length_cons, List.length_nil]
  by_cases c1 : j < x
  · rw [if_pos (by omega), if_pos c1, if_pos c1]
  rw [if_neg c1, if_neg c1]
  by_cases c2 : j < x + 1
  · rw [if_pos c2, if_pos c2, if_pos (by omega), show j - x = 0 by omega]; rfl
  rw [if_neg c2]
  by_cases c3 : j < x + 1 + 1
  · rw [if_pos c3, if_pos (by omega), show j - (x + 1) = 0 by omega, show j - x = 1 by omega]; rfl
  · rw [if_neg c3, if_neg c2, if_neg (by omega)]
theorem layL_len {l : List Cel} {x : Nat} {c : Cel} (h : x + (if c.width = 2 then 2 else 1) ≤ l.length) : (layL l x c).length = l.length := by
  unfold layL
  rw [putAt_len _ _ _ (by
    rw [cutL_len, cutL_len]
    split
    · rename_i h2; rw [if_pos h2] at h; exact h
    · rename_i h2; rw [if_neg h2] at h; exact h), cutL_len, cutL_len]
theorem layL_ok {l : List Cel} {x : Nat} {c : Cel} (h : ∀ c ∈ l, c.Ok) (hc : c.Ok) : ∀ d ∈ layL l x c, d.Ok := fun d hd => by
  unfold layL at hd
  rcases putAt_mem hd with hd | hd
  · exact cutL_ok (cutL_ok h) d hd
  · split at hd
    · rcases List.mem_cons.1 hd with rfl | hd
      · exact hc
      · rw [List.mem_singleton] at hd; subst hd; exact ⟨by show (-2147483648 : Int) ≤ 0; decide, by show (0 : Int) ≤ 2147483647; decide⟩
    · rw [List.mem_singleton] at hd; subst hd; exact hc
set_option maxRecDepth 100000 in
set_option maxHeartbeats 8000000 in
theorem put_any {T : Nat → Nat} {p : Nat} {w : World} {g : Gr} (h : GM T p w g) (x y : Int) (c : Cel) (hs : RightOk c.sty) (hck : c.Ok) :
    Calls Tryd.prog 14 #[.pointer (some ⟨p, 0, none⟩), .int .i64 x, .int .i64 y, c.val] w fun e w' => e = .returned (.tuple #[]) ∧ Within (own T w) w w' ∧ GM T p w' (g.put x y c) := by
  obtain ⟨cr, cw, cs⟩ := c
  dsimp only at hs
  have hBz := Below.alloc (Below.refl w.heap.size w) (Nat.le_refl _) (.cells #[.int .i32 cr, .int .i64 cw, .int .i64 cs.fg, .int .i64 cs.bg, .int .i64 cs.attr] 38)
  have hbk0 := blk_new w (.cells #[.int .i32 cr, .int .i64 cw, .int .i64 cs.fg, .int .i64 cs.bg, .int .i64 cs.attr] 38)
  have HG0 := Lib.hid (h.below hBz)
  have HLT := Lib.hid h.lt
  clear h
  cases hon : g.onIt x y cs
  · have HE := Lib.hid (show g.put x y ⟨cr, cw, cs⟩ = g by unfold Gr.put Gr.putOk; rw [hon]; rfl)
    have HON := Lib.hid (on_no HG0.out x y cs hs hon)
    have hq := fun (wx : World) => Lib.run_eql_slice_nil (P := Tryd.prog) wx 51 38 none 0 0 0 0 Tryd.underlying51
    unfold Sty.val at HON
    unfold Cel.val
    go_enter Tryd.func14, Tryd.ntmps14
    go_wp2_with fail
    refine HON.out.mono ?_
    rintro e w2 ⟨rfl, b2⟩
    have HG2 := Lib.hid (HG0.out.below b2)
    have HB2 := Lib.hid (hBz.trans (b2.mono (by simp)))
    clear b2 HON
    go_wp2_with fail
    go_quiet (fail)
    go_wp2_with fail
    refine ret0w rfl rfl ⟨rfl, Within.of_below (below_drewN HB2.out nq), ?_⟩
    rw [HE.out]
    exact HG2.out.below (below_drewN (Below.refl _ _) nq)
  · have hon' := hon
    unfold Gr.onIt at hon'
    simp only [Bool.and_eq_true, decide_eq_true_eq] at hon'
    obtain ⟨n1, n2, n3, n4, n5⟩ := hon'
    obtain ⟨xn, rfl⟩ : ∃ k : Nat, x = (k : Int) := ⟨x.toNat, by omega⟩
    obtain ⟨yn, rfl⟩ : ∃ k : Nat, y = (k : Int) := ⟨y.toNat, by omega⟩
    obtain ⟨vr, vo, Lr, Lo, hA⟩ := HG0.out
    have hlen := (rows_len hA).1
    have hyl : yn < Lr.length := by omega
    have hcols := hA.wf.c2
    have hrc : Lr[yn].2.cells.length = g.cols := (hA.wf.ce _ (List.mem_append_left _ (by rw [← hA.er]; exact List.mem_map_of_mem (List.getElem_mem hyl)))).1
    have hrok : ∀ c ∈ Lr[yn].2.cells, c.Ok := (hA.wf.ce _ (List.mem_append_left _ (by rw [← hA.er]; exact List.mem_map_of_mem (List.getElem_mem hyl)))).2
    have hgr : g.rows.getD yn noR = Lr[yn].2 := by
      rw [← hA.er, List.getD_eq_getElem?_getD, List.getElem?_map, List.getElem?_eq_getElem hyl]; rfl
    have HON := Lib.hid (on_yes hA xn yn cs hs (by omega) hyl n5)
    have hcx := hA.ca Lr[yn] (List.mem_append_left _ (List.getElem_mem hyl))
    have HC := Lib.hid hcx
    obtain ⟨b, off, vc, hxv, hnc, hcm⟩ := ownC_pos hcx.own (by omega)
    rw [hrc] at hxv hnc
    have HA := Lib.hid hA
    clear hA hcx
    rw [hxv] at HON
    have hq := fun (wx : World) => Lib.run_eql_slice_nil (P := Tryd.prog) wx 51 38 (some ⟨b, off, none⟩) g.cols vc 0 0 Tryd.underlying51
    unfold Sty.val at HON
    unfold Cel.val
    go_enter Tryd.func14, Tryd.ntmps14
    go_wp2_with fail
    refine HON.out.mono ?_
    rintro e w2 ⟨rfl, b2⟩
    have HG2 := Lib.hid (HG0.out.below b2)
    have HA2 := Lib.hid (HA.out.mod (.of_below b2) id id id (fun _ => id))
    have HB2 := Lib.hid (hBz.trans (b2.mono (by simp)))
    have hbk2 := blk_below hbk0 b2 (by simp)
    have c0 : w2.cell? ⟨w.heap.size, 0, none⟩ = some (.int .i32 cr) := blk_cell hbk2 0
    have c1 : w2.cell? ⟨w.heap.size, 1, none⟩ = some (.int .i64 cw) := blk_cell hbk2 1
    have c2 : w2.cell? ⟨w.heap.size, 2, none⟩ = some (.int .i64 cs.fg) := blk_cell hbk2 2
    have c3 : w2.cell? ⟨w.heap.size, 3, none⟩ = some (.int .i64 cs.bg) := blk_cell hbk2 3
    have c4 : w2.cell? ⟨w.heap.size, 4, none⟩ = some (.int .i64 cs.attr) := blk_cell hbk2 4
    clear b2 HON hbk0
    by_cases hw1 : 1 ≤ cw
    rotate_left
    · have d1 : decide (cw < 1) = true := decide_eq_true (by omega)
      have HE := Lib.hid (show g.put xn yn ⟨cr, cw, cs⟩ = g by unfold Gr.put Gr.putOk; rw [decide_eq_false hw1]; simp)
      go_wp2_with fail
      go_quiet (fail)
      go_wp2_with fail
      refine ret0w rfl rfl ⟨rfl, Within.of_below (below_drewN HB2.out nq), ?_⟩
      rw [HE.out]
      exact HG2.out.below (below_drewN (Below.refl _ _) nq)
    have d1 : decide (cw < 1) = false := decide_eq_false (by omega)
    have hwl := wid_le cr
    have hlt3 : w.heap.size < w2.heap.size := heap_lt hbk2
    have g0 := (gm_cells HA2.out).1
    have hbw := Below.refl w2.heap.size w2
    have HA3 := Lib.hid (HA2.out.mod (.of_below (Below.refl _ _).drew) id id id (fun _ => id))
    have HB3 := Lib.hid HB2.out.drew
    by_cases hw2 : cw = wid cr
    rotate_left
    · have d2 : (cw != wid cr) = true := by simp [bne, beq_eq_false_iff_ne.2 hw2]
      have HE := Lib.hid (show g.put xn yn ⟨cr, cw, cs⟩ = g by unfold Gr.put Gr.putOk; rw [beq_eq_false_iff_ne.2 hw2]; simp)
      go_upto_region 2 with fail
      refine wp_region_held_drew (S := (fun w' => w'.cell? ⟨w.heap.size, 0, none⟩ = some (.int .i32 cr) ∧ w'.cell? ⟨w.heap.size, 1, none⟩ = some (.int .i64 cw) ∧ w'.cell? ⟨p, 0, none⟩ = some (.int .i64 g.cols))) (by kernel_rfl) ⟨c0, c1, g0⟩ (fun hHeld => ?_)
      refine wpAnyH_take (i := 0) (oi := ?o201) (v := ?v0) ?h201 (by kernel_rfl) (by kernel_rfl) (by kernel_rfl) ?q201 (Or.inl ⟨?w201, ?y0⟩) hHeld ?r0
      case h201 => (simp only [List.getElem?_toArray, List.getElem?_cons_zero]; rfl)
      case q201 => exact fun _ _ _ h => h
      case w201 => rfl
      case y0 =>
        intro wS hSw
        (try dsimp only at hSw)
        go_simp
        (try (with_reducible rfl))
      try simp only [Act.put, List.setIfInBounds_toArray, List.set_cons_zero, List.set_cons_succ]
      refine wpAnyH_take (i := 1) (oi := ?o202) (v := ?v1) ?h202 (by kernel_rfl) (by kernel_rfl) (by kernel_rfl) ?q202 (Or.inl ⟨?w202, ?y1⟩) hHeld ?r1
      case h202 => (simp only [List.getElem?_toArray, List.getElem?_cons_succ, List.getElem?_cons_zero]; rfl)
      case q202 => exact fun _ _ _ h => h
      case w202 => rfl
      case y1 =>
        intro wS hSw
        (try dsimp only at hSw)
        go_simp
        (try (with_reducible rfl))
      try simp only [Act.put, List.setIfInBounds_toArray, List.set_cons_zero, List.set_cons_succ]
      refine wpAnyH_take (i := 2) (oi := ?o203) (v := ?v2) ?h203 (by kernel_rfl) (by kernel_rfl) (by kernel_rfl) ?q203 (Or.inl ⟨?w203, ?y2⟩) hHeld ?r2
      case h203 => (simp only [List.getElem?_toArray, List.getElem?_cons_succ, List.getElem?_cons_zero]; rfl)
      case q203 => exact fun _ _ _ h => h
      case w203 => rfl
      case y2 =>
        intro wS hSw
        (try dsimp only at hSw)
        go_simp
        (try (with_reducible rfl))
      try simp only [Act.put, List.setIfInBounds_toArray, List.set_cons_zero, List.set_cons_succ]
      refine wpAnyH_take (i := 3) (oi := ?o204) (v := ?v3) ?h204 (by kernel_rfl) (by kernel_rfl) (by kernel_rfl) ?q204 (Or.inl ⟨?w204, ?y3⟩) hHeld ?r3
      case h204 => (simp only [List.getElem?_toArray, List.getElem?_cons_succ, List.getElem?_cons_zero]; rfl)
      case q204 => exact fun _ _ _ h => h
      case w204 => rfl
      case y3 =>
        intro wS hSw
        (try dsimp only at hSw)
        go_simp
        (try (with_reducible rfl))
      try simp only [Act.put, List.setIfInBounds_toArray, List.set_cons_zero, List.set_cons_succ]
      refine wpAnyH_take (i := 4) (oi := ?o205) (v := ?v4) ?h205 (by kernel_rfl) (by kernel_rfl) (by kernel_rfl) ?q205 (Or.inl ⟨?w205, ?y4⟩) hHeld ?r4
      case h205 => (simp only [List.getElem?_toArray, List.getElem?_cons_succ, List.getElem?_cons_zero]; rfl)
      case q205 => exact fun _ _ _ h => h
      case w205 => rfl
      case y4 =>
        intro wS hSw
        (try dsimp only at hSw)
        go_simp
        (try (with_reducible rfl))
      try simp only [Act.put, List.setIfInBounds_toArray, List.set_cons_zero, List.set_cons_succ]
      refine wpAnyH_take (i := 5) (oi := ?o206) (v := ?v5) ?h206 (by kernel_rfl) (by kernel_rfl) (by kernel_rfl) ?q206 (Or.inl ⟨?w206, ?y5⟩) hHeld ?r5
      case h206 => (simp only [List.getElem?_toArray, List.getElem?_cons_succ, List.getElem?_cons_zero]; rfl)
      case q206 => exact fun _ _ _ h => h
      case w206 => rfl
      case y5 =>
        intro wS hSw
        (try dsimp only at hSw)
        go_simp
        (try (with_reducible rfl))
      try simp only [Act.put, List.setIfInBounds_toArray, List.set_cons_zero, List.set_cons_succ]
      refine wpAnyH_take (i := 6) (oi := ?o207) (v := ?v6) ?h207 (by kernel_rfl) (by kernel_rfl) (by kernel_rfl) ?q207 (Or.inl ⟨?w207, ?y6⟩) hHeld ?r6
      case h207 => (simp only [List.getElem?_toArray, List.getElem?_cons_succ, List.getElem?_cons_zero]; rfl)
      case q207 => exact fun _ _ _ h => h
      case w207 => rfl
      case y6 =>
        intro wS hSw
        (try dsimp only at hSw)
        go_simp
        (try (with_reducible rfl))
      try simp only [Act.put, List.setIfInBounds_toArray, List.set_cons_zero, List.set_cons_succ]
      refine wpAnyH_take (i := 7) (oi := ?o208) (v := ?v7) ?h208 (by kernel_rfl) (by kernel_rfl) (by kernel_rfl) ?q208 (Or.inl ⟨?w208, ?y7⟩) hHeld ?r7
      case h208 => (simp only [List.getElem?_toArray, List.getElem?_cons_succ, List.getElem?_cons_zero]; rfl)
      case q208 => exact fun _ _ _ h => h
      case w208 => rfl
      case y7 =>
        intro wS hSw
        (try dsimp only at hSw)
        go_simp
        (try (with_reducible rfl))
      try simp only [Act.put, List.setIfInBounds_toArray, List.set_cons_zero, List.set_cons_succ]
      refine wpAnyH_take (i := 8) (oi := ?o209) (v := ?v8) ?h209 (by kernel_rfl) (by kernel_rfl) (by kernel_rfl) ?q209 (Or.inl ⟨?w209, ?y8⟩) hHeld ?r8
      case h209 => (simp only [List.getElem?_toArray, List.getElem?_cons_succ, List.getElem?_cons_zero]; rfl)
      case q209 => exact fun _ _ _ h => h
      case w209 => rfl
      case y8 =>
        intro wS hSw
        (try dsimp only at hSw)
        go_simp
        (try (with_reducible rfl))
      try simp only [Act.put, List.setIfInBounds_toArray, List.set_cons_zero, List.set_cons_succ]
      refine wpAnyH_take (i := 9) (oi := ?o210) (v := ?v9) ?h210 (by kernel_rfl) (by kernel_rfl) (by kernel_rfl) ?q210 (Or.inl ⟨?w210, ?y9⟩) hHeld ?r9
      case h210 => (simp only [List.getElem?_toArray, List.getElem?_cons_succ, List.getElem?_cons_zero]; rfl)
      case q210 => exact fun _ _ _ h => h
      case w210 => rfl
      case y9 =>
        intro wS hSw
        (try dsimp only at hSw)
        go_simp
        (try (with_reducible rfl))
      try simp only [Act.put, List.setIfInBounds_toArray, List.set_cons_zero, List.set_cons_succ]
      refine wpAnyH_take (i := 10) (oi := ?o211) (v := ?v10) ?h211 (by kernel_rfl) (by kernel_rfl) (by kernel_rfl) ?q211 (Or.inl ⟨?w211, ?y10⟩) hHeld ?r10
      case h211 => (simp only [List.getElem?_toArray, List.getElem?_cons_succ, List.getElem?_cons_zero]; rfl)
      case q211 => exact fun _ _ _ h => h
      case w211 => rfl
      case y10 =>
        intro wS hSw
        (try dsimp only at hSw)
        go_simp
        (try (with_reducible rfl))
      try simp only [Act.put, List.setIfInBounds_toArray, List.set_cons_zero, List.set_cons_succ]
      refine wpAnyH_take (i := 11) (oi := ?o212) (v := ?v11) ?h212 (by kernel_rfl) (by kernel_rfl) (by kernel_rfl) ?q212 (Or.inl ⟨?w212, ?y11⟩) hHeld ?r11
      case h212 => (simp only [List.getElem?_toArray, List.getElem?_cons_succ, List.getElem?_cons_zero]; rfl)
      case q212 => exact fun _ _ _ h => h
      case w212 => rfl
      case y11 =>
        intro wS hSw
        (try dsimp only at hSw)
        go_simp
        (try (with_reducible rfl))
      try simp only [Act.put, List.setIfInBounds_toArray, List.set_cons_zero, List.set_cons_succ]
      refine wpAnyH_ready (rs := [12]) (by kernel_rfl) (by simp) ?_
      refine AllReadyH.cons (o := ?o213) ?h213 ?k213 AllReadyH.nil
      case h213 => (simp only [List.getElem?_toArray, List.getElem?_cons_succ, List.getElem?_cons_zero]; rfl)
      intro K hK
      rw [if_pos (by rfl)]
      go_wp2_with fail
      refine (width_any cr _).mono ?_
      rintro e w4 ⟨rfl, b4⟩
      have HA4 := Lib.hid (HA3.out.mod (.of_below b4) id id id (fun _ => id))
      have HB4 := Lib.hid (HB3.out.trans (b4.mono HB3.out.size))
      have hbk4 := blk_below (blk_drew hbk2) b4 hlt3
      refine hK.out _ _ ⟨blk_cell hbk4 0, blk_cell hbk4 1, (gm_cells HA4.out).1⟩ (fun hHeld2 => ?_)
      clear hK K hHeld hbk4 b4
      try simp only [Act.put, List.setIfInBounds_toArray, List.set_cons_zero, List.set_cons_succ]
      refine wpAnyH_take (i := 13) (oi := ?o214) (v := ?v13) ?h214 (by kernel_rfl) (by kernel_rfl) (by kernel_rfl) ?q214 (Or.inl ⟨?w214, ?y13⟩) hHeld2 ?r13
      case h214 => (simp only [List.getElem?_toArray, List.getElem?_cons_succ, List.getElem?_cons_zero]; rfl)
      case q214 => exact fun _ _ _ h => h
      case w214 => rfl
      case y13 =>
        intro wS hSw
        (try dsimp only at hSw)
        go_simp
        (try (with_reducible rfl))
      try simp only [Act.put, List.setIfInBounds_toArray, List.set_cons_zero, List.set_cons_succ]
      refine wpAnyH_take (i := 14) (oi := ?o215) (v := ?v14) ?h215 (by kernel_rfl) (by kernel_rfl) (by kernel_rfl) ?q215 (Or.inl ⟨?w215, ?y14⟩) hHeld2 ?r14
      case h215 => (simp only [List.getElem?_toArray, List.getElem?_cons_succ, List.getElem?_cons_zero]; rfl)
      case q215 => exact fun _ _ _ h => h
      case w215 => rfl
      case y14 =>
        intro wS hSw
        (try dsimp only at hSw)
        go_simp
        (try (with_reducible rfl))
      try simp only [Act.put, List.setIfInBounds_toArray, List.set_cons_zero, List.set_cons_succ]
      refine wpAnyH_take (i := 15) (oi := ?o216) (v := ?v15) ?h216 (by kernel_rfl) (by kernel_rfl) (by kernel_rfl) ?q216 (Or.inl ⟨?w216, ?y15⟩) hHeld2 ?r15
      case h216 => (simp only [List.getElem?_toArray, List.getElem?_cons_succ, List.getElem?_cons_zero]; rfl)
      case q216 => exact fun _ _ _ h => h
      case w216 => rfl
      case y15 =>
        intro wS hSw
        (try dsimp only at hSw)
        go_simp
        (try (with_reducible rfl))
      try simp only [Act.put, List.setIfInBounds_toArray, List.set_cons_zero, List.set_cons_succ]
      refine wpAnyH_take (i := 16) (oi := ?o217) (v := undef) ?h217 (by kernel_rfl) (by kernel_rfl) (by kernel_rfl) ?q217 (Or.inr ⟨?w217, rfl⟩) hHeld2 ?s217
      case h217 => (simp only [List.getElem?_toArray, List.getElem?_cons_succ, List.getElem?_cons_zero]; rfl)
      case q217 => exact fun _ _ _ h => h
      case w217 => rfl
      try simp only [Act.put, List.setIfInBounds_toArray, List.set_cons_zero, List.set_cons_succ]
      refine wpAnyH_take (i := 17) (oi := ?o218) (v := undef) ?h218 (by kernel_rfl) (by kernel_rfl) (by kernel_rfl) ?q218 (Or.inr ⟨?w218, rfl⟩) hHeld2 ?s218
      case h218 => (simp only [List.getElem?_toArray, List.getElem?_cons_succ, List.getElem?_cons_zero]; rfl)
      case q218 => exact fun _ _ _ h => h
      case w218 => rfl
      try simp only [Act.put, List.setIfInBounds_toArray, List.set_cons_zero, List.set_cons_succ]
      refine wpAnyH_take (i := 18) (oi := ?o219) (v := undef) ?h219 (by kernel_rfl) (by kernel_rfl) (by kernel_rfl) ?q219 (Or.inr ⟨?w219, rfl⟩) hHeld2 ?s219
      case h219 => (simp only [List.getElem?_toArray, List.getElem?_cons_succ, List.getElem?_cons_zero]; rfl)
      case q219 => exact fun _ _ _ h => h
      case w219 => rfl
      try simp only [Act.put, List.setIfInBounds_toArray, List.set_cons_zero, List.set_cons_succ]
      refine wpAnyH_take (i := 19) (oi := ?o220) (v := undef) ?h220 (by kernel_rfl) (by kernel_rfl) (by kernel_rfl) ?q220 (Or.inr ⟨?w220, rfl⟩) hHeld2 ?s220
      case h220 => (simp only [List.getElem?_toArray, List.getElem?_cons_succ, List.getElem?_cons_zero]; rfl)
      case q220 => exact fun _ _ _ h => h
      case w220 => rfl
      try simp only [Act.put, List.setIfInBounds_toArray, List.set_cons_zero, List.set_cons_succ]
      refine wpAnyH_take (i := 20) (oi := ?o221) (v := undef) ?h221 (by kernel_rfl) (by kernel_rfl) (by kernel_rfl) ?q221 (Or.inr ⟨?w221, rfl⟩) hHeld2 ?s221
      case h221 => (simp only [List.getElem?_toArray, List.getElem?_cons_succ, List.getElem?_cons_zero]; rfl)
      case q221 => exact fun _ _ _ h => h
      case w221 => rfl
      try simp only [Act.put, List.setIfInBounds_toArray, List.set_cons_zero, List.set_cons_succ]
      refine wpAnyH_take (i := 21) (oi := ?o222) (v := undef) ?h222 (by kernel_rfl) (by kernel_rfl) (by kernel_rfl) ?q222 (Or.inr ⟨?w222, rfl⟩) hHeld2 ?s222
      case h222 => (simp only [List.getElem?_toArray, List.getElem?_cons_succ, List.getElem?_cons_zero]; rfl)
      case q222 => exact fun _ _ _ h => h
      case w222 => rfl
      try simp only [Act.put, List.setIfInBounds_toArray, List.set_cons_zero, List.set_cons_succ]
      refine wpAnyH_take (i := 22) (oi := ?o223) (v := undef) ?h223 (by kernel_rfl) (by kernel_rfl) (by kernel_rfl) ?q223 (Or.inr ⟨?w223, rfl⟩) hHeld2 ?s223
      case h223 => (simp only [List.getElem?_toArray, List.getElem?_cons_succ, List.getElem?_cons_zero]; rfl)
      case q223 => exact fun _ _ _ h => h
      case w223 => rfl
      try simp only [Act.put, List.setIfInBounds_toArray, List.set_cons_zero, List.set_cons_succ]
      refine wpAnyH_take (i := 23) (oi := ?o224) (v := undef) ?h224 (by kernel_rfl) (by kernel_rfl) (by kernel_rfl) ?q224 (Or.inr ⟨?w224, rfl⟩) hHeld2 ?s224
      case h224 => (simp only [List.getElem?_toArray, List.getElem?_cons_succ, List.getElem?_cons_zero]; rfl)
      case q224 => exact fun _ _ _ h => h
      case w224 => rfl
      try simp only [Act.put, List.setIfInBounds_toArray, List.set_cons_zero, List.set_cons_succ]
      refine wpAnyH_take (i := 24) (oi := ?o225) (v := undef) ?h225 (by kernel_rfl) (by kernel_rfl) (by kernel_rfl) ?q225 (Or.inr ⟨?w225, rfl⟩) hHeld2 ?s225
      case h225 => (simp only [List.getElem?_toArray, List.getElem?_cons_succ, List.getElem?_cons_zero]; rfl)
      case q225 => exact fun _ _ _ h => h
      case w225 => rfl
      try simp only [Act.put, List.setIfInBounds_toArray, List.set_cons_zero, List.set_cons_succ]
      refine wpAnyH_take (i := 25) (oi := ?o226) (v := ?v25) ?h226 (by kernel_rfl) (by kernel_rfl) (by kernel_rfl) ?q226 (Or.inl ⟨?w226, ?y25⟩) hHeld2 ?r25
      case h226 => (simp only [List.getElem?_toArray, List.getElem?_cons_succ, List.getElem?_cons_zero]; rfl)
      case q226 => exact fun _ _ _ h => h
      case w226 => rfl
      case y25 =>
        intro wS hSw
        (try dsimp only at hSw)
        go_simp
        (try (with_reducible rfl))
      try simp only [Act.put, List.setIfInBounds_toArray, List.set_cons_zero, List.set_cons_succ]
      refine wpAnyH_done (by kernel_rfl) ?_ _
      go_wp2_with fail
      refine ret0w rfl rfl ⟨rfl, Within.of_below HB4.out, ?_⟩
      rw [HE.out]
      exact ⟨_, _, _, _, HA4.out⟩
    have d2 : (cw != wid cr) = false := by simp [bne, hw2]
    have hcw2 : cw ≤ 2 := by omega
    have HW2 := Lib.hid hw2
    clear hw2 hwl
    have hwrap : IntKind.i64.wrap ((xn : Int) + cw) = (xn : Int) + cw := wrap64_id _ (by omega) (by omega)
    by_cases hw3 : (xn : Int) + cw ≤ (g.cols : Int)
    rotate_left
    · have d3 : decide ((g.cols : Int) < (xn : Int) + cw) = true := decide_eq_true (by omega)
      have HE := Lib.hid (show g.put xn yn ⟨cr, cw, cs⟩ = g by unfold Gr.put Gr.putOk; rw [decide_eq_false hw3]; simp)
      go_upto_region 2 with fail
      go_region_held3 (fun w' => w'.cell? ⟨w.heap.size, 0, none⟩ = some (.int .i32 cr) ∧ w'.cell? ⟨w.heap.size, 1, none⟩ = some (.int .i64 cw) ∧ w'.cell? ⟨p, 0, none⟩ = some (.int .i64 g.cols)) (go_keep)
        (first | (go_at_call 42; refine (width_any cr _).mono ?_; rintro e w4 ⟨rfl, b4⟩; have HA4 := Lib.hid (HA3.out.mod (.of_below b4) id id id (fun _ => id)); have HB4 := Lib.hid (HB3.out.trans (b4.mono HB3.out.size)); have hbk4 := blk_below (blk_drew hbk2) b4 hlt3; have z0 : w4.cell? ⟨w.heap.size, 0, none⟩ = some (.int .i32 cr) := blk_cell hbk4 0; have z1 : w4.cell? ⟨w.heap.size, 1, none⟩ = some (.int .i64 cw) := blk_cell hbk4 1; have z2 := (gm_cells HA4.out).1; have hHB4 := Lib.hid hbk4; clear b4 hbk4))
      go_wp2_with fail
      refine ret0w rfl rfl ⟨rfl, Within.of_below HB4.out, ?_⟩
      rw [HE.out]
      exact ⟨_, _, _, _, HA4.out⟩
    have d3 : decide ((g.cols : Int) < (xn : Int) + cw) = false := decide_eq_false (by omega)
    have HE := Lib.hid (show g.put xn yn ⟨cr, cw, cs⟩ = g.turn yn (fun l => layL l xn ⟨cr, cw, cs⟩) by
      unfold Gr.put Gr.putOk
      rw [hon, decide_eq_true hw1, decide_eq_true hw3, beq_iff_eq.2 HW2.out, Int.toNat_natCast, Int.toNat_natCast]; rfl)
    go_upto_region 2 with fail
    go_region_held3 (fun w' => w'.cell? ⟨w.heap.size, 0, none⟩ = some (.int .i32 cr) ∧ w'.cell? ⟨w.heap.size, 1, none⟩ = some (.int .i64 cw) ∧ w'.cell? ⟨p, 0, none⟩ = some (.int .i64 g.cols)) (go_keep)
      (first | (go_at_call 42; refine (width_any cr _).mono ?_; rintro e w4 ⟨rfl, b4⟩; have HA4 := Lib.hid (HA3.out.mod (.of_below b4) id id id (fun _ => id)); have HB4 := Lib.hid (HB3.out.trans (b4.mono HB3.out.size)); have hbk4 := blk_below (blk_drew hbk2) b4 hlt3; have z0 : w4.cell? ⟨w.heap.size, 0, none⟩ = some (.int .i32 cr) := blk_cell hbk4 0; have z1 : w4.cell? ⟨w.heap.size, 1, none⟩ = some (.int .i64 cw) := blk_cell hbk4 1; have z2 := (gm_cells HA4.out).1; have hHB4 := Lib.hid hbk4; clear b4 hbk4))
    go_wp2_with fail
    have hbt : T b = 10 + b := by
      obtain ⟨q, e1, e2⟩ := HC.out.tag
      rw [hxv] at e1
      simp only [Value.ownBlock] at e1
      injection e1 with e1
      subst e1; exact e2
    have hbl : b < w.heap.size := HLT.out b (by omega)
    have O4 := (HA4.out.ca Lr[yn] (List.mem_append_left _ (List.getElem_mem hyl))).own
    rw [hxv, hrc] at O4
    generalize hlx : Lr[yn].2.cells = lx at *
    have hgc : g.cols ≤ 1000000 := by omega
    refine (cut_any lx xn b off g.cols vc w4 O4 hrc hgc (by omega)).mono ?_
    rintro e w5 ⟨rfl, g5, o5⟩
    have hbk4 := hHB4.out
    have hbk5 := blk_grown hbk4 g5 (by intro e; injection e with e; omega)
    have e0 : w5.cell? ⟨w.heap.size, 0, none⟩ = some (.int .i32 cr) := blk_cell hbk5 0
    have e1 : w5.cell? ⟨w.heap.size, 1, none⟩ = some (.int .i64 cw) := blk_cell hbk5 1
    have HO5 := Lib.hid o5
    have HK5 := Lib.hid hbk5
    have HG5 := Lib.hid g5
    clear o5 hbk5 g5 O4 z0 z1 z2 hbk4 hHB4 c0 c1 c2 c3 c4 g0 hbk2
    go_wp2_with fail
    refine (cut_any (cutL lx xn) ((xn : Int) + cw) b off g.cols vc w5 HO5.out (by rw [cutL_len]; exact hrc) hgc (by omega)).mono ?_
    rintro e w6 ⟨rfl, g6, o6⟩
    have hbk6 := blk_grown HK5.out g6 (by intro e; injection e with e; omega)
    have HG6 := Lib.hid (gb_trans HG5.out g6)
    have HK6 := Lib.hid hbk6
    have f0 : w6.cell? ⟨w.heap.size, 0, none⟩ = some (.int .i32 cr) := blk_cell hbk6 0
    have f1 : w6.cell? ⟨w.heap.size, 1, none⟩ = some (.int .i64 cw) := blk_cell hbk6 1
    have f2 : w6.cell? ⟨w.heap.size, 2, none⟩ = some (.int .i64 cs.fg) := blk_cell hbk6 2
    have f3 : w6.cell? ⟨w.heap.size, 3, none⟩ = some (.int .i64 cs.bg) := blk_cell hbk6 3
    have f4 : w6.cell? ⟨w.heap.size, 4, none⟩ = some (.int .i64 cs.attr) := blk_cell hbk6 4
    have hlen2 : (cutL (cutL lx xn) ((xn : Int) + cw)).length = g.cols := by rw [cutL_len, cutL_len]; exact hrc
    have hix := idx_at (P := Tryd.prog) (size := 5) Tryd.underlying51 cell_info b off g.cols vc xn (by omega)
    have hst := store_own (P := Tryd.prog) cell_info o6 xn (by omega) #[.int .i32 cr, .int .i64 cw, .int .i64 cs.fg, .int .i64 cs.bg, .int .i64 cs.attr] rfl (cvals_one' ⟨cr, cw, cs⟩)
    have HP := ownC_put o6 (xn * 5) (cvals [(⟨cr, cw, cs⟩ : Cel)]) (by rw [cvals_len]; simp; omega)
    rw [← cvals_put] at HP
    have g7 := gb_setCells w6 b (off + xn * 5) (cvals [(⟨cr, cw, cs⟩ : Cel)])
    replace hst : (storeVar 38 ⟨b, off + xn * 5, none⟩ (.agg #[.int .i32 cr, .int .i64 cw, .int .i64 cs.fg, .int .i64 cs.bg, .int .i64 cs.attr])).run Tryd.prog w6 = .ok () (w6.setCells b (off + xn * 5) (cvals [(⟨cr, cw, cs⟩ : Cel)])) := hst
    have HG7 := Lib.hid (gb_trans HG6.out g7)
    have hbk7 := blk_grown HK6.out g7 (by intro e; injection e with e; omega)
    have HO7 := Lib.hid HP
    clear HP g7 o6 g6 e0 e1
    generalize w6.setCells b (off + xn * 5) (cvals [(⟨cr, cw, cs⟩ : Cel)]) = w7 at *
    have i1 : w7.cell? ⟨w.heap.size, 1, none⟩ = some (.int .i64 cw) := blk_cell hbk7 1
    have i2 : w7.cell? ⟨w.heap.size, 2, none⟩ = some (.int .i64 cs.fg) := blk_cell hbk7 2
    have i3 : w7.cell? ⟨w.heap.size, 3, none⟩ = some (.int .i64 cs.bg) := blk_cell hbk7 3
    have i4 : w7.cell? ⟨w.heap.size, 4, none⟩ = some (.int .i64 cs.attr) := blk_cell hbk7 4
    have HWI := Lib.hid (show ∀ w', w4.grownBy w' (some b) → Within (own T w) w w' from fun w' g' => (Within.of_below HB4.out).trans (Within.of_gb g' (fun k hk => .inl (by injection hk with hk; subst hk; omega))))
    have HFIN := Lib.hid (show ∀ w', w4.grownBy w' (some b) → OwnC w' 0 5 (.slice (some ⟨b, off, none⟩) g.cols vc) g.cols (cvals (layL lx xn ⟨cr, cw, cs⟩)) → GM T p w' (g.turn yn (fun l => layL l xn ⟨cr, cw, cs⟩)) from fun w' g' o' => by
      have hll : (layL lx xn ⟨cr, cw, cs⟩).length = g.cols := by
        rw [layL_len (by
          show xn + (if cw = 2 then 2 else 1) ≤ lx.length
          split <;> omega)]
        exact hrc
      refine HA4.out.turned yn hyl (b := b) (by rw [hxv]; rfl) (Mod.of_gb g' (fun k hk => by injection hk with hk; subst hk; exact hbt)) _ ?_ ?_ ?_
      · rw [hlx, hll, hxv]; exact o'
      · rw [hlx]; exact hll
      · rw [hlx]; exact layL_ok hrok hck)
    by_cases h2 : cw = 2
    · have d5 : (cw == 2) = true := beq_iff_eq.2 h2
      have H2 := Lib.hid h2
      have hxn2 : xn + 2 ≤ g.cols := by omega
      clear h2
      have hwrap2 : IntKind.i64.wrap ((xn : Int) + 1) = (xn : Int) + 1 := wrap64_id _ (by omega) (by omega)
      have hix2 := idx_at (P := Tryd.prog) (size := 5) Tryd.underlying51 cell_info b off g.cols vc (xn + 1) (by omega)
      rw [show ((xn + 1 : Nat) : Int) = (xn : Int) + 1 by omega] at hix2
      have hst2 := store_own (P := Tryd.prog) cell_info HO7.out (xn + 1) (by omega) #[.int .i32 0, .int .i64 0, .int .i64 cs.fg, .int .i64 cs.bg, .int .i64 cs.attr] rfl (cvals_one' ⟨0, 0, cs⟩)
      have HP := ownC_put HO7.out ((xn + 1) * 5) (cvals [(⟨0, 0, cs⟩ : Cel)]) (by rw [cvals_len]; simp; omega)
      rw [← cvals_put, putAt_two _ _ _ _ (by omega)] at HP
      have g8 := gb_setCells w7 b (off + (xn + 1) * 5) (cvals [(⟨0, 0, cs⟩ : Cel)])
      replace hst2 : (storeVar 38 ⟨b, off + (xn + 1) * 5, none⟩ (.agg #[.int .i32 0, .int .i64 0, .int .i64 cs.fg, .int .i64 cs.bg, .int .i64 cs.attr])).run Tryd.prog w7 = .ok () (w7.setCells b (off + (xn + 1) * 5) (cvals [(⟨0, 0, cs⟩ : Cel)])) := hst2
      have HG8 := Lib.hid (gb_trans HG7.out g8)
      have HO8 := Lib.hid HP
      clear HP g8
      generalize w7.setCells b (off + (xn + 1) * 5) (cvals [(⟨0, 0, cs⟩ : Cel)]) = w8 at *
      go_wp2_with (first | refine wpList_storeR rfl _ _ _ rfl hst rfl rfl ?_ | refine wpList_storeR rfl _ _ _ rfl hst2 rfl rfl ?_)
      go_end0
      refine ⟨rfl, HWI.out _ HG8.out, ?_⟩
      rw [HE.out]
      refine HFIN.out _ HG8.out ?_
      unfold layL
      rw [if_pos H2.out]
      exact HO8.out
    · have d5 : (cw == 2) = false := beq_eq_false_iff_ne.2 h2
      go_wp2_with (refine wpList_storeR rfl _ _ _ rfl hst rfl rfl ?_)
      go_end0
      refine ⟨rfl, HWI.out _ HG7.out, ?_⟩
      rw [HE.out]
      refine HFIN.out _ HG7.out ?_
      unfold layL
      rw [if_neg h2]
      exact HO7.out
end Go.Proofs.YtjclgoiclbkgjaaDoor
