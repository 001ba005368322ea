/- Package grid, texts laid together: G23 G24 G25 Dm S2 S3 E2. -/
import Derived.Test.YtjclgoiclbkgjaaGreatDoorK11
import Derived.Laws.ResultCell
import Derived.Test.YtjclgoiclbkgjaaGreatDoorK5
/- Walks of package grid: Resize, where the rows are laid anew. -/
namespace Go.Proofs.YtjclgoiclbkgjaaGreatDoor
open Go.RowKit
attribute [local go_sem ↓] Go.wp_at_zero Go.wp_at_succ

theorem retRow2 {P : Program} {fn : Func} {R : Ending → World → Prop} {a : Act} {w : World} {p u : Tmp} {ty t : TypeId} {g : Nat} {cs : Array Value} {fr : Nat × Nat} {d : TypeDesc} {x : Value} (h : fn.results = #[.cell p ty, .tmp u]) (hdf : a.defers = [])
    (hp : a.tmps.getD p undef = .pointer (some ⟨g, 0, none⟩)) (hx : a.tmps.getD u undef = x) (hg : w.heap[g]? = some (.cells cs t fr)) (hu : P.underlying ty = some d) (hd : (match d with | .struct _ | .array _ _ => true | _ => false) = true) (hi : (P.info? ty).map (·.size) = some cs.size)
    (hR : R (.returned (.tuple #[.agg cs, x])) w) : bodyPost P fn R .ret a w :=
  bodyPost_ret (by rw [results_cell_tmp h, hp, hx]; simp [asAddr, run_loadVar_row w g t ty cs fr d hg hu hd hi, Result.andThen]) hdf hR
set_option maxRecDepth 100000 in
set_option maxHeartbeats 8000000 in
theorem resizeF_any {T : Nat → Nat} {p : Nat} {w : World} {g : Gr} (h : GM T p w g) (cols rows : Nat) (ax ay : Int) (c1 : 1 ≤ cols) (c2 : cols ≤ 250) (r1 : 1 ≤ rows) (r2 : rows ≤ 120) :
    Calls Tryz.prog 15 #[.pointer (some ⟨p, 0, none⟩), .int .i64 cols, .int .i64 rows, .agg #[.int .i64 ax, .int .i64 ay], .bool true] w fun e w' =>
      e = .returned (.tuple #[.agg #[.int .i64 (g.resize cols rows ax ay true).2.1, .int .i64 (g.resize cols rows ax ay true).2.2], .int .i64 0]) ∧ Within (own T w) w w' ∧ ∃ T', GM T' p w' (g.resize cols rows ax ay true).1 ∧ ∀ k, T' k ≠ 0 → own T w k := by
  have hmay : mayG (cols : Int) (rows : Int) = true := by unfold mayG; simp; omega
  obtain ⟨vr, vo, Lr, Lo, h0⟩ := h
  have hlr := (rows_len h0).1
  have wf := h0.wf
  have hr2 : Lr.length ≤ 120 := by have := wf.r2; omega
  have hr1 : 1 ≤ Lr.length := by have := wf.r1; omega
  have hg1 := wf.c1
  have hg2 := wf.c2
  have hpl := heap_lt h0.blk
  have HB1 := Lib.hid (show Below w.heap.size w ((w.alloc (.cells #[.int .i64 ax, .int .i64 ay] 51)).alloc (.cells #[.int .i64 0, .int .i64 0] 51)) from Below.alloc (Below.alloc (Below.refl w.heap.size w) (Nat.le_refl _) _) (by simp) _)
  have HAT := Lib.hid (blk_alloc (blk_new w (.cells #[.int .i64 ax, .int .i64 ay] 51)) (.cells #[.int .i64 0, .int .i64 0] 51))
  have HRS := Lib.hid (blk_new2 w (.cells #[.int .i64 ax, .int .i64 ay] 51) (.cells #[.int .i64 0, .int .i64 0] 51))
  have HG0 := Lib.hid h0
  have HLR := Lib.hid hlr
  have hsz : ((w.alloc (.cells #[.int .i64 ax, .int .i64 ay] 51)).alloc (.cells #[.int .i64 0, .int .i64 0] 51)).heap.size = w.heap.size + 2 := by simp
  clear h0 wf hlr
  go_enter Tryz.func15, Tryz.ntmps15
  go_upto_region 1 with fail
  generalize (w.alloc (.cells #[.int .i64 ax, .int .i64 ay] 51)).alloc (.cells #[.int .i64 0, .int .i64 0] 51) = wa at *
  go_wp2_with fail
  refine (may_any cols rows wa).mono ?_
  rintro e w2 ⟨rfl, hw2⟩
  subst hw2
  obtain ⟨wa, rfl⟩ : ∃ wa, wa = w2 := ⟨w2, rfl⟩
  have HG1 := Lib.hid (HG0.out.mod (.of_below HB1.out) id id id (fun _ => id))
  obtain ⟨k0, k1, k2, k3⟩ := gm_cells HG1.out
  have a0 : wa.cell? ⟨w.heap.size, 0, none⟩ = some (.int .i64 ax) := blk_cell HAT.out 0
  have z0 : wa.frozen? ⟨w.heap.size, 0, none⟩ = false := blk_free HAT.out 0
  have hwr1 : IntKind.i64.wrap ((g.cols : Int) - 1) = (g.cols : Int) - 1 := wrap64_id _ (by omega) (by omega)
  have hwr2 : IntKind.i64.wrap ((Lr.length : Int) - 1) = (Lr.length : Int) - 1 := wrap64_id _ (by omega) (by omega)
  go_upto_region 3 with fail
  refine wpL_begin (c := 10) (S := (fun bb w' => w'.cell? ⟨p, 0, none⟩ = some (.int .i64 g.cols) ∧ (bb = false → w'.cell? ⟨w.heap.size, 0, none⟩ = some (.int .i64 ax)))) (by kernel_rfl) (⟨k0, fun _ => a0⟩) (fun _ => ?_)
  refine wpL_tk false 0 (⟨k0, fun _ => a0⟩) ?_
  refine wpL_td 1 (⟨k0, fun _ => a0⟩) ?_
  refine wpL_tk false 2 (⟨k0, fun _ => a0⟩) ?_
  refine wpL_tk false 3 (⟨k0, fun _ => a0⟩) ?_
  refine wpL_tk false 4 (⟨k0, fun _ => a0⟩) ?_
  refine wpL_tk false 5 (⟨k0, fun _ => a0⟩) ?_
  refine wpL_tk false 6 (⟨k0, fun _ => a0⟩) ?_
  refine wpL_tk false 7 (⟨k0, fun _ => a0⟩) ?_
  refine wpL_tk false 8 (⟨k0, fun _ => a0⟩) ?_
  refine wpL_tk false 9 (⟨k0, fun _ => a0⟩) ?_
  refine wpL_on true 10 fun K hK => ?_
  refine wanted_on rfl ?_
  go_wp2_with fail
  refine hK.out _ _ (⟨cell_grown (gb_set (gb_refl _ _) _ _) k0 (fun e => by injection e with e; omega), fun e => by cases e⟩) (fun _ => ?_)
  clear hK K 
  try simp only [Act.put]
  refine wpL_done (by kernel_rfl) ?_ _
  have hbx : 0 ≤ max 0 (min ax ((g.cols : Int) - 1)) ∧ max 0 (min ax ((g.cols : Int) - 1)) ≤ 250 := by omega
  have HIX := Lib.hid (show into ax ((g.cols : Int) - 1) = max 0 (min ax ((g.cols : Int) - 1)) from rfl)
  generalize max 0 (min ax ((g.cols : Int) - 1)) = bx at *
  have hsb : ((wa.setCell ⟨w.heap.size, 0, none⟩ (.int .i64 bx)).drew).heap.size = wa.heap.size := by show (wa.setCell _ _).heap.size = _; simp
  have HG2 := Lib.hid (show wa.grownBy ((wa.setCell ⟨w.heap.size, 0, none⟩ (.int .i64 bx)).drew) (some w.heap.size) from gb_drew (gb_set (gb_refl _ _) _ _))
  have HAT2 := Lib.hid (show ((wa.setCell ⟨w.heap.size, 0, none⟩ (.int .i64 bx)).drew).heap[w.heap.size]? = some (.cells #[.int .i64 bx, .int .i64 ay] 51 (0, 0)) from blk_set HAT.out 0 _)
  generalize (wa.setCell ⟨w.heap.size, 0, none⟩ (.int .i64 bx)).drew = wb at *
  have HB2 := Lib.hid (HB1.out.trans (below_of_gb HG2.out (by omega) (fun q hq => by injection hq with hq; omega)))
  have HRS2 := Lib.hid (blk_grown HRS.out HG2.out (fun e => by injection e with e; omega))
  clear HAT HRS HB1 HG1 HG2 k0 k1 k2 k3 a0 z0 hwr1
  have HG1 := Lib.hid (HG0.out.mod (.of_below HB2.out) id id id (fun _ => id))
  obtain ⟨k0, k1, k2, k3⟩ := gm_cells HG1.out
  have hl1 := ownC_ln Tryz.underlying57 HG1.out.rr.own
  have a0 : wb.cell? ⟨w.heap.size, 0, none⟩ = some (.int .i64 bx) := blk_cell HAT2.out 0
  have a1 : wb.cell? ⟨w.heap.size, 1, none⟩ = some (.int .i64 ay) := blk_cell HAT2.out 1
  have z1 : wb.frozen? ⟨w.heap.size, 1, none⟩ = false := blk_free HAT2.out 1
  go_upto_region 4 with fail
  refine wpL_begin (c := 11) (S := (fun bb w' => w'.cell? ⟨p, 2, none⟩ = some vr ∧ (bb = false → w'.cell? ⟨w.heap.size, 1, none⟩ = some (.int .i64 ay)))) (by kernel_rfl) (⟨k2, fun _ => a1⟩) (fun _ => ?_)
  refine wpL_tk false 0 (⟨k2, fun _ => a1⟩) ?_
  refine wpL_td 1 (⟨k2, fun _ => a1⟩) ?_
  refine wpL_tk false 2 (⟨k2, fun _ => a1⟩) ?_
  refine wpL_tk false 3 (⟨k2, fun _ => a1⟩) ?_
  refine wpL_tk false 4 (⟨k2, fun _ => a1⟩) ?_
  refine wpL_tk false 5 (⟨k2, fun _ => a1⟩) ?_
  refine wpL_tk false 6 (⟨k2, fun _ => a1⟩) ?_
  refine wpL_tk false 7 (⟨k2, fun _ => a1⟩) ?_
  refine wpL_tk false 8 (⟨k2, fun _ => a1⟩) ?_
  refine wpL_tk false 9 (⟨k2, fun _ => a1⟩) ?_
  refine wpL_tk false 10 (⟨k2, fun _ => a1⟩) ?_
  refine wpL_on true 11 fun K hK => ?_
  refine wanted_on rfl ?_
  go_wp2_with fail
  refine hK.out _ _ (⟨cell_grown (gb_set (gb_refl _ _) _ _) k2 (fun e => by injection e with e; omega), fun e => by cases e⟩) (fun _ => ?_)
  clear hK K 
  try simp only [Act.put]
  refine wpL_done (by kernel_rfl) ?_ _
  have hby : 0 ≤ max 0 (min ay ((Lr.length : Int) - 1)) ∧ max 0 (min ay ((Lr.length : Int) - 1)) ≤ 120 := by omega
  have HIY := Lib.hid (show into ay ((g.rows.length : Int) - 1) = max 0 (min ay ((Lr.length : Int) - 1)) by rw [HLR.out]; rfl)
  generalize max 0 (min ay ((Lr.length : Int) - 1)) = yb at *
  have hsc : ((wb.setCell ⟨w.heap.size, 1, none⟩ (.int .i64 yb)).drew).heap.size = wb.heap.size := by show (wb.setCell _ _).heap.size = _; simp
  have HG3 := Lib.hid (show wb.grownBy ((wb.setCell ⟨w.heap.size, 1, none⟩ (.int .i64 yb)).drew) (some w.heap.size) from gb_drew (gb_set (gb_refl _ _) _ _))
  have HAT3 := Lib.hid (show ((wb.setCell ⟨w.heap.size, 1, none⟩ (.int .i64 yb)).drew).heap[w.heap.size]? = some (.cells #[.int .i64 bx, .int .i64 yb] 51 (0, 0)) from blk_set HAT2.out 1 _)
  generalize (wb.setCell ⟨w.heap.size, 1, none⟩ (.int .i64 yb)).drew = wc at *
  have HB3 := Lib.hid (HB2.out.trans (below_of_gb HG3.out (by omega) (fun q hq => by injection hq with hq; omega)))
  have HRS3 := Lib.hid (blk_grown HRS2.out HG3.out (fun e => by injection e with e; omega))
  clear HAT2 HRS2 HB2 HG1 HG3 k0 k1 k2 k3 a0 a1 z1 hwr2 hl1
  have HG1 := Lib.hid (show GM T p wc g from ⟨vr, vo, Lr, Lo, HG0.out.mod (.of_below HB3.out) id id id (fun _ => id)⟩)
  have a0 : wc.cell? ⟨w.heap.size, 0, none⟩ = some (.int .i64 bx) := blk_cell HAT3.out 0
  have a1 : wc.cell? ⟨w.heap.size, 1, none⟩ = some (.int .i64 yb) := blk_cell HAT3.out 1
  go_wp2_with fail
  refine (flow_any HG1.out cols rows bx yb c1 c2 r1 r2 hbx hby).mono ?_
  rintro e w9 ⟨rfl, hW9, T', hG9, hT9⟩
  have htr : T (w.heap.size + 1) = 0 := by
    by_cases h0 : T (w.heap.size + 1) = 0
    · exact h0
    · have := HG0.out.lt _ h0
      omega
  have hno : ¬ own T wc (w.heap.size + 1) := fun e => by
    rcases e with e | e
    · exact e htr
    · omega
  have hrs9 : w9.heap[w.heap.size + 1]? = some (.cells #[.int .i64 0, .int .i64 0] 51 (0, 0)) := (hW9.block _ (by omega) hno).trans HRS3.out
  have hres : (g.flow cols rows bx yb) = g.resize cols rows ax ay true := by
    unfold Gr.resize
    rw [if_pos rfl, HIX.out, HIY.out]
  have HRES := Lib.hid hres
  have HG9 := Lib.hid hG9
  have HT9 := Lib.hid hT9
  have HWW := Lib.hid hW9
  clear hres hG9 hT9 hW9
  generalize hqx : (g.flow cols rows bx yb).2.1 = qx at *
  generalize hqy : (g.flow cols rows bx yb).2.2 = qy at *
  have HQX := Lib.hid hqx
  have HQY := Lib.hid hqy
  clear hqx hqy
  have hst := run_storeVar_row (P := Tryz.prog) w9 (w.heap.size + 1) 51 51 _ #[.int .i64 qx, .int .i64 qy] hrs9 (by kernel_rfl) rfl (by simp [Value.oneCell'])
  have hr2' := setRow_blk (cells := #[.int .i64 qx, .int .i64 qy]) hrs9
  have HGE := Lib.hid (gb_setRow w9 (w.heap.size + 1) #[.int .i64 qx, .int .i64 qy])
  have HFIN := Lib.hid (show GM T' p (w9.setRow (w.heap.size + 1) #[.int .i64 qx, .int .i64 qy]) (g.resize cols rows ax ay true).1 by
    rw [← HRES.out]
    refine HG9.out.other (Tp := fun k => if k = w.heap.size + 1 then 1 else 0) (Within.of_gb HGE.out (fun k hk => ?_)) (fun k hk => ?_)
    · injection hk with hk
      subst hk
      exact .inl (by show (if _ then 1 else 0) ≠ 0; rw [if_pos rfl]; decide)
    · show (if _ then 1 else 0) = 0
      rw [if_neg (fun e => hno (by rw [← e]; exact HT9.out k hk))])
  have HWI := Lib.hid (show Within (own T w) w (w9.setRow (w.heap.size + 1) #[.int .i64 qx, .int .i64 qy]) from
    ((Within.of_below HB3.out).trans (HWW.out.mono (fun k hk => by
      rcases hk with e | e
      · exact .inl e
      · exact .inr (by omega)))).trans (Within.of_gb HGE.out (fun k hk => by injection hk with hk; subst hk; exact .inr (by omega))))
  clear hrs9
  go_wp2_with (refine wpList_storeR rfl _ _ _ rfl hst rfl rfl ?_)
  (try simp only [Exit.inBlock, Exit.then])
  refine retRow2 (x := .int .i64 0) rfl rfl rfl rfl hr2' Tryz.underlying51 rfl (by kernel_rfl) ⟨by rw [← HRES.out, HQX.out, HQY.out], HWI.out, T', HFIN.out, fun k hk => ?_⟩
  rcases HT9.out k hk with e | e
  · exact .inl e
  · exact .inr (by omega)
end Go.Proofs.YtjclgoiclbkgjaaGreatDoor

/- The examples that stand at the head of each law of package grid: what they come to. -/
namespace Go.Proofs.YtjclgoiclbkgjaaGreatDoor
open Go.RowKit

def sh1 : Gr := (((newG 3 2 5).put 0 0 ⟨97, 1, plainS⟩).put 1 0 ⟨20013, 2, plainS⟩).put 1 0 ⟨98, 1, plainS⟩
def sh2 : Nat → Gr
  | 0 => newG 4 2 5
  | k + 1 => (sh2 k).put ((k % 4 : Nat) : Int) ((k / 4 : Nat) : Int) ⟨97 + k, 1, plainS⟩
def sh3 : Gr := (sh2 6).setWrap 0 true
def sh4 : Gr × Int × Int := sh3.resize 2 2 1 1 true
def sh5 : Gr × Int × Int := sh4.1.resize 6 2 1 1 true
theorem sh1_text : textL (sh1.row 0).cells = [97, 98] := by kernel_rfl
theorem sh1_cell : sh1.cell 2 0 = ⟨32, 1, plainS⟩ := by kernel_rfl
theorem sh4_t0 : textL (sh4.1.row 0).cells = [99, 100] := by kernel_rfl
theorem sh4_t1 : textL (sh4.1.row 1).cells = [101, 102] := by kernel_rfl
theorem sh4_tm : textL (sh4.1.row (-1)).cells = [97, 98] := by kernel_rfl
theorem sh4_wr : (sh4.1.row (-1)).wrap = true := by kernel_rfl
theorem sh5_t0 : textL (sh5.1.row 0).cells = [97, 98, 99, 100, 101, 102] := by kernel_rfl
theorem sh5_t1 : textL (sh5.1.row 1).cells = [] := by kernel_rfl
theorem sh5_old : sh5.1.old.length = 0 := by kernel_rfl
end Go.Proofs.YtjclgoiclbkgjaaGreatDoor

/- The examples that stand at the head of each law of package grid: the walk. -/
namespace Go.Proofs.YtjclgoiclbkgjaaGreatDoor
open Go.RowKit
attribute [local go_sem ↓] Go.wp_at_zero Go.wp_at_succ

theorem eq_pos_in (a b c e : Int) (d : Nat) (w : World) : (Op.equalIn (d + 2) 51 (.agg #[.int .i64 a, .int .i64 b]) (.agg #[.int .i64 c, .int .i64 e])).run Tryz.prog w = .ok (a == c && b == e) w := by
  have hS : Tryz.prog.underlying 51 = some (.struct (Tryz.prog.fieldsOf 51)) := by kernel_rfl
  have hp : Tryz.prog.stoodInHeld 51 = false := by kernel_rfl
  rw [run_equalIn_agg w (d + 1) 51 _ _ hS hp]
  simp only [Program.fieldsOf, Tryz.underlying51]
  go_simp
  by_cases h1 : a = c <;> by_cases h2 : b = e <;> simp [h1, h2]
theorem eql_pos (a b c e : Int) (w : World) : (binOp .eql 51 (.agg #[.int .i64 a, .int .i64 b]) (.agg #[.int .i64 c, .int .i64 e])).run Tryz.prog w = .ok (.bool (a == c && b == e)) w := by
  have := eq_pos_in a b c e 9998 w
  rw [run_eql_struct, show (10000 : Nat) = 9998 + 2 from rfl, this]; rfl
theorem guard_pos (op : BinOp) (x y : Operand) (a b c e : Int) (w : World) : (eqGuard op 51 x y (.agg #[.int .i64 a, .int .i64 b]) (.agg #[.int .i64 c, .int .i64 e])).run Tryz.prog w = .ok () w := run_eqGuard_agg w op 51 x y _ _ (by kernel_rfl)
/-- A grid that lies in memory made since w. -/
structure Sh (w : World) (T : Nat → Nat) (p : Nat) (wi : World) (g : Gr) : Prop where
  b : Below w.heap.size w wi
  gm : GM T p wi g
  n : ∀ k, T k ≠ 0 → w.heap.size ≤ k
theorem Sh.below {w : World} {T : Nat → Nat} {p : Nat} {wi wj : World} {g : Gr} (h : Sh w T p wi g) (b : Below wi.heap.size wi wj) : Sh w T p wj g := ⟨h.b.trans (b.mono h.b.size), h.gm.below b, h.n⟩
theorem Sh.turn {w : World} {T T' : Nat → Nat} {p : Nat} {wi wj : World} {g g' : Gr} (h : Sh w T p wi g) (hw : Within (own T wi) wi wj) (hg : GM T' p wj g') (hn : ∀ k, T' k ≠ 0 → own T wi k) : Sh w T' p wj g' :=
  ⟨h.b.trans (own_below hw h.b.size h.n), hg, fun k hk => by
    rcases hn k hk with e | e
    · exact h.n k e
    · have := h.b.size; omega⟩
theorem Sh.put {w : World} {T : Nat → Nat} {p : Nat} {wi wj : World} {g g' : Gr} (h : Sh w T p wi g) (hw : Within (own T wi) wi wj) (hg : GM T p wj g') : Sh w T p wj g' := h.turn hw hg (fun _ hk => .inl hk)
set_option maxRecDepth 100000 in
set_option maxHeartbeats 4000000 in
theorem shown_any (w : World) : Calls Tryz.prog 4 #[] w fun e w' => e = .returned (.bool true) ∧ Below w.heap.size w w' := by
  have hok : ∀ k : Nat, k ≤ 1000 → (⟨97 + k, 1, plainS⟩ : Cel).Ok := fun k hk => ⟨by show (-2147483648 : Int) ≤ 97 + k; omega, by show (97 : Int) + k ≤ 2147483647; omega⟩
  have HOK := Lib.hid hok
  clear hok
  go_enter Tryz.func4, Tryz.ntmps4
  go_wp2_with fail
  refine (newGrid_any 3 2 5 w (by decide) (by decide) (by decide) (by decide) (by decide)).mono ?_
  rintro e w1 ⟨p, T, rfl, b1, h1, n1⟩
  have HS1 := Lib.hid (show Sh w T p w1 (newG 3 2 5) from ⟨b1, h1, n1⟩)
  clear b1 h1 n1
  go_wp2_with fail
  refine (letter_any 97 1 w1).mono ?_
  rintro e w2 ⟨rfl, b2⟩
  have HS2 := Lib.hid (HS1.out.below b2)
  clear HS1 b2
  go_wp2_with fail
  refine (put_any HS2.out.gm 0 0 ⟨97, 1, plainS⟩ right_plain ⟨by decide, by decide⟩).mono ?_
  rintro e w3 ⟨rfl, hw3, h3⟩
  have HS3 := Lib.hid (HS2.out.put hw3 h3)
  clear HS2 hw3 h3
  go_wp2_with fail
  refine (letter_any 20013 2 w3).mono ?_
  rintro e w4 ⟨rfl, b4⟩
  have HS4 := Lib.hid (HS3.out.below b4)
  clear HS3 b4
  go_wp2_with fail
  refine (put_any HS4.out.gm 1 0 ⟨20013, 2, plainS⟩ right_plain ⟨by decide, by decide⟩).mono ?_
  rintro e w5 ⟨rfl, hw5, h5⟩
  have HS5 := Lib.hid (HS4.out.put hw5 h5)
  clear HS4 hw5 h5
  go_wp2_with fail
  refine (letter_any 98 1 w5).mono ?_
  rintro e w6 ⟨rfl, b6⟩
  have HS6 := Lib.hid (HS5.out.below b6)
  clear HS5 b6
  go_wp2_with fail
  refine (put_any HS6.out.gm 1 0 ⟨98, 1, plainS⟩ right_plain ⟨by decide, by decide⟩).mono ?_
  rintro e w7 ⟨rfl, hw7, h7⟩
  have HS7 := Lib.hid (show Sh w T p w7 sh1 from HS6.out.put hw7 h7)
  clear HS6 hw7 h7
  go_wp2_with fail
  refine (text_any HS7.out.gm 0).mono ?_
  rintro e w8 ⟨rfl, b8⟩
  have HS8 := Lib.hid (HS7.out.below b8)
  clear HS7 b8
  rw [sh1_text]
  have hcq := fun (wx : World) => eql_cel ⟨32, 1, plainS⟩ ⟨32, 1, plainS⟩ wx
  have hgq := fun (x y : Operand) (wx : World) => guard_cel .eql x y ⟨32, 1, plainS⟩ ⟨32, 1, plainS⟩ wx
  rw [show (Cel.eqb ⟨32, 1, plainS⟩ ⟨32, 1, plainS⟩) = true from rfl] at hcq
  go_wp2_with fail
  refine (cell_any HS8.out.gm 2 0).mono ?_
  rintro e w9 ⟨rfl, b9⟩
  have HS9 := Lib.hid (HS8.out.below b9)
  clear HS8 b9
  rw [sh1_cell]
  go_wp2_with fail
  refine (letter_any 32 1 w9).mono ?_
  rintro e w10 ⟨rfl, b10⟩
  have HB10 := Lib.hid (HS9.out.below b10).b
  clear HS9 b10
  go_wp2_with fail
  refine (newGrid_any 4 2 5 w10 (by decide) (by decide) (by decide) (by decide) (by decide)).mono ?_
  rintro e w11 ⟨q, T2, rfl, b11, h11, n11⟩
  have HS11 := Lib.hid (show Sh w10 T2 q w11 (sh2 0) from ⟨b11, h11, n11⟩)
  clear b11 h11 n11 hcq hgq
  go_upto_region 12 with fail
  go_loopw [5] (fun iv wr => ∃ k : Nat, k ≤ 6 ∧ iv = .int .i64 k ∧ Hid (Sh w10 T2 q wr (sh2 k))) (fun iv _ => 6 - (intOf iv).toNat)
  case atStart => exact ⟨0, by decide, rfl, HS11⟩
  case round =>
    obtain ⟨k, hk, rfl, HS⟩ := hrel
    by_cases hlt : k < 6
    · rcases (show k = 0 ∨ k = 1 ∨ k = 2 ∨ k = 3 ∨ k = 4 ∨ k = 5 by omega) with rfl | rfl | rfl | rfl | rfl | rfl
      · go_wp2_with fail
        refine (letter_any 97 1 _).mono ?_
        rintro e w12 ⟨rfl, b12⟩
        have HS12 := Lib.hid (HS.out.below b12)
        clear b12
        go_wp2_with fail
        refine (put_any HS12.out.gm 0 0 ⟨97, 1, plainS⟩ right_plain ⟨by decide, by decide⟩).mono ?_
        rintro e w13 ⟨rfl, hw13, h13⟩
        have HS13 := Lib.hid (show Sh w10 T2 q w13 (sh2 1) from HS12.out.put hw13 h13)
        clear hw13 h13
        go_wp2_with fail
        go_roundw
        case rel => exact ⟨1, by decide, by go_num, HS13⟩
        case measure => simp [intOf]
      · go_wp2_with fail
        refine (letter_any 98 1 _).mono ?_
        rintro e w12 ⟨rfl, b12⟩
        have HS12 := Lib.hid (HS.out.below b12)
        clear b12
        go_wp2_with fail
        refine (put_any HS12.out.gm 1 0 ⟨98, 1, plainS⟩ right_plain ⟨by decide, by decide⟩).mono ?_
        rintro e w13 ⟨rfl, hw13, h13⟩
        have HS13 := Lib.hid (show Sh w10 T2 q w13 (sh2 2) from HS12.out.put hw13 h13)
        clear hw13 h13
        go_wp2_with fail
        go_roundw
        case rel => exact ⟨2, by decide, by go_num, HS13⟩
        case measure => simp [intOf]
      · go_wp2_with fail
        refine (letter_any 99 1 _).mono ?_
        rintro e w12 ⟨rfl, b12⟩
        have HS12 := Lib.hid (HS.out.below b12)
        clear b12
        go_wp2_with fail
        refine (put_any HS12.out.gm 2 0 ⟨99, 1, plainS⟩ right_plain ⟨by decide, by decide⟩).mono ?_
        rintro e w13 ⟨rfl, hw13, h13⟩
        have HS13 := Lib.hid (show Sh w10 T2 q w13 (sh2 3) from HS12.out.put hw13 h13)
        clear hw13 h13
        go_wp2_with fail
        go_roundw
        case rel => exact ⟨3, by decide, by go_num, HS13⟩
        case measure => simp [intOf]
      · go_wp2_with fail
        refine (letter_any 100 1 _).mono ?_
        rintro e w12 ⟨rfl, b12⟩
        have HS12 := Lib.hid (HS.out.below b12)
        clear b12
        go_wp2_with fail
        refine (put_any HS12.out.gm 3 0 ⟨100, 1, plainS⟩ right_plain ⟨by decide, by decide⟩).mono ?_
        rintro e w13 ⟨rfl, hw13, h13⟩
        have HS13 := Lib.hid (show Sh w10 T2 q w13 (sh2 4) from HS12.out.put hw13 h13)
        clear hw13 h13
        go_wp2_with fail
        go_roundw
        case rel => exact ⟨4, by decide, by go_num, HS13⟩
        case measure => simp [intOf]
      · go_wp2_with fail
        refine (letter_any 101 1 _).mono ?_
        rintro e w12 ⟨rfl, b12⟩
        have HS12 := Lib.hid (HS.out.below b12)
        clear b12
        go_wp2_with fail
        refine (put_any HS12.out.gm 0 1 ⟨101, 1, plainS⟩ right_plain ⟨by decide, by decide⟩).mono ?_
        rintro e w13 ⟨rfl, hw13, h13⟩
        have HS13 := Lib.hid (show Sh w10 T2 q w13 (sh2 5) from HS12.out.put hw13 h13)
        clear hw13 h13
        go_wp2_with fail
        go_roundw
        case rel => exact ⟨5, by decide, by go_num, HS13⟩
        case measure => simp [intOf]
      · go_wp2_with fail
        refine (letter_any 102 1 _).mono ?_
        rintro e w12 ⟨rfl, b12⟩
        have HS12 := Lib.hid (HS.out.below b12)
        clear b12
        go_wp2_with fail
        refine (put_any HS12.out.gm 1 1 ⟨102, 1, plainS⟩ right_plain ⟨by decide, by decide⟩).mono ?_
        rintro e w13 ⟨rfl, hw13, h13⟩
        have HS13 := Lib.hid (show Sh w10 T2 q w13 (sh2 6) from HS12.out.put hw13 h13)
        clear hw13 h13
        go_wp2_with fail
        go_roundw
        case rel => exact ⟨6, by decide, by go_num, HS13⟩
        case measure => simp [intOf]
    · have hk6 : k = 6 := by omega
      subst hk6
      go_wp2_with fail
      refine (wrap_any HS.out.gm 0 true).mono ?_
      rintro e w13 ⟨rfl, hw13, h13⟩
      have HS13 := Lib.hid (show Sh w10 T2 q w13 sh3 from HS.out.put hw13 h13)
      clear hw13 h13
      go_wp2_with fail
      refine (resizeF_any HS13.out.gm 2 2 1 1 (by decide) (by decide) (by decide) (by decide)).mono ?_
      rintro e w14 ⟨rfl, hw14, T3, h14, n14⟩
      rw [show (sh3.resize 2 2 1 1 true).2.1 = 1 by kernel_rfl, show (sh3.resize 2 2 1 1 true).2.2 = 1 by kernel_rfl]
      have HS14 := Lib.hid (show Sh w10 T3 q w14 sh4.1 from HS13.out.turn hw14 h14 n14)
      clear hw14 h14 n14
      go_upto_region 17 with fail
      have HK15 := Lib.hid (blk_new w14 (.cells #[.int .i64 1, .int .i64 1] 51))
      have HS15 := Lib.hid (HS14.out.below (Below.alloc (Below.refl w14.heap.size w14) (Nat.le_refl _) (.cells #[.int .i64 1, .int .i64 1] 51)))
      have HT3 := Lib.hid (show T3 w14.heap.size = 0 from by
        by_cases h0 : T3 w14.heap.size = 0
        · exact h0
        · have := HS14.out.gm.lt _ h0; omega)
      have hb14 := HS14.out.b.size
      generalize hpk : w14.heap.size = pk at *
      have HPK := Lib.hid hpk
      clear hpk HS14
      generalize w14.alloc (.cells #[.int .i64 1, .int .i64 1] 51) = w15 at *
      have x0 : w15.cell? ⟨pk, 0, none⟩ = some (.int .i64 1) := blk_cell HK15.out 0
      have x1 : w15.cell? ⟨pk, 1, none⟩ = some (.int .i64 1) := blk_cell HK15.out 1
      have hpq := fun (wx : World) => eql_pos 1 1 1 1 wx
      have hgq := fun (x y : Operand) (wx : World) => guard_pos .eql x y 1 1 1 1 wx
      rw [show ((1 : Int) == 1 && (1 : Int) == 1) = true from rfl] at hpq
      go_wp2_with fail
      refine (text_any HS15.out.gm 0).mono ?_
      rintro e w16 ⟨rfl, b16⟩
      have HS16 := Lib.hid (HS15.out.below b16)
      have HK16 := Lib.hid (blk_below HK15.out b16 (heap_lt HK15.out))
      clear HS15 HK15 b16
      clear x0 x1 hpq hgq
      rw [sh4_t0]
      go_wp2_with fail
      refine (text_any HS16.out.gm 1).mono ?_
      rintro e w17 ⟨rfl, b17⟩
      have HS17 := Lib.hid (HS16.out.below b17)
      have HK17 := Lib.hid (blk_below HK16.out b17 (heap_lt HK16.out))
      clear HS16 HK16 b17
      rw [sh4_t1]
      go_wp2_with fail
      refine (text_any HS17.out.gm (-1)).mono ?_
      rintro e w18 ⟨rfl, b18⟩
      have HS18 := Lib.hid (HS17.out.below b18)
      have HK18 := Lib.hid (blk_below HK17.out b18 (heap_lt HK17.out))
      clear HS17 HK17 b18
      rw [sh4_tm]
      go_wp2_with fail
      refine (wrapped_any HS18.out.gm (-1)).mono ?_
      rintro e w19 ⟨rfl, b19⟩
      have HS19 := Lib.hid (HS18.out.below b19)
      have HK19 := Lib.hid (blk_below HK18.out b19 (heap_lt HK18.out))
      clear HS18 HK18 b19
      rw [sh4_wr]
      have x0 : w19.cell? ⟨pk, 0, none⟩ = some (.int .i64 1) := blk_cell HK19.out 0
      have x1 : w19.cell? ⟨pk, 1, none⟩ = some (.int .i64 1) := blk_cell HK19.out 1
      go_wp2_with fail
      refine (resizeF_any HS19.out.gm 6 2 1 1 (by decide) (by decide) (by decide) (by decide)).mono ?_
      rintro e w20 ⟨rfl, hw20, T4, h20, n20⟩
      rw [show (sh4.1.resize 6 2 1 1 true).2.1 = 5 by kernel_rfl, show (sh4.1.resize 6 2 1 1 true).2.2 = 0 by kernel_rfl]
      have hno : ¬ own T3 w19 pk := fun e => by
        rcases e with e | e
        · exact e HT3.out
        · have := heap_lt HK19.out; omega
      have HS20 := Lib.hid (show Sh w10 T4 q w20 sh5.1 from HS19.out.turn hw20 h20 n20)
      have hk20 := (hw20.block pk (heap_lt HK19.out) hno).trans HK19.out
      have hst := run_storeVar_row (P := Tryz.prog) w20 pk 51 51 _ #[.int .i64 5, .int .i64 0] hk20 (by kernel_rfl) rfl (by simp [Value.oneCell'])
      have HK21 := Lib.hid (setRow_blk (cells := #[.int .i64 5, .int .i64 0]) hk20)
      have HGE := Lib.hid (gb_setRow w20 pk #[.int .i64 5, .int .i64 0])
      have HS21 := Lib.hid (show Sh w10 T4 q (w20.setRow pk #[.int .i64 5, .int .i64 0]) sh5.1 from
        ⟨HS20.out.b.trans (below_of_gb HGE.out HS20.out.b.size (fun k hk => by injection hk with hk; omega)),
         HS20.out.gm.other (Tp := fun k => if k = pk then 1 else 0) (Within.of_gb HGE.out (fun k hk => by
            injection hk with hk
            subst hk
            exact .inl (by show (if _ then 1 else 0) ≠ 0; rw [if_pos rfl]; decide))) (fun k hk => by
            show (if _ then 1 else 0) = 0
            rw [if_neg (fun e => hno (by rw [← e]; exact n20 k hk))]), HS20.out.n⟩)
      clear x0 x1 hk20 hw20 h20 n20 HS19 HS20 hno
      have x0 : (w20.setRow pk #[.int .i64 5, .int .i64 0]).cell? ⟨pk, 0, none⟩ = some (.int .i64 5) := blk_cell HK21.out 0
      have x1 : (w20.setRow pk #[.int .i64 5, .int .i64 0]).cell? ⟨pk, 1, none⟩ = some (.int .i64 0) := blk_cell HK21.out 1
      have hpq := fun (wx : World) => eql_pos 5 0 5 0 wx
      have hgq := fun (x y : Operand) (wx : World) => guard_pos .eql x y 5 0 5 0 wx
      rw [show ((5 : Int) == 5 && (0 : Int) == 0) = true from rfl] at hpq
      go_wp2_with (refine wpList_storeR rfl _ _ _ rfl hst rfl rfl ?_)
      refine (text_any HS21.out.gm 0).mono ?_
      rintro e w22 ⟨rfl, b22⟩
      have HS22 := Lib.hid (HS21.out.below b22)
      clear HS21 b22
      rw [sh5_t0]
      go_wp2_with fail
      refine (text_any HS22.out.gm 1).mono ?_
      rintro e w23 ⟨rfl, b23⟩
      have HS23 := Lib.hid (HS22.out.below b23)
      clear HS22 b23
      rw [sh5_t1]
      go_wp2_with fail
      refine (history_any HS23.out.gm).mono ?_
      rintro e w24 ⟨rfl, hw24⟩
      subst hw24
      rw [sh5_old]
      go_wp2_with fail
      exact ret1v rfl rfl rfl ⟨rfl, HB10.out.trans (HS23.out.b.mono HB10.out.size)⟩
end Go.Proofs.YtjclgoiclbkgjaaGreatDoor

/- Grids' sizes; slices that read as values. -/
namespace Go.Proofs.YtjclgoiclbkgjaaGreatDoor
open Go.RowKit
attribute [local go_sem ↓] Go.wp_at_zero Go.wp_at_succ

def Dim (g : Gr) (c r l : Nat) : Prop := g.cols = c ∧ g.rows.length = r ∧ g.limit = l
theorem Dim.up {g : Gr} {c r l : Nat} (h : Dim g c r l) (t b n : Int) (s : Sty) (k : Bool) : Dim (g.up t b n s k) c r l := by
  unfold Gr.up
  split
  · exact h
  · rename_i h0
    refine ⟨h.1, ?_, h.2.2⟩
    have hr : regionN g t b n s ≠ 0 := h0
    unfold regionN at hr
    by_cases hc : t < 0 ∨ b < t ∨ (g.rows.length : Int) ≤ b ∨ okS s = false
    · rw [if_pos hc] at hr; exact absurd rfl hr
    · rw [if_neg hc] at hr
      have hn : regionN g t b n s = (max 0 (min n (b - t + 1))).toNat := by unfold regionN; rw [if_neg hc]
      show (upRows g.rows t.toNat b.toNat (regionN g t b n s) g.cols s).length = r
      rw [up_len (by omega) (by omega) (by rw [hn]; omega)]
      exact h.2.1
theorem Dim.down {g : Gr} {c r l : Nat} (h : Dim g c r l) (t b n : Int) (s : Sty) : Dim (g.down t b n s) c r l := by
  unfold Gr.down
  split
  · exact h
  · rename_i h0
    refine ⟨h.1, ?_, h.2.2⟩
    have hr : regionN g t b n s ≠ 0 := h0
    unfold regionN at hr
    by_cases hc : t < 0 ∨ b < t ∨ (g.rows.length : Int) ≤ b ∨ okS s = false
    · rw [if_pos hc] at hr; exact absurd rfl hr
    · rw [if_neg hc] at hr
      have hn : regionN g t b n s = (max 0 (min n (b - t + 1))).toNat := by unfold regionN; rw [if_neg hc]
      show (downRows g.rows t.toNat b.toNat (regionN g t b n s) g.cols s).length = r
      rw [down_len (by omega) (by omega) (by rw [hn]; omega)]
      exact h.2.1
theorem Dim.put {g : Gr} {c r l : Nat} (h : Dim g c r l) (x y : Int) (q : Cel) : Dim (g.put x y q) c r l := by
  unfold Gr.put
  split
  · refine ⟨h.1, ?_, h.2.2⟩
    unfold Gr.turn
    show (g.rows.set _ _).length = r
    rw [List.length_set]; exact h.2.1
  · exact h
theorem Dim.setWrap {g : Gr} {c r l : Nat} (h : Dim g c r l) (y : Int) (is : Bool) : Dim (g.setWrap y is) c r l := by
  unfold Gr.setWrap
  split
  · refine ⟨h.1, ?_, h.2.2⟩
    show (g.rows.set _ _).length = r
    rw [List.length_set]; exact h.2.1
  · exact h
theorem Dim.new (c r l : Nat) : Dim (newG c r l) c r l := ⟨rfl, by show (freshL r c plainS).length = r; unfold freshL; rw [List.length_replicate], rfl⟩
end Go.Proofs.YtjclgoiclbkgjaaGreatDoor

/- Erase, Insert, Delete on a grid, plain. -/
namespace Go.Proofs.YtjclgoiclbkgjaaGreatDoor
open Go.RowKit

/-- How many columns from x on are meant. -/
def manyN (g : Gr) (x n : Int) : Nat := (min n ((g.cols : Int) - x)).toNat
def Gr.rowOp (g : Gr) (f : List Cel → Nat → Nat → Sty → List Cel) (x y n : Int) (s : Sty) : Gr :=
  if g.onIt x y s = true ∧ 0 < n then g.turn y.toNat (fun l => f l x.toNat (manyN g x n) s) else g
def Gr.erase (g : Gr) (x y n : Int) (s : Sty) : Gr := g.rowOp eraseL x y n s
def Gr.ins (g : Gr) (x y n : Int) (s : Sty) : Gr := g.rowOp insL x y n s
def Gr.del (g : Gr) (x y n : Int) (s : Sty) : Gr := g.rowOp delL x y n s
theorem eraseL_ok {l : List Cel} {x n : Nat} {s : Sty} (h : ∀ c ∈ l, c.Ok) : ∀ c ∈ eraseL l x n s, c.Ok := fillL_ok (cutL_ok (cutL_ok h))
theorem insL_ok {l : List Cel} {x n : Nat} {s : Sty} (h : ∀ c ∈ l, c.Ok) : ∀ c ∈ insL l x n s, c.Ok := fun c hc => by
  have hm := cutL_ok (x := ((l.length - n : Nat) : Int)) (cutL_ok (x := (x : Int)) h)
  unfold insL at hc
  rcases List.mem_append.1 hc with hc | hc
  · rcases List.mem_append.1 hc with hc | hc
    · exact hm c (List.mem_of_mem_take hc)
    · rw [List.eq_of_mem_replicate hc]; exact blank_ok s
  · exact hm c (List.mem_of_mem_drop (List.mem_of_mem_take hc))
theorem delL_ok {l : List Cel} {x n : Nat} {s : Sty} (h : ∀ c ∈ l, c.Ok) : ∀ c ∈ delL l x n s, c.Ok := fun c hc => by
  have hm := cutL_ok (x := ((x + n : Nat) : Int)) (cutL_ok (x := (x : Int)) h)
  unfold delL at hc
  rcases List.mem_append.1 hc with hc | hc
  · rcases List.mem_append.1 hc with hc | hc
    · exact hm c (List.mem_of_mem_take hc)
    · exact hm c (List.mem_of_mem_drop hc)
  · rw [List.eq_of_mem_replicate hc]; exact blank_ok s
theorem ins_eq (l : List Cel) (x n : Nat) (s : Sty) (h : x + n ≤ l.length) :
    fillL (putAt (cutL (cutL l x) ((l.length - n : Nat) : Int)) (x + n) (((cutL (cutL l x) ((l.length - n : Nat) : Int)).drop x).take (l.length - x - n))) x n s = insL l x n s := by
  unfold insL
  have hl : (cutL (cutL l x) ((l.length - n : Nat) : Int)).length = l.length := by rw [cutL_len, cutL_len]
  generalize cutL (cutL l x) ((l.length - n : Nat) : Int) = m at *
  rw [← hl] at h ⊢
  have e0 : ((m.drop x).take (m.length - x - n)).length = m.length - x - n := by rw [List.length_take, List.length_drop]; omega
  unfold fillL putAt
  rw [List.length_replicate, e0, show x + n + (m.length - x - n) = m.length by omega, List.drop_length, List.append_nil]
  have e1 : (m.take (x + n)).length = x + n := by rw [List.length_take]; omega
  rw [List.take_append_of_le_length (by omega), List.take_take, Nat.min_eq_left (by omega), List.drop_left' e1, show m.length - n - x = m.length - x - n by omega]
theorem del_eq (l : List Cel) (x n : Nat) (s : Sty) (h : x + n ≤ l.length) :
    fillL (putAt (cutL (cutL l x) ((x + n : Nat) : Int)) x ((cutL (cutL l x) ((x + n : Nat) : Int)).drop (x + n))) (l.length - n) n s = delL l x n s := by
  unfold delL
  have hl : (cutL (cutL l x) ((x + n : Nat) : Int)).length = l.length := by rw [cutL_len, cutL_len]
  generalize cutL (cutL l x) ((x + n : Nat) : Int) = m at *
  rw [← hl] at h ⊢
  have e0 : (m.drop (x + n)).length = m.length - (x + n) := List.length_drop
  have e1 : (m.take x).length = x := by rw [List.length_take]; omega
  have e2 : (m.take x ++ m.drop (x + n)).length = m.length - n := by rw [List.length_append, e0, e1]; omega
  unfold fillL putAt
  rw [List.length_replicate, e0, List.take_left' e2, show m.length - n + n = m.length by omega]
  have e3 : (m.take x ++ m.drop (x + n) ++ m.drop (x + (m.length - (x + n)))).length = m.length := by
    rw [List.length_append, e2, List.length_drop]; omega
  have e4 : (m.take x ++ m.drop (x + n) ++ m.drop (x + (m.length - (x + n)))).drop m.length = [] := List.drop_of_length_le (by rw [e3]; exact Nat.le_refl _)
  rw [e4, List.append_nil]
theorem onIt_iff {g : Gr} {x y : Int} {s : Sty} (h : g.onIt x y s = true) : 0 ≤ y ∧ y < (g.rows.length : Int) ∧ 0 ≤ x ∧ x < (g.cols : Int) ∧ okS s = true := by
  unfold Gr.onIt at h
  simp only [Bool.and_eq_true, decide_eq_true_eq] at h
  exact ⟨h.1, h.2.1, h.2.2.1, h.2.2.2.1, h.2.2.2.2⟩
theorem rowOp_wh {g : Gr} (hw : g.WF) (h : g.All WhR) (f : List Cel → Nat → Nat → Sty → List Cel) (hf : ∀ (l : List Cel) (x n : Nat) (s : Sty), Wh l → x + n ≤ l.length → Wh (f l x n s)) (x y n : Int) (s : Sty) : (g.rowOp f x y n s).All WhR := by
  unfold Gr.rowOp
  split
  · rename_i h0
    obtain ⟨h1, h2, h3, h4, _⟩ := onIt_iff h0.1
    have hrow := hw.ce (g.rows.getD y.toNat noR) (List.mem_append_left _ (by
      rw [List.getD_eq_getElem?_getD, List.getElem?_eq_getElem (by omega)]
      exact List.getElem_mem _))
    intro r hr
    rcases List.mem_append.1 hr with hr | hr
    · exact h r (List.mem_append_left _ hr)
    · rcases List.mem_or_eq_of_mem_set hr with hr | hr
      · exact h r (List.mem_append_right _ hr)
      · rw [hr]
        have hm : g.rows.getD y.toNat noR ∈ g.old ++ g.rows := List.mem_append_right _ (by
          rw [List.getD_eq_getElem?_getD, List.getElem?_eq_getElem (by omega)]
          exact List.getElem_mem _)
        refine hf _ _ _ _ (h _ hm) ?_
        rw [hrow.1]
        unfold manyN
        omega
  · exact h
end Go.Proofs.YtjclgoiclbkgjaaGreatDoor

/- Resize without reflow, plain: rows keep their form. -/
namespace Go.Proofs.YtjclgoiclbkgjaaGreatDoor
open Go.RowKit

theorem fitL_ok {r : Rw} (h : ∀ c ∈ r.cells, c.Ok) (cols : Nat) : ∀ c ∈ (fitL r cols).cells, c.Ok := by
  unfold fitL
  split
  · exact h
  · intro c hc
    rcases List.mem_append.1 hc with hc | hc
    · exact cutL_ok h c (List.mem_of_mem_take hc)
    · rw [List.eq_of_mem_replicate hc]; exact blank_ok _
def sizedR (l : List Rw) (cols rows : Nat) : List Rw := if rows < l.length then l.take rows else l ++ freshL (rows - l.length) cols plainS
theorem sizedR_len (l : List Rw) (cols rows : Nat) : (sizedR l cols rows).length = rows := by
  unfold sizedR
  split
  · rw [List.length_take]; omega
  · rw [List.length_append]; unfold freshL; rw [List.length_replicate]; omega
theorem sizedR_mem {l : List Rw} {cols rows : Nat} {r : Rw} (h : r ∈ sizedR l cols rows) : r ∈ l ∨ r = ⟨List.replicate cols (blankC plainS), false⟩ := by
  unfold sizedR at h
  split at h
  · exact .inl (List.mem_of_mem_take h)
  · rcases List.mem_append.1 h with h | h
    · exact .inl h
    · unfold freshL at h
      exact .inr (List.eq_of_mem_replicate h)
theorem resizeC_eq (g : Gr) (cols rows : Nat) (ax ay : Int) : g.resize cols rows ax ay false = (⟨cols, g.limit, sizedR (g.rows.map fun r => fitL r cols) cols rows, g.old.map fun r => fitL r cols⟩,
      min (into ax (g.cols - 1)) (cols - 1), min (into ay ((g.rows.length : Int) - 1)) (rows - 1)) := by
  unfold Gr.resize
  rw [if_neg (by decide)]
  rfl
theorem resizeC_wf {g : Gr} (h : g.WF) (cols rows : Nat) (ax ay : Int) (c1 : 1 ≤ cols) (c2 : cols ≤ 250) (r1 : 1 ≤ rows) (r2 : rows ≤ 120) : (g.resize cols rows ax ay false).1.WF := by
  rw [resizeC_eq]
  refine ⟨c1, c2, ?_, ?_, h.li, ?_, fun r hr => ?_⟩
  · show 1 ≤ (sizedR _ _ _).length
    rw [sizedR_len]; exact r1
  · show (sizedR _ _ _).length ≤ 120
    rw [sizedR_len]; exact r2
  · show (g.old.map _).length ≤ g.limit
    rw [List.length_map]; exact h.ol
  · have key : ∀ x ∈ g.rows ++ g.old, (fitL x cols).cells.length = cols ∧ ∀ c ∈ (fitL x cols).cells, c.Ok := fun x hx => ⟨fitL_len _ _, fitL_ok (h.ce x hx).2 cols⟩
    rcases List.mem_append.1 hr with hr | hr
    · rcases sizedR_mem hr with hr | hr
      · obtain ⟨x, hx, rfl⟩ := List.mem_map.1 hr
        exact key x (List.mem_append_left _ hx)
      · rw [hr]
        refine ⟨by rw [List.length_replicate], fun c hc => ?_⟩
        rw [List.eq_of_mem_replicate hc]
        exact blank_ok _
    · obtain ⟨x, hx, rfl⟩ := List.mem_map.1 hr
      exact key x (List.mem_append_right _ hx)
end Go.Proofs.YtjclgoiclbkgjaaGreatDoor

/- Walks of package grid: fitted. -/
namespace Go.Proofs.YtjclgoiclbkgjaaGreatDoor
open Go.RowKit

theorem fit_cells (l : List Cel) (cols : Nat) : putAt (List.replicate cols (blankC plainS)) 0 ((cutL l cols).take (min l.length cols)) = (cutL l cols).take cols ++ List.replicate (cols - l.length) (blankC plainS) := by
  unfold putAt
  have hl := cutL_len l (cols : Int)
  rw [List.take_zero, List.nil_append, List.length_take, hl, Nat.zero_add, List.drop_replicate]
  by_cases h : cols ≤ l.length
  · rw [Nat.min_eq_right h, Nat.min_eq_left h, show cols - cols = cols - l.length by omega]
  · rw [Nat.min_eq_left (by omega), Nat.min_eq_left (Nat.le_refl _), List.take_of_length_le (by omega), List.take_of_length_le (by omega)]
theorem ownC_base {w : World} {base B size q n c : Nat} {xs : List Value} (h : OwnC w base size (.slice (some ⟨q, 0, none⟩) n c) n xs) (hq : B ≤ q) : OwnC w B size (.slice (some ⟨q, 0, none⟩) n c) n xs := by
  refine ⟨h.1, ?_⟩
  rcases h.2 with h2 | ⟨b', off', c', e, h1, h2⟩
  · exact .inl h2
  · refine .inr ⟨b', off', c', e, ?_, h2⟩
    simp only [Value.slice.injEq, Option.some.injEq, Addr.mk.injEq] at e
    omega
set_option maxRecDepth 100000 in
set_option maxHeartbeats 8000000 in
theorem fitted_any (r : Rw) (b off c cols : Nat) (w : World) (h : OwnC w 0 5 (.slice (some ⟨b, off, none⟩) r.cells.length c) r.cells.length (cvals r.cells)) (hl : 1 ≤ r.cells.length ∧ r.cells.length ≤ 1000) (hc : 1 ≤ cols ∧ cols ≤ 250) :
    Calls Tryz.prog 57 #[.agg #[.slice (some ⟨b, off, none⟩) r.cells.length c, .bool r.wrap], .int .i64 cols] w fun e w' => ∃ v, e = .returned (.agg #[v, .bool (fitL r cols).wrap]) ∧ w.grownBy w' (some b) ∧
      ((cols = r.cells.length ∧ v = .slice (some ⟨b, off, none⟩) r.cells.length c ∧ Below w.heap.size w w') ∨ (cols ≠ r.cells.length ∧ OwnC w' w.heap.size 5 v cols (cvals (fitL r cols).cells))) := by
  obtain ⟨lx, wr⟩ := r
  dsimp only at h hl ⊢
  have hbl := (ownC_lt h b rfl).2
  have HB0 := Lib.hid (Below.alloc (Below.refl w.heap.size w) (Nat.le_refl _) (.cells #[.slice (some ⟨b, off, none⟩) lx.length c, .bool wr] 77))
  have HB1 := Lib.hid (Below.alloc HB0.out (by simp) (.cells #[.slice none 0 0, .bool false] 77))
  by_cases he : cols = lx.length
  · subst he
    have d1 : ((lx.length : Int) == (lx.length : Int)) = true := beq_self_eq_true _
    have hB : Below w.heap.size w ((w.alloc (.cells #[.slice (some ⟨b, off, none⟩) lx.length c, .bool wr] 77)).alloc (.cells #[.slice (some ⟨b, off, none⟩) lx.length c, .bool wr] 77)) := Below.alloc HB0.out (by simp) _
    go_enter Tryz.func57, Tryz.ntmps57
    go_wp2_with fail
    (try simp only [Exit.inBlock, Exit.then])
    exact retRow rfl rfl rfl (blk_new2 _ _ _) Tryz.underlying77 rfl (by exact row_info) ⟨_, by unfold fitL; rw [if_pos rfl], gb_of_below _ hB, .inl ⟨trivial, rfl, hB⟩⟩
  · have d1 : ((cols : Int) == (lx.length : Int)) = false := by simp; omega
    have HF := Lib.hid (show fitL ⟨lx, wr⟩ cols = ⟨(cutL lx cols).take cols ++ List.replicate (cols - lx.length) (blankC plainS), false⟩ by unfold fitL; rw [if_neg he])
    have HK0 := Lib.hid (blk_alloc (blk_new w (.cells #[.slice (some ⟨b, off, none⟩) lx.length c, .bool wr] 77)) (.cells #[.slice none 0 0, .bool false] 77))
    have HR0 := Lib.hid (blk_new2 w (.cells #[.slice (some ⟨b, off, none⟩) lx.length c, .bool wr] 77) (.cells #[.slice none 0 0, .bool false] 77))
    have HO0 := Lib.hid (ownC_alloc (ownC_alloc h (.cells #[.slice (some ⟨b, off, none⟩) lx.length c, .bool wr] 77)) (.cells #[.slice none 0 0, .bool false] 77))
    have hsz1 : ((w.alloc (.cells #[.slice (some ⟨b, off, none⟩) lx.length c, .bool wr] 77)).alloc (.cells #[.slice none 0 0, .bool false] 77)).heap.size = w.heap.size + 2 := by simp
    clear h HB0
    have hnl : lx.length ≤ 1000000 := by omega
    go_enter Tryz.func57, Tryz.ntmps57
    go_upto_region 1 with fail
    generalize (w.alloc (.cells #[.slice (some ⟨b, off, none⟩) lx.length c, .bool wr] 77)).alloc (.cells #[.slice none 0 0, .bool false] 77) = w1 at *
    have k0 : w1.cell? ⟨w.heap.size, 0, none⟩ = some (.slice (some ⟨b, off, none⟩) lx.length c) := blk_cell HK0.out 0
    go_wp2_with fail
    refine (cut_any lx cols b off lx.length c w1 HO0.out rfl hnl (by omega)).mono ?_
    rintro e w2 ⟨rfl, g2, o2⟩
    have HK2 := Lib.hid (blk_grown HK0.out g2 (by intro e; injection e with e; omega))
    have HR2 := Lib.hid (blk_grown HR0.out g2 (by intro e; injection e with e; omega))
    have HG2 := Lib.hid (gb_trans (gb_of_below (some b) HB1.out) g2)
    have hs2 := g2.size
    have HO2 := Lib.hid o2
    clear k0 g2 o2 HK0 HR0 HO0 HB1
    obtain ⟨w3, hmk, ho3, b3, hs3⟩ := make_full cells_elem cols (by omega) (by omega) (by omega) w2
    rw [made_cells] at ho3
    generalize hq : w2.heap.size = q at *
    have HK3 := Lib.hid (blk_below HK2.out b3 (by omega))
    have HR3 := Lib.hid (blk_below HR2.out b3 (by omega))
    have HG3 := Lib.hid (gb_below HG2.out b3 (by omega))
    have HO3 := Lib.hid (ownC_below HO2.out (by rw [hq]; exact b3))
    have HN3 := Lib.hid ho3
    clear ho3 b3 HK2 HR2 HG2 HO2
    go_wp2_with fail
    clear hmk
    refine (plain_any w3).mono ?_
    rintro e w4 ⟨rfl, b4⟩
    have hs4 := b4.size
    have HK4 := Lib.hid (blk_below HK3.out b4 (by omega))
    have HR4 := Lib.hid (blk_below HR3.out b4 (by omega))
    have HG4 := Lib.hid (gb_below HG3.out b4 (by omega))
    have HO4 := Lib.hid (ownC_below HO3.out b4)
    have HFL := Lib.hid (fill_any (List.replicate cols noC) plainS q 0 cols cols 0 cols cols w4 (ownC_mono (ownC_below HN3.out b4) (Nat.zero_le _)) (by rw [List.length_replicate]) (by omega) (by unfold maxLen; omega))
    simp only [Nat.zero_mul, Nat.add_zero, fill_all] at HFL
    clear b4 HK3 HR3 HG3 HO3 HN3
    go_wp2_with fail
    refine HFL.out.mono ?_
    rintro e w5 ⟨rfl, g5, o5⟩
    have hs5 := g5.size
    have HK5 := Lib.hid (blk_grown HK4.out g5 (by intro e; injection e with e; omega))
    have HR5 := Lib.hid (blk_grown HR4.out g5 (by intro e; injection e with e; omega))
    have HG5 := Lib.hid (gb_trans_new HG4.out g5 (by intro k hk; injection hk with hk; omega))
    have HO5 := Lib.hid (ownC_grown HO4.out g5 (by intro k hk e; simp only [Value.ownBlock] at hk; injection hk with hk; injection e with e; omega))
    have hcp := copy_own (P := Tryz.prog) Tryz.underlying42 cell_info o5 0 cols cols ⟨q, 0, none⟩ (fun _ => by simp) (by omega) (ownC_reads HO5.out) (cvals_one _) 3
    have hO6 := copy_owned o5 0 (cvals ((cutL lx cols).take (Nat.min lx.length cols))) (by rw [cvals_len, List.length_take, cutL_len]; have : Nat.min lx.length cols = min lx.length cols := rfl; omega)
    rw [cvals_take] at hcp
    rw [← cvals_put, show Nat.min lx.length cols = min lx.length cols from rfl, fit_cells] at hO6
    rw [show Nat.min lx.length cols = min lx.length cols from rfl] at hcp
    simp only [Nat.zero_mul, Nat.add_zero] at hcp hO6
    have g6 := gb_setCells w5 q 0 (cvals ((cutL lx cols).take (min lx.length cols)))
    have k5 : w5.cell? ⟨w.heap.size, 0, none⟩ = some (.slice (some ⟨b, off, none⟩) lx.length c) := blk_cell HK5.out 0
    have HR6 := Lib.hid (blk_grown HR5.out g6 (by intro e; injection e with e; omega))
    have HG6 := Lib.hid (gb_trans_new HG5.out g6 (by intro k hk; injection hk with hk; omega))
    have HN6 := Lib.hid hO6
    have hs6 := g6.size
    clear hO6 g6 o5 g5 HK4 HR4 HG4 HO4 HK5 HR5 HG5 HO5
    go_upto_region 7 with fail
    generalize w5.setCells q 0 (cvals ((cutL lx cols).take (min lx.length cols))) = w6 at *
    have hst := run_storeVar_row (P := Tryz.prog) w6 (w.heap.size + 1) 77 77 _ #[.slice (some ⟨q, 0, none⟩) cols cols, .bool false] HR6.out (by kernel_rfl) rfl (by simp [Value.oneCell'])
    have hr7 := setRow_blk (cells := #[.slice (some ⟨q, 0, none⟩) cols cols, .bool false]) HR6.out
    have HG7 := Lib.hid (gb_setRow w6 (w.heap.size + 1) #[.slice (some ⟨q, 0, none⟩) cols cols, .bool false])
    have HG8 := Lib.hid (gb_trans_new HG6.out HG7.out (by intro k hk; injection hk with hk; omega))
    have HN8 := Lib.hid (ownC_grown (ownC_base HN6.out (show w.heap.size ≤ q by omega)) HG7.out (by intro k hk e; simp only [Value.ownBlock] at hk; injection hk with hk; injection e with e; omega))
    clear k5 hcp
    go_wp2_with (refine wpList_storeR rfl _ _ _ rfl hst rfl rfl ?_)
    (try simp only [Exit.inBlock, Exit.then])
    exact retRow rfl rfl rfl hr7 Tryz.underlying77 rfl (by exact row_info) ⟨_, by rw [HF.out], HG8.out, .inr ⟨he, by rw [HF.out]; exact HN8.out⟩⟩
end Go.Proofs.YtjclgoiclbkgjaaGreatDoor
