/- Package grid, texts laid together: G23 G24 G25 G26. -/
import Derived.Test.YtjclgoiclbkgjaaDoorK13
import Derived.Laws.ResultCell
import Derived.Lib.TrimU
/- Walks of package grid: Resize, where the rows are laid anew. -/
namespace Go.Proofs.YtjclgoiclbkgjaaDoor
open Go.RowKit
attribute [local go_sem ↓] Go.wp_at_zero Go.wp_at_succ

theorem retRow2 {P : Program} {fn : Func} {R : Ending → World → Prop} {a : Act} {w : World} {p u : Tmp} {ty t : TypeId} {g : Nat} {cs : Array Value} {fr : Nat × Nat} {d : TypeDesc} {x : Value} (h : fn.results = #[.cell p ty, .tmp u]) (hdf : a.defers = [])
    (hp : a.tmps.getD p undef = .pointer (some ⟨g, 0, none⟩)) (hx : a.tmps.getD u undef = x) (hg : w.heap[g]? = some (.cells cs t fr)) (hu : P.underlying ty = some d) (hd : (match d with | .struct _ | .array _ _ => true | _ => false) = true) (hi : (P.info? ty).map (·.size) = some cs.size)
    (hR : R (.returned (.tuple #[.agg cs, x])) w) : bodyPost P fn R .ret a w :=
  bodyPost_ret (by rw [results_cell_tmp h, hp, hx]; simp [asAddr, run_loadVar_row w g t ty cs fr d hg hu hd hi, Result.andThen]) hdf hR
set_option maxRecDepth 100000 in
set_option maxHeartbeats 8000000 in
theorem resizeF_any {T : Nat → Nat} {p : Nat} {w : World} {g : Gr} (h : GM T p w g) (cols rows : Nat) (ax ay : Int) (c1 : 1 ≤ cols) (c2 : cols ≤ 250) (r1 : 1 ≤ rows) (r2 : rows ≤ 120) :
    Calls Tryd.prog 19 #[.pointer (some ⟨p, 0, none⟩), .int .i64 cols, .int .i64 rows, .agg #[.int .i64 ax, .int .i64 ay], .bool true] w fun e w' =>
      e = .returned (.tuple #[.agg #[.int .i64 (g.resize cols rows ax ay true).2.1, .int .i64 (g.resize cols rows ax ay true).2.2], .int .i64 0]) ∧ Within (own T w) w w' ∧ ∃ T', GM T' p w' (g.resize cols rows ax ay true).1 ∧ ∀ k, T' k ≠ 0 → own T w k := by
  have hmay : mayG (cols : Int) (rows : Int) = true := by unfold mayG; simp; omega
  obtain ⟨vr, vo, Lr, Lo, h0⟩ := h
  have hlr := (rows_len h0).1
  have wf := h0.wf
  have hr2 : Lr.length ≤ 120 := by have := wf.r2; omega
  have hr1 : 1 ≤ Lr.length := by have := wf.r1; omega
  have hg1 := wf.c1
  have hg2 := wf.c2
  have hpl := heap_lt h0.blk
  have HB1 := Lib.hid (show Below w.heap.size w ((w.alloc (.cells #[.int .i64 ax, .int .i64 ay] 43)).alloc (.cells #[.int .i64 0, .int .i64 0] 43)) from Below.alloc (Below.alloc (Below.refl w.heap.size w) (Nat.le_refl _) _) (by simp) _)
  have HAT := Lib.hid (blk_alloc (blk_new w (.cells #[.int .i64 ax, .int .i64 ay] 43)) (.cells #[.int .i64 0, .int .i64 0] 43))
  have HRS := Lib.hid (blk_new2 w (.cells #[.int .i64 ax, .int .i64 ay] 43) (.cells #[.int .i64 0, .int .i64 0] 43))
  have HG0 := Lib.hid h0
  have HLR := Lib.hid hlr
  have hsz : ((w.alloc (.cells #[.int .i64 ax, .int .i64 ay] 43)).alloc (.cells #[.int .i64 0, .int .i64 0] 43)).heap.size = w.heap.size + 2 := by simp
  clear h0 wf hlr
  go_enter Tryd.func19, Tryd.ntmps19
  go_upto_region 1 with fail
  generalize (w.alloc (.cells #[.int .i64 ax, .int .i64 ay] 43)).alloc (.cells #[.int .i64 0, .int .i64 0] 43) = wa at *
  go_wp2_with fail
  refine (may_any cols rows wa).mono ?_
  rintro e w2 ⟨rfl, hw2⟩
  subst hw2
  obtain ⟨wa, rfl⟩ : ∃ wa, wa = w2 := ⟨w2, rfl⟩
  have HG1 := Lib.hid (HG0.out.mod (.of_below HB1.out) id id id (fun _ => id))
  obtain ⟨k0, k1, k2, k3⟩ := gm_cells HG1.out
  have a0 : wa.cell? ⟨w.heap.size, 0, none⟩ = some (.int .i64 ax) := blk_cell HAT.out 0
  have z0 : wa.frozen? ⟨w.heap.size, 0, none⟩ = false := blk_free HAT.out 0
  have hwr1 : IntKind.i64.wrap ((g.cols : Int) - 1) = (g.cols : Int) - 1 := wrap64_id _ (by omega) (by omega)
  have hwr2 : IntKind.i64.wrap ((Lr.length : Int) - 1) = (Lr.length : Int) - 1 := wrap64_id _ (by omega) (by omega)
  go_upto_region 3 with fail
  refine wpL_begin (c := 10) (S := (fun bb w' => w'.cell? ⟨p, 0, none⟩ = some (.int .i64 g.cols) ∧ (bb = false → w'.cell? ⟨w.heap.size, 0, none⟩ = some (.int .i64 ax)))) (by kernel_rfl) (⟨k0, fun _ => a0⟩) (fun _ => ?_)
  refine wpL_take (i := 0) (oi := ?o101) (v := ?v101) ?h101 (by kernel_rfl) (by kernel_rfl) (by kernel_rfl) (by rfl) ?q101 (by rfl) (b := false) (⟨k0, fun _ => a0⟩) (Or.inl ⟨?w101, ?y101⟩) ?r101
  case h101 => (simp only [List.getElem?_toArray, List.getElem?_cons_zero]; rfl)
  case q101 => exact fun _ _ _ h => h
  case w101 => rfl
  case y101 =>
    intro wS hSw
    obtain ⟨hSb, hSw, hSx⟩ := hSw
    clear hSx
    go_simp
    (try (with_reducible rfl))
  try simp only [Act.put, List.setIfInBounds_toArray, List.set_cons_zero, List.set_cons_succ]
  refine wpL_takeD (i := 1) (oi := ?o102) (oc := ?c102) (v := ?v102) ?h102 ?g102 ?d102 (by kernel_rfl) (by kernel_rfl) (by kernel_rfl) (by rfl) ?q102 (by rfl) (⟨k0, fun _ => a0⟩) (Or.inl ⟨?w102, ?y102⟩) ?r102
  case h102 => (simp only [List.getElem?_toArray, List.getElem?_cons_succ, List.getElem?_cons_zero]; rfl)
  case g102 => (simp only [List.getElem?_toArray, List.getElem?_cons_succ, List.getElem?_cons_zero]; rfl)
  case d102 => kernel_rfl
  case q102 => exact fun _ _ _ h => h
  case w102 => rfl
  case y102 =>
    intro wS hSw
    obtain ⟨hSw, hSx⟩ := hSw
    have hSx := hSx rfl
    go_simp
    (try (with_reducible rfl))
  try simp only [Act.put, List.setIfInBounds_toArray, List.set_cons_zero, List.set_cons_succ]
  refine wpL_take (i := 2) (oi := ?o103) (v := ?v103) ?h103 (by kernel_rfl) (by kernel_rfl) (by kernel_rfl) (by rfl) ?q103 (by rfl) (b := false) (⟨k0, fun _ => a0⟩) (Or.inl ⟨?w103, ?y103⟩) ?r103
  case h103 => (simp only [List.getElem?_toArray, List.getElem?_cons_succ, List.getElem?_cons_zero]; rfl)
  case q103 => exact fun _ _ _ h => h
  case w103 => rfl
  case y103 =>
    intro wS hSw
    obtain ⟨hSb, hSw, hSx⟩ := hSw
    clear hSx
    go_simp
    (try (with_reducible rfl))
  try simp only [Act.put, List.setIfInBounds_toArray, List.set_cons_zero, List.set_cons_succ]
  refine wpL_take (i := 3) (oi := ?o104) (v := ?v104) ?h104 (by kernel_rfl) (by kernel_rfl) (by kernel_rfl) (by rfl) ?q104 (by rfl) (b := false) (⟨k0, fun _ => a0⟩) (Or.inl ⟨?w104, ?y104⟩) ?r104
  case h104 => (simp only [List.getElem?_toArray, List.getElem?_cons_succ, List.getElem?_cons_zero]; rfl)
  case q104 => exact fun _ _ _ h => h
  case w104 => rfl
  case y104 =>
    intro wS hSw
    obtain ⟨hSb, hSw, hSx⟩ := hSw
    clear hSx
    go_simp
    (try (with_reducible rfl))
  try simp only [Act.put, List.setIfInBounds_toArray, List.set_cons_zero, List.set_cons_succ]
  refine wpL_take (i := 4) (oi := ?o105) (v := ?v105) ?h105 (by kernel_rfl) (by kernel_rfl) (by kernel_rfl) (by rfl) ?q105 (by rfl) (b := false) (⟨k0, fun _ => a0⟩) (Or.inl ⟨?w105, ?y105⟩) ?r105
  case h105 => (simp only [List.getElem?_toArray, List.getElem?_cons_succ, List.getElem?_cons_zero]; rfl)
  case q105 => exact fun _ _ _ h => h
  case w105 => rfl
  case y105 =>
    intro wS hSw
    obtain ⟨hSb, hSw, hSx⟩ := hSw
    clear hSx
    go_simp
    (try (with_reducible rfl))
  try simp only [Act.put, List.setIfInBounds_toArray, List.set_cons_zero, List.set_cons_succ]
  refine wpL_take (i := 5) (oi := ?o106) (v := ?v106) ?h106 (by kernel_rfl) (by kernel_rfl) (by kernel_rfl) (by rfl) ?q106 (by rfl) (b := false) (⟨k0, fun _ => a0⟩) (Or.inl ⟨?w106, ?y106⟩) ?r106
  case h106 => (simp only [List.getElem?_toArray, List.getElem?_cons_succ, List.getElem?_cons_zero]; rfl)
  case q106 => exact fun _ _ _ h => h
  case w106 => rfl
  case y106 =>
    intro wS hSw
    obtain ⟨hSb, hSw, hSx⟩ := hSw
    clear hSx
    go_simp
    (try (with_reducible rfl))
  try simp only [Act.put, List.setIfInBounds_toArray, List.set_cons_zero, List.set_cons_succ]
  refine wpL_take (i := 6) (oi := ?o107) (v := ?v107) ?h107 (by kernel_rfl) (by kernel_rfl) (by kernel_rfl) (by rfl) ?q107 (by rfl) (b := false) (⟨k0, fun _ => a0⟩) (Or.inl ⟨?w107, ?y107⟩) ?r107
  case h107 => (simp only [List.getElem?_toArray, List.getElem?_cons_succ, List.getElem?_cons_zero]; rfl)
  case q107 => exact fun _ _ _ h => h
  case w107 => rfl
  case y107 =>
    intro wS hSw
    obtain ⟨hSb, hSw, hSx⟩ := hSw
    clear hSx
    go_simp
    (try (with_reducible rfl))
  try simp only [Act.put, List.setIfInBounds_toArray, List.set_cons_zero, List.set_cons_succ]
  refine wpL_take (i := 7) (oi := ?o108) (v := ?v108) ?h108 (by kernel_rfl) (by kernel_rfl) (by kernel_rfl) (by rfl) ?q108 (by rfl) (b := false) (⟨k0, fun _ => a0⟩) (Or.inl ⟨?w108, ?y108⟩) ?r108
  case h108 => (simp only [List.getElem?_toArray, List.getElem?_cons_succ, List.getElem?_cons_zero]; rfl)
  case q108 => exact fun _ _ _ h => h
  case w108 => rfl
  case y108 =>
    intro wS hSw
    obtain ⟨hSb, hSw, hSx⟩ := hSw
    clear hSx
    go_simp
    (try (with_reducible rfl))
  try simp only [Act.put, List.setIfInBounds_toArray, List.set_cons_zero, List.set_cons_succ]
  refine wpL_take (i := 8) (oi := ?o109) (v := ?v109) ?h109 (by kernel_rfl) (by kernel_rfl) (by kernel_rfl) (by rfl) ?q109 (by rfl) (b := false) (⟨k0, fun _ => a0⟩) (Or.inl ⟨?w109, ?y109⟩) ?r109
  case h109 => (simp only [List.getElem?_toArray, List.getElem?_cons_succ, List.getElem?_cons_zero]; rfl)
  case q109 => exact fun _ _ _ h => h
  case w109 => rfl
  case y109 =>
    intro wS hSw
    obtain ⟨hSb, hSw, hSx⟩ := hSw
    clear hSx
    go_simp
    (try (with_reducible rfl))
  try simp only [Act.put, List.setIfInBounds_toArray, List.set_cons_zero, List.set_cons_succ]
  refine wpL_take (i := 9) (oi := ?o110) (v := ?v110) ?h110 (by kernel_rfl) (by kernel_rfl) (by kernel_rfl) (by rfl) ?q110 (by rfl) (b := false) (⟨k0, fun _ => a0⟩) (Or.inl ⟨?w110, ?y110⟩) ?r110
  case h110 => (simp only [List.getElem?_toArray, List.getElem?_cons_succ, List.getElem?_cons_zero]; rfl)
  case q110 => exact fun _ _ _ h => h
  case w110 => rfl
  case y110 =>
    intro wS hSw
    obtain ⟨hSb, hSw, hSx⟩ := hSw
    clear hSx
    go_simp
    (try (with_reducible rfl))
  try simp only [Act.put, List.setIfInBounds_toArray, List.set_cons_zero, List.set_cons_succ]
  refine wpL_one (i := 10) (o := ?o111) (b := true) (by kernel_rfl) ?h111 (by rfl) ?k111
  case h111 => (simp only [List.getElem?_toArray, List.getElem?_cons_succ, List.getElem?_cons_zero]; rfl)
  intro K hK
  refine wanted_on rfl ?_
  go_wp2_with fail
  refine hK.out _ _ (⟨cell_grown (gb_set (gb_refl _ _) _ _) k0 (fun e => by injection e with e; omega), fun e => by cases e⟩) (fun _ => ?_)
  clear hK K 
  try simp only [Act.put, List.setIfInBounds_toArray, List.set_cons_zero, List.set_cons_succ]
  refine wpL_done (by kernel_rfl) ?_ _
  have hbx : 0 ≤ max 0 (min ax ((g.cols : Int) - 1)) ∧ max 0 (min ax ((g.cols : Int) - 1)) ≤ 250 := by omega
  have HIX := Lib.hid (show into ax ((g.cols : Int) - 1) = max 0 (min ax ((g.cols : Int) - 1)) from rfl)
  generalize max 0 (min ax ((g.cols : Int) - 1)) = bx at *
  have hsb : ((wa.setCell ⟨w.heap.size, 0, none⟩ (.int .i64 bx)).drew).heap.size = wa.heap.size := by show (wa.setCell _ _).heap.size = _; simp
  have HG2 := Lib.hid (show wa.grownBy ((wa.setCell ⟨w.heap.size, 0, none⟩ (.int .i64 bx)).drew) (some w.heap.size) from gb_drew (gb_set (gb_refl _ _) _ _))
  have HAT2 := Lib.hid (show ((wa.setCell ⟨w.heap.size, 0, none⟩ (.int .i64 bx)).drew).heap[w.heap.size]? = some (.cells #[.int .i64 bx, .int .i64 ay] 43 (0, 0)) from blk_set HAT.out 0 _)
  generalize (wa.setCell ⟨w.heap.size, 0, none⟩ (.int .i64 bx)).drew = wb at *
  have HB2 := Lib.hid (HB1.out.trans (below_of_gb HG2.out (by omega) (fun q hq => by injection hq with hq; omega)))
  have HRS2 := Lib.hid (blk_grown HRS.out HG2.out (fun e => by injection e with e; omega))
  clear HAT HRS HB1 HG1 HG2 k0 k1 k2 k3 a0 z0 hwr1
  have HG1 := Lib.hid (HG0.out.mod (.of_below HB2.out) id id id (fun _ => id))
  obtain ⟨k0, k1, k2, k3⟩ := gm_cells HG1.out
  have hl1 := ownC_ln Tryd.underlying68 HG1.out.rr.own
  have a0 : wb.cell? ⟨w.heap.size, 0, none⟩ = some (.int .i64 bx) := blk_cell HAT2.out 0
  have a1 : wb.cell? ⟨w.heap.size, 1, none⟩ = some (.int .i64 ay) := blk_cell HAT2.out 1
  have z1 : wb.frozen? ⟨w.heap.size, 1, none⟩ = false := blk_free HAT2.out 1
  go_upto_region 4 with fail
  refine wpL_begin (c := 11) (S := (fun bb w' => w'.cell? ⟨p, 2, none⟩ = some vr ∧ (bb = false → w'.cell? ⟨w.heap.size, 1, none⟩ = some (.int .i64 ay)))) (by kernel_rfl) (⟨k2, fun _ => a1⟩) (fun _ => ?_)
  refine wpL_take (i := 0) (oi := ?o112) (v := ?v112) ?h112 (by kernel_rfl) (by kernel_rfl) (by kernel_rfl) (by rfl) ?q112 (by rfl) (b := false) (⟨k2, fun _ => a1⟩) (Or.inl ⟨?w112, ?y112⟩) ?r112
  case h112 => (simp only [List.getElem?_toArray, List.getElem?_cons_zero]; rfl)
  case q112 => exact fun _ _ _ h => h
  case w112 => rfl
  case y112 =>
    intro wS hSw
    obtain ⟨hSb, hSw, hSx⟩ := hSw
    clear hSx
    go_simp
    (try (with_reducible rfl))
  try simp only [Act.put, List.setIfInBounds_toArray, List.set_cons_zero, List.set_cons_succ]
  refine wpL_takeD (i := 1) (oi := ?o113) (oc := ?c113) (v := ?v113) ?h113 ?g113 ?d113 (by kernel_rfl) (by kernel_rfl) (by kernel_rfl) (by rfl) ?q113 (by rfl) (⟨k2, fun _ => a1⟩) (Or.inl ⟨?w113, ?y113⟩) ?r113
  case h113 => (simp only [List.getElem?_toArray, List.getElem?_cons_succ, List.getElem?_cons_zero]; rfl)
  case g113 => (simp only [List.getElem?_toArray, List.getElem?_cons_succ, List.getElem?_cons_zero]; rfl)
  case d113 => kernel_rfl
  case q113 => exact fun _ _ _ h => h
  case w113 => rfl
  case y113 =>
    intro wS hSw
    obtain ⟨hSw, hSx⟩ := hSw
    have hSx := hSx rfl
    go_simp
    (try (with_reducible rfl))
  try simp only [Act.put, List.setIfInBounds_toArray, List.set_cons_zero, List.set_cons_succ]
  refine wpL_take (i := 2) (oi := ?o114) (v := ?v114) ?h114 (by kernel_rfl) (by kernel_rfl) (by kernel_rfl) (by rfl) ?q114 (by rfl) (b := false) (⟨k2, fun _ => a1⟩) (Or.inl ⟨?w114, ?y114⟩) ?r114
  case h114 => (simp only [List.getElem?_toArray, List.getElem?_cons_succ, List.getElem?_cons_zero]; rfl)
  case q114 => exact fun _ _ _ h => h
  case w114 => rfl
  case y114 =>
    intro wS hSw
    obtain ⟨hSb, hSw, hSx⟩ := hSw
    clear hSx
    go_simp
    (try (with_reducible rfl))
  try simp only [Act.put, List.setIfInBounds_toArray, List.set_cons_zero, List.set_cons_succ]
  refine wpL_take (i := 3) (oi := ?o115) (v := ?v115) ?h115 (by kernel_rfl) (by kernel_rfl) (by kernel_rfl) (by rfl) ?q115 (by rfl) (b := false) (⟨k2, fun _ => a1⟩) (Or.inl ⟨?w115, ?y115⟩) ?r115
  case h115 => (simp only [List.getElem?_toArray, List.getElem?_cons_succ, List.getElem?_cons_zero]; rfl)
  case q115 => exact fun _ _ _ h => h
  case w115 => rfl
  case y115 =>
    intro wS hSw
    obtain ⟨hSb, hSw, hSx⟩ := hSw
    clear hSx
    go_simp
    (try (with_reducible rfl))
  try simp only [Act.put, List.setIfInBounds_toArray, List.set_cons_zero, List.set_cons_succ]
  refine wpL_take (i := 4) (oi := ?o116) (v := ?v116) ?h116 (by kernel_rfl) (by kernel_rfl) (by kernel_rfl) (by rfl) ?q116 (by rfl) (b := false) (⟨k2, fun _ => a1⟩) (Or.inl ⟨?w116, ?y116⟩) ?r116
  case h116 => (simp only [List.getElem?_toArray, List.getElem?_cons_succ, List.getElem?_cons_zero]; rfl)
  case q116 => exact fun _ _ _ h => h
  case w116 => rfl
  case y116 =>
    intro wS hSw
    obtain ⟨hSb, hSw, hSx⟩ := hSw
    clear hSx
    go_simp
    (try (with_reducible rfl))
  try simp only [Act.put, List.setIfInBounds_toArray, List.set_cons_zero, List.set_cons_succ]
  refine wpL_take (i := 5) (oi := ?o117) (v := ?v117) ?h117 (by kernel_rfl) (by kernel_rfl) (by kernel_rfl) (by rfl) ?q117 (by rfl) (b := false) (⟨k2, fun _ => a1⟩) (Or.inl ⟨?w117, ?y117⟩) ?r117
  case h117 => (simp only [List.getElem?_toArray, List.getElem?_cons_succ, List.getElem?_cons_zero]; rfl)
  case q117 => exact fun _ _ _ h => h
  case w117 => rfl
  case y117 =>
    intro wS hSw
    obtain ⟨hSb, hSw, hSx⟩ := hSw
    clear hSx
    go_simp
    (try (with_reducible rfl))
  try simp only [Act.put, List.setIfInBounds_toArray, List.set_cons_zero, List.set_cons_succ]
  refine wpL_take (i := 6) (oi := ?o118) (v := ?v118) ?h118 (by kernel_rfl) (by kernel_rfl) (by kernel_rfl) (by rfl) ?q118 (by rfl) (b := false) (⟨k2, fun _ => a1⟩) (Or.inl ⟨?w118, ?y118⟩) ?r118
  case h118 => (simp only [List.getElem?_toArray, List.getElem?_cons_succ, List.getElem?_cons_zero]; rfl)
  case q118 => exact fun _ _ _ h => h
  case w118 => rfl
  case y118 =>
    intro wS hSw
    obtain ⟨hSb, hSw, hSx⟩ := hSw
    clear hSx
    go_simp
    (try (with_reducible rfl))
  try simp only [Act.put, List.setIfInBounds_toArray, List.set_cons_zero, List.set_cons_succ]
  refine wpL_take (i := 7) (oi := ?o119) (v := ?v119) ?h119 (by kernel_rfl) (by kernel_rfl) (by kernel_rfl) (by rfl) ?q119 (by rfl) (b := false) (⟨k2, fun _ => a1⟩) (Or.inl ⟨?w119, ?y119⟩) ?r119
  case h119 => (simp only [List.getElem?_toArray, List.getElem?_cons_succ, List.getElem?_cons_zero]; rfl)
  case q119 => exact fun _ _ _ h => h
  case w119 => rfl
  case y119 =>
    intro wS hSw
    obtain ⟨hSb, hSw, hSx⟩ := hSw
    clear hSx
    go_simp
    (try (with_reducible rfl))
  try simp only [Act.put, List.setIfInBounds_toArray, List.set_cons_zero, List.set_cons_succ]
  refine wpL_take (i := 8) (oi := ?o120) (v := ?v120) ?h120 (by kernel_rfl) (by kernel_rfl) (by kernel_rfl) (by rfl) ?q120 (by rfl) (b := false) (⟨k2, fun _ => a1⟩) (Or.inl ⟨?w120, ?y120⟩) ?r120
  case h120 => (simp only [List.getElem?_toArray, List.getElem?_cons_succ, List.getElem?_cons_zero]; rfl)
  case q120 => exact fun _ _ _ h => h
  case w120 => rfl
  case y120 =>
    intro wS hSw
    obtain ⟨hSb, hSw, hSx⟩ := hSw
    clear hSx
    go_simp
    (try (with_reducible rfl))
  try simp only [Act.put, List.setIfInBounds_toArray, List.set_cons_zero, List.set_cons_succ]
  refine wpL_take (i := 9) (oi := ?o121) (v := ?v121) ?h121 (by kernel_rfl) (by kernel_rfl) (by kernel_rfl) (by rfl) ?q121 (by rfl) (b := false) (⟨k2, fun _ => a1⟩) (Or.inl ⟨?w121, ?y121⟩) ?r121
  case h121 => (simp only [List.getElem?_toArray, List.getElem?_cons_succ, List.getElem?_cons_zero]; rfl)
  case q121 => exact fun _ _ _ h => h
  case w121 => rfl
  case y121 =>
    intro wS hSw
    obtain ⟨hSb, hSw, hSx⟩ := hSw
    clear hSx
    go_simp
    (try (with_reducible rfl))
  try simp only [Act.put, List.setIfInBounds_toArray, List.set_cons_zero, List.set_cons_succ]
  refine wpL_take (i := 10) (oi := ?o122) (v := ?v122) ?h122 (by kernel_rfl) (by kernel_rfl) (by kernel_rfl) (by rfl) ?q122 (by rfl) (b := false) (⟨k2, fun _ => a1⟩) (Or.inl ⟨?w122, ?y122⟩) ?r122
  case h122 => (simp only [List.getElem?_toArray, List.getElem?_cons_succ, List.getElem?_cons_zero]; rfl)
  case q122 => exact fun _ _ _ h => h
  case w122 => rfl
  case y122 =>
    intro wS hSw
    obtain ⟨hSb, hSw, hSx⟩ := hSw
    clear hSx
    go_simp
    (try (with_reducible rfl))
  try simp only [Act.put, List.setIfInBounds_toArray, List.set_cons_zero, List.set_cons_succ]
  refine wpL_one (i := 11) (o := ?o123) (b := true) (by kernel_rfl) ?h123 (by rfl) ?k123
  case h123 => (simp only [List.getElem?_toArray, List.getElem?_cons_succ, List.getElem?_cons_zero]; rfl)
  intro K hK
  refine wanted_on rfl ?_
  go_wp2_with fail
  refine hK.out _ _ (⟨cell_grown (gb_set (gb_refl _ _) _ _) k2 (fun e => by injection e with e; omega), fun e => by cases e⟩) (fun _ => ?_)
  clear hK K 
  try simp only [Act.put, List.setIfInBounds_toArray, List.set_cons_zero, List.set_cons_succ]
  refine wpL_done (by kernel_rfl) ?_ _
  have hby : 0 ≤ max 0 (min ay ((Lr.length : Int) - 1)) ∧ max 0 (min ay ((Lr.length : Int) - 1)) ≤ 120 := by omega
  have HIY := Lib.hid (show into ay ((g.rows.length : Int) - 1) = max 0 (min ay ((Lr.length : Int) - 1)) by rw [HLR.out]; rfl)
  generalize max 0 (min ay ((Lr.length : Int) - 1)) = yb at *
  have hsc : ((wb.setCell ⟨w.heap.size, 1, none⟩ (.int .i64 yb)).drew).heap.size = wb.heap.size := by show (wb.setCell _ _).heap.size = _; simp
  have HG3 := Lib.hid (show wb.grownBy ((wb.setCell ⟨w.heap.size, 1, none⟩ (.int .i64 yb)).drew) (some w.heap.size) from gb_drew (gb_set (gb_refl _ _) _ _))
  have HAT3 := Lib.hid (show ((wb.setCell ⟨w.heap.size, 1, none⟩ (.int .i64 yb)).drew).heap[w.heap.size]? = some (.cells #[.int .i64 bx, .int .i64 yb] 43 (0, 0)) from blk_set HAT2.out 1 _)
  generalize (wb.setCell ⟨w.heap.size, 1, none⟩ (.int .i64 yb)).drew = wc at *
  have HB3 := Lib.hid (HB2.out.trans (below_of_gb HG3.out (by omega) (fun q hq => by injection hq with hq; omega)))
  have HRS3 := Lib.hid (blk_grown HRS2.out HG3.out (fun e => by injection e with e; omega))
  clear HAT2 HRS2 HB2 HG1 HG3 k0 k1 k2 k3 a0 a1 z1 hwr2 hl1
  have HG1 := Lib.hid (show GM T p wc g from ⟨vr, vo, Lr, Lo, HG0.out.mod (.of_below HB3.out) id id id (fun _ => id)⟩)
  have a0 : wc.cell? ⟨w.heap.size, 0, none⟩ = some (.int .i64 bx) := blk_cell HAT3.out 0
  have a1 : wc.cell? ⟨w.heap.size, 1, none⟩ = some (.int .i64 yb) := blk_cell HAT3.out 1
  go_wp2_with fail
  refine (flow_any HG1.out cols rows bx yb c1 c2 r1 r2 hbx hby).mono ?_
  rintro e w9 ⟨rfl, hW9, T', hG9, hT9⟩
  have htr : T (w.heap.size + 1) = 0 := by
    by_cases h0 : T (w.heap.size + 1) = 0
    · exact h0
    · have := HG0.out.lt _ h0
      omega
  have hno : ¬ own T wc (w.heap.size + 1) := fun e => by
    rcases e with e | e
    · exact e htr
    · omega
  have hrs9 : w9.heap[w.heap.size + 1]? = some (.cells #[.int .i64 0, .int .i64 0] 43 (0, 0)) := (hW9.block _ (by omega) hno).trans HRS3.out
  have hres : (g.flow cols rows bx yb) = g.resize cols rows ax ay true := by
    unfold Gr.resize
    rw [if_pos rfl, HIX.out, HIY.out]
  have HRES := Lib.hid hres
  have HG9 := Lib.hid hG9
  have HT9 := Lib.hid hT9
  have HWW := Lib.hid hW9
  clear hres hG9 hT9 hW9
  generalize hqx : (g.flow cols rows bx yb).2.1 = qx at *
  generalize hqy : (g.flow cols rows bx yb).2.2 = qy at *
  have HQX := Lib.hid hqx
  have HQY := Lib.hid hqy
  clear hqx hqy
  have hst := run_storeVar_row (P := Tryd.prog) w9 (w.heap.size + 1) 43 43 _ #[.int .i64 qx, .int .i64 qy] hrs9 (by kernel_rfl) rfl (by simp [Value.oneCell'])
  have hr2' := setRow_blk (cells := #[.int .i64 qx, .int .i64 qy]) hrs9
  have HGE := Lib.hid (gb_setRow w9 (w.heap.size + 1) #[.int .i64 qx, .int .i64 qy])
  have HFIN := Lib.hid (show GM T' p (w9.setRow (w.heap.size + 1) #[.int .i64 qx, .int .i64 qy]) (g.resize cols rows ax ay true).1 by
    rw [← HRES.out]
    refine HG9.out.other (Tp := fun k => if k = w.heap.size + 1 then 1 else 0) (Within.of_gb HGE.out (fun k hk => ?_)) (fun k hk => ?_)
    · injection hk with hk
      subst hk
      exact .inl (by show (if _ then 1 else 0) ≠ 0; rw [if_pos rfl]; decide)
    · show (if _ then 1 else 0) = 0
      rw [if_neg (fun e => hno (by rw [← e]; exact HT9.out k hk))])
  have HWI := Lib.hid (show Within (own T w) w (w9.setRow (w.heap.size + 1) #[.int .i64 qx, .int .i64 qy]) from
    ((Within.of_below HB3.out).trans (HWW.out.mono (fun k hk => by
      rcases hk with e | e
      · exact .inl e
      · exact .inr (by omega)))).trans (Within.of_gb HGE.out (fun k hk => by injection hk with hk; subst hk; exact .inr (by omega))))
  clear hrs9
  go_wp2_with (refine wpList_storeR rfl _ _ _ rfl hst rfl rfl ?_)
  (try simp only [Exit.inBlock, Exit.then])
  refine retRow2 (x := .int .i64 0) rfl rfl rfl rfl hr2' Tryd.underlying43 rfl (by kernel_rfl) ⟨by rw [← HRES.out, HQX.out, HQY.out], HWI.out, T', HFIN.out, fun k hk => ?_⟩
  rcases HT9.out k hk with e | e
  · exact .inl e
  · exact .inr (by omega)
end Go.Proofs.YtjclgoiclbkgjaaDoor

/- The examples that stand at the head of each law of package grid: what they come to. -/
namespace Go.Proofs.YtjclgoiclbkgjaaDoor
open Go.RowKit

def sh1 : Gr := (((newG 3 2 5).put 0 0 ⟨97, 1, plainS⟩).put 1 0 ⟨20013, 2, plainS⟩).put 1 0 ⟨98, 1, plainS⟩
def sh2 : Nat → Gr
  | 0 => newG 4 2 5
  | k + 1 => (sh2 k).put ((k % 4 : Nat) : Int) ((k / 4 : Nat) : Int) ⟨97 + k, 1, plainS⟩
def sh3 : Gr := (sh2 6).setWrap 0 true
def sh4 : Gr × Int × Int := sh3.resize 2 2 1 1 true
def sh5 : Gr × Int × Int := sh4.1.resize 6 2 1 1 true
theorem sh1_text : textL (sh1.row 0).cells = [97, 98] := by kernel_rfl
theorem sh1_cell : sh1.cell 2 0 = ⟨32, 1, plainS⟩ := by kernel_rfl
theorem sh4_pos : sh4.2 = (1, 1) := by kernel_rfl
theorem sh4_t0 : textL (sh4.1.row 0).cells = [99, 100] := by kernel_rfl
theorem sh4_t1 : textL (sh4.1.row 1).cells = [101, 102] := by kernel_rfl
theorem sh4_tm : textL (sh4.1.row (-1)).cells = [97, 98] := by kernel_rfl
theorem sh4_wr : (sh4.1.row (-1)).wrap = true := by kernel_rfl
theorem sh5_pos : sh5.2 = (5, 0) := by kernel_rfl
theorem sh5_t0 : textL (sh5.1.row 0).cells = [97, 98, 99, 100, 101, 102] := by kernel_rfl
theorem sh5_t1 : textL (sh5.1.row 1).cells = [] := by kernel_rfl
theorem sh5_old : sh5.1.old.length = 0 := by kernel_rfl
end Go.Proofs.YtjclgoiclbkgjaaDoor

/- The examples that stand at the head of each law of package grid: the walk. -/
namespace Go.Proofs.YtjclgoiclbkgjaaDoor
open Go.RowKit
attribute [local go_sem ↓] Go.wp_at_zero Go.wp_at_succ

theorem eq_pos_in (a b c e : Int) (d : Nat) (w : World) : (Op.equalIn (d + 2) 43 (.agg #[.int .i64 a, .int .i64 b]) (.agg #[.int .i64 c, .int .i64 e])).run Tryd.prog w = .ok (a == c && b == e) w := by
  have hS : Tryd.prog.underlying 43 = some (.struct (Tryd.prog.fieldsOf 43)) := by kernel_rfl
  have hp : Tryd.prog.stoodInHeld 43 = false := by kernel_rfl
  rw [run_equalIn_agg w (d + 1) 43 _ _ hS hp]
  simp only [Program.fieldsOf, Tryd.underlying43]
  go_simp
  by_cases h1 : a = c <;> by_cases h2 : b = e <;> simp [h1, h2]
theorem eql_pos (a b c e : Int) (w : World) : (binOp .eql 43 (.agg #[.int .i64 a, .int .i64 b]) (.agg #[.int .i64 c, .int .i64 e])).run Tryd.prog w = .ok (.bool (a == c && b == e)) w := by
  have := eq_pos_in a b c e 9998 w
  rw [run_eql_struct, show (10000 : Nat) = 9998 + 2 from rfl, this]; rfl
theorem guard_pos (op : BinOp) (x y : Operand) (a b c e : Int) (w : World) : (eqGuard op 43 x y (.agg #[.int .i64 a, .int .i64 b]) (.agg #[.int .i64 c, .int .i64 e])).run Tryd.prog w = .ok () w := run_eqGuard_agg w op 43 x y _ _ (by kernel_rfl)
/-- A grid that lies in memory made since w. -/
structure Sh (w : World) (T : Nat → Nat) (p : Nat) (wi : World) (g : Gr) : Prop where
  b : Below w.heap.size w wi
  gm : GM T p wi g
  n : ∀ k, T k ≠ 0 → w.heap.size ≤ k
theorem Sh.below {w : World} {T : Nat → Nat} {p : Nat} {wi wj : World} {g : Gr} (h : Sh w T p wi g) (b : Below wi.heap.size wi wj) : Sh w T p wj g := ⟨h.b.trans (b.mono h.b.size), h.gm.below b, h.n⟩
theorem Sh.turn {w : World} {T T' : Nat → Nat} {p : Nat} {wi wj : World} {g g' : Gr} (h : Sh w T p wi g) (hw : Within (own T wi) wi wj) (hg : GM T' p wj g') (hn : ∀ k, T' k ≠ 0 → own T wi k) : Sh w T' p wj g' :=
  ⟨h.b.trans (own_below hw h.b.size h.n), hg, fun k hk => by
    rcases hn k hk with e | e
    · exact h.n k e
    · have := h.b.size; omega⟩
theorem Sh.put {w : World} {T : Nat → Nat} {p : Nat} {wi wj : World} {g g' : Gr} (h : Sh w T p wi g) (hw : Within (own T wi) wi wj) (hg : GM T p wj g') : Sh w T p wj g' := h.turn hw hg (fun _ hk => .inl hk)
set_option maxRecDepth 100000 in
set_option maxHeartbeats 4000000 in
theorem shown_any (w : World) : Calls Tryd.prog 7 #[] w fun e w' => e = .returned (.bool true) ∧ Below w.heap.size w w' := by
  have hok : ∀ k : Nat, k ≤ 1000 → (⟨97 + k, 1, plainS⟩ : Cel).Ok := fun k hk => ⟨by show (-2147483648 : Int) ≤ 97 + k; omega, by show (97 : Int) + k ≤ 2147483647; omega⟩
  have HOK := Lib.hid hok
  clear hok
  go_enter Tryd.func7, Tryd.ntmps7
  go_wp2_with fail
  refine (newGrid_any 3 2 5 w (by decide) (by decide) (by decide) (by decide) (by decide)).mono ?_
  rintro e w1 ⟨p, T, rfl, b1, h1, n1⟩
  have HS1 := Lib.hid (show Sh w T p w1 (newG 3 2 5) from ⟨b1, h1, n1⟩)
  clear b1 h1 n1
  go_wp2_with fail
  refine (letter_any 97 1 w1).mono ?_
  rintro e w2 ⟨rfl, b2⟩
  have HS2 := Lib.hid (HS1.out.below b2)
  clear HS1 b2
  go_wp2_with fail
  refine (put_any HS2.out.gm 0 0 ⟨97, 1, plainS⟩ right_plain ⟨by decide, by decide⟩).mono ?_
  rintro e w3 ⟨rfl, hw3, h3⟩
  have HS3 := Lib.hid (HS2.out.put hw3 h3)
  clear HS2 hw3 h3
  go_wp2_with fail
  refine (letter_any 20013 2 w3).mono ?_
  rintro e w4 ⟨rfl, b4⟩
  have HS4 := Lib.hid (HS3.out.below b4)
  clear HS3 b4
  go_wp2_with fail
  refine (put_any HS4.out.gm 1 0 ⟨20013, 2, plainS⟩ right_plain ⟨by decide, by decide⟩).mono ?_
  rintro e w5 ⟨rfl, hw5, h5⟩
  have HS5 := Lib.hid (HS4.out.put hw5 h5)
  clear HS4 hw5 h5
  go_wp2_with fail
  refine (letter_any 98 1 w5).mono ?_
  rintro e w6 ⟨rfl, b6⟩
  have HS6 := Lib.hid (HS5.out.below b6)
  clear HS5 b6
  go_wp2_with fail
  refine (put_any HS6.out.gm 1 0 ⟨98, 1, plainS⟩ right_plain ⟨by decide, by decide⟩).mono ?_
  rintro e w7 ⟨rfl, hw7, h7⟩
  have HS7 := Lib.hid (show Sh w T p w7 sh1 from HS6.out.put hw7 h7)
  clear HS6 hw7 h7
  go_wp2_with fail
  refine (text_any HS7.out.gm 0).mono ?_
  rintro e w8 ⟨rfl, b8⟩
  have HS8 := Lib.hid (HS7.out.below b8)
  clear HS7 b8
  rw [sh1_text]
  have hcq := fun (wx : World) => eql_cel ⟨32, 1, plainS⟩ ⟨32, 1, plainS⟩ wx
  have hgq := fun (x y : Operand) (wx : World) => guard_cel .eql x y ⟨32, 1, plainS⟩ ⟨32, 1, plainS⟩ wx
  rw [show (Cel.eqb ⟨32, 1, plainS⟩ ⟨32, 1, plainS⟩) = true from rfl] at hcq
  go_wp2_with fail
  refine (cell_any HS8.out.gm 2 0).mono ?_
  rintro e w9 ⟨rfl, b9⟩
  have HS9 := Lib.hid (HS8.out.below b9)
  clear HS8 b9
  rw [sh1_cell]
  go_wp2_with fail
  refine (letter_any 32 1 w9).mono ?_
  rintro e w10 ⟨rfl, b10⟩
  have HB10 := Lib.hid (HS9.out.below b10).b
  clear HS9 b10
  go_wp2_with fail
  refine (newGrid_any 4 2 5 w10 (by decide) (by decide) (by decide) (by decide) (by decide)).mono ?_
  rintro e w11 ⟨q, T2, rfl, b11, h11, n11⟩
  have HS11 := Lib.hid (show Sh w10 T2 q w11 (sh2 0) from ⟨b11, h11, n11⟩)
  clear b11 h11 n11 hcq hgq
  go_upto_region 12 with fail
  go_loopw [5] (fun iv wr => ∃ k : Nat, k ≤ 6 ∧ iv = .int .i64 k ∧ Hid (Sh w10 T2 q wr (sh2 k))) (fun iv _ => 6 - (intOf iv).toNat)
  case atStart => exact ⟨0, by decide, rfl, HS11⟩
  case round =>
    obtain ⟨k, hk, rfl, HS⟩ := hrel
    by_cases hlt : k < 6
    · rcases (show k = 0 ∨ k = 1 ∨ k = 2 ∨ k = 3 ∨ k = 4 ∨ k = 5 by omega) with rfl | rfl | rfl | rfl | rfl | rfl
      · go_wp2_with fail
        refine (letter_any 97 1 _).mono ?_
        rintro e w12 ⟨rfl, b12⟩
        have HS12 := Lib.hid (HS.out.below b12)
        clear b12
        go_wp2_with fail
        refine (put_any HS12.out.gm 0 0 ⟨97, 1, plainS⟩ right_plain ⟨by decide, by decide⟩).mono ?_
        rintro e w13 ⟨rfl, hw13, h13⟩
        have HS13 := Lib.hid (show Sh w10 T2 q w13 (sh2 1) from HS12.out.put hw13 h13)
        clear hw13 h13
        go_wp2_with fail
        go_roundw
        case rel => exact ⟨1, by decide, by go_num, HS13⟩
        case measure => simp [intOf]
      · go_wp2_with fail
        refine (letter_any 98 1 _).mono ?_
        rintro e w12 ⟨rfl, b12⟩
        have HS12 := Lib.hid (HS.out.below b12)
        clear b12
        go_wp2_with fail
        refine (put_any HS12.out.gm 1 0 ⟨98, 1, plainS⟩ right_plain ⟨by decide, by decide⟩).mono ?_
        rintro e w13 ⟨rfl, hw13, h13⟩
        have HS13 := Lib.hid (show Sh w10 T2 q w13 (sh2 2) from HS12.out.put hw13 h13)
        clear hw13 h13
        go_wp2_with fail
        go_roundw
        case rel => exact ⟨2, by decide, by go_num, HS13⟩
        case measure => simp [intOf]
      · go_wp2_with fail
        refine (letter_any 99 1 _).mono ?_
        rintro e w12 ⟨rfl, b12⟩
        have HS12 := Lib.hid (HS.out.below b12)
        clear b12
        go_wp2_with fail
        refine (put_any HS12.out.gm 2 0 ⟨99, 1, plainS⟩ right_plain ⟨by decide, by decide⟩).mono ?_
        rintro e w13 ⟨rfl, hw13, h13⟩
        have HS13 := Lib.hid (show Sh w10 T2 q w13 (sh2 3) from HS12.out.put hw13 h13)
        clear hw13 h13
        go_wp2_with fail
        go_roundw
        case rel => exact ⟨3, by decide, by go_num, HS13⟩
        case measure => simp [intOf]
      · go_wp2_with fail
        refine (letter_any 100 1 _).mono ?_
        rintro e w12 ⟨rfl, b12⟩
        have HS12 := Lib.hid (HS.out.below b12)
        clear b12
        go_wp2_with fail
        refine (put_any HS12.out.gm 3 0 ⟨100, 1, plainS⟩ right_plain ⟨by decide, by decide⟩).mono ?_
        rintro e w13 ⟨rfl, hw13, h13⟩
        have HS13 := Lib.hid (show Sh w10 T2 q w13 (sh2 4) from HS12.out.put hw13 h13)
        clear hw13 h13
        go_wp2_with fail
        go_roundw
        case rel => exact ⟨4, by decide, by go_num, HS13⟩
        case measure => simp [intOf]
      · go_wp2_with fail
        refine (letter_any 101 1 _).mono ?_
        rintro e w12 ⟨rfl, b12⟩
        have HS12 := Lib.hid (HS.out.below b12)
        clear b12
        go_wp2_with fail
        refine (put_any HS12.out.gm 0 1 ⟨101, 1, plainS⟩ right_plain ⟨by decide, by decide⟩).mono ?_
        rintro e w13 ⟨rfl, hw13, h13⟩
        have HS13 := Lib.hid (show Sh w10 T2 q w13 (sh2 5) from HS12.out.put hw13 h13)
        clear hw13 h13
        go_wp2_with fail
        go_roundw
        case rel => exact ⟨5, by decide, by go_num, HS13⟩
        case measure => simp [intOf]
      · go_wp2_with fail
        refine (letter_any 102 1 _).mono ?_
        rintro e w12 ⟨rfl, b12⟩
        have HS12 := Lib.hid (HS.out.below b12)
        clear b12
        go_wp2_with fail
        refine (put_any HS12.out.gm 1 1 ⟨102, 1, plainS⟩ right_plain ⟨by decide, by decide⟩).mono ?_
        rintro e w13 ⟨rfl, hw13, h13⟩
        have HS13 := Lib.hid (show Sh w10 T2 q w13 (sh2 6) from HS12.out.put hw13 h13)
        clear hw13 h13
        go_wp2_with fail
        go_roundw
        case rel => exact ⟨6, by decide, by go_num, HS13⟩
        case measure => simp [intOf]
    · have hk6 : k = 6 := by omega
      subst hk6
      go_wp2_with fail
      refine (wrap_any HS.out.gm 0 true).mono ?_
      rintro e w13 ⟨rfl, hw13, h13⟩
      have HS13 := Lib.hid (show Sh w10 T2 q w13 sh3 from HS.out.put hw13 h13)
      clear hw13 h13
      go_wp2_with fail
      refine (resizeF_any HS13.out.gm 2 2 1 1 (by decide) (by decide) (by decide) (by decide)).mono ?_
      rintro e w14 ⟨rfl, hw14, T3, h14, n14⟩
      rw [show (sh3.resize 2 2 1 1 true).2.1 = 1 by kernel_rfl, show (sh3.resize 2 2 1 1 true).2.2 = 1 by kernel_rfl]
      have HS14 := Lib.hid (show Sh w10 T3 q w14 sh4.1 from HS13.out.turn hw14 h14 n14)
      clear hw14 h14 n14
      go_upto_region 17 with fail
      have HK15 := Lib.hid (blk_new w14 (.cells #[.int .i64 1, .int .i64 1] 43))
      have HS15 := Lib.hid (HS14.out.below (Below.alloc (Below.refl w14.heap.size w14) (Nat.le_refl _) (.cells #[.int .i64 1, .int .i64 1] 43)))
      have HT3 := Lib.hid (show T3 w14.heap.size = 0 from by
        by_cases h0 : T3 w14.heap.size = 0
        · exact h0
        · have := HS14.out.gm.lt _ h0; omega)
      have hb14 := HS14.out.b.size
      generalize hpk : w14.heap.size = pk at *
      have HPK := Lib.hid hpk
      clear hpk HS14
      generalize w14.alloc (.cells #[.int .i64 1, .int .i64 1] 43) = w15 at *
      have x0 : w15.cell? ⟨pk, 0, none⟩ = some (.int .i64 1) := blk_cell HK15.out 0
      have x1 : w15.cell? ⟨pk, 1, none⟩ = some (.int .i64 1) := blk_cell HK15.out 1
      have hpq := fun (wx : World) => eql_pos 1 1 1 1 wx
      have hgq := fun (x y : Operand) (wx : World) => guard_pos .eql x y 1 1 1 1 wx
      rw [show ((1 : Int) == 1 && (1 : Int) == 1) = true from rfl] at hpq
      go_wp2_with fail
      refine (text_any HS15.out.gm 0).mono ?_
      rintro e w16 ⟨rfl, b16⟩
      have HS16 := Lib.hid (HS15.out.below b16)
      have HK16 := Lib.hid (blk_below HK15.out b16 (heap_lt HK15.out))
      clear HS15 HK15 b16
      clear x0 x1 hpq hgq
      rw [sh4_t0]
      go_wp2_with fail
      refine (text_any HS16.out.gm 1).mono ?_
      rintro e w17 ⟨rfl, b17⟩
      have HS17 := Lib.hid (HS16.out.below b17)
      have HK17 := Lib.hid (blk_below HK16.out b17 (heap_lt HK16.out))
      clear HS16 HK16 b17
      rw [sh4_t1]
      go_wp2_with fail
      refine (text_any HS17.out.gm (-1)).mono ?_
      rintro e w18 ⟨rfl, b18⟩
      have HS18 := Lib.hid (HS17.out.below b18)
      have HK18 := Lib.hid (blk_below HK17.out b18 (heap_lt HK17.out))
      clear HS17 HK17 b18
      rw [sh4_tm]
      go_wp2_with fail
      refine (wrapped_any HS18.out.gm (-1)).mono ?_
      rintro e w19 ⟨rfl, b19⟩
      have HS19 := Lib.hid (HS18.out.below b19)
      have HK19 := Lib.hid (blk_below HK18.out b19 (heap_lt HK18.out))
      clear HS18 HK18 b19
      rw [sh4_wr]
      have x0 : w19.cell? ⟨pk, 0, none⟩ = some (.int .i64 1) := blk_cell HK19.out 0
      have x1 : w19.cell? ⟨pk, 1, none⟩ = some (.int .i64 1) := blk_cell HK19.out 1
      go_wp2_with fail
      refine (resizeF_any HS19.out.gm 6 2 1 1 (by decide) (by decide) (by decide) (by decide)).mono ?_
      rintro e w20 ⟨rfl, hw20, T4, h20, n20⟩
      rw [show (sh4.1.resize 6 2 1 1 true).2.1 = 5 by kernel_rfl, show (sh4.1.resize 6 2 1 1 true).2.2 = 0 by kernel_rfl]
      have hno : ¬ own T3 w19 pk := fun e => by
        rcases e with e | e
        · exact e HT3.out
        · have := heap_lt HK19.out; omega
      have HS20 := Lib.hid (show Sh w10 T4 q w20 sh5.1 from HS19.out.turn hw20 h20 n20)
      have hk20 := (hw20.block pk (heap_lt HK19.out) hno).trans HK19.out
      have hst := run_storeVar_row (P := Tryd.prog) w20 pk 43 43 _ #[.int .i64 5, .int .i64 0] hk20 (by kernel_rfl) rfl (by simp [Value.oneCell'])
      have HK21 := Lib.hid (setRow_blk (cells := #[.int .i64 5, .int .i64 0]) hk20)
      have HGE := Lib.hid (gb_setRow w20 pk #[.int .i64 5, .int .i64 0])
      have HS21 := Lib.hid (show Sh w10 T4 q (w20.setRow pk #[.int .i64 5, .int .i64 0]) sh5.1 from
        ⟨HS20.out.b.trans (below_of_gb HGE.out HS20.out.b.size (fun k hk => by injection hk with hk; omega)),
         HS20.out.gm.other (Tp := fun k => if k = pk then 1 else 0) (Within.of_gb HGE.out (fun k hk => by
            injection hk with hk
            subst hk
            exact .inl (by show (if _ then 1 else 0) ≠ 0; rw [if_pos rfl]; decide))) (fun k hk => by
            show (if _ then 1 else 0) = 0
            rw [if_neg (fun e => hno (by rw [← e]; exact n20 k hk))]), HS20.out.n⟩)
      clear x0 x1 hk20 hw20 h20 n20 HS19 HS20 hno
      have x0 : (w20.setRow pk #[.int .i64 5, .int .i64 0]).cell? ⟨pk, 0, none⟩ = some (.int .i64 5) := blk_cell HK21.out 0
      have x1 : (w20.setRow pk #[.int .i64 5, .int .i64 0]).cell? ⟨pk, 1, none⟩ = some (.int .i64 0) := blk_cell HK21.out 1
      have hpq := fun (wx : World) => eql_pos 5 0 5 0 wx
      have hgq := fun (x y : Operand) (wx : World) => guard_pos .eql x y 5 0 5 0 wx
      rw [show ((5 : Int) == 5 && (0 : Int) == 0) = true from rfl] at hpq
      go_wp2_with (refine wpList_storeR rfl _ _ _ rfl hst rfl rfl ?_)
      refine (text_any HS21.out.gm 0).mono ?_
      rintro e w22 ⟨rfl, b22⟩
      have HS22 := Lib.hid (HS21.out.below b22)
      clear HS21 b22
      rw [sh5_t0]
      go_wp2_with fail
      refine (text_any HS22.out.gm 1).mono ?_
      rintro e w23 ⟨rfl, b23⟩
      have HS23 := Lib.hid (HS22.out.below b23)
      clear HS22 b23
      rw [sh5_t1]
      go_wp2_with fail
      refine (history_any HS23.out.gm).mono ?_
      rintro e w24 ⟨rfl, hw24⟩
      subst hw24
      rw [sh5_old]
      go_wp2_with fail
      exact ret1v rfl rfl rfl ⟨rfl, HB10.out.trans (HS23.out.b.mono HB10.out.size)⟩
end Go.Proofs.YtjclgoiclbkgjaaDoor

/- What the laws of package grid call: pick, a text's runes. -/
namespace Go.Proofs.YtjclgoiclbkgjaaDoor
open Go.RowKit
attribute [local go_sem ↓] Go.wp_at_zero Go.wp_at_succ

set_option maxRecDepth 100000 in
theorem pick_any (c : Int) (n : Nat) (w : World) (h0 : -9223372036854775808 ≤ c) (h1 : c ≤ 9223372036854775807) (hn : 0 < n) (hn2 : n ≤ 1000000) :
    Calls Tryd.prog 20 #[.int .i64 c, .int .i64 n] w fun e w' => ∃ r : Nat, e = .returned (.int .i64 r) ∧ r < n ∧ (c = 0 → r = 0) ∧ w' = w := by
  by_cases hc : c < 0
  · have d1 : decide (c < 0) = true := decide_eq_true hc
    have hw1 : IntKind.i64.wrap (c + 1) = c + 1 := wrap64_id _ (by omega) (by omega)
    have hw2 : IntKind.i64.wrap (-(c + 1)) = -(c + 1) := wrap64_id _ (by omega) (by omega)
    have hne : ((n : Int) == 0) = false := beq_eq_false_iff_ne.2 (by omega)
    have hne2 : ¬ ((n : Int) = 0) := by omega
    have hb : 0 ≤ (-(c + 1)).tmod (n : Int) ∧ (-(c + 1)).tmod (n : Int) < n := ⟨Int.tmod_nonneg _ (by omega), Int.tmod_lt_of_pos _ (by omega)⟩
    have hw3 : IntKind.i64.wrap ((-(c + 1)).tmod (n : Int)) = (-(c + 1)).tmod (n : Int) := wrap64_id _ (by omega) (by omega)
    go_enter Tryd.func20, Tryd.ntmps20
    go_wp2_with fail
    refine ret1v (v := .int .i64 (((-(c + 1)).tmod (n : Int)).toNat : Int)) rfl rfl (by show Value.int _ _ = _; rw [Int.toNat_of_nonneg hb.1, Int.neg_tmod]) ⟨((-(c + 1)).tmod (n : Int)).toNat, rfl, by omega, fun e => by omega, rfl⟩
  · have d1 : decide (c < 0) = false := decide_eq_false hc
    have hne : ((n : Int) == 0) = false := beq_eq_false_iff_ne.2 (by omega)
    have hne2 : ¬ ((n : Int) = 0) := by omega
    have hb : 0 ≤ c.tmod (n : Int) ∧ c.tmod (n : Int) < n := ⟨Int.tmod_nonneg _ (by omega), Int.tmod_lt_of_pos _ (by omega)⟩
    have hw3 : IntKind.i64.wrap (c.tmod (n : Int)) = c.tmod (n : Int) := wrap64_id _ (by omega) (by omega)
    go_enter Tryd.func20, Tryd.ntmps20
    go_wp2_with fail
    refine ret1v (v := .int .i64 ((c.tmod (n : Int)).toNat : Int)) rfl rfl (by show Value.int _ _ = _; rw [Int.toNat_of_nonneg hb.1, Int.tmod_eq_emod_of_nonneg (by omega)]) ⟨(c.tmod (n : Int)).toNat, rfl, by omega, fun e => by rw [e, Int.zero_tmod]; rfl, rfl⟩
/-- A text's runes. -/
theorem runesFrom_all (s : ByteArray) : ∀ (bound i : Nat) (acc : Array Value), (∀ v ∈ acc, ∃ r : Int, v = .int .i32 r ∧ 0 ≤ r ∧ r ≤ 1114111) → ∀ v ∈ Conv.runesFrom s bound i acc, ∃ r : Int, v = .int .i32 r ∧ 0 ≤ r ∧ r ≤ 1114111
  | 0, _, acc, h => h
  | bound + 1, i, acc, h => by
    unfold Conv.runesFrom
    split
    · refine runesFrom_all s bound _ _ (fun v hv => ?_)
      rcases Array.mem_push.1 hv with hv | hv
      · exact h v hv
      · exact ⟨_, hv, Int.natCast_nonneg _, by have := Lib.rune_le s i; show ((Utf8.decode s i).1 : Int) ≤ 1114111; omega⟩
    · exact h
def vInt : Value → Int
  | .int _ r => r
  | _ => 0
theorem conv_runes (s : ByteArray) (hs : s.size ≤ 1000000000) (w : World) : ∃ (l : List Int) (w2 : World) (c : Nat), (convert 9 35 (.string s)).run Tryd.prog w = .ok (.slice (some ⟨w.heap.size, 0, none⟩) l.length c) w2 ∧ Below w.heap.size w w2 ∧ w.heap.size < w2.heap.size ∧
    (∀ k, k < l.length → w2.cell? ⟨w.heap.size, k, none⟩ = some (.int .i32 (l.getD k 0))) ∧ (∀ r ∈ l, 0 ≤ r ∧ r ≤ 1114111) ∧ l.length ≤ s.size := by
  have hn := size_runesFrom s s.size 0 #[]
  have hall := runesFrom_all s s.size 0 #[] (by simp)
  have hrun := run_runes_of_string (P := Tryd.prog) w 9 35 21 s Tryd.underlying9 Tryd.underlying35 Tryd.underlying21 (by simp at hn; omega)
  generalize Conv.runesFrom s s.size 0 #[] = R at *
  refine ⟨R.toList.map vInt, w.drew.alloc (.cells (R ++ Array.replicate (grownCap w R.size 0 21 - R.size) (.int .i32 0)) 21), grownCap w R.size 0 21, ?_, Below.alloc (Below.refl w.heap.size w).drew (Nat.le_refl _) _, ?_, fun k hk => ?_, fun r hr => ?_, ?_⟩
  · rw [List.length_map, Array.length_toList]
    exact hrun
  · show w.drew.heap.size < (w.drew.alloc _).heap.size
    simp
  · rw [List.length_map, Array.length_toList] at hk
    show (w.drew.alloc _).cell? ⟨w.drew.heap.size, k, none⟩ = _
    rw [World.cell?_alloc_new, Array.getElem?_append_left hk, Array.getElem?_eq_getElem hk]
    obtain ⟨r, e, _⟩ := hall R[k] (Array.getElem_mem hk)
    rw [List.getD_eq_getElem?_getD, List.getElem?_map, Array.getElem?_toList, Array.getElem?_eq_getElem hk, e]
    rfl
  · obtain ⟨v, hv, rfl⟩ := List.mem_map.1 hr
    obtain ⟨r, e, h1, h2⟩ := hall v (by simpa using hv)
    subst e
    exact ⟨h1, h2⟩
  · rw [List.length_map, Array.length_toList]
    simp at hn
    exact hn
end Go.Proofs.YtjclgoiclbkgjaaDoor
