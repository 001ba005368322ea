/- Walks of package grid: Resize, where the rows are laid anew. -/
import Derived.Test.YtjclgoiclbkgjaaDoorF2
import Derived.Laws.ResultCell
namespace Go.Proofs.YtjclgoiclbkgjaaDoor
open Go.RowKit
attribute [local go_sem ↓] Go.wp_at_zero Go.wp_at_succ

theorem retRow2 {P : Program} {fn : Func} {R : Ending → World → Prop} {a : Act} {w : World} {p u : Tmp} {ty t : TypeId} {g : Nat} {cs : Array Value} {fr : Nat × Nat} {d : TypeDesc} {x : Value} (h : fn.results = #[.cell p ty, .tmp u]) (hdf : a.defers = [])
    (hp : a.tmps.getD p undef = .pointer (some ⟨g, 0, none⟩)) (hx : a.tmps.getD u undef = x) (hg : w.heap[g]? = some (.cells cs t fr)) (hu : P.underlying ty = some d) (hd : (match d with | .struct _ | .array _ _ => true | _ => false) = true) (hi : (P.info? ty).map (·.size) = some cs.size)
    (hR : R (.returned (.tuple #[.agg cs, x])) w) : bodyPost P fn R .ret a w :=
  bodyPost_ret (by rw [results_cell_tmp h, hp, hx]; simp [asAddr, run_loadVar_row w g t ty cs fr d hg hu hd hi, Result.andThen]) hdf hR
set_option maxRecDepth 100000 in
set_option maxHeartbeats 8000000 in
theorem resizeF_any {T : Nat → Nat} {p : Nat} {w : World} {g : Gr} (h : GM T p w g) (cols rows : Nat) (ax ay : Int) (c1 : 1 ≤ cols) (c2 : cols ≤ 250) (r1 : 1 ≤ rows) (r2 : rows ≤ 120) :
    Calls Tryd.prog 19 #[.pointer (some ⟨p, 0, none⟩), .int .i64 cols, .int .i64 rows, .agg #[.int .i64 ax, .int .i64 ay], .bool true] w fun e w' =>
      e = .returned (.tuple #[.agg #[.int .i64 (g.resize cols rows ax ay true).2.1, .int .i64 (g.resize cols rows ax ay true).2.2], .int .i64 0]) ∧ Within (own T w) w w' ∧ ∃ T', GM T' p w' (g.resize cols rows ax ay true).1 ∧ ∀ k, T' k ≠ 0 → own T w k := by
  have hmay : mayG (cols : Int) (rows : Int) = true := by unfold mayG; simp; omega
  obtain ⟨vr, vo, Lr, Lo, h0⟩ := h
  have hlr := (rows_len h0).1
  have wf := h0.wf
  have hr2 : Lr.length ≤ 120 := by have := wf.r2; omega
  have hr1 : 1 ≤ Lr.length := by have := wf.r1; omega
  have hg1 := wf.c1
  have hg2 := wf.c2
  have hpl := heap_lt h0.blk
  have HB1 := Lib.hid (show Below w.heap.size w ((w.alloc (.cells #[.int .i64 ax, .int .i64 ay] 43)).alloc (.cells #[.int .i64 0, .int .i64 0] 43)) from Below.alloc (Below.alloc (Below.refl w.heap.size w) (Nat.le_refl _) _) (by simp) _)
  have HAT := Lib.hid (blk_alloc (blk_new w (.cells #[.int .i64 ax, .int .i64 ay] 43)) (.cells #[.int .i64 0, .int .i64 0] 43))
  have HRS := Lib.hid (blk_new2 w (.cells #[.int .i64 ax, .int .i64 ay] 43) (.cells #[.int .i64 0, .int .i64 0] 43))
  have HG0 := Lib.hid h0
  have HLR := Lib.hid hlr
  have hsz : ((w.alloc (.cells #[.int .i64 ax, .int .i64 ay] 43)).alloc (.cells #[.int .i64 0, .int .i64 0] 43)).heap.size = w.heap.size + 2 := by simp
  clear h0 wf hlr
  go_enter Tryd.func19, Tryd.ntmps19
  go_upto_region 1 with fail
  generalize (w.alloc (.cells #[.int .i64 ax, .int .i64 ay] 43)).alloc (.cells #[.int .i64 0, .int .i64 0] 43) = wa at *
  go_wp2_with fail
  refine (may_any cols rows wa).mono ?_
  rintro e w2 ⟨rfl, hw2⟩
  subst hw2
  obtain ⟨wa, rfl⟩ : ∃ wa, wa = w2 := ⟨w2, rfl⟩
  have HG1 := Lib.hid (HG0.out.mod (.of_below HB1.out) id id id (fun _ => id))
  obtain ⟨k0, k1, k2, k3⟩ := gm_cells HG1.out
  have a0 : wa.cell? ⟨w.heap.size, 0, none⟩ = some (.int .i64 ax) := blk_cell HAT.out 0
  have z0 : wa.frozen? ⟨w.heap.size, 0, none⟩ = false := blk_free HAT.out 0
  have hwr1 : IntKind.i64.wrap ((g.cols : Int) - 1) = (g.cols : Int) - 1 := wrap64_id _ (by omega) (by omega)
  have hwr2 : IntKind.i64.wrap ((Lr.length : Int) - 1) = (Lr.length : Int) - 1 := wrap64_id _ (by omega) (by omega)
  go_upto_region 3 with fail
  refine wpL_begin (c := 10) (S := (fun bb w' => w'.cell? ⟨p, 0, none⟩ = some (.int .i64 g.cols) ∧ (bb = false → w'.cell? ⟨w.heap.size, 0, none⟩ = some (.int .i64 ax)))) (by kernel_rfl) (⟨k0, fun _ => a0⟩) (fun _ => ?_)
  refine wpL_take (i := 0) (oi := ?o101) (v := ?v101) ?h101 (by kernel_rfl) (by kernel_rfl) (by kernel_rfl) (by rfl) ?q101 (by rfl) (b := false) (⟨k0, fun _ => a0⟩) (Or.inl ⟨?w101, ?y101⟩) ?r101
  case h101 => (simp only [List.getElem?_toArray, List.getElem?_cons_zero]; rfl)
  case q101 => exact fun _ _ _ h => h
  case w101 => rfl
  case y101 =>
    intro wS hSw
    obtain ⟨hSb, hSw, hSx⟩ := hSw
    clear hSx
    go_simp
    (try (with_reducible rfl))
  try simp only [Act.put, List.setIfInBounds_toArray, List.set_cons_zero, List.set_cons_succ]
  refine wpL_takeD (i := 1) (oi := ?o102) (oc := ?c102) (v := ?v102) ?h102 ?g102 ?d102 (by kernel_rfl) (by kernel_rfl) (by kernel_rfl) (by rfl) ?q102 (by rfl) (⟨k0, fun _ => a0⟩) (Or.inl ⟨?w102, ?y102⟩) ?r102
  case h102 => (simp only [List.getElem?_toArray, List.getElem?_cons_succ, List.getElem?_cons_zero]; rfl)
  case g102 => (simp only [List.getElem?_toArray, List.getElem?_cons_succ, List.getElem?_cons_zero]; rfl)
  case d102 => kernel_rfl
  case q102 => exact fun _ _ _ h => h
  case w102 => rfl
  case y102 =>
    intro wS hSw
    obtain ⟨hSw, hSx⟩ := hSw
    have hSx := hSx rfl
    go_simp
    (try (with_reducible rfl))
  try simp only [Act.put, List.setIfInBounds_toArray, List.set_cons_zero, List.set_cons_succ]
  refine wpL_take (i := 2) (oi := ?o103) (v := ?v103) ?h103 (by kernel_rfl) (by kernel_rfl) (by kernel_rfl) (by rfl) ?q103 (by rfl) (b := false) (⟨k0, fun _ => a0⟩) (Or.inl ⟨?w103, ?y103⟩) ?r103
  case h103 => (simp only [List.getElem?_toArray, List.getElem?_cons_succ, List.getElem?_cons_zero]; rfl)
  case q103 => exact fun _ _ _ h => h
  case w103 => rfl
  case y103 =>
    intro wS hSw
    obtain ⟨hSb, hSw, hSx⟩ := hSw
    clear hSx
    go_simp
    (try (with_reducible rfl))
  try simp only [Act.put, List.setIfInBounds_toArray, List.set_cons_zero, List.set_cons_succ]
  refine wpL_take (i := 3) (oi := ?o104) (v := ?v104) ?h104 (by kernel_rfl) (by kernel_rfl) (by kernel_rfl) (by rfl) ?q104 (by rfl) (b := false) (⟨k0, fun _ => a0⟩) (Or.inl ⟨?w104, ?y104⟩) ?r104
  case h104 => (simp only [List.getElem?_toArray, List.getElem?_cons_succ, List.getElem?_cons_zero]; rfl)
  case q104 => exact fun _ _ _ h => h
  case w104 => rfl
  case y104 =>
    intro wS hSw
    obtain ⟨hSb, hSw, hSx⟩ := hSw
    clear hSx
    go_simp
    (try (with_reducible rfl))
  try simp only [Act.put, List.setIfInBounds_toArray, List.set_cons_zero, List.set_cons_succ]
  refine wpL_take (i := 4) (oi := ?o105) (v := ?v105) ?h105 (by kernel_rfl) (by kernel_rfl) (by kernel_rfl) (by rfl) ?q105 (by rfl) (b := false) (⟨k0, fun _ => a0⟩) (Or.inl ⟨?w105, ?y105⟩) ?r105
  case h105 => (simp only [List.getElem?_toArray, List.getElem?_cons_succ, List.getElem?_cons_zero]; rfl)
  case q105 => exact fun _ _ _ h => h
  case w105 => rfl
  case y105 =>
    intro wS hSw
    obtain ⟨hSb, hSw, hSx⟩ := hSw
    clear hSx
    go_simp
    (try (with_reducible rfl))
  try simp only [Act.put, List.setIfInBounds_toArray, List.set_cons_zero, List.set_cons_succ]
  refine wpL_take (i := 5) (oi := ?o106) (v := ?v106) ?h106 (by kernel_rfl) (by kernel_rfl) (by kernel_rfl) (by rfl) ?q106 (by rfl) (b := false) (⟨k0, fun _ => a0⟩) (Or.inl ⟨?w106, ?y106⟩) ?r106
  case h106 => (simp only [List.getElem?_toArray, List.getElem?_cons_succ, List.getElem?_cons_zero]; rfl)
  case q106 => exact fun _ _ _ h => h
  case w106 => rfl
  case y106 =>
    intro wS hSw
    obtain ⟨hSb, hSw, hSx⟩ := hSw
    clear hSx
    go_simp
    (try (with_reducible rfl))
  try simp only [Act.put, List.setIfInBounds_toArray, List.set_cons_zero, List.set_cons_succ]
  refine wpL_take (i := 6) (oi := ?o107) (v := ?v107) ?h107 (by kernel_rfl) (by kernel_rfl) (by kernel_rfl) (by rfl) ?q107 (by rfl) (b := false) (⟨k0, fun _ => a0⟩) (Or.inl ⟨?w107, ?y107⟩) ?r107
  case h107 => (simp only [List.getElem?_toArray, List.getElem?_cons_succ, List.getElem?_cons_zero]; rfl)
  case q107 => exact fun _ _ _ h => h
  case w107 => rfl
  case y107 =>
    intro wS hSw
    obtain ⟨hSb, hSw, hSx⟩ := hSw
    clear hSx
    go_simp
    (try (with_reducible rfl))
  try simp only [Act.put, List.setIfInBounds_toArray, List.set_cons_zero, List.set_cons_succ]
  refine wpL_take (i := 7) (oi := ?o108) (v := ?v108) ?h108 (by kernel_rfl) (by kernel_rfl) (by kernel_rfl) (by rfl) ?q108 (by rfl) (b := false) (⟨k0, fun _ => a0⟩) (Or.inl ⟨?w108, ?y108⟩) ?r108
  case h108 => (simp only [List.getElem?_toArray, List.getElem?_cons_succ, List.getElem?_cons_zero]; rfl)
  case q108 => exact fun _ _ _ h => h
  case w108 => rfl
  case y108 =>
    intro wS hSw
    obtain ⟨hSb, hSw, hSx⟩ := hSw
    clear hSx
    go_simp
    (try (with_reducible rfl))
  try simp only [Act.put, List.setIfInBounds_toArray, List.set_cons_zero, List.set_cons_succ]
  refine wpL_take (i := 8) (oi := ?o109) (v := ?v109) ?h109 (by kernel_rfl) (by kernel_rfl) (by kernel_rfl) (by rfl) ?q109 (by rfl) (b := false) (⟨k0, fun _ => a0⟩) (Or.inl ⟨?w109, ?y109⟩) ?r109
  case h109 => (simp only [List.getElem?_toArray, List.getElem?_cons_succ, List.getElem?_cons_zero]; rfl)
  case q109 => exact fun _ _ _ h => h
  case w109 => rfl
  case y109 =>
    intro wS hSw
    obtain ⟨hSb, hSw, hSx⟩ := hSw
    clear hSx
    go_simp
    (try (with_reducible rfl))
  try simp only [Act.put, List.setIfInBounds_toArray, List.set_cons_zero, List.set_cons_succ]
  refine wpL_take (i := 9) (oi := ?o110) (v := ?v110) ?h110 (by kernel_rfl) (by kernel_rfl) (by kernel_rfl) (by rfl) ?q110 (by rfl) (b := false) (⟨k0, fun _ => a0⟩) (Or.inl ⟨?w110, ?y110⟩) ?r110
  case h110 => (simp only [List.getElem?_toArray, List.getElem?_cons_succ, List.getElem?_cons_zero]; rfl)
  case q110 => exact fun _ _ _ h => h
  case w110 => rfl
  case y110 =>
    intro wS hSw
    obtain ⟨hSb, hSw, hSx⟩ := hSw
    clear hSx
    go_simp
    (try (with_reducible rfl))
  try simp only [Act.put, List.setIfInBounds_toArray, List.set_cons_zero, List.set_cons_succ]
  refine wpL_one (i := 10) (o := ?o111) (b := true) (by kernel_rfl) ?h111 (by rfl) ?k111
  case h111 => (simp only [List.getElem?_toArray, List.getElem?_cons_succ, List.getElem?_cons_zero]; rfl)
  intro K hK
  refine wanted_on rfl ?_
  go_wp2_with fail
  refine hK.out _ _ (⟨cell_grown (gb_set (gb_refl _ _) _ _) k0 (fun e => by injection e with e; omega), fun e => by cases e⟩) (fun _ => ?_)
  clear hK K 
  try simp only [Act.put, List.setIfInBounds_toArray, List.set_cons_zero, List.set_cons_succ]
  refine wpL_done (by kernel_rfl) ?_ _
  have hbx : 0 ≤ max 0 (min ax ((g.cols : Int) - 1)) ∧ max 0 (min ax ((g.cols : Int) - 1)) ≤ 250 := by omega
  have HIX := Lib.hid (show into ax ((g.cols : Int) - 1) = max 0 (min ax ((g.cols : Int) - 1)) from rfl)
  generalize max 0 (min ax ((g.cols : Int) - 1)) = bx at *
  have hsb : ((wa.setCell ⟨w.heap.size, 0, none⟩ (.int .i64 bx)).drew).heap.size = wa.heap.size := by show (wa.setCell _ _).heap.size = _; simp
  have HG2 := Lib.hid (show wa.grownBy ((wa.setCell ⟨w.heap.size, 0, none⟩ (.int .i64 bx)).drew) (some w.heap.size) from gb_drew (gb_set (gb_refl _ _) _ _))
  have HAT2 := Lib.hid (show ((wa.setCell ⟨w.heap.size, 0, none⟩ (.int .i64 bx)).drew).heap[w.heap.size]? = some (.cells #[.int .i64 bx, .int .i64 ay] 43 (0, 0)) from blk_set HAT.out 0 _)
  generalize (wa.setCell ⟨w.heap.size, 0, none⟩ (.int .i64 bx)).drew = wb at *
  have HB2 := Lib.hid (HB1.out.trans (below_of_gb HG2.out (by omega) (fun q hq => by injection hq with hq; omega)))
  have HRS2 := Lib.hid (blk_grown HRS.out HG2.out (fun e => by injection e with e; omega))
  clear HAT HRS HB1 HG1 HG2 k0 k1 k2 k3 a0 z0 hwr1
  have HG1 := Lib.hid (HG0.out.mod (.of_below HB2.out) id id id (fun _ => id))
  obtain ⟨k0, k1, k2, k3⟩ := gm_cells HG1.out
  have hl1 := ownC_ln Tryd.underlying68 HG1.out.rr.own
  have a0 : wb.cell? ⟨w.heap.size, 0, none⟩ = some (.int .i64 bx) := blk_cell HAT2.out 0
  have a1 : wb.cell? ⟨w.heap.size, 1, none⟩ = some (.int .i64 ay) := blk_cell HAT2.out 1
  have z1 : wb.frozen? ⟨w.heap.size, 1, none⟩ = false := blk_free HAT2.out 1
  go_upto_region 4 with fail
  refine wpL_begin (c := 11) (S := (fun bb w' => w'.cell? ⟨p, 2, none⟩ = some vr ∧ (bb = false → w'.cell? ⟨w.heap.size, 1, none⟩ = some (.int .i64 ay)))) (by kernel_rfl) (⟨k2, fun _ => a1⟩) (fun _ => ?_)
  refine wpL_take (i := 0) (oi := ?o112) (v := ?v112) ?h112 (by kernel_rfl) (by kernel_rfl) (by kernel_rfl) (by rfl) ?q112 (by rfl) (b := false) (⟨k2, fun _ => a1⟩) (Or.inl ⟨?w112, ?y112⟩) ?r112
  case h112 => (simp only [List.getElem?_toArray, List.getElem?_cons_zero]; rfl)
  case q112 => exact fun _ _ _ h => h
  case w112 => rfl
  case y112 =>
    intro wS hSw
    obtain ⟨hSb, hSw, hSx⟩ := hSw
    clear hSx
    go_simp
    (try (with_reducible rfl))
  try simp only [Act.put, List.setIfInBounds_toArray, List.set_cons_zero, List.set_cons_succ]
  refine wpL_takeD (i := 1) (oi := ?o113) (oc := ?c113) (v := ?v113) ?h113 ?g113 ?d113 (by kernel_rfl) (by kernel_rfl) (by kernel_rfl) (by rfl) ?q113 (by rfl) (⟨k2, fun _ => a1⟩) (Or.inl ⟨?w113, ?y113⟩) ?r113
  case h113 => (simp only [List.getElem?_toArray, List.getElem?_cons_succ, List.getElem?_cons_zero]; rfl)
  case g113 => (simp only [List.getElem?_toArray, List.getElem?_cons_succ, List.getElem?_cons_zero]; rfl)
  case d113 => kernel_rfl
  case q113 => exact fun _ _ _ h => h
  case w113 => rfl
  case y113 =>
    intro wS hSw
    obtain ⟨hSw, hSx⟩ := hSw
    have hSx := hSx rfl
    go_simp
    (try (with_reducible rfl))
  try simp only [Act.put, List.setIfInBounds_toArray, List.set_cons_zero, List.set_cons_succ]
  refine wpL_take (i := 2) (oi := ?o114) (v := ?v114) ?h114 (by kernel_rfl) (by kernel_rfl) (by kernel_rfl) (by rfl) ?q114 (by rfl) (b := false) (⟨k2, fun _ => a1⟩) (Or.inl ⟨?w114, ?y114⟩) ?r114
  case h114 => (simp only [List.getElem?_toArray, List.getElem?_cons_succ, List.getElem?_cons_zero]; rfl)
  case q114 => exact fun _ _ _ h => h
  case w114 => rfl
  case y114 =>
    intro wS hSw
    obtain ⟨hSb, hSw, hSx⟩ := hSw
    clear hSx
    go_simp
    (try (with_reducible rfl))
  try simp only [Act.put, List.setIfInBounds_toArray, List.set_cons_zero, List.set_cons_succ]
  refine wpL_take (i := 3) (oi := ?o115) (v := ?v115) ?h115 (by kernel_rfl) (by kernel_rfl) (by kernel_rfl) (by rfl) ?q115 (by rfl) (b := false) (⟨k2, fun _ => a1⟩) (Or.inl ⟨?w115, ?y115⟩) ?r115
  case h115 => (simp only [List.getElem?_toArray, List.getElem?_cons_succ, List.getElem?_cons_zero]; rfl)
  case q115 => exact fun _ _ _ h => h
  case w115 => rfl
  case y115 =>
    intro wS hSw
    obtain ⟨hSb, hSw, hSx⟩ := hSw
    clear hSx
    go_simp
    (try (with_reducible rfl))
  try simp only [Act.put, List.setIfInBounds_toArray, List.set_cons_zero, List.set_cons_succ]
  refine wpL_take (i := 4) (oi := ?o116) (v := ?v116) ?h116 (by kernel_rfl) (by kernel_rfl) (by kernel_rfl) (by rfl) ?q116 (by rfl) (b := false) (⟨k2, fun _ => a1⟩) (Or.inl ⟨?w116, ?y116⟩) ?r116
  case h116 => (simp only [List.getElem?_toArray, List.getElem?_cons_succ, List.getElem?_cons_zero]; rfl)
  case q116 => exact fun _ _ _ h => h
  case w116 => rfl
  case y116 =>
    intro wS hSw
    obtain ⟨hSb, hSw, hSx⟩ := hSw
    clear hSx
    go_simp
    (try (with_reducible rfl))
  try simp only [Act.put, List.setIfInBounds_toArray, List.set_cons_zero, List.set_cons_succ]
  refine wpL_take (i := 5) (oi := ?o117) (v := ?v117) ?h117 (by kernel_rfl) (by kernel_rfl) (by kernel_rfl) (by rfl) ?q117 (by rfl) (b := false) (⟨k2, fun _ => a1⟩) (Or.inl ⟨?w117, ?y117⟩) ?r117
  case h117 => (simp only [List.getElem?_toArray, List.getElem?_cons_succ, List.getElem?_cons_zero]; rfl)
  case q117 => exact fun _ _ _ h => h
  case w117 => rfl
  case y117 =>
    intro wS hSw
    obtain ⟨hSb, hSw, hSx⟩ := hSw
    clear hSx
    go_simp
    (try (with_reducible rfl))
  try simp only [Act.put, List.setIfInBounds_toArray, List.set_cons_zero, List.set_cons_succ]
  refine wpL_take (i := 6) (oi := ?o118) (v := ?v118) ?h118 (by kernel_rfl) (by kernel_rfl) (by kernel_rfl) (by rfl) ?q118 (by rfl) (b := false) (⟨k2, fun _ => a1⟩) (Or.inl ⟨?w118, ?y118⟩) ?r118
  case h118 => (simp only [List.getElem?_toArray, List.getElem?_cons_succ, List.getElem?_cons_zero]; rfl)
  case q118 => exact fun _ _ _ h => h
  case w118 => rfl
  case y118 =>
    intro wS hSw
    obtain ⟨hSb, hSw, hSx⟩ := hSw
    clear hSx
    go_simp
    (try (with_reducible rfl))
  try simp only [Act.put, List.setIfInBounds_toArray, List.set_cons_zero, List.set_cons_succ]
  refine wpL_take (i := 7) (oi := ?o119) (v := ?v119) ?h119 (by kernel_rfl) (by kernel_rfl) (by kernel_rfl) (by rfl) ?q119 (by rfl) (b := false) (⟨k2, fun _ => a1⟩) (Or.inl ⟨?w119, ?y119⟩) ?r119
  case h119 => (simp only [List.getElem?_toArray, List.getElem?_cons_succ, List.getElem?_cons_zero]; rfl)
  case q119 => exact fun _ _ _ h => h
  case w119 => rfl
  case y119 =>
    intro wS hSw
    obtain ⟨hSb, hSw, hSx⟩ := hSw
    clear hSx
    go_simp
    (try (with_reducible rfl))
  try simp only [Act.put, List.setIfInBounds_toArray, List.set_cons_zero, List.set_cons_succ]
  refine wpL_take (i := 8) (oi := ?o120) (v := ?v120) ?h120 (by kernel_rfl) (by kernel_rfl) (by kernel_rfl) (by rfl) ?q120 (by rfl) (b := false) (⟨k2, fun _ => a1⟩) (Or.inl ⟨?w120, ?y120⟩) ?r120
  case h120 => (simp only [List.getElem?_toArray, List.getElem?_cons_succ, List.getElem?_cons_zero]; rfl)
  case q120 => exact fun _ _ _ h => h
  case w120 => rfl
  case y120 =>
    intro wS hSw
    obtain ⟨hSb, hSw, hSx⟩ := hSw
    clear hSx
    go_simp
    (try (with_reducible rfl))
  try simp only [Act.put, List.setIfInBounds_toArray, List.set_cons_zero, List.set_cons_succ]
  refine wpL_take (i := 9) (oi := ?o121) (v := ?v121) ?h121 (by kernel_rfl) (by kernel_rfl) (by kernel_rfl) (by rfl) ?q121 (by rfl) (b := false) (⟨k2, fun _ => a1⟩) (Or.inl ⟨?w121, ?y121⟩) ?r121
  case h121 => (simp only [List.getElem?_toArray, List.getElem?_cons_succ, List.getElem?_cons_zero]; rfl)
  case q121 => exact fun _ _ _ h => h
  case w121 => rfl
  case y121 =>
    intro wS hSw
    obtain ⟨hSb, hSw, hSx⟩ := hSw
    clear hSx
    go_simp
    (try (with_reducible rfl))
  try simp only [Act.put, List.setIfInBounds_toArray, List.set_cons_zero, List.set_cons_succ]
  refine wpL_take (i := 10) (oi := ?o122) (v := ?v122) ?h122 (by kernel_rfl) (by kernel_rfl) (by kernel_rfl) (by rfl) ?q122 (by rfl) (b := false) (⟨k2, fun _ => a1⟩) (Or.inl ⟨?w122, ?y122⟩) ?r122
  case h122 => (simp only [List.getElem?_toArray, List.getElem?_cons_succ, List.getElem?_cons_zero]; rfl)
  case q122 => exact fun _ _ _ h => h
  case w122 => rfl
  case y122 =>
    intro wS hSw
    obtain ⟨hSb, hSw, hSx⟩ := hSw
    clear hSx
    go_simp
    (try (with_reducible rfl))
  try simp only [Act.put, List.setIfInBounds_toArray, List.set_cons_zero, List.set_cons_succ]
  refine wpL_one (i := 11) (o := ?o123) (b := true) (by kernel_rfl) ?h123 (by rfl) ?k123
  case h123 => (simp only [List.getElem?_toArray, List.getElem?_cons_succ, List.getElem?_cons_zero]; rfl)
  intro K hK
  refine wanted_on rfl ?_
  go_wp2_with fail
  refine hK.out _ _ (⟨cell_grown (gb_set (gb_refl _ _) _ _) k2 (fun e => by injection e with e; omega), fun e => by cases e⟩) (fun _ => ?_)
  clear hK K 
  try simp only [Act.put, List.setIfInBounds_toArray, List.set_cons_zero, List.set_cons_succ]
  refine wpL_done (by kernel_rfl) ?_ _
  have hby : 0 ≤ max 0 (min ay ((Lr.length : Int) - 1)) ∧ max 0 (min ay ((Lr.length : Int) - 1)) ≤ 120 := by omega
  have HIY := Lib.hid (show into ay ((g.rows.length : Int) - 1) = max 0 (min ay ((Lr.length : Int) - 1)) by rw [HLR.out]; rfl)
  generalize max 0 (min ay ((Lr.length : Int) - 1)) = yb at *
  have hsc : ((wb.setCell ⟨w.heap.size, 1, none⟩ (.int .i64 yb)).drew).heap.size = wb.heap.size := by show (wb.setCell _ _).heap.size = _; simp
  have HG3 := Lib.hid (show wb.grownBy ((wb.setCell ⟨w.heap.size, 1, none⟩ (.int .i64 yb)).drew) (some w.heap.size) from gb_drew (gb_set (gb_refl _ _) _ _))
  have HAT3 := Lib.hid (show ((wb.setCell ⟨w.heap.size, 1, none⟩ (.int .i64 yb)).drew).heap[w.heap.size]? = some (.cells #[.int .i64 bx, .int .i64 yb] 43 (0, 0)) from blk_set HAT2.out 1 _)
  generalize (wb.setCell ⟨w.heap.size, 1, none⟩ (.int .i64 yb)).drew = wc at *
  have HB3 := Lib.hid (HB2.out.trans (below_of_gb HG3.out (by omega) (fun q hq => by injection hq with hq; omega)))
  have HRS3 := Lib.hid (blk_grown HRS2.out HG3.out (fun e => by injection e with e; omega))
  clear HAT2 HRS2 HB2 HG1 HG3 k0 k1 k2 k3 a0 a1 z1 hwr2 hl1
  have HG1 := Lib.hid (show GM T p wc g from ⟨vr, vo, Lr, Lo, HG0.out.mod (.of_below HB3.out) id id id (fun _ => id)⟩)
  have a0 : wc.cell? ⟨w.heap.size, 0, none⟩ = some (.int .i64 bx) := blk_cell HAT3.out 0
  have a1 : wc.cell? ⟨w.heap.size, 1, none⟩ = some (.int .i64 yb) := blk_cell HAT3.out 1
  go_wp2_with fail
  refine (flow_any HG1.out cols rows bx yb c1 c2 r1 r2 hbx hby).mono ?_
  rintro e w9 ⟨rfl, hW9, T', hG9, hT9⟩
  have htr : T (w.heap.size + 1) = 0 := by
    by_cases h0 : T (w.heap.size + 1) = 0
    · exact h0
    · have := HG0.out.lt _ h0
      omega
  have hno : ¬ own T wc (w.heap.size + 1) := fun e => by
    rcases e with e | e
    · exact e htr
    · omega
  have hrs9 : w9.heap[w.heap.size + 1]? = some (.cells #[.int .i64 0, .int .i64 0] 43 (0, 0)) := (hW9.block _ (by omega) hno).trans HRS3.out
  have hres : (g.flow cols rows bx yb) = g.resize cols rows ax ay true := by
    unfold Gr.resize
    rw [if_pos rfl, HIX.out, HIY.out]
  have HRES := Lib.hid hres
  have HG9 := Lib.hid hG9
  have HT9 := Lib.hid hT9
  have HWW := Lib.hid hW9
  clear hres hG9 hT9 hW9
  generalize hqx : (g.flow cols rows bx yb).2.1 = qx at *
  generalize hqy : (g.flow cols rows bx yb).2.2 = qy at *
  have HQX := Lib.hid hqx
  have HQY := Lib.hid hqy
  clear hqx hqy
  have hst := run_storeVar_row (P := Tryd.prog) w9 (w.heap.size + 1) 43 43 _ #[.int .i64 qx, .int .i64 qy] hrs9 (by kernel_rfl) rfl (by simp [Value.oneCell'])
  have hr2' := setRow_blk (cells := #[.int .i64 qx, .int .i64 qy]) hrs9
  have HGE := Lib.hid (gb_setRow w9 (w.heap.size + 1) #[.int .i64 qx, .int .i64 qy])
  have HFIN := Lib.hid (show GM T' p (w9.setRow (w.heap.size + 1) #[.int .i64 qx, .int .i64 qy]) (g.resize cols rows ax ay true).1 by
    rw [← HRES.out]
    refine HG9.out.other (Tp := fun k => if k = w.heap.size + 1 then 1 else 0) (Within.of_gb HGE.out (fun k hk => ?_)) (fun k hk => ?_)
    · injection hk with hk
      subst hk
      exact .inl (by show (if _ then 1 else 0) ≠ 0; rw [if_pos rfl]; decide)
    · show (if _ then 1 else 0) = 0
      rw [if_neg (fun e => hno (by rw [← e]; exact HT9.out k hk))])
  have HWI := Lib.hid (show Within (own T w) w (w9.setRow (w.heap.size + 1) #[.int .i64 qx, .int .i64 qy]) from
    ((Within.of_below HB3.out).trans (HWW.out.mono (fun k hk => by
      rcases hk with e | e
      · exact .inl e
      · exact .inr (by omega)))).trans (Within.of_gb HGE.out (fun k hk => by injection hk with hk; subst hk; exact .inr (by omega))))
  clear hrs9
  go_wp2_with (refine wpList_storeR rfl _ _ _ rfl hst rfl rfl ?_)
  (try simp only [Exit.inBlock, Exit.then])
  refine retRow2 (x := .int .i64 0) rfl rfl rfl rfl hr2' Tryd.underlying43 rfl (by kernel_rfl) ⟨by rw [← HRES.out, HQX.out, HQY.out], HWI.out, T', HFIN.out, fun k hk => ?_⟩
  rcases HT9.out k hk with e | e
  · exact .inl e
  · exact .inr (by omega)
end Go.Proofs.YtjclgoiclbkgjaaDoor
