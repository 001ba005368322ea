/- Package grid, texts laid together: J5 H1. -/
import Derived.Test.YtjclgoiclbkgjaaDoorK15
import Derived.Test.YtjclgoiclbkgjaaDoorK8
/- Two grids of the same content: Same tells true. -/
namespace Go.Proofs.YtjclgoiclbkgjaaDoor
open Go.RowKit
attribute [local go_sem ↓] Go.wp_at_zero Go.wp_at_succ

theorem wanted_on2 {ops : Array Oper} {o : Oper} {a : Act} {X E : Prop} (hg : Region.wanted o (yielded ops a.tmps) = true) (h : X) : if Region.wanted o (yielded ops a.tmps) = true then X else E := by
  rw [if_pos hg]
  exact h
set_option maxRecDepth 100000 in
set_option maxHeartbeats 4000000 in
theorem same_any {T T2 : Nat → Nat} {p p2 : Nat} {w : World} {g : Gr} (h : GM T p w g) (h2 : GM T2 p2 w g) :
    Calls Tryd.prog 28 #[.pointer (some ⟨p, 0, none⟩), .pointer (some ⟨p2, 0, none⟩)] w fun e w' => e = .returned (.bool true) ∧ Below w.heap.size w w' := by
  obtain ⟨vr, vo, Lr, Lo, h⟩ := h
  obtain ⟨vr2, vo2, Lr2, Lo2, h2⟩ := h2
  have wf := h.wf
  have w1 := wf.r2
  have w2 := wf.c2
  have w3 := wf.ol
  have w4 := wf.li
  obtain ⟨e1, e2⟩ := rows_len h
  have hcl : ∀ x ∈ Lr ++ Lo, x.2.cells.length ≤ 1000 := fun x hx => by
    have hm : x.2 ∈ g.rows ++ g.old := by
      rcases List.mem_append.1 hx with hx | hx
      · exact List.mem_append_left _ (by rw [← h.er]; exact List.mem_map_of_mem hx)
      · exact List.mem_append_right _ (by rw [← h.eo]; exact List.mem_map_of_mem hx)
    have := (wf.ce x.2 hm).1
    omega
  obtain ⟨c0, c1, c2, c3⟩ := gm_cells h
  obtain ⟨k0, k1, k2, k3⟩ := gm_cells h2
  have HF1 := Lib.hid (fun (wx : World) (hb : Below w.heap.size w wx) => equalF_any Lr Lr2 vr vr2 wx (ownC_below h.rr.own hb) (ownC_below h2.rr.own hb) (by rw [h.er, h2.er]) (fun x hx => ownC_below (h.ca x (List.mem_append_left _ hx)).own hb) (fun x hx => ownC_below (h2.ca x (List.mem_append_left _ hx)).own hb) (by omega) (fun x hx => hcl x (List.mem_append_left _ hx)))
  have HF2 := Lib.hid (fun (wx : World) (hb : Below w.heap.size w wx) => equalF_any Lo Lo2 vo vo2 wx (ownC_below h.ro.own hb) (ownC_below h2.ro.own hb) (by rw [h.eo, h2.eo]) (fun x hx => ownC_below (h.ca x (List.mem_append_right _ hx)).own hb) (fun x hx => ownC_below (h2.ca x (List.mem_append_right _ hx)).own hb) (by omega) (fun x hx => hcl x (List.mem_append_right _ hx)))
  obtain ⟨ra, rc, rfl⟩ := ownC_sl h.rr.own
  obtain ⟨oa, oc, rfl⟩ := ownC_sl h.ro.own
  obtain ⟨ra2, rc2, rfl⟩ := ownC_sl h2.rr.own
  obtain ⟨oa2, oc2, rfl⟩ := ownC_sl h2.ro.own
  clear h h2 hcl wf e1 e2
  have hmf : ∀ (fn : Fn) (first cap : Array Value) (w : World), (Instr.makeFunc fn first cap).run Tryd.prog w = .ok (.func fn first cap) w := fun _ _ _ _ => rfl
  go_enter Tryd.func28, Tryd.ntmps28
  go_upto_region 2 with fail
  refine wpL_begin (c := 30) (S := (fun bb w' => (w'.cell? ⟨p, 0, none⟩ = some (.int .i64 g.cols) ∧ w'.cell? ⟨p, 1, none⟩ = some (.int .i64 g.limit) ∧ w'.cell? ⟨p, 2, none⟩ = some (.slice ra Lr.length rc) ∧ w'.cell? ⟨p, 3, none⟩ = some (.slice oa Lo.length oc) ∧ w'.cell? ⟨p2, 0, none⟩ = some (.int .i64 g.cols) ∧ w'.cell? ⟨p2, 1, none⟩ = some (.int .i64 g.limit) ∧ w'.cell? ⟨p2, 2, none⟩ = some (.slice ra2 Lr2.length rc2) ∧ w'.cell? ⟨p2, 3, none⟩ = some (.slice oa2 Lo2.length oc2)) ∧ (bb = false → True))) (by kernel_rfl) (⟨⟨c0, c1, c2, c3, k0, k1, k2, k3⟩, fun _ => trivial⟩) (fun _ => ?_)
  refine wpL_take (i := 0) (oi := ?o101) (v := ?v101) ?h101 (by kernel_rfl) (by kernel_rfl) (by kernel_rfl) (by rfl) ?q101 (by rfl) (b := false) (⟨⟨c0, c1, c2, c3, k0, k1, k2, k3⟩, fun _ => trivial⟩) (Or.inl ⟨?w101, ?y101⟩) ?r101
  case h101 => (simp only [List.getElem?_toArray, List.getElem?_cons_zero]; rfl)
  case q101 => exact fun _ _ _ h => h
  case w101 => rfl
  case y101 =>
    intro wS hSw
    obtain ⟨hSb, hSw, hSx⟩ := hSw
    clear hSx
    go_simp
    (try (with_reducible rfl))
  try simp only [Act.put, List.setIfInBounds_toArray, List.set_cons_zero, List.set_cons_succ]
  refine wpL_take (i := 1) (oi := ?o102) (v := ?v102) ?h102 (by kernel_rfl) (by kernel_rfl) (by kernel_rfl) (by rfl) ?q102 (by rfl) (b := false) (⟨⟨c0, c1, c2, c3, k0, k1, k2, k3⟩, fun _ => trivial⟩) (Or.inl ⟨?w102, ?y102⟩) ?r102
  case h102 => (simp only [List.getElem?_toArray, List.getElem?_cons_succ, List.getElem?_cons_zero]; rfl)
  case q102 => exact fun _ _ _ h => h
  case w102 => rfl
  case y102 =>
    intro wS hSw
    obtain ⟨hSb, hSw, hSx⟩ := hSw
    clear hSx
    go_simp
    (try (with_reducible rfl))
  try simp only [Act.put, List.setIfInBounds_toArray, List.set_cons_zero, List.set_cons_succ]
  refine wpL_take (i := 2) (oi := ?o103) (v := ?v103) ?h103 (by kernel_rfl) (by kernel_rfl) (by kernel_rfl) (by rfl) ?q103 (by rfl) (b := false) (⟨⟨c0, c1, c2, c3, k0, k1, k2, k3⟩, fun _ => trivial⟩) (Or.inl ⟨?w103, ?y103⟩) ?r103
  case h103 => (simp only [List.getElem?_toArray, List.getElem?_cons_succ, List.getElem?_cons_zero]; rfl)
  case q103 => exact fun _ _ _ h => h
  case w103 => rfl
  case y103 =>
    intro wS hSw
    obtain ⟨hSb, hSw, hSx⟩ := hSw
    clear hSx
    go_simp
    (try (with_reducible rfl))
  try simp only [Act.put, List.setIfInBounds_toArray, List.set_cons_zero, List.set_cons_succ]
  refine wpL_take (i := 3) (oi := ?o104) (v := ?v104) ?h104 (by kernel_rfl) (by kernel_rfl) (by kernel_rfl) (by rfl) ?q104 (by rfl) (b := false) (⟨⟨c0, c1, c2, c3, k0, k1, k2, k3⟩, fun _ => trivial⟩) (Or.inl ⟨?w104, ?y104⟩) ?r104
  case h104 => (simp only [List.getElem?_toArray, List.getElem?_cons_succ, List.getElem?_cons_zero]; rfl)
  case q104 => exact fun _ _ _ h => h
  case w104 => rfl
  case y104 =>
    intro wS hSw
    obtain ⟨hSb, hSw, hSx⟩ := hSw
    clear hSx
    go_simp
    (try (with_reducible rfl))
  try simp only [Act.put, List.setIfInBounds_toArray, List.set_cons_zero, List.set_cons_succ]
  refine wpL_take (i := 4) (oi := ?o105) (v := ?v105) ?h105 (by kernel_rfl) (by kernel_rfl) (by kernel_rfl) (by rfl) ?q105 (by rfl) (b := false) (⟨⟨c0, c1, c2, c3, k0, k1, k2, k3⟩, fun _ => trivial⟩) (Or.inl ⟨?w105, ?y105⟩) ?r105
  case h105 => (simp only [List.getElem?_toArray, List.getElem?_cons_succ, List.getElem?_cons_zero]; rfl)
  case q105 => exact fun _ _ _ h => h
  case w105 => rfl
  case y105 =>
    intro wS hSw
    obtain ⟨hSb, hSw, hSx⟩ := hSw
    clear hSx
    go_simp
    (try (with_reducible rfl))
  try simp only [Act.put, List.setIfInBounds_toArray, List.set_cons_zero, List.set_cons_succ]
  refine wpL_take (i := 5) (oi := ?o106) (v := ?v106) ?h106 (by kernel_rfl) (by kernel_rfl) (by kernel_rfl) (by rfl) ?q106 (by rfl) (b := false) (⟨⟨c0, c1, c2, c3, k0, k1, k2, k3⟩, fun _ => trivial⟩) (Or.inl ⟨?w106, ?y106⟩) ?r106
  case h106 => (simp only [List.getElem?_toArray, List.getElem?_cons_succ, List.getElem?_cons_zero]; rfl)
  case q106 => exact fun _ _ _ h => h
  case w106 => rfl
  case y106 =>
    intro wS hSw
    obtain ⟨hSb, hSw, hSx⟩ := hSw
    clear hSx
    go_simp
    (try (with_reducible rfl))
  try simp only [Act.put, List.setIfInBounds_toArray, List.set_cons_zero, List.set_cons_succ]
  refine wpL_take (i := 6) (oi := ?o107) (v := ?v107) ?h107 (by kernel_rfl) (by kernel_rfl) (by kernel_rfl) (by rfl) ?q107 (by rfl) (b := false) (⟨⟨c0, c1, c2, c3, k0, k1, k2, k3⟩, fun _ => trivial⟩) (Or.inl ⟨?w107, ?y107⟩) ?r107
  case h107 => (simp only [List.getElem?_toArray, List.getElem?_cons_succ, List.getElem?_cons_zero]; rfl)
  case q107 => exact fun _ _ _ h => h
  case w107 => rfl
  case y107 =>
    intro wS hSw
    obtain ⟨hSb, hSw, hSx⟩ := hSw
    clear hSx
    go_simp
    (try (with_reducible rfl))
  try simp only [Act.put, List.setIfInBounds_toArray, List.set_cons_zero, List.set_cons_succ]
  refine wpL_take (i := 7) (oi := ?o108) (v := ?v108) ?h108 (by kernel_rfl) (by kernel_rfl) (by kernel_rfl) (by rfl) ?q108 (by rfl) (b := false) (⟨⟨c0, c1, c2, c3, k0, k1, k2, k3⟩, fun _ => trivial⟩) (Or.inl ⟨?w108, ?y108⟩) ?r108
  case h108 => (simp only [List.getElem?_toArray, List.getElem?_cons_succ, List.getElem?_cons_zero]; rfl)
  case q108 => exact fun _ _ _ h => h
  case w108 => rfl
  case y108 =>
    intro wS hSw
    obtain ⟨hSb, hSw, hSx⟩ := hSw
    clear hSx
    go_simp
    (try (with_reducible rfl))
  try simp only [Act.put, List.setIfInBounds_toArray, List.set_cons_zero, List.set_cons_succ]
  refine wpL_take (i := 8) (oi := ?o109) (v := ?v109) ?h109 (by kernel_rfl) (by kernel_rfl) (by kernel_rfl) (by rfl) ?q109 (by rfl) (b := false) (⟨⟨c0, c1, c2, c3, k0, k1, k2, k3⟩, fun _ => trivial⟩) (Or.inl ⟨?w109, ?y109⟩) ?r109
  case h109 => (simp only [List.getElem?_toArray, List.getElem?_cons_succ, List.getElem?_cons_zero]; rfl)
  case q109 => exact fun _ _ _ h => h
  case w109 => rfl
  case y109 =>
    intro wS hSw
    obtain ⟨hSb, hSw, hSx⟩ := hSw
    clear hSx
    go_simp
    (try (with_reducible rfl))
  try simp only [Act.put, List.setIfInBounds_toArray, List.set_cons_zero, List.set_cons_succ]
  refine wpL_take (i := 9) (oi := ?o110) (v := ?v110) ?h110 (by kernel_rfl) (by kernel_rfl) (by kernel_rfl) (by rfl) ?q110 (by rfl) (b := false) (⟨⟨c0, c1, c2, c3, k0, k1, k2, k3⟩, fun _ => trivial⟩) (Or.inl ⟨?w110, ?y110⟩) ?r110
  case h110 => (simp only [List.getElem?_toArray, List.getElem?_cons_succ, List.getElem?_cons_zero]; rfl)
  case q110 => exact fun _ _ _ h => h
  case w110 => rfl
  case y110 =>
    intro wS hSw
    obtain ⟨hSb, hSw, hSx⟩ := hSw
    clear hSx
    go_simp
    (try (with_reducible rfl))
  try simp only [Act.put, List.setIfInBounds_toArray, List.set_cons_zero, List.set_cons_succ]
  refine wpL_take (i := 10) (oi := ?o111) (v := ?v111) ?h111 (by kernel_rfl) (by kernel_rfl) (by kernel_rfl) (by rfl) ?q111 (by rfl) (b := false) (⟨⟨c0, c1, c2, c3, k0, k1, k2, k3⟩, fun _ => trivial⟩) (Or.inl ⟨?w111, ?y111⟩) ?r111
  case h111 => (simp only [List.getElem?_toArray, List.getElem?_cons_succ, List.getElem?_cons_zero]; rfl)
  case q111 => exact fun _ _ _ h => h
  case w111 => rfl
  case y111 =>
    intro wS hSw
    obtain ⟨hSb, hSw, hSx⟩ := hSw
    clear hSx
    go_simp
    (try (with_reducible rfl))
  try simp only [Act.put, List.setIfInBounds_toArray, List.set_cons_zero, List.set_cons_succ]
  refine wpL_take (i := 11) (oi := ?o112) (v := ?v112) ?h112 (by kernel_rfl) (by kernel_rfl) (by kernel_rfl) (by rfl) ?q112 (by rfl) (b := false) (⟨⟨c0, c1, c2, c3, k0, k1, k2, k3⟩, fun _ => trivial⟩) (Or.inl ⟨?w112, ?y112⟩) ?r112
  case h112 => (simp only [List.getElem?_toArray, List.getElem?_cons_succ, List.getElem?_cons_zero]; rfl)
  case q112 => exact fun _ _ _ h => h
  case w112 => rfl
  case y112 =>
    intro wS hSw
    obtain ⟨hSb, hSw, hSx⟩ := hSw
    clear hSx
    go_simp
    (try (with_reducible rfl))
  try simp only [Act.put, List.setIfInBounds_toArray, List.set_cons_zero, List.set_cons_succ]
  refine wpL_take (i := 12) (oi := ?o113) (v := ?v113) ?h113 (by kernel_rfl) (by kernel_rfl) (by kernel_rfl) (by rfl) ?q113 (by rfl) (b := false) (⟨⟨c0, c1, c2, c3, k0, k1, k2, k3⟩, fun _ => trivial⟩) (Or.inl ⟨?w113, ?y113⟩) ?r113
  case h113 => (simp only [List.getElem?_toArray, List.getElem?_cons_succ, List.getElem?_cons_zero]; rfl)
  case q113 => exact fun _ _ _ h => h
  case w113 => rfl
  case y113 =>
    intro wS hSw
    obtain ⟨hSb, hSw, hSx⟩ := hSw
    clear hSx
    go_simp
    (try (with_reducible rfl))
  try simp only [Act.put, List.setIfInBounds_toArray, List.set_cons_zero, List.set_cons_succ]
  refine wpL_take (i := 13) (oi := ?o114) (v := ?v114) ?h114 (by kernel_rfl) (by kernel_rfl) (by kernel_rfl) (by rfl) ?q114 (by rfl) (b := false) (⟨⟨c0, c1, c2, c3, k0, k1, k2, k3⟩, fun _ => trivial⟩) (Or.inl ⟨?w114, ?y114⟩) ?r114
  case h114 => (simp only [List.getElem?_toArray, List.getElem?_cons_succ, List.getElem?_cons_zero]; rfl)
  case q114 => exact fun _ _ _ h => h
  case w114 => rfl
  case y114 =>
    intro wS hSw
    obtain ⟨hSb, hSw, hSx⟩ := hSw
    clear hSx
    go_simp
    (try (with_reducible rfl))
  try simp only [Act.put, List.setIfInBounds_toArray, List.set_cons_zero, List.set_cons_succ]
  refine wpL_take (i := 14) (oi := ?o115) (v := ?v115) ?h115 (by kernel_rfl) (by kernel_rfl) (by kernel_rfl) (by rfl) ?q115 (by rfl) (b := false) (⟨⟨c0, c1, c2, c3, k0, k1, k2, k3⟩, fun _ => trivial⟩) (Or.inl ⟨?w115, ?y115⟩) ?r115
  case h115 => (simp only [List.getElem?_toArray, List.getElem?_cons_succ, List.getElem?_cons_zero]; rfl)
  case q115 => exact fun _ _ _ h => h
  case w115 => rfl
  case y115 =>
    intro wS hSw
    obtain ⟨hSb, hSw, hSx⟩ := hSw
    clear hSx
    go_simp
    (try (with_reducible rfl))
  try simp only [Act.put, List.setIfInBounds_toArray, List.set_cons_zero, List.set_cons_succ]
  refine wpL_take (i := 15) (oi := ?o116) (v := ?v116) ?h116 (by kernel_rfl) (by kernel_rfl) (by kernel_rfl) (by rfl) ?q116 (by rfl) (b := false) (⟨⟨c0, c1, c2, c3, k0, k1, k2, k3⟩, fun _ => trivial⟩) (Or.inl ⟨?w116, ?y116⟩) ?r116
  case h116 => (simp only [List.getElem?_toArray, List.getElem?_cons_succ, List.getElem?_cons_zero]; rfl)
  case q116 => exact fun _ _ _ h => h
  case w116 => rfl
  case y116 =>
    intro wS hSw
    obtain ⟨hSb, hSw, hSx⟩ := hSw
    clear hSx
    go_simp
    (try (with_reducible rfl))
  try simp only [Act.put, List.setIfInBounds_toArray, List.set_cons_zero, List.set_cons_succ]
  refine wpL_take (i := 16) (oi := ?o117) (v := ?v117) ?h117 (by kernel_rfl) (by kernel_rfl) (by kernel_rfl) (by rfl) ?q117 (by rfl) (b := false) (⟨⟨c0, c1, c2, c3, k0, k1, k2, k3⟩, fun _ => trivial⟩) (Or.inl ⟨?w117, ?y117⟩) ?r117
  case h117 => (simp only [List.getElem?_toArray, List.getElem?_cons_succ, List.getElem?_cons_zero]; rfl)
  case q117 => exact fun _ _ _ h => h
  case w117 => rfl
  case y117 =>
    intro wS hSw
    obtain ⟨hSb, hSw, hSx⟩ := hSw
    clear hSx
    go_simp
    (try (with_reducible rfl))
  try simp only [Act.put, List.setIfInBounds_toArray, List.set_cons_zero, List.set_cons_succ]
  refine wpL_take (i := 17) (oi := ?o118) (v := ?v118) ?h118 (by kernel_rfl) (by kernel_rfl) (by kernel_rfl) (by rfl) ?q118 (by rfl) (b := false) (⟨⟨c0, c1, c2, c3, k0, k1, k2, k3⟩, fun _ => trivial⟩) (Or.inl ⟨?w118, ?y118⟩) ?r118
  case h118 => (simp only [List.getElem?_toArray, List.getElem?_cons_succ, List.getElem?_cons_zero]; rfl)
  case q118 => exact fun _ _ _ h => h
  case w118 => rfl
  case y118 =>
    intro wS hSw
    obtain ⟨hSb, hSw, hSx⟩ := hSw
    clear hSx
    go_simp
    (try (with_reducible rfl))
  try simp only [Act.put, List.setIfInBounds_toArray, List.set_cons_zero, List.set_cons_succ]
  refine wpL_take (i := 18) (oi := ?o119) (v := ?v119) ?h119 (by kernel_rfl) (by kernel_rfl) (by kernel_rfl) (by rfl) ?q119 (by rfl) (b := false) (⟨⟨c0, c1, c2, c3, k0, k1, k2, k3⟩, fun _ => trivial⟩) (Or.inl ⟨?w119, ?y119⟩) ?r119
  case h119 => (simp only [List.getElem?_toArray, List.getElem?_cons_succ, List.getElem?_cons_zero]; rfl)
  case q119 => exact fun _ _ _ h => h
  case w119 => rfl
  case y119 =>
    intro wS hSw
    obtain ⟨hSb, hSw, hSx⟩ := hSw
    clear hSx
    go_simp
    (try (with_reducible rfl))
  try simp only [Act.put, List.setIfInBounds_toArray, List.set_cons_zero, List.set_cons_succ]
  refine wpL_take (i := 19) (oi := ?o120) (v := ?v120) ?h120 (by kernel_rfl) (by kernel_rfl) (by kernel_rfl) (by rfl) ?q120 (by rfl) (b := false) (⟨⟨c0, c1, c2, c3, k0, k1, k2, k3⟩, fun _ => trivial⟩) (Or.inl ⟨?w120, ?y120⟩) ?r120
  case h120 => (simp only [List.getElem?_toArray, List.getElem?_cons_succ, List.getElem?_cons_zero]; rfl)
  case q120 => exact fun _ _ _ h => h
  case w120 => rfl
  case y120 =>
    intro wS hSw
    obtain ⟨hSb, hSw, hSx⟩ := hSw
    clear hSx
    go_simp
    (try (with_reducible rfl))
  try simp only [Act.put, List.setIfInBounds_toArray, List.set_cons_zero, List.set_cons_succ]
  refine wpL_take (i := 20) (oi := ?o121) (v := ?v121) ?h121 (by kernel_rfl) (by kernel_rfl) (by kernel_rfl) (by rfl) ?q121 (by rfl) (b := false) (⟨⟨c0, c1, c2, c3, k0, k1, k2, k3⟩, fun _ => trivial⟩) (Or.inl ⟨?w121, ?y121⟩) ?r121
  case h121 => (simp only [List.getElem?_toArray, List.getElem?_cons_succ, List.getElem?_cons_zero]; rfl)
  case q121 => exact fun _ _ _ h => h
  case w121 => rfl
  case y121 =>
    intro wS hSw
    obtain ⟨hSb, hSw, hSx⟩ := hSw
    clear hSx
    go_simp
    (try (with_reducible rfl))
  try simp only [Act.put, List.setIfInBounds_toArray, List.set_cons_zero, List.set_cons_succ]
  refine wpL_take (i := 21) (oi := ?o122) (v := ?v122) ?h122 (by kernel_rfl) (by kernel_rfl) (by kernel_rfl) (by rfl) ?q122 (by rfl) (b := false) (⟨⟨c0, c1, c2, c3, k0, k1, k2, k3⟩, fun _ => trivial⟩) (Or.inl ⟨?w122, ?y122⟩) ?r122
  case h122 => (simp only [List.getElem?_toArray, List.getElem?_cons_succ, List.getElem?_cons_zero]; rfl)
  case q122 => exact fun _ _ _ h => h
  case w122 => rfl
  case y122 =>
    intro wS hSw
    obtain ⟨hSb, hSw, hSx⟩ := hSw
    clear hSx
    go_simp
    (try (with_reducible rfl))
  try simp only [Act.put, List.setIfInBounds_toArray, List.set_cons_zero, List.set_cons_succ]
  refine wpL_take (i := 22) (oi := ?o123) (v := ?v123) ?h123 (by kernel_rfl) (by kernel_rfl) (by kernel_rfl) (by rfl) ?q123 (by rfl) (b := false) (⟨⟨c0, c1, c2, c3, k0, k1, k2, k3⟩, fun _ => trivial⟩) (Or.inl ⟨?w123, ?y123⟩) ?r123
  case h123 => (simp only [List.getElem?_toArray, List.getElem?_cons_succ, List.getElem?_cons_zero]; rfl)
  case q123 => exact fun _ _ _ h => h
  case w123 => rfl
  case y123 =>
    intro wS hSw
    obtain ⟨hSb, hSw, hSx⟩ := hSw
    clear hSx
    go_simp
    (try (with_reducible rfl))
  try simp only [Act.put, List.setIfInBounds_toArray, List.set_cons_zero, List.set_cons_succ]
  refine wpL_take (i := 23) (oi := ?o124) (v := ?v124) ?h124 (by kernel_rfl) (by kernel_rfl) (by kernel_rfl) (by rfl) ?q124 (by rfl) (b := false) (⟨⟨c0, c1, c2, c3, k0, k1, k2, k3⟩, fun _ => trivial⟩) (Or.inl ⟨?w124, ?y124⟩) ?r124
  case h124 => (simp only [List.getElem?_toArray, List.getElem?_cons_succ, List.getElem?_cons_zero]; rfl)
  case q124 => exact fun _ _ _ h => h
  case w124 => rfl
  case y124 =>
    intro wS hSw
    obtain ⟨hSb, hSw, hSx⟩ := hSw
    clear hSx
    go_simp
    (try (with_reducible rfl))
  try simp only [Act.put, List.setIfInBounds_toArray, List.set_cons_zero, List.set_cons_succ]
  refine wpL_take (i := 24) (oi := ?o125) (v := ?v125) ?h125 (by kernel_rfl) (by kernel_rfl) (by kernel_rfl) (by rfl) ?q125 (by rfl) (b := false) (⟨⟨c0, c1, c2, c3, k0, k1, k2, k3⟩, fun _ => trivial⟩) (Or.inl ⟨?w125, ?y125⟩) ?r125
  case h125 => (simp only [List.getElem?_toArray, List.getElem?_cons_succ, List.getElem?_cons_zero]; rfl)
  case q125 => exact fun _ _ _ h => h
  case w125 => rfl
  case y125 =>
    intro wS hSw
    obtain ⟨hSb, hSw, hSx⟩ := hSw
    clear hSx
    go_simp
    (try (with_reducible rfl))
  try simp only [Act.put, List.setIfInBounds_toArray, List.set_cons_zero, List.set_cons_succ]
  refine wpL_take (i := 25) (oi := ?o126) (v := ?v126) ?h126 (by kernel_rfl) (by kernel_rfl) (by kernel_rfl) (by rfl) ?q126 (by rfl) (b := false) (⟨⟨c0, c1, c2, c3, k0, k1, k2, k3⟩, fun _ => trivial⟩) (Or.inl ⟨?w126, ?y126⟩) ?r126
  case h126 => (simp only [List.getElem?_toArray, List.getElem?_cons_succ, List.getElem?_cons_zero]; rfl)
  case q126 => exact fun _ _ _ h => h
  case w126 => rfl
  case y126 =>
    intro wS hSw
    obtain ⟨hSb, hSw, hSx⟩ := hSw
    clear hSx
    go_simp
    (try (with_reducible rfl))
  try simp only [Act.put, List.setIfInBounds_toArray, List.set_cons_zero, List.set_cons_succ]
  refine wpL_take (i := 26) (oi := ?o127) (v := ?v127) ?h127 (by kernel_rfl) (by kernel_rfl) (by kernel_rfl) (by rfl) ?q127 (by rfl) (b := false) (⟨⟨c0, c1, c2, c3, k0, k1, k2, k3⟩, fun _ => trivial⟩) (Or.inl ⟨?w127, ?y127⟩) ?r127
  case h127 => (simp only [List.getElem?_toArray, List.getElem?_cons_succ, List.getElem?_cons_zero]; rfl)
  case q127 => exact fun _ _ _ h => h
  case w127 => rfl
  case y127 =>
    intro wS hSw
    obtain ⟨hSb, hSw, hSx⟩ := hSw
    clear hSx
    go_simp
    (try (with_reducible rfl))
  try simp only [Act.put, List.setIfInBounds_toArray, List.set_cons_zero, List.set_cons_succ]
  refine wpL_take (i := 27) (oi := ?o128) (v := ?v128) ?h128 (by kernel_rfl) (by kernel_rfl) (by kernel_rfl) (by rfl) ?q128 (by rfl) (b := false) (⟨⟨c0, c1, c2, c3, k0, k1, k2, k3⟩, fun _ => trivial⟩) (Or.inl ⟨?w128, ?y128⟩) ?r128
  case h128 => (simp only [List.getElem?_toArray, List.getElem?_cons_succ, List.getElem?_cons_zero]; rfl)
  case q128 => exact fun _ _ _ h => h
  case w128 => rfl
  case y128 =>
    intro wS hSw
    obtain ⟨hSb, hSw, hSx⟩ := hSw
    clear hSx
    go_simp
    (try (with_reducible rfl))
  try simp only [Act.put, List.setIfInBounds_toArray, List.set_cons_zero, List.set_cons_succ]
  refine wpL_take (i := 28) (oi := ?o129) (v := ?v129) ?h129 (by kernel_rfl) (by kernel_rfl) (by kernel_rfl) (by rfl) ?q129 (by rfl) (b := false) (⟨⟨c0, c1, c2, c3, k0, k1, k2, k3⟩, fun _ => trivial⟩) (Or.inl ⟨?w129, ?y129⟩) ?r129
  case h129 => (simp only [List.getElem?_toArray, List.getElem?_cons_succ, List.getElem?_cons_zero]; rfl)
  case q129 => exact fun _ _ _ h => h
  case w129 => rfl
  case y129 =>
    intro wS hSw
    obtain ⟨hSb, hSw, hSx⟩ := hSw
    clear hSx
    go_simp
    (try (with_reducible rfl))
  try simp only [Act.put, List.setIfInBounds_toArray, List.set_cons_zero, List.set_cons_succ]
  refine wpL_take (i := 29) (oi := ?o130) (v := ?v130) ?h130 (by kernel_rfl) (by kernel_rfl) (by kernel_rfl) (by rfl) ?q130 (by rfl) (b := false) (⟨⟨c0, c1, c2, c3, k0, k1, k2, k3⟩, fun _ => trivial⟩) (Or.inl ⟨?w130, ?y130⟩) ?r130
  case h130 => (simp only [List.getElem?_toArray, List.getElem?_cons_succ, List.getElem?_cons_zero]; rfl)
  case q130 => exact fun _ _ _ h => h
  case w130 => rfl
  case y130 =>
    intro wS hSw
    obtain ⟨hSb, hSw, hSx⟩ := hSw
    clear hSx
    go_simp
    (try (with_reducible rfl))
  try simp only [Act.put, List.setIfInBounds_toArray, List.set_cons_zero, List.set_cons_succ]
  refine wpL_one (i := 30) (o := ?o131) (b := true) (by kernel_rfl) ?h131 (by rfl) ?k131
  case h131 => (simp only [List.getElem?_toArray, List.getElem?_cons_succ, List.getElem?_cons_zero]; rfl)
  intro K hK
  refine wanted_on2 (by rfl) ?_
  go_wp2_with fail
  refine (HF1.out _ (Below.refl w.heap.size w).drew).mono ?_
  rintro e w4 ⟨rfl, b4⟩
  have HB4 := Lib.hid (show Below w.heap.size w w4 from (Below.refl w.heap.size w).drew.trans b4)
  have c04 := cell_below HB4.out c0
  have c14 := cell_below HB4.out c1
  have c24 := cell_below HB4.out c2
  have c34 := cell_below HB4.out c3
  have k04 := cell_below HB4.out k0
  have k14 := cell_below HB4.out k1
  have k24 := cell_below HB4.out k2
  have k34 := cell_below HB4.out k3
  refine hK.out _ _ (⟨⟨c04, c14, c24, c34, k04, k14, k24, k34⟩, fun _ => trivial⟩) (fun _ => ?_)
  clear hK K b4 c0 c1 c2 c3 k0 k1 k2 k3
  try simp only [Act.put, List.setIfInBounds_toArray, List.set_cons_zero, List.set_cons_succ]
  refine wpL_take (i := 31) (oi := ?o132) (v := ?v132) ?h132 (by kernel_rfl) (by kernel_rfl) (by kernel_rfl) (by rfl) ?q132 (by rfl) (b := true) (⟨⟨c04, c14, c24, c34, k04, k14, k24, k34⟩, fun _ => trivial⟩) (Or.inl ⟨?w132, ?y132⟩) ?r132
  case h132 => (simp only [List.getElem?_toArray, List.getElem?_cons_succ, List.getElem?_cons_zero]; rfl)
  case q132 => exact fun _ _ _ h => h
  case w132 => rfl
  case y132 =>
    intro wS hSw
    obtain ⟨hSb, hSw, hSx⟩ := hSw
    clear hSx
    go_simp
    (try (with_reducible rfl))
  try simp only [Act.put, List.setIfInBounds_toArray, List.set_cons_zero, List.set_cons_succ]
  refine wpL_take (i := 32) (oi := ?o133) (v := ?v133) ?h133 (by kernel_rfl) (by kernel_rfl) (by kernel_rfl) (by rfl) ?q133 (by rfl) (b := true) (⟨⟨c04, c14, c24, c34, k04, k14, k24, k34⟩, fun _ => trivial⟩) (Or.inl ⟨?w133, ?y133⟩) ?r133
  case h133 => (simp only [List.getElem?_toArray, List.getElem?_cons_succ, List.getElem?_cons_zero]; rfl)
  case q133 => exact fun _ _ _ h => h
  case w133 => rfl
  case y133 =>
    intro wS hSw
    obtain ⟨hSb, hSw, hSx⟩ := hSw
    clear hSx
    go_simp
    (try (with_reducible rfl))
  try simp only [Act.put, List.setIfInBounds_toArray, List.set_cons_zero, List.set_cons_succ]
  refine wpL_take (i := 33) (oi := ?o134) (v := ?v134) ?h134 (by kernel_rfl) (by kernel_rfl) (by kernel_rfl) (by rfl) ?q134 (by rfl) (b := true) (⟨⟨c04, c14, c24, c34, k04, k14, k24, k34⟩, fun _ => trivial⟩) (Or.inl ⟨?w134, ?y134⟩) ?r134
  case h134 => (simp only [List.getElem?_toArray, List.getElem?_cons_succ, List.getElem?_cons_zero]; rfl)
  case q134 => exact fun _ _ _ h => h
  case w134 => rfl
  case y134 =>
    intro wS hSw
    obtain ⟨hSb, hSw, hSx⟩ := hSw
    clear hSx
    go_simp
    (try (with_reducible rfl))
  try simp only [Act.put, List.setIfInBounds_toArray, List.set_cons_zero, List.set_cons_succ]
  refine wpL_take (i := 34) (oi := ?o135) (v := ?v135) ?h135 (by kernel_rfl) (by kernel_rfl) (by kernel_rfl) (by rfl) ?q135 (by rfl) (b := true) (⟨⟨c04, c14, c24, c34, k04, k14, k24, k34⟩, fun _ => trivial⟩) (Or.inl ⟨?w135, ?y135⟩) ?r135
  case h135 => (simp only [List.getElem?_toArray, List.getElem?_cons_succ, List.getElem?_cons_zero]; rfl)
  case q135 => exact fun _ _ _ h => h
  case w135 => rfl
  case y135 =>
    intro wS hSw
    obtain ⟨hSb, hSw, hSx⟩ := hSw
    clear hSx
    go_simp
    (try (with_reducible rfl))
  try simp only [Act.put, List.setIfInBounds_toArray, List.set_cons_zero, List.set_cons_succ]
  refine wpL_take (i := 35) (oi := ?o136) (v := ?v136) ?h136 (by kernel_rfl) (by kernel_rfl) (by kernel_rfl) (by rfl) ?q136 (by rfl) (b := true) (⟨⟨c04, c14, c24, c34, k04, k14, k24, k34⟩, fun _ => trivial⟩) (Or.inl ⟨?w136, ?y136⟩) ?r136
  case h136 => (simp only [List.getElem?_toArray, List.getElem?_cons_succ, List.getElem?_cons_zero]; rfl)
  case q136 => exact fun _ _ _ h => h
  case w136 => rfl
  case y136 =>
    intro wS hSw
    obtain ⟨hSb, hSw, hSx⟩ := hSw
    clear hSx
    go_simp
    (try (with_reducible rfl))
  try simp only [Act.put, List.setIfInBounds_toArray, List.set_cons_zero, List.set_cons_succ]
  refine wpL_take (i := 36) (oi := ?o137) (v := ?v137) ?h137 (by kernel_rfl) (by kernel_rfl) (by kernel_rfl) (by rfl) ?q137 (by rfl) (b := true) (⟨⟨c04, c14, c24, c34, k04, k14, k24, k34⟩, fun _ => trivial⟩) (Or.inl ⟨?w137, ?y137⟩) ?r137
  case h137 => (simp only [List.getElem?_toArray, List.getElem?_cons_succ, List.getElem?_cons_zero]; rfl)
  case q137 => exact fun _ _ _ h => h
  case w137 => rfl
  case y137 =>
    intro wS hSw
    obtain ⟨hSb, hSw, hSx⟩ := hSw
    clear hSx
    go_simp
    (try (with_reducible rfl))
  try simp only [Act.put, List.setIfInBounds_toArray, List.set_cons_zero, List.set_cons_succ]
  refine wpL_take (i := 37) (oi := ?o138) (v := ?v138) ?h138 (by kernel_rfl) (by kernel_rfl) (by kernel_rfl) (by rfl) ?q138 (by rfl) (b := true) (⟨⟨c04, c14, c24, c34, k04, k14, k24, k34⟩, fun _ => trivial⟩) (Or.inl ⟨?w138, ?y138⟩) ?r138
  case h138 => (simp only [List.getElem?_toArray, List.getElem?_cons_succ, List.getElem?_cons_zero]; rfl)
  case q138 => exact fun _ _ _ h => h
  case w138 => rfl
  case y138 =>
    intro wS hSw
    obtain ⟨hSb, hSw, hSx⟩ := hSw
    clear hSx
    go_simp
    (try (with_reducible rfl))
  try simp only [Act.put, List.setIfInBounds_toArray, List.set_cons_zero, List.set_cons_succ]
  refine wpL_take (i := 38) (oi := ?o139) (v := ?v139) ?h139 (by kernel_rfl) (by kernel_rfl) (by kernel_rfl) (by rfl) ?q139 (by rfl) (b := true) (⟨⟨c04, c14, c24, c34, k04, k14, k24, k34⟩, fun _ => trivial⟩) (Or.inl ⟨?w139, ?y139⟩) ?r139
  case h139 => (simp only [List.getElem?_toArray, List.getElem?_cons_succ, List.getElem?_cons_zero]; rfl)
  case q139 => exact fun _ _ _ h => h
  case w139 => rfl
  case y139 =>
    intro wS hSw
    obtain ⟨hSb, hSw, hSx⟩ := hSw
    clear hSx
    go_simp
    (try (with_reducible rfl))
  try simp only [Act.put, List.setIfInBounds_toArray, List.set_cons_zero, List.set_cons_succ]
  refine wpL_take (i := 39) (oi := ?o140) (v := ?v140) ?h140 (by kernel_rfl) (by kernel_rfl) (by kernel_rfl) (by rfl) ?q140 (by rfl) (b := true) (⟨⟨c04, c14, c24, c34, k04, k14, k24, k34⟩, fun _ => trivial⟩) (Or.inl ⟨?w140, ?y140⟩) ?r140
  case h140 => (simp only [List.getElem?_toArray, List.getElem?_cons_succ, List.getElem?_cons_zero]; rfl)
  case q140 => exact fun _ _ _ h => h
  case w140 => rfl
  case y140 =>
    intro wS hSw
    obtain ⟨hSb, hSw, hSx⟩ := hSw
    clear hSx
    go_simp
    (try (with_reducible rfl))
  try simp only [Act.put, List.setIfInBounds_toArray, List.set_cons_zero, List.set_cons_succ]
  refine wpL_take (i := 40) (oi := ?o141) (v := ?v141) ?h141 (by kernel_rfl) (by kernel_rfl) (by kernel_rfl) (by rfl) ?q141 (by rfl) (b := true) (⟨⟨c04, c14, c24, c34, k04, k14, k24, k34⟩, fun _ => trivial⟩) (Or.inl ⟨?w141, ?y141⟩) ?r141
  case h141 => (simp only [List.getElem?_toArray, List.getElem?_cons_succ, List.getElem?_cons_zero]; rfl)
  case q141 => exact fun _ _ _ h => h
  case w141 => rfl
  case y141 =>
    intro wS hSw
    obtain ⟨hSb, hSw, hSx⟩ := hSw
    clear hSx
    go_simp
    (try (with_reducible rfl))
  try simp only [Act.put, List.setIfInBounds_toArray, List.set_cons_zero, List.set_cons_succ]
  refine wpL_take (i := 41) (oi := ?o142) (v := ?v142) ?h142 (by kernel_rfl) (by kernel_rfl) (by kernel_rfl) (by rfl) ?q142 (by rfl) (b := true) (⟨⟨c04, c14, c24, c34, k04, k14, k24, k34⟩, fun _ => trivial⟩) (Or.inl ⟨?w142, ?y142⟩) ?r142
  case h142 => (simp only [List.getElem?_toArray, List.getElem?_cons_succ, List.getElem?_cons_zero]; rfl)
  case q142 => exact fun _ _ _ h => h
  case w142 => rfl
  case y142 =>
    intro wS hSw
    obtain ⟨hSb, hSw, hSx⟩ := hSw
    clear hSx
    go_simp
    (try (with_reducible rfl))
  try simp only [Act.put, List.setIfInBounds_toArray, List.set_cons_zero, List.set_cons_succ]
  refine wpL_one (i := 42) (o := ?o143) (b := true) (by kernel_rfl) ?h143 (by rfl) ?k143
  case h143 => (simp only [List.getElem?_toArray, List.getElem?_cons_succ, List.getElem?_cons_zero]; rfl)
  intro K hK
  refine wanted_on2 (by rfl) ?_
  go_wp2_with fail
  refine (HF2.out _ HB4.out).mono ?_
  rintro e w5 ⟨rfl, b5⟩
  have HB45 := Lib.hid b5
  have HB5 := Lib.hid (HB4.out.trans (b5.mono HB4.out.size))
  have c05 := cell_below HB45.out c04
  have c15 := cell_below HB45.out c14
  have c25 := cell_below HB45.out c24
  have c35 := cell_below HB45.out c34
  have k05 := cell_below HB45.out k04
  have k15 := cell_below HB45.out k14
  have k25 := cell_below HB45.out k24
  have k35 := cell_below HB45.out k34
  refine hK.out _ _ (⟨⟨c05, c15, c25, c35, k05, k15, k25, k35⟩, fun _ => trivial⟩) (fun _ => ?_)
  clear hK K b5 c04 c14 c24 c34 k04 k14 k24 k34
  try simp only [Act.put, List.setIfInBounds_toArray, List.set_cons_zero, List.set_cons_succ]
  refine wpL_take (i := 43) (oi := ?o144) (v := ?v144) ?h144 (by kernel_rfl) (by kernel_rfl) (by kernel_rfl) (by rfl) ?q144 (by rfl) (b := true) (⟨⟨c05, c15, c25, c35, k05, k15, k25, k35⟩, fun _ => trivial⟩) (Or.inl ⟨?w144, ?y144⟩) ?r144
  case h144 => (simp only [List.getElem?_toArray, List.getElem?_cons_succ, List.getElem?_cons_zero]; rfl)
  case q144 => exact fun _ _ _ h => h
  case w144 => rfl
  case y144 =>
    intro wS hSw
    obtain ⟨hSb, hSw, hSx⟩ := hSw
    clear hSx
    go_simp
    (try (with_reducible rfl))
  try simp only [Act.put, List.setIfInBounds_toArray, List.set_cons_zero, List.set_cons_succ]
  refine wpL_take (i := 44) (oi := ?o145) (v := ?v145) ?h145 (by kernel_rfl) (by kernel_rfl) (by kernel_rfl) (by rfl) ?q145 (by rfl) (b := true) (⟨⟨c05, c15, c25, c35, k05, k15, k25, k35⟩, fun _ => trivial⟩) (Or.inl ⟨?w145, ?y145⟩) ?r145
  case h145 => (simp only [List.getElem?_toArray, List.getElem?_cons_succ, List.getElem?_cons_zero]; rfl)
  case q145 => exact fun _ _ _ h => h
  case w145 => rfl
  case y145 =>
    intro wS hSw
    obtain ⟨hSb, hSw, hSx⟩ := hSw
    clear hSx
    go_simp
    (try (with_reducible rfl))
  try simp only [Act.put, List.setIfInBounds_toArray, List.set_cons_zero, List.set_cons_succ]
  refine wpL_done (by kernel_rfl) ?_ _
  go_wp2_with fail
  exact ret1v rfl rfl rfl ⟨rfl, HB5.out⟩
end Go.Proofs.YtjclgoiclbkgjaaDoor

/- The law GridMoves: the walk. -/
namespace Go.Proofs.YtjclgoiclbkgjaaDoor
open Go.RowKit
attribute [local go_sem ↓] Go.wp_at_zero Go.wp_at_succ

theorem row_nat (g : Gr) (y : Nat) : g.row (y : Int) = (g.rows[y]?).getD noR := by
  unfold Gr.row
  by_cases h : y < g.rows.length
  · rw [if_pos (by omega), Int.toNat_natCast, List.getD_eq_getElem?_getD]
  · rw [if_neg (by omega), if_neg (by omega), List.getElem?_eq_none (by omega)]; rfl
theorem region_in (g : Gr) (t b n : Nat) (h1 : t ≤ b) (h2 : b < g.rows.length) (h3 : n ≤ b + 1 - t) : regionN g (t : Int) (b : Int) (n : Int) plainS = n := by
  unfold regionN
  rw [if_neg (fun e => by
    rcases e with e | e | e | e
    · omega
    · omega
    · omega
    · exact absurd e (by decide))]
  omega
theorem up_row (g : Gr) (t b n : Nat) (h1 : t ≤ b) (h2 : b < g.rows.length) (h3 : n ≤ b + 1 - t) (h4 : 1 ≤ n) (y : Nat) :
    (g.up (t : Int) (b : Int) (n : Int) plainS false).row (y : Int) = if y < t then g.row y else if y + n ≤ b then g.row ((y + n : Nat) : Int) else if y ≤ b then blankR g.cols plainS else g.row y := by
  rw [row_nat, row_nat, row_nat]
  unfold Gr.up
  rw [region_in g t b n h1 h2 h3, if_neg (by omega)]
  show ((upRows g.rows (t : Int).toNat (b : Int).toNat n g.cols plainS)[y]?).getD noR = _
  rw [Int.toNat_natCast, Int.toNat_natCast, up_get h1 h2 h3]
  split
  · rfl
  · split
    · rfl
    · split
      · rfl
      · rfl
theorem down_row (g : Gr) (t b n : Nat) (h1 : t ≤ b) (h2 : b < g.rows.length) (h3 : n ≤ b + 1 - t) (h4 : 1 ≤ n) (y : Nat) :
    (g.down (t : Int) (b : Int) (n : Int) plainS).row (y : Int) = if y < t then g.row y else if y < t + n then blankR g.cols plainS else if y ≤ b then g.row ((y - n : Nat) : Int) else g.row y := by
  rw [row_nat, row_nat, row_nat]
  unfold Gr.down
  rw [region_in g t b n h1 h2 h3, if_neg (by omega)]
  show ((downRows g.rows (t : Int).toNat (b : Int).toNat n g.cols plainS)[y]?).getD noR = _
  rw [Int.toNat_natCast, Int.toNat_natCast, down_get h1 h2 h3]
  split
  · rfl
  · split
    · rfl
    · split
      · rfl
      · rfl
/-- Rows that are scrolled up, and down again. -/
theorem moved_row (g : Gr) (t b n : Nat) (h1 : t ≤ b) (h2 : b < g.rows.length) (h3 : n ≤ b + 1 - t) (h4 : 1 ≤ n) (y : Nat) :
    ((g.up (t : Int) (b : Int) (n : Int) plainS false).down (t : Int) (b : Int) (n : Int) plainS).row (y : Int) = if t ≤ y ∧ y < t + n then blankR g.cols plainS else g.row y := by
  have hd := Dim.up (g := g) ⟨rfl, rfl, rfl⟩ (t : Int) (b : Int) (n : Int) plainS false
  rw [down_row _ t b n h1 (by rw [hd.2.1]; exact h2) h3 h4, hd.1, up_row g t b n h1 h2 h3 h4, up_row g t b n h1 h2 h3 h4]
  repeat' split
  all_goals first
    | rfl
    | (exfalso; omega)
    | (rw [show y - n + n = y by omega])
theorem text_blank (n : Nat) (s : Sty) : textL (blankR n s).cells = [] := by
  unfold textL blankR
  rw [trim_blank]; rfl
theorem isVals_below {w w2 : World} {v : Value} {l : List Value} (h : IsVals w v l) (b : Below w.heap.size w w2) : IsVals w2 v l := by
  rcases h with h | ⟨a, c, e1, e2, e3, e4⟩
  · exact .inl h
  · exact .inr ⟨a, c, e1, e2, e3, fun j hj => cell_below b (e4 j hj)⟩
theorem Sh.mono {w w1 : World} {T : Nat → Nat} {p : Nat} {wi : World} {g : Gr} (h : Sh w1 T p wi g) (b : Below w.heap.size w w1) : Sh w T p wi g :=
  ⟨b.trans (h.b.mono b.size), h.gm, fun k hk => Nat.le_trans b.size (h.n k hk)⟩
/-- Two grids that lie apart. -/
structure Two (w : World) (T T2 : Nat → Nat) (q q2 : Nat) (wi : World) (g g2 : Gr) : Prop where
  a : Sh w T q wi g
  b : Sh w T2 q2 wi g2
  d : ∀ k, T2 k ≠ 0 → T k = 0
theorem Two.below {w : World} {T T2 : Nat → Nat} {q q2 : Nat} {wi wj : World} {g g2 : Gr} (h : Two w T T2 q q2 wi g g2) (b : Below wi.heap.size wi wj) : Two w T T2 q q2 wj g g2 := ⟨h.a.below b, h.b.below b, h.d⟩
theorem Two.turn {w : World} {T T' T2 : Nat → Nat} {q q2 : Nat} {wi wj : World} {g g' g2 : Gr} (h : Two w T T2 q q2 wi g g2) (hw : Within (own T wi) wi wj) (hg : GM T' q wj g') (hn : ∀ k, T' k ≠ 0 → own T wi k) : Two w T' T2 q q2 wj g' g2 :=
  ⟨h.a.turn hw hg hn, ⟨(h.a.turn hw hg hn).b, h.b.gm.other hw h.d, h.b.n⟩, fun k hk => by
    by_cases h0 : T' k = 0
    · exact h0
    · rcases hn k h0 with e | e
      · exact absurd (h.d k hk) e
      · have := h.b.gm.lt k hk; omega⟩
theorem sh_setRow {w wk : World} {T : Nat → Nat} {q pk : Nat} {g : Gr} (cells : Array Value) (h : Sh w T q wk g) (hT : T pk = 0) (hp : w.heap.size ≤ pk) : Sh w T q (wk.setRow pk cells) g :=
  ⟨h.b.trans (below_of_gb (gb_setRow wk pk cells) h.b.size (fun k hk => by injection hk with hk; omega)),
   h.gm.other (Tp := fun k => if k = pk then 1 else 0) (Within.of_gb (gb_setRow wk pk cells) (fun k hk => by
      injection hk with hk
      subst hk
      exact .inl (by show (if _ then 1 else 0) ≠ 0; rw [if_pos rfl]; decide))) (fun k hk => by
      show (if _ then 1 else 0) = 0
      rw [if_neg (fun e => hk (by rw [e]; exact hT))]), h.n⟩
theorem sh_free {w wk : World} {T : Nat → Nat} {q : Nat} {g : Gr} (h : Sh w T q wk g) {k : Nat} (hk : wk.heap.size ≤ k) : T k = 0 := h.gm.own0 hk
theorem two_setRow {w wk : World} {T T2 : Nat → Nat} {q q2 pk : Nat} {g g2 : Gr} (cells : Array Value) (h : Two w T T2 q q2 wk g g2) (hT : T pk = 0) (hT2 : T2 pk = 0) (hp : w.heap.size ≤ pk) : Two w T T2 q q2 (wk.setRow pk cells) g g2 :=
  ⟨sh_setRow cells h.a hT hp, sh_setRow cells h.b hT2 hp, h.d⟩
end Go.Proofs.YtjclgoiclbkgjaaDoor
