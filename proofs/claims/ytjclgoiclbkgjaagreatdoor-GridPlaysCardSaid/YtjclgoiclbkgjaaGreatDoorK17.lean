import Derived.Test.YtjclgoiclbkgjaaGreatDoorK16
import Derived.Test.YtjclgoiclbkgjaaGreatDoorK7
/- Walks of the document's grid: Up, Down. -/
namespace Go.Proofs.YtjclgoiclbkgjaaGreatDoor
open Go.RowKit

/-- The rows laid anew make a grid. -/
theorem lay_build {T : Nat → Nat} {p : Nat} {vr vo : Value} {Lr Lo : List (Value × Rw)} {w3 wo wi w' : World} {g g' : Gr} (h : RAt T p vr vo Lr Lo w3 g) (hb1 : Below w3.heap.size w3 wo) {v vo' : Value} {L L4 Lo' : List (Value × Rw)} (hbr : Br wo v L L4 wi)
    (hL : ∀ x ∈ L, x ∈ Lr ∨ x ∈ L4) (hLo : ∀ x ∈ Lo', x ∈ Lo ∨ x ∈ Lr) (hw : Within (fun k => k = p ∨ vo.ownBlock = some k ∨ wi.heap.size ≤ k) wi w')
    (hk : w'.heap[p]? = some (.cells #[.int .i64 g'.cols, .int .i64 g'.limit, v, vo'] 65 (0, 0))) (ho : OwnC w' 0 2 vo' Lo'.length (rowVals Lo')) (hv : ∀ k, vo'.ownBlock = some k → vo.ownBlock = some k ∨ wi.heap.size ≤ k)
    (nd : (∀ x ∈ Lr ++ Lo, ∀ k, x.1.ownBlock = some k → k < w3.heap.size) → (∀ x ∈ L4, ∃ k, x.1.ownBlock = some k ∧ w3.heap.size ≤ k) → ((L ++ Lo').map (·.1.ownBlock)).Nodup) (er : L.map (·.2) = g'.rows) (eo : Lo'.map (·.2) = g'.old) (wf : g'.WF) :
    Within (own T w3) w3 w' ∧ ∃ T', RM T' p w' g' ∧ ∀ k, T' k ≠ 0 → own T w3 k := by
  have hs1 := hb1.size
  have hs2 := hbr.b.size
  have hs3 := hw.size
  have hlt := h.lt
  have hpl : p < w3.heap.size := hlt p (by rw [h.tp]; decide)
  have hvo : ∀ k, vo.ownBlock = some k → T k = 3 ∧ k < w3.heap.size := fun k hk => ⟨h.ro.tag k hk, hlt k (by rw [h.ro.tag k hk]; decide)⟩
  have hbi : Below w3.heap.size w3 wi := hb1.trans (hbr.b.mono hs1)
  have hold : ∀ x ∈ Lr ++ Lo, OwnC w' 0 5 x.1 x.2.cells.length (cvals x.2.cells) ∧ ∃ q, x.1.ownBlock = some q ∧ q < w3.heap.size ∧ T q = 10 + q := fun x hx => by
    obtain ⟨h1, q, h2, h3⟩ := h.ca x hx
    have hq := (ownC_lt h1 q h2).2
    refine ⟨ownC_blocks (ownC_below h1 hbi) hs3 (fun k hk => ?_), q, h2, hq, h3⟩
    rw [h2] at hk
    injection hk with hk
    subst hk
    refine hw.block _ (by omega) (fun e => ?_)
    rcases e with e | e | e
    · rw [e, h.tp] at h3; omega
    · have := (hvo _ e).1; omega
    · omega
  have hnew : ∀ x ∈ L4, OwnC w' 0 5 x.1 x.2.cells.length (cvals x.2.cells) ∧ ∃ q, x.1.ownBlock = some q ∧ w3.heap.size ≤ q ∧ q < wi.heap.size ∧ v.ownBlock ≠ some q := fun x hx => by
    obtain ⟨h1, q, h2, h3⟩ := hbr.fr x hx
    have hq := ownC_lt h1 q h2
    refine ⟨ownC_mono (ownC_blocks h1 hs3 (fun k hk => ?_)) (Nat.zero_le _), q, h2, by omega, hq.2, h3⟩
    rw [h2] at hk
    injection hk with hk
    subst hk
    refine hw.block _ (by omega) (fun e => ?_)
    rcases e with e | e | e
    · omega
    · have := (hvo _ e).2; omega
    · omega
  have hv2 : ∀ k, v.ownBlock = some k → wo.heap.size ≤ k ∧ k < wi.heap.size := fun k hk => ownC_lt hbr.own k hk
  refine ⟨(Within.of_below hbi).trans (hw.mono fun k hk => ?_), rat_build hlt h.tp (by omega) hk ?_ ho (fun k hk2 => ?_) (fun k hk2 => ?_) (fun x hx => ?_) (nd (fun x hx k hk2 => ?_) (fun x hx => ?_)) er eo wf⟩
  · rcases hk with e | e | e
    · exact .inl (by rw [e, h.tp]; decide)
    · exact .inl (by rw [(hvo k e).1]; decide)
    · exact .inr (by omega)
  · refine ownC_mono (ownC_blocks hbr.own hs3 (fun k hk2 => ?_)) (Nat.zero_le _)
    have := hv2 k hk2
    refine hw.block _ (by omega) (fun e => ?_)
    rcases e with e | e | e
    · omega
    · have := (hvo _ e).2; omega
    · omega
  · have := hv2 k hk2
    refine .inr ⟨by omega, fun e => ?_⟩
    rcases hv k e with e2 | e2
    · have := (hvo k e2).2; omega
    · omega
  · rcases hv k hk2 with e | e
    · exact .inl (hvo k e).1
    · exact .inr (by omega)
  · have hcase : x ∈ Lr ++ Lo ∨ x ∈ L4 := by
      rcases List.mem_append.1 hx with hx | hx
      · rcases hL x hx with e | e
        · exact .inl (List.mem_append_left _ e)
        · exact .inr e
      · rcases hLo x hx with e | e
        · exact .inl (List.mem_append_right _ e)
        · exact .inl (List.mem_append_left _ e)
    rcases hcase with hx | hx
    · obtain ⟨h1, q, h2, h3, h4⟩ := hold x hx
      exact ⟨h1, q, h2, .inl ⟨h3, h4⟩⟩
    · obtain ⟨h1, q, h2, h3, h4, h5⟩ := hnew x hx
      refine ⟨h1, q, h2, .inr ⟨h3, fun e => ?_, h5⟩⟩
      rcases hv q e with e2 | e2
      · have := (hvo q e2).2; omega
      · omega
  · exact (ownC_lt (h.ca x hx).own k hk2).2
  · obtain ⟨_, q, h2, h3, _⟩ := hnew x hx
    exact ⟨q, h2, h3⟩
theorem sub_mem {Lr L4 : List (Value × Rw)} {t a b c : Nat} : ∀ x ∈ Lr.take t ++ (Lr.drop a).take c ++ L4 ++ Lr.drop b, x ∈ Lr ∨ x ∈ L4 := fun x hx => by
  rcases List.mem_append.1 hx with hx | hx
  · rcases List.mem_append.1 hx with hx | hx
    · rcases List.mem_append.1 hx with hx | hx
      · exact .inl (List.mem_of_mem_take hx)
      · exact .inl (List.mem_of_mem_drop (List.mem_of_mem_take hx))
    · exact .inr hx
  · exact .inl (List.mem_of_mem_drop hx)
theorem sub_mem2 {Lr L4 : List (Value × Rw)} {t a b c : Nat} : ∀ x ∈ Lr.take t ++ L4 ++ (Lr.drop a).take c ++ Lr.drop b, x ∈ Lr ∨ x ∈ L4 := fun x hx => by
  rcases List.mem_append.1 hx with hx | hx
  · rcases List.mem_append.1 hx with hx | hx
    · rcases List.mem_append.1 hx with hx | hx
      · exact .inl (List.mem_of_mem_take hx)
      · exact .inr hx
    · exact .inl (List.mem_of_mem_drop (List.mem_of_mem_take hx))
  · exact .inl (List.mem_of_mem_drop hx)
theorem rowVals_sub {L M : List (Value × Rw)} (h : ∀ x ∈ M, x ∈ L) : ∀ u ∈ rowVals M, u ∈ rowVals L := fun u hu => by
  unfold rowVals at hu ⊢
  rw [List.mem_flatMap] at hu ⊢
  obtain ⟨x, hx, hu⟩ := hu
  exact ⟨x, h x hx, hu⟩
set_option maxRecDepth 100000 in
set_option maxHeartbeats 8000000 in
theorem upD_any {T : Nat → Nat} {p : Nat} {w : World} {g : Gr} (h : RM T p w g) (top bottom n : Int) (s : Sty) (keep : Bool) :
    Calls Tryz.prog 33 #[.pointer (some ⟨p, 0, none⟩), .int .i64 top, .int .i64 bottom, .int .i64 n, s.val, .bool keep] w fun e w' => e = .returned (.tuple #[]) ∧ Within (own T w) w w' ∧ ∃ T', RM T' p w' (g.up top bottom n s keep) ∧ ∀ k, T' k ≠ 0 → own T w k := by
  have hBz := Below.alloc (Below.refl w.heap.size w) (Nat.le_refl _) (.cells #[.int .i64 s.fg, .int .i64 s.bg, .int .i64 s.attr] 36)
  have HB := Lib.hid hBz
  have H := Lib.hid (h.below hBz)
  have HKS := Lib.hid (blk_new w (.cells #[.int .i64 s.fg, .int .i64 s.bg, .int .i64 s.attr] 36))
  clear h hBz
  go_enter Tryz.func33, Tryz.ntmps33
  unfold Sty.val
  go_upto_region 1 with fail
  generalize w.alloc (.cells #[.int .i64 s.fg, .int .i64 s.bg, .int .i64 s.attr] 36) = wa at *
  have s0 : wa.cell? ⟨w.heap.size, 0, none⟩ = some (.int .i64 s.fg) := blk_cell HKS.out 0
  have s1 : wa.cell? ⟨w.heap.size, 1, none⟩ = some (.int .i64 s.bg) := blk_cell HKS.out 1
  have s2 : wa.cell? ⟨w.heap.size, 2, none⟩ = some (.int .i64 s.attr) := blk_cell HKS.out 2
  go_wp2_with fail
  refine (regionD_any H.out top bottom n s).mono ?_
  rintro e w3 ⟨rfl, b3⟩
  have HB3 := Lib.hid (HB.out.trans (b3.mono HB.out.size))
  have H3 := Lib.hid (H.out.below b3)
  have HK3 := Lib.hid (blk_below HKS.out b3 (heap_lt HKS.out))
  clear b3 s0 s1 s2
  by_cases hR0 : regionN g top bottom n s = 0
  · have HE := Lib.hid (show g.up top bottom n s keep = g by unfold Gr.up; rw [if_pos hR0])
    rw [hR0]
    go_wp2_with fail
    refine ret0w rfl rfl ⟨rfl, Within.of_below HB3.out, T, ?_, fun k hk => .inl hk⟩
    rw [HE.out]
    exact H3.out
  obtain ⟨k1, k2, k3, hok, k5, k6⟩ := regionN_pos hR0
  have HEU := Lib.hid (show g.up top bottom n s keep = _ by unfold Gr.up; rw [if_neg hR0])
  generalize hRR : regionN g top bottom n s = R at *
  obtain ⟨t, rfl⟩ : ∃ t : Nat, top = (t : Int) := ⟨top.toNat, by omega⟩
  obtain ⟨b, rfl⟩ : ∃ b : Nat, bottom = (b : Int) := ⟨bottom.toNat, by omega⟩
  have hR1 : 1 ≤ R := by omega
  have hR2 : R ≤ b + 1 - t := by omega
  have htb : t ≤ b := by omega
  obtain ⟨vr, vo, Lr, Lo, hA0⟩ := H3.out
  have hwf := hA0.wf
  have hrl := hwf.r2
  have hcl := hwf.c2
  have hc1 := hwf.c1
  have hll := hwf.li
  have hol := hwf.ol
  have hlen := (rrows_len hA0).1
  have hleno := (rrows_len hA0).2
  have dR : ((R : Int) == 0) = false := beq_eq_false_iff_ne.2 (by omega)
  have hbl : b < Lr.length := by omega
  have hL120 : Lr.length ≤ 120 := by omega
  obtain ⟨rb, ro, rc, rfl, hnc, hcm⟩ := ownC_pos hA0.rr.own (by omega)
  have HA := Lib.hid hA0
  have hw1 : IntKind.i64.wrap ((t : Int) + (R : Int)) = (t : Int) + (R : Int) := wrap64_id _ (by omega) (by omega)
  have hw2 : IntKind.i64.wrap ((b : Int) + 1) = (b : Int) + 1 := wrap64_id _ (by omega) (by omega)
  have hw3 : IntKind.i64.wrap ((b : Int) + 1 - (R : Int)) = (b : Int) + 1 - (R : Int) := wrap64_id _ (by omega) (by omega)
  have HONE := Lib.hid (cats_one (fun x hx => hA0.ca x (List.mem_append_left _ hx)))
  have HRO := Lib.hid (show ∀ wx, Below w3.heap.size w3 wx → OwnC wx 0 2 (.slice (some ⟨rb, ro, none⟩) Lr.length rc) Lr.length (rowVals Lr) from fun wx hx => ownC_below HA.out.rr.own hx)
  have HC2 := Lib.hid (show ∀ wx, Below w3.heap.size w3 wx → wx.cell? ⟨p, 2, none⟩ = some (.slice (some ⟨rb, ro, none⟩) Lr.length rc) from fun wx hx => cell_below hx (rm_cells HA.out).2.2.1)
  have HC0 := Lib.hid (show ∀ wx, Below w3.heap.size w3 wx → wx.cell? ⟨p, 0, none⟩ = some (.int .i64 g.cols) from fun wx hx => cell_below hx (rm_cells HA.out).1)
  have HSTY := Lib.hid (show ∀ wx, Below w3.heap.size w3 wx → wx.cell? ⟨w.heap.size, 0, none⟩ = some (.int .i64 s.fg) ∧ wx.cell? ⟨w.heap.size, 1, none⟩ = some (.int .i64 s.bg) ∧ wx.cell? ⟨w.heap.size, 2, none⟩ = some (.int .i64 s.attr) from fun wx hx =>
    ⟨cell_below hx (blk_cell HK3.out 0), cell_below hx (blk_cell HK3.out 1), cell_below hx (blk_cell HK3.out 2)⟩)
  have HP3 := Lib.hid (show ∀ wx, Below w3.heap.size w3 wx → wx.heap[p]? = some (.cells #[.int .i64 g.cols, .int .i64 g.limit, .slice (some ⟨rb, ro, none⟩) Lr.length rc, vo] 65 (0, 0)) from fun wx hx => blk_below HA.out.blk hx (heap_lt HA.out.blk))
  have hpl : p < w3.heap.size := heap_lt hA0.blk
  clear hA0 hRR k1 k2 k6 hR0 hlen hleno
  have HBw3 := Lib.hid (Below.refl w3.heap.size w3)
  have HFA := Lib.hid (br_empty w3 w3 (Below.refl _ _))
  have HBWA := Lib.hid (HBw3.out.trans (HFA.out.b.mono HBw3.out.size))
  have x2 : (w3.alloc (.cells #[] 96)).cell? ⟨p, 2, none⟩ = some (.slice (some ⟨rb, ro, none⟩) Lr.length rc) := HC2.out _ HBWA.out
  obtain ⟨sa, hsl, hsa⟩ := slice_lh' (P := Tryz.prog) (size := 2) Tryz.underlying62 rowD_info rb ro Lr.length rc t (t + R) (by omega) (by omega)
  rw [show ((t + R : Nat) : Int) = (t : Int) + (R : Int) by omega, show t + R - t = R by omega] at hsl
  have hsy : ((Lr.drop t).take R).length = R := by simp only [List.length_take, List.length_drop]; omega
  have HRD := Lib.hid (show Reads (w3.alloc (.cells #[] 96)) 2 (.slice (some sa) R (rc - t)) (R) (rowVals ((Lr.drop t).take R)) by
    have := reads_sub (HRO.out _ HBWA.out) t (t + R) (rc - t) sa hsa (by omega) (by omega)
    rw [show t + R - t = R by omega, rowVals_drop, rowVals_take] at this
    exact this)
  have hcx : ([] : List (Value × Rw)).length = 0 := by rfl
  have hsb := HFA.out.b.size
  go_wp2_with (at_builtin; refine held ?_)
  unfold Held
  refine wpList_appD rowsD_elem rfl rfl w3.heap.size HFA.out.own rfl HRD.out rfl (fun u hu => HONE.out u (rowVals_sub (fun x hx => List.mem_of_mem_drop (List.mem_of_mem_take hx)) u hu)) (by rw [hcx]; unfold maxLen; omega) (by rw [hcx]; omega) hsb ?_
  intro v11 w11 o11 g11 n11
  have HF11 := Lib.hid (HFA.out.app (Below.refl _ _) o11 hsy g11 n11)
  have HBW11 := Lib.hid (HBw3.out.trans (HF11.out.b.mono HBw3.out.size))
  clear o11 g11 n11 x2 HRD hsl hsy hcx hsb
  have HBw11 := HBW11
  have HFB := Lib.hid (br_empty w11 w11 (Below.refl _ _))
  have HBWB := Lib.hid (HBw11.out.trans (HFB.out.b.mono HBw11.out.size))
  have x2 : (w11.alloc (.cells #[] 96)).cell? ⟨p, 2, none⟩ = some (.slice (some ⟨rb, ro, none⟩) Lr.length rc) := HC2.out _ HBWB.out
  have hsl := fun wx => slice_h (P := Tryz.prog) Tryz.underlying62 rowD_info (some ⟨rb, ro, none⟩) Lr.length rc t (by omega) wx
  have hsy : (Lr.take t).length = t := by simp only [List.length_take, List.length_drop]; omega
  have HRD := Lib.hid (show Reads (w11.alloc (.cells #[] 96)) 2 (.slice (some ⟨rb, ro, none⟩) t rc) (t) (rowVals (Lr.take t)) by
    have := ownC_reads (ownC_pre (HRO.out _ HBWB.out) t (by omega))
    rw [rowVals_take] at this
    exact this)
  have hcx : ([] : List (Value × Rw)).length = 0 := by rfl
  have hsb := HFB.out.b.size
  go_wp2_with (at_builtin; refine held ?_)
  unfold Held
  refine wpList_appD rowsD_elem rfl rfl w11.heap.size HFB.out.own rfl HRD.out rfl (fun u hu => HONE.out u (rowVals_sub (fun x hx => List.mem_of_mem_take hx) u hu)) (by rw [hcx]; unfold maxLen; omega) (by rw [hcx]; omega) hsb ?_
  intro v12 w12 o12 g12 n12
  have HF12 := Lib.hid (HFB.out.app (Below.refl _ _) o12 hsy g12 n12)
  have HBW12 := Lib.hid (HBw11.out.trans (HF12.out.b.mono HBw11.out.size))
  clear o12 g12 n12 x2 HRD hsl hsy hcx hsb
  have x2 : w12.cell? ⟨p, 2, none⟩ = some (.slice (some ⟨rb, ro, none⟩) Lr.length rc) := HC2.out _ HBW12.out
  obtain ⟨sa, hsl, hsa⟩ := slice_lh' (P := Tryz.prog) (size := 2) Tryz.underlying62 rowD_info rb ro Lr.length rc (t + R) (b + 1) (by omega) (by omega)
  rw [show ((t + R : Nat) : Int) = (t : Int) + (R : Int) by omega, show ((b + 1 : Nat) : Int) = (b : Int) + 1 by omega] at hsl
  have hsy : ((Lr.drop (t + R)).take ((b + 1) - (t + R))).length = (b + 1) - (t + R) := by simp only [List.length_take, List.length_drop]; omega
  have HRD := Lib.hid (show Reads w12 2 (.slice (some sa) ((b + 1) - (t + R)) (rc - (t + R))) ((b + 1) - (t + R)) (rowVals ((Lr.drop (t + R)).take ((b + 1) - (t + R)))) by
    have := reads_sub (HRO.out _ HBW12.out) (t + R) (b + 1) (rc - (t + R)) sa hsa (by omega) (by omega)
    rw [rowVals_drop, rowVals_take] at this
    exact this)
  have hcx : (([] ++ Lr.take t) : List (Value × Rw)).length = t := by simp only [List.length_nil, List.length_append, List.length_take, List.length_drop]; omega
  have hsb := HF12.out.b.size
  go_wp2_with (at_builtin; refine held ?_)
  unfold Held
  refine wpList_appD rowsD_elem rfl rfl w11.heap.size HF12.out.own rfl HRD.out rfl (fun u hu => HONE.out u (rowVals_sub (fun x hx => List.mem_of_mem_drop (List.mem_of_mem_take hx)) u hu)) (by rw [hcx]; unfold maxLen; omega) (by rw [hcx]; omega) hsb ?_
  intro v13 w13 o13 g13 n13
  have HF13 := Lib.hid (HF12.out.app (Below.refl _ _) o13 hsy g13 n13)
  have HBW13 := Lib.hid (HBw11.out.trans (HF13.out.b.mono HBw11.out.size))
  clear o13 g13 n13 x2 HRD hsl hsy hcx hsb
  have hcx : (([] ++ Lr.take t ++ (Lr.drop (t + R)).take (b + 1 - (t + R))) : List (Value × Rw)).length = b + 1 - R := by simp only [List.length_nil, List.length_append, List.length_take, List.length_drop]; omega
  have HBL := Lib.hid (rowsD_any R g.cols s w13.drew (by omega) hc1 (by omega))
  unfold Sty.val at HBL
  have HCS := Lib.hid (show ∀ wx, Below w3.heap.size w3 wx → wx.cell? ⟨p, 0, none⟩ = some (.int .i64 g.cols) ∧ wx.cell? ⟨w.heap.size, 0, none⟩ = some (.int .i64 s.fg) ∧ wx.cell? ⟨w.heap.size, 1, none⟩ = some (.int .i64 s.bg) ∧ wx.cell? ⟨w.heap.size, 2, none⟩ = some (.int .i64 s.attr) from fun wx hx => ⟨HC0.out wx hx, HSTY.out wx hx⟩)
  have hx0 := HCS.out _ HBW13.out.drew
  go_upto_region 6 with fail
  refine wpL_begin (c := 9) (S := (fun bb w' => True ∧ (bb = false → w'.cell? ⟨p, 0, none⟩ = some (.int .i64 g.cols) ∧ w'.cell? ⟨w.heap.size, 0, none⟩ = some (.int .i64 s.fg) ∧ w'.cell? ⟨w.heap.size, 1, none⟩ = some (.int .i64 s.bg) ∧ w'.cell? ⟨w.heap.size, 2, none⟩ = some (.int .i64 s.attr)))) (by kernel_rfl) (⟨trivial, fun _ => hx0⟩) (fun _ => ?_)
  refine wpL_tk false 0 (⟨trivial, fun _ => hx0⟩) ?_
  refine wpL_tk false 1 (⟨trivial, fun _ => hx0⟩) ?_
  refine wpL_tk false 2 (⟨trivial, fun _ => hx0⟩) ?_
  refine wpL_tk false 3 (⟨trivial, fun _ => hx0⟩) ?_
  refine wpL_tk false 4 (⟨trivial, fun _ => hx0⟩) ?_
  refine wpL_td 5 (⟨trivial, fun _ => hx0⟩) ?_
  refine wpL_td 6 (⟨trivial, fun _ => hx0⟩) ?_
  refine wpL_on false 7 fun K hK => ?_
  refine wanted_on rfl ?_
  go_wp2_with fail
  refine HBL.out.mono ?_
  rintro e wb ⟨vb, L4, rfl, bb, e4, r4⟩
  have hl4 : L4.length = R := by
    have h1 := congrArg List.length e4
    unfold freshL at h1
    rw [List.length_map, List.length_replicate] at h1
    exact h1
  have HE4 := Lib.hid e4
  have HBB := Lib.hid (show Below w13.heap.size w13 wb from (Below.refl w13.heap.size w13).drew.trans bb)
  have HR4 := Lib.hid (show RowsAt w13.heap.size wb vb L4 from r4)
  have hsb := Nat.le_trans HF13.out.b.size HBB.out.size
  have hx1 := HCS.out _ (HBW13.out.trans (HBB.out.mono HBW13.out.size))
  refine hK.out _ _ (⟨trivial, fun _ => hx1⟩) (fun _ => ?_)
  clear hK K bb e4 r4
  try simp only [Act.put, List.setIfInBounds_toArray, List.set_cons_zero, List.set_cons_succ]
  refine wpL_on false 8 fun K hK => ?_
  apply step_appS rowsD_elem
  case hgd => rfl
  case ho => rfl
  case hown => exact ownC_below HF13.out.own HBB.out
  case hs => rfl
  case hr => exact src_reads Tryz.underlying62 (ownC_reads HR4.out.own) (rowsAt_one HR4.out)
  case hx => rfl
  case h63 => (rw [hcx, hl4]; unfold maxLen; omega)
  case hbytes => (rw [hcx, hl4]; omega)
  case hbase => exact hsb
  intro v14 w14 o14 g14 n14
  have HF14 := Lib.hid (HF13.out.fresh HBB.out HR4.out o14 rfl g14 n14)
  have HBW14 := Lib.hid (HBw11.out.trans (HF14.out.b.mono HBw11.out.size))
  have hx2 := HCS.out _ HBW14.out
  refine hK.out _ _ (⟨trivial, fun _ => hx2⟩) (fun _ => ?_)
  clear hK K o14 g14 n14
  try simp only [Act.put, List.setIfInBounds_toArray, List.set_cons_zero, List.set_cons_succ]
  refine wpL_on true 9 fun K hK => ?_
  refine wanted_on rfl ?_
  go_wp2_with fail
  refine hK.out _ _ (⟨trivial, fun e => by cases e⟩) (fun _ => ?_)
  clear hK K 
  try simp only [Act.put, List.setIfInBounds_toArray, List.set_cons_zero, List.set_cons_succ]
  refine wpL_done (by kernel_rfl) ?_ _
  clear HBB HR4 hcx hsb HBL hx0 hx1 hx2
  have x2 : w14.cell? ⟨p, 2, none⟩ = some (.slice (some ⟨rb, ro, none⟩) Lr.length rc) := HC2.out _ HBW14.out
  obtain ⟨sa, hsl, hsa⟩ := slice_l' (P := Tryz.prog) (size := 2) Tryz.underlying62 rowD_info rb ro Lr.length rc (b + 1) (by omega) hnc
  rw [show ((b + 1 : Nat) : Int) = (b : Int) + 1 by omega] at hsl
  have hsy : ((Lr.drop (b + 1)).take (Lr.length - (b + 1))).length = Lr.length - (b + 1) := by simp only [List.length_take, List.length_drop]; omega
  have HRD := Lib.hid (show Reads w14 2 (.slice (some sa) (Lr.length - (b + 1)) (rc - (b + 1))) (Lr.length - (b + 1)) (rowVals ((Lr.drop (b + 1)).take (Lr.length - (b + 1)))) by
    have := reads_sub (HRO.out _ HBW14.out) (b + 1) Lr.length (rc - (b + 1)) sa hsa (by omega) (by omega)
    rw [rowVals_drop, rowVals_take] at this
    exact this)
  have hcx : (([] ++ Lr.take t ++ (Lr.drop (t + R)).take (b + 1 - (t + R)) ++ L4) : List (Value × Rw)).length = b + 1 := by simp only [List.length_nil, List.length_append, List.length_take, List.length_drop, hl4]; omega
  have hsb := HF14.out.b.size
  go_wp2_with (at_builtin; refine held ?_)
  unfold Held
  refine wpList_appD rowsD_elem rfl rfl w11.heap.size HF14.out.own rfl HRD.out rfl (fun u hu => HONE.out u (rowVals_sub (fun x hx => List.mem_of_mem_drop (List.mem_of_mem_take hx)) u hu)) (by rw [hcx]; unfold maxLen; omega) (by rw [hcx]; omega) hsb ?_
  intro v15 w15 o15 g15 n15
  have HF15 := Lib.hid (HF14.out.app (Below.refl _ _) o15 hsy g15 n15)
  have HBW15 := Lib.hid (HBw11.out.trans (HF15.out.b.mono HBw11.out.size))
  clear o15 g15 n15 x2 HRD hsl hsy hcx hsb
  have HF := Lib.hid (show Br w11 v15 (Lr.take t ++ (Lr.drop (t + R)).take (b + 1 - t - R) ++ L4 ++ Lr.drop (b + 1)) L4 w15 by
    have := HF15.out
    rw [List.nil_append, show b + 1 - (t + R) = b + 1 - t - R by omega, show (Lr.drop (b + 1)).take (Lr.length - (b + 1)) = Lr.drop (b + 1) from List.take_of_length_le (by rw [List.length_drop]; exact Nat.le_refl _)] at this
    exact this)
  have HOFF := Lib.hid (show OwnC w15 w3.heap.size 2 v11 R (rowVals ((Lr.drop t).take R)) by
    have := ownC_below HF11.out.own HF.out.b
    rw [List.nil_append, List.length_take, List.length_drop, show min R (Lr.length - t) = R by omega] at this
    exact this)
  have HBi := Lib.hid HBW15.out
  clear HFA HFB HF12 HF13 HF14 HF15 HBW12 HBW13 HBW14 HBWA HBWB
  generalize hLL : Lr.take t ++ (Lr.drop (t + R)).take (b + 1 - t - R) ++ L4 ++ Lr.drop (b + 1) = LL at *
  have hLLn : LL.length = Lr.length := by
    rw [← hLL]
    simp only [List.length_nil, List.length_append, List.length_take, List.length_drop, hl4]
    omega
  obtain ⟨va, vc, rfl⟩ := ownC_sl HF.out.own
  rw [hLLn] at HF
  have x2 : w15.cell? ⟨p, 2, none⟩ = some (.slice (some ⟨rb, ro, none⟩) Lr.length rc) := HC2.out _ HBi.out
  have z2 : w15.frozen? ⟨p, 2, none⟩ = false := blk_free (HP3.out _ HBi.out) 2
  have g8 : w15.grownBy (w15.setCell ⟨p, 2, none⟩ (.slice va Lr.length vc)) (some p) := gb_set (gb_refl _ _) _ _
  have HK8 := Lib.hid (show (w15.setCell ⟨p, 2, none⟩ (.slice va Lr.length vc)).heap[p]? = some (.cells #[.int .i64 g.cols, .int .i64 g.limit, .slice va Lr.length vc, vo] 65 (0, 0)) from blk_set (HP3.out _ HBi.out) 2 _)
  have hs8 : (w15.setCell ⟨p, 2, none⟩ (.slice va Lr.length vc)).heap.size = w15.heap.size := by simp
  have HW8 := Lib.hid (show Within (fun k => k = p ∨ vo.ownBlock = some k ∨ w15.heap.size ≤ k) w15 (w15.setCell ⟨p, 2, none⟩ (.slice va Lr.length vc)) from Within.of_gb g8 (fun k hk => .inl (by injection hk with hk; exact hk.symm)))
  have hnep : vo.ownBlock ≠ some p := fun e => by have h1 := HA.out.ro.tag p e; have h2 := HA.out.tp; omega
  have HO8 := Lib.hid (show OwnC (w15.setCell ⟨p, 2, none⟩ (.slice va Lr.length vc)) 0 2 vo Lo.length (rowVals Lo) from ownC_grown (ownC_below HA.out.ro.own HBi.out) g8 (fun k hk e => hnep (by rw [hk]; exact e.symm)))
  have HOF8 := Lib.hid (show OwnC (w15.setCell ⟨p, 2, none⟩ (.slice va Lr.length vc)) 0 2 v11 R (rowVals ((Lr.drop t).take R)) from ownC_mono (ownC_grown HOFF.out g8 (fun k hk e => by have := (ownC_lt HOFF.out k hk).1; injection e with e; omega)) (Nat.zero_le _))
  go_upto_region 9 with fail
  clear x2 z2 g8 HOFF
  generalize w15.setCell ⟨p, 2, none⟩ (.slice va Lr.length vc) = w8 at *
  have HLLm := Lib.hid (show ∀ x ∈ LL, x ∈ Lr ∨ x ∈ L4 by rw [← hLL]; exact sub_mem)
  have HER := Lib.hid (show LL.map (·.2) = upRows g.rows t b R g.cols s by
    rw [← hLL]
    unfold upRows
    rw [List.map_append, List.map_append, List.map_append, List.map_take, List.map_take, List.map_drop, List.map_drop, HA.out.er, HE4.out])
  have HND := Lib.hid (fun (Lo' : List (Value × Rw)) (hsub : Lo'.Sublist (Lo ++ (Lr.drop t).take R)) (h1 : ∀ x ∈ Lr ++ Lo, ∀ k, x.1.ownBlock = some k → k < w3.heap.size) (h2 : ∀ x ∈ L4, ∃ k, x.1.ownBlock = some k ∧ w3.heap.size ≤ k) =>
    (show ((LL ++ Lo').map (·.1.ownBlock)).Nodup by rw [← hLL]; exact up_nodup Lr Lo L4 Lo' t b R w3.heap.size htb hbl hR2 HA.out.nd h1 HF.out.nd h2 hsub))
  have HWU := Lib.hid (up_wf hwf t b R s keep htb (by have := (rrows_len HA.out).1; omega) hR2)
  have hEold : (if keep = true ∧ (t : Int) = 0 then keepL g.limit (g.old ++ (g.rows.drop t).take R) else g.old) = (if keep = true ∧ t = 0 then keepL g.limit (g.old ++ (g.rows.drop t).take R) else g.old) := by
    by_cases ht : t = 0
    · subst ht; simp
    · rw [if_neg (by rintro ⟨_, h⟩; omega), if_neg (fun h => ht h.2)]
  have HEU2 := Lib.hid (show g.up t b n s keep = ⟨g.cols, g.limit, upRows g.rows t b R g.cols s, if keep = true ∧ t = 0 then keepL g.limit (g.old ++ (g.rows.drop t).take R) else g.old⟩ by
    rw [HEU.out, Int.toNat_natCast, Int.toNat_natCast, hEold])
  have HOUT := Lib.hid (show ∀ w', (Within (own T w3) w3 w' ∧ ∃ T', RM T' p w' (g.up t b n s keep) ∧ ∀ k, T' k ≠ 0 → own T w3 k) → Within (own T w) w w' ∧ ∃ T', RM T' p w' (g.up t b n s keep) ∧ ∀ k, T' k ≠ 0 → own T w k from fun w' ⟨h1, T', h2, h3⟩ =>
    ⟨(Within.of_below HB3.out).trans (h1.mono fun k hk => by
      rcases hk with e | e
      · exact .inl e
      · exact .inr (by have := HB3.out.size; omega)), T', h2, fun k hk => by
      rcases h3 k hk with e | e
      · exact .inl e
      · exact .inr (by have := HB3.out.size; omega)⟩)
  clear hEold HEU hLL hwf
  by_cases hk0 : keep = true ∧ t = 0
  · obtain ⟨rfl, rfl⟩ := hk0
    have hl0 : ((Lr.drop 0).take R).length = R := by rw [List.length_take, List.length_drop]; omega
    have hmapo : (keptL g.limit (Lo ++ (Lr.drop 0).take R)).map (·.2) = keepL g.limit (g.old ++ (g.rows.drop 0).take R) := by
      have h1 := HA.out.eo
      have h2 := HA.out.er
      unfold keptL keepL
      rw [List.map_drop, List.map_append, List.map_take, List.map_drop, h1, h2]
      congr 1
      rw [List.length_append, List.length_append, List.length_take, List.length_take, List.length_drop, List.length_drop, ← h1, ← h2, List.length_map, List.length_map]
    have HMO := Lib.hid hmapo
    have hlo2 : Lo.length ≤ 1000000 := by have := (rrows_len HA.out).2; omega
    have HKE := Lib.hid (keepD_any p g.cols g.limit (.slice va Lr.length vc) vo v11 Lo ((Lr.drop 0).take R) w8 HK8.out HO8.out hnep (by rw [hl0]; exact ownC_reads HOF8.out) (cats_one (fun x hx => HA.out.ca x (List.mem_append_right _ hx))) (fun u hu => HONE.out u (rowVals_sub (fun x hx => List.mem_of_mem_drop (List.mem_of_mem_take hx)) u hu)) hlo2 (by rw [hl0]; omega) (by omega))
    clear hmapo
    go_wp2_with fail
    refine HKE.out.mono ?_
    rintro e w9 ⟨rfl, hw9, vo9, hk9, ho9, hv9⟩
    have hfin := HOUT.out w9 (by
      have hwf2 := HWU.out
      rw [HEU2.out]
      rw [if_pos (by simp)] at hwf2 ⊢
      refine lay_build HA.out HBW11.out HF.out HLLm.out (fun x hx => ?_) (HW8.out.trans (hw9.mono fun k hk => ?_)) hk9 ho9 (fun k hk => ?_) (HND.out _ (List.drop_sublist _ _)) HER.out HMO.out hwf2
      · rcases List.mem_append.1 (List.mem_of_mem_drop hx) with e | e
        · exact .inl e
        · exact .inr (List.mem_of_mem_drop (List.mem_of_mem_take e))
      · rcases hk with e | e | e
        · exact .inl e
        · exact .inr (.inl e)
        · exact .inr (.inr (by omega))
      · rcases hv9 k hk with e | e
        · exact .inl e
        · exact .inr (by omega))
    have HFI := Lib.hid hfin
    clear hfin hw9 hk9 ho9 hv9
    go_wp2_with fail
    go_end0
    exact ⟨rfl, HFI.out⟩
  · have hfin := HOUT.out w8 (by
      have hwf2 := HWU.out
      rw [HEU2.out]
      rw [if_neg hk0] at hwf2 ⊢
      exact lay_build HA.out HBW11.out HF.out HLLm.out (fun x hx => .inl hx) HW8.out HK8.out HO8.out (fun k hk => .inl hk) (HND.out _ (List.sublist_append_left _ _)) HER.out HA.out.eo hwf2)
    have HD := Lib.hid hfin
    clear hfin
    cases keep
    · go_wp2_with fail
      go_end0
      exact ⟨rfl, HD.out⟩
    · have ht0 : ¬ t = 0 := fun e => hk0 ⟨rfl, e⟩
      have dt : ((t : Int) == 0) = false := beq_eq_false_iff_ne.2 (by omega)
      have dt' : (t == 0) = false := beq_eq_false_iff_ne.2 ht0
      clear hk0
      go_wp2_with fail
      go_end0
      exact ⟨rfl, HD.out⟩
set_option maxRecDepth 100000 in
set_option maxHeartbeats 8000000 in
theorem downD_any {T : Nat → Nat} {p : Nat} {w : World} {g : Gr} (h : RM T p w g) (top bottom n : Int) (s : Sty) :
    Calls Tryz.prog 35 #[.pointer (some ⟨p, 0, none⟩), .int .i64 top, .int .i64 bottom, .int .i64 n, s.val] w fun e w' => e = .returned (.tuple #[]) ∧ Within (own T w) w w' ∧ ∃ T', RM T' p w' (g.down top bottom n s) ∧ ∀ k, T' k ≠ 0 → own T w k := by
  have hBz := Below.alloc (Below.refl w.heap.size w) (Nat.le_refl _) (.cells #[.int .i64 s.fg, .int .i64 s.bg, .int .i64 s.attr] 36)
  have HB := Lib.hid hBz
  have H := Lib.hid (h.below hBz)
  have HKS := Lib.hid (blk_new w (.cells #[.int .i64 s.fg, .int .i64 s.bg, .int .i64 s.attr] 36))
  clear h hBz
  go_enter Tryz.func35, Tryz.ntmps35
  unfold Sty.val
  go_upto_region 1 with fail
  generalize w.alloc (.cells #[.int .i64 s.fg, .int .i64 s.bg, .int .i64 s.attr] 36) = wa at *
  have s0 : wa.cell? ⟨w.heap.size, 0, none⟩ = some (.int .i64 s.fg) := blk_cell HKS.out 0
  have s1 : wa.cell? ⟨w.heap.size, 1, none⟩ = some (.int .i64 s.bg) := blk_cell HKS.out 1
  have s2 : wa.cell? ⟨w.heap.size, 2, none⟩ = some (.int .i64 s.attr) := blk_cell HKS.out 2
  go_wp2_with fail
  refine (regionD_any H.out top bottom n s).mono ?_
  rintro e w3 ⟨rfl, b3⟩
  have HB3 := Lib.hid (HB.out.trans (b3.mono HB.out.size))
  have H3 := Lib.hid (H.out.below b3)
  have HK3 := Lib.hid (blk_below HKS.out b3 (heap_lt HKS.out))
  clear b3 s0 s1 s2
  by_cases hR0 : regionN g top bottom n s = 0
  · have HE := Lib.hid (show g.down top bottom n s = g by unfold Gr.down; rw [if_pos hR0])
    rw [hR0]
    go_wp2_with fail
    refine ret0w rfl rfl ⟨rfl, Within.of_below HB3.out, T, ?_, fun k hk => .inl hk⟩
    rw [HE.out]
    exact H3.out
  obtain ⟨k1, k2, k3, hok, k5, k6⟩ := regionN_pos hR0
  have HEU := Lib.hid (show g.down top bottom n s = _ by unfold Gr.down; rw [if_neg hR0])
  generalize hRR : regionN g top bottom n s = R at *
  obtain ⟨t, rfl⟩ : ∃ t : Nat, top = (t : Int) := ⟨top.toNat, by omega⟩
  obtain ⟨b, rfl⟩ : ∃ b : Nat, bottom = (b : Int) := ⟨bottom.toNat, by omega⟩
  have hR1 : 1 ≤ R := by omega
  have hR2 : R ≤ b + 1 - t := by omega
  have htb : t ≤ b := by omega
  obtain ⟨vr, vo, Lr, Lo, hA0⟩ := H3.out
  have hwf := hA0.wf
  have hrl := hwf.r2
  have hcl := hwf.c2
  have hc1 := hwf.c1
  have hll := hwf.li
  have hol := hwf.ol
  have hlen := (rrows_len hA0).1
  have hleno := (rrows_len hA0).2
  have dR : ((R : Int) == 0) = false := beq_eq_false_iff_ne.2 (by omega)
  have hbl : b < Lr.length := by omega
  have hL120 : Lr.length ≤ 120 := by omega
  obtain ⟨rb, ro, rc, rfl, hnc, hcm⟩ := ownC_pos hA0.rr.own (by omega)
  have HA := Lib.hid hA0
  have hw1 : IntKind.i64.wrap ((t : Int) + (R : Int)) = (t : Int) + (R : Int) := wrap64_id _ (by omega) (by omega)
  have hw2 : IntKind.i64.wrap ((b : Int) + 1) = (b : Int) + 1 := wrap64_id _ (by omega) (by omega)
  have hw3 : IntKind.i64.wrap ((b : Int) + 1 - (R : Int)) = (b : Int) + 1 - (R : Int) := wrap64_id _ (by omega) (by omega)
  have HONE := Lib.hid (cats_one (fun x hx => hA0.ca x (List.mem_append_left _ hx)))
  have HRO := Lib.hid (show ∀ wx, Below w3.heap.size w3 wx → OwnC wx 0 2 (.slice (some ⟨rb, ro, none⟩) Lr.length rc) Lr.length (rowVals Lr) from fun wx hx => ownC_below HA.out.rr.own hx)
  have HC2 := Lib.hid (show ∀ wx, Below w3.heap.size w3 wx → wx.cell? ⟨p, 2, none⟩ = some (.slice (some ⟨rb, ro, none⟩) Lr.length rc) from fun wx hx => cell_below hx (rm_cells HA.out).2.2.1)
  have HC0 := Lib.hid (show ∀ wx, Below w3.heap.size w3 wx → wx.cell? ⟨p, 0, none⟩ = some (.int .i64 g.cols) from fun wx hx => cell_below hx (rm_cells HA.out).1)
  have HSTY := Lib.hid (show ∀ wx, Below w3.heap.size w3 wx → wx.cell? ⟨w.heap.size, 0, none⟩ = some (.int .i64 s.fg) ∧ wx.cell? ⟨w.heap.size, 1, none⟩ = some (.int .i64 s.bg) ∧ wx.cell? ⟨w.heap.size, 2, none⟩ = some (.int .i64 s.attr) from fun wx hx =>
    ⟨cell_below hx (blk_cell HK3.out 0), cell_below hx (blk_cell HK3.out 1), cell_below hx (blk_cell HK3.out 2)⟩)
  have HP3 := Lib.hid (show ∀ wx, Below w3.heap.size w3 wx → wx.heap[p]? = some (.cells #[.int .i64 g.cols, .int .i64 g.limit, .slice (some ⟨rb, ro, none⟩) Lr.length rc, vo] 65 (0, 0)) from fun wx hx => blk_below HA.out.blk hx (heap_lt HA.out.blk))
  have hpl : p < w3.heap.size := heap_lt hA0.blk
  clear hA0 hRR k1 k2 k6 hR0 hlen hleno
  have HBw3 := Lib.hid (Below.refl w3.heap.size w3)
  have HBW11 := HBw3
  have HFB := Lib.hid (br_empty w3 w3 (Below.refl _ _))
  have HBWB := Lib.hid (HBw3.out.trans (HFB.out.b.mono HBw3.out.size))
  have x2 : (w3.alloc (.cells #[] 96)).cell? ⟨p, 2, none⟩ = some (.slice (some ⟨rb, ro, none⟩) Lr.length rc) := HC2.out _ HBWB.out
  have hsl := fun wx => slice_h (P := Tryz.prog) Tryz.underlying62 rowD_info (some ⟨rb, ro, none⟩) Lr.length rc t (by omega) wx
  have hsy : (Lr.take t).length = t := by simp only [List.length_take, List.length_drop]; omega
  have HRD := Lib.hid (show Reads (w3.alloc (.cells #[] 96)) 2 (.slice (some ⟨rb, ro, none⟩) t rc) (t) (rowVals (Lr.take t)) by
    have := ownC_reads (ownC_pre (HRO.out _ HBWB.out) t (by omega))
    rw [rowVals_take] at this
    exact this)
  have hcx : ([] : List (Value × Rw)).length = 0 := by rfl
  have hsb := HFB.out.b.size
  go_wp2_with (at_builtin; refine held ?_)
  unfold Held
  refine wpList_appD rowsD_elem rfl rfl w3.heap.size HFB.out.own rfl HRD.out rfl (fun u hu => HONE.out u (rowVals_sub (fun x hx => List.mem_of_mem_take hx) u hu)) (by rw [hcx]; unfold maxLen; omega) (by rw [hcx]; omega) hsb ?_
  intro v12 w12 o12 g12 n12
  have HF12 := Lib.hid (HFB.out.app (Below.refl _ _) o12 hsy g12 n12)
  have HBW12 := Lib.hid (HBw3.out.trans (HF12.out.b.mono HBw3.out.size))
  clear o12 g12 n12 x2 HRD hsl hsy hcx hsb
  have hcx : (([] ++ Lr.take t) : List (Value × Rw)).length = t := by simp only [List.length_nil, List.length_append, List.length_take, List.length_drop]; omega
  have HBL := Lib.hid (rowsD_any R g.cols s w12.drew (by omega) hc1 (by omega))
  unfold Sty.val at HBL
  have HCS := Lib.hid (show ∀ wx, Below w3.heap.size w3 wx → wx.cell? ⟨p, 0, none⟩ = some (.int .i64 g.cols) ∧ wx.cell? ⟨w.heap.size, 0, none⟩ = some (.int .i64 s.fg) ∧ wx.cell? ⟨w.heap.size, 1, none⟩ = some (.int .i64 s.bg) ∧ wx.cell? ⟨w.heap.size, 2, none⟩ = some (.int .i64 s.attr) from fun wx hx => ⟨HC0.out wx hx, HSTY.out wx hx⟩)
  have hx0 := HCS.out _ HBW12.out.drew
  go_upto_region 4 with fail
  refine wpL_begin (c := 9) (S := (fun bb w' => True ∧ (bb = false → w'.cell? ⟨p, 0, none⟩ = some (.int .i64 g.cols) ∧ w'.cell? ⟨w.heap.size, 0, none⟩ = some (.int .i64 s.fg) ∧ w'.cell? ⟨w.heap.size, 1, none⟩ = some (.int .i64 s.bg) ∧ w'.cell? ⟨w.heap.size, 2, none⟩ = some (.int .i64 s.attr)))) (by kernel_rfl) (⟨trivial, fun _ => hx0⟩) (fun _ => ?_)
  refine wpL_tk false 0 (⟨trivial, fun _ => hx0⟩) ?_
  refine wpL_tk false 1 (⟨trivial, fun _ => hx0⟩) ?_
  refine wpL_tk false 2 (⟨trivial, fun _ => hx0⟩) ?_
  refine wpL_tk false 3 (⟨trivial, fun _ => hx0⟩) ?_
  refine wpL_tk false 4 (⟨trivial, fun _ => hx0⟩) ?_
  refine wpL_td 5 (⟨trivial, fun _ => hx0⟩) ?_
  refine wpL_td 6 (⟨trivial, fun _ => hx0⟩) ?_
  refine wpL_on false 7 fun K hK => ?_
  refine wanted_on rfl ?_
  go_wp2_with fail
  refine HBL.out.mono ?_
  rintro e wb ⟨vb, L4, rfl, bb, e4, r4⟩
  have hl4 : L4.length = R := by
    have h1 := congrArg List.length e4
    unfold freshL at h1
    rw [List.length_map, List.length_replicate] at h1
    exact h1
  have HE4 := Lib.hid e4
  have HBB := Lib.hid (show Below w12.heap.size w12 wb from (Below.refl w12.heap.size w12).drew.trans bb)
  have HR4 := Lib.hid (show RowsAt w12.heap.size wb vb L4 from r4)
  have hsb := Nat.le_trans HF12.out.b.size HBB.out.size
  have hx1 := HCS.out _ (HBW12.out.trans (HBB.out.mono HBW12.out.size))
  refine hK.out _ _ (⟨trivial, fun _ => hx1⟩) (fun _ => ?_)
  clear hK K bb e4 r4
  try simp only [Act.put, List.setIfInBounds_toArray, List.set_cons_zero, List.set_cons_succ]
  refine wpL_on false 8 fun K hK => ?_
  apply step_appS rowsD_elem
  case hgd => rfl
  case ho => rfl
  case hown => exact ownC_below HF12.out.own HBB.out
  case hs => rfl
  case hr => exact src_reads Tryz.underlying62 (ownC_reads HR4.out.own) (rowsAt_one HR4.out)
  case hx => rfl
  case h63 => (rw [hcx, hl4]; unfold maxLen; omega)
  case hbytes => (rw [hcx, hl4]; omega)
  case hbase => exact hsb
  intro v13 w13 o13 g13 n13
  have HF13 := Lib.hid (HF12.out.fresh HBB.out HR4.out o13 rfl g13 n13)
  have HBW13 := Lib.hid (HBw3.out.trans (HF13.out.b.mono HBw3.out.size))
  have hx2 := HCS.out _ HBW13.out
  refine hK.out _ _ (⟨trivial, fun _ => hx2⟩) (fun _ => ?_)
  clear hK K o13 g13 n13
  try simp only [Act.put, List.setIfInBounds_toArray, List.set_cons_zero, List.set_cons_succ]
  refine wpL_on true 9 fun K hK => ?_
  refine wanted_on rfl ?_
  go_wp2_with fail
  refine hK.out _ _ (⟨trivial, fun e => by cases e⟩) (fun _ => ?_)
  clear hK K 
  try simp only [Act.put, List.setIfInBounds_toArray, List.set_cons_zero, List.set_cons_succ]
  refine wpL_done (by kernel_rfl) ?_ _
  clear HBB HR4 hcx hsb HBL hx0 hx1 hx2
  have x2 : w13.cell? ⟨p, 2, none⟩ = some (.slice (some ⟨rb, ro, none⟩) Lr.length rc) := HC2.out _ HBW13.out
  obtain ⟨sa, hsl, hsa⟩ := slice_lh' (P := Tryz.prog) (size := 2) Tryz.underlying62 rowD_info rb ro Lr.length rc t (b + 1 - R) (by omega) (by omega)
  rw [show ((b + 1 - R : Nat) : Int) = (b : Int) + 1 - (R : Int) by omega] at hsl
  have hsy : ((Lr.drop t).take ((b + 1 - R) - t)).length = (b + 1 - R) - t := by simp only [List.length_take, List.length_drop]; omega
  have HRD := Lib.hid (show Reads w13 2 (.slice (some sa) ((b + 1 - R) - t) (rc - t)) ((b + 1 - R) - t) (rowVals ((Lr.drop t).take ((b + 1 - R) - t))) by
    have := reads_sub (HRO.out _ HBW13.out) t (b + 1 - R) (rc - t) sa hsa (by omega) (by omega)
    rw [rowVals_drop, rowVals_take] at this
    exact this)
  have hcx : (([] ++ Lr.take t ++ L4) : List (Value × Rw)).length = t + R := by simp only [List.length_nil, List.length_append, List.length_take, List.length_drop, hl4]; omega
  have hsb := HF13.out.b.size
  go_wp2_with (at_builtin; refine held ?_)
  unfold Held
  refine wpList_appD rowsD_elem rfl rfl w3.heap.size HF13.out.own rfl HRD.out rfl (fun u hu => HONE.out u (rowVals_sub (fun x hx => List.mem_of_mem_drop (List.mem_of_mem_take hx)) u hu)) (by rw [hcx]; unfold maxLen; omega) (by rw [hcx]; omega) hsb ?_
  intro v14 w14 o14 g14 n14
  have HF14 := Lib.hid (HF13.out.app (Below.refl _ _) o14 hsy g14 n14)
  have HBW14 := Lib.hid (HBw3.out.trans (HF14.out.b.mono HBw3.out.size))
  clear o14 g14 n14 x2 HRD hsl hsy hcx hsb
  have x2 : w14.cell? ⟨p, 2, none⟩ = some (.slice (some ⟨rb, ro, none⟩) Lr.length rc) := HC2.out _ HBW14.out
  obtain ⟨sa, hsl, hsa⟩ := slice_l' (P := Tryz.prog) (size := 2) Tryz.underlying62 rowD_info rb ro Lr.length rc (b + 1) (by omega) hnc
  rw [show ((b + 1 : Nat) : Int) = (b : Int) + 1 by omega] at hsl
  have hsy : ((Lr.drop (b + 1)).take (Lr.length - (b + 1))).length = Lr.length - (b + 1) := by simp only [List.length_take, List.length_drop]; omega
  have HRD := Lib.hid (show Reads w14 2 (.slice (some sa) (Lr.length - (b + 1)) (rc - (b + 1))) (Lr.length - (b + 1)) (rowVals ((Lr.drop (b + 1)).take (Lr.length - (b + 1)))) by
    have := reads_sub (HRO.out _ HBW14.out) (b + 1) Lr.length (rc - (b + 1)) sa hsa (by omega) (by omega)
    rw [rowVals_drop, rowVals_take] at this
    exact this)
  have hcx : (([] ++ Lr.take t ++ L4 ++ (Lr.drop t).take (b + 1 - R - t)) : List (Value × Rw)).length = b + 1 := by simp only [List.length_nil, List.length_append, List.length_take, List.length_drop, hl4]; omega
  have hsb := HF14.out.b.size
  go_wp2_with (at_builtin; refine held ?_)
  unfold Held
  refine wpList_appD rowsD_elem rfl rfl w3.heap.size HF14.out.own rfl HRD.out rfl (fun u hu => HONE.out u (rowVals_sub (fun x hx => List.mem_of_mem_drop (List.mem_of_mem_take hx)) u hu)) (by rw [hcx]; unfold maxLen; omega) (by rw [hcx]; omega) hsb ?_
  intro v15 w15 o15 g15 n15
  have HF15 := Lib.hid (HF14.out.app (Below.refl _ _) o15 hsy g15 n15)
  have HBW15 := Lib.hid (HBw3.out.trans (HF15.out.b.mono HBw3.out.size))
  clear o15 g15 n15 x2 HRD hsl hsy hcx hsb
  have HF := Lib.hid (show Br w3 v15 (Lr.take t ++ L4 ++ (Lr.drop t).take (b + 1 - t - R) ++ Lr.drop (b + 1)) L4 w15 by
    have := HF15.out
    rw [List.nil_append, show b + 1 - R - t = b + 1 - t - R by omega, show (Lr.drop (b + 1)).take (Lr.length - (b + 1)) = Lr.drop (b + 1) from List.take_of_length_le (by rw [List.length_drop]; exact Nat.le_refl _)] at this
    exact this)
  have HBi := Lib.hid HBW15.out
  clear HFB HF12 HF13 HF14 HF15 HBW12 HBW13 HBW14 HBWB
  generalize hLL : Lr.take t ++ L4 ++ (Lr.drop t).take (b + 1 - t - R) ++ Lr.drop (b + 1) = LL at *
  have hLLn : LL.length = Lr.length := by
    rw [← hLL]
    simp only [List.length_nil, List.length_append, List.length_take, List.length_drop, hl4]
    omega
  obtain ⟨va, vc, rfl⟩ := ownC_sl HF.out.own
  rw [hLLn] at HF
  have x2 : w15.cell? ⟨p, 2, none⟩ = some (.slice (some ⟨rb, ro, none⟩) Lr.length rc) := HC2.out _ HBi.out
  have z2 : w15.frozen? ⟨p, 2, none⟩ = false := blk_free (HP3.out _ HBi.out) 2
  have g8 : w15.grownBy (w15.setCell ⟨p, 2, none⟩ (.slice va Lr.length vc)) (some p) := gb_set (gb_refl _ _) _ _
  have HK8 := Lib.hid (show (w15.setCell ⟨p, 2, none⟩ (.slice va Lr.length vc)).heap[p]? = some (.cells #[.int .i64 g.cols, .int .i64 g.limit, .slice va Lr.length vc, vo] 65 (0, 0)) from blk_set (HP3.out _ HBi.out) 2 _)
  have HW8 := Lib.hid (show Within (fun k => k = p ∨ vo.ownBlock = some k ∨ w15.heap.size ≤ k) w15 (w15.setCell ⟨p, 2, none⟩ (.slice va Lr.length vc)) from Within.of_gb g8 (fun k hk => .inl (by injection hk with hk; exact hk.symm)))
  have hnep : vo.ownBlock ≠ some p := fun e => by have h1 := HA.out.ro.tag p e; have h2 := HA.out.tp; omega
  have HO8 := Lib.hid (show OwnC (w15.setCell ⟨p, 2, none⟩ (.slice va Lr.length vc)) 0 2 vo Lo.length (rowVals Lo) from ownC_grown (ownC_below HA.out.ro.own HBi.out) g8 (fun k hk e => hnep (by rw [hk]; exact e.symm)))
  have HER := Lib.hid (show LL.map (·.2) = downRows g.rows t b R g.cols s by
    rw [← hLL]
    unfold downRows
    rw [List.map_append, List.map_append, List.map_append, List.map_take, List.map_take, List.map_drop, List.map_drop, HA.out.er, HE4.out])
  have HFIN := Lib.hid (show Within (own T w) w (w15.setCell ⟨p, 2, none⟩ (.slice va Lr.length vc)) ∧ ∃ T', RM T' p (w15.setCell ⟨p, 2, none⟩ (.slice va Lr.length vc)) (g.down t b n s) ∧ ∀ k, T' k ≠ 0 → own T w k by
    obtain ⟨h1, T', h2, h3⟩ := lay_build (g' := ⟨g.cols, g.limit, downRows g.rows t b R g.cols s, g.old⟩) HA.out HBW11.out HF.out (by rw [← hLL]; exact sub_mem2) (fun x hx => .inl hx) HW8.out HK8.out HO8.out (fun k hk => .inl hk) (fun h4 h5 => by rw [← hLL]; exact dn_nodup Lr Lo L4 t b R w3.heap.size htb hR2 HA.out.nd h4 HF.out.nd h5) HER.out HA.out.eo (down_wf hwf t b R s htb (by have := (rrows_len HA.out).1; omega) hR2)
    have hE : g.down t b n s = ⟨g.cols, g.limit, downRows g.rows t b R g.cols s, g.old⟩ := by rw [HEU.out, Int.toNat_natCast, Int.toNat_natCast]
    rw [hE]
    exact ⟨(Within.of_below HB3.out).trans (h1.mono fun k hk => by
      rcases hk with e | e
      · exact .inl e
      · exact .inr (by have := HB3.out.size; omega)), T', h2, fun k hk => by
      rcases h3 k hk with e | e
      · exact .inl e
      · exact .inr (by have := HB3.out.size; omega)⟩)
  clear hLL g8
  go_wp2_with fail
  go_end0
  exact ⟨rfl, HFIN.out⟩
end Go.Proofs.YtjclgoiclbkgjaaGreatDoor
