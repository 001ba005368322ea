/- Package grid, texts laid together: J4 LaidG Arg ArgG. -/
import Derived.Test.YtjclgoiclbkgjaaDoorK6
import Derived.Test.YtjclgoiclbkgjaaDoorK16
import Derived.Test.YtjclgoiclbkgjaaDoorK8
import Derived.Test.YtjclgoiclbkgjaaDoorK15
import Derived.Deep.CutBlock
import Derived.Test.YtjclgoiclbkgjaaDoorCards
import Derived.Test.YtjclgoiclbkgjaaDoorTie
import Derived.WalkKit
import Derived.ProofKit
import Derived.OpenShut
import Derived.Deep.DeepHandedRow
import Derived.JoinedCond
import Derived.Test.YtjclgoiclbkgjaaDoorRows
import Derived.Test.YtjclgoiclbkgjaaDoorK1
/- The law GridBack: the walk. -/
namespace Go.Proofs.YtjclgoiclbkgjaaDoor
open Go.RowKit
attribute [local go_sem ↓] Go.wp_at_zero Go.wp_at_succ

theorem kept_fit : Kept (fun c _ _ g => g.All (Fit c)) :=
  ⟨fun c r l _ => all_new c r l _ (fit_blank c plainS), fun c r l g b hd h => all_up h 0 b 1 plainS true (fun _ => by rw [hd.1]; exact fit_blank c plainS),
   fun c r l g x y q hd h => all_put h x y q (fun hx _ hw hle r hr => fit_put hx hw (by rw [hd.1] at hle; exact hle) r hr)⟩
set_option maxRecDepth 100000 in
set_option maxHeartbeats 8000000 in
theorem gridBack_walk (cols rows : Int) (tv : Value) (texts : List ByteArray) (wi0 hi0 : Int) (w : World) (h1 : -9223372036854775808 ≤ cols ∧ cols ≤ 9223372036854775807) (h2 : -9223372036854775808 ≤ rows ∧ rows ≤ 9223372036854775807)
    (h3 : -9223372036854775808 ≤ wi0 ∧ wi0 ≤ 9223372036854775807) (h4 : -9223372036854775808 ≤ hi0 ∧ hi0 ≤ 9223372036854775807)
    (ht : IsVals w tv (texts.map Value.string)) (hs : ∀ s ∈ texts, s.size ≤ 1000000000) (hln : texts.length ≤ 1000000000) :
    Calls Tryd.prog 5 #[.int .i64 cols, .int .i64 rows, tv, .int .i64 wi0, .int .i64 hi0] w fun e w' => e = .returned (.bool true) ∧ Below w.heap.size w w' := by
  have HTV := Lib.hid ht
  have HSS := Lib.hid hs
  clear ht hs
  go_enter Tryd.func5, Tryd.ntmps5
  go_wp2_with fail
  refine (shown_any w).mono ?_
  rintro e w1 ⟨rfl, b1⟩
  have HB1 := Lib.hid b1
  clear b1
  go_wp2_with fail
  refine (filled_inv (fun c _ _ g => g.All (Fit c)) kept_fit cols rows 39 h1 h2 (by decide) tv (.slice none 0 0) texts [] w1 (isVals_below HTV.out HB1.out) (.inl ⟨rfl, rfl⟩) HSS.out hln (by simp) (.inl rfl)).mono ?_
  rintro e w2 ⟨q, rfl, T, g, c, r, l, hsh, hd, hc, hr, hl, hl0⟩
  have HS2 := Lib.hid (hsh.mono HB1.out)
  have HD := Lib.hid hd
  clear hsh hd hl0 hl
  go_wp2_with fail
  refine (clone_any HS2.out.gm).mono ?_
  rintro e w3 ⟨q2, T2, rfl, b3, g3, n3⟩
  have HW3 := Lib.hid (show Two w T T2 q q2 w3 g g from ⟨HS2.out.below b3, ⟨(HS2.out.below b3).b, g3, fun k hk => Nat.le_trans HS2.out.b.size (n3 k hk)⟩, fun k hk => by
    by_cases h0 : T k = 0
    · exact h0
    · have h6 := HS2.out.gm.lt k h0
      have h7 := n3 k hk
      omega⟩)
  clear b3 g3 n3 HS2
  go_wp2_with fail
  refine (cols_any HW3.out.a.gm).mono ?_
  rintro e wx1 ⟨rfl, hx1⟩
  subst wx1
  rw [HD.out.1.1]
  go_wp2_with fail
  refine (rowsN_any HW3.out.a.gm).mono ?_
  rintro e wx1 ⟨rfl, hx1⟩
  subst wx1
  rw [HD.out.1.2.1]
  have hwc : IntKind.i64.wrap ((c : Int) - 1) = (c : Int) - 1 := wrap64_id _ (by omega) (by omega)
  have hwr : IntKind.i64.wrap ((r : Int) - 1) = (r : Int) - 1 := wrap64_id _ (by omega) (by omega)
  have HFL := Lib.hid (fun cols2 rows2 a1 a2 => back_all g HW3.out.a.gm.wf c r HD.out.1.1 HD.out.1.2.1 HD.out.2 cols2 rows2 a1 a2)
  go_upto_region 11 with fail
  have hBz := Below.alloc (Below.refl w3.heap.size w3) (Nat.le_refl _) (.cells #[.int .i64 ((c : Int) - 1), .int .i64 ((r : Int) - 1)] 43)
  have HA8 := Lib.hid (blk_new w3 (.cells #[.int .i64 ((c : Int) - 1), .int .i64 ((r : Int) - 1)] 43))
  have HS8 := Lib.hid (HW3.out.below hBz)
  have HTA := Lib.hid (show T w3.heap.size = 0 ∧ T2 w3.heap.size = 0 from ⟨sh_free HW3.out.a (Nat.le_refl _), sh_free HW3.out.b (Nat.le_refl _)⟩)
  clear hBz HW3
  generalize w3.alloc (.cells #[.int .i64 ((c : Int) - 1), .int .i64 ((r : Int) - 1)] 43) = w8 at *
  generalize w3.heap.size = pa at *
  have x0 : w8.cell? ⟨pa, 0, none⟩ = some (.int .i64 ((c : Int) - 1)) := blk_cell HA8.out 0
  have x1 : w8.cell? ⟨pa, 1, none⟩ = some (.int .i64 ((r : Int) - 1)) := blk_cell HA8.out 1
  have HBA := Lib.hid ((Below.refl w8.heap.size w8).drew.alloc (Nat.le_refl _) (.cells #[.int .i64 0, .int .i64 0] 43))
  have HBD := Lib.hid (Below.refl w8.heap.size w8).drew
  have HNA := Lib.hid (blk_new w8.drew (.cells #[.int .i64 0, .int .i64 0] 43))
  have y0 : (w8.drew.alloc (.cells #[.int .i64 0, .int .i64 0] 43)).cell? ⟨pa, 0, none⟩ = some (.int .i64 ((c : Int) - 1)) := cell_below HBA.out x0
  have y1 : (w8.drew.alloc (.cells #[.int .i64 0, .int .i64 0] 43)).cell? ⟨pa, 1, none⟩ = some (.int .i64 ((r : Int) - 1)) := cell_below HBA.out x1
  have HWA := Lib.hid (show ∀ a0 : Nat, a0 < 20 → IntKind.i64.wrap ((c : Int) + (a0 : Int)) = ((c + a0 : Nat) : Int) from fun a0 h0 => by rw [wrap64_id _ (by omega) (by omega)]; omega)
  have HWB := Lib.hid (show ∀ b0 : Nat, b0 < 20 → IntKind.i64.wrap ((r : Int) + (b0 : Int)) = ((r + b0 : Nat) : Int) from fun b0 h0 => by rw [wrap64_id _ (by omega) (by omega)]; omega)
  clear hwc hwr
  go_cut [17, 18] (fun pv ev wz => ev = .int .i64 0 ∧ ∃ (pk py : Nat) (T3 : Nat → Nat) (g2 : Gr), pv = .pointer (some ⟨pk, 0, none⟩) ∧ Hid (Two w T3 T2 q q2 wz g2 g) ∧ Hid (wz.heap[pk]? = some (.cells #[.int .i64 ((c : Int) - 1), .int .i64 py] 43 (0, 0))) ∧
    Hid (wz.heap[pa]? = some (.cells #[.int .i64 ((c : Int) - 1), .int .i64 ((r : Int) - 1)] 43 (0, 0))) ∧ Hid (T3 pa = 0) ∧ Hid (g2.resize c r ((c : Int) - 1) (py : Int) true = (g, (c : Int) - 1, (r : Int) - 1)))
  case first =>
    refine wpL_begin (c := 10) (S := (fun bb w' => True ∧ (bb = false → w'.cell? ⟨pa, 0, none⟩ = some (.int .i64 ((c : Int) - 1)) ∧ w'.cell? ⟨pa, 1, none⟩ = some (.int .i64 ((r : Int) - 1))))) (by kernel_rfl) (⟨trivial, fun _ => ⟨x0, x1⟩⟩) (fun _ => ?_)
    refine wpL_take (i := 0) (oi := ?o101) (v := ?v101) ?h101 (by kernel_rfl) (by kernel_rfl) (by kernel_rfl) (by rfl) ?q101 (by rfl) (b := false) (⟨trivial, fun _ => ⟨x0, x1⟩⟩) (Or.inl ⟨?w101, ?y101⟩) ?r101
    case h101 => (simp only [List.getElem?_toArray, List.getElem?_cons_zero]; rfl)
    case q101 => exact fun _ _ _ h => h
    case w101 => rfl
    case y101 =>
      intro wS hSw
      obtain ⟨hSb, hSw, hSx⟩ := hSw
      clear hSx
      go_simp
      (try (with_reducible rfl))
    try simp only [Act.put, List.setIfInBounds_toArray, List.set_cons_zero, List.set_cons_succ]
    refine wpL_take (i := 1) (oi := ?o102) (v := ?v102) ?h102 (by kernel_rfl) (by kernel_rfl) (by kernel_rfl) (by rfl) ?q102 (by rfl) (b := false) (⟨trivial, fun _ => ⟨x0, x1⟩⟩) (Or.inl ⟨?w102, ?y102⟩) ?r102
    case h102 => (simp only [List.getElem?_toArray, List.getElem?_cons_succ, List.getElem?_cons_zero]; rfl)
    case q102 => exact fun _ _ _ h => h
    case w102 => rfl
    case y102 =>
      intro wS hSw
      obtain ⟨hSb, hSw, hSx⟩ := hSw
      clear hSx
      go_simp
      (try (with_reducible rfl))
    try simp only [Act.put, List.setIfInBounds_toArray, List.set_cons_zero, List.set_cons_succ]
    refine wpL_take (i := 2) (oi := ?o103) (v := ?v103) ?h103 (by kernel_rfl) (by kernel_rfl) (by kernel_rfl) (by rfl) ?q103 (by rfl) (b := false) (⟨trivial, fun _ => ⟨x0, x1⟩⟩) (Or.inl ⟨?w103, ?y103⟩) ?r103
    case h103 => (simp only [List.getElem?_toArray, List.getElem?_cons_succ, List.getElem?_cons_zero]; rfl)
    case q103 => exact fun _ _ _ h => h
    case w103 => rfl
    case y103 =>
      intro wS hSw
      obtain ⟨hSb, hSw, hSx⟩ := hSw
      clear hSx
      go_simp
      (try (with_reducible rfl))
    try simp only [Act.put, List.setIfInBounds_toArray, List.set_cons_zero, List.set_cons_succ]
    refine wpL_take (i := 5) (oi := ?o104) (v := ?v104) ?h104 (by kernel_rfl) (by kernel_rfl) (by kernel_rfl) (by rfl) ?q104 (by rfl) (b := false) (⟨trivial, fun _ => ⟨x0, x1⟩⟩) (Or.inl ⟨?w104, ?y104⟩) ?r104
    case h104 => (simp only [List.getElem?_toArray, List.getElem?_cons_succ, List.getElem?_cons_zero]; rfl)
    case q104 => exact fun _ _ _ h => h
    case w104 => rfl
    case y104 =>
      intro wS hSw
      obtain ⟨hSb, hSw, hSx⟩ := hSw
      clear hSx
      go_simp
      (try (with_reducible rfl))
    try simp only [Act.put, List.setIfInBounds_toArray, List.set_cons_zero, List.set_cons_succ]
    refine wpL_take (i := 6) (oi := ?o105) (v := ?v105) ?h105 (by kernel_rfl) (by kernel_rfl) (by kernel_rfl) (by rfl) ?q105 (by rfl) (b := false) (⟨trivial, fun _ => ⟨x0, x1⟩⟩) (Or.inl ⟨?w105, ?y105⟩) ?r105
    case h105 => (simp only [List.getElem?_toArray, List.getElem?_cons_succ, List.getElem?_cons_zero]; rfl)
    case q105 => exact fun _ _ _ h => h
    case w105 => rfl
    case y105 =>
      intro wS hSw
      obtain ⟨hSb, hSw, hSx⟩ := hSw
      clear hSx
      go_simp
      (try (with_reducible rfl))
    try simp only [Act.put, List.setIfInBounds_toArray, List.set_cons_zero, List.set_cons_succ]
    refine wpL_takeD (i := 9) (oi := ?o106) (oc := ?c106) (v := ?v106) ?h106 ?g106 ?d106 (by kernel_rfl) (by kernel_rfl) (by kernel_rfl) (by rfl) ?q106 (by rfl) (⟨trivial, fun _ => ⟨x0, x1⟩⟩) (Or.inl ⟨?w106, ?y106⟩) ?r106
    case h106 => (simp only [List.getElem?_toArray, List.getElem?_cons_succ, List.getElem?_cons_zero]; rfl)
    case g106 => (simp only [List.getElem?_toArray, List.getElem?_cons_succ, List.getElem?_cons_zero]; rfl)
    case d106 => kernel_rfl
    case q106 => exact fun _ _ _ h => h
    case w106 => rfl
    case y106 =>
      intro wS hSw
      obtain ⟨hSw, hSx⟩ := hSw
      have hSx := hSx rfl
      go_simp
      (try (with_reducible rfl))
    try simp only [Act.put, List.setIfInBounds_toArray, List.set_cons_zero, List.set_cons_succ]
    refine wpL_two (i := 3) (oi := ?o107) (j := 14) (oj := ?c107) (b1 := false) (b2 := false) (by kernel_rfl) ?h107 ?g107 (by rfl) (by rfl) ?k107 ?l107
    case h107 => (simp only [List.getElem?_toArray, List.getElem?_cons_succ, List.getElem?_cons_zero]; rfl)
    case g107 => (simp only [List.getElem?_toArray, List.getElem?_cons_succ, List.getElem?_cons_zero]; rfl)
    · intro K hK
      refine wanted_on rfl ?_
      go_wp2_with fail
      refine (pick_any wi0 20 _ h3.1 h3.2 (by decide) (by decide)).mono ?_
      rintro e wx1 ⟨a0, rfl, ha0, _, hx1⟩
      subst wx1
      have hwa := HWA.out a0 ha0
      refine hK.out _ _ (⟨trivial, fun _ => ⟨x0, x1⟩⟩) (fun _ => ?_)
      clear hK K 
      try simp only [Act.put, List.setIfInBounds_toArray, List.set_cons_zero, List.set_cons_succ]
      refine wpL_take (i := 4) (oi := ?o108) (v := ?v108) ?h108 (by kernel_rfl) (by kernel_rfl) (by kernel_rfl) (by rfl) ?q108 (by rfl) (b := false) (⟨trivial, fun _ => ⟨x0, x1⟩⟩) (Or.inl ⟨?w108, ?y108⟩) ?r108
      case h108 => (simp only [List.getElem?_toArray, List.getElem?_cons_succ, List.getElem?_cons_zero]; rfl)
      case q108 => exact fun _ _ _ h => h
      case w108 => rfl
      case y108 =>
        intro wS hSw
        obtain ⟨hSb, hSw, hSx⟩ := hSw
        clear hSx
        go_simp
        (try (with_reducible rfl))
      try simp only [Act.put, List.setIfInBounds_toArray, List.set_cons_zero, List.set_cons_succ]
      refine wpL_two (i := 7) (oi := ?o109) (j := 14) (oj := ?c109) (b1 := false) (b2 := false) (by kernel_rfl) ?h109 ?g109 (by rfl) (by rfl) ?k109 ?l109
      case h109 => (simp only [List.getElem?_toArray, List.getElem?_cons_succ, List.getElem?_cons_zero]; rfl)
      case g109 => (simp only [List.getElem?_toArray, List.getElem?_cons_succ, List.getElem?_cons_zero]; rfl)
      · intro K hK
        refine wanted_on rfl ?_
        go_wp2_with fail
        refine (pick_any hi0 20 _ h4.1 h4.2 (by decide) (by decide)).mono ?_
        rintro e wx1 ⟨b0, rfl, hb0, _, hx1⟩
        subst wx1
        have hwb := HWB.out b0 hb0
        refine hK.out _ _ (⟨trivial, fun _ => ⟨x0, x1⟩⟩) (fun _ => ?_)
        clear hK K 
        try simp only [Act.put, List.setIfInBounds_toArray, List.set_cons_zero, List.set_cons_succ]
        refine wpL_take (i := 8) (oi := ?o110) (v := ?v110) ?h110 (by kernel_rfl) (by kernel_rfl) (by kernel_rfl) (by rfl) ?q110 (by rfl) (b := false) (⟨trivial, fun _ => ⟨x0, x1⟩⟩) (Or.inl ⟨?w110, ?y110⟩) ?r110
        case h110 => (simp only [List.getElem?_toArray, List.getElem?_cons_succ, List.getElem?_cons_zero]; rfl)
        case q110 => exact fun _ _ _ h => h
        case w110 => rfl
        case y110 =>
          intro wS hSw
          obtain ⟨hSb, hSw, hSx⟩ := hSw
          clear hSx
          go_simp
          (try (with_reducible rfl))
        try simp only [Act.put, List.setIfInBounds_toArray, List.set_cons_zero, List.set_cons_succ]
        refine wpL_two (i := 10) (oi := ?o111) (j := 14) (oj := ?c111) (b1 := true) (b2 := false) (by kernel_rfl) ?h111 ?g111 (by rfl) (by rfl) ?k111 ?l111
        case h111 => (simp only [List.getElem?_toArray, List.getElem?_cons_succ, List.getElem?_cons_zero]; rfl)
        case g111 => (simp only [List.getElem?_toArray, List.getElem?_cons_succ, List.getElem?_cons_zero]; rfl)
        · intro K hK
          refine wanted_on rfl ?_
          go_wp2_with fail
          obtain ⟨g2, py, hres, hback⟩ := HFL.out (c + a0) (r + b0) (by omega) (by omega)
          have HBK := Lib.hid hback
          have hsx := HS8.out.below HBD.out
          have hax := blk_below HA8.out HBD.out (heap_lt HA8.out)
          have htk := sh_free HS8.out.a (Nat.le_refl w8.heap.size)
          clear hback
          refine (resizeF_any hsx.a.gm (c + a0) (r + b0) ((c : Int) - 1) ((r : Int) - 1) (by omega) (by omega) (by omega) (by omega)).mono ?_
          rintro e w9 ⟨rfl, hw9, T3, g9, n9⟩
          rw [hres] at g9 ⊢
          dsimp only at g9 ⊢
          have HS9 := Lib.hid (hsx.turn hw9 g9 n9)
          have hno : ∀ k, T k = 0 → ∀ {wq : World}, k < wq.heap.size → ¬ own T wq k := fun k h0 wq h1 e => by
            rcases e with e | e
            · exact e h0
            · omega
          have HA9 := Lib.hid ((hw9.block pa (heap_lt hax) (hno pa HTA.out.1 (heap_lt hax))).trans hax)
          have HCL2 := Lib.hid (heap_lt HA8.out)
          have hbs : w8.drew.heap.size = w8.heap.size := rfl
          have HW9 := Lib.hid (show w8.heap.size ≤ w9.heap.size from Nat.le_trans HBD.out.size hw9.size)
          have HTP := Lib.hid (show T3 pa = 0 from Classical.byContradiction fun h2 => (n9 _ h2).elim (fun e => e HTA.out.1) (fun e => by have := heap_lt hax; omega))
          have HNO := Lib.hid hno
          have HTK := Lib.hid htk
          clear hw9 g9 n9 hno hax hsx htk hres
          refine hK.out _ _ (⟨trivial, fun e => by cases e⟩) (fun _ => ?_)
          clear hK K 
          try simp only [Act.put, List.setIfInBounds_toArray, List.set_cons_zero, List.set_cons_succ]
          refine wpL_take (i := 11) (oi := ?o112) (v := ?v112) ?h112 (by kernel_rfl) (by kernel_rfl) (by kernel_rfl) (by rfl) ?q112 (by rfl) (b := true) (⟨trivial, fun e => by cases e⟩) (Or.inl ⟨?w112, ?y112⟩) ?r112
          case h112 => (simp only [List.getElem?_toArray, List.getElem?_cons_succ, List.getElem?_cons_zero]; rfl)
          case q112 => exact fun _ _ _ h => h
          case w112 => rfl
          case y112 =>
            intro wS hSw
            obtain ⟨hSb, hSw, hSx⟩ := hSw
            clear hSx
            go_simp
            (try (with_reducible rfl))
          try simp only [Act.put, List.setIfInBounds_toArray, List.set_cons_zero, List.set_cons_succ]
          refine wpL_take (i := 12) (oi := ?o113) (v := ?v113) ?h113 (by kernel_rfl) (by kernel_rfl) (by kernel_rfl) (by rfl) ?q113 (by rfl) (b := true) (⟨trivial, fun e => by cases e⟩) (Or.inl ⟨?w113, ?y113⟩) ?r113
          case h113 => (simp only [List.getElem?_toArray, List.getElem?_cons_succ, List.getElem?_cons_zero]; rfl)
          case q113 => exact fun _ _ _ h => h
          case w113 => rfl
          case y113 =>
            intro wS hSw
            obtain ⟨hSb, hSw, hSx⟩ := hSw
            clear hSx
            go_simp
            (try (with_reducible rfl))
          try simp only [Act.put, List.setIfInBounds_toArray, List.set_cons_zero, List.set_cons_succ]
          refine wpL_take (i := 13) (oi := ?o114) (v := ?v114) ?h114 (by kernel_rfl) (by kernel_rfl) (by kernel_rfl) (by rfl) ?q114 (by rfl) (b := true) (⟨trivial, fun e => by cases e⟩) (Or.inl ⟨?w114, ?y114⟩) ?r114
          case h114 => (simp only [List.getElem?_toArray, List.getElem?_cons_succ, List.getElem?_cons_zero]; rfl)
          case q114 => exact fun _ _ _ h => h
          case w114 => rfl
          case y114 =>
            intro wS hSw
            obtain ⟨hSb, hSw, hSx⟩ := hSw
            clear hSx
            go_simp
            (try (with_reducible rfl))
          try simp only [Act.put, List.setIfInBounds_toArray, List.set_cons_zero, List.set_cons_succ]
          refine wpL_one (i := 14) (o := ?o115) (b := true) (by kernel_rfl) ?h115 (by rfl) ?k115
          case h115 => (simp only [List.getElem?_toArray, List.getElem?_cons_succ, List.getElem?_cons_zero]; rfl)
          intro K hK
          refine wanted_on rfl ?_
          go_wp2_with fail
          refine hK.out _ _ (⟨trivial, fun e => by cases e⟩) (fun _ => ?_)
          clear hK K 
          try simp only [Act.put, List.setIfInBounds_toArray, List.set_cons_zero, List.set_cons_succ]
          refine wpL_one (i := 15) (o := ?o116) (b := true) (by kernel_rfl) ?h116 (by rfl) ?k116
          case h116 => (simp only [List.getElem?_toArray, List.getElem?_cons_succ, List.getElem?_cons_zero]; rfl)
          intro K hK
          refine wanted_on rfl ?_
          first
            | (have hno := HNO
               have HKN := blk_new w9 (.cells #[.int .i64 0, .int .i64 0] 43)
               have hba := (Below.refl w9.heap.size w9).alloc (Nat.le_refl _) (.cells #[.int .i64 0, .int .i64 0] 43)
               have hst := run_storeVar_row (P := Tryd.prog) _ w9.heap.size 43 43 _ #[.int .i64 ((c : Int) - 1), .int .i64 py] HKN (by kernel_rfl) rfl (by simp [Value.oneCell'])
               refine wp_storeR _ _ _ rfl hst rfl rfl ?_
               have hgb := gb_setRow (w9.alloc (.cells #[.int .i64 0, .int .i64 0] 43)) w9.heap.size #[.int .i64 ((c : Int) - 1), .int .i64 py]
               have HK10 := Lib.hid (setRow_blk (cells := #[.int .i64 ((c : Int) - 1), .int .i64 py]) HKN)
               have HS10 := Lib.hid (two_setRow #[.int .i64 ((c : Int) - 1), .int .i64 py] (HS9.out.below hba) (sh_free HS9.out.a (Nat.le_refl w9.heap.size)) (sh_free HS9.out.b (Nat.le_refl w9.heap.size)) HS9.out.a.b.size)
               have HC10 := Lib.hid (blk_grown (blk_below HA9.out hba (heap_lt HA9.out)) hgb (fun e => by injection e with e; have := HCL2.out; have := HW9.out; omega))
               clear hno HKN hba hst hgb)
            | (have hst := run_storeVar_row (P := Tryd.prog) w9 w8.heap.size 43 43 _ #[.int .i64 ((c : Int) - 1), .int .i64 py] HK9.out (by kernel_rfl) rfl (by simp [Value.oneCell'])
               refine wp_storeR _ _ _ rfl hst rfl rfl ?_
               have hgb := gb_setRow w9 w8.heap.size #[.int .i64 ((c : Int) - 1), .int .i64 py]
               have HK10 := Lib.hid (setRow_blk (cells := #[.int .i64 ((c : Int) - 1), .int .i64 py]) HK9.out)
               have HS10 := Lib.hid (two_setRow #[.int .i64 ((c : Int) - 1), .int .i64 py] HS9.out HTK.out (sh_free HS8.out.b (Nat.le_refl w8.heap.size)) HS8.out.a.b.size)
               have HC10 := Lib.hid (blk_grown HA9.out hgb (fun e => by injection e with e; have := HCL2.out; omega))
               clear hst hgb)
          refine hK.out _ _ (⟨trivial, fun e => by cases e⟩) (fun _ => ?_)
          clear hK K 
          try simp only [Act.put]
          refine wpL_take (i := 16) (oi := ?o117) (v := ?v117) ?h117 (by kernel_rfl) (by kernel_rfl) (by kernel_rfl) (by rfl) ?q117 (by rfl) (b := true) (⟨trivial, fun e => by cases e⟩) (Or.inl ⟨?w117, ?y117⟩) ?r117
          case h117 => (simp only [List.getElem?_toArray, List.getElem?_cons_succ, List.getElem?_cons_zero]; rfl)
          case q117 => exact fun _ _ _ h => h
          case w117 => rfl
          case y117 =>
            intro wS hSw
            obtain ⟨hSb, hSw, hSx⟩ := hSw
            clear hSx
            go_simp
            (try (with_reducible rfl))
          try simp only [Act.put, List.setIfInBounds_toArray, List.set_cons_zero, List.set_cons_succ]
          refine wpL_done (by kernel_rfl) ?_ _
          go_wp2_with fail
          go_meet
          exact ⟨rfl, _, py, T3, g2, rfl, HS10, HK10, HC10, HTP, HBK⟩
        · intro K hK
          refine wanted_on rfl ?_
          go_wp2_with fail
          refine hK.out _ _ (⟨trivial, fun _ => ⟨y0, y1⟩⟩) (fun _ => ?_)
          clear hK K 
          try simp only [Act.put, List.setIfInBounds_toArray, List.set_cons_zero, List.set_cons_succ]
          refine wpL_one (i := 10) (o := ?o118) (b := true) (by kernel_rfl) ?h118 (by rfl) ?k118
          case h118 => (simp only [List.getElem?_toArray, List.getElem?_cons_succ, List.getElem?_cons_zero]; rfl)
          intro K hK
          refine wanted_on rfl ?_
          go_wp2_with fail
          obtain ⟨g2, py, hres, hback⟩ := HFL.out (c + a0) (r + b0) (by omega) (by omega)
          have HBK := Lib.hid hback
          have hsx := HS8.out.below HBA.out
          have hax := blk_below HA8.out HBA.out (heap_lt HA8.out)
          have htk := sh_free HS8.out.a (Nat.le_refl w8.heap.size)
          clear hback
          refine (resizeF_any hsx.a.gm (c + a0) (r + b0) ((c : Int) - 1) ((r : Int) - 1) (by omega) (by omega) (by omega) (by omega)).mono ?_
          rintro e w9 ⟨rfl, hw9, T3, g9, n9⟩
          rw [hres] at g9 ⊢
          dsimp only at g9 ⊢
          have HS9 := Lib.hid (hsx.turn hw9 g9 n9)
          have hno : ∀ k, T k = 0 → ∀ {wq : World}, k < wq.heap.size → ¬ own T wq k := fun k h0 wq h1 e => by
            rcases e with e | e
            · exact e h0
            · omega
          have HA9 := Lib.hid ((hw9.block pa (heap_lt hax) (hno pa HTA.out.1 (heap_lt hax))).trans hax)
          have HCL2 := Lib.hid (heap_lt HA8.out)
          have hbs : w8.drew.heap.size = w8.heap.size := rfl
          have HW9 := Lib.hid (show w8.heap.size ≤ w9.heap.size from Nat.le_trans HBA.out.size hw9.size)
          have HTP := Lib.hid (show T3 pa = 0 from Classical.byContradiction fun h2 => (n9 _ h2).elim (fun e => e HTA.out.1) (fun e => by have := heap_lt hax; omega))
          have HK9 := Lib.hid ((hw9.block w8.heap.size (heap_lt HNA.out) (hno _ htk (heap_lt HNA.out))).trans HNA.out)
          have HTK := Lib.hid (show T3 w8.heap.size = 0 from Classical.byContradiction fun h2 => (n9 _ h2).elim (fun e => e htk) (fun e => by have := heap_lt HNA.out; omega))
          clear hw9 g9 n9 hno hax hsx htk hres
          refine hK.out _ _ (⟨trivial, fun e => by cases e⟩) (fun _ => ?_)
          clear hK K 
          try simp only [Act.put, List.setIfInBounds_toArray, List.set_cons_zero, List.set_cons_succ]
          refine wpL_take (i := 11) (oi := ?o119) (v := ?v119) ?h119 (by kernel_rfl) (by kernel_rfl) (by kernel_rfl) (by rfl) ?q119 (by rfl) (b := true) (⟨trivial, fun e => by cases e⟩) (Or.inl ⟨?w119, ?y119⟩) ?r119
          case h119 => (simp only [List.getElem?_toArray, List.getElem?_cons_succ, List.getElem?_cons_zero]; rfl)
          case q119 => exact fun _ _ _ h => h
          case w119 => rfl
          case y119 =>
            intro wS hSw
            obtain ⟨hSb, hSw, hSx⟩ := hSw
            clear hSx
            go_simp
            (try (with_reducible rfl))
          try simp only [Act.put, List.setIfInBounds_toArray, List.set_cons_zero, List.set_cons_succ]
          refine wpL_take (i := 12) (oi := ?o120) (v := ?v120) ?h120 (by kernel_rfl) (by kernel_rfl) (by kernel_rfl) (by rfl) ?q120 (by rfl) (b := true) (⟨trivial, fun e => by cases e⟩) (Or.inl ⟨?w120, ?y120⟩) ?r120
          case h120 => (simp only [List.getElem?_toArray, List.getElem?_cons_succ, List.getElem?_cons_zero]; rfl)
          case q120 => exact fun _ _ _ h => h
          case w120 => rfl
          case y120 =>
            intro wS hSw
            obtain ⟨hSb, hSw, hSx⟩ := hSw
            clear hSx
            go_simp
            (try (with_reducible rfl))
          try simp only [Act.put, List.setIfInBounds_toArray, List.set_cons_zero, List.set_cons_succ]
          refine wpL_take (i := 13) (oi := ?o121) (v := ?v121) ?h121 (by kernel_rfl) (by kernel_rfl) (by kernel_rfl) (by rfl) ?q121 (by rfl) (b := true) (⟨trivial, fun e => by cases e⟩) (Or.inl ⟨?w121, ?y121⟩) ?r121
          case h121 => (simp only [List.getElem?_toArray, List.getElem?_cons_succ, List.getElem?_cons_zero]; rfl)
          case q121 => exact fun _ _ _ h => h
          case w121 => rfl
          case y121 =>
            intro wS hSw
            obtain ⟨hSb, hSw, hSx⟩ := hSw
            clear hSx
            go_simp
            (try (with_reducible rfl))
          try simp only [Act.put, List.setIfInBounds_toArray, List.set_cons_zero, List.set_cons_succ]
          refine wpL_one (i := 15) (o := ?o122) (b := true) (by kernel_rfl) ?h122 (by rfl) ?k122
          case h122 => (simp only [List.getElem?_toArray, List.getElem?_cons_succ, List.getElem?_cons_zero]; rfl)
          intro K hK
          refine wanted_on rfl ?_
          first
            | (have hno := HNO
               have HKN := blk_new w9 (.cells #[.int .i64 0, .int .i64 0] 43)
               have hba := (Below.refl w9.heap.size w9).alloc (Nat.le_refl _) (.cells #[.int .i64 0, .int .i64 0] 43)
               have hst := run_storeVar_row (P := Tryd.prog) _ w9.heap.size 43 43 _ #[.int .i64 ((c : Int) - 1), .int .i64 py] HKN (by kernel_rfl) rfl (by simp [Value.oneCell'])
               refine wp_storeR _ _ _ rfl hst rfl rfl ?_
               have hgb := gb_setRow (w9.alloc (.cells #[.int .i64 0, .int .i64 0] 43)) w9.heap.size #[.int .i64 ((c : Int) - 1), .int .i64 py]
               have HK10 := Lib.hid (setRow_blk (cells := #[.int .i64 ((c : Int) - 1), .int .i64 py]) HKN)
               have HS10 := Lib.hid (two_setRow #[.int .i64 ((c : Int) - 1), .int .i64 py] (HS9.out.below hba) (sh_free HS9.out.a (Nat.le_refl w9.heap.size)) (sh_free HS9.out.b (Nat.le_refl w9.heap.size)) HS9.out.a.b.size)
               have HC10 := Lib.hid (blk_grown (blk_below HA9.out hba (heap_lt HA9.out)) hgb (fun e => by injection e with e; have := HCL2.out; have := HW9.out; omega))
               clear hno HKN hba hst hgb)
            | (have hst := run_storeVar_row (P := Tryd.prog) w9 w8.heap.size 43 43 _ #[.int .i64 ((c : Int) - 1), .int .i64 py] HK9.out (by kernel_rfl) rfl (by simp [Value.oneCell'])
               refine wp_storeR _ _ _ rfl hst rfl rfl ?_
               have hgb := gb_setRow w9 w8.heap.size #[.int .i64 ((c : Int) - 1), .int .i64 py]
               have HK10 := Lib.hid (setRow_blk (cells := #[.int .i64 ((c : Int) - 1), .int .i64 py]) HK9.out)
               have HS10 := Lib.hid (two_setRow #[.int .i64 ((c : Int) - 1), .int .i64 py] HS9.out HTK.out (sh_free HS8.out.b (Nat.le_refl w8.heap.size)) HS8.out.a.b.size)
               have HC10 := Lib.hid (blk_grown HA9.out hgb (fun e => by injection e with e; have := HCL2.out; omega))
               clear hst hgb)
          refine hK.out _ _ (⟨trivial, fun e => by cases e⟩) (fun _ => ?_)
          clear hK K 
          try simp only [Act.put]
          refine wpL_take (i := 16) (oi := ?o123) (v := ?v123) ?h123 (by kernel_rfl) (by kernel_rfl) (by kernel_rfl) (by rfl) ?q123 (by rfl) (b := true) (⟨trivial, fun e => by cases e⟩) (Or.inl ⟨?w123, ?y123⟩) ?r123
          case h123 => (simp only [List.getElem?_toArray, List.getElem?_cons_succ, List.getElem?_cons_zero]; rfl)
          case q123 => exact fun _ _ _ h => h
          case w123 => rfl
          case y123 =>
            intro wS hSw
            obtain ⟨hSb, hSw, hSx⟩ := hSw
            clear hSx
            go_simp
            (try (with_reducible rfl))
          try simp only [Act.put, List.setIfInBounds_toArray, List.set_cons_zero, List.set_cons_succ]
          refine wpL_done (by kernel_rfl) ?_ _
          go_wp2_with fail
          go_meet
          exact ⟨rfl, _, py, T3, g2, rfl, HS10, HK10, HC10, HTP, HBK⟩
      · intro K hK
        refine wanted_on rfl ?_
        go_wp2_with fail
        refine hK.out _ _ (⟨trivial, fun _ => ⟨y0, y1⟩⟩) (fun _ => ?_)
        clear hK K 
        try simp only [Act.put, List.setIfInBounds_toArray, List.set_cons_zero, List.set_cons_succ]
        refine wpL_one (i := 7) (o := ?o124) (b := false) (by kernel_rfl) ?h124 (by rfl) ?k124
        case h124 => (simp only [List.getElem?_toArray, List.getElem?_cons_succ, List.getElem?_cons_zero]; rfl)
        intro K hK
        refine wanted_on rfl ?_
        go_wp2_with fail
        refine (pick_any hi0 20 _ h4.1 h4.2 (by decide) (by decide)).mono ?_
        rintro e wx1 ⟨b0, rfl, hb0, _, hx1⟩
        subst wx1
        have hwb := HWB.out b0 hb0
        refine hK.out _ _ (⟨trivial, fun _ => ⟨y0, y1⟩⟩) (fun _ => ?_)
        clear hK K 
        try simp only [Act.put, List.setIfInBounds_toArray, List.set_cons_zero, List.set_cons_succ]
        refine wpL_take (i := 8) (oi := ?o125) (v := ?v125) ?h125 (by kernel_rfl) (by kernel_rfl) (by kernel_rfl) (by rfl) ?q125 (by rfl) (b := false) (⟨trivial, fun _ => ⟨y0, y1⟩⟩) (Or.inl ⟨?w125, ?y125⟩) ?r125
        case h125 => (simp only [List.getElem?_toArray, List.getElem?_cons_succ, List.getElem?_cons_zero]; rfl)
        case q125 => exact fun _ _ _ h => h
        case w125 => rfl
        case y125 =>
          intro wS hSw
          obtain ⟨hSb, hSw, hSx⟩ := hSw
          clear hSx
          go_simp
          (try (with_reducible rfl))
        try simp only [Act.put, List.setIfInBounds_toArray, List.set_cons_zero, List.set_cons_succ]
        refine wpL_one (i := 10) (o := ?o126) (b := true) (by kernel_rfl) ?h126 (by rfl) ?k126
        case h126 => (simp only [List.getElem?_toArray, List.getElem?_cons_succ, List.getElem?_cons_zero]; rfl)
        intro K hK
        refine wanted_on rfl ?_
        go_wp2_with fail
        obtain ⟨g2, py, hres, hback⟩ := HFL.out (c + a0) (r + b0) (by omega) (by omega)
        have HBK := Lib.hid hback
        have hsx := HS8.out.below HBA.out
        have hax := blk_below HA8.out HBA.out (heap_lt HA8.out)
        have htk := sh_free HS8.out.a (Nat.le_refl w8.heap.size)
        clear hback
        refine (resizeF_any hsx.a.gm (c + a0) (r + b0) ((c : Int) - 1) ((r : Int) - 1) (by omega) (by omega) (by omega) (by omega)).mono ?_
        rintro e w9 ⟨rfl, hw9, T3, g9, n9⟩
        rw [hres] at g9 ⊢
        dsimp only at g9 ⊢
        have HS9 := Lib.hid (hsx.turn hw9 g9 n9)
        have hno : ∀ k, T k = 0 → ∀ {wq : World}, k < wq.heap.size → ¬ own T wq k := fun k h0 wq h1 e => by
          rcases e with e | e
          · exact e h0
          · omega
        have HA9 := Lib.hid ((hw9.block pa (heap_lt hax) (hno pa HTA.out.1 (heap_lt hax))).trans hax)
        have HCL2 := Lib.hid (heap_lt HA8.out)
        have hbs : w8.drew.heap.size = w8.heap.size := rfl
        have HW9 := Lib.hid (show w8.heap.size ≤ w9.heap.size from Nat.le_trans HBA.out.size hw9.size)
        have HTP := Lib.hid (show T3 pa = 0 from Classical.byContradiction fun h2 => (n9 _ h2).elim (fun e => e HTA.out.1) (fun e => by have := heap_lt hax; omega))
        have HK9 := Lib.hid ((hw9.block w8.heap.size (heap_lt HNA.out) (hno _ htk (heap_lt HNA.out))).trans HNA.out)
        have HTK := Lib.hid (show T3 w8.heap.size = 0 from Classical.byContradiction fun h2 => (n9 _ h2).elim (fun e => e htk) (fun e => by have := heap_lt HNA.out; omega))
        clear hw9 g9 n9 hno hax hsx htk hres
        refine hK.out _ _ (⟨trivial, fun e => by cases e⟩) (fun _ => ?_)
        clear hK K 
        try simp only [Act.put, List.setIfInBounds_toArray, List.set_cons_zero, List.set_cons_succ]
        refine wpL_take (i := 11) (oi := ?o127) (v := ?v127) ?h127 (by kernel_rfl) (by kernel_rfl) (by kernel_rfl) (by rfl) ?q127 (by rfl) (b := true) (⟨trivial, fun e => by cases e⟩) (Or.inl ⟨?w127, ?y127⟩) ?r127
        case h127 => (simp only [List.getElem?_toArray, List.getElem?_cons_succ, List.getElem?_cons_zero]; rfl)
        case q127 => exact fun _ _ _ h => h
        case w127 => rfl
        case y127 =>
          intro wS hSw
          obtain ⟨hSb, hSw, hSx⟩ := hSw
          clear hSx
          go_simp
          (try (with_reducible rfl))
        try simp only [Act.put, List.setIfInBounds_toArray, List.set_cons_zero, List.set_cons_succ]
        refine wpL_take (i := 12) (oi := ?o128) (v := ?v128) ?h128 (by kernel_rfl) (by kernel_rfl) (by kernel_rfl) (by rfl) ?q128 (by rfl) (b := true) (⟨trivial, fun e => by cases e⟩) (Or.inl ⟨?w128, ?y128⟩) ?r128
        case h128 => (simp only [List.getElem?_toArray, List.getElem?_cons_succ, List.getElem?_cons_zero]; rfl)
        case q128 => exact fun _ _ _ h => h
        case w128 => rfl
        case y128 =>
          intro wS hSw
          obtain ⟨hSb, hSw, hSx⟩ := hSw
          clear hSx
          go_simp
          (try (with_reducible rfl))
        try simp only [Act.put, List.setIfInBounds_toArray, List.set_cons_zero, List.set_cons_succ]
        refine wpL_take (i := 13) (oi := ?o129) (v := ?v129) ?h129 (by kernel_rfl) (by kernel_rfl) (by kernel_rfl) (by rfl) ?q129 (by rfl) (b := true) (⟨trivial, fun e => by cases e⟩) (Or.inl ⟨?w129, ?y129⟩) ?r129
        case h129 => (simp only [List.getElem?_toArray, List.getElem?_cons_succ, List.getElem?_cons_zero]; rfl)
        case q129 => exact fun _ _ _ h => h
        case w129 => rfl
        case y129 =>
          intro wS hSw
          obtain ⟨hSb, hSw, hSx⟩ := hSw
          clear hSx
          go_simp
          (try (with_reducible rfl))
        try simp only [Act.put, List.setIfInBounds_toArray, List.set_cons_zero, List.set_cons_succ]
        refine wpL_one (i := 15) (o := ?o130) (b := true) (by kernel_rfl) ?h130 (by rfl) ?k130
        case h130 => (simp only [List.getElem?_toArray, List.getElem?_cons_succ, List.getElem?_cons_zero]; rfl)
        intro K hK
        refine wanted_on rfl ?_
        first
          | (have hno := HNO
             have HKN := blk_new w9 (.cells #[.int .i64 0, .int .i64 0] 43)
             have hba := (Below.refl w9.heap.size w9).alloc (Nat.le_refl _) (.cells #[.int .i64 0, .int .i64 0] 43)
             have hst := run_storeVar_row (P := Tryd.prog) _ w9.heap.size 43 43 _ #[.int .i64 ((c : Int) - 1), .int .i64 py] HKN (by kernel_rfl) rfl (by simp [Value.oneCell'])
             refine wp_storeR _ _ _ rfl hst rfl rfl ?_
             have hgb := gb_setRow (w9.alloc (.cells #[.int .i64 0, .int .i64 0] 43)) w9.heap.size #[.int .i64 ((c : Int) - 1), .int .i64 py]
             have HK10 := Lib.hid (setRow_blk (cells := #[.int .i64 ((c : Int) - 1), .int .i64 py]) HKN)
             have HS10 := Lib.hid (two_setRow #[.int .i64 ((c : Int) - 1), .int .i64 py] (HS9.out.below hba) (sh_free HS9.out.a (Nat.le_refl w9.heap.size)) (sh_free HS9.out.b (Nat.le_refl w9.heap.size)) HS9.out.a.b.size)
             have HC10 := Lib.hid (blk_grown (blk_below HA9.out hba (heap_lt HA9.out)) hgb (fun e => by injection e with e; have := HCL2.out; have := HW9.out; omega))
             clear hno HKN hba hst hgb)
          | (have hst := run_storeVar_row (P := Tryd.prog) w9 w8.heap.size 43 43 _ #[.int .i64 ((c : Int) - 1), .int .i64 py] HK9.out (by kernel_rfl) rfl (by simp [Value.oneCell'])
             refine wp_storeR _ _ _ rfl hst rfl rfl ?_
             have hgb := gb_setRow w9 w8.heap.size #[.int .i64 ((c : Int) - 1), .int .i64 py]
             have HK10 := Lib.hid (setRow_blk (cells := #[.int .i64 ((c : Int) - 1), .int .i64 py]) HK9.out)
             have HS10 := Lib.hid (two_setRow #[.int .i64 ((c : Int) - 1), .int .i64 py] HS9.out HTK.out (sh_free HS8.out.b (Nat.le_refl w8.heap.size)) HS8.out.a.b.size)
             have HC10 := Lib.hid (blk_grown HA9.out hgb (fun e => by injection e with e; have := HCL2.out; omega))
             clear hst hgb)
        refine hK.out _ _ (⟨trivial, fun e => by cases e⟩) (fun _ => ?_)
        clear hK K 
        try simp only [Act.put]
        refine wpL_take (i := 16) (oi := ?o131) (v := ?v131) ?h131 (by kernel_rfl) (by kernel_rfl) (by kernel_rfl) (by rfl) ?q131 (by rfl) (b := true) (⟨trivial, fun e => by cases e⟩) (Or.inl ⟨?w131, ?y131⟩) ?r131
        case h131 => (simp only [List.getElem?_toArray, List.getElem?_cons_succ, List.getElem?_cons_zero]; rfl)
        case q131 => exact fun _ _ _ h => h
        case w131 => rfl
        case y131 =>
          intro wS hSw
          obtain ⟨hSb, hSw, hSx⟩ := hSw
          clear hSx
          go_simp
          (try (with_reducible rfl))
        try simp only [Act.put, List.setIfInBounds_toArray, List.set_cons_zero, List.set_cons_succ]
        refine wpL_done (by kernel_rfl) ?_ _
        go_wp2_with fail
        go_meet
        exact ⟨rfl, _, py, T3, g2, rfl, HS10, HK10, HC10, HTP, HBK⟩
    · intro K hK
      refine wanted_on rfl ?_
      go_wp2_with fail
      refine hK.out _ _ (⟨trivial, fun _ => ⟨y0, y1⟩⟩) (fun _ => ?_)
      clear hK K 
      try simp only [Act.put, List.setIfInBounds_toArray, List.set_cons_zero, List.set_cons_succ]
      refine wpL_one (i := 3) (o := ?o132) (b := false) (by kernel_rfl) ?h132 (by rfl) ?k132
      case h132 => (simp only [List.getElem?_toArray, List.getElem?_cons_succ, List.getElem?_cons_zero]; rfl)
      intro K hK
      refine wanted_on rfl ?_
      go_wp2_with fail
      refine (pick_any wi0 20 _ h3.1 h3.2 (by decide) (by decide)).mono ?_
      rintro e wx1 ⟨a0, rfl, ha0, _, hx1⟩
      subst wx1
      have hwa := HWA.out a0 ha0
      refine hK.out _ _ (⟨trivial, fun _ => ⟨y0, y1⟩⟩) (fun _ => ?_)
      clear hK K 
      try simp only [Act.put, List.setIfInBounds_toArray, List.set_cons_zero, List.set_cons_succ]
      refine wpL_take (i := 4) (oi := ?o133) (v := ?v133) ?h133 (by kernel_rfl) (by kernel_rfl) (by kernel_rfl) (by rfl) ?q133 (by rfl) (b := false) (⟨trivial, fun _ => ⟨y0, y1⟩⟩) (Or.inl ⟨?w133, ?y133⟩) ?r133
      case h133 => (simp only [List.getElem?_toArray, List.getElem?_cons_succ, List.getElem?_cons_zero]; rfl)
      case q133 => exact fun _ _ _ h => h
      case w133 => rfl
      case y133 =>
        intro wS hSw
        obtain ⟨hSb, hSw, hSx⟩ := hSw
        clear hSx
        go_simp
        (try (with_reducible rfl))
      try simp only [Act.put, List.setIfInBounds_toArray, List.set_cons_zero, List.set_cons_succ]
      refine wpL_one (i := 7) (o := ?o134) (b := false) (by kernel_rfl) ?h134 (by rfl) ?k134
      case h134 => (simp only [List.getElem?_toArray, List.getElem?_cons_succ, List.getElem?_cons_zero]; rfl)
      intro K hK
      refine wanted_on rfl ?_
      go_wp2_with fail
      refine (pick_any hi0 20 _ h4.1 h4.2 (by decide) (by decide)).mono ?_
      rintro e wx1 ⟨b0, rfl, hb0, _, hx1⟩
      subst wx1
      have hwb := HWB.out b0 hb0
      refine hK.out _ _ (⟨trivial, fun _ => ⟨y0, y1⟩⟩) (fun _ => ?_)
      clear hK K 
      try simp only [Act.put, List.setIfInBounds_toArray, List.set_cons_zero, List.set_cons_succ]
      refine wpL_take (i := 8) (oi := ?o135) (v := ?v135) ?h135 (by kernel_rfl) (by kernel_rfl) (by kernel_rfl) (by rfl) ?q135 (by rfl) (b := false) (⟨trivial, fun _ => ⟨y0, y1⟩⟩) (Or.inl ⟨?w135, ?y135⟩) ?r135
      case h135 => (simp only [List.getElem?_toArray, List.getElem?_cons_succ, List.getElem?_cons_zero]; rfl)
      case q135 => exact fun _ _ _ h => h
      case w135 => rfl
      case y135 =>
        intro wS hSw
        obtain ⟨hSb, hSw, hSx⟩ := hSw
        clear hSx
        go_simp
        (try (with_reducible rfl))
      try simp only [Act.put, List.setIfInBounds_toArray, List.set_cons_zero, List.set_cons_succ]
      refine wpL_one (i := 10) (o := ?o136) (b := true) (by kernel_rfl) ?h136 (by rfl) ?k136
      case h136 => (simp only [List.getElem?_toArray, List.getElem?_cons_succ, List.getElem?_cons_zero]; rfl)
      intro K hK
      refine wanted_on rfl ?_
      go_wp2_with fail
      obtain ⟨g2, py, hres, hback⟩ := HFL.out (c + a0) (r + b0) (by omega) (by omega)
      have HBK := Lib.hid hback
      have hsx := HS8.out.below HBA.out
      have hax := blk_below HA8.out HBA.out (heap_lt HA8.out)
      have htk := sh_free HS8.out.a (Nat.le_refl w8.heap.size)
      clear hback
      refine (resizeF_any hsx.a.gm (c + a0) (r + b0) ((c : Int) - 1) ((r : Int) - 1) (by omega) (by omega) (by omega) (by omega)).mono ?_
      rintro e w9 ⟨rfl, hw9, T3, g9, n9⟩
      rw [hres] at g9 ⊢
      dsimp only at g9 ⊢
      have HS9 := Lib.hid (hsx.turn hw9 g9 n9)
      have hno : ∀ k, T k = 0 → ∀ {wq : World}, k < wq.heap.size → ¬ own T wq k := fun k h0 wq h1 e => by
        rcases e with e | e
        · exact e h0
        · omega
      have HA9 := Lib.hid ((hw9.block pa (heap_lt hax) (hno pa HTA.out.1 (heap_lt hax))).trans hax)
      have HCL2 := Lib.hid (heap_lt HA8.out)
      have hbs : w8.drew.heap.size = w8.heap.size := rfl
      have HW9 := Lib.hid (show w8.heap.size ≤ w9.heap.size from Nat.le_trans HBA.out.size hw9.size)
      have HTP := Lib.hid (show T3 pa = 0 from Classical.byContradiction fun h2 => (n9 _ h2).elim (fun e => e HTA.out.1) (fun e => by have := heap_lt hax; omega))
      have HK9 := Lib.hid ((hw9.block w8.heap.size (heap_lt HNA.out) (hno _ htk (heap_lt HNA.out))).trans HNA.out)
      have HTK := Lib.hid (show T3 w8.heap.size = 0 from Classical.byContradiction fun h2 => (n9 _ h2).elim (fun e => e htk) (fun e => by have := heap_lt HNA.out; omega))
      clear hw9 g9 n9 hno hax hsx htk hres
      refine hK.out _ _ (⟨trivial, fun e => by cases e⟩) (fun _ => ?_)
      clear hK K 
      try simp only [Act.put, List.setIfInBounds_toArray, List.set_cons_zero, List.set_cons_succ]
      refine wpL_take (i := 11) (oi := ?o137) (v := ?v137) ?h137 (by kernel_rfl) (by kernel_rfl) (by kernel_rfl) (by rfl) ?q137 (by rfl) (b := true) (⟨trivial, fun e => by cases e⟩) (Or.inl ⟨?w137, ?y137⟩) ?r137
      case h137 => (simp only [List.getElem?_toArray, List.getElem?_cons_succ, List.getElem?_cons_zero]; rfl)
      case q137 => exact fun _ _ _ h => h
      case w137 => rfl
      case y137 =>
        intro wS hSw
        obtain ⟨hSb, hSw, hSx⟩ := hSw
        clear hSx
        go_simp
        (try (with_reducible rfl))
      try simp only [Act.put, List.setIfInBounds_toArray, List.set_cons_zero, List.set_cons_succ]
      refine wpL_take (i := 12) (oi := ?o138) (v := ?v138) ?h138 (by kernel_rfl) (by kernel_rfl) (by kernel_rfl) (by rfl) ?q138 (by rfl) (b := true) (⟨trivial, fun e => by cases e⟩) (Or.inl ⟨?w138, ?y138⟩) ?r138
      case h138 => (simp only [List.getElem?_toArray, List.getElem?_cons_succ, List.getElem?_cons_zero]; rfl)
      case q138 => exact fun _ _ _ h => h
      case w138 => rfl
      case y138 =>
        intro wS hSw
        obtain ⟨hSb, hSw, hSx⟩ := hSw
        clear hSx
        go_simp
        (try (with_reducible rfl))
      try simp only [Act.put, List.setIfInBounds_toArray, List.set_cons_zero, List.set_cons_succ]
      refine wpL_take (i := 13) (oi := ?o139) (v := ?v139) ?h139 (by kernel_rfl) (by kernel_rfl) (by kernel_rfl) (by rfl) ?q139 (by rfl) (b := true) (⟨trivial, fun e => by cases e⟩) (Or.inl ⟨?w139, ?y139⟩) ?r139
      case h139 => (simp only [List.getElem?_toArray, List.getElem?_cons_succ, List.getElem?_cons_zero]; rfl)
      case q139 => exact fun _ _ _ h => h
      case w139 => rfl
      case y139 =>
        intro wS hSw
        obtain ⟨hSb, hSw, hSx⟩ := hSw
        clear hSx
        go_simp
        (try (with_reducible rfl))
      try simp only [Act.put, List.setIfInBounds_toArray, List.set_cons_zero, List.set_cons_succ]
      refine wpL_one (i := 15) (o := ?o140) (b := true) (by kernel_rfl) ?h140 (by rfl) ?k140
      case h140 => (simp only [List.getElem?_toArray, List.getElem?_cons_succ, List.getElem?_cons_zero]; rfl)
      intro K hK
      refine wanted_on rfl ?_
      first
        | (have hno := HNO
           have HKN := blk_new w9 (.cells #[.int .i64 0, .int .i64 0] 43)
           have hba := (Below.refl w9.heap.size w9).alloc (Nat.le_refl _) (.cells #[.int .i64 0, .int .i64 0] 43)
           have hst := run_storeVar_row (P := Tryd.prog) _ w9.heap.size 43 43 _ #[.int .i64 ((c : Int) - 1), .int .i64 py] HKN (by kernel_rfl) rfl (by simp [Value.oneCell'])
           refine wp_storeR _ _ _ rfl hst rfl rfl ?_
           have hgb := gb_setRow (w9.alloc (.cells #[.int .i64 0, .int .i64 0] 43)) w9.heap.size #[.int .i64 ((c : Int) - 1), .int .i64 py]
           have HK10 := Lib.hid (setRow_blk (cells := #[.int .i64 ((c : Int) - 1), .int .i64 py]) HKN)
           have HS10 := Lib.hid (two_setRow #[.int .i64 ((c : Int) - 1), .int .i64 py] (HS9.out.below hba) (sh_free HS9.out.a (Nat.le_refl w9.heap.size)) (sh_free HS9.out.b (Nat.le_refl w9.heap.size)) HS9.out.a.b.size)
           have HC10 := Lib.hid (blk_grown (blk_below HA9.out hba (heap_lt HA9.out)) hgb (fun e => by injection e with e; have := HCL2.out; have := HW9.out; omega))
           clear hno HKN hba hst hgb)
        | (have hst := run_storeVar_row (P := Tryd.prog) w9 w8.heap.size 43 43 _ #[.int .i64 ((c : Int) - 1), .int .i64 py] HK9.out (by kernel_rfl) rfl (by simp [Value.oneCell'])
           refine wp_storeR _ _ _ rfl hst rfl rfl ?_
           have hgb := gb_setRow w9 w8.heap.size #[.int .i64 ((c : Int) - 1), .int .i64 py]
           have HK10 := Lib.hid (setRow_blk (cells := #[.int .i64 ((c : Int) - 1), .int .i64 py]) HK9.out)
           have HS10 := Lib.hid (two_setRow #[.int .i64 ((c : Int) - 1), .int .i64 py] HS9.out HTK.out (sh_free HS8.out.b (Nat.le_refl w8.heap.size)) HS8.out.a.b.size)
           have HC10 := Lib.hid (blk_grown HA9.out hgb (fun e => by injection e with e; have := HCL2.out; omega))
           clear hst hgb)
      refine hK.out _ _ (⟨trivial, fun e => by cases e⟩) (fun _ => ?_)
      clear hK K 
      try simp only [Act.put]
      refine wpL_take (i := 16) (oi := ?o141) (v := ?v141) ?h141 (by kernel_rfl) (by kernel_rfl) (by kernel_rfl) (by rfl) ?q141 (by rfl) (b := true) (⟨trivial, fun e => by cases e⟩) (Or.inl ⟨?w141, ?y141⟩) ?r141
      case h141 => (simp only [List.getElem?_toArray, List.getElem?_cons_succ, List.getElem?_cons_zero]; rfl)
      case q141 => exact fun _ _ _ h => h
      case w141 => rfl
      case y141 =>
        intro wS hSw
        obtain ⟨hSb, hSw, hSx⟩ := hSw
        clear hSx
        go_simp
        (try (with_reducible rfl))
      try simp only [Act.put, List.setIfInBounds_toArray, List.set_cons_zero, List.set_cons_succ]
      refine wpL_done (by kernel_rfl) ?_ _
      go_wp2_with fail
      go_meet
      exact ⟨rfl, _, py, T3, g2, rfl, HS10, HK10, HC10, HTP, HBK⟩
  case rest =>
  obtain ⟨rfl, pk, py, T3, g2, rfl, HS9, HK9, HA9, HTP, HBK⟩ := hcut
  obtain ⟨w9, rfl⟩ : ∃ w9, w9 = wc := ⟨wc, rfl⟩
  have x0 : w9.cell? ⟨pk, 0, none⟩ = some (.int .i64 ((c : Int) - 1)) := blk_cell HK9.out 0
  have x1 : w9.cell? ⟨pk, 1, none⟩ = some (.int .i64 py) := blk_cell HK9.out 1
  go_wp2_with fail
  refine (resizeF_any HS9.out.a.gm c r ((c : Int) - 1) (py : Int) (by omega) (by omega) (by omega) (by omega)).mono ?_
  rintro e w10 ⟨rfl, hw10, T4, g10, n10⟩
  rw [HBK.out] at g10 ⊢
  dsimp only at g10 ⊢
  have HS10 := Lib.hid (HS9.out.turn hw10 g10 n10)
  have HA10 := Lib.hid ((hw10.block pa (heap_lt HA9.out) (fun e => by
    rcases e with e | e
    · exact e HTP.out
    · have := heap_lt HA9.out; omega)).trans HA9.out)
  clear hw10 g10 n10 HS9 HK9 HA9 x0 x1
  go_upto_region 13 with fail
  have hBz := Below.alloc (Below.refl w10.heap.size w10) (Nat.le_refl _) (.cells #[.int .i64 ((c : Int) - 1), .int .i64 ((r : Int) - 1)] 43)
  have HK11 := Lib.hid (blk_new w10 (.cells #[.int .i64 ((c : Int) - 1), .int .i64 ((r : Int) - 1)] 43))
  have HS11 := Lib.hid (HS10.out.below hBz)
  have HA11 := Lib.hid (blk_below HA10.out hBz (heap_lt HA10.out))
  clear hBz HS10 HA10
  generalize w10.alloc (.cells #[.int .i64 ((c : Int) - 1), .int .i64 ((r : Int) - 1)] 43) = w11 at *
  generalize w10.heap.size = pm at *
  have x0 : w11.cell? ⟨pm, 0, none⟩ = some (.int .i64 ((c : Int) - 1)) := blk_cell HK11.out 0
  have x1 : w11.cell? ⟨pm, 1, none⟩ = some (.int .i64 ((r : Int) - 1)) := blk_cell HK11.out 1
  have z0 : w11.cell? ⟨pa, 0, none⟩ = some (.int .i64 ((c : Int) - 1)) := blk_cell HA11.out 0
  have z1 : w11.cell? ⟨pa, 1, none⟩ = some (.int .i64 ((r : Int) - 1)) := blk_cell HA11.out 1
  have hpq := fun (wx : World) => eql_pos ((c : Int) - 1) ((r : Int) - 1) ((c : Int) - 1) ((r : Int) - 1) wx
  have hgq := fun (x y : Operand) (wx : World) => guard_pos .eql x y ((c : Int) - 1) ((r : Int) - 1) ((c : Int) - 1) ((r : Int) - 1) wx
  rw [show ((c : Int) - 1 == (c : Int) - 1 && (r : Int) - 1 == (r : Int) - 1) = true by simp] at hpq
  go_wp2_with fail
  refine (same_any HS11.out.a.gm HS11.out.b.gm).mono ?_
  rintro e w12 ⟨rfl, b12⟩
  have HS12 := Lib.hid (HS11.out.below b12)
  clear b12 x0 x1 z0 z1 hpq hgq
  go_wp2_with fail
  exact ret1v rfl rfl rfl ⟨rfl, HS12.out.a.b⟩
end Go.Proofs.YtjclgoiclbkgjaaDoor

/- A world for the witness of package grid's laws: the settled one, with what the row lists. -/
namespace Go.Proofs.YtjclgoiclbkgjaaDoor
open Go.ChangeShapes Go.WideShapes Go.ChangeAt Go.RowKit

set_option linter.unusedVariables false
def litValG : DataW Unit → Value
  | .lit (.int k z) => .int k z
  | _ => undef
def datCellsG : DataW Unit → Array Value
  | .agg l => (l.map litValG).toArray
  | _ => #[]
def rowCellsG : DataW Unit → List Value
  | .agg l => l.map litValG
  | _ => []
/-- The ranges of a table that is listed. -/
def tabCellsG : DataW Unit → Array Value
  | .ptr (.agg (.slice l _ :: _)) => (l.flatMap rowCellsG).toArray
  | _ => #[]
def laidInG (heap : Array Obj) (g : Nat) (d : DataW Unit) : Array Obj := heap.modify g fun
  | .cells _ t frozen => .cells (datCellsG d) t frozen
  | o => o
def laidPtrG (heap : Array Obj) (g : Nat) (d : DataW Unit) : Array Obj :=
  ((heap.modify g fun
    | .cells _ t frozen => .cells #[.pointer (some ⟨heap.size, 0, none⟩)] t frozen
    | o => o).push (.cells #[.slice (some ⟨heap.size + 1, 0, none⟩) ((tabCellsG d).size / 3) ((tabCellsG d).size / 3), .slice none 0 0, .int .i64 2] 132 (0, 0))).push (.cells (tabCellsG d) 135 (0, 0))
noncomputable def laidWorldG (os : Os) (args : Array Value) : World :=
  { World.holding Tryd.prog os ⟨#[], args, []⟩ with heap := laidPtrG (laidInG (laidInG (laidInG (laidInG (World.holding Tryd.prog os ⟨#[], args, []⟩).heap 2 Rows.laid_internal_strconv_uint64pow10) 3 Rows.laid_math_bits_deBruijn32tab) 4 Rows.laid_math_bits_deBruijn64tab) 0 Rows.laid_strings_asciiSpace) 1 Rows.laid_unicode_White_Space }
end Go.Proofs.YtjclgoiclbkgjaaDoor

/- Arguments of a law, opened. -/
namespace Go.Proofs.YtjclgoiclbkgjaaDoor
open Go.ChangeShapes Go.WideShapes Go.ChangeAt Go.RowKit Go.ChangeMaps

theorem bulk_pos {H : Type} (d : DataW H) : 1 ≤ Rows.uptoBulk d := by
  cases d with
  | lit l => cases l <;> simp [Rows.uptoBulk]
  | nil => simp [Rows.uptoBulk]
  | ptr d => simp [Rows.uptoBulk]
  | slice elems spare => simp [Rows.uptoBulk]
  | agg parts => simp [Rows.uptoBulk]
  | iface t d => simp [Rows.uptoBulk]
  | map entries => simp [Rows.uptoBulk]
  | held h => simp [Rows.uptoBulk]
theorem bulk_len {H : Type} (l : List (DataW H)) : l.length ≤ Rows.uptoBulkAll l := by
  induction l with
  | nil => simp [Rows.uptoBulkAll]
  | cons x r ih => have := bulk_pos x; simp only [Rows.uptoBulkAll, List.length_cons]; omega

theorem open_arg {H : Type} {enc : TypeId × Value → H} {P : Program} {W : World} {t e : TypeId} {k : IntKind} {fuel : Nat} {a : Option Addr} {len cap : Nat} {x : DataW H × List MemPlace}
    (ht : P.underlying t = some (.slice e)) (he : P.underlying e = some (.int k)) (hc : P.cellsOf e = 1)
    (h : DataW.trod enc P W 0 (fun _ => true) true fuel t (Value.slice a len cap).cells.toList = some x) :
    ∃ zs, IsArg k W (.slice a len cap) zs ∧ zs.length + 1 ≤ Rows.uptoBulk x.1 := by
  rcases open_ints ht he hc h with ⟨hcs, hx⟩ | ⟨ad, l, c, zs, hcs, _, hl, hm, hz, hx, hcell, hwz⟩
  · simp [Value.cells] at hcs
    obtain ⟨rfl, rfl, rfl⟩ := hcs
    exact ⟨[], .inl ⟨rfl, rfl⟩, by rw [hx]; simp [Rows.uptoBulk]⟩
  · simp [Value.cells] at hcs
    obtain ⟨rfl, rfl, rfl⟩ := hcs
    simp at hz
    have hlen : (zs.take len).length = len := by rw [List.length_take]; omega
    refine ⟨zs.take len, .inr ⟨ad, cap, by rw [hlen], by rw [hlen]; exact hl, by unfold maxLen at hm; exact hm, fun j hj => ?_, fun n hn => hwz n (List.mem_of_mem_take hn)⟩, ?_⟩
    · rw [hcell j (by omega)]
      congr 2
      rw [List.getD_eq_getElem?_getD, List.getD_eq_getElem?_getD, List.getElem?_take, if_pos (by omega)]
    · rw [hx]
      simp only [Rows.uptoBulk]
      have h1 := bulk_len (H := H) (lits k (zs.take len))
      have h2 : (lits (H := H) k (zs.take len)).length = (zs.take len).length := by simp [lits]
      omega
end Go.Proofs.YtjclgoiclbkgjaaDoor

/- Arguments that are slices of strings or of bools, opened. -/
namespace Go.Proofs.YtjclgoiclbkgjaaDoor
open Go.ChangeShapes Go.WideShapes Go.ChangeAt Go.RowKit Go.ChangeMaps

theorem mapM_range1 {f : Nat → Option Value} {cs : List Value} (h : (List.range 1).mapM f = some cs) : ∃ c0, cs = [c0] ∧ f 0 = some c0 := by
  rw [show List.range 1 = [0] from rfl] at h
  simp only [List.mapM_cons, List.mapM_nil, Option.pure_def, Option.bind_eq_bind, Option.bind_eq_some_iff, Option.some.injEq] at h
  obtain ⟨c0, h0, _, rfl, rfl⟩ := h
  exact ⟨c0, rfl, h0⟩
theorem bulk_memG {H : Type} : ∀ (l : List (DataW H)) (d : DataW H), d ∈ l → Rows.uptoBulk d ≤ Rows.uptoBulkAll l
  | x :: l, d, h => by
    simp only [Rows.uptoBulkAll]
    rcases List.mem_cons.1 h with rfl | h
    · omega
    · have := bulk_memG l d h; omega
theorem cellsOf_strG : Tryd.prog.cellsOf 9 = 1 := by kernel_rfl
theorem cellsOf_boolG : Tryd.prog.cellsOf 4 = 1 := by kernel_rfl
theorem addr_add0 (a : Addr) (i : Nat) : (a.add (i * 1)).add 0 = a.add i := by simp [Addr.add]
theorem wf64 {n : Int} (h : (Lit.int .i64 n).wf = true) : -9223372036854775808 ≤ n ∧ n ≤ 9223372036854775807 := by
  simp only [Lit.wf, Bool.and_eq_true, decide_eq_true_eq] at h
  exact h
theorem choose_list {α : Type} {p : Nat → α → Prop} {len : Nat} (h : ∀ i, i < len → ∃ y, p i y) : ∀ m, m ≤ len → ∃ l : List α, l.length = m ∧ ∀ i (hi : i < l.length), p i l[i] := by
  intro m
  induction m with
  | zero => intro _; exact ⟨[], rfl, fun i hi => absurd hi (by simp)⟩
  | succ m ih =>
    intro hm
    obtain ⟨l, hl, hp⟩ := ih (by omega)
    obtain ⟨y, hy⟩ := h m (by omega)
    refine ⟨l ++ [y], by simp [hl], fun i hi => ?_⟩
    by_cases hlt : i < l.length
    · rw [List.getElem_append_left hlt]
      exact hp i hlt
    · have hi2 : i = m := by rw [List.length_append, hl] at hi; simp at hi; omega
      subst hi2
      rw [List.getElem_append_right (by omega)]
      simp only [hl, Nat.sub_self, List.getElem_singleton]
      exact hy
set_option maxHeartbeats 1000000 in
theorem open_strs {H : Type} {enc : TypeId × Value → H} {W : World} {fuel : Nat} {a : Option Addr} {len cap : Nat} {x : DataW H × List MemPlace}
    (h : DataW.trod enc Tryd.prog W 0 (fun _ => true) true fuel 22 (Value.slice a len cap).cells.toList = some x) :
    ∃ l : List ByteArray, IsVals W (.slice a len cap) (l.map Value.string) ∧ (∀ s ∈ l, s.size ≤ Rows.uptoBulk x.1) ∧ l.length ≤ Rows.uptoBulk x.1 := by
  rcases DataW.trod_slice Tryd.underlying22 h with ⟨hcs, hx⟩ | ⟨ad, l, c, elems, rest, n, hfu, hcs, hx, _, hlc, hcm, hel, hat, _, _⟩
  · simp [Value.cells] at hcs
    obtain ⟨rfl, rfl, rfl⟩ := hcs
    exact ⟨[], .inl ⟨rfl, rfl⟩, fun _ h => by simp at h, Nat.zero_le _⟩
  · simp [Value.cells] at hcs
    obtain ⟨rfl, rfl, rfl⟩ := hcs
    have hone : ∀ i, i < len → ∃ s : ByteArray, W.cell? (ad.add i) = some (.string s) ∧ s.size ≤ Rows.uptoBulk x.1 := by
      intro i hi
      have h1 := hat i hi
      rw [cellsOf_strG, List.getElem?_eq_getElem (by omega)] at h1
      obtain ⟨cs, hc, ht⟩ := Option.bind_eq_some_iff.1 h1
      obtain ⟨s, e, es, _⟩ := DataW.trod_string Tryd.underlying9 ht
      have hbk : Rows.uptoBulk elems[i].1 ≤ Rows.uptoBulk x.1 := by
        rw [hx]
        simp only [Rows.uptoBulk]
        have := bulk_memG (elems.map (·.1)) elems[i].1 (List.mem_map_of_mem (List.getElem_mem (by omega)))
        omega
      unfold World.cells? at hc
      rw [if_pos (Nat.zero_le _)] at hc
      obtain ⟨c0, e0, g0⟩ := mapM_range1 hc
      rw [e0] at e
      rw [addr_add0] at g0
      refine ⟨s, by rw [g0]; simpa using e, ?_⟩
      rw [es] at hbk
      simp only [Rows.uptoBulk, Array.length_toList] at hbk
      show s.data.size ≤ _
      omega
    obtain ⟨l, hl, hp⟩ := choose_list hone len (Nat.le_refl _)
    refine ⟨l, .inr ⟨ad, cap, by rw [List.length_map, hl], by rw [List.length_map, hl]; exact hlc, by unfold maxLen at hcm; exact hcm, fun j hj => ?_⟩, fun s hs => ?_, ?_⟩
    · rw [List.length_map] at hj
      rw [(hp j hj).1, List.getD_eq_getElem?_getD, List.getElem?_map, List.getElem?_eq_getElem hj]
      rfl
    · obtain ⟨i, hi, rfl⟩ := List.getElem_of_mem hs
      exact (hp i hi).2
    · rw [hl, hx]
      simp only [Rows.uptoBulk]
      have := bulk_len (elems.map (·.1))
      rw [List.length_map] at this
      omega
end Go.Proofs.YtjclgoiclbkgjaaDoor
