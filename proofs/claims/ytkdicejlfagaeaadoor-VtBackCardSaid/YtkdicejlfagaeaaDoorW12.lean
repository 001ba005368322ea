/- Walks of mullionlaw5: same, all. -/
import Derived.Test.YtkdicejlfagaeaaDoorW11
import Derived.Test.YtkdicejlfagaeaaDoorV4
namespace Go.Proofs.YtkdicejlfagaeaaDoor
open Go.RowKit

theorem actCells_len : ∀ (L : List (VAct × Value)), (actCells L).length = L.length * 6
  | [] => rfl
  | x :: L => by
    have := actCells_len L
    simp only [actCells, List.flatMap_cons, List.length_append, VAct.cells, List.length_cons, List.length_nil] at this ⊢
    omega
theorem actCells_at : ∀ (L : List (VAct × Value)) (j : Nat) (hj : j < L.length) (i : Nat), i < 6 → (actCells L)[j * 6 + i]? = (L[j].1.cells L[j].2)[i]?
  | x :: L, 0, _, i, hi => by
    simp only [actCells, List.flatMap_cons, Nat.zero_mul, Nat.zero_add]
    rw [List.getElem?_append_left (by simp [VAct.cells]; omega)]
    rfl
  | x :: L, j + 1, hj, i, hi => by
    have hl : (x.1.cells x.2).length = 6 := rfl
    simp only [actCells, List.flatMap_cons]
    rw [List.getElem?_append_right (by rw [hl]; omega), hl, show (j + 1) * 6 + i - 6 = j * 6 + i by omega]
    exact actCells_at L j (by simpa using hj) i hi
/-- Actions in memory that are the caller's. -/
def Acts (T : Nat → Nat) (w : World) (v : Value) (L : List (VAct × Value)) : Prop :=
  Row T 0 6 v L.length (actCells L) w ∧ ∀ x ∈ L, Row T 0 1 x.2 x.1.params.length (x.1.params.map (Value.int .i64)) w
theorem acts_read {w : World} {v : Value} {L : List (VAct × Value)} (h1 : OwnC w 0 6 v L.length (actCells L)) (h2 : ∀ x ∈ L, IsRd .i64 w x.2 x.1.params) : IsActs w v L := by
  refine ⟨?_, h2⟩
  rcases h1.2 with ⟨hv, h0⟩ | ⟨b, off, c, hv, _, _, hc, hm, _, hx⟩
  · exact .inl ⟨hv, List.eq_nil_of_length_eq_zero h0⟩
  · refine .inr ⟨⟨b, off, none⟩, c, hv, hc, by unfold maxLen at hm; exact hm, fun j hj => ?_⟩
    rw [add_eq]
    have key : ∀ i u, i < 6 → (L[j].1.cells L[j].2)[i]? = some u → w.cell? ⟨b, off + j * 6 + i, none⟩ = some u := fun i u hi hu => by
      rw [Nat.add_assoc]
      exact hx (j * 6 + i) u (by rw [actCells_at L j hj i hi]; exact hu)
    exact ⟨key 0 _ (by decide) rfl, key 1 _ (by decide) rfl, key 2 _ (by decide) rfl, key 3 _ (by decide) rfl, key 4 _ (by decide) rfl, key 5 _ (by decide) rfl⟩
theorem Acts.isActs {T : Nat → Nat} {w : World} {v : Value} {L : List (VAct × Value)} (h : Acts T w v L) : IsActs w v L := acts_read h.1.own fun x hx => isRd_own (h.2 x hx).own
theorem Mod.of_below {T : Nat → Nat} {w w' : World} (h : Below w.heap.size w w') : Mod T (fun _ => False) w w' := ⟨h.os, h.tape, h.output, h.size, fun k hk _ => h.block k hk⟩
theorem Acts.below {T : Nat → Nat} {w w' : World} {v : Value} {L : List (VAct × Value)} (h : Acts T w v L) (g : Below w.heap.size w w') : Acts T w' v L :=
  ⟨h.1.mod (.of_below g) id, fun x hx => (h.2 x hx).mod (.of_below g) id⟩
theorem Rest.below {T : Nat → Nat} {p : Nat} {w w' : World} {s : PSt} (h : Rest T p w s) (g : Below w.heap.size w w') : Rest T p w' s := by
  obtain ⟨hl, hf, d, vi, vp, vt, hC⟩ := h
  exact ⟨fun k hk => Nat.lt_of_lt_of_le (hl k hk) g.size, hf, d, vi, vp, vt, hC.mod (.of_below g) id id id id id⟩
theorem Row.next {T T' : Nat → Nat} {size : Nat} {v : Value} {n : Nat} {xs : List Value} {w w' : World} (h : Row T 0 size v n xs w) (hw : Within (_root_.Go.Proofs.YtkdicejlfagaeaaDoor.own T w) w w') (ht : ∀ k, T' k ≠ 0 → _root_.Go.Proofs.YtkdicejlfagaeaaDoor.own T w k) : Row T' 0 size v n xs w' := by
  have hn : ∀ k, v.ownBlock = some k → ¬ _root_.Go.Proofs.YtkdicejlfagaeaaDoor.own T w k := fun k hk hg => by
    rcases hg with hg | hg
    · exact hg (h.tag k hk)
    · have := (ownC_lt h.own k hk).2; omega
  refine ⟨h.within hw hn, fun k hk => ?_⟩
  by_cases h0 : T' k = 0
  · exact h0
  · exact absurd (ht k h0) (hn k hk)
theorem Acts.next {T T' : Nat → Nat} {w w' : World} {v : Value} {L : List (VAct × Value)} (h : Acts T w v L) (hw : Within (_root_.Go.Proofs.YtkdicejlfagaeaaDoor.own T w) w w') (ht : ∀ k, T' k ≠ 0 → _root_.Go.Proofs.YtkdicejlfagaeaaDoor.own T w k) : Acts T' w' v L :=
  ⟨h.1.next hw ht, fun x hx => (h.2 x hx).next hw ht⟩

theorem rd_small {k : IntKind} {w : World} {v : Value} {l : List Int} (h : IsRd k w v l) : l.length ≤ 9223372036854775807 := by
  rcases h with ⟨_, rfl⟩ | ⟨a, c, _, h1, h2, _⟩
  · simp
  · omega
set_option maxRecDepth 100000 in
set_option maxHeartbeats 2000000 in
theorem same_eq (a : VAct) (v1 v2 : Value) (w : World) (h1 : IsRd .i64 w v1 a.params) (h2 : IsRd .i64 w v2 a.params) :
    Calls Tryd.prog 22 #[a.val v1, a.val v2] w fun e w' => e = .returned (.bool true) ∧ Below w.heap.size w w' := by
  obtain ⟨kind, rune, byte, params, inter, text⟩ := a
  unfold VAct.val
  dsimp only at h1 h2 ⊢
  have hb := ((Below.refl w.heap.size w).alloc (Nat.le_refl _) (.cells #[.int .i64 kind, .int .i32 rune, .int .u8 (byte.toNat : Int), v1, .string inter, .string text] 37)).alloc (by simp) (.cells #[.int .i64 kind, .int .i32 rune, .int .u8 (byte.toNat : Int), v2, .string inter, .string text] 37)
  have hlen1 := rd_len Tryd.underlying28 h1
  have hlen2 := rd_len Tryd.underlying28 h2
  have H1 := Lib.hid (isRd_below h1 hb)
  have H2 := Lib.hid (isRd_below h2 hb)
  have HB := Lib.hid hb
  clear h1 h2 hb
  go_enter Tryd.func22, Tryd.ntmps22
  go_wp2_with fail
  go_loopw [5] (fun i wr => ∃ k n : Nat, k ≤ params.length ∧ i = .int .i64 k ∧ wr = ((w.alloc (.cells #[.int .i64 kind, .int .i32 rune, .int .u8 (byte.toNat : Int), v1, .string inter, .string text] 37)).alloc (.cells #[.int .i64 kind, .int .i32 rune, .int .u8 (byte.toNat : Int), v2, .string inter, .string text] 37)).drewN n) (fun i _ => params.length - (intOf i).toNat)
  case atStart => exact ⟨0, 0, Nat.zero_le _, rfl, rfl⟩
  case round =>
    obtain ⟨k, n, hk, rfl, rfl⟩ := hrel
    have hsm := rd_small H1.out
    by_cases hlt : k < params.length
    · obtain ⟨a1, had1, hc1⟩ := rd_at Tryd.underlying28 (by kernel_rfl) H1.out k hlt
      obtain ⟨a2, had2, hc2⟩ := rd_at Tryd.underlying28 (by kernel_rfl) H2.out k hlt
      generalize params.getD k 0 = x at *
      have hb : (x != x) = false := by simp
      go_wp2_with fail
      go_quiet (fail)
      go_wp2_with fail
      go_roundw
      case rel => exact ⟨k + 1, _, by omega, by go_num, rfl⟩
      case measure => simp [intOf]; omega
    · go_wp2_with fail
      go_ret
      exact ⟨rfl, below_drewN HB.out n⟩
set_option maxRecDepth 100000 in
set_option maxHeartbeats 2000000 in
theorem all_eq (v1 v2 : Value) (L1 L2 : List (VAct × Value)) (w : World) (h1 : IsActs w v1 L1) (h2 : IsActs w v2 L2) (he : L1.map (·.1) = L2.map (·.1)) :
    Calls Tryd.prog 13 #[v1, v2] w fun e w' => e = .returned (.bool true) ∧ Below w.heap.size w w' := by
  have hl : L1.length = L2.length := by have := congrArg List.length he; simpa using this
  have hat : ∀ j (h1 : j < L1.length) (h2 : j < L2.length), L1[j].1 = L2[j].1 := fun j h1 h2 => by
    have := congrArg (fun l => l[j]?) he
    simp only [List.getElem?_map, List.getElem?_eq_getElem h1, List.getElem?_eq_getElem h2, Option.map_some, Option.some.injEq] at this
    exact this
  obtain ⟨hc1, hr1⟩ := h1
  obtain ⟨hc2, hr2⟩ := h2
  rcases hc1 with ⟨rfl, rfl⟩ | ⟨a1, c1, rfl, hc11, hc12, hcells1⟩
  · have hn : L2 = [] := List.eq_nil_of_length_eq_zero (by rw [← hl]; rfl)
    subst hn
    have hv2 : ∃ a c, v2 = Value.slice a 0 c := by
      rcases hc2 with ⟨h, _⟩ | ⟨a2, c2, h, _⟩
      · exact ⟨_, _, h⟩
      · exact ⟨_, _, h⟩
    obtain ⟨a, c, rfl⟩ := hv2
    clear hc2 hr1 hr2 hat he hl
    go_enter Tryd.func13, Tryd.ntmps13
    go_wp2_with fail
    go_loopw [5] (fun iv wr => iv = .int .i64 0 ∧ wr = w) (fun _ _ => 0)
    case atStart => exact ⟨rfl, rfl⟩
    case round =>
      obtain ⟨rfl, rfl⟩ := hrel
      go_wp2_with fail
      go_ret
      exact ⟨rfl, Below.refl _ _⟩
  rcases hc2 with ⟨rfl, h0⟩ | ⟨a2, c2, rfl, hc21, hc22, hcells2⟩
  · have hn : L1.length = 0 := by rw [hl, h0]; rfl
    have HN := Lib.hid hn
    rw [hn]
    clear hcells1 hr1 hr2 hat he hl hc11 hc12 h0
    go_enter Tryd.func13, Tryd.ntmps13
    go_wp2_with fail
    go_loopw [5] (fun iv wr => iv = .int .i64 0 ∧ wr = w) (fun _ _ => 0)
    case atStart => exact ⟨rfl, rfl⟩
    case round =>
      obtain ⟨rfl, rfl⟩ := hrel
      go_wp2_with fail
      go_ret
      exact ⟨rfl, Below.refl _ _⟩
  have HC1 := Lib.hid hcells1
  have HC2 := Lib.hid hcells2
  have HR1 := Lib.hid hr1
  have HR2 := Lib.hid hr2
  have HAT := Lib.hid hat
  have HL := Lib.hid hl
  rw [← hl]
  rw [← hl] at hc21
  clear hcells1 hcells2 hr1 hr2 hat he hl
  go_enter Tryd.func13, Tryd.ntmps13
  go_wp2_with fail
  go_loopw [5] (fun iv wr => ∃ k : Nat, k ≤ L1.length ∧ iv = .int .i64 k ∧ Below w.heap.size w wr) (fun iv _ => L1.length - (intOf iv).toNat)
  case atStart => exact ⟨0, Nat.zero_le _, rfl, Below.refl _ _⟩
  case round =>
    obtain ⟨k, hk, rfl, hb⟩ := hrel
    have HB := Lib.hid hb
    clear hb
    by_cases hlt : k < L1.length
    · have hlt2 : k < L2.length := by rw [← HL.out]; exact hlt
      obtain ⟨q0, q1, q2, q3, q4, q5⟩ := HC1.out k hlt
      obtain ⟨r0, r1, r2, r3, r4, r5⟩ := HC2.out k hlt2
      have he := HAT.out k hlt hlt2
      have hrd1 := HR1.out _ (List.getElem_mem hlt)
      have hrd2 := HR2.out _ (List.getElem_mem hlt2)
      generalize L1[k] = x at *
      generalize L2[k] = y at *
      obtain ⟨⟨kind, rune, byte, params, inter, text⟩, vp1⟩ := x
      obtain ⟨y1, vp2⟩ := y
      dsimp only at he
      subst he
      dsimp only at q0 q1 q2 q3 q4 q5 r0 r1 r2 r3 r4 r5 hrd1 hrd2
      have p0 := cell_below HB.out q0
      have p1 := cell_below HB.out q1
      have p2 := cell_below HB.out q2
      have p3 := cell_below HB.out q3
      have p4 := cell_below HB.out q4
      have p5 := cell_below HB.out q5
      have s0 := cell_below HB.out r0
      have s1 := cell_below HB.out r1
      have s2 := cell_below HB.out r2
      have s3 := cell_below HB.out r3
      have s4 := cell_below HB.out r4
      have s5 := cell_below HB.out r5
      clear q0 q1 q2 q3 q4 q5 r0 r1 r2 r3 r4 r5
      have HBd := Lib.hid (show Below w.heap.size w wr.drew from HB.out.drew)
      have HS := Lib.hid (same_eq ⟨kind, rune, byte, params, inter, text⟩ vp1 vp2 wr.drew (isRd_below hrd1 HBd.out) (isRd_below hrd2 HBd.out))
      unfold VAct.val at HS
      dsimp only at HS
      clear hrd1 hrd2
      go_upto_region 6 with fail
      go_still_tail 8, (by kernel_rfl)
      change wpList _ _ _ _ _ wr.drew
      generalize hwd : wr.drew = wd at *
      go_wp2_with fail
      refine HS.out.mono ?_
      rintro e w2 ⟨rfl, b2⟩
      have HB2 := Lib.hid (HBd.out.trans (b2.mono HBd.out.size))
      clear b2
      go_wp2_with fail
      go_roundw
      case rel => exact ⟨k + 1, by omega, by go_num, HB2.out⟩
      case measure => simp [intOf]; omega
    · go_wp2_with fail
      go_ret
      exact ⟨rfl, HB.out⟩
end Go.Proofs.YtkdicejlfagaeaaDoor
