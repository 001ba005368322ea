/- The walk of the law VtBounds. -/
import Derived.Test.YtkdicejlfagaeaaDoorL1
import Derived.Test.YtkdicejlfagaeaaDoorP7
namespace Go.Proofs.YtkdicejlfagaeaaDoor
open Go.RowKit

theorem add_zero' (a : Addr) : a.add 0 = a := by simp [Addr.add]
theorem isActs_one {w : World} {a : Addr} {n c : Nat} {L : List (VAct × Value)} (h : IsActs w (.slice (some a) n c) L) (k : Nat) (hk : k < L.length) : IsActs w (.slice (some (a.add (k * 6))) 1 (c - k)) [L[k]] := by
  obtain ⟨h1, h2⟩ := h
  rcases h1 with ⟨h, _⟩ | ⟨a', c', e, hc, hm, hx⟩
  · simp at h
  · simp only [Value.slice.injEq, Option.some.injEq] at e
    obtain ⟨rfl, rfl, rfl⟩ := e
    refine ⟨.inr ⟨a.add (k * 6), c - k, rfl, by show 1 ≤ _; omega, by omega, fun j hj => ?_⟩, fun x hx' => ?_⟩
    · have e0 : j = 0 := by simpa using hj
      subst e0
      rw [Nat.zero_mul, add_zero']
      exact hx k hk
    · rw [List.mem_singleton] at hx'
      subst hx'
      exact h2 _ (List.getElem_mem hk)
theorem act_size (wx : World) : (sizeOf 37).run Tryd.prog wx = .ok 6 wx := by
  have hs : (Tryd.prog.info? 37).map (·.size) = some 6 := by kernel_rfl
  obtain ⟨i, hi, hi2⟩ := Option.map_eq_some_iff.1 hs
  simp [sizeOf, typeInfo, hi, hi2]
theorem slice_one (a : Addr) (n c k : Nat) (h1 : k < n) (h2 : n ≤ c) (wx : World) :
    (Instr.slice 22 (.slice (some a) n c) (some (.int .i64 (k : Int))) (some (.int .i64 ((k : Int) + 1))) none).run Tryd.prog wx = .ok (.slice (some (a.add (k * 6))) 1 (c - k)) wx := by
  have hel : Tryd.prog.elem 22 = 37 := by kernel_rfl
  have ek : ((k : Int) + 1).toNat = k + 1 := by omega
  rw [run_slice_lh wx 22 _ _ c (elem_of Tryd.underlying22) .i64 .i64 _ _ (by omega) (by omega) (by omega), hel, act_size, Int.toNat_natCast, ek]
  show Result.ok (sliced (some a) k (k + 1) c 6) wx = _
  unfold sliced
  rw [if_neg (by omega), Nat.add_sub_cancel_left]
  rfl
theorem bnd_fits {a : VAct} (h : ABnd a) : ActFits a := by
  have h1 := h.il; have h2 := h.tl; have h3 := h.rn
  exact ⟨by omega, by omega, by omega, by omega⟩
set_option maxRecDepth 100000 in
set_option maxHeartbeats 8000000 in
theorem vtBounds_walk (a0 : ByteArray) (w : World) (htab : Tab Tryd.prog w) (w0 : a0.size ≤ maxLen) :
    Calls Tryd.prog 6 #[.string a0] w fun e w' => e = .returned (.bool true) ∧ Below w.heap.size w w' := by
  have HTAB := Lib.hid htab
  clear htab
  go_enter Tryd.func6, Tryd.ntmps6
  go_wp2_with fail
  refine (shown_any _ HTAB.out).mono ?_
  rintro e w2 ⟨rfl, b2⟩
  have HB2 := Lib.hid b2
  clear b2
  go_wp2_with fail
  refine (new_any _).mono ?_
  rintro e w3 ⟨p, Tp, rfl, b3, hp3, ht3⟩
  have HB3 := Lib.hid (HB2.out.trans (b3.mono HB2.out.size))
  have HP3 := Lib.hid hp3
  have HTp := Lib.hid (show ∀ k, Tp k ≠ 0 → w.heap.size ≤ k from fun k hk => Nat.le_trans HB2.out.size (ht3 k hk))
  clear b3 hp3 ht3 HB2
  by_cases hs : a0.size ≤ 50000
  rotate_left
  · have hs' : decide (50000 < (a0.size : Int)) = true := decide_eq_true (by omega)
    have hs2 : decide (50000 < a0.size) = true := decide_eq_true (by omega)
    go_wp2_with fail
    go_ret
    exact ⟨rfl, HB3.out⟩
  have hs' : decide (50000 < (a0.size : Int)) = false := decide_eq_false (by omega)
  have hs2 : decide (50000 < a0.size) = false := decide_eq_false (by omega)
  obtain ⟨v5, w5, hcv5, b5, hrow5⟩ := conv_row w3 a0 w0
  have HR5 := Lib.hid (hrow5 Tp p s0 HP3.out)
  have HB5 := Lib.hid (HB3.out.trans (b5.mono HB3.out.size))
  have HP5 := Lib.hid (HP3.out.below b5)
  have HF5 := Lib.hid (feed_acts v5 a0.data.toList HP5.out HR5.out (by rw [size_eq']; omega))
  clear b5 hrow5 HP3
  go_wp2_with fail
  refine HF5.out.mono ?_
  rintro e w6 ⟨va, Tp6, La, rfl, ha6, hw6, ht6, hr6, hac6, ho6, hx6⟩
  have HB6 := Lib.hid (HB5.out.trans (own_below hw6 HB5.out.size HTp.out))
  have HT6 := Lib.hid (tab_go HTAB.out HB6.out)
  obtain ⟨hgood, hln⟩ := told_good a0.data.toList
  have hla : La.length ≤ a0.size := by
    have := congrArg List.length ha6
    rw [List.length_map] at this
    rw [size_eq'] at hln
    omega
  have HG := Lib.hid (show ∀ x ∈ La, ABnd x.1 from fun x hx => (hgood x.1 (by
    have : x.1 ∈ La.map (·.1) := List.mem_map_of_mem hx
    rw [ha6] at this; exact this)).bnd)
  have HI := Lib.hid hac6.isActs
  obtain ⟨hform, hrds⟩ := hac6.isActs
  clear hw6 ht6 hr6 hac6 ho6 hx6 ha6 hgood hln HF5 HR5 HP5 HTp HB5 hcv5 HTAB
  rcases hform with ⟨rfl, rfl⟩ | ⟨a, c, rfl, hnc, hcm, hcells⟩
  · go_wp2_with fail
    go_loopw [6] (fun iv wr => iv = .int .i64 0 ∧ wr = w6) (fun _ _ => 0)
    case atStart => exact ⟨rfl, rfl⟩
    case round =>
      obtain ⟨rfl, rfl⟩ := hrel
      go_wp2_with fail
      go_ret
      exact ⟨rfl, HB6.out⟩
  have HC := Lib.hid hcells
  have HR := Lib.hid hrds
  have hla1 : decide ((a0.size : Int) < (La.length : Int)) = false := decide_eq_false (by omega)
  have hla2 : decide (a0.size < La.length) = false := decide_eq_false (by omega)
  clear hcells hrds
  go_wp2_with fail
  go_loopw [6] (fun iv wr => ∃ k : Nat, k ≤ La.length ∧ iv = .int .i64 k ∧ Below w6.heap.size w6 wr) (fun iv _ => La.length - (intOf iv).toNat)
  case atStart => exact ⟨0, Nat.zero_le _, rfl, Below.refl _ _⟩
  case round =>
    obtain ⟨k, hk, rfl, hb⟩ := hrel
    have HB := Lib.hid hb
    clear hb
    have hbs := HB.out.size
    by_cases hlt : k < La.length
    · have hsl := slice_one a La.length c k hlt hnc
      obtain ⟨q0, q1, q2, q3, q4, q5⟩ := HC.out k hlt
      have hbnd := HG.out _ (List.getElem_mem hlt)
      have hrdk := HR.out _ (List.getElem_mem hlt)
      have HONE := Lib.hid (isActs_one HI.out k hlt)
      generalize La[k] = x at *
      obtain ⟨⟨kind, rune, byte, params, inter, text⟩, vp⟩ := x
      dsimp only at q0 q1 q2 q3 q4 q5 hbnd hrdk
      have p0 := cell_below HB.out q0
      have p1 := cell_below HB.out q1
      have p2 := cell_below HB.out q2
      have p3 := cell_below HB.out q3
      have p4 := cell_below HB.out q4
      have p5 := cell_below HB.out q5
      clear q0 q1 q2 q3 q4 q5
      have HBN := Lib.hid hbnd
      have d1 : decide (kind < 1) = false := decide_eq_false (by have := hbnd.k.1; dsimp only at this; omega)
      have d2 : decide (6 < kind) = false := decide_eq_false (by have := hbnd.k.2; dsimp only at this; omega)
      have d3 : decide (32 < (params.length : Int)) = false := decide_eq_false (by have := hbnd.pl; dsimp only at this; omega)
      have d3' : decide (32 < params.length) = false := decide_eq_false (by have := hbnd.pl; dsimp only at this; omega)
      have d4 : decide (1024 < (text.size : Int)) = false := decide_eq_false (by have := hbnd.tl; dsimp only at this; omega)
      have d4' : decide (1024 < text.size) = false := decide_eq_false (by have := hbnd.tl; dsimp only at this; omega)
      have d5 : decide (3 < (inter.size : Int)) = false := decide_eq_false (by have := hbnd.il; dsimp only at this; omega)
      have d5' : decide (3 < inter.size) = false := decide_eq_false (by have := hbnd.il; dsimp only at this; omega)
      have HPR := Lib.hid (show ∀ x ∈ params, -1 ≤ x ∧ x ≤ 9999 from hbnd.pr)
      have HFIT := Lib.hid (show ∀ x ∈ [((⟨kind, rune, byte, params, inter, text⟩ : VAct), vp)], ActFits x.1 from fun x hx => by
        rw [List.mem_singleton] at hx; subst hx; exact bnd_fits hbnd)
      have hwr : 0 < (prL ([((⟨kind, rune, byte, params, inter, text⟩ : VAct), vp)].map (·.1))).length := by
        show 0 < (wrL _ ++ []).length
        rw [List.append_nil]; exact hbnd.wr
      clear hbnd
      generalize hpl : (prL ([((⟨kind, rune, byte, params, inter, text⟩ : VAct), vp)].map (·.1))) = pl at *
      obtain ⟨va, vn, vc, rfl⟩ : ∃ a n c, vp = Value.slice a n c := by
        rcases hrdk with ⟨h, _⟩ | ⟨a', c', h, _⟩
        · exact ⟨_, _, _, h⟩
        · exact ⟨_, _, _, h⟩
      have hlen := rd_len Tryd.underlying28 hrdk
      have HB2 := Lib.hid (HB.out.alloc hbs (.cells #[.int .i64 kind, .int .i32 rune, .int .u8 (byte.toNat : Int), .slice va vn vc, .string inter, .string text] 37))
      have HRD := Lib.hid (isRd_below hrdk HB2.out)
      clear hrdk
      have ne0 : ((pl.length : Int) == 0) = false := beq_eq_false_iff_ne.2 (by omega)
      go_wp2_with fail
      go_loopw [8] (fun iv wx => ∃ i n : Nat, i ≤ params.length ∧ iv = .int .i64 i ∧ wx = (wr.alloc (.cells #[.int .i64 kind, .int .i32 rune, .int .u8 (byte.toNat : Int), .slice va vn vc, .string inter, .string text] 37)).drewN n) (fun iv _ => params.length - (intOf iv).toNat)
      case atStart => exact ⟨0, 0, Nat.zero_le _, rfl, rfl⟩
      case round =>
        obtain ⟨i, n, hi, rfl, rfl⟩ := hrel
        have hsm := rd_small HRD.out
        by_cases hlt2 : i < params.length
        · obtain ⟨ap, had, hcp⟩ := rd_at Tryd.underlying28 (by kernel_rfl) HRD.out i hlt2
          have hx := HPR.out (params.getD i 0) (List.mem_of_getElem? (getD_of params i hlt2))
          generalize params.getD i 0 = x at *
          have k1 : decide (x < -1) = false := decide_eq_false (by omega)
          have k2 : decide (9999 < x) = false := decide_eq_false (by omega)
          go_wp2_with fail
          go_roundw
          case rel => exact ⟨i + 1, _, by omega, by go_num, rfl⟩
          case measure => simp [intOf]; omega
        · go_wp2_with fail
          have HB3 := Lib.hid (below_drewN HB2.out n)
          generalize hwd : World.drewN _ n = wd at *
          have HPT := Lib.hid (print_any _ _ wd (isActs_below HONE.out HB3.out) HFIT.out (by show 1 ≤ 8388608; decide) (tab_go HT6.out HB3.out))
          rw [hpl] at HPT
          refine HPT.out.mono ?_
          rintro e w9 ⟨r, rfl, o9, b9⟩
          have hrl : ∀ (ty : TypeId) (wx : World), (Builtin.len_ #[24] ty #[r]).run Tryd.prog wx = .ok (.int .i64 pl.length) wx := ownC_len Tryd.underlying24 o9
          have HB9 := Lib.hid (HB3.out.trans (b9.mono HB3.out.size))
          clear o9 b9
          go_wp2_with fail
          go_roundw
          case rel => exact ⟨k + 1, by omega, by go_num, HB9.out⟩
          case measure => simp [intOf]; omega
    · go_wp2_with fail
      go_ret
      exact ⟨rfl, HB6.out.trans (HB.out.mono HB6.out.size)⟩
end Go.Proofs.YtkdicejlfagaeaaDoor
