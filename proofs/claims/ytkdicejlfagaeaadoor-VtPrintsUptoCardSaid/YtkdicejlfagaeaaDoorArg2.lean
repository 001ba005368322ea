/- A law's argument that is a slice of actions, opened. -/
import Derived.Test.YtkdicejlfagaeaaDoorArg
import Derived.Test.YtkdicejlfagaeaaDoorL1
import Derived.Test.YtkdicejlfagaeaaDoorV8
namespace Go.Proofs.YtkdicejlfagaeaaDoor
open Go.ChangeShapes Go.WideShapes Go.ChangeAt Go.RowKit Go.ChangeMaps

theorem mapM_range6 {f : Nat → Option Value} {cs : List Value} (h : (List.range 6).mapM f = some cs) : ∃ c0 c1 c2 c3 c4 c5, cs = [c0, c1, c2, c3, c4, c5] ∧ f 0 = some c0 ∧ f 1 = some c1 ∧ f 2 = some c2 ∧ f 3 = some c3 ∧ f 4 = some c4 ∧ f 5 = some c5 := by
  rw [show List.range 6 = [0, 1, 2, 3, 4, 5] from rfl] at h
  simp only [List.mapM_cons, List.mapM_nil, Option.pure_def, Option.bind_eq_bind, Option.bind_eq_some_iff, Option.some.injEq] at h
  obtain ⟨c0, h0, _, ⟨c1, h1, _, ⟨c2, h2, _, ⟨c3, h3, _, ⟨c4, h4, _, ⟨c5, h5, _, rfl, rfl⟩, rfl⟩, rfl⟩, rfl⟩, rfl⟩, rfl⟩ := h
  exact ⟨c0, c1, c2, c3, c4, c5, rfl, h0, h1, h2, h3, h4, h5⟩
theorem bulk_mem {H : Type} : ∀ (l : List (DataW H)) (d : DataW H), d ∈ l → Rows.uptoBulk d ≤ Rows.uptoBulkAll l
  | x :: l, d, h => by
    simp only [Rows.uptoBulkAll]
    rcases List.mem_cons.1 h with rfl | h
    · omega
    · have := bulk_mem l d h; omega
theorem cellsOf_int : Tryd.prog.cellsOf 3 = 1 := by kernel_rfl
theorem cellsOf_rune : Tryd.prog.cellsOf 21 = 1 := by kernel_rfl
theorem cellsOf_byte : Tryd.prog.cellsOf 5 = 1 := by kernel_rfl
theorem cellsOf_ints : Tryd.prog.cellsOf 28 = 1 := by kernel_rfl
theorem cellsOf_str : Tryd.prog.cellsOf 9 = 1 := by kernel_rfl
theorem cellsOf_act : Tryd.prog.cellsOf 37 = 6 := by kernel_rfl
theorem six {α : Type} {l : List α} (h : l.length = 6) : ∃ c0 c1 c2 c3 c4 c5, l = [c0, c1, c2, c3, c4, c5] := by
  match l, h with
  | [c0, c1, c2, c3, c4, c5], _ => exact ⟨c0, c1, c2, c3, c4, c5, rfl⟩
set_option maxHeartbeats 1000000 in
theorem open_action {H : Type} {enc : TypeId × Value → H} {W : World} {fuel : Nat} {cs : List Value} {x : DataW H × List MemPlace}
    (h : DataW.trod enc Tryd.prog W 0 (fun _ => true) true fuel 37 cs = some x) :
    ∃ (a : VAct) (v : Value), cs = a.cells v ∧ IsRd .i64 W v a.params ∧ -2147483648 ≤ a.rune ∧ a.rune ≤ 2147483647 ∧ a.inter.size ≤ Rows.uptoBulk x.1 ∧ a.text.size ≤ Rows.uptoBulk x.1 := by
  obtain ⟨xs, n, rfl, rfl, hl, hxl, hf⟩ := DataW.trod_struct Tryd.underlying37 h
  rw [cellsOf_act] at hl
  obtain ⟨c0, c1, c2, c3, c4, c5, rfl⟩ := six hl
  obtain ⟨y0, y1, y2, y3, y4, y5, rfl⟩ := six hxl
  have h0 : DataW.trod enc Tryd.prog W 0 (fun _ => true) true n 3 (([c0, c1, c2, c3, c4, c5].drop 0).take (Tryd.prog.cellsOf 3)) = some y0 := hf 0 _ rfl
  rw [cellsOf_int] at h0
  have h1 : DataW.trod enc Tryd.prog W 0 (fun _ => true) true n 21 (([c0, c1, c2, c3, c4, c5].drop 1).take (Tryd.prog.cellsOf 21)) = some y1 := hf 1 _ rfl
  rw [cellsOf_rune] at h1
  have h2 : DataW.trod enc Tryd.prog W 0 (fun _ => true) true n 5 (([c0, c1, c2, c3, c4, c5].drop 2).take (Tryd.prog.cellsOf 5)) = some y2 := hf 2 _ rfl
  rw [cellsOf_byte] at h2
  have h3 : DataW.trod enc Tryd.prog W 0 (fun _ => true) true n 28 (([c0, c1, c2, c3, c4, c5].drop 3).take (Tryd.prog.cellsOf 28)) = some y3 := hf 3 _ rfl
  rw [cellsOf_ints] at h3
  have h4 : DataW.trod enc Tryd.prog W 0 (fun _ => true) true n 9 (([c0, c1, c2, c3, c4, c5].drop 4).take (Tryd.prog.cellsOf 9)) = some y4 := hf 4 _ rfl
  rw [cellsOf_str] at h4
  have h5 : DataW.trod enc Tryd.prog W 0 (fun _ => true) true n 9 (([c0, c1, c2, c3, c4, c5].drop 5).take (Tryd.prog.cellsOf 9)) = some y5 := hf 5 _ rfl
  rw [cellsOf_str] at h5
  simp only [List.drop_zero, List.drop_succ_cons, List.take_succ_cons, List.take_zero] at h0 h1 h2 h3 h4 h5
  obtain ⟨z0, e0, _, _⟩ := DataW.trod_int Tryd.underlying3 h0
  obtain ⟨z1, e1, _, w1⟩ := DataW.trod_int Tryd.underlying21 h1
  obtain ⟨z2, e2, _, w2⟩ := DataW.trod_int Tryd.underlying5 h2
  obtain ⟨s4, e4, x4, _⟩ := DataW.trod_string Tryd.underlying9 h4
  obtain ⟨s5, e5, x5, _⟩ := DataW.trod_string Tryd.underlying9 h5
  subst x4
  subst x5
  have hs : ∃ a len cap, c3 = Value.slice a len cap := by
    rcases DataW.trod_slice Tryd.underlying28 h3 with ⟨e, _⟩ | ⟨a, len, cap, _, _, _, _, e, _⟩
    · exact ⟨_, _, _, by simpa using e⟩
    · exact ⟨_, _, _, by simpa using e⟩
  obtain ⟨a3, l3, k3, rfl⟩ := hs
  obtain ⟨zs, harg, _⟩ := open_arg (k := .i64) (e := 3) Tryd.underlying28 Tryd.underlying3 cellsOf_int (x := y3) (a := a3) (len := l3) (cap := k3) (by simpa [Value.cells] using h3)
  have hw1 : -2147483648 ≤ z1 ∧ z1 ≤ 2147483647 := by
    simp only [Lit.wf, Bool.and_eq_true, decide_eq_true_eq] at w1
    exact w1
  have hw2 : 0 ≤ z2 ∧ z2 ≤ 255 := by
    simp only [Lit.wf, Bool.and_eq_true, decide_eq_true_eq] at w2
    exact w2
  have hb : ((UInt8.ofNat z2.toNat).toNat : Int) = z2 := by
    rw [byte_of _ (by omega)]; omega
  simp only [List.cons.injEq, and_true] at e0 e1 e2 e4 e5
  subst e0 e1 e2 e4 e5
  refine ⟨⟨z0, z1, UInt8.ofNat z2.toNat, zs, s4, s5⟩, .slice a3 l3 k3, by simp only [VAct.cells, hb], isRd_arg harg, hw1.1, hw1.2, ?_, ?_⟩
  · have := bulk_mem ([y0, y1, y2, y3, ((.lit (.string s4.data.toList), []) : DataW H × List MemPlace), (.lit (.string s5.data.toList), [])].map (·.1)) (.lit (.string s4.data.toList)) (by simp)
    simp only [Rows.uptoBulk] at this ⊢
    rw [size_eq'] at this
    show s4.size ≤ _
    omega
  · have := bulk_mem ([y0, y1, y2, y3, ((.lit (.string s4.data.toList), []) : DataW H × List MemPlace), (.lit (.string s5.data.toList), [])].map (·.1)) (.lit (.string s5.data.toList)) (by simp)
    simp only [Rows.uptoBulk] at this ⊢
    rw [size_eq'] at this
    show s5.size ≤ _
    omega
set_option maxHeartbeats 1000000 in
theorem open_acts {H : Type} {enc : TypeId × Value → H} {W : World} {fuel : Nat} {a : Option Addr} {len cap : Nat} {x : DataW H × List MemPlace}
    (h : DataW.trod enc Tryd.prog W 0 (fun _ => true) true fuel 22 (Value.slice a len cap).cells.toList = some x) :
    ∃ L, IsActs W (.slice a len cap) L ∧ (∀ y ∈ L, -2147483648 ≤ y.1.rune ∧ y.1.rune ≤ 2147483647 ∧ y.1.inter.size ≤ Rows.uptoBulk x.1 ∧ y.1.text.size ≤ Rows.uptoBulk x.1) ∧ L.length ≤ Rows.uptoBulk x.1 := by
  rcases DataW.trod_slice Tryd.underlying22 h with ⟨hcs, hx⟩ | ⟨ad, l, c, elems, rest, n, hfu, hcs, hx, _, hlc, hcm, hel, hat, _, _⟩
  · simp [Value.cells] at hcs
    obtain ⟨rfl, rfl, rfl⟩ := hcs
    exact ⟨[], ⟨.inl ⟨rfl, rfl⟩, fun _ h => by simp at h⟩, fun _ h => by simp at h, Nat.zero_le _⟩
  · simp [Value.cells] at hcs
    obtain ⟨rfl, rfl, rfl⟩ := hcs
    have hone : ∀ i, i < len → ∃ y : VAct × Value, (∀ j u, (y.1.cells y.2)[j]? = some u → W.cell? ((ad.add (i * 6)).add j) = some u) ∧ IsRd .i64 W y.2 y.1.params ∧ -2147483648 ≤ y.1.rune ∧ y.1.rune ≤ 2147483647 ∧ y.1.inter.size ≤ Rows.uptoBulk x.1 ∧ y.1.text.size ≤ Rows.uptoBulk x.1 := by
      intro i hi
      have h1 := hat i hi
      rw [cellsOf_act, List.getElem?_eq_getElem (by omega)] at h1
      obtain ⟨cs, hc, ht⟩ := Option.bind_eq_some_iff.1 h1
      obtain ⟨y, v, hy, hr, r0, r1, b1, b2⟩ := open_action ht
      have hbk : Rows.uptoBulk elems[i].1 ≤ Rows.uptoBulk x.1 := by
        rw [hx]
        simp only [Rows.uptoBulk]
        have := bulk_mem (elems.map (·.1)) elems[i].1 (List.mem_map_of_mem (List.getElem_mem (by omega)))
        omega
      unfold World.cells? at hc
      rw [if_pos (Nat.zero_le _)] at hc
      obtain ⟨c0, c1, c2, c3, c4, c5, e, g0, g1, g2, g3, g4, g5⟩ := mapM_range6 hc
      rw [hy] at e
      refine ⟨(y, v), fun j u hu => ?_, hr, r0, r1, Nat.le_trans b1 hbk, Nat.le_trans b2 hbk⟩
      dsimp only at hu
      rw [e] at hu
      match j, hu with
      | 0, hu => rw [g0]; simpa using hu
      | 1, hu => rw [g1]; simpa using hu
      | 2, hu => rw [g2]; simpa using hu
      | 3, hu => rw [g3]; simpa using hu
      | 4, hu => rw [g4]; simpa using hu
      | 5, hu => rw [g5]; simpa using hu
    have hall : ∀ m, m ≤ len → ∃ L : List (VAct × Value), L.length = m ∧ (∀ i (hi : i < L.length), ∀ j u, (L[i].1.cells L[i].2)[j]? = some u → W.cell? ((ad.add (i * 6)).add j) = some u) ∧ (∀ y ∈ L, IsRd .i64 W y.2 y.1.params) ∧ ∀ y ∈ L, -2147483648 ≤ y.1.rune ∧ y.1.rune ≤ 2147483647 ∧ y.1.inter.size ≤ Rows.uptoBulk x.1 ∧ y.1.text.size ≤ Rows.uptoBulk x.1 := by
      intro m
      induction m with
      | zero => intro _; exact ⟨[], rfl, fun i hi => absurd hi (by simp), fun _ h => by simp at h, fun _ h => by simp at h⟩
      | succ m ih =>
        intro hm
        obtain ⟨L, hL, hc, hr, hb⟩ := ih (by omega)
        obtain ⟨y, hy, hyr, hyb⟩ := hone m (by omega)
        refine ⟨L ++ [y], by simp [hL], fun i hi j u hu => ?_, fun z hz => ?_, fun z hz => ?_⟩
        · by_cases hlt : i < L.length
          · rw [List.getElem_append_left hlt] at hu
            exact hc i hlt j u hu
          · have hi' : i = m := by rw [List.length_append, hL] at hi; simp at hi; omega
            subst hi'
            rw [List.getElem_append_right (by omega)] at hu
            simp only [hL, Nat.sub_self, List.getElem_singleton] at hu
            exact hy j u hu
        · rcases List.mem_append.1 hz with h | h
          · exact hr z h
          · rw [List.mem_singleton] at h; subst h; exact hyr
        · rcases List.mem_append.1 hz with h | h
          · exact hb z h
          · rw [List.mem_singleton] at h; subst h; exact hyb
    obtain ⟨L, hL, hc, hr, hb⟩ := hall len (Nat.le_refl _)
    refine ⟨L, ⟨.inr ⟨ad, cap, by rw [hL], by rw [hL]; exact hlc, by unfold maxLen at hcm; exact hcm, fun j hj => ?_⟩, hr⟩, hb, ?_⟩
    · have k0 := hc j hj 0 _ rfl
      have k1 := hc j hj 1 _ rfl
      have k2 := hc j hj 2 _ rfl
      have k3 := hc j hj 3 _ rfl
      have k4 := hc j hj 4 _ rfl
      have k5 := hc j hj 5 _ rfl
      exact ⟨k0, k1, k2, k3, k4, k5⟩
    · rw [hL, hx]
      simp only [Rows.uptoBulk]
      have := bulk_len (elems.map (·.1))
      rw [List.length_map] at this
      omega
end Go.Proofs.YtkdicejlfagaeaaDoor
