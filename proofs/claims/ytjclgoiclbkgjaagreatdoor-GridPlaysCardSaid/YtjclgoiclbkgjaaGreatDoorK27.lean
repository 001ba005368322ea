/- Package grid, texts laid together: Arg ArgO E6 N23 N24 N25. -/
import Derived.Test.YtjclgoiclbkgjaaGreatDoorRows
import Derived.Test.YtjclgoiclbkgjaaGreatDoorK1
import Derived.ProofKit
import Derived.WalkKit
import Derived.OpenShut
import Derived.JoinedCond
import Derived.Test.YtjclgoiclbkgjaaGreatDoorK26
import Derived.Test.YtjclgoiclbkgjaaGreatDoorK19
import Derived.Test.YtjclgoiclbkgjaaGreatDoorK25
import Derived.Deep.CutBlock
/- Arguments of a law, opened. -/
namespace Go.Proofs.YtjclgoiclbkgjaaGreatDoor
open Go.ChangeShapes Go.WideShapes Go.ChangeAt Go.RowKit Go.ChangeMaps

theorem bulk_pos {H : Type} (d : DataW H) : 1 ≤ Rows.uptoBulk d := by
  cases d with
  | lit l => cases l <;> simp [Rows.uptoBulk]
  | nil => simp [Rows.uptoBulk]
  | ptr d => simp [Rows.uptoBulk]
  | slice elems spare => simp [Rows.uptoBulk]
  | agg parts => simp [Rows.uptoBulk]
  | iface t d => simp [Rows.uptoBulk]
  | map entries => simp [Rows.uptoBulk]
  | held h => simp [Rows.uptoBulk]
theorem bulk_len {H : Type} (l : List (DataW H)) : l.length ≤ Rows.uptoBulkAll l := by
  induction l with
  | nil => simp [Rows.uptoBulkAll]
  | cons x r ih => have := bulk_pos x; simp only [Rows.uptoBulkAll, List.length_cons]; omega

end Go.Proofs.YtjclgoiclbkgjaaGreatDoor

/- An argument that is a slice of calls (Op), opened. -/
namespace Go.Proofs.YtjclgoiclbkgjaaGreatDoor
open Go.ChangeShapes Go.WideShapes Go.ChangeAt Go.RowKit Go.ChangeMaps

def I64 (x : Int) : Prop := -9223372036854775808 ≤ x ∧ x ≤ 9223372036854775807
/-- A call of a script. -/
structure OpR where
  kind : Int
  x : Int
  y : Int
  n : Int
  m : Int
  c : Cel
  is : Bool
def OpR.cells (o : OpR) : List Value := [.int .i64 o.kind, .int .i64 o.x, .int .i64 o.y, .int .i64 o.n, .int .i64 o.m, .int .i32 o.c.rune, .int .i64 o.c.width, .int .i64 o.c.sty.fg, .int .i64 o.c.sty.bg, .int .i64 o.c.sty.attr, .bool o.is]
structure OpR.Ok (o : OpR) : Prop where
  kind : I64 o.kind
  x : I64 o.x
  y : I64 o.y
  n : I64 o.n
  m : I64 o.m
  r : -2147483648 ≤ o.c.rune ∧ o.c.rune ≤ 2147483647
  w : I64 o.c.width
  fg : I64 o.c.sty.fg
  bg : I64 o.c.sty.bg
  at' : I64 o.c.sty.attr
def IsOps (w : World) (v : Value) (l : List OpR) : Prop :=
  (v = .slice none 0 0 ∧ l = []) ∨ ∃ (a : Addr) (c : Nat), v = .slice (some a) l.length c ∧ l.length ≤ c ∧ c ≤ 9223372036854775807 ∧
    ∀ j (hj : j < l.length), ∀ i u, l[j].cells[i]? = some u → w.cell? ((a.add (j * 11)).add i) = some u
theorem isOps_below {w w' : World} {v : Value} {l : List OpR} (h : IsOps w v l) (g : Below w.heap.size w w') : IsOps w' v l := by
  rcases h with h | ⟨a, c, h1, h2, h3, h4⟩
  · exact .inl h
  · exact .inr ⟨a, c, h1, h2, h3, fun j hj i u hu => cell_below g (h4 j hj i u hu)⟩
theorem mapM_range11 {f : Nat → Option Value} {cs : List Value} (h : (List.range 11).mapM f = some cs) : ∀ i u, cs[i]? = some u → f i = some u := by
  rw [show List.range 11 = [0, 1, 2, 3, 4, 5, 6, 7, 8, 9, 10] from rfl] at h
  simp only [List.mapM_cons, List.mapM_nil, Option.pure_def, Option.bind_eq_bind, Option.bind_eq_some_iff, Option.some.injEq] at h
  obtain ⟨c0, h0, _, ⟨c1, h1, _, ⟨c2, h2, _, ⟨c3, h3, _, ⟨c4, h4, _, ⟨c5, h5, _, ⟨c6, h6, _, ⟨c7, h7, _, ⟨c8, h8, _, ⟨c9, h9, _, ⟨c10, h10, _, rfl, rfl⟩, rfl⟩, rfl⟩, rfl⟩, rfl⟩, rfl⟩, rfl⟩, rfl⟩, rfl⟩, rfl⟩, rfl⟩ := h
  intro i u hu
  match i, hu with
  | 0, hu => rw [h0]; simpa using hu
  | 1, hu => rw [h1]; simpa using hu
  | 2, hu => rw [h2]; simpa using hu
  | 3, hu => rw [h3]; simpa using hu
  | 4, hu => rw [h4]; simpa using hu
  | 5, hu => rw [h5]; simpa using hu
  | 6, hu => rw [h6]; simpa using hu
  | 7, hu => rw [h7]; simpa using hu
  | 8, hu => rw [h8]; simpa using hu
  | 9, hu => rw [h9]; simpa using hu
  | 10, hu => rw [h10]; simpa using hu
  | i + 11, hu => simp at hu
theorem cellsOf_intO : Tryz.prog.cellsOf 3 = 1 := by kernel_rfl
theorem cellsOf_runeO : Tryz.prog.cellsOf 21 = 1 := by kernel_rfl
theorem cellsOf_boolO : Tryz.prog.cellsOf 4 = 1 := by kernel_rfl
theorem cellsOf_styO : Tryz.prog.cellsOf 36 = 3 := by kernel_rfl
theorem cellsOf_celO : Tryz.prog.cellsOf 38 = 5 := by kernel_rfl
theorem cellsOf_opO : Tryz.prog.cellsOf 40 = 11 := by kernel_rfl
theorem three' {α : Type} {l : List α} (h : l.length = 3) : ∃ c0 c1 c2, l = [c0, c1, c2] := by
  match l, h with
  | [c0, c1, c2], _ => exact ⟨c0, c1, c2, rfl⟩
theorem five' {α : Type} {l : List α} (h : l.length = 5) : ∃ c0 c1 c2 c3 c4, l = [c0, c1, c2, c3, c4] := by
  match l, h with
  | [c0, c1, c2, c3, c4], _ => exact ⟨c0, c1, c2, c3, c4, rfl⟩
theorem seven' {α : Type} {l : List α} (h : l.length = 7) : ∃ c0 c1 c2 c3 c4 c5 c6, l = [c0, c1, c2, c3, c4, c5, c6] := by
  match l, h with
  | [c0, c1, c2, c3, c4, c5, c6], _ => exact ⟨c0, c1, c2, c3, c4, c5, c6, rfl⟩
theorem eleven' {α : Type} {l : List α} (h : l.length = 11) : ∃ c0 c1 c2 c3 c4 c5 c6 c7 c8 c9 c10, l = [c0, c1, c2, c3, c4, c5, c6, c7, c8, c9, c10] := by
  match l, h with
  | [c0, c1, c2, c3, c4, c5, c6, c7, c8, c9, c10], _ => exact ⟨c0, c1, c2, c3, c4, c5, c6, c7, c8, c9, c10, rfl⟩
theorem i64_wf {z : Int} (h : (Lit.int .i64 z).wf = true) : I64 z := by
  simp only [Lit.wf, Bool.and_eq_true, decide_eq_true_eq] at h
  exact h
theorem open_style {H : Type} {enc : TypeId × Value → H} {W : World} {fuel : Nat} {cs : List Value} {x : DataW H × List MemPlace}
    (h : DataW.trod enc Tryz.prog W 0 (fun _ => true) true fuel 36 cs = some x) : ∃ s : Sty, cs = s.vals ∧ I64 s.fg ∧ I64 s.bg ∧ I64 s.attr := by
  obtain ⟨xs, n, rfl, rfl, hl, hxl, hf⟩ := DataW.trod_struct Tryz.underlying36 h
  rw [cellsOf_styO] at hl
  obtain ⟨c0, c1, c2, rfl⟩ := three' hl
  obtain ⟨y0, y1, y2, rfl⟩ := three' hxl
  have h0 : DataW.trod enc Tryz.prog W 0 (fun _ => true) true n 3 (([c0, c1, c2].drop 0).take (Tryz.prog.cellsOf 3)) = some y0 := hf 0 _ rfl
  have h1 : DataW.trod enc Tryz.prog W 0 (fun _ => true) true n 3 (([c0, c1, c2].drop 1).take (Tryz.prog.cellsOf 3)) = some y1 := hf 1 _ rfl
  have h2 : DataW.trod enc Tryz.prog W 0 (fun _ => true) true n 3 (([c0, c1, c2].drop 2).take (Tryz.prog.cellsOf 3)) = some y2 := hf 2 _ rfl
  rw [cellsOf_intO] at h0 h1 h2
  simp only [List.drop_zero, List.drop_succ_cons, List.take_succ_cons, List.take_zero] at h0 h1 h2
  obtain ⟨z0, e0, _, w0⟩ := DataW.trod_int Tryz.underlying3 h0
  obtain ⟨z1, e1, _, w1⟩ := DataW.trod_int Tryz.underlying3 h1
  obtain ⟨z2, e2, _, w2⟩ := DataW.trod_int Tryz.underlying3 h2
  simp only [List.cons.injEq, and_true] at e0 e1 e2
  subst e0 e1 e2
  exact ⟨⟨z0, z1, z2⟩, rfl, i64_wf w0, i64_wf w1, i64_wf w2⟩
theorem open_cel {H : Type} {enc : TypeId × Value → H} {W : World} {fuel : Nat} {cs : List Value} {x : DataW H × List MemPlace}
    (h : DataW.trod enc Tryz.prog W 0 (fun _ => true) true fuel 38 cs = some x) : ∃ c : Cel, cs = c.vals ∧ (-2147483648 ≤ c.rune ∧ c.rune ≤ 2147483647) ∧ I64 c.width ∧ I64 c.sty.fg ∧ I64 c.sty.bg ∧ I64 c.sty.attr := by
  obtain ⟨xs, n, rfl, rfl, hl, hxl, hf⟩ := DataW.trod_struct Tryz.underlying38 h
  rw [cellsOf_celO] at hl
  obtain ⟨c0, c1, c2, c3, c4, rfl⟩ := five' hl
  obtain ⟨y0, y1, y2, rfl⟩ := three' hxl
  have h0 : DataW.trod enc Tryz.prog W 0 (fun _ => true) true n 21 (([c0, c1, c2, c3, c4].drop 0).take (Tryz.prog.cellsOf 21)) = some y0 := hf 0 _ rfl
  have h1 : DataW.trod enc Tryz.prog W 0 (fun _ => true) true n 3 (([c0, c1, c2, c3, c4].drop 1).take (Tryz.prog.cellsOf 3)) = some y1 := hf 1 _ rfl
  have h2 : DataW.trod enc Tryz.prog W 0 (fun _ => true) true n 36 (([c0, c1, c2, c3, c4].drop 2).take (Tryz.prog.cellsOf 36)) = some y2 := hf 2 _ rfl
  rw [cellsOf_runeO] at h0
  rw [cellsOf_intO] at h1
  rw [cellsOf_styO] at h2
  simp only [List.drop_zero, List.drop_succ_cons, List.take_succ_cons, List.take_zero] at h0 h1 h2
  obtain ⟨z0, e0, _, w0⟩ := DataW.trod_int Tryz.underlying21 h0
  obtain ⟨z1, e1, _, w1⟩ := DataW.trod_int Tryz.underlying3 h1
  obtain ⟨s, e2, w2, w3, w4⟩ := open_style h2
  have hw0 : -2147483648 ≤ z0 ∧ z0 ≤ 2147483647 := by
    simp only [Lit.wf, Bool.and_eq_true, decide_eq_true_eq] at w0
    exact w0
  unfold Sty.vals at e2
  simp only [List.cons.injEq, and_true] at e0 e1 e2
  obtain ⟨e2, e3, e4⟩ := e2
  subst e0 e1 e2 e3 e4
  exact ⟨⟨z0, z1, s⟩, rfl, hw0, i64_wf w1, w2, w3, w4⟩
theorem open_op {H : Type} {enc : TypeId × Value → H} {W : World} {fuel : Nat} {cs : List Value} {x : DataW H × List MemPlace}
    (h : DataW.trod enc Tryz.prog W 0 (fun _ => true) true fuel 40 cs = some x) : ∃ o : OpR, cs = o.cells ∧ o.Ok := by
  obtain ⟨xs, n, rfl, rfl, hl, hxl, hf⟩ := DataW.trod_struct Tryz.underlying40 h
  rw [cellsOf_opO] at hl
  obtain ⟨c0, c1, c2, c3, c4, c5, c6, c7, c8, c9, c10, rfl⟩ := eleven' hl
  obtain ⟨y0, y1, y2, y3, y4, y5, y6, rfl⟩ := seven' hxl
  have h0 : DataW.trod enc Tryz.prog W 0 (fun _ => true) true n 3 (([c0, c1, c2, c3, c4, c5, c6, c7, c8, c9, c10].drop 0).take (Tryz.prog.cellsOf 3)) = some y0 := hf 0 _ rfl
  have h1 : DataW.trod enc Tryz.prog W 0 (fun _ => true) true n 3 (([c0, c1, c2, c3, c4, c5, c6, c7, c8, c9, c10].drop 1).take (Tryz.prog.cellsOf 3)) = some y1 := hf 1 _ rfl
  have h2 : DataW.trod enc Tryz.prog W 0 (fun _ => true) true n 3 (([c0, c1, c2, c3, c4, c5, c6, c7, c8, c9, c10].drop 2).take (Tryz.prog.cellsOf 3)) = some y2 := hf 2 _ rfl
  have h3 : DataW.trod enc Tryz.prog W 0 (fun _ => true) true n 3 (([c0, c1, c2, c3, c4, c5, c6, c7, c8, c9, c10].drop 3).take (Tryz.prog.cellsOf 3)) = some y3 := hf 3 _ rfl
  have h4 : DataW.trod enc Tryz.prog W 0 (fun _ => true) true n 3 (([c0, c1, c2, c3, c4, c5, c6, c7, c8, c9, c10].drop 4).take (Tryz.prog.cellsOf 3)) = some y4 := hf 4 _ rfl
  have h5 : DataW.trod enc Tryz.prog W 0 (fun _ => true) true n 38 (([c0, c1, c2, c3, c4, c5, c6, c7, c8, c9, c10].drop 5).take (Tryz.prog.cellsOf 38)) = some y5 := hf 5 _ rfl
  have h6 : DataW.trod enc Tryz.prog W 0 (fun _ => true) true n 4 (([c0, c1, c2, c3, c4, c5, c6, c7, c8, c9, c10].drop 10).take (Tryz.prog.cellsOf 4)) = some y6 := hf 6 _ rfl
  rw [cellsOf_intO] at h0 h1 h2 h3 h4
  rw [cellsOf_celO] at h5
  rw [cellsOf_boolO] at h6
  simp only [List.drop_zero, List.drop_succ_cons, List.take_succ_cons, List.take_zero] at h0 h1 h2 h3 h4 h5 h6
  obtain ⟨z0, e0, _, w0⟩ := DataW.trod_int Tryz.underlying3 h0
  obtain ⟨z1, e1, _, w1⟩ := DataW.trod_int Tryz.underlying3 h1
  obtain ⟨z2, e2, _, w2⟩ := DataW.trod_int Tryz.underlying3 h2
  obtain ⟨z3, e3, _, w3⟩ := DataW.trod_int Tryz.underlying3 h3
  obtain ⟨z4, e4, _, w4⟩ := DataW.trod_int Tryz.underlying3 h4
  obtain ⟨c, e5, v0, v1, v2, v3, v4⟩ := open_cel h5
  obtain ⟨b, e6, _⟩ := DataW.trod_bool Tryz.underlying4 h6
  unfold Cel.vals at e5
  simp only [List.cons.injEq, and_true] at e0 e1 e2 e3 e4 e5 e6
  obtain ⟨e5, e7, e8, e9, e10⟩ := e5
  subst e0 e1 e2 e3 e4 e5 e6 e7 e8 e9 e10
  exact ⟨⟨z0, z1, z2, z3, z4, c, b⟩, rfl, i64_wf w0, i64_wf w1, i64_wf w2, i64_wf w3, i64_wf w4, v0, v1, v2, v3, v4⟩
set_option maxHeartbeats 1000000 in
theorem open_ops {H : Type} {enc : TypeId × Value → H} {W : World} {fuel : Nat} {a : Option Addr} {len cap : Nat} {x : DataW H × List MemPlace}
    (h : DataW.trod enc Tryz.prog W 0 (fun _ => true) true fuel 22 (Value.slice a len cap).cells.toList = some x) :
    ∃ L, IsOps W (.slice a len cap) L ∧ (∀ y ∈ L, y.Ok) ∧ L.length ≤ Rows.uptoBulk x.1 := by
  rcases DataW.trod_slice Tryz.underlying22 h with ⟨hcs, hx⟩ | ⟨ad, l, c, elems, rest, n, hfu, hcs, hx, _, hlc, hcm, hel, hat, _, _⟩
  · simp [Value.cells] at hcs
    obtain ⟨rfl, rfl, rfl⟩ := hcs
    exact ⟨[], .inl ⟨rfl, rfl⟩, fun _ h => by simp at h, Nat.zero_le _⟩
  · simp [Value.cells] at hcs
    obtain ⟨rfl, rfl, rfl⟩ := hcs
    have hone : ∀ i, i < len → ∃ y : OpR, (∀ j u, y.cells[j]? = some u → W.cell? ((ad.add (i * 11)).add j) = some u) ∧ y.Ok := by
      intro i hi
      have h1 := hat i hi
      rw [cellsOf_opO, List.getElem?_eq_getElem (by omega)] at h1
      obtain ⟨cs, hc, ht⟩ := Option.bind_eq_some_iff.1 h1
      obtain ⟨y, hy, hok⟩ := open_op ht
      unfold World.cells? at hc
      rw [if_pos (Nat.zero_le _)] at hc
      rw [hy] at hc
      exact ⟨y, fun j u hu => mapM_range11 hc j u hu, hok⟩
    have hall : ∀ m, m ≤ len → ∃ L : List OpR, L.length = m ∧ (∀ i (hi : i < L.length), ∀ j u, L[i].cells[j]? = some u → W.cell? ((ad.add (i * 11)).add j) = some u) ∧ ∀ y ∈ L, y.Ok := by
      intro m
      induction m with
      | zero => intro _; exact ⟨[], rfl, fun i hi => absurd hi (by simp), fun _ h => by simp at h⟩
      | succ m ih =>
        intro hm
        obtain ⟨L, hL, hc, hr⟩ := ih (by omega)
        obtain ⟨y, hy, hyr⟩ := hone m (by omega)
        refine ⟨L ++ [y], by simp [hL], fun i hi j u hu => ?_, fun z hz => ?_⟩
        · by_cases hlt : i < L.length
          · rw [List.getElem_append_left hlt] at hu
            exact hc i hlt j u hu
          · have hi' : i = m := by rw [List.length_append, hL] at hi; simp at hi; omega
            subst hi'
            rw [List.getElem_append_right (by omega)] at hu
            simp only [hL, Nat.sub_self, List.getElem_singleton] at hu
            exact hy j u hu
        · rcases List.mem_append.1 hz with h | h
          · exact hr z h
          · rw [List.mem_singleton] at h; subst h; exact hyr
    obtain ⟨L, hL, hc, hr⟩ := hall len (Nat.le_refl _)
    refine ⟨L, .inr ⟨ad, cap, by rw [hL], by rw [hL]; exact hlc, by unfold maxLen at hcm; exact hcm, hc⟩, hr, ?_⟩
    rw [hL, hx]
    simp only [Rows.uptoBulk]
    have := bulk_len (elems.map (·.1))
    rw [List.length_map] at this
    omega
end Go.Proofs.YtjclgoiclbkgjaaGreatDoor

/- The law GridWhole: what its script keeps. -/
namespace Go.Proofs.YtjclgoiclbkgjaaGreatDoor
open Go.RowKit

def pickV (c : Int) (n : Nat) : Nat := ((if c < 0 then -(c + 1) else c).tmod (n : Int)).toNat
theorem pickV_lt (c : Int) (n : Nat) (hn : 0 < n) : pickV c n < n := by
  unfold pickV
  split
  · have hb : 0 ≤ (-(c + 1)).tmod (n : Int) ∧ (-(c + 1)).tmod (n : Int) < n := ⟨Int.tmod_nonneg _ (by omega), Int.tmod_lt_of_pos _ (by omega)⟩
    omega
  · have hb : 0 ≤ c.tmod (n : Int) ∧ c.tmod (n : Int) < n := ⟨Int.tmod_nonneg _ (by omega), Int.tmod_lt_of_pos _ (by omega)⟩
    omega
theorem pick_val (c : Int) (n : Nat) (w : World) (h : I64 c) (hn : 0 < n) (hn2 : n ≤ 1000000) :
    Calls Tryz.prog 24 #[.int .i64 c, .int .i64 n] w fun e w' => e = .returned (.int .i64 (pickV c n)) ∧ w' = w := by
  obtain ⟨h0, h1⟩ := h
  by_cases hc : c < 0
  · have d1 : decide (c < 0) = true := decide_eq_true hc
    have hw1 : IntKind.i64.wrap (c + 1) = c + 1 := wrap64_id _ (by omega) (by omega)
    have hw2 : IntKind.i64.wrap (-(c + 1)) = -(c + 1) := wrap64_id _ (by omega) (by omega)
    have hne : ((n : Int) == 0) = false := beq_eq_false_iff_ne.2 (by omega)
    have hne2 : ¬ ((n : Int) = 0) := by omega
    have hb : 0 ≤ (-(c + 1)).tmod (n : Int) ∧ (-(c + 1)).tmod (n : Int) < n := ⟨Int.tmod_nonneg _ (by omega), Int.tmod_lt_of_pos _ (by omega)⟩
    have hw3 : IntKind.i64.wrap ((-(c + 1)).tmod (n : Int)) = (-(c + 1)).tmod (n : Int) := wrap64_id _ (by omega) (by omega)
    have HV := Lib.hid (show pickV c n = ((-(c + 1)).tmod (n : Int)).toNat by unfold pickV; rw [if_pos hc])
    go_enter Tryz.func24, Tryz.ntmps24
    go_wp2_with fail
    refine ret1v (v := .int .i64 (((-(c + 1)).tmod (n : Int)).toNat : Int)) rfl rfl (by show Value.int _ _ = _; rw [Int.toNat_of_nonneg hb.1, Int.neg_tmod]) ⟨by rw [HV.out], rfl⟩
  · have d1 : decide (c < 0) = false := decide_eq_false hc
    have hne : ((n : Int) == 0) = false := beq_eq_false_iff_ne.2 (by omega)
    have hne2 : ¬ ((n : Int) = 0) := by omega
    have hb : 0 ≤ c.tmod (n : Int) ∧ c.tmod (n : Int) < n := ⟨Int.tmod_nonneg _ (by omega), Int.tmod_lt_of_pos _ (by omega)⟩
    have hw3 : IntKind.i64.wrap (c.tmod (n : Int)) = c.tmod (n : Int) := wrap64_id _ (by omega) (by omega)
    have HV := Lib.hid (show pickV c n = (c.tmod (n : Int)).toNat by unfold pickV; rw [if_neg hc])
    go_enter Tryz.func24, Tryz.ntmps24
    go_wp2_with fail
    refine ret1v (v := .int .i64 ((c.tmod (n : Int)).toNat : Int)) rfl rfl (by show Value.int _ _ = _; rw [Int.toNat_of_nonneg hb.1, Int.tmod_eq_emod_of_nonneg (by omega)]) ⟨by rw [HV.out], rfl⟩
theorem idx_genN {P : Program} {t e : TypeId} {size : Nat} (ht : P.underlying t = some (.slice e)) (hs : (P.info? e).map (·.size) = some size) (a : Addr) (n c j : Nat) (hj : j < n) (wx : World) :
    (Instr.indexAt t (.slice (some a) n c) (.int .i64 j)).run P wx = .ok (.pointer (some (a.add (j * size)))) wx := by
  obtain ⟨i, hi, hi2⟩ := Option.map_eq_some_iff.1 hs
  have hj' : (0 : Int) ≤ (j : Int) ∧ (j : Int) < (n : Int) := by omega
  simp [Instr.indexAt, asIntOf, run_underlying ht, hj', sizeOf, typeInfo, hi, hi2]
  omega
def PW (c : Nat) (r : Rw) : Prop := WhR r ∧ r.cells.length = c
theorem all_pw {g : Gr} (h : g.All WhR) (hw : g.WF) : g.All (PW g.cols) := fun r hr => ⟨h r hr, (hw.ce r (by
  rcases List.mem_append.1 hr with hr | hr
  · exact List.mem_append_right _ hr
  · exact List.mem_append_left _ hr)).1⟩
theorem put_wh {g : Gr} (h : g.All WhR) (hw : g.WF) (x y : Int) (q : Cel) : (g.put x y q).All WhR := fun r hr =>
  (all_put (all_pw h hw) x y q (fun h0 _ hq hx r hr => by
    have hl : ((x.toNat : Nat) : Int) + q.width ≤ (r.cells.length : Int) := by rw [hr.2]; omega
    exact ⟨layL_wh hr.1 x.toNat q hq hl, by show (layL _ _ _).length = _; rw [layL_size _ _ _ hq hl]; exact hr.2⟩) r hr).1
theorem up_wh {g : Gr} (h : g.All WhR) (t b n : Int) (s : Sty) (k : Bool) : (g.up t b n s k).All WhR := all_up h t b n s k (fun _ => wh_blanks _ _)
theorem down_wh {g : Gr} (h : g.All WhR) (t b n : Int) (s : Sty) : (g.down t b n s).All WhR := all_down h t b n s (fun _ => wh_blanks _ _)
theorem wrap_wh {g : Gr} (h : g.All WhR) (y : Int) (is : Bool) : (g.setWrap y is).All WhR := by
  unfold Gr.setWrap
  split
  · rename_i h0
    intro r hr
    rcases List.mem_append.1 hr with hr | hr
    · exact h r (List.mem_append_left _ hr)
    · rcases List.mem_or_eq_of_mem_set hr with hr | hr
      · exact h r (List.mem_append_right _ hr)
      · rw [hr]
        exact h (g.rows.getD y.toNat noR) (List.mem_append_right _ (by
          rw [List.getD_eq_getElem?_getD, List.getElem?_eq_getElem (by omega)]
          exact List.getElem_mem _))
  · exact h
theorem erase_wh {g : Gr} (h : g.All WhR) (hw : g.WF) (x y n : Int) (s : Sty) : (g.erase x y n s).All WhR := rowOp_wh hw h _ (fun _ _ _ s hl hx => eraseL_wh hl s hx) x y n s
theorem ins_wh {g : Gr} (h : g.All WhR) (hw : g.WF) (x y n : Int) (s : Sty) : (g.ins x y n s).All WhR := rowOp_wh hw h _ (fun _ _ _ s hl hx => insL_wh hl s hx) x y n s
theorem del_wh {g : Gr} (h : g.All WhR) (hw : g.WF) (x y n : Int) (s : Sty) : (g.del x y n s).All WhR := rowOp_wh hw h _ (fun _ _ _ s hl hx => delL_wh hl s hx) x y n s
/-- The state of a script: the grid in memory, the box of both. -/
structure Bo (w : World) (T : Nat → Nat) (q bp l : Nat) (wr : World) (g : Gr) : Prop where
  sh : Sh w T q wr g
  tb : T bp = 0
  bb : wr.heap[bp]? = some (.cells #[.pointer (some ⟨q, 0, none⟩), .pointer none] 33 (0, 0))
  li : g.limit = l
  wh : g.All WhR
theorem Bo.below {w : World} {T : Nat → Nat} {q bp l : Nat} {wr w2 : World} {g : Gr} (h : Bo w T q bp l wr g) (b : Below wr.heap.size wr w2) : Bo w T q bp l w2 g :=
  ⟨h.sh.below b, h.tb, blk_below h.bb b (heap_lt h.bb), h.li, h.wh⟩
theorem Bo.turn {w : World} {T T' : Nat → Nat} {q bp l : Nat} {wr w2 : World} {g g' : Gr} (h : Bo w T q bp l wr g) (hw : Within (own T wr) wr w2) (hg : GM T' q w2 g') (hn : ∀ k, T' k ≠ 0 → own T wr k) (hl : g'.limit = g.limit) (hh : g'.All WhR) : Bo w T' q bp l w2 g' := by
  have hlt := heap_lt h.bb
  have hno : ¬ own T wr bp := fun e => by
    rcases e with e | e
    · exact e h.tb
    · omega
  exact ⟨h.sh.turn hw hg hn, Classical.byContradiction fun e => hno (hn bp e), (hw.block bp hlt hno).trans h.bb, hl.trans h.li, hh⟩
theorem Bo.put {w : World} {T : Nat → Nat} {q bp l : Nat} {wr w2 : World} {g g' : Gr} (h : Bo w T q bp l wr g) (hw : Within (own T wr) wr w2) (hg : GM T q w2 g') (hl : g'.limit = g.limit) (hh : g'.All WhR) : Bo w T q bp l w2 g' :=
  h.turn hw hg (fun _ hk => .inl hk) hl hh
end Go.Proofs.YtjclgoiclbkgjaaGreatDoor

/- The law GridPlays: a call on both grids. -/
namespace Go.Proofs.YtjclgoiclbkgjaaGreatDoor
open Go.RowKit
attribute [local go_sem ↓] Go.wp_at_zero Go.wp_at_succ

/-- Both grids, and the call: its block, its style's. -/
structure Bq (w : World) (Tg Tr : Nat → Nat) (q r bp ob sb : Nat) (oc sc : Array Value) (wr : World) (g g2 : Gr) : Prop where
  p : Bp w Tg Tr q r bp wr g g2
  ok : wr.heap[ob]? = some (.cells oc 40 (0, 0))
  og : Tg ob = 0
  or : Tr ob = 0
  sk : wr.heap[sb]? = some (.cells sc 36 (0, 0))
  sg : Tg sb = 0
  sr : Tr sb = 0
theorem Bq.below {w : World} {Tg Tr : Nat → Nat} {q r bp ob sb : Nat} {oc sc : Array Value} {wr w2 : World} {g g2 : Gr} (h : Bq w Tg Tr q r bp ob sb oc sc wr g g2) (b : Below wr.heap.size wr w2) : Bq w Tg Tr q r bp ob sb oc sc w2 g g2 :=
  ⟨h.p.below b, blk_below h.ok b (heap_lt h.ok), h.og, h.or, blk_below h.sk b (heap_lt h.sk), h.sg, h.sr⟩
theorem kept_blk {T T' : Nat → Nat} {wr w2 : World} {k : Nat} {o : Obj} (h : wr.heap[k]? = some o) (h0 : T k = 0) (hw : Within (own T wr) wr w2) (hn : ∀ k, T' k ≠ 0 → own T wr k) : w2.heap[k]? = some o ∧ T' k = 0 := by
  have hlt := heap_lt h
  have hno : ¬ own T wr k := fun e => by
    rcases e with e | e
    · exact e h0
    · omega
  exact ⟨(hw.block k hlt hno).trans h, Classical.byContradiction fun e => hno (hn k e)⟩
theorem Bq.turnG {w : World} {Tg Tr T' : Nat → Nat} {q r bp ob sb : Nat} {oc sc : Array Value} {wr w2 : World} {g g2 g' : Gr} (h : Bq w Tg Tr q r bp ob sb oc sc wr g g2) (hw : Within (own Tg wr) wr w2) (hg : GM T' q w2 g') (hn : ∀ k, T' k ≠ 0 → own Tg wr k) : Bq w T' Tr q r bp ob sb oc sc w2 g' g2 :=
  ⟨h.p.turnG hw hg hn, (kept_blk h.ok h.og hw hn).1, (kept_blk h.ok h.og hw hn).2, h.or, (kept_blk h.sk h.sg hw hn).1, (kept_blk h.sk h.sg hw hn).2, h.sr⟩
theorem Bq.turnR {w : World} {Tg Tr T' : Nat → Nat} {q r bp ob sb : Nat} {oc sc : Array Value} {wr w2 : World} {g g2 g' : Gr} (h : Bq w Tg Tr q r bp ob sb oc sc wr g g2) (hw : Within (own Tr wr) wr w2) (hg : RM T' r w2 g') (hn : ∀ k, T' k ≠ 0 → own Tr wr k) : Bq w Tg T' q r bp ob sb oc sc w2 g g' :=
  ⟨h.p.turnR hw hg hn, (kept_blk h.ok h.or hw hn).1, h.og, (kept_blk h.ok h.or hw hn).2, (kept_blk h.sk h.sr hw hn).1, h.sg, (kept_blk h.sk h.sr hw hn).2⟩
theorem Bq.putG {w : World} {Tg Tr : Nat → Nat} {q r bp ob sb : Nat} {oc sc : Array Value} {wr w2 : World} {g g2 g' : Gr} (h : Bq w Tg Tr q r bp ob sb oc sc wr g g2) (hw : Within (own Tg wr) wr w2) (hg : GM Tg q w2 g') : Bq w Tg Tr q r bp ob sb oc sc w2 g' g2 := h.turnG hw hg (fun _ hk => .inl hk)
theorem Bq.putR {w : World} {Tg Tr : Nat → Nat} {q r bp ob sb : Nat} {oc sc : Array Value} {wr w2 : World} {g g2 g' : Gr} (h : Bq w Tg Tr q r bp ob sb oc sc wr g g2) (hw : Within (own Tr wr) wr w2) (hg : RM Tr r w2 g') : Bq w Tg Tr q r bp ob sb oc sc w2 g g' := h.turnR hw hg (fun _ hk => .inl hk)
theorem mayG_iff {x y : Int} (h : mayG x y = true) : 1 ≤ x ∧ x ≤ 250 ∧ 1 ≤ y ∧ y ≤ 120 := by
  unfold mayG at h
  simpa using h
end Go.Proofs.YtjclgoiclbkgjaaGreatDoor

/- The law GridPlays: a call on both grids: Put, Erase, Insert, Delete. -/
namespace Go.Proofs.YtjclgoiclbkgjaaGreatDoor
open Go.RowKit
attribute [local go_sem ↓] Go.wp_at_zero Go.wp_at_succ

set_option maxRecDepth 100000 in
set_option maxHeartbeats 8000000 in
theorem does_0 {w : World} {Tg Tr : Nat → Nat} {q r bp : Nat} {wr : World} {g : Gr} (h : Bp w Tg Tr q r bp wr g g) (hwh : g.All WhR) (o : OpR) (hok : o.Ok) (htab : Tabs w) (hsel : pickV o.kind 14 = 0 ∨ pickV o.kind 14 = 1 ∨ pickV o.kind 14 = 2 ∨ pickV o.kind 14 = 3) :
    Calls Tryz.prog 7 #[.pointer (some ⟨bp, 0, none⟩), .agg o.cells.toArray] wr fun e w' => e = .returned (.bool true) ∧ ∃ Tg' Tr' g', Bp w Tg' Tr' q r bp w' g' g' ∧ g'.All WhR := by
  obtain ⟨kd, kx, ky, kn, km, ⟨cr, cw, ⟨cf, cb, ca⟩⟩, ki⟩ := o
  obtain ⟨f0, f1, f2, f3, f4, f5, f6, f7, f8, f9⟩ := hok
  dsimp only at hsel f0 f1 f2 f3 f4 f5 f6 f7 f8 f9
  have F := Lib.hid (show I64 kd ∧ I64 kn ∧ I64 km ∧ (-2147483648 ≤ cr ∧ cr ≤ 2147483647) ∧ I64 cf ∧ I64 cb from ⟨f0, f3, f4, f5, f7, f8⟩)
  clear f0 f1 f2 f3 f4 f5 f6 f7 f8 f9
  have HT := Lib.hid htab
  have HWH := Lib.hid hwh
  have HOG := Lib.hid (show Tg wr.heap.size = 0 from h.gm.own0 (Nat.le_refl _))
  have HOR := Lib.hid (show Tr wr.heap.size = 0 from h.rm.own0 (Nat.le_refl _))
  have HB1 := Lib.hid (h.below (Below.alloc (Below.refl wr.heap.size wr) (Nat.le_refl _) (.cells #[.int .i64 kd, .int .i64 kx, .int .i64 ky, .int .i64 kn, .int .i64 km, .int .i32 cr, .int .i64 cw, .int .i64 cf, .int .i64 cb, .int .i64 ca, .bool ki] 40)))
  have HK1 := Lib.hid (blk_new wr (.cells #[.int .i64 kd, .int .i64 kx, .int .i64 ky, .int .i64 kn, .int .i64 km, .int .i32 cr, .int .i64 cw, .int .i64 cf, .int .i64 cb, .int .i64 ca, .bool ki] 40))
  clear h htab hwh
  unfold OpR.cells
  go_enter Tryz.func7, Tryz.ntmps7
  go_upto_region 1 with fail
  generalize wr.alloc (.cells #[.int .i64 kd, .int .i64 kx, .int .i64 ky, .int .i64 kn, .int .i64 km, .int .i32 cr, .int .i64 cw, .int .i64 cf, .int .i64 cb, .int .i64 ca, .bool ki] 40) = wa at *
  generalize wr.heap.size = ob at *
  have b0 : wa.cell? ⟨bp, 0, none⟩ = some (.pointer (some ⟨q, 0, none⟩)) := blk_cell HB1.out.bb 0
  have b1 : wa.cell? ⟨bp, 1, none⟩ = some (.pointer (some ⟨r, 0, none⟩)) := blk_cell HB1.out.bb 1
  have o7 : wa.cell? ⟨ob, 7, none⟩ = some (.int .i64 cf) := blk_cell HK1.out 7
  have o8 : wa.cell? ⟨ob, 8, none⟩ = some (.int .i64 cb) := blk_cell HK1.out 8
  have o9 : wa.cell? ⟨ob, 9, none⟩ = some (.int .i64 ca) := blk_cell HK1.out 9
  have HQ := Lib.hid (show Bq w Tg Tr q r bp ob wa.heap.size #[.int .i64 kd, .int .i64 kx, .int .i64 ky, .int .i64 kn, .int .i64 km, .int .i32 cr, .int .i64 cw, .int .i64 cf, .int .i64 cb, .int .i64 ca, .bool ki] #[.int .i64 cf, .int .i64 cb, .int .i64 ca] (wa.alloc (.cells #[.int .i64 cf, .int .i64 cb, .int .i64 ca] 36)) g g from
    ⟨HB1.out.below (Below.alloc (Below.refl wa.heap.size wa) (Nat.le_refl _) _), blk_alloc HK1.out _, HOG.out, HOR.out, blk_new _ _, HB1.out.gm.own0 (Nat.le_refl _), HB1.out.rm.own0 (Nat.le_refl _)⟩)
  go_upto_region 4 with fail
  clear b0 b1 o7 o8 o9
  generalize wa.alloc (.cells #[.int .i64 cf, .int .i64 cb, .int .i64 ca] 36) = wb at *
  generalize wa.heap.size = sb at *
  have o0 : wb.cell? ⟨ob, 0, none⟩ = some (.int .i64 kd) := blk_cell HQ.out.ok 0
  go_wp2_with fail
  refine (pick_val kd 14 wb F.out.1 (by decide) (by decide)).mono ?_
  rintro e wx1 ⟨rfl, hx1⟩
  subst wx1
  generalize pickV kd 14 = kk at *
  have HSEL := Lib.hid hsel
  clear hsel
  clear o0
  have o1 : wb.cell? ⟨ob, 1, none⟩ = some (.int .i64 kx) := blk_cell HQ.out.ok 1
  have o2 : wb.cell? ⟨ob, 2, none⟩ = some (.int .i64 ky) := blk_cell HQ.out.ok 2
  have o3 : wb.cell? ⟨ob, 3, none⟩ = some (.int .i64 kn) := blk_cell HQ.out.ok 3
  have o4 : wb.cell? ⟨ob, 4, none⟩ = some (.int .i64 km) := blk_cell HQ.out.ok 4
  have o5 : wb.cell? ⟨ob, 5, none⟩ = some (.int .i32 cr) := blk_cell HQ.out.ok 5
  have o6 : wb.cell? ⟨ob, 6, none⟩ = some (.int .i64 cw) := blk_cell HQ.out.ok 6
  have o7 : wb.cell? ⟨ob, 7, none⟩ = some (.int .i64 cf) := blk_cell HQ.out.ok 7
  have o8 : wb.cell? ⟨ob, 8, none⟩ = some (.int .i64 cb) := blk_cell HQ.out.ok 8
  have o9 : wb.cell? ⟨ob, 9, none⟩ = some (.int .i64 ca) := blk_cell HQ.out.ok 9
  have o10 : wb.cell? ⟨ob, 10, none⟩ = some (.bool ki) := blk_cell HQ.out.ok 10
  have os0 : wb.cell? ⟨sb, 0, none⟩ = some (.int .i64 cf) := blk_cell HQ.out.sk 0
  have os1 : wb.cell? ⟨sb, 1, none⟩ = some (.int .i64 cb) := blk_cell HQ.out.sk 1
  have os2 : wb.cell? ⟨sb, 2, none⟩ = some (.int .i64 ca) := blk_cell HQ.out.sk 2
  have HRI := Lib.hid (right_all ⟨cf, cb, ca⟩ wb (HT.out.below HQ.out.p.b) F.out.2.2.2.2.1 F.out.2.2.2.2.2)
  have HGB := Lib.hid HQ.out.p.gm
  go_upto_block 0 with fail
  go_cut [] (fun wz => ∃ Tg' Tr' g', Hid (Bp w Tg' Tr' q r bp wz g' g') ∧ Hid (g'.All WhR))
  case rest =>
    obtain ⟨Tg', Tr', g', HB9, HW9⟩ := hcut
    go_wp2_with fail
    exact ret1v rfl rfl rfl ⟨rfl, _, _, _, HB9.out, HW9.out⟩
  case first =>
    rcases HSEL.out with rfl | rfl | rfl | rfl
    · go_wp2_with fail
      refine (put_any HGB.out kx ky ⟨cr, cw, ⟨cf, cb, ca⟩⟩ HRI.out F.out.2.2.2.1).mono ?_
      rintro e w5 ⟨rfl, hw5, g5⟩
      have H5 := Lib.hid (HQ.out.putG hw5 g5)
      clear hw5 g5
      have x1 : w5.cell? ⟨ob, 1, none⟩ = some (.int .i64 kx) := blk_cell H5.out.ok 1
      have x2 : w5.cell? ⟨ob, 2, none⟩ = some (.int .i64 ky) := blk_cell H5.out.ok 2
      have x3 : w5.cell? ⟨ob, 3, none⟩ = some (.int .i64 kn) := blk_cell H5.out.ok 3
      have x4 : w5.cell? ⟨ob, 4, none⟩ = some (.int .i64 km) := blk_cell H5.out.ok 4
      have x5 : w5.cell? ⟨ob, 5, none⟩ = some (.int .i32 cr) := blk_cell H5.out.ok 5
      have x6 : w5.cell? ⟨ob, 6, none⟩ = some (.int .i64 cw) := blk_cell H5.out.ok 6
      have x7 : w5.cell? ⟨ob, 7, none⟩ = some (.int .i64 cf) := blk_cell H5.out.ok 7
      have x8 : w5.cell? ⟨ob, 8, none⟩ = some (.int .i64 cb) := blk_cell H5.out.ok 8
      have x9 : w5.cell? ⟨ob, 9, none⟩ = some (.int .i64 ca) := blk_cell H5.out.ok 9
      have x10 : w5.cell? ⟨ob, 10, none⟩ = some (.bool ki) := blk_cell H5.out.ok 10
      have xs0 : w5.cell? ⟨sb, 0, none⟩ = some (.int .i64 cf) := blk_cell H5.out.sk 0
      have xs1 : w5.cell? ⟨sb, 1, none⟩ = some (.int .i64 cb) := blk_cell H5.out.sk 1
      have xs2 : w5.cell? ⟨sb, 2, none⟩ = some (.int .i64 ca) := blk_cell H5.out.sk 2
      clear o1 o2 o3 o4 o5 o6 o7 o8 o9 o10 os0 os1 os2
      go_wp2_with fail
      refine (putD_any H5.out.p.rm HWH.out kx ky ⟨cr, cw, ⟨cf, cb, ca⟩⟩ F.out.2.2.2.1).mono ?_
      rintro e w6 ⟨rfl, hw6, g6⟩
      have H6 := Lib.hid (H5.out.putR hw6 g6)
      clear hw6 g6
      clear x1 x2 x3 x4 x5 x6 x7 x8 x9 x10 xs0 xs1 xs2
      go_wp2_with fail
      go_meet
      exact ⟨_, _, _, H6.out.p, put_wh HWH.out HGB.out.wf _ _ _⟩
    · go_wp2_with fail
      refine (put_any HGB.out kx ky ⟨cr, cw, ⟨cf, cb, ca⟩⟩ HRI.out F.out.2.2.2.1).mono ?_
      rintro e w5 ⟨rfl, hw5, g5⟩
      have H5 := Lib.hid (HQ.out.putG hw5 g5)
      clear hw5 g5
      have x1 : w5.cell? ⟨ob, 1, none⟩ = some (.int .i64 kx) := blk_cell H5.out.ok 1
      have x2 : w5.cell? ⟨ob, 2, none⟩ = some (.int .i64 ky) := blk_cell H5.out.ok 2
      have x3 : w5.cell? ⟨ob, 3, none⟩ = some (.int .i64 kn) := blk_cell H5.out.ok 3
      have x4 : w5.cell? ⟨ob, 4, none⟩ = some (.int .i64 km) := blk_cell H5.out.ok 4
      have x5 : w5.cell? ⟨ob, 5, none⟩ = some (.int .i32 cr) := blk_cell H5.out.ok 5
      have x6 : w5.cell? ⟨ob, 6, none⟩ = some (.int .i64 cw) := blk_cell H5.out.ok 6
      have x7 : w5.cell? ⟨ob, 7, none⟩ = some (.int .i64 cf) := blk_cell H5.out.ok 7
      have x8 : w5.cell? ⟨ob, 8, none⟩ = some (.int .i64 cb) := blk_cell H5.out.ok 8
      have x9 : w5.cell? ⟨ob, 9, none⟩ = some (.int .i64 ca) := blk_cell H5.out.ok 9
      have x10 : w5.cell? ⟨ob, 10, none⟩ = some (.bool ki) := blk_cell H5.out.ok 10
      have xs0 : w5.cell? ⟨sb, 0, none⟩ = some (.int .i64 cf) := blk_cell H5.out.sk 0
      have xs1 : w5.cell? ⟨sb, 1, none⟩ = some (.int .i64 cb) := blk_cell H5.out.sk 1
      have xs2 : w5.cell? ⟨sb, 2, none⟩ = some (.int .i64 ca) := blk_cell H5.out.sk 2
      clear o1 o2 o3 o4 o5 o6 o7 o8 o9 o10 os0 os1 os2
      go_wp2_with fail
      refine (putD_any H5.out.p.rm HWH.out kx ky ⟨cr, cw, ⟨cf, cb, ca⟩⟩ F.out.2.2.2.1).mono ?_
      rintro e w6 ⟨rfl, hw6, g6⟩
      have H6 := Lib.hid (H5.out.putR hw6 g6)
      clear hw6 g6
      clear x1 x2 x3 x4 x5 x6 x7 x8 x9 x10 xs0 xs1 xs2
      go_wp2_with fail
      go_meet
      exact ⟨_, _, _, H6.out.p, put_wh HWH.out HGB.out.wf _ _ _⟩
    · go_wp2_with fail
      refine (put_any HGB.out kx ky ⟨cr, cw, ⟨cf, cb, ca⟩⟩ HRI.out F.out.2.2.2.1).mono ?_
      rintro e w5 ⟨rfl, hw5, g5⟩
      have H5 := Lib.hid (HQ.out.putG hw5 g5)
      clear hw5 g5
      have x1 : w5.cell? ⟨ob, 1, none⟩ = some (.int .i64 kx) := blk_cell H5.out.ok 1
      have x2 : w5.cell? ⟨ob, 2, none⟩ = some (.int .i64 ky) := blk_cell H5.out.ok 2
      have x3 : w5.cell? ⟨ob, 3, none⟩ = some (.int .i64 kn) := blk_cell H5.out.ok 3
      have x4 : w5.cell? ⟨ob, 4, none⟩ = some (.int .i64 km) := blk_cell H5.out.ok 4
      have x5 : w5.cell? ⟨ob, 5, none⟩ = some (.int .i32 cr) := blk_cell H5.out.ok 5
      have x6 : w5.cell? ⟨ob, 6, none⟩ = some (.int .i64 cw) := blk_cell H5.out.ok 6
      have x7 : w5.cell? ⟨ob, 7, none⟩ = some (.int .i64 cf) := blk_cell H5.out.ok 7
      have x8 : w5.cell? ⟨ob, 8, none⟩ = some (.int .i64 cb) := blk_cell H5.out.ok 8
      have x9 : w5.cell? ⟨ob, 9, none⟩ = some (.int .i64 ca) := blk_cell H5.out.ok 9
      have x10 : w5.cell? ⟨ob, 10, none⟩ = some (.bool ki) := blk_cell H5.out.ok 10
      have xs0 : w5.cell? ⟨sb, 0, none⟩ = some (.int .i64 cf) := blk_cell H5.out.sk 0
      have xs1 : w5.cell? ⟨sb, 1, none⟩ = some (.int .i64 cb) := blk_cell H5.out.sk 1
      have xs2 : w5.cell? ⟨sb, 2, none⟩ = some (.int .i64 ca) := blk_cell H5.out.sk 2
      clear o1 o2 o3 o4 o5 o6 o7 o8 o9 o10 os0 os1 os2
      go_wp2_with fail
      refine (putD_any H5.out.p.rm HWH.out kx ky ⟨cr, cw, ⟨cf, cb, ca⟩⟩ F.out.2.2.2.1).mono ?_
      rintro e w6 ⟨rfl, hw6, g6⟩
      have H6 := Lib.hid (H5.out.putR hw6 g6)
      clear hw6 g6
      clear x1 x2 x3 x4 x5 x6 x7 x8 x9 x10 xs0 xs1 xs2
      go_wp2_with fail
      go_meet
      exact ⟨_, _, _, H6.out.p, put_wh HWH.out HGB.out.wf _ _ _⟩
    · go_wp2_with fail
      refine (put_any HGB.out kx ky ⟨cr, cw, ⟨cf, cb, ca⟩⟩ HRI.out F.out.2.2.2.1).mono ?_
      rintro e w5 ⟨rfl, hw5, g5⟩
      have H5 := Lib.hid (HQ.out.putG hw5 g5)
      clear hw5 g5
      have x1 : w5.cell? ⟨ob, 1, none⟩ = some (.int .i64 kx) := blk_cell H5.out.ok 1
      have x2 : w5.cell? ⟨ob, 2, none⟩ = some (.int .i64 ky) := blk_cell H5.out.ok 2
      have x3 : w5.cell? ⟨ob, 3, none⟩ = some (.int .i64 kn) := blk_cell H5.out.ok 3
      have x4 : w5.cell? ⟨ob, 4, none⟩ = some (.int .i64 km) := blk_cell H5.out.ok 4
      have x5 : w5.cell? ⟨ob, 5, none⟩ = some (.int .i32 cr) := blk_cell H5.out.ok 5
      have x6 : w5.cell? ⟨ob, 6, none⟩ = some (.int .i64 cw) := blk_cell H5.out.ok 6
      have x7 : w5.cell? ⟨ob, 7, none⟩ = some (.int .i64 cf) := blk_cell H5.out.ok 7
      have x8 : w5.cell? ⟨ob, 8, none⟩ = some (.int .i64 cb) := blk_cell H5.out.ok 8
      have x9 : w5.cell? ⟨ob, 9, none⟩ = some (.int .i64 ca) := blk_cell H5.out.ok 9
      have x10 : w5.cell? ⟨ob, 10, none⟩ = some (.bool ki) := blk_cell H5.out.ok 10
      have xs0 : w5.cell? ⟨sb, 0, none⟩ = some (.int .i64 cf) := blk_cell H5.out.sk 0
      have xs1 : w5.cell? ⟨sb, 1, none⟩ = some (.int .i64 cb) := blk_cell H5.out.sk 1
      have xs2 : w5.cell? ⟨sb, 2, none⟩ = some (.int .i64 ca) := blk_cell H5.out.sk 2
      clear o1 o2 o3 o4 o5 o6 o7 o8 o9 o10 os0 os1 os2
      go_wp2_with fail
      refine (putD_any H5.out.p.rm HWH.out kx ky ⟨cr, cw, ⟨cf, cb, ca⟩⟩ F.out.2.2.2.1).mono ?_
      rintro e w6 ⟨rfl, hw6, g6⟩
      have H6 := Lib.hid (H5.out.putR hw6 g6)
      clear hw6 g6
      clear x1 x2 x3 x4 x5 x6 x7 x8 x9 x10 xs0 xs1 xs2
      go_wp2_with fail
      go_meet
      exact ⟨_, _, _, H6.out.p, put_wh HWH.out HGB.out.wf _ _ _⟩
set_option maxRecDepth 100000 in
set_option maxHeartbeats 8000000 in
theorem does_4 {w : World} {Tg Tr : Nat → Nat} {q r bp : Nat} {wr : World} {g : Gr} (h : Bp w Tg Tr q r bp wr g g) (hwh : g.All WhR) (o : OpR) (hok : o.Ok) (htab : Tabs w) (hsel : pickV o.kind 14 = 4 ∨ pickV o.kind 14 = 5 ∨ pickV o.kind 14 = 6) :
    Calls Tryz.prog 7 #[.pointer (some ⟨bp, 0, none⟩), .agg o.cells.toArray] wr fun e w' => e = .returned (.bool true) ∧ ∃ Tg' Tr' g', Bp w Tg' Tr' q r bp w' g' g' ∧ g'.All WhR := by
  obtain ⟨kd, kx, ky, kn, km, ⟨cr, cw, ⟨cf, cb, ca⟩⟩, ki⟩ := o
  obtain ⟨f0, f1, f2, f3, f4, f5, f6, f7, f8, f9⟩ := hok
  dsimp only at hsel f0 f1 f2 f3 f4 f5 f6 f7 f8 f9
  have F := Lib.hid (show I64 kd ∧ I64 kn ∧ I64 km ∧ (-2147483648 ≤ cr ∧ cr ≤ 2147483647) ∧ I64 cf ∧ I64 cb from ⟨f0, f3, f4, f5, f7, f8⟩)
  clear f0 f1 f2 f3 f4 f5 f6 f7 f8 f9
  have HT := Lib.hid htab
  have HWH := Lib.hid hwh
  have HOG := Lib.hid (show Tg wr.heap.size = 0 from h.gm.own0 (Nat.le_refl _))
  have HOR := Lib.hid (show Tr wr.heap.size = 0 from h.rm.own0 (Nat.le_refl _))
  have HB1 := Lib.hid (h.below (Below.alloc (Below.refl wr.heap.size wr) (Nat.le_refl _) (.cells #[.int .i64 kd, .int .i64 kx, .int .i64 ky, .int .i64 kn, .int .i64 km, .int .i32 cr, .int .i64 cw, .int .i64 cf, .int .i64 cb, .int .i64 ca, .bool ki] 40)))
  have HK1 := Lib.hid (blk_new wr (.cells #[.int .i64 kd, .int .i64 kx, .int .i64 ky, .int .i64 kn, .int .i64 km, .int .i32 cr, .int .i64 cw, .int .i64 cf, .int .i64 cb, .int .i64 ca, .bool ki] 40))
  clear h htab hwh
  unfold OpR.cells
  go_enter Tryz.func7, Tryz.ntmps7
  go_upto_region 1 with fail
  generalize wr.alloc (.cells #[.int .i64 kd, .int .i64 kx, .int .i64 ky, .int .i64 kn, .int .i64 km, .int .i32 cr, .int .i64 cw, .int .i64 cf, .int .i64 cb, .int .i64 ca, .bool ki] 40) = wa at *
  generalize wr.heap.size = ob at *
  have b0 : wa.cell? ⟨bp, 0, none⟩ = some (.pointer (some ⟨q, 0, none⟩)) := blk_cell HB1.out.bb 0
  have b1 : wa.cell? ⟨bp, 1, none⟩ = some (.pointer (some ⟨r, 0, none⟩)) := blk_cell HB1.out.bb 1
  have o7 : wa.cell? ⟨ob, 7, none⟩ = some (.int .i64 cf) := blk_cell HK1.out 7
  have o8 : wa.cell? ⟨ob, 8, none⟩ = some (.int .i64 cb) := blk_cell HK1.out 8
  have o9 : wa.cell? ⟨ob, 9, none⟩ = some (.int .i64 ca) := blk_cell HK1.out 9
  have HQ := Lib.hid (show Bq w Tg Tr q r bp ob wa.heap.size #[.int .i64 kd, .int .i64 kx, .int .i64 ky, .int .i64 kn, .int .i64 km, .int .i32 cr, .int .i64 cw, .int .i64 cf, .int .i64 cb, .int .i64 ca, .bool ki] #[.int .i64 cf, .int .i64 cb, .int .i64 ca] (wa.alloc (.cells #[.int .i64 cf, .int .i64 cb, .int .i64 ca] 36)) g g from
    ⟨HB1.out.below (Below.alloc (Below.refl wa.heap.size wa) (Nat.le_refl _) _), blk_alloc HK1.out _, HOG.out, HOR.out, blk_new _ _, HB1.out.gm.own0 (Nat.le_refl _), HB1.out.rm.own0 (Nat.le_refl _)⟩)
  go_upto_region 4 with fail
  clear b0 b1 o7 o8 o9
  generalize wa.alloc (.cells #[.int .i64 cf, .int .i64 cb, .int .i64 ca] 36) = wb at *
  generalize wa.heap.size = sb at *
  have o0 : wb.cell? ⟨ob, 0, none⟩ = some (.int .i64 kd) := blk_cell HQ.out.ok 0
  go_wp2_with fail
  refine (pick_val kd 14 wb F.out.1 (by decide) (by decide)).mono ?_
  rintro e wx1 ⟨rfl, hx1⟩
  subst wx1
  generalize pickV kd 14 = kk at *
  have HSEL := Lib.hid hsel
  clear hsel
  clear o0
  have o1 : wb.cell? ⟨ob, 1, none⟩ = some (.int .i64 kx) := blk_cell HQ.out.ok 1
  have o2 : wb.cell? ⟨ob, 2, none⟩ = some (.int .i64 ky) := blk_cell HQ.out.ok 2
  have o3 : wb.cell? ⟨ob, 3, none⟩ = some (.int .i64 kn) := blk_cell HQ.out.ok 3
  have o4 : wb.cell? ⟨ob, 4, none⟩ = some (.int .i64 km) := blk_cell HQ.out.ok 4
  have o5 : wb.cell? ⟨ob, 5, none⟩ = some (.int .i32 cr) := blk_cell HQ.out.ok 5
  have o6 : wb.cell? ⟨ob, 6, none⟩ = some (.int .i64 cw) := blk_cell HQ.out.ok 6
  have o7 : wb.cell? ⟨ob, 7, none⟩ = some (.int .i64 cf) := blk_cell HQ.out.ok 7
  have o8 : wb.cell? ⟨ob, 8, none⟩ = some (.int .i64 cb) := blk_cell HQ.out.ok 8
  have o9 : wb.cell? ⟨ob, 9, none⟩ = some (.int .i64 ca) := blk_cell HQ.out.ok 9
  have o10 : wb.cell? ⟨ob, 10, none⟩ = some (.bool ki) := blk_cell HQ.out.ok 10
  have os0 : wb.cell? ⟨sb, 0, none⟩ = some (.int .i64 cf) := blk_cell HQ.out.sk 0
  have os1 : wb.cell? ⟨sb, 1, none⟩ = some (.int .i64 cb) := blk_cell HQ.out.sk 1
  have os2 : wb.cell? ⟨sb, 2, none⟩ = some (.int .i64 ca) := blk_cell HQ.out.sk 2
  have HRI := Lib.hid (right_all ⟨cf, cb, ca⟩ wb (HT.out.below HQ.out.p.b) F.out.2.2.2.2.1 F.out.2.2.2.2.2)
  have HGB := Lib.hid HQ.out.p.gm
  go_upto_block 0 with fail
  go_cut [] (fun wz => ∃ Tg' Tr' g', Hid (Bp w Tg' Tr' q r bp wz g' g') ∧ Hid (g'.All WhR))
  case rest =>
    obtain ⟨Tg', Tr', g', HB9, HW9⟩ := hcut
    go_wp2_with fail
    exact ret1v rfl rfl rfl ⟨rfl, _, _, _, HB9.out, HW9.out⟩
  case first =>
    rcases HSEL.out with rfl | rfl | rfl
    · go_wp2_with fail
      refine (erase_any HGB.out kx ky kn ⟨cf, cb, ca⟩ HRI.out).mono ?_
      rintro e w5 ⟨rfl, hw5, g5⟩
      have H5 := Lib.hid (HQ.out.putG hw5 g5)
      clear hw5 g5
      have x1 : w5.cell? ⟨ob, 1, none⟩ = some (.int .i64 kx) := blk_cell H5.out.ok 1
      have x2 : w5.cell? ⟨ob, 2, none⟩ = some (.int .i64 ky) := blk_cell H5.out.ok 2
      have x3 : w5.cell? ⟨ob, 3, none⟩ = some (.int .i64 kn) := blk_cell H5.out.ok 3
      have x4 : w5.cell? ⟨ob, 4, none⟩ = some (.int .i64 km) := blk_cell H5.out.ok 4
      have x5 : w5.cell? ⟨ob, 5, none⟩ = some (.int .i32 cr) := blk_cell H5.out.ok 5
      have x6 : w5.cell? ⟨ob, 6, none⟩ = some (.int .i64 cw) := blk_cell H5.out.ok 6
      have x7 : w5.cell? ⟨ob, 7, none⟩ = some (.int .i64 cf) := blk_cell H5.out.ok 7
      have x8 : w5.cell? ⟨ob, 8, none⟩ = some (.int .i64 cb) := blk_cell H5.out.ok 8
      have x9 : w5.cell? ⟨ob, 9, none⟩ = some (.int .i64 ca) := blk_cell H5.out.ok 9
      have x10 : w5.cell? ⟨ob, 10, none⟩ = some (.bool ki) := blk_cell H5.out.ok 10
      have xs0 : w5.cell? ⟨sb, 0, none⟩ = some (.int .i64 cf) := blk_cell H5.out.sk 0
      have xs1 : w5.cell? ⟨sb, 1, none⟩ = some (.int .i64 cb) := blk_cell H5.out.sk 1
      have xs2 : w5.cell? ⟨sb, 2, none⟩ = some (.int .i64 ca) := blk_cell H5.out.sk 2
      clear o1 o2 o3 o4 o5 o6 o7 o8 o9 o10 os0 os1 os2
      go_wp2_with fail
      refine (eraseD_any H5.out.p.rm HWH.out kx ky kn ⟨cf, cb, ca⟩).mono ?_
      rintro e w6 ⟨rfl, hw6, T6, g6, n6⟩
      have H6 := Lib.hid (H5.out.turnR hw6 g6 n6)
      clear hw6 g6 n6
      clear x1 x2 x3 x4 x5 x6 x7 x8 x9 x10 xs0 xs1 xs2
      go_wp2_with fail
      go_meet
      exact ⟨_, _, _, H6.out.p, erase_wh HWH.out HGB.out.wf _ _ _ _⟩
    · go_wp2_with fail
      refine (ins_any HGB.out kx ky kn ⟨cf, cb, ca⟩ HRI.out).mono ?_
      rintro e w5 ⟨rfl, hw5, g5⟩
      have H5 := Lib.hid (HQ.out.putG hw5 g5)
      clear hw5 g5
      have x1 : w5.cell? ⟨ob, 1, none⟩ = some (.int .i64 kx) := blk_cell H5.out.ok 1
      have x2 : w5.cell? ⟨ob, 2, none⟩ = some (.int .i64 ky) := blk_cell H5.out.ok 2
      have x3 : w5.cell? ⟨ob, 3, none⟩ = some (.int .i64 kn) := blk_cell H5.out.ok 3
      have x4 : w5.cell? ⟨ob, 4, none⟩ = some (.int .i64 km) := blk_cell H5.out.ok 4
      have x5 : w5.cell? ⟨ob, 5, none⟩ = some (.int .i32 cr) := blk_cell H5.out.ok 5
      have x6 : w5.cell? ⟨ob, 6, none⟩ = some (.int .i64 cw) := blk_cell H5.out.ok 6
      have x7 : w5.cell? ⟨ob, 7, none⟩ = some (.int .i64 cf) := blk_cell H5.out.ok 7
      have x8 : w5.cell? ⟨ob, 8, none⟩ = some (.int .i64 cb) := blk_cell H5.out.ok 8
      have x9 : w5.cell? ⟨ob, 9, none⟩ = some (.int .i64 ca) := blk_cell H5.out.ok 9
      have x10 : w5.cell? ⟨ob, 10, none⟩ = some (.bool ki) := blk_cell H5.out.ok 10
      have xs0 : w5.cell? ⟨sb, 0, none⟩ = some (.int .i64 cf) := blk_cell H5.out.sk 0
      have xs1 : w5.cell? ⟨sb, 1, none⟩ = some (.int .i64 cb) := blk_cell H5.out.sk 1
      have xs2 : w5.cell? ⟨sb, 2, none⟩ = some (.int .i64 ca) := blk_cell H5.out.sk 2
      clear o1 o2 o3 o4 o5 o6 o7 o8 o9 o10 os0 os1 os2
      go_wp2_with fail
      refine (insD_any H5.out.p.rm HWH.out kx ky kn ⟨cf, cb, ca⟩).mono ?_
      rintro e w6 ⟨rfl, hw6, T6, g6, n6⟩
      have H6 := Lib.hid (H5.out.turnR hw6 g6 n6)
      clear hw6 g6 n6
      clear x1 x2 x3 x4 x5 x6 x7 x8 x9 x10 xs0 xs1 xs2
      go_wp2_with fail
      go_meet
      exact ⟨_, _, _, H6.out.p, ins_wh HWH.out HGB.out.wf _ _ _ _⟩
    · go_wp2_with fail
      refine (del_any HGB.out kx ky kn ⟨cf, cb, ca⟩ HRI.out).mono ?_
      rintro e w5 ⟨rfl, hw5, g5⟩
      have H5 := Lib.hid (HQ.out.putG hw5 g5)
      clear hw5 g5
      have x1 : w5.cell? ⟨ob, 1, none⟩ = some (.int .i64 kx) := blk_cell H5.out.ok 1
      have x2 : w5.cell? ⟨ob, 2, none⟩ = some (.int .i64 ky) := blk_cell H5.out.ok 2
      have x3 : w5.cell? ⟨ob, 3, none⟩ = some (.int .i64 kn) := blk_cell H5.out.ok 3
      have x4 : w5.cell? ⟨ob, 4, none⟩ = some (.int .i64 km) := blk_cell H5.out.ok 4
      have x5 : w5.cell? ⟨ob, 5, none⟩ = some (.int .i32 cr) := blk_cell H5.out.ok 5
      have x6 : w5.cell? ⟨ob, 6, none⟩ = some (.int .i64 cw) := blk_cell H5.out.ok 6
      have x7 : w5.cell? ⟨ob, 7, none⟩ = some (.int .i64 cf) := blk_cell H5.out.ok 7
      have x8 : w5.cell? ⟨ob, 8, none⟩ = some (.int .i64 cb) := blk_cell H5.out.ok 8
      have x9 : w5.cell? ⟨ob, 9, none⟩ = some (.int .i64 ca) := blk_cell H5.out.ok 9
      have x10 : w5.cell? ⟨ob, 10, none⟩ = some (.bool ki) := blk_cell H5.out.ok 10
      have xs0 : w5.cell? ⟨sb, 0, none⟩ = some (.int .i64 cf) := blk_cell H5.out.sk 0
      have xs1 : w5.cell? ⟨sb, 1, none⟩ = some (.int .i64 cb) := blk_cell H5.out.sk 1
      have xs2 : w5.cell? ⟨sb, 2, none⟩ = some (.int .i64 ca) := blk_cell H5.out.sk 2
      clear o1 o2 o3 o4 o5 o6 o7 o8 o9 o10 os0 os1 os2
      go_wp2_with fail
      refine (delD_any H5.out.p.rm HWH.out kx ky kn ⟨cf, cb, ca⟩).mono ?_
      rintro e w6 ⟨rfl, hw6, T6, g6, n6⟩
      have H6 := Lib.hid (H5.out.turnR hw6 g6 n6)
      clear hw6 g6 n6
      clear x1 x2 x3 x4 x5 x6 x7 x8 x9 x10 xs0 xs1 xs2
      go_wp2_with fail
      go_meet
      exact ⟨_, _, _, H6.out.p, del_wh HWH.out HGB.out.wf _ _ _ _⟩
end Go.Proofs.YtjclgoiclbkgjaaGreatDoor

/- The law GridPlays: a call on both grids: Up, Down, Wrap. -/
namespace Go.Proofs.YtjclgoiclbkgjaaGreatDoor
open Go.RowKit
attribute [local go_sem ↓] Go.wp_at_zero Go.wp_at_succ

set_option maxRecDepth 100000 in
set_option maxHeartbeats 8000000 in
theorem does_7 {w : World} {Tg Tr : Nat → Nat} {q r bp : Nat} {wr : World} {g : Gr} (h : Bp w Tg Tr q r bp wr g g) (hwh : g.All WhR) (o : OpR) (hok : o.Ok) (htab : Tabs w) (hsel : pickV o.kind 14 = 7 ∨ pickV o.kind 14 = 8 ∨ pickV o.kind 14 = 9 ∨ pickV o.kind 14 = 10) :
    Calls Tryz.prog 7 #[.pointer (some ⟨bp, 0, none⟩), .agg o.cells.toArray] wr fun e w' => e = .returned (.bool true) ∧ ∃ Tg' Tr' g', Bp w Tg' Tr' q r bp w' g' g' ∧ g'.All WhR := by
  obtain ⟨kd, kx, ky, kn, km, ⟨cr, cw, ⟨cf, cb, ca⟩⟩, ki⟩ := o
  obtain ⟨f0, f1, f2, f3, f4, f5, f6, f7, f8, f9⟩ := hok
  dsimp only at hsel f0 f1 f2 f3 f4 f5 f6 f7 f8 f9
  have F := Lib.hid (show I64 kd ∧ I64 kn ∧ I64 km ∧ (-2147483648 ≤ cr ∧ cr ≤ 2147483647) ∧ I64 cf ∧ I64 cb from ⟨f0, f3, f4, f5, f7, f8⟩)
  clear f0 f1 f2 f3 f4 f5 f6 f7 f8 f9
  have HT := Lib.hid htab
  have HWH := Lib.hid hwh
  have HOG := Lib.hid (show Tg wr.heap.size = 0 from h.gm.own0 (Nat.le_refl _))
  have HOR := Lib.hid (show Tr wr.heap.size = 0 from h.rm.own0 (Nat.le_refl _))
  have HB1 := Lib.hid (h.below (Below.alloc (Below.refl wr.heap.size wr) (Nat.le_refl _) (.cells #[.int .i64 kd, .int .i64 kx, .int .i64 ky, .int .i64 kn, .int .i64 km, .int .i32 cr, .int .i64 cw, .int .i64 cf, .int .i64 cb, .int .i64 ca, .bool ki] 40)))
  have HK1 := Lib.hid (blk_new wr (.cells #[.int .i64 kd, .int .i64 kx, .int .i64 ky, .int .i64 kn, .int .i64 km, .int .i32 cr, .int .i64 cw, .int .i64 cf, .int .i64 cb, .int .i64 ca, .bool ki] 40))
  clear h htab hwh
  unfold OpR.cells
  go_enter Tryz.func7, Tryz.ntmps7
  go_upto_region 1 with fail
  generalize wr.alloc (.cells #[.int .i64 kd, .int .i64 kx, .int .i64 ky, .int .i64 kn, .int .i64 km, .int .i32 cr, .int .i64 cw, .int .i64 cf, .int .i64 cb, .int .i64 ca, .bool ki] 40) = wa at *
  generalize wr.heap.size = ob at *
  have b0 : wa.cell? ⟨bp, 0, none⟩ = some (.pointer (some ⟨q, 0, none⟩)) := blk_cell HB1.out.bb 0
  have b1 : wa.cell? ⟨bp, 1, none⟩ = some (.pointer (some ⟨r, 0, none⟩)) := blk_cell HB1.out.bb 1
  have o7 : wa.cell? ⟨ob, 7, none⟩ = some (.int .i64 cf) := blk_cell HK1.out 7
  have o8 : wa.cell? ⟨ob, 8, none⟩ = some (.int .i64 cb) := blk_cell HK1.out 8
  have o9 : wa.cell? ⟨ob, 9, none⟩ = some (.int .i64 ca) := blk_cell HK1.out 9
  have HQ := Lib.hid (show Bq w Tg Tr q r bp ob wa.heap.size #[.int .i64 kd, .int .i64 kx, .int .i64 ky, .int .i64 kn, .int .i64 km, .int .i32 cr, .int .i64 cw, .int .i64 cf, .int .i64 cb, .int .i64 ca, .bool ki] #[.int .i64 cf, .int .i64 cb, .int .i64 ca] (wa.alloc (.cells #[.int .i64 cf, .int .i64 cb, .int .i64 ca] 36)) g g from
    ⟨HB1.out.below (Below.alloc (Below.refl wa.heap.size wa) (Nat.le_refl _) _), blk_alloc HK1.out _, HOG.out, HOR.out, blk_new _ _, HB1.out.gm.own0 (Nat.le_refl _), HB1.out.rm.own0 (Nat.le_refl _)⟩)
  go_upto_region 4 with fail
  clear b0 b1 o7 o8 o9
  generalize wa.alloc (.cells #[.int .i64 cf, .int .i64 cb, .int .i64 ca] 36) = wb at *
  generalize wa.heap.size = sb at *
  have o0 : wb.cell? ⟨ob, 0, none⟩ = some (.int .i64 kd) := blk_cell HQ.out.ok 0
  go_wp2_with fail
  refine (pick_val kd 14 wb F.out.1 (by decide) (by decide)).mono ?_
  rintro e wx1 ⟨rfl, hx1⟩
  subst wx1
  generalize pickV kd 14 = kk at *
  have HSEL := Lib.hid hsel
  clear hsel
  clear o0
  have o1 : wb.cell? ⟨ob, 1, none⟩ = some (.int .i64 kx) := blk_cell HQ.out.ok 1
  have o2 : wb.cell? ⟨ob, 2, none⟩ = some (.int .i64 ky) := blk_cell HQ.out.ok 2
  have o3 : wb.cell? ⟨ob, 3, none⟩ = some (.int .i64 kn) := blk_cell HQ.out.ok 3
  have o4 : wb.cell? ⟨ob, 4, none⟩ = some (.int .i64 km) := blk_cell HQ.out.ok 4
  have o5 : wb.cell? ⟨ob, 5, none⟩ = some (.int .i32 cr) := blk_cell HQ.out.ok 5
  have o6 : wb.cell? ⟨ob, 6, none⟩ = some (.int .i64 cw) := blk_cell HQ.out.ok 6
  have o7 : wb.cell? ⟨ob, 7, none⟩ = some (.int .i64 cf) := blk_cell HQ.out.ok 7
  have o8 : wb.cell? ⟨ob, 8, none⟩ = some (.int .i64 cb) := blk_cell HQ.out.ok 8
  have o9 : wb.cell? ⟨ob, 9, none⟩ = some (.int .i64 ca) := blk_cell HQ.out.ok 9
  have o10 : wb.cell? ⟨ob, 10, none⟩ = some (.bool ki) := blk_cell HQ.out.ok 10
  have os0 : wb.cell? ⟨sb, 0, none⟩ = some (.int .i64 cf) := blk_cell HQ.out.sk 0
  have os1 : wb.cell? ⟨sb, 1, none⟩ = some (.int .i64 cb) := blk_cell HQ.out.sk 1
  have os2 : wb.cell? ⟨sb, 2, none⟩ = some (.int .i64 ca) := blk_cell HQ.out.sk 2
  have HRI := Lib.hid (right_all ⟨cf, cb, ca⟩ wb (HT.out.below HQ.out.p.b) F.out.2.2.2.2.1 F.out.2.2.2.2.2)
  have HGB := Lib.hid HQ.out.p.gm
  go_upto_block 0 with fail
  go_cut [] (fun wz => ∃ Tg' Tr' g', Hid (Bp w Tg' Tr' q r bp wz g' g') ∧ Hid (g'.All WhR))
  case rest =>
    obtain ⟨Tg', Tr', g', HB9, HW9⟩ := hcut
    go_wp2_with fail
    exact ret1v rfl rfl rfl ⟨rfl, _, _, _, HB9.out, HW9.out⟩
  case first =>
    rcases HSEL.out with rfl | rfl | rfl | rfl
    · go_wp2_with fail
      refine (up_any HGB.out kx ky kn ⟨cf, cb, ca⟩ HRI.out ki).mono ?_
      rintro e w5 ⟨rfl, hw5, T5, g5, n5⟩
      have H5 := Lib.hid (HQ.out.turnG hw5 g5 n5)
      clear hw5 g5 n5
      have x1 : w5.cell? ⟨ob, 1, none⟩ = some (.int .i64 kx) := blk_cell H5.out.ok 1
      have x2 : w5.cell? ⟨ob, 2, none⟩ = some (.int .i64 ky) := blk_cell H5.out.ok 2
      have x3 : w5.cell? ⟨ob, 3, none⟩ = some (.int .i64 kn) := blk_cell H5.out.ok 3
      have x4 : w5.cell? ⟨ob, 4, none⟩ = some (.int .i64 km) := blk_cell H5.out.ok 4
      have x5 : w5.cell? ⟨ob, 5, none⟩ = some (.int .i32 cr) := blk_cell H5.out.ok 5
      have x6 : w5.cell? ⟨ob, 6, none⟩ = some (.int .i64 cw) := blk_cell H5.out.ok 6
      have x7 : w5.cell? ⟨ob, 7, none⟩ = some (.int .i64 cf) := blk_cell H5.out.ok 7
      have x8 : w5.cell? ⟨ob, 8, none⟩ = some (.int .i64 cb) := blk_cell H5.out.ok 8
      have x9 : w5.cell? ⟨ob, 9, none⟩ = some (.int .i64 ca) := blk_cell H5.out.ok 9
      have x10 : w5.cell? ⟨ob, 10, none⟩ = some (.bool ki) := blk_cell H5.out.ok 10
      have xs0 : w5.cell? ⟨sb, 0, none⟩ = some (.int .i64 cf) := blk_cell H5.out.sk 0
      have xs1 : w5.cell? ⟨sb, 1, none⟩ = some (.int .i64 cb) := blk_cell H5.out.sk 1
      have xs2 : w5.cell? ⟨sb, 2, none⟩ = some (.int .i64 ca) := blk_cell H5.out.sk 2
      clear o1 o2 o3 o4 o5 o6 o7 o8 o9 o10 os0 os1 os2
      go_wp2_with fail
      refine (upD_any H5.out.p.rm kx ky kn ⟨cf, cb, ca⟩ ki).mono ?_
      rintro e w6 ⟨rfl, hw6, T6, g6, n6⟩
      have H6 := Lib.hid (H5.out.turnR hw6 g6 n6)
      clear hw6 g6 n6
      clear x1 x2 x3 x4 x5 x6 x7 x8 x9 x10 xs0 xs1 xs2
      go_wp2_with fail
      go_meet
      exact ⟨_, _, _, H6.out.p, up_wh HWH.out _ _ _ _ _⟩
    · go_wp2_with fail
      refine (up_any HGB.out kx ky kn ⟨cf, cb, ca⟩ HRI.out ki).mono ?_
      rintro e w5 ⟨rfl, hw5, T5, g5, n5⟩
      have H5 := Lib.hid (HQ.out.turnG hw5 g5 n5)
      clear hw5 g5 n5
      have x1 : w5.cell? ⟨ob, 1, none⟩ = some (.int .i64 kx) := blk_cell H5.out.ok 1
      have x2 : w5.cell? ⟨ob, 2, none⟩ = some (.int .i64 ky) := blk_cell H5.out.ok 2
      have x3 : w5.cell? ⟨ob, 3, none⟩ = some (.int .i64 kn) := blk_cell H5.out.ok 3
      have x4 : w5.cell? ⟨ob, 4, none⟩ = some (.int .i64 km) := blk_cell H5.out.ok 4
      have x5 : w5.cell? ⟨ob, 5, none⟩ = some (.int .i32 cr) := blk_cell H5.out.ok 5
      have x6 : w5.cell? ⟨ob, 6, none⟩ = some (.int .i64 cw) := blk_cell H5.out.ok 6
      have x7 : w5.cell? ⟨ob, 7, none⟩ = some (.int .i64 cf) := blk_cell H5.out.ok 7
      have x8 : w5.cell? ⟨ob, 8, none⟩ = some (.int .i64 cb) := blk_cell H5.out.ok 8
      have x9 : w5.cell? ⟨ob, 9, none⟩ = some (.int .i64 ca) := blk_cell H5.out.ok 9
      have x10 : w5.cell? ⟨ob, 10, none⟩ = some (.bool ki) := blk_cell H5.out.ok 10
      have xs0 : w5.cell? ⟨sb, 0, none⟩ = some (.int .i64 cf) := blk_cell H5.out.sk 0
      have xs1 : w5.cell? ⟨sb, 1, none⟩ = some (.int .i64 cb) := blk_cell H5.out.sk 1
      have xs2 : w5.cell? ⟨sb, 2, none⟩ = some (.int .i64 ca) := blk_cell H5.out.sk 2
      clear o1 o2 o3 o4 o5 o6 o7 o8 o9 o10 os0 os1 os2
      go_wp2_with fail
      refine (upD_any H5.out.p.rm kx ky kn ⟨cf, cb, ca⟩ ki).mono ?_
      rintro e w6 ⟨rfl, hw6, T6, g6, n6⟩
      have H6 := Lib.hid (H5.out.turnR hw6 g6 n6)
      clear hw6 g6 n6
      clear x1 x2 x3 x4 x5 x6 x7 x8 x9 x10 xs0 xs1 xs2
      go_wp2_with fail
      go_meet
      exact ⟨_, _, _, H6.out.p, up_wh HWH.out _ _ _ _ _⟩
    · go_wp2_with fail
      refine (down_any HGB.out kx ky kn ⟨cf, cb, ca⟩ HRI.out).mono ?_
      rintro e w5 ⟨rfl, hw5, T5, g5, n5⟩
      have H5 := Lib.hid (HQ.out.turnG hw5 g5 n5)
      clear hw5 g5 n5
      have x1 : w5.cell? ⟨ob, 1, none⟩ = some (.int .i64 kx) := blk_cell H5.out.ok 1
      have x2 : w5.cell? ⟨ob, 2, none⟩ = some (.int .i64 ky) := blk_cell H5.out.ok 2
      have x3 : w5.cell? ⟨ob, 3, none⟩ = some (.int .i64 kn) := blk_cell H5.out.ok 3
      have x4 : w5.cell? ⟨ob, 4, none⟩ = some (.int .i64 km) := blk_cell H5.out.ok 4
      have x5 : w5.cell? ⟨ob, 5, none⟩ = some (.int .i32 cr) := blk_cell H5.out.ok 5
      have x6 : w5.cell? ⟨ob, 6, none⟩ = some (.int .i64 cw) := blk_cell H5.out.ok 6
      have x7 : w5.cell? ⟨ob, 7, none⟩ = some (.int .i64 cf) := blk_cell H5.out.ok 7
      have x8 : w5.cell? ⟨ob, 8, none⟩ = some (.int .i64 cb) := blk_cell H5.out.ok 8
      have x9 : w5.cell? ⟨ob, 9, none⟩ = some (.int .i64 ca) := blk_cell H5.out.ok 9
      have x10 : w5.cell? ⟨ob, 10, none⟩ = some (.bool ki) := blk_cell H5.out.ok 10
      have xs0 : w5.cell? ⟨sb, 0, none⟩ = some (.int .i64 cf) := blk_cell H5.out.sk 0
      have xs1 : w5.cell? ⟨sb, 1, none⟩ = some (.int .i64 cb) := blk_cell H5.out.sk 1
      have xs2 : w5.cell? ⟨sb, 2, none⟩ = some (.int .i64 ca) := blk_cell H5.out.sk 2
      clear o1 o2 o3 o4 o5 o6 o7 o8 o9 o10 os0 os1 os2
      go_wp2_with fail
      refine (downD_any H5.out.p.rm kx ky kn ⟨cf, cb, ca⟩).mono ?_
      rintro e w6 ⟨rfl, hw6, T6, g6, n6⟩
      have H6 := Lib.hid (H5.out.turnR hw6 g6 n6)
      clear hw6 g6 n6
      clear x1 x2 x3 x4 x5 x6 x7 x8 x9 x10 xs0 xs1 xs2
      go_wp2_with fail
      go_meet
      exact ⟨_, _, _, H6.out.p, down_wh HWH.out _ _ _ _⟩
    · go_wp2_with fail
      refine (wrap_any HGB.out ky ki).mono ?_
      rintro e w5 ⟨rfl, hw5, g5⟩
      have H5 := Lib.hid (HQ.out.putG hw5 g5)
      clear hw5 g5
      have x1 : w5.cell? ⟨ob, 1, none⟩ = some (.int .i64 kx) := blk_cell H5.out.ok 1
      have x2 : w5.cell? ⟨ob, 2, none⟩ = some (.int .i64 ky) := blk_cell H5.out.ok 2
      have x3 : w5.cell? ⟨ob, 3, none⟩ = some (.int .i64 kn) := blk_cell H5.out.ok 3
      have x4 : w5.cell? ⟨ob, 4, none⟩ = some (.int .i64 km) := blk_cell H5.out.ok 4
      have x5 : w5.cell? ⟨ob, 5, none⟩ = some (.int .i32 cr) := blk_cell H5.out.ok 5
      have x6 : w5.cell? ⟨ob, 6, none⟩ = some (.int .i64 cw) := blk_cell H5.out.ok 6
      have x7 : w5.cell? ⟨ob, 7, none⟩ = some (.int .i64 cf) := blk_cell H5.out.ok 7
      have x8 : w5.cell? ⟨ob, 8, none⟩ = some (.int .i64 cb) := blk_cell H5.out.ok 8
      have x9 : w5.cell? ⟨ob, 9, none⟩ = some (.int .i64 ca) := blk_cell H5.out.ok 9
      have x10 : w5.cell? ⟨ob, 10, none⟩ = some (.bool ki) := blk_cell H5.out.ok 10
      have xs0 : w5.cell? ⟨sb, 0, none⟩ = some (.int .i64 cf) := blk_cell H5.out.sk 0
      have xs1 : w5.cell? ⟨sb, 1, none⟩ = some (.int .i64 cb) := blk_cell H5.out.sk 1
      have xs2 : w5.cell? ⟨sb, 2, none⟩ = some (.int .i64 ca) := blk_cell H5.out.sk 2
      clear o1 o2 o3 o4 o5 o6 o7 o8 o9 o10 os0 os1 os2
      go_wp2_with fail
      refine (wrapD_any H5.out.p.rm ky ki).mono ?_
      rintro e w6 ⟨rfl, hw6, g6⟩
      have H6 := Lib.hid (H5.out.putR hw6 g6)
      clear hw6 g6
      clear x1 x2 x3 x4 x5 x6 x7 x8 x9 x10 xs0 xs1 xs2
      go_wp2_with fail
      go_meet
      exact ⟨_, _, _, H6.out.p, wrap_wh HWH.out _ _⟩
end Go.Proofs.YtjclgoiclbkgjaaGreatDoor
