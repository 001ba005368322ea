/- Package grid, texts laid together: G28 H1 Arg ArgG ArgO E6 E7 LaidG. -/
import Derived.Test.YtjclgoiclbkgjaaDoorK15
import Derived.Test.YtjclgoiclbkgjaaDoorRows
import Derived.Test.YtjclgoiclbkgjaaDoorK1
import Derived.ProofKit
import Derived.Test.YtjclgoiclbkgjaaDoorK2
import Derived.Test.YtjclgoiclbkgjaaDoorK16
import Derived.Test.YtjclgoiclbkgjaaDoorK18
import Derived.Deep.CutBlock
import Derived.StillTailTactics
import Derived.Test.YtjclgoiclbkgjaaDoorCards
import Derived.Test.YtjclgoiclbkgjaaDoorTie
import Derived.WalkKit
import Derived.OpenShut
import Derived.Deep.DeepHandedRow
import Derived.JoinedCond
/- What the laws of package grid call: sameCells. -/
namespace Go.Proofs.YtjclgoiclbkgjaaDoor
open Go.RowKit
attribute [local go_sem ↓] Go.wp_at_zero Go.wp_at_succ

theorem take_same {la lb : List Cel} (k : Nat) (ha : k < la.length) (hb : k < lb.length) (h : la.take k = lb.take k) (e : la.getD k noC = lb.getD k noC) : la.take (k + 1) = lb.take (k + 1) := by
  rw [take_succ_getD la noC k ha, take_succ_getD lb noC k hb, h, e]
set_option maxRecDepth 100000 in
set_option maxHeartbeats 2000000 in
theorem sameCells_any (la lb : List Cel) (va vb : Value) (w : World) (ha : OwnC w 0 5 va la.length (cvals la)) (hb : OwnC w 0 5 vb lb.length (cvals lb)) (hl : la.length ≤ 1000000) (hl2 : lb.length ≤ 1000000) :
    Calls Tryd.prog 24 #[va, vb] w fun e w' => ∃ bv : Bool, e = .returned (.bool bv) ∧ (bv = true ↔ la = lb) ∧ Below w.heap.size w w' := by
  have HA := Lib.hid ha
  have HB := Lib.hid hb
  have ha0 := ownC_ln Tryd.underlying51 ha
  have hb0 := ownC_ln Tryd.underlying51 hb
  clear ha hb
  by_cases hne : la.length = lb.length
  rotate_left
  · have t1 : ((la.length : Int) != (lb.length : Int)) = true := by simp [bne, beq_eq_false_iff_ne.2 (show ¬ (la.length : Int) = (lb.length : Int) by omega)]
    have t2 : (la.length != lb.length) = true := by simp [bne, beq_eq_false_iff_ne.2 hne]
    have HN := Lib.hid (show ¬ la = lb from fun e => hne (by rw [e]))
    have HNE := Lib.hid hne
    clear hne
    go_enter Tryd.func24, Tryd.ntmps24
    have t3 : decide ((la.length : Int) = (lb.length : Int)) = false := decide_eq_false (by have := HNE.out; omega)
    have t4 : decide (la.length = lb.length) = false := decide_eq_false HNE.out
    go_wp2_with fail
    exact ret1v rfl rfl rfl ⟨false, rfl, ⟨fun e => (by cases e), fun e => absurd e HN.out⟩, Below.refl _ _⟩
  · have HNE := Lib.hid hne
    rw [← hne] at hb0
    clear hne
    go_enter Tryd.func24, Tryd.ntmps24
    go_upto_region 4 with fail
    go_loopw [5] (fun iv wr => ∃ k : Nat, k ≤ la.length ∧ iv = .int .i64 k ∧ Hid (Below w.heap.size w wr) ∧ Hid (la.take k = lb.take k)) (fun iv _ => la.length - (intOf iv).toNat)
    case atStart => exact ⟨0, Nat.zero_le _, rfl, Below.refl _ _, by simp [Hid]⟩
    case round =>
      obtain ⟨k, hk, rfl, HW, HT⟩ := hrel
      by_cases hlt : k < la.length
      · have d1 : decide ((k : Int) < (la.length : Int)) = true := decide_eq_true (by omega)
        have d1' : decide (k < la.length) = true := decide_eq_true hlt
        have hlb : k < lb.length := by have := HNE.out; omega
        have oa := ownC_below HA.out HW.out
        have ob := ownC_below HB.out HW.out
        obtain ⟨ba, fa, ca, e1, _, _⟩ := ownC_pos oa (by omega)
        obtain ⟨bb, fb, cb, e2, _, _⟩ := ownC_pos ob (by omega)
        subst e1 e2
        obtain ⟨p0, p1, p2, p3, p4⟩ := ownC_cel oa k (by omega) rfl
        obtain ⟨q0, q1, q2, q3, q4⟩ := ownC_cel ob k (by omega) rfl
        have hix1 := idx_at (P := Tryd.prog) (size := 5) Tryd.underlying51 cell_info ba fa la.length ca k hlt
        have hix2 := idx_at (P := Tryd.prog) (size := 5) Tryd.underlying51 cell_info bb fb lb.length cb k hlb
        have HTS := Lib.hid (fun e => take_same k hlt hlb HT.out e)
        have HGA := Lib.hid (show la.getD k noC = lb.getD k noC ∨ ¬ la = lb from by
          by_cases e : la = lb
          · exact .inl (by rw [e])
          · exact .inr e)
        have hneq := fun (wx : World) => neq_cel (la.getD k noC) (lb.getD k noC) wx
        have hgd := fun (x y : Operand) (wx : World) => guard_cel .neq x y (la.getD k noC) (lb.getD k noC) wx
        have hw6 : IntKind.i64.wrap ((k : Int) + 1) = (k : Int) + 1 := wrap64_id _ (by omega) (by omega)
        clear oa ob
        generalize la.getD k noC = xa at *
        generalize lb.getD k noC = xb at *
        obtain ⟨ar, aw, ⟨af, ag, at'⟩⟩ := xa
        obtain ⟨br, bw, ⟨bf, bg, bt⟩⟩ := xb
        unfold Cel.val at hneq hgd
        dsimp only at p0 p1 p2 p3 p4 q0 q1 q2 q3 q4 hneq hgd
        have HEQ := Lib.hid (Cel.eqb_iff ⟨ar, aw, ⟨af, ag, at'⟩⟩ ⟨br, bw, ⟨bf, bg, bt⟩⟩)
        generalize hbv : Cel.eqb ⟨ar, aw, ⟨af, ag, at'⟩⟩ ⟨br, bw, ⟨bf, bg, bt⟩⟩ = bv at *
        clear hbv
        go_upto_region 6 with fail
        go_region_held3 (fun w' => w'.cell? ⟨ba, fa + k * 5, none⟩ = some (.int .i32 ar) ∧ w'.cell? ⟨ba, fa + k * 5 + 1, none⟩ = some (.int .i64 aw) ∧ w'.cell? ⟨ba, fa + k * 5 + 2, none⟩ = some (.int .i64 af) ∧ w'.cell? ⟨ba, fa + k * 5 + 3, none⟩ = some (.int .i64 ag) ∧ w'.cell? ⟨ba, fa + k * 5 + 4, none⟩ = some (.int .i64 at') ∧
          w'.cell? ⟨bb, fb + k * 5, none⟩ = some (.int .i32 br) ∧ w'.cell? ⟨bb, fb + k * 5 + 1, none⟩ = some (.int .i64 bw) ∧ w'.cell? ⟨bb, fb + k * 5 + 2, none⟩ = some (.int .i64 bf) ∧ w'.cell? ⟨bb, fb + k * 5 + 3, none⟩ = some (.int .i64 bg) ∧ w'.cell? ⟨bb, fb + k * 5 + 4, none⟩ = some (.int .i64 bt)) (go_keep) (fail)
        clear p0 p1 p2 p3 p4 q0 q1 q2 q3 q4
        cases bv
        · go_wp2_with fail
          refine ret1v rfl rfl rfl ⟨false, rfl, ⟨fun e => (by cases e), fun e => ?_⟩, HW.out.drew⟩
          rcases HGA.out with h1 | h1
          · have h2 := HEQ.out.2 h1
            cases h2
          · exact absurd e h1
        · go_wp2_with fail
          go_roundw
          case rel => exact ⟨k + 1, by omega, by go_num, HW.out.drew, HTS.out (HEQ.out.1 rfl)⟩
          case measure => simp [intOf]; omega
      · have d1 : decide ((k : Int) < (la.length : Int)) = false := decide_eq_false (by omega)
        have d1' : decide (k < la.length) = false := decide_eq_false hlt
        have HEQ := Lib.hid (show la = lb from by
          have h1 := HT.out
          rw [List.take_of_length_le (by omega), List.take_of_length_le (by have := HNE.out; omega)] at h1
          exact h1)
        go_wp2_with fail
        exact ret1v rfl rfl rfl ⟨true, rfl, ⟨fun _ => HEQ.out, fun _ => rfl⟩, HW.out⟩
end Go.Proofs.YtjclgoiclbkgjaaDoor

/- The law GridMoves: the walk. -/
namespace Go.Proofs.YtjclgoiclbkgjaaDoor
open Go.RowKit
attribute [local go_sem ↓] Go.wp_at_zero Go.wp_at_succ

theorem row_nat (g : Gr) (y : Nat) : g.row (y : Int) = (g.rows[y]?).getD noR := by
  unfold Gr.row
  by_cases h : y < g.rows.length
  · rw [if_pos (by omega), Int.toNat_natCast, List.getD_eq_getElem?_getD]
  · rw [if_neg (by omega), if_neg (by omega), List.getElem?_eq_none (by omega)]; rfl
theorem region_in (g : Gr) (t b n : Nat) (h1 : t ≤ b) (h2 : b < g.rows.length) (h3 : n ≤ b + 1 - t) : regionN g (t : Int) (b : Int) (n : Int) plainS = n := by
  unfold regionN
  rw [if_neg (fun e => by
    rcases e with e | e | e | e
    · omega
    · omega
    · omega
    · exact absurd e (by decide))]
  omega
theorem up_row (g : Gr) (t b n : Nat) (h1 : t ≤ b) (h2 : b < g.rows.length) (h3 : n ≤ b + 1 - t) (h4 : 1 ≤ n) (y : Nat) :
    (g.up (t : Int) (b : Int) (n : Int) plainS false).row (y : Int) = if y < t then g.row y else if y + n ≤ b then g.row ((y + n : Nat) : Int) else if y ≤ b then blankR g.cols plainS else g.row y := by
  rw [row_nat, row_nat, row_nat]
  unfold Gr.up
  rw [region_in g t b n h1 h2 h3, if_neg (by omega)]
  show ((upRows g.rows (t : Int).toNat (b : Int).toNat n g.cols plainS)[y]?).getD noR = _
  rw [Int.toNat_natCast, Int.toNat_natCast, up_get h1 h2 h3]
  split
  · rfl
  · split
    · rfl
    · split
      · rfl
      · rfl
theorem down_row (g : Gr) (t b n : Nat) (h1 : t ≤ b) (h2 : b < g.rows.length) (h3 : n ≤ b + 1 - t) (h4 : 1 ≤ n) (y : Nat) :
    (g.down (t : Int) (b : Int) (n : Int) plainS).row (y : Int) = if y < t then g.row y else if y < t + n then blankR g.cols plainS else if y ≤ b then g.row ((y - n : Nat) : Int) else g.row y := by
  rw [row_nat, row_nat, row_nat]
  unfold Gr.down
  rw [region_in g t b n h1 h2 h3, if_neg (by omega)]
  show ((downRows g.rows (t : Int).toNat (b : Int).toNat n g.cols plainS)[y]?).getD noR = _
  rw [Int.toNat_natCast, Int.toNat_natCast, down_get h1 h2 h3]
  split
  · rfl
  · split
    · rfl
    · split
      · rfl
      · rfl
/-- Rows that are scrolled up, and down again. -/
theorem moved_row (g : Gr) (t b n : Nat) (h1 : t ≤ b) (h2 : b < g.rows.length) (h3 : n ≤ b + 1 - t) (h4 : 1 ≤ n) (y : Nat) :
    ((g.up (t : Int) (b : Int) (n : Int) plainS false).down (t : Int) (b : Int) (n : Int) plainS).row (y : Int) = if t ≤ y ∧ y < t + n then blankR g.cols plainS else g.row y := by
  have hd := Dim.up (g := g) ⟨rfl, rfl, rfl⟩ (t : Int) (b : Int) (n : Int) plainS false
  rw [down_row _ t b n h1 (by rw [hd.2.1]; exact h2) h3 h4, hd.1, up_row g t b n h1 h2 h3 h4, up_row g t b n h1 h2 h3 h4]
  repeat' split
  all_goals first
    | rfl
    | (exfalso; omega)
    | (rw [show y - n + n = y by omega])
theorem text_blank (n : Nat) (s : Sty) : textL (blankR n s).cells = [] := by
  unfold textL blankR
  rw [trim_blank]; rfl
theorem isVals_below {w w2 : World} {v : Value} {l : List Value} (h : IsVals w v l) (b : Below w.heap.size w w2) : IsVals w2 v l := by
  rcases h with h | ⟨a, c, e1, e2, e3, e4⟩
  · exact .inl h
  · exact .inr ⟨a, c, e1, e2, e3, fun j hj => cell_below b (e4 j hj)⟩
theorem Sh.mono {w w1 : World} {T : Nat → Nat} {p : Nat} {wi : World} {g : Gr} (h : Sh w1 T p wi g) (b : Below w.heap.size w w1) : Sh w T p wi g :=
  ⟨b.trans (h.b.mono b.size), h.gm, fun k hk => Nat.le_trans b.size (h.n k hk)⟩
/-- Two grids that lie apart. -/
structure Two (w : World) (T T2 : Nat → Nat) (q q2 : Nat) (wi : World) (g g2 : Gr) : Prop where
  a : Sh w T q wi g
  b : Sh w T2 q2 wi g2
  d : ∀ k, T2 k ≠ 0 → T k = 0
theorem Two.below {w : World} {T T2 : Nat → Nat} {q q2 : Nat} {wi wj : World} {g g2 : Gr} (h : Two w T T2 q q2 wi g g2) (b : Below wi.heap.size wi wj) : Two w T T2 q q2 wj g g2 := ⟨h.a.below b, h.b.below b, h.d⟩
theorem Two.turn {w : World} {T T' T2 : Nat → Nat} {q q2 : Nat} {wi wj : World} {g g' g2 : Gr} (h : Two w T T2 q q2 wi g g2) (hw : Within (own T wi) wi wj) (hg : GM T' q wj g') (hn : ∀ k, T' k ≠ 0 → own T wi k) : Two w T' T2 q q2 wj g' g2 :=
  ⟨h.a.turn hw hg hn, ⟨(h.a.turn hw hg hn).b, h.b.gm.other hw h.d, h.b.n⟩, fun k hk => by
    by_cases h0 : T' k = 0
    · exact h0
    · rcases hn k h0 with e | e
      · exact absurd (h.d k hk) e
      · have := h.b.gm.lt k hk; omega⟩
theorem sh_setRow {w wk : World} {T : Nat → Nat} {q pk : Nat} {g : Gr} (cells : Array Value) (h : Sh w T q wk g) (hT : T pk = 0) (hp : w.heap.size ≤ pk) : Sh w T q (wk.setRow pk cells) g :=
  ⟨h.b.trans (below_of_gb (gb_setRow wk pk cells) h.b.size (fun k hk => by injection hk with hk; omega)),
   h.gm.other (Tp := fun k => if k = pk then 1 else 0) (Within.of_gb (gb_setRow wk pk cells) (fun k hk => by
      injection hk with hk
      subst hk
      exact .inl (by show (if _ then 1 else 0) ≠ 0; rw [if_pos rfl]; decide))) (fun k hk => by
      show (if _ then 1 else 0) = 0
      rw [if_neg (fun e => hk (by rw [e]; exact hT))]), h.n⟩
theorem sh_free {w wk : World} {T : Nat → Nat} {q : Nat} {g : Gr} (h : Sh w T q wk g) {k : Nat} (hk : wk.heap.size ≤ k) : T k = 0 := h.gm.own0 hk
theorem two_setRow {w wk : World} {T T2 : Nat → Nat} {q q2 pk : Nat} {g g2 : Gr} (cells : Array Value) (h : Two w T T2 q q2 wk g g2) (hT : T pk = 0) (hT2 : T2 pk = 0) (hp : w.heap.size ≤ pk) : Two w T T2 q q2 (wk.setRow pk cells) g g2 :=
  ⟨sh_setRow cells h.a hT hp, sh_setRow cells h.b hT2 hp, h.d⟩
end Go.Proofs.YtjclgoiclbkgjaaDoor

/- Arguments of a law, opened. -/
namespace Go.Proofs.YtjclgoiclbkgjaaDoor
open Go.ChangeShapes Go.WideShapes Go.ChangeAt Go.RowKit Go.ChangeMaps

theorem bulk_pos {H : Type} (d : DataW H) : 1 ≤ Rows.uptoBulk d := by
  cases d with
  | lit l => cases l <;> simp [Rows.uptoBulk]
  | nil => simp [Rows.uptoBulk]
  | ptr d => simp [Rows.uptoBulk]
  | slice elems spare => simp [Rows.uptoBulk]
  | agg parts => simp [Rows.uptoBulk]
  | iface t d => simp [Rows.uptoBulk]
  | map entries => simp [Rows.uptoBulk]
  | held h => simp [Rows.uptoBulk]
theorem bulk_len {H : Type} (l : List (DataW H)) : l.length ≤ Rows.uptoBulkAll l := by
  induction l with
  | nil => simp [Rows.uptoBulkAll]
  | cons x r ih => have := bulk_pos x; simp only [Rows.uptoBulkAll, List.length_cons]; omega

theorem open_arg {H : Type} {enc : TypeId × Value → H} {P : Program} {W : World} {t e : TypeId} {k : IntKind} {fuel : Nat} {a : Option Addr} {len cap : Nat} {x : DataW H × List MemPlace}
    (ht : P.underlying t = some (.slice e)) (he : P.underlying e = some (.int k)) (hc : P.cellsOf e = 1)
    (h : DataW.trod enc P W 0 (fun _ => true) true fuel t (Value.slice a len cap).cells.toList = some x) :
    ∃ zs, IsArg k W (.slice a len cap) zs ∧ zs.length + 1 ≤ Rows.uptoBulk x.1 := by
  rcases open_ints ht he hc h with ⟨hcs, hx⟩ | ⟨ad, l, c, zs, hcs, _, hl, hm, hz, hx, hcell, hwz⟩
  · simp [Value.cells] at hcs
    obtain ⟨rfl, rfl, rfl⟩ := hcs
    exact ⟨[], .inl ⟨rfl, rfl⟩, by rw [hx]; simp [Rows.uptoBulk]⟩
  · simp [Value.cells] at hcs
    obtain ⟨rfl, rfl, rfl⟩ := hcs
    simp at hz
    have hlen : (zs.take len).length = len := by rw [List.length_take]; omega
    refine ⟨zs.take len, .inr ⟨ad, cap, by rw [hlen], by rw [hlen]; exact hl, by unfold maxLen at hm; exact hm, fun j hj => ?_, fun n hn => hwz n (List.mem_of_mem_take hn)⟩, ?_⟩
    · rw [hcell j (by omega)]
      congr 2
      rw [List.getD_eq_getElem?_getD, List.getD_eq_getElem?_getD, List.getElem?_take, if_pos (by omega)]
    · rw [hx]
      simp only [Rows.uptoBulk]
      have h1 := bulk_len (H := H) (lits k (zs.take len))
      have h2 : (lits (H := H) k (zs.take len)).length = (zs.take len).length := by simp [lits]
      omega
end Go.Proofs.YtjclgoiclbkgjaaDoor

/- Arguments that are slices of strings or of bools, opened. -/
namespace Go.Proofs.YtjclgoiclbkgjaaDoor
open Go.ChangeShapes Go.WideShapes Go.ChangeAt Go.RowKit Go.ChangeMaps

theorem mapM_range1 {f : Nat → Option Value} {cs : List Value} (h : (List.range 1).mapM f = some cs) : ∃ c0, cs = [c0] ∧ f 0 = some c0 := by
  rw [show List.range 1 = [0] from rfl] at h
  simp only [List.mapM_cons, List.mapM_nil, Option.pure_def, Option.bind_eq_bind, Option.bind_eq_some_iff, Option.some.injEq] at h
  obtain ⟨c0, h0, _, rfl, rfl⟩ := h
  exact ⟨c0, rfl, h0⟩
theorem bulk_memG {H : Type} : ∀ (l : List (DataW H)) (d : DataW H), d ∈ l → Rows.uptoBulk d ≤ Rows.uptoBulkAll l
  | x :: l, d, h => by
    simp only [Rows.uptoBulkAll]
    rcases List.mem_cons.1 h with rfl | h
    · omega
    · have := bulk_memG l d h; omega
theorem cellsOf_strG : Tryd.prog.cellsOf 9 = 1 := by kernel_rfl
theorem cellsOf_boolG : Tryd.prog.cellsOf 4 = 1 := by kernel_rfl
theorem addr_add0 (a : Addr) (i : Nat) : (a.add (i * 1)).add 0 = a.add i := by simp [Addr.add]
theorem wf64 {n : Int} (h : (Lit.int .i64 n).wf = true) : -9223372036854775808 ≤ n ∧ n ≤ 9223372036854775807 := by
  simp only [Lit.wf, Bool.and_eq_true, decide_eq_true_eq] at h
  exact h
theorem choose_list {α : Type} {p : Nat → α → Prop} {len : Nat} (h : ∀ i, i < len → ∃ y, p i y) : ∀ m, m ≤ len → ∃ l : List α, l.length = m ∧ ∀ i (hi : i < l.length), p i l[i] := by
  intro m
  induction m with
  | zero => intro _; exact ⟨[], rfl, fun i hi => absurd hi (by simp)⟩
  | succ m ih =>
    intro hm
    obtain ⟨l, hl, hp⟩ := ih (by omega)
    obtain ⟨y, hy⟩ := h m (by omega)
    refine ⟨l ++ [y], by simp [hl], fun i hi => ?_⟩
    by_cases hlt : i < l.length
    · rw [List.getElem_append_left hlt]
      exact hp i hlt
    · have hi2 : i = m := by rw [List.length_append, hl] at hi; simp at hi; omega
      subst hi2
      rw [List.getElem_append_right (by omega)]
      simp only [hl, Nat.sub_self, List.getElem_singleton]
      exact hy
set_option maxHeartbeats 1000000 in
theorem open_strs {H : Type} {enc : TypeId × Value → H} {W : World} {fuel : Nat} {a : Option Addr} {len cap : Nat} {x : DataW H × List MemPlace}
    (h : DataW.trod enc Tryd.prog W 0 (fun _ => true) true fuel 22 (Value.slice a len cap).cells.toList = some x) :
    ∃ l : List ByteArray, IsVals W (.slice a len cap) (l.map Value.string) ∧ (∀ s ∈ l, s.size ≤ Rows.uptoBulk x.1) ∧ l.length ≤ Rows.uptoBulk x.1 := by
  rcases DataW.trod_slice Tryd.underlying22 h with ⟨hcs, hx⟩ | ⟨ad, l, c, elems, rest, n, hfu, hcs, hx, _, hlc, hcm, hel, hat, _, _⟩
  · simp [Value.cells] at hcs
    obtain ⟨rfl, rfl, rfl⟩ := hcs
    exact ⟨[], .inl ⟨rfl, rfl⟩, fun _ h => by simp at h, Nat.zero_le _⟩
  · simp [Value.cells] at hcs
    obtain ⟨rfl, rfl, rfl⟩ := hcs
    have hone : ∀ i, i < len → ∃ s : ByteArray, W.cell? (ad.add i) = some (.string s) ∧ s.size ≤ Rows.uptoBulk x.1 := by
      intro i hi
      have h1 := hat i hi
      rw [cellsOf_strG, List.getElem?_eq_getElem (by omega)] at h1
      obtain ⟨cs, hc, ht⟩ := Option.bind_eq_some_iff.1 h1
      obtain ⟨s, e, es, _⟩ := DataW.trod_string Tryd.underlying9 ht
      have hbk : Rows.uptoBulk elems[i].1 ≤ Rows.uptoBulk x.1 := by
        rw [hx]
        simp only [Rows.uptoBulk]
        have := bulk_memG (elems.map (·.1)) elems[i].1 (List.mem_map_of_mem (List.getElem_mem (by omega)))
        omega
      unfold World.cells? at hc
      rw [if_pos (Nat.zero_le _)] at hc
      obtain ⟨c0, e0, g0⟩ := mapM_range1 hc
      rw [e0] at e
      rw [addr_add0] at g0
      refine ⟨s, by rw [g0]; simpa using e, ?_⟩
      rw [es] at hbk
      simp only [Rows.uptoBulk, Array.length_toList] at hbk
      show s.data.size ≤ _
      omega
    obtain ⟨l, hl, hp⟩ := choose_list hone len (Nat.le_refl _)
    refine ⟨l, .inr ⟨ad, cap, by rw [List.length_map, hl], by rw [List.length_map, hl]; exact hlc, by unfold maxLen at hcm; exact hcm, fun j hj => ?_⟩, fun s hs => ?_, ?_⟩
    · rw [List.length_map] at hj
      rw [(hp j hj).1, List.getD_eq_getElem?_getD, List.getElem?_map, List.getElem?_eq_getElem hj]
      rfl
    · obtain ⟨i, hi, rfl⟩ := List.getElem_of_mem hs
      exact (hp i hi).2
    · rw [hl, hx]
      simp only [Rows.uptoBulk]
      have := bulk_len (elems.map (·.1))
      rw [List.length_map] at this
      omega
end Go.Proofs.YtjclgoiclbkgjaaDoor

/- An argument that is a slice of calls (Op), opened. -/
namespace Go.Proofs.YtjclgoiclbkgjaaDoor
open Go.ChangeShapes Go.WideShapes Go.ChangeAt Go.RowKit Go.ChangeMaps

def I64 (x : Int) : Prop := -9223372036854775808 ≤ x ∧ x ≤ 9223372036854775807
/-- A call of a script. -/
structure OpR where
  kind : Int
  x : Int
  y : Int
  n : Int
  m : Int
  c : Cel
  is : Bool
def OpR.cells (o : OpR) : List Value := [.int .i64 o.kind, .int .i64 o.x, .int .i64 o.y, .int .i64 o.n, .int .i64 o.m, .int .i32 o.c.rune, .int .i64 o.c.width, .int .i64 o.c.sty.fg, .int .i64 o.c.sty.bg, .int .i64 o.c.sty.attr, .bool o.is]
structure OpR.Ok (o : OpR) : Prop where
  kind : I64 o.kind
  x : I64 o.x
  y : I64 o.y
  n : I64 o.n
  m : I64 o.m
  r : -2147483648 ≤ o.c.rune ∧ o.c.rune ≤ 2147483647
  w : I64 o.c.width
  fg : I64 o.c.sty.fg
  bg : I64 o.c.sty.bg
  at' : I64 o.c.sty.attr
def IsOps (w : World) (v : Value) (l : List OpR) : Prop :=
  (v = .slice none 0 0 ∧ l = []) ∨ ∃ (a : Addr) (c : Nat), v = .slice (some a) l.length c ∧ l.length ≤ c ∧ c ≤ 9223372036854775807 ∧
    ∀ j (hj : j < l.length), ∀ i u, l[j].cells[i]? = some u → w.cell? ((a.add (j * 11)).add i) = some u
theorem isOps_below {w w' : World} {v : Value} {l : List OpR} (h : IsOps w v l) (g : Below w.heap.size w w') : IsOps w' v l := by
  rcases h with h | ⟨a, c, h1, h2, h3, h4⟩
  · exact .inl h
  · exact .inr ⟨a, c, h1, h2, h3, fun j hj i u hu => cell_below g (h4 j hj i u hu)⟩
theorem mapM_range11 {f : Nat → Option Value} {cs : List Value} (h : (List.range 11).mapM f = some cs) : ∀ i u, cs[i]? = some u → f i = some u := by
  rw [show List.range 11 = [0, 1, 2, 3, 4, 5, 6, 7, 8, 9, 10] from rfl] at h
  simp only [List.mapM_cons, List.mapM_nil, Option.pure_def, Option.bind_eq_bind, Option.bind_eq_some_iff, Option.some.injEq] at h
  obtain ⟨c0, h0, _, ⟨c1, h1, _, ⟨c2, h2, _, ⟨c3, h3, _, ⟨c4, h4, _, ⟨c5, h5, _, ⟨c6, h6, _, ⟨c7, h7, _, ⟨c8, h8, _, ⟨c9, h9, _, ⟨c10, h10, _, rfl, rfl⟩, rfl⟩, rfl⟩, rfl⟩, rfl⟩, rfl⟩, rfl⟩, rfl⟩, rfl⟩, rfl⟩, rfl⟩ := h
  intro i u hu
  match i, hu with
  | 0, hu => rw [h0]; simpa using hu
  | 1, hu => rw [h1]; simpa using hu
  | 2, hu => rw [h2]; simpa using hu
  | 3, hu => rw [h3]; simpa using hu
  | 4, hu => rw [h4]; simpa using hu
  | 5, hu => rw [h5]; simpa using hu
  | 6, hu => rw [h6]; simpa using hu
  | 7, hu => rw [h7]; simpa using hu
  | 8, hu => rw [h8]; simpa using hu
  | 9, hu => rw [h9]; simpa using hu
  | 10, hu => rw [h10]; simpa using hu
  | i + 11, hu => simp at hu
theorem cellsOf_intO : Tryd.prog.cellsOf 3 = 1 := by kernel_rfl
theorem cellsOf_runeO : Tryd.prog.cellsOf 21 = 1 := by kernel_rfl
theorem cellsOf_boolO : Tryd.prog.cellsOf 4 = 1 := by kernel_rfl
theorem cellsOf_styO : Tryd.prog.cellsOf 33 = 3 := by kernel_rfl
theorem cellsOf_celO : Tryd.prog.cellsOf 38 = 5 := by kernel_rfl
theorem cellsOf_opO : Tryd.prog.cellsOf 65 = 11 := by kernel_rfl
theorem three' {α : Type} {l : List α} (h : l.length = 3) : ∃ c0 c1 c2, l = [c0, c1, c2] := by
  match l, h with
  | [c0, c1, c2], _ => exact ⟨c0, c1, c2, rfl⟩
theorem five' {α : Type} {l : List α} (h : l.length = 5) : ∃ c0 c1 c2 c3 c4, l = [c0, c1, c2, c3, c4] := by
  match l, h with
  | [c0, c1, c2, c3, c4], _ => exact ⟨c0, c1, c2, c3, c4, rfl⟩
theorem seven' {α : Type} {l : List α} (h : l.length = 7) : ∃ c0 c1 c2 c3 c4 c5 c6, l = [c0, c1, c2, c3, c4, c5, c6] := by
  match l, h with
  | [c0, c1, c2, c3, c4, c5, c6], _ => exact ⟨c0, c1, c2, c3, c4, c5, c6, rfl⟩
theorem eleven' {α : Type} {l : List α} (h : l.length = 11) : ∃ c0 c1 c2 c3 c4 c5 c6 c7 c8 c9 c10, l = [c0, c1, c2, c3, c4, c5, c6, c7, c8, c9, c10] := by
  match l, h with
  | [c0, c1, c2, c3, c4, c5, c6, c7, c8, c9, c10], _ => exact ⟨c0, c1, c2, c3, c4, c5, c6, c7, c8, c9, c10, rfl⟩
theorem i64_wf {z : Int} (h : (Lit.int .i64 z).wf = true) : I64 z := by
  simp only [Lit.wf, Bool.and_eq_true, decide_eq_true_eq] at h
  exact h
theorem open_style {H : Type} {enc : TypeId × Value → H} {W : World} {fuel : Nat} {cs : List Value} {x : DataW H × List MemPlace}
    (h : DataW.trod enc Tryd.prog W 0 (fun _ => true) true fuel 33 cs = some x) : ∃ s : Sty, cs = s.vals ∧ I64 s.fg ∧ I64 s.bg ∧ I64 s.attr := by
  obtain ⟨xs, n, rfl, rfl, hl, hxl, hf⟩ := DataW.trod_struct Tryd.underlying33 h
  rw [cellsOf_styO] at hl
  obtain ⟨c0, c1, c2, rfl⟩ := three' hl
  obtain ⟨y0, y1, y2, rfl⟩ := three' hxl
  have h0 : DataW.trod enc Tryd.prog W 0 (fun _ => true) true n 3 (([c0, c1, c2].drop 0).take (Tryd.prog.cellsOf 3)) = some y0 := hf 0 _ rfl
  have h1 : DataW.trod enc Tryd.prog W 0 (fun _ => true) true n 3 (([c0, c1, c2].drop 1).take (Tryd.prog.cellsOf 3)) = some y1 := hf 1 _ rfl
  have h2 : DataW.trod enc Tryd.prog W 0 (fun _ => true) true n 3 (([c0, c1, c2].drop 2).take (Tryd.prog.cellsOf 3)) = some y2 := hf 2 _ rfl
  rw [cellsOf_intO] at h0 h1 h2
  simp only [List.drop_zero, List.drop_succ_cons, List.take_succ_cons, List.take_zero] at h0 h1 h2
  obtain ⟨z0, e0, _, w0⟩ := DataW.trod_int Tryd.underlying3 h0
  obtain ⟨z1, e1, _, w1⟩ := DataW.trod_int Tryd.underlying3 h1
  obtain ⟨z2, e2, _, w2⟩ := DataW.trod_int Tryd.underlying3 h2
  simp only [List.cons.injEq, and_true] at e0 e1 e2
  subst e0 e1 e2
  exact ⟨⟨z0, z1, z2⟩, rfl, i64_wf w0, i64_wf w1, i64_wf w2⟩
theorem open_cel {H : Type} {enc : TypeId × Value → H} {W : World} {fuel : Nat} {cs : List Value} {x : DataW H × List MemPlace}
    (h : DataW.trod enc Tryd.prog W 0 (fun _ => true) true fuel 38 cs = some x) : ∃ c : Cel, cs = c.vals ∧ (-2147483648 ≤ c.rune ∧ c.rune ≤ 2147483647) ∧ I64 c.width ∧ I64 c.sty.fg ∧ I64 c.sty.bg ∧ I64 c.sty.attr := by
  obtain ⟨xs, n, rfl, rfl, hl, hxl, hf⟩ := DataW.trod_struct Tryd.underlying38 h
  rw [cellsOf_celO] at hl
  obtain ⟨c0, c1, c2, c3, c4, rfl⟩ := five' hl
  obtain ⟨y0, y1, y2, rfl⟩ := three' hxl
  have h0 : DataW.trod enc Tryd.prog W 0 (fun _ => true) true n 21 (([c0, c1, c2, c3, c4].drop 0).take (Tryd.prog.cellsOf 21)) = some y0 := hf 0 _ rfl
  have h1 : DataW.trod enc Tryd.prog W 0 (fun _ => true) true n 3 (([c0, c1, c2, c3, c4].drop 1).take (Tryd.prog.cellsOf 3)) = some y1 := hf 1 _ rfl
  have h2 : DataW.trod enc Tryd.prog W 0 (fun _ => true) true n 33 (([c0, c1, c2, c3, c4].drop 2).take (Tryd.prog.cellsOf 33)) = some y2 := hf 2 _ rfl
  rw [cellsOf_runeO] at h0
  rw [cellsOf_intO] at h1
  rw [cellsOf_styO] at h2
  simp only [List.drop_zero, List.drop_succ_cons, List.take_succ_cons, List.take_zero] at h0 h1 h2
  obtain ⟨z0, e0, _, w0⟩ := DataW.trod_int Tryd.underlying21 h0
  obtain ⟨z1, e1, _, w1⟩ := DataW.trod_int Tryd.underlying3 h1
  obtain ⟨s, e2, w2, w3, w4⟩ := open_style h2
  have hw0 : -2147483648 ≤ z0 ∧ z0 ≤ 2147483647 := by
    simp only [Lit.wf, Bool.and_eq_true, decide_eq_true_eq] at w0
    exact w0
  unfold Sty.vals at e2
  simp only [List.cons.injEq, and_true] at e0 e1 e2
  obtain ⟨e2, e3, e4⟩ := e2
  subst e0 e1 e2 e3 e4
  exact ⟨⟨z0, z1, s⟩, rfl, hw0, i64_wf w1, w2, w3, w4⟩
theorem open_op {H : Type} {enc : TypeId × Value → H} {W : World} {fuel : Nat} {cs : List Value} {x : DataW H × List MemPlace}
    (h : DataW.trod enc Tryd.prog W 0 (fun _ => true) true fuel 65 cs = some x) : ∃ o : OpR, cs = o.cells ∧ o.Ok := by
  obtain ⟨xs, n, rfl, rfl, hl, hxl, hf⟩ := DataW.trod_struct Tryd.underlying65 h
  rw [cellsOf_opO] at hl
  obtain ⟨c0, c1, c2, c3, c4, c5, c6, c7, c8, c9, c10, rfl⟩ := eleven' hl
  obtain ⟨y0, y1, y2, y3, y4, y5, y6, rfl⟩ := seven' hxl
  have h0 : DataW.trod enc Tryd.prog W 0 (fun _ => true) true n 3 (([c0, c1, c2, c3, c4, c5, c6, c7, c8, c9, c10].drop 0).take (Tryd.prog.cellsOf 3)) = some y0 := hf 0 _ rfl
  have h1 : DataW.trod enc Tryd.prog W 0 (fun _ => true) true n 3 (([c0, c1, c2, c3, c4, c5, c6, c7, c8, c9, c10].drop 1).take (Tryd.prog.cellsOf 3)) = some y1 := hf 1 _ rfl
  have h2 : DataW.trod enc Tryd.prog W 0 (fun _ => true) true n 3 (([c0, c1, c2, c3, c4, c5, c6, c7, c8, c9, c10].drop 2).take (Tryd.prog.cellsOf 3)) = some y2 := hf 2 _ rfl
  have h3 : DataW.trod enc Tryd.prog W 0 (fun _ => true) true n 3 (([c0, c1, c2, c3, c4, c5, c6, c7, c8, c9, c10].drop 3).take (Tryd.prog.cellsOf 3)) = some y3 := hf 3 _ rfl
  have h4 : DataW.trod enc Tryd.prog W 0 (fun _ => true) true n 3 (([c0, c1, c2, c3, c4, c5, c6, c7, c8, c9, c10].drop 4).take (Tryd.prog.cellsOf 3)) = some y4 := hf 4 _ rfl
  have h5 : DataW.trod enc Tryd.prog W 0 (fun _ => true) true n 38 (([c0, c1, c2, c3, c4, c5, c6, c7, c8, c9, c10].drop 5).take (Tryd.prog.cellsOf 38)) = some y5 := hf 5 _ rfl
  have h6 : DataW.trod enc Tryd.prog W 0 (fun _ => true) true n 4 (([c0, c1, c2, c3, c4, c5, c6, c7, c8, c9, c10].drop 10).take (Tryd.prog.cellsOf 4)) = some y6 := hf 6 _ rfl
  rw [cellsOf_intO] at h0 h1 h2 h3 h4
  rw [cellsOf_celO] at h5
  rw [cellsOf_boolO] at h6
  simp only [List.drop_zero, List.drop_succ_cons, List.take_succ_cons, List.take_zero] at h0 h1 h2 h3 h4 h5 h6
  obtain ⟨z0, e0, _, w0⟩ := DataW.trod_int Tryd.underlying3 h0
  obtain ⟨z1, e1, _, w1⟩ := DataW.trod_int Tryd.underlying3 h1
  obtain ⟨z2, e2, _, w2⟩ := DataW.trod_int Tryd.underlying3 h2
  obtain ⟨z3, e3, _, w3⟩ := DataW.trod_int Tryd.underlying3 h3
  obtain ⟨z4, e4, _, w4⟩ := DataW.trod_int Tryd.underlying3 h4
  obtain ⟨c, e5, v0, v1, v2, v3, v4⟩ := open_cel h5
  obtain ⟨b, e6, _⟩ := DataW.trod_bool Tryd.underlying4 h6
  unfold Cel.vals at e5
  simp only [List.cons.injEq, and_true] at e0 e1 e2 e3 e4 e5 e6
  obtain ⟨e5, e7, e8, e9, e10⟩ := e5
  subst e0 e1 e2 e3 e4 e5 e6 e7 e8 e9 e10
  exact ⟨⟨z0, z1, z2, z3, z4, c, b⟩, rfl, i64_wf w0, i64_wf w1, i64_wf w2, i64_wf w3, i64_wf w4, v0, v1, v2, v3, v4⟩
set_option maxHeartbeats 1000000 in
theorem open_ops {H : Type} {enc : TypeId × Value → H} {W : World} {fuel : Nat} {a : Option Addr} {len cap : Nat} {x : DataW H × List MemPlace}
    (h : DataW.trod enc Tryd.prog W 0 (fun _ => true) true fuel 59 (Value.slice a len cap).cells.toList = some x) :
    ∃ L, IsOps W (.slice a len cap) L ∧ (∀ y ∈ L, y.Ok) ∧ L.length ≤ Rows.uptoBulk x.1 := by
  rcases DataW.trod_slice Tryd.underlying59 h with ⟨hcs, hx⟩ | ⟨ad, l, c, elems, rest, n, hfu, hcs, hx, _, hlc, hcm, hel, hat, _, _⟩
  · simp [Value.cells] at hcs
    obtain ⟨rfl, rfl, rfl⟩ := hcs
    exact ⟨[], .inl ⟨rfl, rfl⟩, fun _ h => by simp at h, Nat.zero_le _⟩
  · simp [Value.cells] at hcs
    obtain ⟨rfl, rfl, rfl⟩ := hcs
    have hone : ∀ i, i < len → ∃ y : OpR, (∀ j u, y.cells[j]? = some u → W.cell? ((ad.add (i * 11)).add j) = some u) ∧ y.Ok := by
      intro i hi
      have h1 := hat i hi
      rw [cellsOf_opO, List.getElem?_eq_getElem (by omega)] at h1
      obtain ⟨cs, hc, ht⟩ := Option.bind_eq_some_iff.1 h1
      obtain ⟨y, hy, hok⟩ := open_op ht
      unfold World.cells? at hc
      rw [if_pos (Nat.zero_le _)] at hc
      rw [hy] at hc
      exact ⟨y, fun j u hu => mapM_range11 hc j u hu, hok⟩
    have hall : ∀ m, m ≤ len → ∃ L : List OpR, L.length = m ∧ (∀ i (hi : i < L.length), ∀ j u, L[i].cells[j]? = some u → W.cell? ((ad.add (i * 11)).add j) = some u) ∧ ∀ y ∈ L, y.Ok := by
      intro m
      induction m with
      | zero => intro _; exact ⟨[], rfl, fun i hi => absurd hi (by simp), fun _ h => by simp at h⟩
      | succ m ih =>
        intro hm
        obtain ⟨L, hL, hc, hr⟩ := ih (by omega)
        obtain ⟨y, hy, hyr⟩ := hone m (by omega)
        refine ⟨L ++ [y], by simp [hL], fun i hi j u hu => ?_, fun z hz => ?_⟩
        · by_cases hlt : i < L.length
          · rw [List.getElem_append_left hlt] at hu
            exact hc i hlt j u hu
          · have hi' : i = m := by rw [List.length_append, hL] at hi; simp at hi; omega
            subst hi'
            rw [List.getElem_append_right (by omega)] at hu
            simp only [hL, Nat.sub_self, List.getElem_singleton] at hu
            exact hy j u hu
        · rcases List.mem_append.1 hz with h | h
          · exact hr z h
          · rw [List.mem_singleton] at h; subst h; exact hyr
    obtain ⟨L, hL, hc, hr⟩ := hall len (Nat.le_refl _)
    refine ⟨L, .inr ⟨ad, cap, by rw [hL], by rw [hL]; exact hlc, by unfold maxLen at hcm; exact hcm, hc⟩, hr, ?_⟩
    rw [hL, hx]
    simp only [Rows.uptoBulk]
    have := bulk_len (elems.map (·.1))
    rw [List.length_map] at this
    omega
end Go.Proofs.YtjclgoiclbkgjaaDoor

/- The law GridWhole: what its script keeps. -/
namespace Go.Proofs.YtjclgoiclbkgjaaDoor
open Go.RowKit

def pickV (c : Int) (n : Nat) : Nat := ((if c < 0 then -(c + 1) else c).tmod (n : Int)).toNat
theorem pickV_lt (c : Int) (n : Nat) (hn : 0 < n) : pickV c n < n := by
  unfold pickV
  split
  · have hb : 0 ≤ (-(c + 1)).tmod (n : Int) ∧ (-(c + 1)).tmod (n : Int) < n := ⟨Int.tmod_nonneg _ (by omega), Int.tmod_lt_of_pos _ (by omega)⟩
    omega
  · have hb : 0 ≤ c.tmod (n : Int) ∧ c.tmod (n : Int) < n := ⟨Int.tmod_nonneg _ (by omega), Int.tmod_lt_of_pos _ (by omega)⟩
    omega
theorem pick_val (c : Int) (n : Nat) (w : World) (h : I64 c) (hn : 0 < n) (hn2 : n ≤ 1000000) :
    Calls Tryd.prog 20 #[.int .i64 c, .int .i64 n] w fun e w' => e = .returned (.int .i64 (pickV c n)) ∧ w' = w := by
  obtain ⟨h0, h1⟩ := h
  by_cases hc : c < 0
  · have d1 : decide (c < 0) = true := decide_eq_true hc
    have hw1 : IntKind.i64.wrap (c + 1) = c + 1 := wrap64_id _ (by omega) (by omega)
    have hw2 : IntKind.i64.wrap (-(c + 1)) = -(c + 1) := wrap64_id _ (by omega) (by omega)
    have hne : ((n : Int) == 0) = false := beq_eq_false_iff_ne.2 (by omega)
    have hne2 : ¬ ((n : Int) = 0) := by omega
    have hb : 0 ≤ (-(c + 1)).tmod (n : Int) ∧ (-(c + 1)).tmod (n : Int) < n := ⟨Int.tmod_nonneg _ (by omega), Int.tmod_lt_of_pos _ (by omega)⟩
    have hw3 : IntKind.i64.wrap ((-(c + 1)).tmod (n : Int)) = (-(c + 1)).tmod (n : Int) := wrap64_id _ (by omega) (by omega)
    have HV := Lib.hid (show pickV c n = ((-(c + 1)).tmod (n : Int)).toNat by unfold pickV; rw [if_pos hc])
    go_enter Tryd.func20, Tryd.ntmps20
    go_wp2_with fail
    refine ret1v (v := .int .i64 (((-(c + 1)).tmod (n : Int)).toNat : Int)) rfl rfl (by show Value.int _ _ = _; rw [Int.toNat_of_nonneg hb.1, Int.neg_tmod]) ⟨by rw [HV.out], rfl⟩
  · have d1 : decide (c < 0) = false := decide_eq_false hc
    have hne : ((n : Int) == 0) = false := beq_eq_false_iff_ne.2 (by omega)
    have hne2 : ¬ ((n : Int) = 0) := by omega
    have hb : 0 ≤ c.tmod (n : Int) ∧ c.tmod (n : Int) < n := ⟨Int.tmod_nonneg _ (by omega), Int.tmod_lt_of_pos _ (by omega)⟩
    have hw3 : IntKind.i64.wrap (c.tmod (n : Int)) = c.tmod (n : Int) := wrap64_id _ (by omega) (by omega)
    have HV := Lib.hid (show pickV c n = (c.tmod (n : Int)).toNat by unfold pickV; rw [if_neg hc])
    go_enter Tryd.func20, Tryd.ntmps20
    go_wp2_with fail
    refine ret1v (v := .int .i64 ((c.tmod (n : Int)).toNat : Int)) rfl rfl (by show Value.int _ _ = _; rw [Int.toNat_of_nonneg hb.1, Int.tmod_eq_emod_of_nonneg (by omega)]) ⟨by rw [HV.out], rfl⟩
theorem idx_genN {P : Program} {t e : TypeId} {size : Nat} (ht : P.underlying t = some (.slice e)) (hs : (P.info? e).map (·.size) = some size) (a : Addr) (n c j : Nat) (hj : j < n) (wx : World) :
    (Instr.indexAt t (.slice (some a) n c) (.int .i64 j)).run P wx = .ok (.pointer (some (a.add (j * size)))) wx := by
  obtain ⟨i, hi, hi2⟩ := Option.map_eq_some_iff.1 hs
  have hj' : (0 : Int) ≤ (j : Int) ∧ (j : Int) < (n : Int) := by omega
  simp [Instr.indexAt, asIntOf, run_underlying ht, hj', sizeOf, typeInfo, hi, hi2]
  omega
def PW (c : Nat) (r : Rw) : Prop := WhR r ∧ r.cells.length = c
theorem kept_wh : Kept (fun c _ _ g => g.All (PW c)) where
  new := fun c r l _ => all_new c r l _ ⟨wh_blanks _ _, by show (List.replicate c _).length = c; rw [List.length_replicate]⟩
  up := fun c r l g b hd h => all_up h 0 b 1 plainS true (fun _ => ⟨wh_blanks _ _, by show (List.replicate g.cols _).length = c; rw [List.length_replicate]; exact hd.1⟩)
  put := fun c r l g x y q hd h => all_put h x y q (fun h0 _ hw hx r hr => by
    have hc := hd.1
    have hl : ((x.toNat : Nat) : Int) + q.width ≤ (r.cells.length : Int) := by rw [hr.2]; omega
    exact ⟨layL_wh hr.1 x.toNat q hw hl, by show (layL _ _ _).length = c; rw [layL_size _ _ _ hw hl]; exact hr.2⟩)
theorem all_pw {g : Gr} (h : g.All WhR) (hw : g.WF) : g.All (PW g.cols) := fun r hr => ⟨h r hr, (hw.ce r (by
  rcases List.mem_append.1 hr with hr | hr
  · exact List.mem_append_right _ hr
  · exact List.mem_append_left _ hr)).1⟩
theorem put_wh {g : Gr} (h : g.All WhR) (hw : g.WF) (x y : Int) (q : Cel) : (g.put x y q).All WhR := fun r hr =>
  (all_put (all_pw h hw) x y q (fun h0 _ hq hx r hr => by
    have hl : ((x.toNat : Nat) : Int) + q.width ≤ (r.cells.length : Int) := by rw [hr.2]; omega
    exact ⟨layL_wh hr.1 x.toNat q hq hl, by show (layL _ _ _).length = _; rw [layL_size _ _ _ hq hl]; exact hr.2⟩) r hr).1
theorem up_wh {g : Gr} (h : g.All WhR) (t b n : Int) (s : Sty) (k : Bool) : (g.up t b n s k).All WhR := all_up h t b n s k (fun _ => wh_blanks _ _)
theorem down_wh {g : Gr} (h : g.All WhR) (t b n : Int) (s : Sty) : (g.down t b n s).All WhR := all_down h t b n s (fun _ => wh_blanks _ _)
theorem wrap_wh {g : Gr} (h : g.All WhR) (y : Int) (is : Bool) : (g.setWrap y is).All WhR := by
  unfold Gr.setWrap
  split
  · rename_i h0
    intro r hr
    rcases List.mem_append.1 hr with hr | hr
    · exact h r (List.mem_append_left _ hr)
    · rcases List.mem_or_eq_of_mem_set hr with hr | hr
      · exact h r (List.mem_append_right _ hr)
      · rw [hr]
        exact h (g.rows.getD y.toNat noR) (List.mem_append_right _ (by
          rw [List.getD_eq_getElem?_getD, List.getElem?_eq_getElem (by omega)]
          exact List.getElem_mem _))
  · exact h
theorem erase_wh {g : Gr} (h : g.All WhR) (hw : g.WF) (x y n : Int) (s : Sty) : (g.erase x y n s).All WhR := rowOp_wh hw h _ (fun _ _ _ s hl hx => eraseL_wh hl s hx) x y n s
theorem ins_wh {g : Gr} (h : g.All WhR) (hw : g.WF) (x y n : Int) (s : Sty) : (g.ins x y n s).All WhR := rowOp_wh hw h _ (fun _ _ _ s hl hx => insL_wh hl s hx) x y n s
theorem del_wh {g : Gr} (h : g.All WhR) (hw : g.WF) (x y n : Int) (s : Sty) : (g.del x y n s).All WhR := rowOp_wh hw h _ (fun _ _ _ s hl hx => delL_wh hl s hx) x y n s
theorem put_lim (g : Gr) (x y : Int) (q : Cel) : (g.put x y q).limit = g.limit := (Dim.put (g := g) ⟨rfl, rfl, rfl⟩ x y q).2.2
theorem up_lim (g : Gr) (t b n : Int) (s : Sty) (k : Bool) : (g.up t b n s k).limit = g.limit := (Dim.up (g := g) ⟨rfl, rfl, rfl⟩ t b n s k).2.2
theorem down_lim (g : Gr) (t b n : Int) (s : Sty) : (g.down t b n s).limit = g.limit := (Dim.down (g := g) ⟨rfl, rfl, rfl⟩ t b n s).2.2
theorem wrap_lim (g : Gr) (y : Int) (is : Bool) : (g.setWrap y is).limit = g.limit := (Dim.setWrap (g := g) ⟨rfl, rfl, rfl⟩ y is).2.2
theorem rowOp_lim (g : Gr) (f : List Cel → Nat → Nat → Sty → List Cel) (x y n : Int) (s : Sty) : (g.rowOp f x y n s).limit = g.limit := (rowOp_dim (g := g) f x y n s ⟨rfl, rfl, rfl⟩).2.2
theorem resize_lim (g : Gr) (cols rows : Nat) (ax ay : Int) (f : Bool) : (g.resize cols rows ax ay f).1.limit = g.limit := by
  unfold Gr.resize
  split
  · rfl
  · rfl
/-- The state of a script: the grid in memory, the box of both. -/
structure Bo (w : World) (T : Nat → Nat) (q bp l : Nat) (wr : World) (g : Gr) : Prop where
  sh : Sh w T q wr g
  tb : T bp = 0
  bb : wr.heap[bp]? = some (.cells #[.pointer (some ⟨q, 0, none⟩), .pointer none] 63 (0, 0))
  li : g.limit = l
  wh : g.All WhR
theorem Bo.below {w : World} {T : Nat → Nat} {q bp l : Nat} {wr w2 : World} {g : Gr} (h : Bo w T q bp l wr g) (b : Below wr.heap.size wr w2) : Bo w T q bp l w2 g :=
  ⟨h.sh.below b, h.tb, blk_below h.bb b (heap_lt h.bb), h.li, h.wh⟩
theorem Bo.turn {w : World} {T T' : Nat → Nat} {q bp l : Nat} {wr w2 : World} {g g' : Gr} (h : Bo w T q bp l wr g) (hw : Within (own T wr) wr w2) (hg : GM T' q w2 g') (hn : ∀ k, T' k ≠ 0 → own T wr k) (hl : g'.limit = g.limit) (hh : g'.All WhR) : Bo w T' q bp l w2 g' := by
  have hlt := heap_lt h.bb
  have hno : ¬ own T wr bp := fun e => by
    rcases e with e | e
    · exact e h.tb
    · omega
  exact ⟨h.sh.turn hw hg hn, Classical.byContradiction fun e => hno (hn bp e), (hw.block bp hlt hno).trans h.bb, hl.trans h.li, hh⟩
theorem Bo.put {w : World} {T : Nat → Nat} {q bp l : Nat} {wr w2 : World} {g g' : Gr} (h : Bo w T q bp l wr g) (hw : Within (own T wr) wr w2) (hg : GM T q w2 g') (hl : g'.limit = g.limit) (hh : g'.All WhR) : Bo w T q bp l w2 g' :=
  h.turn hw hg (fun _ hk => .inl hk) hl hh
end Go.Proofs.YtjclgoiclbkgjaaDoor

/- The law GridWhole: the walk. -/
namespace Go.Proofs.YtjclgoiclbkgjaaDoor
open Go.RowKit
attribute [local go_sem ↓] Go.wp_at_zero Go.wp_at_succ

set_option maxRecDepth 100000 in
set_option maxHeartbeats 8000000 in
theorem gridWhole_walk (cols rows hist : Int) (tv : Value) (texts : List ByteArray) (sv : Value) (ops : List OpR) (w : World) (h1 : -9223372036854775808 ≤ cols ∧ cols ≤ 9223372036854775807) (h2 : -9223372036854775808 ≤ rows ∧ rows ≤ 9223372036854775807)
    (h3 : -9223372036854775808 ≤ hist ∧ hist ≤ 9223372036854775807) (ht : IsVals w tv (texts.map Value.string)) (hs : ∀ s ∈ texts, s.size ≤ 1000000000) (hln : texts.length ≤ 1000000000) (ho : IsOps w sv ops) (hok : ∀ o ∈ ops, o.Ok) (hlo : ops.length ≤ 1000000000) (htab : Tabs w) :
    Calls Tryd.prog 6 #[.int .i64 cols, .int .i64 rows, .int .i64 hist, tv, sv] w fun e w' => e = .returned (.bool true) ∧ Below w.heap.size w w' := by
  have hsl : ∀ ty wx, (Builtin.len_ #[59] ty #[sv]).run Tryd.prog wx = .ok (.int .i64 ops.length) wx := fun ty wx => by
    rcases ho with ⟨rfl, e⟩ | ⟨a, c, rfl, _⟩
    · subst e
      go_simp
    · go_simp
  have HTV := Lib.hid ht
  have HSS := Lib.hid hs
  have HOP := Lib.hid ho
  have HOK := Lib.hid hok
  have HTB := Lib.hid htab
  clear ht hs ho hok htab
  go_enter Tryd.func6, Tryd.ntmps6
  go_wp2_with fail
  refine (shown_any w).mono ?_
  rintro e w1 ⟨rfl, b1⟩
  have HB1 := Lib.hid b1
  clear b1
  go_wp2_with fail
  refine (filled_inv _ kept_wh cols rows hist h1 h2 h3 tv (.slice none 0 0) texts [] w1 (isVals_below HTV.out HB1.out) (.inl ⟨rfl, rfl⟩) HSS.out hln (by simp) (.inl rfl)).mono ?_
  rintro e w2 ⟨q, rfl, T, g, c, r, l, hsh, ⟨hd, hpw⟩, hc, hr, hl, hl0⟩
  have HS2 := Lib.hid (hsh.mono HB1.out)
  have HBO := Lib.hid (show Bo w T q w2.heap.size l (w2.alloc (.cells #[.pointer (some ⟨q, 0, none⟩), .pointer none] 63)) g from
    ⟨HS2.out.below (Below.alloc (Below.refl _ _) (Nat.le_refl _) _), sh_free HS2.out (Nat.le_refl _), blk_new _ _, hd.2.2, fun r hr => (hpw r hr).1⟩)
  clear hsh hd hpw hl0 hc hr HS2
  go_upto_region 6 with fail
  generalize w2.alloc (.cells #[.pointer (some ⟨q, 0, none⟩), .pointer none] 63) = w3 at *
  generalize w2.heap.size = bp at *
  go_wp2_with fail
  refine (limit_any HBO.out.sh.gm).mono ?_
  rintro e wx1 ⟨rfl, hx1⟩
  subst wx1
  rw [HBO.out.li]
  go_upto_region 8 with fail
  go_loopw [15] (fun iv wr => ∃ (k : Nat) (T : Nat → Nat) (g : Gr), k ≤ ops.length ∧ iv = .int .i64 k ∧ Hid (Bo w T q bp l wr g)) (fun iv _ => ops.length - (intOf iv).toNat)
  case atStart => exact ⟨0, T, g, Nat.zero_le _, rfl, HBO⟩
  case round =>
    obtain ⟨k, T, g, hk, rfl, HB⟩ := hrel
    obtain ⟨wo, rfl⟩ : ∃ wo, wo = wr := ⟨wr, rfl⟩
    by_cases hlt : k < ops.length ∧ k < 100
    · obtain ⟨hlt, h100⟩ := hlt
      have d1 : decide ((k : Int) < (ops.length : Int)) = true := decide_eq_true (by omega)
      have d1' : decide (k < ops.length) = true := decide_eq_true hlt
      have d2 : decide ((k : Int) < 100) = true := decide_eq_true (by omega)
      have d2' : decide (k < 100) = true := decide_eq_true h100
      have hwk : IntKind.i64.wrap ((k : Int) + 1) = (k : Int) + 1 := wrap64_id _ (by omega) (by omega)
      obtain ⟨a, ac, hsv, hcells⟩ : ∃ (a : Addr) (ac : Nat), sv = .slice (some a) ops.length ac ∧ ∀ i u, ops[k].cells[i]? = some u → wo.cell? ((a.add (k * 11)).add i) = some u := by
        rcases isOps_below HOP.out HB.out.sh.b with ⟨_, e⟩ | ⟨a, ac, e, _, _, hcc⟩
        · subst e
          exact absurd hlt (by simp)
        · exact ⟨a, ac, e, fun i u hu => hcc k hlt i u hu⟩
      subst hsv
      have hix := idx_genN (P := Tryd.prog) (size := 11) Tryd.underlying59 (by kernel_rfl) a ops.length ac k hlt
      have hoo := HOK.out ops[k] (List.getElem_mem hlt)
      generalize ops[k] = o at *
      generalize a.add (k * 11) = ad at *
      obtain ⟨kd, kx, ky, kn, km, ⟨cr, cw, ⟨cf, cb, ca⟩⟩, ki⟩ := o
      obtain ⟨f0, f1, f2, f3, f4, f5, f6, f7, f8, f9⟩ := hoo
      dsimp only at f0 f1 f2 f3 f4 f5 f6 f7 f8 f9
      have q0 : wo.cell? ad = some (.int .i64 kd) := hcells 0 _ rfl
      have q1 : wo.cell? ⟨ad.block, ad.off + 1, none⟩ = some (.int .i64 kx) := hcells 1 _ rfl
      have q2 : wo.cell? ⟨ad.block, ad.off + 2, none⟩ = some (.int .i64 ky) := hcells 2 _ rfl
      have q3 : wo.cell? ⟨ad.block, ad.off + 3, none⟩ = some (.int .i64 kn) := hcells 3 _ rfl
      have q4 : wo.cell? ⟨ad.block, ad.off + 4, none⟩ = some (.int .i64 km) := hcells 4 _ rfl
      have q5 : wo.cell? ⟨ad.block, ad.off + 5, none⟩ = some (.int .i32 cr) := hcells 5 _ rfl
      have q6 : wo.cell? ⟨ad.block, ad.off + 6, none⟩ = some (.int .i64 cw) := hcells 6 _ rfl
      have q7 : wo.cell? ⟨ad.block, ad.off + 7, none⟩ = some (.int .i64 cf) := hcells 7 _ rfl
      have q8 : wo.cell? ⟨ad.block, ad.off + 8, none⟩ = some (.int .i64 cb) := hcells 8 _ rfl
      have q9 : wo.cell? ⟨ad.block, ad.off + 9, none⟩ = some (.int .i64 ca) := hcells 9 _ rfl
      have q10 : wo.cell? ⟨ad.block, ad.off + 10, none⟩ = some (.bool ki) := hcells 10 _ rfl
      have F := Lib.hid (show I64 kd ∧ I64 kn ∧ I64 km ∧ (-2147483648 ≤ cr ∧ cr ≤ 2147483647) ∧ I64 cf ∧ I64 cb from ⟨f0, f3, f4, f5, f7, f8⟩)
      clear hcells f0 f1 f2 f3 f4 f5 f6 f7 f8 f9
      have HBa := Lib.hid (HB.out.below (Below.alloc (Below.refl wo.heap.size wo) (Nat.le_refl _) (.cells #[.int .i64 kd, .int .i64 kx, .int .i64 ky, .int .i64 kn, .int .i64 km, .int .i32 cr, .int .i64 cw, .int .i64 cf, .int .i64 cb, .int .i64 ca, .bool ki] 65)))
      have HKa := Lib.hid (blk_new wo (.cells #[.int .i64 kd, .int .i64 kx, .int .i64 ky, .int .i64 kn, .int .i64 km, .int .i32 cr, .int .i64 cw, .int .i64 cf, .int .i64 cb, .int .i64 ca, .bool ki] 65))
      go_upto_region 11 with fail
      clear q0 q1 q2 q3 q4 q5 q6 q7 q8 q9 q10 hix
      generalize wo.alloc (.cells #[.int .i64 kd, .int .i64 kx, .int .i64 ky, .int .i64 kn, .int .i64 km, .int .i32 cr, .int .i64 cw, .int .i64 cf, .int .i64 cb, .int .i64 ca, .bool ki] 65) = wa at *
      generalize wo.heap.size = ob at *
      have o0 : wa.cell? ⟨ob, 0, none⟩ = some (.int .i64 kd) := blk_cell HKa.out 0
      go_wp2_with fail
      refine (pick_val kd 12 wa F.out.1 (by decide) (by decide)).mono ?_
      rintro e wx1 ⟨rfl, hx1⟩
      subst wx1
      have hk12 := pickV_lt kd 12 (by decide)
      generalize pickV kd 12 = kk at *
      have o7 : wa.cell? ⟨ob, 7, none⟩ = some (.int .i64 cf) := blk_cell HKa.out 7
      have o8 : wa.cell? ⟨ob, 8, none⟩ = some (.int .i64 cb) := blk_cell HKa.out 8
      have o9 : wa.cell? ⟨ob, 9, none⟩ = some (.int .i64 ca) := blk_cell HKa.out 9
      have HBb := Lib.hid (HBa.out.below (Below.alloc (Below.refl wa.heap.size wa) (Nat.le_refl _) (.cells #[.int .i64 cf, .int .i64 cb, .int .i64 ca] 33)))
      have HKb := Lib.hid (blk_alloc HKa.out (.cells #[.int .i64 cf, .int .i64 cb, .int .i64 ca] 33))
      have HKs := Lib.hid (blk_new wa (.cells #[.int .i64 cf, .int .i64 cb, .int .i64 ca] 33))
      go_upto_region 13 with fail
      clear o0 o7 o8 o9
      generalize wa.alloc (.cells #[.int .i64 cf, .int .i64 cb, .int .i64 ca] 33) = wb at *
      generalize wa.heap.size = sb at *
      have o1 : wb.cell? ⟨ob, 1, none⟩ = some (.int .i64 kx) := blk_cell HKb.out 1
      have o2 : wb.cell? ⟨ob, 2, none⟩ = some (.int .i64 ky) := blk_cell HKb.out 2
      have o3 : wb.cell? ⟨ob, 3, none⟩ = some (.int .i64 kn) := blk_cell HKb.out 3
      have o4 : wb.cell? ⟨ob, 4, none⟩ = some (.int .i64 km) := blk_cell HKb.out 4
      have o5 : wb.cell? ⟨ob, 5, none⟩ = some (.int .i32 cr) := blk_cell HKb.out 5
      have o6 : wb.cell? ⟨ob, 6, none⟩ = some (.int .i64 cw) := blk_cell HKb.out 6
      have o7 : wb.cell? ⟨ob, 7, none⟩ = some (.int .i64 cf) := blk_cell HKb.out 7
      have o8 : wb.cell? ⟨ob, 8, none⟩ = some (.int .i64 cb) := blk_cell HKb.out 8
      have o9 : wb.cell? ⟨ob, 9, none⟩ = some (.int .i64 ca) := blk_cell HKb.out 9
      have o10 : wb.cell? ⟨ob, 10, none⟩ = some (.bool ki) := blk_cell HKb.out 10
      have s0 : wb.cell? ⟨sb, 0, none⟩ = some (.int .i64 cf) := blk_cell HKs.out 0
      have s1 : wb.cell? ⟨sb, 1, none⟩ = some (.int .i64 cb) := blk_cell HKs.out 1
      have s2 : wb.cell? ⟨sb, 2, none⟩ = some (.int .i64 ca) := blk_cell HKs.out 2
      have HRI := Lib.hid (right_all ⟨cf, cb, ca⟩ wb (HTB.out.below HBb.out.sh.b) F.out.2.2.2.2.1 F.out.2.2.2.2.2)
      have HGB := Lib.hid HBb.out.sh.gm
      go_upto_block 2 with fail
      go_cut [] (fun wz => ∃ T' g', Hid (Bo w T' q bp l wz g'))
      case first =>
        match kk, hk12 with
        | 0, _ =>
          go_wp2_with fail
          refine (put_any HGB.out kx ky ⟨cr, cw, ⟨cf, cb, ca⟩⟩ HRI.out F.out.2.2.2.1).mono ?_
          rintro e w5 ⟨rfl, hw5, g5⟩
          have HB5 := Lib.hid (HBb.out.put hw5 g5 (put_lim _ _ _ _) (put_wh HBb.out.wh HGB.out.wf _ _ _))
          go_wp2_with fail
          go_meet
          exact ⟨_, _, HB5⟩
        | 1, _ =>
          go_wp2_with fail
          refine (put_any HGB.out kx ky ⟨cr, cw, ⟨cf, cb, ca⟩⟩ HRI.out F.out.2.2.2.1).mono ?_
          rintro e w5 ⟨rfl, hw5, g5⟩
          have HB5 := Lib.hid (HBb.out.put hw5 g5 (put_lim _ _ _ _) (put_wh HBb.out.wh HGB.out.wf _ _ _))
          go_wp2_with fail
          go_meet
          exact ⟨_, _, HB5⟩
        | 2, _ =>
          go_wp2_with fail
          refine (put_any HGB.out kx ky ⟨cr, cw, ⟨cf, cb, ca⟩⟩ HRI.out F.out.2.2.2.1).mono ?_
          rintro e w5 ⟨rfl, hw5, g5⟩
          have HB5 := Lib.hid (HBb.out.put hw5 g5 (put_lim _ _ _ _) (put_wh HBb.out.wh HGB.out.wf _ _ _))
          go_wp2_with fail
          go_meet
          exact ⟨_, _, HB5⟩
        | 3, _ =>
          go_wp2_with fail
          refine (put_any HGB.out kx ky ⟨cr, cw, ⟨cf, cb, ca⟩⟩ HRI.out F.out.2.2.2.1).mono ?_
          rintro e w5 ⟨rfl, hw5, g5⟩
          have HB5 := Lib.hid (HBb.out.put hw5 g5 (put_lim _ _ _ _) (put_wh HBb.out.wh HGB.out.wf _ _ _))
          go_wp2_with fail
          go_meet
          exact ⟨_, _, HB5⟩
        | 4, _ =>
          go_wp2_with fail
          refine (erase_any HGB.out kx ky kn ⟨cf, cb, ca⟩ HRI.out).mono ?_
          rintro e w5 ⟨rfl, hw5, g5⟩
          have HB5 := Lib.hid (HBb.out.put hw5 g5 (rowOp_lim _ _ _ _ _ _) (erase_wh HBb.out.wh HGB.out.wf _ _ _ _))
          go_wp2_with fail
          go_meet
          exact ⟨_, _, HB5⟩
        | 5, _ =>
          go_wp2_with fail
          refine (ins_any HGB.out kx ky kn ⟨cf, cb, ca⟩ HRI.out).mono ?_
          rintro e w5 ⟨rfl, hw5, g5⟩
          have HB5 := Lib.hid (HBb.out.put hw5 g5 (rowOp_lim _ _ _ _ _ _) (ins_wh HBb.out.wh HGB.out.wf _ _ _ _))
          go_wp2_with fail
          go_meet
          exact ⟨_, _, HB5⟩
        | 6, _ =>
          go_wp2_with fail
          refine (del_any HGB.out kx ky kn ⟨cf, cb, ca⟩ HRI.out).mono ?_
          rintro e w5 ⟨rfl, hw5, g5⟩
          have HB5 := Lib.hid (HBb.out.put hw5 g5 (rowOp_lim _ _ _ _ _ _) (del_wh HBb.out.wh HGB.out.wf _ _ _ _))
          go_wp2_with fail
          go_meet
          exact ⟨_, _, HB5⟩
        | 7, _ =>
          go_wp2_with fail
          refine (up_any HGB.out kx ky kn ⟨cf, cb, ca⟩ HRI.out ki).mono ?_
          rintro e w5 ⟨rfl, hw5, T5, g5, n5⟩
          have HB5 := Lib.hid (HBb.out.turn hw5 g5 n5 (up_lim _ _ _ _ _ _) (up_wh HBb.out.wh _ _ _ _ _))
          go_wp2_with fail
          go_meet
          exact ⟨_, _, HB5⟩
        | 8, _ =>
          go_wp2_with fail
          refine (up_any HGB.out kx ky kn ⟨cf, cb, ca⟩ HRI.out ki).mono ?_
          rintro e w5 ⟨rfl, hw5, T5, g5, n5⟩
          have HB5 := Lib.hid (HBb.out.turn hw5 g5 n5 (up_lim _ _ _ _ _ _) (up_wh HBb.out.wh _ _ _ _ _))
          go_wp2_with fail
          go_meet
          exact ⟨_, _, HB5⟩
        | 9, _ =>
          go_wp2_with fail
          refine (down_any HGB.out kx ky kn ⟨cf, cb, ca⟩ HRI.out).mono ?_
          rintro e w5 ⟨rfl, hw5, T5, g5, n5⟩
          have HB5 := Lib.hid (HBb.out.turn hw5 g5 n5 (down_lim _ _ _ _ _) (down_wh HBb.out.wh _ _ _ _))
          go_wp2_with fail
          go_meet
          exact ⟨_, _, HB5⟩
        | 10, _ =>
          go_wp2_with fail
          refine (wrap_any HGB.out ky ki).mono ?_
          rintro e w5 ⟨rfl, hw5, g5⟩
          have HB5 := Lib.hid (HBb.out.put hw5 g5 (wrap_lim _ _ _) (wrap_wh HBb.out.wh _ _))
          go_wp2_with fail
          go_meet
          exact ⟨_, _, HB5⟩
        | 11, _ =>
          have hp1 := pickV_lt kn 30 (by decide)
          have hp2 := pickV_lt km 20 (by decide)
          have HP1 := Lib.hid (pick_val kn 30 wb.drew F.out.2.1 (by decide) (by decide))
          have HP2 := Lib.hid (pick_val km 20 wb.drew F.out.2.2.1 (by decide) (by decide))
          generalize pickV kn 30 = v1 at *
          generalize pickV km 20 = v2 at *
          obtain ⟨m1, hm1⟩ : ∃ m1 : Nat, v1 + 1 = m1 := ⟨_, rfl⟩
          obtain ⟨m2, hm2⟩ : ∃ m2 : Nat, v2 + 1 = m2 := ⟨_, rfl⟩
          have hv1 : IntKind.i64.wrap (1 + (v1 : Int)) = (m1 : Int) := by rw [wrap64_id _ (by omega) (by omega)]; omega
          have hv2 : IntKind.i64.wrap (1 + (v2 : Int)) = (m2 : Int) := by rw [wrap64_id _ (by omega) (by omega)]; omega
          have hm1b : 1 ≤ m1 ∧ m1 ≤ 30 := by omega
          have hm2b : 1 ≤ m2 ∧ m2 ≤ 20 := by omega
          clear hm1 hm2
          go_upto_region 33 with fail
          go_still_tail 16, (by kernel_rfl)
          still_call HP1.out
          repeat still_step
          still_call HP2.out
          repeat still_step
          refine wpStill_nil ?_
          change wpList _ _ _ _ _ wb.drew
          have HBd := Lib.hid (HBb.out.below (Below.refl wb.heap.size wb).drew)
          clear o1 o2 o3 o4 o5 o6 o7 o8 o9 o10 s0 s1 s2 HP1 HP2
          generalize wb.drew = wd at *
          cases ki
          · go_wp2_with fail
            refine (resizeC_any HBd.out.sh.gm m1 m2 kx ky (by omega) (by omega) (by omega) (by omega)).mono ?_
            rintro e w5 ⟨rfl, hw5, T5, g5, n5⟩
            have HB5 := Lib.hid (HBd.out.turn hw5 g5 n5 (resize_lim _ _ _ _ _ _) (resize_wh HBd.out.wh _ _ _ _ _ (by omega)))
            go_wp2_with fail
            go_meet
            exact ⟨_, _, HB5⟩
          · go_wp2_with fail
            refine (resizeF_any HBd.out.sh.gm m1 m2 kx ky (by omega) (by omega) (by omega) (by omega)).mono ?_
            rintro e w5 ⟨rfl, hw5, T5, g5, n5⟩
            have HB5 := Lib.hid (HBd.out.turn hw5 g5 n5 (resize_lim _ _ _ _ _ _) (resize_wh HBd.out.wh _ _ _ _ _ (by omega)))
            go_wp2_with fail
            go_meet
            exact ⟨_, _, HB5⟩
      case rest =>
        obtain ⟨T5, g5, HB5⟩ := hcut
        obtain ⟨wz, rfl⟩ : ∃ wz, wz = wc := ⟨wc, rfl⟩
        clear o1 o2 o3 o4 o5 o6 o7 o8 o9 o10 s0 s1 s2 HRI HGB HBb HBa HKa HKb HKs
        go_wp2_with fail
        refine (whole_any HB5.out.sh.gm HB5.out.wh HB5.out.bb).mono ?_
        rintro e w6 ⟨rfl, b6⟩
        have HB6 := Lib.hid (HB5.out.below b6)
        have hol := HB6.out.sh.gm.wf.ol
        rw [HB6.out.li] at hol
        have hne : ((l : Int) != (l : Int)) = false := by simp
        clear b6
        go_wp2_with fail
        refine (limit_any HB6.out.sh.gm).mono ?_
        rintro e wx1 ⟨rfl, hx1⟩
        subst wx1
        rw [HB6.out.li]
        go_wp2_with fail
        refine (history_any HB6.out.sh.gm).mono ?_
        rintro e wx1 ⟨rfl, hx1⟩
        subst wx1
        have d5 : decide ((l : Int) < (g5.old.length : Int)) = false := decide_eq_false (by omega)
        have d5' : decide (l < g5.old.length) = false := decide_eq_false (by omega)
        go_wp2_with fail
        go_roundw
        case rel => exact ⟨k + 1, _, _, by omega, by go_num, HB6⟩
        case measure => simp [intOf]; omega
    · by_cases hlen : k < ops.length
      · have d1 : decide ((k : Int) < (ops.length : Int)) = true := decide_eq_true (by omega)
        have d1' : decide (k < ops.length) = true := decide_eq_true hlen
        have d2 : decide ((k : Int) < 100) = false := decide_eq_false (by omega)
        have d2' : decide (k < 100) = false := decide_eq_false (by omega)
        go_wp2_with fail
        exact ret1v rfl rfl rfl ⟨rfl, HB.out.sh.b⟩
      · have d1 : decide ((k : Int) < (ops.length : Int)) = false := decide_eq_false (by omega)
        have d1' : decide (k < ops.length) = false := decide_eq_false hlen
        go_wp2_with fail
        exact ret1v rfl rfl rfl ⟨rfl, HB.out.sh.b⟩
end Go.Proofs.YtjclgoiclbkgjaaDoor

/- A world for the witness of package grid's laws: the settled one, with what the row lists. -/
namespace Go.Proofs.YtjclgoiclbkgjaaDoor
open Go.ChangeShapes Go.WideShapes Go.ChangeAt Go.RowKit

set_option linter.unusedVariables false
def litValG : DataW Unit → Value
  | .lit (.int k z) => .int k z
  | _ => undef
def datCellsG : DataW Unit → Array Value
  | .agg l => (l.map litValG).toArray
  | _ => #[]
def rowCellsG : DataW Unit → List Value
  | .agg l => l.map litValG
  | _ => []
/-- The ranges of a table that is listed. -/
def tabCellsG : DataW Unit → Array Value
  | .ptr (.agg (.slice l _ :: _)) => (l.flatMap rowCellsG).toArray
  | _ => #[]
def laidInG (heap : Array Obj) (g : Nat) (d : DataW Unit) : Array Obj := heap.modify g fun
  | .cells _ t frozen => .cells (datCellsG d) t frozen
  | o => o
def laidPtrG (heap : Array Obj) (g : Nat) (d : DataW Unit) : Array Obj :=
  ((heap.modify g fun
    | .cells _ t frozen => .cells #[.pointer (some ⟨heap.size, 0, none⟩)] t frozen
    | o => o).push (.cells #[.slice (some ⟨heap.size + 1, 0, none⟩) ((tabCellsG d).size / 3) ((tabCellsG d).size / 3), .slice none 0 0, .int .i64 2] 132 (0, 0))).push (.cells (tabCellsG d) 135 (0, 0))
noncomputable def laidWorldG (os : Os) (args : Array Value) : World :=
  { World.holding Tryd.prog os ⟨#[], args, []⟩ with heap := laidPtrG (laidInG (laidInG (laidInG (laidInG (World.holding Tryd.prog os ⟨#[], args, []⟩).heap 2 Rows.laid_internal_strconv_uint64pow10) 3 Rows.laid_math_bits_deBruijn32tab) 4 Rows.laid_math_bits_deBruijn64tab) 0 Rows.laid_strings_asciiSpace) 1 Rows.laid_unicode_White_Space }
end Go.Proofs.YtjclgoiclbkgjaaDoor
