/- The walk of the law VtPieces. -/
import Derived.Test.YtkdicejlfagaeaaDoorL1
import Derived.Deep.DeepCutAuto
namespace Go.Proofs.YtkdicejlfagaeaaDoor
open Go.RowKit

/-- Two parsers, what the first told, and the parts that the second told so far. -/
structure Pcs (B : Nat) (p q : Nat) (va : Value) (La : List (VAct × Value)) (sp : PSt) (Tp Tq : Nat → Nat) (w : World) (sq : PSt) (v : Value) (L : List (VAct × Value)) : Prop where
  rp : Rest Tp p w sp
  rq : Rest Tq q w sq
  ap : ∀ k, Tq k ≠ 0 → Tp k = 0
  bq : ∀ k, Tq k ≠ 0 → B ≤ k
  aa : Acts Tq w va La
  al : Acts Tq w v L
  dp : ∀ k, v.ownBlock = some k → Tp k = 0 ∧ B ≤ k ∧ va.ownBlock ≠ some k ∧ (∀ x ∈ La, x.2.ownBlock ≠ some k) ∧ ∀ x ∈ L, x.2.ownBlock ≠ some k
theorem Pcs.below {B p q : Nat} {va v : Value} {La L : List (VAct × Value)} {sp sq : PSt} {Tp Tq : Nat → Nat} {w w' : World} (h : Pcs B p q va La sp Tp Tq w sq v L) (g : Below w.heap.size w w') : Pcs B p q va La sp Tp Tq w' sq v L :=
  ⟨h.rp.below g, h.rq.below g, h.ap, h.bq, h.aa.below g, h.al.below g, h.dp⟩
theorem row_grown {T : Nat → Nat} {t size : Nat} {v : Value} {n : Nat} {xs : List Value} {w w' : World} {row : Option Nat} (h : Row T t size v n xs w) (g : w.grownBy w' row) (hne : ∀ k, row = some k → v.ownBlock ≠ some k) : Row T t size v n xs w' :=
  ⟨ownC_grown h.own g (fun k hk e => hne k e hk), h.tag⟩
theorem rest_grown {T : Nat → Nat} {p : Nat} {w w' : World} {s : PSt} {row : Option Nat} (h : Rest T p w s) (g : w.grownBy w' row) (hne : ∀ k, row = some k → T k = 0) : Rest T p w' s := by
  obtain ⟨hl, hf, d, vi, vp, vt, hC⟩ := h
  have m : Mod T (fun x => x = 0) w w' := Mod.of_gb g hne
  exact ⟨fun k hk => Nat.lt_of_lt_of_le (hl k hk) g.size, hf, d, vi, vp, vt, hC.mod m (by decide) (by decide) (by decide) (by decide) (by decide)⟩
/-- A piece more was fed, and appended. -/
theorem Pcs.grow {B p q : Nat} {va v v' vn : Value} {La L Ln : List (VAct × Value)} {sp sq sq' : PSt} {Tp Tq Tq' : Nat → Nat} {w w1 w' : World} (h : Pcs B p q va La sp Tp Tq w sq v L)
    (hw : Within (own Tq w) w w1) (ht : ∀ k, Tq' k ≠ 0 → own Tq w k) (hr : Rest Tq' q w1 sq') (hac : Acts Tq' w1 vn Ln) (ho : ∀ k, vn.ownBlock = some k → own Tq w k) (hx : ∀ x ∈ Ln, ∀ k, x.2.ownBlock = some k → own Tq w k) (hB : B ≤ w.heap.size)
    (o' : OwnC w' 0 6 v' (L.length + Ln.length) (actCells L ++ actCells Ln)) (g : w1.grownBy w' v.ownBlock) (hn : ∀ k, v'.ownBlock = some k → v.ownBlock = some k ∨ w1.heap.size ≤ k) :
    Below B w w' ∧ Pcs B p q va La sp Tp Tq' w' sq' v' (L ++ Ln) := by
  have hqp : ∀ k, Tp k ≠ 0 → Tq k = 0 := fun k hk => by
    by_cases h0 : Tq k = 0
    · exact h0
    · exact absurd (h.ap k h0) hk
  have hrp1 : Rest Tp p w1 sp := rest_other h.rp hw hqp
  have hap1 : ∀ k, Tq' k ≠ 0 → Tp k = 0 := fun k hk => by
    rcases ht k hk with e | e
    · exact h.ap k e
    · exact h.rp.own0 e
  have haa1 := h.aa.next hw ht
  have hal1 := h.al.next hw ht
  have hvlt : ∀ k, v.ownBlock = some k → k < w.heap.size ∧ Tq k = 0 ∧ Tq' k = 0 := fun k hk => ⟨(ownC_lt h.al.1.own k hk).2, h.al.1.tag k hk, hal1.1.tag k hk⟩
  have hnown : ∀ k, v.ownBlock = some k → ¬ own Tq w k := fun k hk e => by
    have h1 := hvlt k hk
    rcases e with e | e
    · exact e h1.2.1
    · omega
  have hb1 : Below B w w1 := own_below hw hB h.bq
  have hb2 : Below B w w' := hb1.trans (below_of_gb g (Nat.le_trans hB hw.size) (fun k hk => (h.dp k hk).2.1))
  refine ⟨hb2, ⟨rest_grown hrp1 g (fun k hk => (h.dp k hk).1), rest_grown hr g (fun k hk => (hvlt k hk).2.2), hap1, own_from ht hB h.bq, ?_, ?_, ?_⟩⟩
  · exact ⟨row_grown haa1.1 g (fun k hk => (h.dp k hk).2.2.1), fun x hx => row_grown (haa1.2 x hx) g (fun k hk => (h.dp k hk).2.2.2.1 x hx)⟩
  · refine ⟨⟨by rw [List.length_append, show actCells (L ++ Ln) = actCells L ++ actCells Ln by simp [actCells]]; exact o', fun k hk => ?_⟩, fun x hxm => ?_⟩
    · rcases hn k hk with e | e
      · exact (hvlt k e).2.2
      · exact hr.own0 e
    · rcases List.mem_append.1 hxm with hm | hm
      · exact row_grown (hal1.2 x hm) g (fun k hk => (h.dp k hk).2.2.2.2 x hm)
      · exact row_grown (hac.2 x hm) g (fun k hk e => hnown k hk (hx x hm k e))
  · intro k hk
    rcases hn k hk with e | e
    · have hd := h.dp k e
      refine ⟨hd.1, hd.2.1, hd.2.2.1, hd.2.2.2.1, fun x hxm => ?_⟩
      rcases List.mem_append.1 hxm with hm | hm
      · exact hd.2.2.2.2 x hm
      · exact fun e' => hnown k e (hx x hm k e')
    · have hlt : ∀ {size : Nat} {vv : Value} {n : Nat} {xs : List Value} {t : Nat}, Row Tq' t size vv n xs w1 → vv.ownBlock ≠ some k := fun hh e' => by
        have := (ownC_lt hh.own k e').2; omega
      refine ⟨hrp1.own0 e, Nat.le_trans (Nat.le_trans hB hw.size) e, hlt haa1.1, fun x hx => hlt (haa1.2 x hx), fun x hxm => ?_⟩
      rcases List.mem_append.1 hxm with hm | hm
      · exact hlt (hal1.2 x hm)
      · exact hlt (hac.2 x hm)
theorem acts_reads {T : Nat → Nat} {w : World} {v : Value} {L : List (VAct × Value)} (h : Acts T w v L) : Reads w 6 v L.length (actCells L) := ownC_reads h.1.own
theorem cells_one (L : List (VAct × Value)) (hL : ∀ x ∈ L, ∃ a m c, x.2 = Value.slice a m c) : ∀ u ∈ actCells L, u.oneCell' = true := by
  intro u hu
  obtain ⟨x, hx, hu⟩ := List.mem_flatMap.1 hu
  obtain ⟨a, m, c, e⟩ := hL x hx
  simp only [VAct.cells, e, List.mem_cons, List.not_mem_nil, or_false] at hu
  rcases hu with rfl | rfl | rfl | rfl | rfl | rfl <;> rfl
theorem acts_one {T : Nat → Nat} {w : World} {v : Value} {L : List (VAct × Value)} (h : Acts T w v L) : ∀ u ∈ actCells L, u.oneCell' = true := cells_one L fun x hx => ownC_form (h.2 x hx).own
theorem extract_list (s : ByteArray) (i j : Nat) (h : j ≤ s.size) : (s.extract i j).data.toList = (s.data.toList.drop i).take (j - i) := by
  rw [ByteArray.data_extract, Array.toList_extract, List.extract_eq_take_drop]
set_option maxRecDepth 100000 in
set_option maxHeartbeats 8000000 in
theorem vtPieces_walk (a0 : ByteArray) (vz : Value) (z : List Int) (w : World) (htab : Tab Tryd.prog w) (w0 : a0.size ≤ maxLen) (hz : IsArg .i64 w vz z) :
    Calls Tryd.prog 4 #[.string a0, vz] w fun e w' => e = .returned (.bool true) ∧ Below w.heap.size w w' := by
  have HTAB := Lib.hid htab
  have HZ := Lib.hid (isRd_arg hz)
  have hzs := rd_small (isRd_arg hz)
  have HZW := Lib.hid (show ∀ j, j < z.length → -9223372036854775808 ≤ z.getD j 0 ∧ z.getD j 0 ≤ 9223372036854775807 from fun j hj => by
    have hm : z.getD j 0 ∈ z := by rw [List.getD_eq_getElem?_getD, List.getElem?_eq_getElem hj]; exact List.getElem_mem hj
    rcases hz with ⟨_, rfl⟩ | ⟨a, c, _, _, _, _, hw⟩
    · simp at hj
    · have := hw _ hm
      simp only [Lit.wf, Bool.and_eq_true, decide_eq_true_eq] at this
      exact this)
  have hlen := rd_len Tryd.underlying28 HZ.out
  clear htab hz
  go_enter Tryd.func4, Tryd.ntmps4
  go_wp2_with fail
  refine (shown_any _ HTAB.out).mono ?_
  rintro e w2 ⟨rfl, b2⟩
  have HB2 := Lib.hid b2
  clear b2 HTAB
  go_wp2_with fail
  refine (new_any _).mono ?_
  rintro e w3 ⟨p, Tp, rfl, b3, hp3, ht3⟩
  have HB3 := Lib.hid (HB2.out.trans (b3.mono HB2.out.size))
  have HP3 := Lib.hid hp3
  have HTp := Lib.hid (show ∀ k, Tp k ≠ 0 → w.heap.size ≤ k from fun k hk => Nat.le_trans HB2.out.size (ht3 k hk))
  clear b3 hp3 ht3
  go_wp2_with fail
  refine (new_any _).mono ?_
  rintro e w4 ⟨q, Tq, rfl, b4, hq4, ht4⟩
  have HB4 := Lib.hid (HB3.out.trans (b4.mono HB3.out.size))
  have HP4 := Lib.hid (HP3.out.below b4)
  have HQ4 := Lib.hid hq4
  have HD4 := Lib.hid (show ∀ k, Tq k ≠ 0 → Tp k = 0 from fun k hk => HP3.out.own0 (ht4 k hk))
  have HTq := Lib.hid (show ∀ k, Tq k ≠ 0 → w.heap.size ≤ k from fun k hk => Nat.le_trans HB3.out.size (ht4 k hk))
  clear b4 hq4 ht4 HP3 HB3 HB2
  by_cases hs : a0.size ≤ 20000
  rotate_left
  · have hs' : decide (20000 < (a0.size : Int)) = true := decide_eq_true (by omega)
    have hs2 : decide (20000 < a0.size) = true := decide_eq_true (by omega)
    go_wp2_with fail
    go_ret
    exact ⟨rfl, HB4.out⟩
  have hs' : decide (20000 < (a0.size : Int)) = false := decide_eq_false (by omega)
  have hs2 : decide (20000 < a0.size) = false := decide_eq_false (by omega)
  obtain ⟨v5, w5, hcv5, b5, hrow5⟩ := conv_row w4 a0 w0
  have HR5 := Lib.hid (hrow5 Tp p s0 HP4.out)
  have HB5 := Lib.hid (HB4.out.trans (b5.mono HB4.out.size))
  have HP5 := Lib.hid (HP4.out.below b5)
  have HQ5 := Lib.hid (HQ4.out.below b5)
  have HF5 := Lib.hid (feed_acts v5 a0.data.toList HP5.out HR5.out (by rw [size_eq']; omega))
  clear b5 hrow5 HP4 HQ4
  go_wp2_with fail
  refine HF5.out.mono ?_
  rintro e w6 ⟨va, Tp6, La, rfl, ha6, hw6, ht6, hr6, hac6, ho6, hx6⟩
  have HB6 := Lib.hid (HB5.out.trans (own_below hw6 HB5.out.size HTp.out))
  have HQ6 := Lib.hid (rest_other HQ5.out hw6 HD4.out)
  have HPC := Lib.hid (show Pcs w.heap.size p q va La (s0.run a0.data.toList).1 Tp6 Tq w6 (s0.run []).1 (.slice none 0 0) [] from
    ⟨hr6, HQ6.out, apart_next HQ5.out HD4.out ht6, HTq.out, acts_for hac6 ho6 hx6 (own_apart HQ5.out HD4.out), ⟨row_nil _ _ _ _, fun x hx => by simp at hx⟩, fun k hk => by simp [Value.ownBlock] at hk⟩)
  have HLa := Lib.hid ha6
  clear hw6 ht6 hr6 hac6 ho6 hx6 ha6 HQ6 HF5 HR5 HP5 HQ5 HD4 HTq HTp HB5 HB4 hcv5
  go_wp2_with fail
  go_loopw [9, 10, 11] (fun pv av iv wr => ∃ k at_ : Nat, k ≤ z.length ∧ iv = .int .i64 k ∧ at_ ≤ a0.size ∧ av = .int .i64 at_ ∧ Below w.heap.size w wr ∧ ∃ Tq L, Pcs w.heap.size p q va La (s0.run a0.data.toList).1 Tp6 Tq wr (s0.run (a0.data.toList.take at_)).1 pv L ∧ L.map (·.1) = (s0.run (a0.data.toList.take at_)).2) (fun _ _ iv _ => z.length - (intOf iv).toNat)
  case atStart => exact ⟨0, 0, by omega, rfl, by omega, rfl, HB6.out, Tq, [], HPC.out, rfl⟩
  case round =>
    obtain ⟨k, at_, hk, rfl, hat, rfl, hb, Tq2, L, hpc, hL⟩ := hrel
    have HB := Lib.hid hb
    have HP := Lib.hid hpc
    have HL := Lib.hid hL
    clear hb hpc hL
    have hcut : (k < z.length ∧ at_ < a0.size) ∨ ¬ (k < z.length ∧ at_ < a0.size) := Classical.em _
    rcases hcut with ⟨hlt, hlt2⟩ | hno
    · have hlt' : decide ((k : Int) < (z.length : Int)) = true := decide_eq_true (by omega)
      have hlt'' : decide (k < z.length) = true := decide_eq_true hlt
      have hlt2' : decide ((at_ : Int) < (a0.size : Int)) = true := decide_eq_true (by omega)
      have hlt2'' : decide (at_ < a0.size) = true := decide_eq_true hlt2
      obtain ⟨ad, had, hcell⟩ := rd_at Tryd.underlying28 (by kernel_rfl) (isRd_below HZ.out HB.out) k hlt
      obtain ⟨hx0, hx1⟩ := HZW.out k hlt
      generalize z.getD k 0 = x at *
      go_upto_if 64 with fail
      go_cut [12] (fun nv wx => wx = wr ∧ ∃ m : Nat, nv = .int .i64 m ∧ m ≤ 9223372036854775807)
      case first =>
        by_cases hneg : x < 0
        · have hneg' : decide (x < 0) = true := decide_eq_true hneg
          go_wp2_with fail
          go_meet
          refine ⟨rfl, (-(x + 1)).toNat, ?_, by omega⟩
          congr 1
          omega
        · have hneg' : decide (x < 0) = false := decide_eq_false hneg
          go_wp2_with fail
          go_meet
          exact ⟨rfl, x.toNat, by congr 1; omega, by omega⟩
      case rest =>
        obtain ⟨hwr, m, rfl, hm⟩ := hcut
        rw [hwr]
        clear hwr
        have hdiv : ¬ ((a0.size : Int) - (at_ : Int) + 1 = 0) := by omega
        go_upto_region 15 with fail
        go_cut [12] (fun nv wx => wx = wr ∧ ∃ r : Nat, nv = .int .i64 r ∧ at_ + r ≤ a0.size)
        case first =>
          have hmod : (m : Int) % ((a0.size : Int) - (at_ : Int) + 1) = ((m % (a0.size - at_ + 1) : Nat) : Int) := by
            rw [show (a0.size : Int) - (at_ : Int) + 1 = ((a0.size - at_ + 1 : Nat) : Int) by omega]; exact (Int.natCast_emod _ _).symm
          have hlt3 := Nat.mod_lt m (show 0 < a0.size - at_ + 1 by omega)
          have HMOD := Lib.hid hmod
          have HLT3 := Lib.hid hlt3
          clear hmod hlt3
          go_wp2_with fail
          go_meet
          exact ⟨rfl, m % (a0.size - at_ + 1), by rw [HMOD.out], by have := HLT3.out; omega⟩
        case rest =>
          obtain ⟨hwr, r, rfl, hr⟩ := hcut
          rw [hwr]
          clear hwr hdiv
          have hri : (at_ : Int) + (r : Int) ≤ (a0.size : Int) := by omega
          obtain ⟨v7, w7, hcv7, b7, hrow7⟩ := conv_row wr (a0.extract at_ (at_ + r)) (by rw [ByteArray.size_extract]; unfold maxLen; omega)
          have hel : (a0.extract at_ (at_ + r)).data.toList = (a0.data.toList.drop at_).take r := by rw [extract_list a0 at_ (at_ + r) hr]; congr 1; omega
          have HP7 := Lib.hid (HP.out.below b7)
          have HB7 := Lib.hid (HB.out.trans (b7.mono HB.out.size))
          have hr7 := hrow7 Tq2 q _ HP.out.rq
          rw [hel] at hr7
          have hln : ((a0.data.toList.drop at_).take r).length ≤ 100000000 := by rw [List.length_take, List.length_drop, size_eq']; omega
          have HF7 := Lib.hid (feed_acts v7 ((a0.data.toList.drop at_).take r) HP7.out.rq hr7 hln)
          have HTK := Lib.hid (show a0.data.toList.take (at_ + r) = a0.data.toList.take at_ ++ (a0.data.toList.drop at_).take r from List.take_add)
          have hrl := run_len ((a0.data.toList.drop at_).take r) (s0.run (a0.data.toList.take at_)).1
          have hrl2 := run_len (a0.data.toList.take at_) s0
          have htl : (a0.data.toList.take at_).length ≤ 20000 := by rw [List.length_take, size_eq']; omega
          have htl2 : ((a0.data.toList.drop at_).take r).length ≤ 20000 := by rw [List.length_take, List.length_drop, size_eq']; omega
          clear b7 hrow7 hr7 hel
          go_wp2_with fail
          refine HF7.out.mono ?_
          rintro e w8 ⟨vn, Tq8, Ln, rfl, ha8, hw8, ht8, hr8, hac8, ho8, hx8⟩
          have hLn : Ln.length ≤ 80000 := by have := congrArg List.length ha8; rw [List.length_map] at this; omega
          have hLl : L.length ≤ 80000 := by have := congrArg List.length HL.out; rw [List.length_map] at this; omega
          have hown1 := (HP7.out.al.next hw8 ht8).1.own
          have hRd := acts_reads hac8
          have hOne := acts_one hac8
          have HB8 := Lib.hid (HB7.out.trans (own_below hw8 HB7.out.size HP7.out.bq))
          have HK := Lib.hid (fun (v' : Value) (w' : World) o' g n' => HP7.out.grow (v' := v') (w' := w') hw8 ht8 hr8 hac8 ho8 hx8 HB7.out.size o' g n')
          have HA8 := Lib.hid ha8
          have HOW := Lib.hid hown1
          have HRD := Lib.hid hRd
          have HON := Lib.hid hOne
          clear hw8 ht8 hr8 hac8 ho8 hx8 ha8 hown1 hRd hOne HF7
          go_wp2_with (at_builtin; refine held ?_)
          unfold Held
          refine wpList_appD act_elem rfl rfl 0 HOW.out rfl HRD.out rfl HON.out (by unfold maxLen; omega) (by omega) (by omega) ?_
          intro v9 w9 o9 g9 n9
          obtain ⟨hb9, hp9⟩ := HK.out v9 w9 o9 g9 n9
          have HB9 := Lib.hid (HB7.out.trans hb9)
          have HP9 := Lib.hid hp9
          clear o9 g9 n9 hb9 hp9 HK HOW HRD HON
          have hri2 : (at_ : Int) + (r : Int) ≤ 9223372036854775807 := by omega
          go_wp2_with fail
          go_roundw
          case rel =>
            refine ⟨k + 1, at_ + r, by omega, by go_num, hr, by go_num, HB9.out, Tq8, L ++ Ln, ?_, ?_⟩
            · have := HP9.out
              rw [HTK.out, run_append]
              exact this
            · rw [List.map_append, HL.out, HA8.out, HTK.out, run_append]
          case measure => simp [intOf]; omega
    · have hf1 : (decide ((k : Int) < (z.length : Int)) = false ∧ decide (k < z.length) = false ∧ decide ((at_ : Int) < (a0.size : Int)) = true ∧ decide (at_ < a0.size) = true) ∨ (decide ((k : Int) < (z.length : Int)) = false ∧ decide (k < z.length) = false ∧ decide ((at_ : Int) < (a0.size : Int)) = false ∧ decide (at_ < a0.size) = false) ∨ (decide ((k : Int) < (z.length : Int)) = true ∧ decide (k < z.length) = true ∧ decide ((at_ : Int) < (a0.size : Int)) = false ∧ decide (at_ < a0.size) = false) := by
        by_cases h1 : k < z.length
        · have h2 : ¬ at_ < a0.size := fun h => hno ⟨h1, h⟩
          exact .inr (.inr ⟨decide_eq_true (by omega), decide_eq_true h1, decide_eq_false (by omega), decide_eq_false h2⟩)
        · by_cases h2 : at_ < a0.size
          · exact .inl ⟨decide_eq_false (by omega), decide_eq_false h1, decide_eq_true (by omega), decide_eq_true h2⟩
          · exact .inr (.inl ⟨decide_eq_false (by omega), decide_eq_false h1, decide_eq_false (by omega), decide_eq_false h2⟩)
      obtain ⟨v7, w7, hcv7, b7, hrow7⟩ := conv_row wr (a0.extract at_ a0.size) (by rw [ByteArray.size_extract]; unfold maxLen; omega)
      have hel : (a0.extract at_ a0.size).data.toList = a0.data.toList.drop at_ := extract_to a0 at_ hat
      have HP7 := Lib.hid (HP.out.below b7)
      have HB7 := Lib.hid (HB.out.trans (b7.mono HB.out.size))
      have hr7 := hrow7 Tq2 q _ HP.out.rq
      rw [hel] at hr7
      have hln : (a0.data.toList.drop at_).length ≤ 20000 := by rw [List.length_drop, size_eq']; omega
      have HF7 := Lib.hid (feed_acts v7 (a0.data.toList.drop at_) HP7.out.rq hr7 (by omega))
      have HTK := Lib.hid (show a0.data.toList = a0.data.toList.take at_ ++ a0.data.toList.drop at_ from (List.take_append_drop _ _).symm)
      have hrl := run_len (a0.data.toList.drop at_) (s0.run (a0.data.toList.take at_)).1
      have hrl2 := run_len (a0.data.toList.take at_) s0
      have htl : (a0.data.toList.take at_).length ≤ 20000 := by rw [List.length_take, size_eq']; omega
      clear b7 hrow7 hr7 hel
      have hai : (at_ : Int) ≤ (a0.size : Int) := by omega
      rcases hf1 with ⟨hf1, hf2, hf3, hf4⟩ | ⟨hf1, hf2, hf3, hf4⟩ | ⟨hf1, hf2, hf3, hf4⟩
      all_goals
        go_wp2_with fail
        refine HF7.out.mono ?_
        rintro e w8 ⟨vn, Tq8, Ln, rfl, ha8, hw8, ht8, hr8, hac8, ho8, hx8⟩
        have hLn : Ln.length ≤ 80000 := by have := congrArg List.length ha8; rw [List.length_map] at this; omega
        have hLl : L.length ≤ 80000 := by have := congrArg List.length HL.out; rw [List.length_map] at this; omega
        have hown1 := (HP7.out.al.next hw8 ht8).1.own
        have hRd := acts_reads hac8
        have hOne := acts_one hac8
        have HB8 := Lib.hid (HB7.out.trans (own_below hw8 HB7.out.size HP7.out.bq))
        have HK := Lib.hid (fun (v' : Value) (w' : World) o' g n' => HP7.out.grow (v' := v') (w' := w') hw8 ht8 hr8 hac8 ho8 hx8 HB7.out.size o' g n')
        have HA8 := Lib.hid ha8
        have HOW := Lib.hid hown1
        have HRD := Lib.hid hRd
        have HON := Lib.hid hOne
        clear hw8 ht8 hr8 hac8 ho8 hx8 ha8 hown1 hRd hOne HF7
        go_wp2_with (at_builtin; refine held ?_)
        unfold Held
        refine wpList_appD act_elem rfl rfl 0 HOW.out rfl HRD.out rfl HON.out (by unfold maxLen; omega) (by omega) (by omega) ?_
        intro v9 w9 o9 g9 n9
        obtain ⟨hb9, hp9⟩ := HK.out v9 w9 o9 g9 n9
        have HB9 := Lib.hid (HB7.out.trans hb9)
        have HP9 := Lib.hid hp9
        clear o9 g9 n9 hb9 hp9 HK HOW HRD HON
        have HEQ := Lib.hid (show La.map (·.1) = (L ++ Ln).map (·.1) by
          rw [List.map_append, HLa.out, HL.out, HA8.out]
          have := congrArg (fun l => (s0.run l).2) HTK.out
          rw [run_append] at this
          exact this)
        have HSQ := Lib.hid (show (s0.run a0.data.toList).1 = ((s0.run (a0.data.toList.take at_)).1.run (a0.data.toList.drop at_)).1 by
          have := congrArg (fun l => (s0.run l).1) HTK.out
          rw [run_append] at this
          exact this)
        go_wp2_with fail
        refine (all_eq va _ La (L ++ Ln) _ HP9.out.aa.isActs HP9.out.al.isActs HEQ.out).mono ?_
        rintro e w10 ⟨rfl, b10⟩
        have HB10 := Lib.hid (HB9.out.trans (b10.mono HB9.out.size))
        have HRP := Lib.hid (HP9.out.rp.below b10)
        have HRQ := Lib.hid (HP9.out.rq.below b10)
        rw [← HSQ.out] at HRQ
        clear b10
        generalize (s0.run a0.data.toList).1 = sf at *
        have HST1 := Lib.hid (state_any HRP.out)
        go_wp2_with fail
        refine HST1.out.mono ?_
        rintro e w11 ⟨rfl, g11⟩
        have HB11 := Lib.hid (HB10.out.trans ((below_gb0 g11).mono HB10.out.size))
        have HST2 := Lib.hid (state_any (HRQ.out.below (below_gb0 g11)))
        clear g11
        go_wp2_with fail
        refine HST2.out.mono ?_
        rintro e w12 ⟨rfl, g12⟩
        have HB12 := Lib.hid (HB11.out.trans ((below_gb0 g12).mono HB11.out.size))
        clear g12
        go_wp2_with fail
        go_ret
        exact ⟨rfl, HB12.out⟩
end Go.Proofs.YtkdicejlfagaeaaDoor
