/- Walks of package vtparse: head. -/
import Derived.Test.YtkdicejlfagaeaaDoorV1
import Derived.Test.YtkdicejlfagaeaaDoorOwn4
import Derived.Test.YtkdicejlfagaeaaDoorShelf
import Derived.Lib.ItoaLen
namespace Go.Proofs.YtkdicejlfagaeaaDoor
open Go.RowKit

/-- An action, as numbers and bytes. -/
structure VAct where
  kind : Int
  rune : Int
  byte : UInt8
  params : List Int
  inter : ByteArray
  text : ByteArray
def VAct.val (a : VAct) (vp : Value) : Value := .agg #[.int .i64 a.kind, .int .i32 a.rune, .int .u8 (a.byte.toNat : Int), vp, .string a.inter, .string a.text]

def markL : List UInt8 → List UInt8 × List UInt8
  | [] => ([], [])
  | c :: r => if 60 ≤ (c.toNat : Int) ∧ (c.toNat : Int) ≤ 63 then ([c], r) else ([], c :: r)
def parL (f : Bool) (x : Int) : List UInt8 := (if f then [59] else []) ++ (if 0 ≤ x then Lib.itoa x else [])
def parsL : Bool → List Int → List UInt8
  | _, [] => []
  | f, x :: r => parL f x ++ parsL true r
theorem parsL_snoc : ∀ (l : List Int) (f : Bool) (x : Int), parsL f (l ++ [x]) = parsL f l ++ parL (f || !l.isEmpty) x
  | [], f, x => by simp [parsL]
  | y :: l, f, x => by simp [parsL, parsL_snoc l true x]
def parOk (x : Int) : Bool := decide (-1 ≤ x) && decide (x ≤ 9999)
def preOk (rest : List UInt8) (byte : UInt8) (params : List Int) : Bool :=
  betweensL rest && (decide (64 ≤ (byte.toNat : Int)) && (decide ((byte.toNat : Int) ≤ 126) && (decide (params.length ≤ 32) && !(decide (params = [-1])))))
def headOk (a : VAct) : Bool := preOk (markL a.inter.data.toList).2 a.byte a.params && a.params.all parOk
def headL (a : VAct) : List UInt8 := (markL a.inter.data.toList).1 ++ parsL false a.params ++ (markL a.inter.data.toList).2 ++ [a.byte]

theorem extract_to (s : ByteArray) (k : Nat) (_h : k ≤ s.size) : (s.extract k s.size).data.toList = s.data.toList.drop k := by
  rw [ByteArray.data_extract, Array.toList_extract]
  apply List.take_of_length_le
  have : s.data.toList.length = s.size := by rw [Array.length_toList]; rfl
  rw [List.length_drop]; omega
theorem below_of_gb2 {w w' w2 : World} {B : Nat} {o : Obj} (g : ((w.alloc o).drew).grownBy w2 none) (hB : B ≤ w.heap.size) (h : Below B w' w) : Below B w' w2 :=
  (((h.alloc hB o).drew).grown g (by show B ≤ (w.alloc o).heap.size; simp; omega) (by intro q hq; simp at hq))
theorem ret2v {P : Program} {fn : Func} {R : Ending → World → Prop} {a : Act} {w : World} {t u : Tmp} {v1 v2 : Value} (h : fn.results = #[.tmp t, .tmp u]) (hd : a.defers = []) (h1 : a.tmps.getD t undef = v1) (h2 : a.tmps.getD u undef = v2) (hR : R (.returned (.tuple #[v1, v2])) w) :
    bodyPost P fn R .ret a w := by
  subst h1 h2; exact bodyPost_ret (results_tmp2 h _ _ _) hd hR
theorem ret_vb {v v' : Value} {a b : Bool} (h : v = v') (h2 : a = b) : Ending.returned (.tuple #[v, .bool a]) = .returned (.tuple #[v', .bool b]) := by rw [h, h2]
theorem parsL_step (l : List Int) (k : Nat) (h : k < l.length) : parsL false (l.take (k + 1)) = parsL false (l.take k) ++ parL (decide (0 < k)) (l.getD k 0) := by
  rw [take_succ_getD l 0 k h, parsL_snoc]
  congr 2
  cases k with
  | zero => simp
  | succ k =>
    have : (l.take (k + 1)).isEmpty = false := by
      cases l with
      | nil => simp at h
      | cons x l => rfl
    rw [this]; simp
theorem all_step (l : List Int) (k : Nat) (h : k < l.length) : (l.take (k + 1)).all parOk = ((l.take k).all parOk && parOk (l.getD k 0)) := by
  rw [take_succ_getD l 0 k h, List.all_append]; simp
theorem all_hit (l : List Int) (k : Nat) (h : k < l.length) (h2 : parOk (l.getD k 0) = false) : l.all parOk = false := by
  rw [List.all_eq_false]
  refine ⟨l.getD k 0, ?_, by rw [h2]; decide⟩
  rw [List.getD_eq_getElem?_getD, List.getElem?_eq_getElem h]
  exact List.getElem_mem h
theorem preOk_len {r : List UInt8} {b : UInt8} {l : List Int} (h : preOk r b l = true) : l.length ≤ 32 := by
  unfold preOk at h
  simp only [Bool.and_eq_true, decide_eq_true_eq] at h
  exact h.2.2.2.1
theorem preOk_btw {r : List UInt8} {b : UInt8} {l : List Int} (h : preOk r b l = true) : r.length ≤ 2 := by
  unfold preOk betweensL at h
  simp only [Bool.and_eq_true, decide_eq_true_eq] at h
  exact h.1.1
def isMark (s : ByteArray) : Bool := !(markL s.data.toList).1.isEmpty
theorem ne_empty (r : ByteArray) (h : ¬ r.size = 0) : (!r.toList.isEmpty) = true := by
  rw [ByteArray.toList_eq]
  have : r.data.toList.length = r.size := by rw [Array.length_toList]; rfl
  cases hl : r.data.toList with
  | nil => rw [hl] at this; simp at this; omega
  | cons x l => rfl
theorem toList_cons (s : ByteArray) (h : 0 < s.size) : s.data.toList = s[0] :: s.data.toList.drop 1 := by
  have hl : s.data.toList.length = s.size := by rw [Array.length_toList]; rfl
  have := List.drop_eq_getElem_cons (l := s.data.toList) (i := 0) (by omega)
  rw [List.drop_zero] at this
  exact this
theorem isMark_eq (s : ByteArray) (h : 0 < s.size) : isMark s = (decide (60 ≤ (s[0].toNat : Int)) && decide ((s[0].toNat : Int) ≤ 63)) := by
  unfold isMark
  rw [toList_cons s h, markL]
  split
  · rename_i h2; simp [h2]
  · rename_i h2; simp; omega
/-- What head goes on with. -/
theorem markD (s : ByteArray) : (isMark s = true → ∃ h : 0 < s.size, markL s.data.toList = ([s[0]], s.data.toList.drop 1)) ∧ (isMark s = false → markL s.data.toList = ([], s.data.toList)) := by
  by_cases h : 0 < s.size
  · rw [isMark_eq s h]
    refine ⟨fun hm => ⟨h, ?_⟩, fun hm => ?_⟩
    · rw [toList_cons s h, markL, if_pos (by simpa using hm)]; simp
    · rw [toList_cons s h, markL, if_neg (by simpa using hm)]
  · have hn : s.data.toList = [] := List.eq_nil_of_length_eq_zero (by rw [Array.length_toList]; have : s.data.size = s.size := rfl; omega)
    unfold isMark
    rw [hn]
    simp [markL]

set_option maxRecDepth 100000 in
set_option maxHeartbeats 1000000 in
theorem head_any (a : VAct) (vp : Value) (w : World) (hs : a.inter.size ≤ 1099511627776) (hp : IsRd .i64 w vp a.params) (ht : Tab Tryd.prog w) :
    Calls Tryd.prog 27 #[a.val vp] w fun e w' => ∃ v, e = .returned (.tuple #[v, .bool (headOk a)]) ∧ (headOk a = true → w'.ownsRow w.heap.size 5 1 v (headL a).length (byteVals (headL a))) ∧ Below w.heap.size w w' := by
  obtain ⟨kind, rune, byte, params, inter, text⟩ := a
  unfold VAct.val
  dsimp only at hs hp ⊢
  have HP := Lib.hid hp
  have HT := Lib.hid ht
  have HOK := Lib.hid (show headOk ⟨kind, rune, byte, params, inter, text⟩ = (preOk (markL inter.data.toList).2 byte params && params.all parOk) from rfl)
  have HL := Lib.hid (show headL ⟨kind, rune, byte, params, inter, text⟩ = (markL inter.data.toList).1 ++ parsL false params ++ (markL inter.data.toList).2 ++ [byte] from rfl)
  clear hp ht
  generalize headOk ⟨kind, rune, byte, params, inter, text⟩ = ok at *
  generalize headL ⟨kind, rune, byte, params, inter, text⟩ = out at *
  go_enter Tryd.func27, Tryd.ntmps27
  have HM := Lib.hid (markD inter)
  go_upto_region 3 with fail
  go_cut [22] (fun v wx => v = .bool (isMark inter) ∧ wx = w.alloc (.cells #[.int .i64 kind, .int .i32 rune, .int .u8 (byte.toNat : Int), vp, .string inter, .string text] 37))
  case first =>
    by_cases h0 : inter.size = 0
    · have hem : inter = ByteArray.empty := by apply ByteArray.ext; apply Array.ext'; exact List.eq_nil_of_length_eq_zero (by simpa using h0)
      subst hem
      go_wp2_with fail
      go_meet
      exact ⟨rfl, rfl⟩
    · have hne := ne_empty inter h0
      have hpos : 0 < inter.size := by omega
      have Hm := Lib.hid (isMark_eq inter hpos)
      by_cases h1 : 60 ≤ (inter[0].toNat : Int)
      · by_cases h2 : (inter[0].toNat : Int) ≤ 63
        · replace Hm := Lib.hid (show isMark inter = true by rw [Hm.out, decide_eq_true h1, decide_eq_true h2]; rfl)
          go_wp2_with fail
          go_meet
          rw [Hm.out]
          exact ⟨rfl, rfl⟩
        · replace Hm := Lib.hid (show isMark inter = false by rw [Hm.out, decide_eq_true h1, decide_eq_false h2]; rfl)
          go_wp2_with fail
          go_meet
          rw [Hm.out]
          exact ⟨rfl, rfl⟩
      · replace Hm := Lib.hid (show isMark inter = false by rw [Hm.out, decide_eq_false h1]; rfl)
        go_wp2_with fail
        go_meet
        rw [Hm.out]
        exact ⟨rfl, rfl⟩
  case rest =>
    obtain ⟨rfl, rfl⟩ := hcut
    go_upto_if 22 with fail
    go_cut [4, 5] (fun bv rv wx => ∃ rs : ByteArray, rv = .string rs ∧ rs.size ≤ 1099511627776 ∧ Hid (rs.data.toList = (markL inter.data.toList).2) ∧ (markL inter.data.toList).1.length ≤ 1 ∧
      wx.ownsRow (w.heap.size + 1) 5 1 bv (markL inter.data.toList).1.length (byteVals (markL inter.data.toList).1) ∧
      Below (w.heap.size + 1) (w.alloc (.cells #[.int .i64 kind, .int .i32 rune, .int .u8 (byte.toNat : Int), vp, .string inter, .string text] 37)) wx)
    case first =>
      cases hmk : isMark inter
      · have HM2 := Lib.hid (HM.out.2 hmk)
        clear HM
        go_wp2_with fail
        go_meet
        rw [HM2.out]
        exact ⟨inter, rfl, hs, rfl, by simp, World.ownsRow_nil _ _ _ _, Below.refl _ _⟩
      · obtain ⟨hpos, hm2⟩ := HM.out.1 hmk
        have HM2 := Lib.hid hm2
        clear HM hm2
        have h1s : (1 : Int) ≤ (inter.size : Int) := by omega
        go_upto_region 4 with fail
        go_region_law (refine step_appR bytes_elem rfl (.tmp 23) (.tmp 26) rfl (w.heap.size + 1) (World.ownsRow_nil _ _ _ _) (by simp [Act.eval, Act.put]) (reads_one _ _ _) (by simp [Act.eval, Act.put]) (int_one _ _) (by unfold maxLen; omega) (by omega) (by simp) ?_; intro bv w2 o2 g2)
        all_goals
          have O2 := Lib.hid o2
          have G2 := Lib.hid g2
          clear o2 g2
          go_wp2_with fail
          go_meet
          rw [HM2.out]
          refine ⟨inter.extract 1 inter.size, rfl, ?_, ?_, by simp, ?_, ?_⟩
          · rw [ByteArray.size_extract]; omega
          · exact extract_to inter 1 (by omega)
          · exact O2.out
          · exact below_of_gb2 G2.out (by simp) (Below.refl _ _)
    case rest =>
      obtain ⟨rs, rfl, hrs, HRS, hl1, ho, hb⟩ := hcut
      have HO := Lib.hid ho
      have HB := Lib.hid hb
      clear ho hb
      have HBW := Lib.hid (((Below.refl w.heap.size w).alloc (Nat.le_refl _) (.cells #[.int .i64 kind, .int .i32 rune, .int .u8 (byte.toNat : Int), vp, .string inter, .string text] 37)).trans (HB.out.mono (by omega)))
      have HPc := Lib.hid (isRd_below HP.out HBW.out)
      have hlen := rd_len Tryd.underlying28 HPc.out
      have c2 : wc.cell? ⟨w.heap.size, 2, none⟩ = some (.int .u8 (byte.toNat : Int)) := below_cell HB.out (by omega) (by rw [World.cell?_alloc_new]; rfl)
      have c3 : wc.cell? ⟨w.heap.size, 3, none⟩ = some vp := below_cell HB.out (by omega) (by rw [World.cell?_alloc_new]; rfl)
      rw [← HRS.out] at HOK HL
      have HPRE := Lib.hid (show preOk rs.data.toList byte params = (betweensL rs.data.toList && (decide (64 ≤ (byte.toNat : Int)) && (decide ((byte.toNat : Int) ≤ 126) && (decide (params.length ≤ 32) && !(decide (params = [-1])))))) from rfl)
      go_upto_region 6 with fail
      go_cut [60] (fun v wx => v = .bool (!preOk rs.data.toList byte params) ∧ wx = wc)
      case first =>
        cases hbt : betweensL rs.data.toList
        · rw [hbt] at HPRE
          go_wp2_with fail
          refine (betweens_any rs _ (by omega)).mono ?_
          rintro e w2 ⟨rfl, rfl⟩
          go_wp2_with fail
          go_meet
          rw [HPRE.out]
          exact ⟨rfl, rfl⟩
        rw [hbt] at HPRE
        by_cases h1 : 64 ≤ (byte.toNat : Int)
        rotate_left
        · rw [decide_eq_false h1] at HPRE
          go_wp2_with fail
          refine (betweens_any rs _ (by omega)).mono ?_
          rintro e w2 ⟨rfl, rfl⟩
          go_wp2_with fail
          go_meet
          rw [HPRE.out]
          exact ⟨rfl, rfl⟩
        rw [decide_eq_true h1] at HPRE
        have h1' : decide ((byte.toNat : Int) < 64) = false := decide_eq_false (by omega)
        by_cases h2 : (byte.toNat : Int) ≤ 126
        rotate_left
        · rw [decide_eq_false h2] at HPRE
          go_wp2_with fail
          refine (betweens_any rs _ (by omega)).mono ?_
          rintro e w2 ⟨rfl, rfl⟩
          go_wp2_with fail
          go_meet
          rw [HPRE.out]
          exact ⟨rfl, rfl⟩
        rw [decide_eq_true h2] at HPRE
        have h2' : decide (126 < (byte.toNat : Int)) = false := decide_eq_false (by omega)
        by_cases h3 : params.length ≤ 32
        rotate_left
        · rw [decide_eq_false h3] at HPRE
          go_wp2_with fail
          refine (betweens_any rs _ (by omega)).mono ?_
          rintro e w2 ⟨rfl, rfl⟩
          go_wp2_with fail
          go_meet
          rw [HPRE.out]
          exact ⟨rfl, rfl⟩
        rw [decide_eq_true h3] at HPRE
        have h3' : decide (32 < (params.length : Int)) = false := decide_eq_false (by omega)
        by_cases h4 : params.length = 1
        rotate_left
        · rw [decide_eq_false (show ¬ params = [-1] from fun h => h4 (by rw [h]; rfl))] at HPRE
          go_wp2_with fail
          refine (betweens_any rs _ (by omega)).mono ?_
          rintro e w2 ⟨rfl, rfl⟩
          go_wp2_with fail
          go_meet
          rw [HPRE.out]
          exact ⟨rfl, rfl⟩
        obtain ⟨ad, had, hcell⟩ := rd_at Tryd.underlying28 (by kernel_rfl) HPc.out 0 (by omega)
        replace had : ∀ wx, (Instr.indexAt 28 vp (.int .i64 0)).run Tryd.prog wx = .ok (.pointer (some ad)) wx := had
        have hsingle : params = [params.getD 0 0] := by
          match params, h4 with
          | [x], _ => rfl
        have HS := Lib.hid hsingle
        have h4' : ((params.length : Int) == 1) = true := by simp; omega
        clear hsingle h4
        by_cases h5 : params.getD 0 0 = -1
        · rw [decide_eq_true (show params = [-1] by rw [HS.out, h5])] at HPRE
          rw [h5] at hcell
          go_wp2_with fail
          refine (betweens_any rs _ (by omega)).mono ?_
          rintro e w2 ⟨rfl, rfl⟩
          go_wp2_with fail
          go_meet
          rw [HPRE.out]
          exact ⟨rfl, rfl⟩
        · rw [decide_eq_false (show ¬ params = [-1] from fun h => h5 (by rw [h]; rfl))] at HPRE
          have h5' : (params.getD 0 0 == -1) = false := beq_eq_false_iff_ne.2 h5
          generalize params.getD 0 0 = x0 at *
          go_wp2_with fail
          refine (betweens_any rs _ (by omega)).mono ?_
          rintro e w2 ⟨rfl, rfl⟩
          go_wp2_with fail
          go_meet
          rw [HPRE.out]
          exact ⟨rfl, rfl⟩
      case rest =>
        obtain ⟨rfl, rfl⟩ := hcut
        cases hpre : preOk rs.data.toList byte params
        · have HOK2 := Lib.hid (show ok = false by rw [HOK.out, hpre]; rfl)
          clear HPRE
          go_wp2_with fail
          refine ret2v rfl rfl rfl rfl ⟨.slice none 0 0, ret_vb rfl HOK2.out.symm, fun h => ?_, HBW.out⟩
          rw [HOK2.out] at h; simp at h
        have HOK2 := Lib.hid (show ok = params.all parOk by rw [HOK.out, hpre]; simp)
        have HPR2 := Lib.hid hpre
        go_wp2_with fail
        have h32 : params.length ≤ 32 := preOk_len HPR2.out
        have hszc : w.heap.size + 1 ≤ wc.heap.size := by have h1 := HB.out.size; simp at h1; omega
        go_loopw [4, 64] (fun bv iv wr => ∃ k : Nat, k ≤ params.length ∧ iv = .int .i64 k ∧ Hid ((params.take k).all parOk = true) ∧ Below (w.heap.size + 1) wc wr ∧
          ∃ L : List UInt8, Hid (L = (markL inter.data.toList).1 ++ parsL false (params.take k)) ∧ L.length ≤ 1 + 22 * k ∧ wr.ownsRow (w.heap.size + 1) 5 1 bv L.length (byteVals L)) (fun _ iv _ => params.length - (intOf iv).toNat)
        case atStart => exact ⟨0, by omega, rfl, rfl, Below.refl _ _, _, (by show _ = _; simp [parsL]), by omega, HO.out⟩
        case round =>
          obtain ⟨k, hk, rfl, HA, hb2, L, HLL, hL, ho2⟩ := hrel
          have HB2 := Lib.hid hb2
          have HO2 := Lib.hid ho2
          clear hb2 ho2
          have HBr := Lib.hid (HBW.out.trans (HB2.out.mono (by omega)))
          have HPr := Lib.hid (isRd_below HP.out HBr.out)
          have hsz := HBr.out.size
          have hsz1 : w.heap.size + 1 ≤ wr.heap.size := by have h1 := HB.out.size; have h2 := HB2.out.size; simp at h1; omega
          have d2 : wr.cell? ⟨w.heap.size, 2, none⟩ = some (.int .u8 (byte.toNat : Int)) := below_cell HB2.out (by omega) c2
          by_cases hlt : k < params.length
          · obtain ⟨ad, had, hcell⟩ := rd_at Tryd.underlying28 (by kernel_rfl) HPr.out k hlt
            have HST := Lib.hid (parsL_step params k hlt)
            have HAS := Lib.hid (all_step params k hlt)
            have HAH := Lib.hid (all_hit params k hlt)
            generalize params.getD k 0 = x at *
            by_cases h1 : x < -1
            · have HOK3 := Lib.hid (show ok = false by rw [HOK2.out]; exact HAH.out (by unfold parOk; rw [decide_eq_false (by omega : ¬ -1 ≤ x)]; rfl))
              go_wp2_with fail
              refine ret2v rfl rfl rfl rfl ⟨.slice none 0 0, ret_vb rfl HOK3.out.symm, fun h => ?_, HBr.out⟩
              rw [HOK3.out] at h; simp at h
            by_cases h2 : 9999 < x
            · have HOK3 := Lib.hid (show ok = false by rw [HOK2.out]; exact HAH.out (by unfold parOk; rw [decide_eq_false (by omega : ¬ x ≤ 9999)]; simp))
              go_wp2_with fail
              refine ret2v rfl rfl rfl rfl ⟨.slice none 0 0, ret_vb rfl HOK3.out.symm, fun h => ?_, HBr.out⟩
              rw [HOK3.out] at h; simp at h
            replace HAS := Lib.hid (show (params.take (k + 1)).all parOk = true by rw [HAS.out, HA.out]; unfold parOk; rw [decide_eq_true (by omega : -1 ≤ x), decide_eq_true (by omega : x ≤ 9999)]; rfl)
            clear HAH
            have hi := Lib.itoa_length_le x (by omega) (by omega)
            go_upto_if 76 with fail
            go_cut [4] (fun bv3 wx => ∃ L3 : List UInt8, Hid (L3 = L ++ (if 0 < k then [59] else [])) ∧ L3.length ≤ 2 + 22 * k ∧ wx.ownsRow (w.heap.size + 1) 5 1 bv3 L3.length (byteVals L3) ∧ Below (w.heap.size + 1) wc wx)
            case first =>
              by_cases hk0 : 0 < k
              · go_wp2_with (at_builtin; refine held ?_)
                unfold Held
                refine wpList_app bytes_elem rfl rfl (w.heap.size + 1) (HO2.out.alloc _) rfl (reads_one _ _ _) rfl (int_one _ _) (by unfold maxLen; omega) (by omega) (by simp; omega) ?_
                intro bv2 w5 o5 g5
                have B5 := Lib.hid ((HB2.out.alloc hsz1 _).grown g5 (by simp; omega) (fun q hq => (HO2.out.lt q hq).1))
                have O5 := Lib.hid (show w5.ownsRow (w.heap.size + 1) 5 1 bv2 (L ++ [59]).length (byteVals (L ++ [59])) by rw [byteVals_append, List.length_append]; exact o5)
                clear o5 g5
                go_wp2_with fail
                go_meet
                rw [if_pos hk0]
                exact ⟨_, rfl, by simp; omega, O5.out, B5.out⟩
              · go_wp2_with fail
                go_meet
                rw [if_neg hk0]
                exact ⟨_, rfl, by simp; omega, by rw [List.append_nil]; exact HO2.out, HB2.out⟩
            case rest =>
              obtain ⟨L3, HL3, hL3, o3, b3⟩ := hcut
              have O3 := Lib.hid o3
              have B3 := Lib.hid b3
              clear o3 b3 HO2
              have hsz3 := B3.out.size
              have HL4 := Lib.hid (show (markL inter.data.toList).1 ++ parsL false (params.take (k + 1)) = L3 ++ (if 0 ≤ x then Lib.itoa x else []) by
                rw [HST.out, ← List.append_assoc, ← HLL.out, HL3.out]
                unfold parL
                rw [← List.append_assoc]
                congr 2
                by_cases hk0 : 0 < k
                · rw [if_pos hk0, decide_eq_true hk0]; rfl
                · rw [if_neg hk0, decide_eq_false hk0]; rfl)
              by_cases hx : 0 ≤ x
              · rw [if_pos hx] at HL4
                go_wp2_with fail
                refine (Tryd.strconv_AppendInt_10 (w.heap.size + 1) _ x (by omega) (by omega) _ _ _ O3.out (by omega) (by omega) (tab_up (tab_below HT.out (HBW.out.trans (B3.out.mono (by omega)))) (by omega))).mono ?_
                rintro e w6 ⟨bv6, rfl, o6, b6, _⟩
                have O6 := Lib.hid (show w6.ownsRow (w.heap.size + 1) 5 1 bv6 (L3 ++ Lib.itoa x).length (byteVals (L3 ++ Lib.itoa x)) by rw [byteVals_append, List.length_append]; exact o6)
                have B6 := Lib.hid (B3.out.trans b6)
                clear o6 b6
                go_wp2_with fail
                go_roundw
                case rel =>
                  repeat apply Exists.intro
                  refine ⟨⟨k + 1, by omega, rfl, HAS.out, B6.out, L3 ++ Lib.itoa x, HL4.out.symm, ?_, O6.out⟩, rfl⟩
                  rw [List.length_append]; omega
                case measure => simp [intOf]; omega
              · rw [if_neg hx, List.append_nil] at HL4
                go_wp2_with fail
                go_roundw
                case rel =>
                  refine ⟨k + 1, by omega, rfl, HAS.out, B3.out, L3, HL4.out.symm, ?_, O3.out⟩
                  omega
                case measure => simp [intOf]; omega
          · have hk2 : k = params.length := by omega
            have HOK3 := Lib.hid (show true = ok by rw [HOK2.out]; have := HA.out; rw [hk2, List.take_length] at this; rw [this])
            have HO3 := Lib.hid (show out = L ++ rs.data.toList ++ [byte] by rw [HL.out, HLL.out, hk2, List.take_length])
            clear hk2
            have hbw : rs.size ≤ 2 := by have := preOk_btw HPR2.out; rw [Array.length_toList] at this; exact this
            have HNE := Lib.hid (show some w.heap.size ≠ u4.ownBlock from fun e => by have := (HO2.out.lt _ e.symm).1; omega)
            have HNE2 := Lib.hid (show some wr.heap.size ≠ u4.ownBlock from fun e => by have := (HO2.out.lt _ e.symm).2; omega)
            go_upto_region 18 with fail
            go_region_law (first
              | (refine step_appStr bytes_elem Tryd.underlying9 rfl (.tmp 86) (.tmp 87) rfl (w.heap.size + 1) (by first | exact HO2.out | exact HO2.out.alloc _) (by first | rfl | simp [Act.eval, Act.put]) rs (by first | rfl | simp [Act.eval, Act.put]) (by omega) (by simp; omega) ?_
                 intro bv5 w5 o5 g5
                 have hs5 := g5.size
                 try simp at hs5
                 try (have e5 : w5.cell? ⟨w.heap.size, 2, none⟩ = some (.int .u8 (byte.toNat : Int)) := g5.cell d2 HNE.out))
              | (apply step_appR bytes_elem
                 case hgd => rfl
                 case ho => rfl
                 case hown => first | exact o5 | exact o5.alloc _
                 case hs => rfl
                 case hr => first | exact reads_one _ _ _ | exact reads_kept (w := (wr.alloc (.cells #[.int .u8 (byte.toNat : Int)] 5)).drew) (reads_one wr (.int .u8 (byte.toNat : Int)) 5) g5 (by intro q hq; simp [Value.ownBlock] at hq; subst hq; exact fun e => HNE2.out e.symm)
                 case hx => rfl
                 case h1 => exact int_one _ _
                 case h63 => unfold maxLen; omega
                 case hbytes => omega
                 case hbase => first | omega | (simp; omega)
                 intro bv6 w6 o6 g6))
            all_goals
              have lt4 := HO2.out.lt
              have lt5 := o5.lt
              have O6 := Lib.hid o6
              have HBf := Lib.hid (show Below w.heap.size w w6 by
                refine Below.trans (Below.trans HBr.out (?_ : Below w.heap.size wr w5)) (?_ : Below w.heap.size w5 w6)
                · first
                  | exact ((Below.refl w.heap.size wr).drew).grown g5 (by show w.heap.size ≤ wr.heap.size; omega) (fun q hq => by have := (lt4 q hq).1; omega)
                  | exact (((Below.refl w.heap.size wr).alloc (by omega) _).drew).grown g5 (by simp; omega) (fun q hq => by have := (lt4 q hq).1; omega)
                · first
                  | exact below_of_gb (a := w5) g6 (by omega) (fun q hq => by have := (lt5 q hq).1; omega)
                  | exact ((Below.refl w.heap.size w5).alloc (by omega) _).trans (below_of_gb (a := World.alloc w5 _) g6 (by simp; omega) (fun q hq => by have := (lt5 q hq).1; omega)))
              clear o6 g6 o5 g5 lt4 lt5
              go_wp2_with fail
              refine ret2v rfl rfl rfl rfl ⟨_, ret_vb rfl HOK3.out, fun _ => ?_, HBf.out⟩
              rw [HO3.out]
              have := own_mono O6.out (Nat.le_succ w.heap.size)
              simp only [byteVals_append, List.length_append, Array.length_toList, List.length_singleton]
              exact this
end Go.Proofs.YtkdicejlfagaeaaDoor
