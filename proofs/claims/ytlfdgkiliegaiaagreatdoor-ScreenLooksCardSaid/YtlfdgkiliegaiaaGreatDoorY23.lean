/- Package grid, texts laid together: U5 LaidG LaidT ArgS. -/
import Derived.Test.YtlfdgkiliegaiaaGreatDoorY22
import Derived.Test.YtlfdgkiliegaiaaGreatDoorY5
import Derived.Test.YtlfdgkiliegaiaaGreatDoorCards
import Derived.Test.YtlfdgkiliegaiaaGreatDoorTie
import Derived.WalkKit
import Derived.ProofKit
import Derived.OpenShut
import Derived.Deep.DeepHandedRow
import Derived.JoinedCond
import Derived.Test.YtlfdgkiliegaiaaGreatDoorY6
import Derived.Lib.LaidTab
/- The law ScreenLooks: the walk. -/
namespace Go.Proofs.YtlfdgkiliegaiaaGreatDoor
open Go.RowKit
set_option maxRecDepth 100000
attribute [local go_sem ↓] Go.wp_at_zero Go.wp_at_succ

/-- []byte(s), apart from a screen. -/
theorem conv_aside (w : World) (s : ByteArray) (hm : s.size ≤ 10000000) :
    ∃ v w', (convert 9 38 (.string s)).run Tryz.prog w = .ok v w' ∧ Below w.heap.size w w' ∧ ∀ B C p t pt, SR B C p w t pt → Aside C w' 1 v s.data.toList.length (byteVals s.data.toList) 0 := by
  obtain ⟨v, w', h1, h2, h3⟩ := conv_bytes (P := Tryz.prog) w 9 38 5 s Tryz.underlying9 Tryz.underlying38 Tryz.underlying5 (by unfold maxLen; omega)
  exact ⟨v, w', h1, below_gb0 h3, fun B C p t pt hr => ⟨ownC_mono (reads_bytes h2 rfl) (Nat.zero_le _), fun k hk => hr.free (ownC_lt h2 k hk).1⟩⟩
theorem at_sty {w : World} {k : Nat} {s : Sty} {T : TypeId} (h : w.heap[k]? = some (.cells #[.int .i64 s.fg, .int .i64 s.bg, .int .i64 s.attr] T (0, 0))) :
    w.cell? ⟨k, 0, none⟩ = some (.int .i64 s.fg) ∧ w.cell? ⟨k, 1, none⟩ = some (.int .i64 s.bg) ∧ w.cell? ⟨k, 2, none⟩ = some (.int .i64 s.attr) := ⟨blk_cell h 0, blk_cell h 1, blk_cell h 2⟩
theorem eqb_refl (a : Sty) : a.eqb a = true := (Sty.eqb_iff a a).2 rfl
set_option maxHeartbeats 8000000 in
theorem screenLooks_walk (a b : Sty) (w : World) (ha : I64 a.fg ∧ I64 a.bg ∧ I64 a.attr) (hb : I64 b.fg ∧ I64 b.bg ∧ I64 b.attr) (ht : Tabs w) :
    Calls Tryz.prog 4 #[a.val, b.val] w fun e w' => e = .returned (.bool true) ∧ Below w.heap.size w w' := by
  have hb1 := below_alloc w (.cells #[.int .i64 a.fg, .int .i64 a.bg, .int .i64 a.attr] 35)
  have hb2 := hb1.alloc (by simp) (.cells #[.int .i64 b.fg, .int .i64 b.bg, .int .i64 b.attr] 35)
  have HA := Lib.hid (blk_alloc (blk_new w (.cells #[.int .i64 a.fg, .int .i64 a.bg, .int .i64 a.attr] 35)) (.cells #[.int .i64 b.fg, .int .i64 b.bg, .int .i64 b.attr] 35))
  have HB := Lib.hid (blk_new2 w (.cells #[.int .i64 a.fg, .int .i64 a.bg, .int .i64 a.attr] 35) (.cells #[.int .i64 b.fg, .int .i64 b.bg, .int .i64 b.attr] 35))
  have HB2 := Lib.hid hb2
  have HT := Lib.hid (ht.below hb2)
  have HRA := Lib.hid (right_all a _ HT.out ha.1 ha.2.1)
  have HRB := Lib.hid (right_all b _ HT.out hb.1 hb.2.1)
  have HSH := Lib.hid (shown6_any _ HT.out)
  clear hb1 hb2 ht ha hb
  unfold Sty.val
  go_enter Tryz.func4, Tryz.ntmps4
  go_upto_region 1 with fail
  obtain ⟨A, hA⟩ : ∃ A, A = w.heap.size := ⟨_, rfl⟩
  have HAE := Lib.hid hA
  obtain ⟨wa, hwa⟩ : ∃ wa, wa = (w.alloc (.cells #[.int .i64 a.fg, .int .i64 a.bg, .int .i64 a.attr] 35)).alloc (.cells #[.int .i64 b.fg, .int .i64 b.bg, .int .i64 b.attr] 35) := ⟨_, rfl⟩
  rw [← hwa] at HA HB HB2 HT HRA HRB HSH
  rw [← hwa]
  rw [← hA] at HA HB
  rw [← hA]
  clear hwa hA
  go_wp2_with fail
  refine HSH.out.mono ?_
  rintro e w1 ⟨rfl, b1⟩
  have HM := Lib.hid (made6_any 9 3 0 w1 (by unfold I64; decide) (by unfold I64; decide) (by unfold I64; decide) (HT.out.below b1))
  have HLA := Lib.hid (Nat.lt_of_lt_of_le (heap_lt HA.out) b1.size)
  have HLB := Lib.hid (Nat.lt_of_lt_of_le (heap_lt HB.out) b1.size)
  have HW1 := Lib.hid b1
  clear b1 HSH
  go_wp2_with fail
  refine HM.out.mono ?_
  rintro e w2 ⟨p, C2, rfl, h2⟩
  have H2 := Lib.hid (show SR w1 C2 p w2 (newS 10 4 0) s0 from h2)
  have HZ := Lib.hid (show ∀ k, k < w1.heap.size → C2 k = 0 from fun k hk => Classical.byContradiction fun e => by have := h2.hi k e; omega)
  have HW2 := Lib.hid (HW1.out.trans (h2.bl.mono HW1.out.size))
  have HA2 := Lib.hid (blk_below HA.out HW2.out (heap_lt HA.out))
  have HB2' := Lib.hid (blk_below HB.out HW2.out (heap_lt HB.out))
  clear h2 HM HA HB
  obtain ⟨x0, x1, x2⟩ := at_sty HA2.out
  obtain ⟨y0, y1, y2⟩ := at_sty HB2'.out
  have hra := HRA.out w2 HW2.out
  unfold Sty.val at hra
  obtain ⟨oa, hoa⟩ : ∃ oa, okS a = oa := ⟨_, rfl⟩
  obtain ⟨ob, hob⟩ : ∃ ob, okS b = ob := ⟨_, rfl⟩
  rw [hoa] at hra
  have HCA := Lib.hid hra
  clear hra
  go_wp2_with fail
  refine HCA.out.mono ?_
  rintro e w3 ⟨rfl, b3⟩
  have HW3 := Lib.hid (HW2.out.trans (b3.mono HW2.out.size))
  have H3 := Lib.hid (H2.out.below b3)
  have HA3 := Lib.hid (blk_below HA2.out b3 (heap_lt HA2.out))
  have HB3 := Lib.hid (blk_below HB2'.out b3 (heap_lt HB2'.out))
  clear x0 x1 x2 y0 y1 y2 b3 H2 HA2 HB2' HW2 HCA
  obtain ⟨x0, x1, x2⟩ := at_sty HA3.out
  obtain ⟨y0, y1, y2⟩ := at_sty HB3.out
  have hrb := HRB.out w3 HW3.out
  unfold Sty.val at hrb
  rw [hob] at hrb
  have HCB := Lib.hid hrb
  clear hrb
  go_wp2_with fail
  refine HCB.out.mono ?_
  rintro e w4 ⟨rfl, b4⟩
  have HW4 := Lib.hid (HW3.out.trans (b4.mono HW3.out.size))
  have H4 := Lib.hid (H3.out.below b4)
  have HA4 := Lib.hid (blk_below HA3.out b4 (heap_lt HA3.out))
  have HB4 := Lib.hid (blk_below HB3.out b4 (heap_lt HB3.out))
  have HE := Lib.hid (show Below w.heap.size w w4 from HB2.out.trans (HW4.out.mono HB2.out.size))
  clear x0 x1 x2 y0 y1 y2 b4 H3 HA3 HB3 HW3 HCB
  cases oa
  · go_wp2_with fail
    go_ret
    exact ⟨rfl, HE.out⟩
  cases ob
  · go_wp2_with fail
    go_ret
    exact ⟨rfl, HE.out⟩
  have HOA := Lib.hid hoa
  have HOB := Lib.hid hob
  clear hoa hob
  go_upto_region 7 with fail
  obtain ⟨x0, x1, x2⟩ := at_sty HA4.out
  have HTB4 := Lib.hid (HT.out.below HW4.out)
  have HPL := Lib.hid (fun w => plain_any w)
  have HSG := Lib.hid (fun wx hx => sgr_any plainS a wx hx (by decide) HOA.out)
  unfold Sty.val plainS at HSG HPL
  have HOK := Lib.hid (new_ok (c := 10) (r := 4) (l := 0) (by decide) (by decide))
  refine wpL_begin (c := 5) (S := (fun bb w' => (w'.cell? ⟨A, 0, none⟩ = some (.int .i64 a.fg) ∧ w'.cell? ⟨A, 1, none⟩ = some (.int .i64 a.bg) ∧ w'.cell? ⟨A, 2, none⟩ = some (.int .i64 a.attr)) ∧ (bb = false → True))) (by kernel_rfl) (⟨⟨x0, x1, x2⟩, fun _ => trivial⟩) (fun _ => ?_)
  refine wpL_tk false 0 (⟨⟨x0, x1, x2⟩, fun _ => trivial⟩) ?_
  refine wpL_tk false 2 (⟨⟨x0, x1, x2⟩, fun _ => trivial⟩) ?_
  refine wpL_on false 1 fun K hK => ?_
  refine wanted_on rfl ?_
  go_wp2_with fail
  refine (HPL.out w4.drew).mono ?_
  rintro e w5 ⟨rfl, b5⟩
  have HB5 := Lib.hid (show Below w4.heap.size w4 w5 from (Below.refl w4.heap.size w4).drew.trans b5)
  refine hK.out _ _ (⟨⟨cell_below HB5.out x0, cell_below HB5.out x1, cell_below HB5.out x2⟩, fun _ => trivial⟩) (fun _ => ?_)
  clear hK K b5
  try simp only [Act.put, List.setIfInBounds_toArray, List.set_cons_zero, List.set_cons_succ]
  refine wpL_on false 3 fun K hK => ?_
  refine wanted_on rfl ?_
  go_wp2_with fail
  refine (HSG.out w5 (HTB4.out.below HB5.out)).mono ?_
  rintro e w6 ⟨str, rfl, es, hz6, b6⟩
  have HES := Lib.hid (show str.data.toList = sgrL plainS a from es)
  have HB6 := Lib.hid (HB5.out.trans (b6.mono HB5.out.size))
  obtain ⟨v7, w7, hcv, b7, hb7⟩ := conv_aside w6 str (by omega)
  have HB7 := Lib.hid (HB6.out.trans (b7.mono HB6.out.size))
  have HAS := Lib.hid (hb7 _ _ _ _ _ (H4.out.below HB6.out))
  have HF := Lib.hid (feedS_any (t := ⟨newS 10 4 0, s0⟩) (H4.out.below HB7.out) HOK.out v7 str.data.toList HAS.out (by rw [Array.length_toList]; show str.size ≤ _; omega))
  refine hK.out _ _ (⟨⟨cell_below HB6.out x0, cell_below HB6.out x1, cell_below HB6.out x2⟩, fun _ => trivial⟩) (fun _ => ?_)
  clear hK K b6 es b7 hb7
  try simp only [Act.put, List.setIfInBounds_toArray, List.set_cons_zero, List.set_cons_succ]
  refine wpL_on false 4 fun K hK => ?_
  refine wanted_on rfl ?_
  go_wp2_with fail
  refine hK.out _ _ (⟨⟨cell_below HB7.out x0, cell_below HB7.out x1, cell_below HB7.out x2⟩, fun _ => trivial⟩) (fun _ => ?_)
  clear hK K 
  try simp only [Act.put, List.setIfInBounds_toArray, List.set_cons_zero, List.set_cons_succ]
  refine wpL_on true 5 fun K hK => ?_
  refine wanted_on rfl ?_
  go_wp2_with fail
  refine HF.out.mono ?_
  rintro e w8 ⟨v8, C8, rfl, h8, p8, a8, o8⟩
  have HA8 := Lib.hid (p8.blk (blk_below HA4.out HB7.out (heap_lt HA4.out)) (HZ.out _ HLA.out))
  have HB8 := Lib.hid (p8.blk (blk_below HB4.out HB7.out (heap_lt HB4.out)) (HZ.out _ HLB.out))
  obtain ⟨z0, z1, z2⟩ := at_sty HA8.out
  have H8 := Lib.hid h8
  have P8 := Lib.hid p8
  have A8 := Lib.hid a8
  have O8 := Lib.hid o8
  refine hK.out _ _ (⟨⟨z0, z1, z2⟩, fun e => by cases e⟩) (fun _ => ?_)
  clear hK K h8 p8 a8 o8
  try simp only [Act.put, List.setIfInBounds_toArray, List.set_cons_zero, List.set_cons_succ]
  refine wpL_tk true 6 (⟨⟨z0, z1, z2⟩, fun e => by cases e⟩) ?_
  refine wpL_done (by kernel_rfl) ?_ _
  go_wp2_with fail
  obtain ⟨o1, q1, e1, c1⟩ := looks_feed (f := plainS) (g := a) plain_okS HOA.out ⟨newS 10 4 0, s0⟩ ⟨rfl, rfl⟩ rfl
  rw [← HES.out] at e1
  have h8 := H8.out
  have a8 := A8.out
  have o8 := O8.out
  rw [e1] at h8 a8 o8
  obtain ⟨s1, hs1⟩ : ∃ s1 : Scr, s1 = { (⟨newS 10 4 0, s0⟩ : Trm).scr with out := o1, now := { (⟨newS 10 4 0, s0⟩ : Trm).scr.now with pen := a } } := ⟨_, rfl⟩
  have hp1 : s1.now.pen = a := by rw [hs1]
  have H9 := Lib.hid (show SR w1 C8 p w8 s1 q1 by rw [hs1]; exact h8)
  have O9 := Lib.hid (show (⟨s1, q1⟩ : Trm).Ok 10 4 by rw [hs1]; exact o8)
  have hl8 := ownC_ln Tryz.underlying38 (show OwnC w8 _ 1 v8 0 [] from a8.own)
  have hst := styleS_any H9.out
  rw [hp1] at hst
  have HST := Lib.hid hst
  have HC1 := Lib.hid c1
  have HP1 := Lib.hid hp1
  have HZ8 := Lib.hid (show ∀ k, k < w1.heap.size → C8 k = 0 from fun k hk => Classical.byContradiction fun e => by have := h8.hi k e; omega)
  clear h8 a8 o8 e1 hs1 hst hp1 c1 H8 A8 O8 P8 H4 HA4 HB4 HTB4 HW4 HE HB5 HB6 HB7 HAS HF HES hcv hz6 x0 x1 x2 z0 z1 z2 HZ HSG HOK
  refine HST.out.mono ?_
  rintro e w9 ⟨rfl, b9⟩
  have H10 := Lib.hid (H9.out.below b9)
  have HA9 := Lib.hid (blk_below HA8.out b9 (heap_lt HA8.out))
  have HB9 := Lib.hid (blk_below HB8.out b9 (heap_lt HB8.out))
  have hbo := below_alloc w9 (.cells #[.int .i64 a.fg, .int .i64 a.bg, .int .i64 a.attr] 35)
  have HX := Lib.hid (blk_new w9 (.cells #[.int .i64 a.fg, .int .i64 a.bg, .int .i64 a.attr] 35))
  have H11 := Lib.hid (H10.out.below hbo)
  have HA10 := Lib.hid (blk_below HA9.out hbo (heap_lt HA9.out))
  have HB10 := Lib.hid (blk_below HB9.out hbo (heap_lt HB9.out))
  have HZX := Lib.hid (H10.out.free (Nat.le_refl w9.heap.size))
  clear b9 H9 HST H10 HA8 HB8 HA9 HB9 hbo
  unfold Sty.val
  go_upto_region 9 with fail
  obtain ⟨X, hX⟩ : ∃ X, X = w9.heap.size := ⟨_, rfl⟩
  rw [← hX] at HX HZX
  rw [← hX]
  obtain ⟨w10, hw10⟩ : ∃ w10, w10 = w9.alloc (.cells #[.int .i64 a.fg, .int .i64 a.bg, .int .i64 a.attr] 35) := ⟨_, rfl⟩
  rw [← hw10] at HX H11 HA10 HB10
  rw [← hw10]
  clear hw10 hX
  obtain ⟨x0, x1, x2⟩ := at_sty HA10.out
  obtain ⟨y0, y1, y2⟩ := at_sty HB10.out
  have hsg := sgr_any a b w10 H11.out.tabs' HOA.out HOB.out
  unfold Sty.val at hsg
  have HSG := Lib.hid hsg
  clear hsg
  go_wp2_with fail
  refine HSG.out.mono ?_
  rintro e w11 ⟨str2, rfl, es, hz, b11⟩
  have HES := Lib.hid (show str2.data.toList = sgrL a b from es)
  obtain ⟨v12, w12, hcv, b12, hb12⟩ := conv_aside w11 str2 (by omega)
  have hbb := b11.trans (b12.mono b11.size)
  have HF := Lib.hid (feedS_any (t := ⟨s1, q1⟩) (H11.out.below hbb) O9.out v12 str2.data.toList (hb12 _ _ _ _ _ (H11.out.below b11)) (by rw [Array.length_toList]; show str2.size ≤ _; omega))
  have HA12 := Lib.hid (blk_below HA10.out hbb (heap_lt HA10.out))
  have HB12 := Lib.hid (blk_below HB10.out hbb (heap_lt HB10.out))
  have HX12 := Lib.hid (blk_below HX.out hbb (heap_lt HX.out))
  clear HSG es b11 b12 hb12 hbb HA10 HB10 HX H11 x0 x1 x2 y0 y1 y2
  go_wp2_with fail
  refine HF.out.mono ?_
  rintro e w13 ⟨v13, C13, rfl, h13, p13, a13, o13⟩
  obtain ⟨o2, q2, e2, c2⟩ := looks_feed (f := a) (g := b) HOA.out HOB.out ⟨s1, q1⟩ HC1.out HP1.out
  rw [← HES.out] at e2
  rw [e2] at h13 a13 o13
  obtain ⟨s2, hs2⟩ : ∃ s2 : Scr, s2 = { (⟨s1, q1⟩ : Trm).scr with out := o2, now := { (⟨s1, q1⟩ : Trm).scr.now with pen := b } } := ⟨_, rfl⟩
  have hp2 : s2.now.pen = b := by rw [hs2]
  have H14 := Lib.hid (show SR w1 C13 p w13 s2 q2 by rw [hs2]; exact h13)
  have O14 := Lib.hid (show (⟨s2, q2⟩ : Trm).Ok 10 4 by rw [hs2]; exact o13)
  have hl13 := ownC_ln Tryz.underlying38 (show OwnC w13 _ 1 v13 0 [] from a13.own)
  have HA13 := Lib.hid (p13.blk HA12.out (HZ8.out _ HLA.out))
  have HB13 := Lib.hid (p13.blk HB12.out (HZ8.out _ HLB.out))
  have HX13 := Lib.hid (p13.blk HX12.out HZX.out)
  have hst := styleS_any H14.out
  rw [hp2] at hst
  have HST := Lib.hid hst
  have HC2 := Lib.hid c2
  have HZ13 := Lib.hid (show ∀ k, k < w1.heap.size → C13 k = 0 from fun k hk => Classical.byContradiction fun e => by have := h13.hi k e; omega)
  have HZX13 := Lib.hid (show C13 X = 0 from Classical.byContradiction fun e => by
    rcases p13.n X e with e | e
    · exact e HZX.out
    · have := heap_lt HX12.out; omega)
  clear h13 a13 o13 p13 e2 hs2 hst hp2 c2 HF HES hcv hz HZ8 HZX HA12 HB12 HX12 HC1 HP1 O9
  go_wp2_with fail
  refine HST.out.mono ?_
  rintro e w14 ⟨rfl, b14⟩
  have hbo := b14.alloc b14.size (.cells #[.int .i64 b.fg, .int .i64 b.bg, .int .i64 b.attr] 35)
  have HY := Lib.hid (blk_new w14 (.cells #[.int .i64 b.fg, .int .i64 b.bg, .int .i64 b.attr] 35))
  have H15 := Lib.hid (H14.out.below hbo)
  have HA15 := Lib.hid (blk_below HA13.out hbo (heap_lt HA13.out))
  have HB15 := Lib.hid (blk_below HB13.out hbo (heap_lt HB13.out))
  have HX15 := Lib.hid (blk_below HX13.out hbo (heap_lt HX13.out))
  have HZY := Lib.hid ((H14.out.below b14).free (Nat.le_refl w14.heap.size))
  clear b14 H14 HST HA13 HB13 HX13 hbo
  unfold Sty.val
  go_upto_region 11 with fail
  obtain ⟨Y, hY⟩ : ∃ Y, Y = w14.heap.size := ⟨_, rfl⟩
  rw [← hY] at HY HZY
  rw [← hY]
  obtain ⟨w15, hw15⟩ : ∃ w15, w15 = w14.alloc (.cells #[.int .i64 b.fg, .int .i64 b.bg, .int .i64 b.attr] 35) := ⟨_, rfl⟩
  rw [← hw15] at HY H15 HA15 HB15 HX15
  rw [← hw15]
  clear hw15 hY
  have hkc := kc_one w15 #[.int .u8 27, .int .u8 91, .int .u8 109] 3 3
  have hA1 := aside_lit H15.out 5 [27, 91, 109] #[.int .u8 27, .int .u8 91, .int .u8 109] rfl (by decide)
  have hbo := below_alloc w15 (.cells #[.int .u8 27, .int .u8 91, .int .u8 109] 5 (3, 4))
  have HF := Lib.hid (feedS_any (t := ⟨s2, q2⟩) (H15.out.below hbo) O14.out _ [27, 91, 109] hA1 (by decide))
  have HA16 := Lib.hid (blk_below HA15.out hbo (heap_lt HA15.out))
  have HB16 := Lib.hid (blk_below HB15.out hbo (heap_lt HB15.out))
  have HX16 := Lib.hid (blk_below HX15.out hbo (heap_lt HX15.out))
  have HY16 := Lib.hid (blk_below HY.out hbo (heap_lt HY.out))
  clear hbo hA1 HA15 HB15 HX15 HY H15 O14
  go_wp2_with fail
  refine HF.out.mono ?_
  rintro e w17 ⟨v17, C17, rfl, h17, p17, a17, o17⟩
  obtain ⟨q3, e3, _⟩ := plain_feed ⟨s2, q2⟩ HC2.out
  rw [e3] at h17 a17
  have H17 := Lib.hid h17
  have hl17 := ownC_ln Tryz.underlying38 (show OwnC w17 _ 1 v17 0 [] from a17.own)
  obtain ⟨x0, x1, x2⟩ := at_sty (p17.blk HA16.out (HZ13.out _ HLA.out))
  obtain ⟨y0, y1, y2⟩ := at_sty (p17.blk HB16.out (HZ13.out _ HLB.out))
  obtain ⟨z0, z1, z2⟩ := at_sty (p17.blk HX16.out HZX13.out)
  obtain ⟨u0, u1, u2⟩ := at_sty (p17.blk HY16.out HZY.out)
  have hst := styleS_any H17.out
  have HST := Lib.hid (show Calls Tryz.prog 22 #[.pointer (some ⟨p, 0, none⟩)] w17 fun e w' => e = .returned plainS.val ∧ Below w17.heap.size w17 w' from hst)
  have hq1 := fun wx => eql_sty a a wx
  have hq2 := fun wx => eql_sty b b wx
  have hq3 := fun wx => eql_sty plainS plainS wx
  rw [eqb_refl] at hq1 hq2 hq3
  have hg1 := fun (x y : Operand) wx => guard_sty .eql x y a a wx
  have hg2 := fun (x y : Operand) wx => guard_sty .eql x y b b wx
  have hg3 := fun (x y : Operand) wx => guard_sty .eql x y plainS plainS wx
  unfold Sty.val at hq1 hq2 hq3 hg1 hg2 hg3
  unfold plainS at hq3 hg3
  clear h17 a17 p17 o17 e3 hst HF hkc HA16 HB16 HX16 HY16 HZ13 HZX13 HZY HC2
  go_wp2_with fail
  refine HST.out.mono ?_
  rintro e w18 ⟨rfl, b18⟩
  have HPL18 := Lib.hid (HPL.out w18)
  have HBF := Lib.hid (show Below w.heap.size w w18 from HB2.out.trans ((HW1.out.trans ((H17.out.below b18).bl.mono HW1.out.size)).mono HB2.out.size))
  unfold Sty.val plainS
  clear HST b18 H17 x0 x1 x2 y0 y1 y2 z0 z1 z2 u0 u1 u2
  go_wp2_with fail
  refine HPL18.out.mono ?_
  rintro e w19 ⟨rfl, b19⟩
  have HBG := Lib.hid (HBF.out.trans (b19.mono HBF.out.size))
  go_wp2_with fail
  go_ret
  exact ⟨rfl, HBG.out⟩
end Go.Proofs.YtlfdgkiliegaiaaGreatDoor

/- A world for the witness of package grid's laws: the settled one, with what the row lists. -/
namespace Go.Proofs.YtlfdgkiliegaiaaGreatDoor
open Go.ChangeShapes Go.WideShapes Go.ChangeAt Go.RowKit

set_option linter.unusedVariables false
def litValG : DataW Unit → Value
  | .lit (.int k z) => .int k z
  | _ => undef
def datCellsG : DataW Unit → Array Value
  | .agg l => (l.map litValG).toArray
  | _ => #[]
def rowCellsG : DataW Unit → List Value
  | .agg l => l.map litValG
  | _ => []
/-- The ranges of a table that is listed. -/
def tabCellsG : DataW Unit → Array Value
  | .ptr (.agg (.slice l _ :: _)) => (l.flatMap rowCellsG).toArray
  | _ => #[]
def laidInG (heap : Array Obj) (g : Nat) (d : DataW Unit) : Array Obj := heap.modify g fun
  | .cells _ t frozen => .cells (datCellsG d) t frozen
  | o => o
def laidPtrG (heap : Array Obj) (g : Nat) (d : DataW Unit) : Array Obj :=
  ((heap.modify g fun
    | .cells _ t frozen => .cells #[.pointer (some ⟨heap.size, 0, none⟩)] t frozen
    | o => o).push (.cells #[.slice (some ⟨heap.size + 1, 0, none⟩) ((tabCellsG d).size / 3) ((tabCellsG d).size / 3), .slice none 0 0, .int .i64 2] 243 (0, 0))).push (.cells (tabCellsG d) 246 (0, 0))
noncomputable def laidWorldG (os : Os) (args : Array Value) : World :=
  { World.holding Tryz.prog os ⟨#[], args, []⟩ with heap := laidPtrG (laidInG (laidInG (laidInG (laidInG (World.holding Tryz.prog os ⟨#[], args, []⟩).heap 2 Rows.laid_internal_strconv_uint64pow10) 3 Rows.laid_math_bits_deBruijn32tab) 4 Rows.laid_math_bits_deBruijn64tab) 0 Rows.laid_strings_asciiSpace) 1 Rows.laid_unicode_White_Space }
end Go.Proofs.YtlfdgkiliegaiaaGreatDoor

/- What the rows' list of variables gives: the tables that style.Name reads. -/
namespace Go.Proofs.YtlfdgkiliegaiaaGreatDoor
open Go.ChangeShapes Go.WideShapes Go.ChangeAt Go.RowKit

theorem gPow : Tryz.prog.globalNamed "internal/strconv.uint64pow10" = some 2 := by kernel_rfl
theorem gPowType : (Tryz.prog.globals[2]?).map (·.type) = some 251 := by kernel_rfl
theorem gSp : Tryz.prog.globalNamed "strings.asciiSpace" = some 0 := by kernel_rfl
theorem gSpType : (Tryz.prog.globals[0]?).map (·.type) = some 192 := by kernel_rfl
theorem gDb : Tryz.prog.globalNamed "math/bits.deBruijn64tab" = some 4 := by kernel_rfl
theorem gDbType : (Tryz.prog.globals[4]?).map (·.type) = some 264 := by kernel_rfl
theorem cellsPow : Tryz.prog.cellsOf 251 = 20 := by kernel_rfl
theorem cellsSp : Tryz.prog.cellsOf 192 = 256 := by kernel_rfl
theorem cellsDb : Tryz.prog.cellsOf 264 = 64 := by kernel_rfl
theorem cellsU64T : Tryz.prog.cellsOf 224 = 1 := by kernel_rfl
theorem cellsU8T : Tryz.prog.cellsOf 5 = 1 := by kernel_rfl
def litInt : DataW Unit → Int
  | .lit (.int _ z) => z
  | _ => 0
def aggInts : DataW Unit → List Int
  | .agg l => l.map litInt
  | _ => []
def dbTab : List Int := aggInts Rows.laid_math_bits_deBruijn64tab
theorem powData_eq : (Rows.laid_internal_strconv_uint64pow10 : DataW Unit) = Lib.tabData .u64 Lib.pow10Tab := by kernel_rfl
theorem spData_eq : (Rows.laid_strings_asciiSpace : DataW Unit) = Lib.tabData .u8 Lib.asciiSpaceTab := by kernel_rfl
theorem dbData_eq : (Rows.laid_math_bits_deBruijn64tab : DataW Unit) = Lib.tabData .u8 dbTab := by kernel_rfl
theorem dbTab_at : dbTab.length = 64 ∧ dbTab.getD 15 0 = 4 := by decide +kernel
theorem tabs_of {W : World} (h : laidMetH Tryz.prog [("math/bits.deBruijn32tab", Rows.laid_math_bits_deBruijn32tab), ("math/bits.deBruijn64tab", Rows.laid_math_bits_deBruijn64tab), ("internal/strconv.uint64pow10", Rows.laid_internal_strconv_uint64pow10), ("unicode.White_Space", Rows.laid_unicode_White_Space), ("strings.asciiSpace", Rows.laid_strings_asciiSpace)] W) : Tabs W := by
  have h' : laidMet Tryz.prog [("math/bits.deBruijn32tab", Rows.laid_math_bits_deBruijn32tab), ("math/bits.deBruijn64tab", Rows.laid_math_bits_deBruijn64tab), ("internal/strconv.uint64pow10", Rows.laid_internal_strconv_uint64pow10), ("unicode.White_Space", Rows.laid_unicode_White_Space), ("strings.asciiSpace", Rows.laid_strings_asciiSpace)] W := h
  obtain ⟨_, ⟨_, _, _, _, _, _, _, _, _, _, r1, _⟩, _⟩ := h'
  obtain ⟨g1, t1, cs1, fu1, p1, q1, hg1, ht1, hv1, hd1, r2, _⟩ := r1
  obtain ⟨g2, t2, cs2, fu2, p2, q2, hg2, ht2, hv2, hd2, r3, _⟩ := r2
  obtain ⟨_, _, _, _, _, _, _, _, _, _, r4, _⟩ := r3
  obtain ⟨g4, t4, cs4, fu4, p4, q4, hg4, ht4, hv4, hd4, _, _⟩ := r4
  obtain rfl := Option.some.inj (gDb.symm.trans hg1)
  obtain rfl := Option.some.inj (gDbType.symm.trans ht1)
  obtain rfl := Option.some.inj (gPow.symm.trans hg2)
  obtain rfl := Option.some.inj (gPowType.symm.trans ht2)
  obtain rfl := Option.some.inj (gSp.symm.trans hg4)
  obtain rfl := Option.some.inj (gSpType.symm.trans ht4)
  rw [dbData_eq] at hd1
  rw [powData_eq] at hd2
  rw [spData_eq] at hd4
  have hdb : Lib.TabIs Tryz.prog W "math/bits.deBruijn64tab" .u8 dbTab := by
    unfold Lib.TabIs
    rw [hv1, ← Lib.cells_of_tab Tryz.underlying264 Tryz.underlying5 cellsU8T cellsDb hd1]
  refine ⟨Lib.tabBelow_of_tabIs ?_, Lib.tabBelow_of_tabIs ?_, fun w' hb => ?_⟩
  · unfold Lib.TabIs
    rw [hv4, ← Lib.cells_of_tab Tryz.underlying192 Tryz.underlying5 cellsU8T cellsSp hd4]
  · unfold Lib.TabIs
    rw [hv2, ← Lib.cells_of_tab Tryz.underlying251 Tryz.underlying224 cellsU64T cellsPow hd2]
  · have h5 := (Lib.tabBelow_of_tabIs hdb w' hb).cell gDb 15 (by rw [dbTab_at.1]; decide)
    rw [dbTab_at.2] at h5
    exact h5
end Go.Proofs.YtlfdgkiliegaiaaGreatDoor

/- Arguments that are a style, opened. -/
namespace Go.Proofs.YtlfdgkiliegaiaaGreatDoor
open Go.ChangeShapes Go.WideShapes Go.ChangeAt Go.RowKit Go.ChangeMaps

set_option maxRecDepth 1000000 in
theorem open_sty_arg {H : Type} {enc : TypeId × Value → H} {W : World} {r : Reach} {base : Nat} {v : Value} {d : DataW H} {ps : List MemPlace} (hval : Value.okWide Tryz.prog W r base 35 v)
    (hd : DataW.Trod enc Tryz.prog W 0 (fun _ => true) true 35 v d ps) : ∃ s : Sty, v = s.val ∧ I64 s.fg ∧ I64 s.bg ∧ I64 s.attr := by
  obtain ⟨cs, e0, hsz⟩ := okWide_struct Tryz.underlying35 hval
  clear hsz hval
  subst e0
  obtain ⟨fuel, hf⟩ := hd
  obtain ⟨s, e, h⟩ := open_style hf
  refine ⟨s, ?_, h⟩
  have e' : cs.toList = s.vals := e
  unfold Sty.val
  congr 1
  exact Array.toList_inj.1 e'
end Go.Proofs.YtlfdgkiliegaiaaGreatDoor
