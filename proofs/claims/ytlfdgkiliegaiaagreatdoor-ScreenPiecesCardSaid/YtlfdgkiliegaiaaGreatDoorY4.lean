/- Texts laid together: A1 RegL G28 P2 P3 D1 V3 A4 A5. -/
import Derived.Test.YtlfdgkiliegaiaaGreatDoorY1
import Derived.Test.YtlfdgkiliegaiaaGreatDoorY2
import Derived.Test.YtlfdgkiliegaiaaGreatDoorRows
import Derived.WalkKit
import Derived.WalkSpells
import Derived.WalkLawsBesides
import Derived.BigQuiet
import Derived.Lib.Hide
import Derived.Deep.QuietTactic
import Derived.Deep.RegionHeld3
import Derived.Laws.ResultCell
import Derived.Deep.CutBlock
import Derived.Laws.EntriesVeiled
import Derived.Deep.DeepCutAuto
import Derived.Laws.StructEq
import Derived.Deep.DrawnRows
import Derived.Test.YtlfdgkiliegaiaaGreatDoorShelf
import Derived.Lib.Builder
import Derived.Lib.FrozenHead
import Derived.Lib.RuneBytes
import Derived.Lib.UnsafeStr
import Derived.Lib.SliceRun
import Derived.StillTailTactics
import Derived.Deep.RegionLaw
import Derived.Deep.AppendSrc
import Derived.Lib.AppendStr
import Derived.ArgAppend
import Derived.Laws.IdiomCopy
import Derived.Laws.IdiomStrings
import Derived.Deep.Upon
import Derived.Lib.AppendIntMem
import Derived.Lib.ItoaNum
import Derived.Laws.Cover4
import Derived.Lib.SlBytesConst
import Derived.Lib.ItoaLen
import Derived.Lib.OthersKept
import Derived.Deep.LoopGhost
set_option linter.unusedVariables false
namespace Go.Proofs.YtlfdgkiliegaiaaGreatDoor
section
open Go.RowKit
def inR (r : Int) (l : List (Int × Int)) : Bool := l.any fun x => decide (x.1 ≤ r) && decide (r ≤ x.2)
theorem zmY (r : Int) (l : List (Int × Int)) (k : Nat) (h : k < l.length) :
  inR r (l.take (k + 1)) = (inR r (l.take k) || (decide ((l.getD k (0, 0)).1 ≤ r) && decide (r ≤ (l.getD k (0, 0)).2))) := by
 rw [Zx l (0, 0) k h]; simp [inR, List.any_append]
theorem znV (r : Int) (l : List (Int × Int)) (k : Nat) (h : k < l.length) (h1 : (l.getD k (0, 0)).1 ≤ r) (h2 : r ≤ (l.getD k (0, 0)).2) : inR r l = true := by
 rw [inR, List.any_eq_true];refine ⟨l.getD k (0, 0), ?_, by rw [decide_eq_true h1, decide_eq_true h2]; rfl⟩;rw [List.getD_eq_getElem?_getD, List.getElem?_eq_getElem h]; exact List.getElem_mem h
set_option maxHeartbeats 400000 in
theorem zdV (r : Int) (b n : Nat) (l : List (Int × Int)) (w : World) (hn : n ≤ 100) (hl : l.length = n)
  (hc : ∀ i, i < n → w.cell? ⟨b, i * 2, none⟩ = some (.int .i32 (l.getD i (0, 0)).1) ∧ w.cell? ⟨b, i * 2 + 1, none⟩ = some (.int .i32 (l.getD i (0, 0)).2)) :
  Calls Tryz.prog 117 #[.int .i32 r, .slice (some ⟨b, 0, none⟩) n n] w fun e w' => e = .returned (.bool (inR r l)) ∧ Below w.heap.size w w' := by
 have HL := Lib.hid hl;have HC := Lib.hid hc;clear hl hc;go_enter Tryz.func117, Tryz.ntmps117
 go_wp2
 go_loopw [9] (fun i wr => ∃ k : Nat, k ≤ n ∧ i = .int .i64 k ∧ Below w.heap.size w wr ∧ inR r (l.take k) = false) (fun i _ => n - (intOf i).toNat)
 case atStart => exact ⟨0, by omega, rfl, Below.refl _ _, rfl⟩
 case round =>
  obtain ⟨k, hk, rfl, hb, hno⟩ := hrel;have HB := Lib.hid hb;have HNO := Lib.hid hno;clear hb hno;by_cases hlt : k < n
  ·obtain ⟨c1, c2⟩ := HC.out k hlt;generalize hx : (l.getD k (0, 0)).1 = x at c1;generalize hy : (l.getD k (0, 0)).2 = y at c2;have HX := Lib.hid hx;have HY := Lib.hid hy;clear hx hy;rw [← HB.out.cell (p := ⟨b, k * 2, none⟩) (World.block_lt_of_cell? w _ c1)] at c1;rw [← HB.out.cell (p := ⟨b, k * 2 + 1, none⟩) (World.block_lt_of_cell? w _ c2)] at c2;have hkl : k < l.length := by rw [HL.out]; exact hlt
   go_wp2
   ·go_ret;exact ⟨ZU (znV r l k hkl (by rw [HX.out]; assumption) (by rw [HY.out]; assumption)).symm, HB.out.alloc HB.out.size _⟩
   all_goals
    refine ⟨⟨k + 1, by omega, by go_num, HB.out.alloc HB.out.size _, ?_⟩, by simp [intOf]; omega⟩;rw [zmY r l k hkl, HNO.out, HX.out, HY.out];simp; omega
  ·go_wp2
   go_ret;refine ⟨ZU ?_, HB.out⟩;have := HNO.out;rw [List.take_of_length_le (by have := HL.out; omega)] at this;exact this.symm
def zgQ : List (Int × Int) → List Value
 | [] => []
 | x :: l => .int .i32 x.1 :: .int .i32 x.2 :: zgQ l
theorem zgR : ∀ (l : List (Int × Int)) (i : Nat), i < l.length → (zgQ l)[i * 2]? = some (.int .i32 (l.getD i (0, 0)).1) ∧ (zgQ l)[i * 2 + 1]? = some (.int .i32 (l.getD i (0, 0)).2)
 | x :: l, 0, _ => by simp [zgQ]
 | x :: l, i + 1, h => by
  have := zgR l i (by simpa using h);rw [show (i + 1) * 2 = (i * 2) + 1 + 1 from by omega];simpa [zgQ] using this
theorem zdW (w : World) (T n : Nat) (l : List (Int × Int)) (A : Array Value) (hA : A = (zgQ l).toArray) (hn : n = l.length) : ∀ i, i < n →
  (w.alloc (.cells A T)).cell? ⟨w.heap.size, i * 2, none⟩ = some (.int .i32 (l.getD i (0, 0)).1) ∧ (w.alloc (.cells A T)).cell? ⟨w.heap.size, i * 2 + 1, none⟩ = some (.int .i32 (l.getD i (0, 0)).2) := by
 intro i hi;subst hA hn;have := zgR l i hi;rw [World.cell?_alloc_new, World.cell?_alloc_new];simpa using this
def ctl : List (Int × Int) := [(127, 159)]
def zoX : List (Int × Int) := [(768, 879), (8203, 8207), (65024, 65039)]
def zoY : List (Int × Int) := [(4352, 4447), (11904, 12350), (12353, 19903), (19968, 42191), (44032, 55203), (63744, 64255), (65072, 65135), (65280, 65376), (65504, 65510), (127744, 128591), (129280, 129535), (131072, 262141)]
def wid (r : Int) : Int := if r < 32 ∨ 1114111 < r ∨ inR r ctl = true then -1 else if inR r zoX = true then 0 else if inR r zoY = true then 2 else 1
set_option maxHeartbeats 1000000 in
theorem zcv (r : Int) (w : World) :
  Calls Tryz.prog 77 #[.int .i32 r] w fun e w' => e = .returned (.int .i64 (wid r)) ∧ Below w.heap.size w w' := by
 by_cases h1 : r < 32
 ·go_enter Tryz.func77, Tryz.ntmps77
  go_wp2
  go_ret;exact ⟨Z9 (by simp [wid, h1]), Below.refl _ _⟩
 by_cases h2 : 1114111 < r
 ·go_enter Tryz.func77, Tryz.ntmps77
  go_wp2
  go_ret;exact ⟨Z9 (by simp [wid, h2]), Below.refl _ _⟩
 go_enter Tryz.func77, Tryz.ntmps77;go_wp2_with fail;refine (zdV r _ _ ctl _ (by decide) rfl (zdW _ _ _ _ _ rfl rfl)).mono ?_;rintro e w1 ⟨rfl, hb1⟩;have Hb1 := Lib.hid (((Below.refl w.heap.size w).alloc (Nat.le_refl _) _).trans (hb1.mono (by simp)));clear hb1;go_wp2_with fail
 ·go_ret;exact ⟨Z9 (by simp [wid, *]), Hb1.out⟩
 refine (zdV r _ _ zoX _ (by decide) rfl (zdW _ _ _ _ _ rfl rfl)).mono ?_;rintro e w2 ⟨rfl, hb1⟩;have Hb2 := Lib.hid ((Hb1.out.alloc Hb1.out.size _).trans (hb1.mono (by have := Hb1.out.size; simp; omega)));clear hb1;go_wp2_with fail
 ·go_ret;exact ⟨Z9 (by simp [wid, *]), Hb2.out⟩
 refine (zdV r _ _ zoY _ (by decide) rfl (zdW _ _ _ _ _ rfl rfl)).mono ?_;rintro e w3 ⟨rfl, hb1⟩;have Hb3 := Lib.hid ((Hb2.out.alloc Hb2.out.size _).trans (hb1.mono (by have := Hb2.out.size; simp; omega)));clear hb1;go_wp2_with fail
 all_goals
  go_ret;exact ⟨Z9 (by simp [wid, *]), Hb3.out⟩
def zoZ (r : Int) : Int := max (wid r) 0
end
section
open Go
section
variable {P : Program} {ops : Array Oper} {Q : Exit → Act → World → Prop} {md : Region.Mode} {c : Nat} {S : Bool → World → Prop}
def upC (c : Nat) (listed : Array Bool) : Bool := listed.getD c false
def wpL (P : Program) (md : Region.Mode) (ops : Array Oper) (Q : Exit → Act → World → Prop) (c : Nat) (S : Bool → World → Prop) : Nat → Array Bool → Act → World → Prop
 | 0, listed, a, w => Region.ready md ops listed = [] ∧ Q .normal a w
 | n + 1, listed, a, w => (Region.ready md ops listed = [] → Q .normal a w) ∧
  (∀ i ∈ Region.ready md ops listed, wpOp P ops Q i (fun a2 w2 => S (upC c (listed.setIfInBounds i true)) w2 ∧ wpL P md ops Q c S n (listed.setIfInBounds i true) a2 w2) a w)
theorem zj9 : ∀ (n : Nat) (listed : Array Bool) (a : Act) (w : World), wpL P md ops Q c S n listed a w → wpAny P md ops Q n listed a w
 | 0, _, _, _, h => h
 | n + 1, _, _, _, h => ⟨h.1, fun i hi => wpOp_mono (fun a2 w2 h2 => zj9 n _ a2 w2 h2.2) (h.2 i hi)⟩
theorem Zl {id : Nat} {a : Act} {w : World} (hm : P.follows .mixedOrders = true) (hS : S false w.drew) (h : S false w.drew → wpL P .any ops Q c S ops.size (Array.replicate ops.size false) a w.drew) : (Code.region id ops true).wp P Q a w :=
 wp_region_any hm (zj9 _ _ _ _ (h hS))
theorem Zh {listed : Array Bool} {a : Act} {w : World} (hr : Region.ready md ops listed = []) (h : Q .normal a w) : ∀ n, wpL P md ops Q c S n listed a w
 | 0 => ⟨hr, h⟩
 | _ + 1 => ⟨fun _ => h, by rw [hr]; simp⟩
theorem zgS {i : Nat} {oi : Oper} {v : Value} {dep : Bool} (hi : ops[i]? = some oi) (hsel : ∀ (j : Nat) (o : Oper) cs b, ops[j]? = some o → o.op ≠ .select cs b)
  (hQ : ∀ k a w, Q (.panic k) (a.put oi.dst v) w → Q (.panic k) a w) (hic : i ≠ c)
  (hdep : dep = true → ∃ oc, ops[c]? = some oc ∧ ∃ e ∈ oc.after, Region.binds md e = true ∧ e.on = i) :
  ∀ (n : Nat) (listed : Array Bool) (a : Act) (w : World),
   (∀ j oj, ops[j]? = some oj → j ≠ i → listed.getD j true = false → (∀ e ∈ oj.after, Region.binds md e = true → e.on ≠ i) → oi.apart ops oj = true) →
   i ∈ Region.ready md ops listed → (dep = true → upC c listed = false) → YieldsIf P ops (fun w => ∃ b, S b w ∧ (dep = true → b = false)) oi v a → S (upC c listed) w →
   wpL P md ops Q c S n (listed.setIfInBounds i true) (a.put oi.dst v) w → wpL P md ops Q c S (n + 1) listed a w := by
 have hset : ∀ listed : Array Bool, upC c (listed.setIfInBounds i true) = upC c listed := fun listed => getD_set_ne false hic;intro n
 induction n with
 | zero =>
  intro listed a w _ hr hd hy hS H;refine ⟨fun h => (by rw [h] at hr; cases hr), fun j hj => ?_⟩;by_cases hji : j = i
  ·subst hji;exact hy.wpOp hi ⟨_, hS, hd⟩ ⟨by rw [hset]; exact hS, H⟩
  ·have := ready_mono hj hji;rw [H.1] at this;cases this
 | succ n ih =>
  intro listed a w hfree hr hd hy hS H;refine ⟨fun h => (by rw [h] at hr; cases hr), fun j hj => ?_⟩;by_cases hji : j = i
  ·subst hji;exact hy.wpOp hi ⟨_, hS, hd⟩ ⟨by rw [hset]; exact hS, H⟩
  ·have h1 := H.2 j (ready_mono hj hji);obtain ⟨hjun, oj, hoj, hall⟩ := mem_ready.1 hj;have hnot : ∀ e ∈ oj.after, Region.binds md e = true → e.on ≠ i := fun e he hb heq => by
    have h1 := hall e he hb;have h0 := (mem_ready.1 hr).1;rw [heq] at h1;rcases Nat.lt_or_ge i listed.size with h2 | h2
    ·simp [h2] at h0 h1; rw [h0] at h1; cases h1
    ·simp [Array.getElem?_eq_none h2] at h1
   have h2 := wpOp_putIf hoj (hfree j oj hoj hji hjun hnot) (fun cs b => hsel i oi cs b hi) (fun cs b => hsel j oj cs b hoj) hQ hy h1;have hfree2 : ∀ k ok, ops[k]? = some ok → k ≠ i → (listed.setIfInBounds j true).getD k true = false →
     (∀ e ∈ ok.after, Region.binds md e = true → e.on ≠ i) → oi.apart ops ok = true := fun k ok hk hki hun hno => by
    refine hfree k ok hk hki ?_ hno;by_cases hjk : j = k
    ·subst hjk; exact hjun
    ·rw [getD_set_ne true hjk] at hun; exact hun
   have hd2 : dep = true → upC c (listed.setIfInBounds j true) = false := fun e => by
    have hjc : j ≠ c := fun hjc => by
     subst hjc;obtain ⟨oc, h3, e3, h4, h5, h6⟩ := hdep e;rw [hoj] at h3;injection h3 with h3;subst h3;exact hnot e3 h4 h5 h6
    unfold upC;rw [getD_set_ne false hjc];exact hd e
   refine wpOp_mono (fun a2 w2 h3 => ?_) h2;have hS2 : S (upC c (listed.setIfInBounds j true)) w2 := by
    have := h3.2.1;rw [Array.setIfInBounds_comm _ _ (Ne.symm hji), hset] at this;exact this
   refine ⟨hS2, ih (listed.setIfInBounds j true) a2 w2 hfree2 (ready_mono hr (Ne.symm hji)) hd2 h3.1 hS2 ?_⟩;rw [Array.setIfInBounds_comm _ _ hji];exact h3.2.2
theorem zmZ {i : Nat} {oi : Oper} {v : Value} {n : Nat} {listed : Array Bool} {a : Act} {w : World} {b : Bool} (hi : ops[i]? = some oi)
  (hs : Region.noSelect ops = true) (hf : Region.free md ops listed i = true) (hr : (Region.ready md ops listed).contains i = true) (hic : (i == c) = false)
  (hQ : ∀ k a w, Q (.panic k) (a.put oi.dst v) w → Q (.panic k) a w) (hb : upC c listed = b) (hS : S b w) (hy : YieldsIf P ops (fun w => ∃ b, S b w) oi v a)
  (h : wpL P md ops Q c S n (listed.setIfInBounds i true) (a.put oi.dst v) w) : wpL P md ops Q c S (n + 1) listed a w :=
 zgS (dep := false) hi (Region.noSelect_spec hs) hQ (by simpa using hic) (fun e => by cases e) n listed a w (Region.free_spec hi hf) (by simpa using hr) (fun e => by cases e)
  (hy.imp (fun ⟨hw, hv⟩ => ⟨hw, fun w ⟨b, hb, _⟩ => hv w ⟨b, hb⟩⟩) id) (by rw [hb]; exact hS) h
theorem zlt {i : Nat} {oi oc : Oper} {v : Value} {n : Nat} {listed : Array Bool} {a : Act} {w : World} (hi : ops[i]? = some oi) (hc : ops[c]? = some oc)
  (hd : (oc.after.any fun e => Region.binds md e && e.on == i) = true)
  (hs : Region.noSelect ops = true) (hf : Region.free md ops listed i = true) (hr : (Region.ready md ops listed).contains i = true) (hic : (i == c) = false)
  (hQ : ∀ k a w, Q (.panic k) (a.put oi.dst v) w → Q (.panic k) a w) (hb : upC c listed = false) (hS : S false w) (hy : YieldsIf P ops (S false) oi v a)
  (h : wpL P md ops Q c S n (listed.setIfInBounds i true) (a.put oi.dst v) w) : wpL P md ops Q c S (n + 1) listed a w :=
 zgS (dep := true) hi (Region.noSelect_spec hs) hQ (by simpa using hic) (fun _ => by
   rw [Array.any_eq_true'] at hd;obtain ⟨e, he, h2⟩ := hd;rw [Bool.and_eq_true] at h2;exact ⟨oc, hc, e, he, h2.1, by simpa using h2.2⟩) n listed a w (Region.free_spec hi hf) (by simpa using hr) (fun _ => hb)
  (hy.imp (fun ⟨hw, hv⟩ => ⟨hw, fun w ⟨b, h1, h2⟩ => hv w (by have := h2 rfl; subst this; exact h1)⟩) id) (by rw [hb]; exact hS) h
theorem znW {i : Nat} {o : Oper} {n : Nat} {listed : Array Bool} {a : Act} {w : World} {b : Bool} (hr : Region.ready md ops listed = [i]) (ho : ops[i]? = some o) (hb : upC c (listed.setIfInBounds i true) = b)
  (h : ∀ K : Act → World → Prop, Shut (∀ a w, S b w → (S b w → wpL P md ops Q c S n (listed.setIfInBounds i true) a w) → K a w) → if Region.wanted o (yielded ops a.tmps) = true then Oper.wp P o a w K Q else K (a.put o.dst undef) w) :
  wpL P md ops Q c S (n + 1) listed a w :=
 ⟨fun h0 => (by rw [hr] at h0; cases h0), fun j hj => by
  rw [hr, List.mem_singleton] at hj;subst hj;refine wpOp_step ho (fun K hK => h K (fun a w hS hW => hK a w ⟨?_, hW hS⟩));rw [hb]; exact hS⟩
theorem znX {i j : Nat} {oi oj : Oper} {n : Nat} {listed : Array Bool} {a : Act} {w : World} {b1 b2 : Bool} (hr : Region.ready md ops listed = [i, j]) (hi : ops[i]? = some oi) (hj : ops[j]? = some oj)
  (hb1 : upC c (listed.setIfInBounds i true) = b1) (hb2 : upC c (listed.setIfInBounds j true) = b2)
  (h1 : ∀ K : Act → World → Prop, Shut (∀ a w, S b1 w → (S b1 w → wpL P md ops Q c S n (listed.setIfInBounds i true) a w) → K a w) → if Region.wanted oi (yielded ops a.tmps) = true then Oper.wp P oi a w K Q else K (a.put oi.dst undef) w)
  (h2 : ∀ K : Act → World → Prop, Shut (∀ a w, S b2 w → (S b2 w → wpL P md ops Q c S n (listed.setIfInBounds j true) a w) → K a w) → if Region.wanted oj (yielded ops a.tmps) = true then Oper.wp P oj a w K Q else K (a.put oj.dst undef) w) :
  wpL P md ops Q c S (n + 1) listed a w :=
 ⟨fun h0 => (by rw [hr] at h0; cases h0), fun k hk => by
  rw [hr, List.mem_cons, List.mem_singleton] at hk;rcases hk with rfl | rfl
  ·refine wpOp_step hi (fun K hK => h1 K (fun a w hS hW => hK a w ⟨?_, hW hS⟩));rw [hb1]; exact hS
  ·refine wpOp_step hj (fun K hK => h2 K (fun a w hS hW => hK a w ⟨?_, hW hS⟩));rw [hb2]; exact hS⟩
theorem zd (b : Bool) (i : Nat) {oi : Oper} {v : Value} {n : Nat} {listed l' : Array Bool} {a a' : Act} {w : World} (hS : S b w) (h : wpL P md ops Q c S n l' a' w)
  (hi : ops[i]? = some oi := by (simp only [List.getElem?_toArray, List.getElem?_cons_succ, List.getElem?_cons_zero]; rfl))
  (hs : Region.noSelect ops = true := by kernel_rfl) (hf : Region.free md ops listed i = true := by kernel_rfl) (hr : (Region.ready md ops listed).contains i = true := by kernel_rfl)
  (hic : (i == c) = false := by rfl) (hb : upC c listed = b := by rfl) (hw : Region.wanted oi (yielded ops a.tmps) = true := by rfl)
  (hy : ∀ wS, (∃ b, S b wS) → (execOp a.eval oi).run P wS = .ok (.value v) wS := by (intro wS hSw; obtain ⟨hSb, hSw, hSx⟩ := hSw; clear hSx; go_simp; (try (with_reducible rfl))))
  (hQ : ∀ k a w, Q (.panic k) (a.put oi.dst v) w → Q (.panic k) a w := by exact fun _ _ _ h => h)
  (ha : a.put oi.dst v = a' := by ((try simp only [Act.put, List.setIfInBounds_toArray, List.set_cons_zero, List.set_cons_succ]) <;> rfl))
  (hl : listed.setIfInBounds i true = l' := by ((try simp only [List.setIfInBounds_toArray, List.set_cons_zero, List.set_cons_succ]) <;> rfl)) :
  wpL P md ops Q c S (n + 1) listed a w := by
 subst ha hl;exact zmZ hi hs hf hr hic hQ hb hS (Or.inl ⟨hw, hy⟩) h
theorem zht (i : Nat) {oi oc : Oper} {v : Value} {n : Nat} {listed l' : Array Bool} {a a' : Act} {w : World} (hS : S false w) (h : wpL P md ops Q c S n l' a' w)
  (hi : ops[i]? = some oi := by (simp only [List.getElem?_toArray, List.getElem?_cons_succ, List.getElem?_cons_zero]; rfl))
  (hc : ops[c]? = some oc := by (simp only [List.getElem?_toArray, List.getElem?_cons_succ, List.getElem?_cons_zero]; rfl))
  (hd : (oc.after.any fun e => Region.binds md e && e.on == i) = true := by kernel_rfl)
  (hs : Region.noSelect ops = true := by kernel_rfl) (hf : Region.free md ops listed i = true := by kernel_rfl) (hr : (Region.ready md ops listed).contains i = true := by kernel_rfl)
  (hic : (i == c) = false := by rfl) (hb : upC c listed = false := by rfl) (hw : Region.wanted oi (yielded ops a.tmps) = true := by rfl)
  (hy : ∀ wS, S false wS → (execOp a.eval oi).run P wS = .ok (.value v) wS := by (intro wS hSw; obtain ⟨hSw, hSx⟩ := hSw; have hSx := hSx rfl; go_simp; (try (with_reducible rfl))))
  (hQ : ∀ k a w, Q (.panic k) (a.put oi.dst v) w → Q (.panic k) a w := by exact fun _ _ _ h => h)
  (ha : a.put oi.dst v = a' := by ((try simp only [Act.put, List.setIfInBounds_toArray, List.set_cons_zero, List.set_cons_succ]) <;> rfl))
  (hl : listed.setIfInBounds i true = l' := by ((try simp only [List.setIfInBounds_toArray, List.set_cons_zero, List.set_cons_succ]) <;> rfl)) :
  wpL P md ops Q c S (n + 1) listed a w := by
 subst ha hl;exact zlt hi hc hd hs hf hr hic hQ hb hS (Or.inl ⟨hw, hy⟩) h
theorem zt (b : Bool) (i : Nat) {o : Oper} {n : Nat} {listed l' : Array Bool} {a : Act} {w : World}
  (h : ∀ K : Act → World → Prop, Shut (∀ a w, S b w → (S b w → wpL P md ops Q c S n l' a w) → K a w) → if Region.wanted o (yielded ops a.tmps) = true then Oper.wp P o a w K Q else K (a.put o.dst undef) w)
  (hr : Region.ready md ops listed = [i] := by kernel_rfl)
  (ho : ops[i]? = some o := by (simp only [List.getElem?_toArray, List.getElem?_cons_succ, List.getElem?_cons_zero]; rfl))
  (hl : listed.setIfInBounds i true = l' := by ((try simp only [List.setIfInBounds_toArray, List.set_cons_zero, List.set_cons_succ]) <;> rfl))
  (hb : upC c l' = b := by rfl) : wpL P md ops Q c S (n + 1) listed a w := by
 subst hl;exact znW hr ho hb h
theorem zhu (b1 b2 : Bool) (i j : Nat) {oi oj : Oper} {n : Nat} {listed l1 l2 : Array Bool} {a : Act} {w : World}
  (h1 : ∀ K : Act → World → Prop, Shut (∀ a w, S b1 w → (S b1 w → wpL P md ops Q c S n l1 a w) → K a w) → if Region.wanted oi (yielded ops a.tmps) = true then Oper.wp P oi a w K Q else K (a.put oi.dst undef) w)
  (h2 : ∀ K : Act → World → Prop, Shut (∀ a w, S b2 w → (S b2 w → wpL P md ops Q c S n l2 a w) → K a w) → if Region.wanted oj (yielded ops a.tmps) = true then Oper.wp P oj a w K Q else K (a.put oj.dst undef) w)
  (hr : Region.ready md ops listed = [i, j] := by kernel_rfl)
  (hi : ops[i]? = some oi := by (simp only [List.getElem?_toArray, List.getElem?_cons_succ, List.getElem?_cons_zero]; rfl))
  (hj : ops[j]? = some oj := by (simp only [List.getElem?_toArray, List.getElem?_cons_succ, List.getElem?_cons_zero]; rfl))
  (hl1 : listed.setIfInBounds i true = l1 := by ((try simp only [List.setIfInBounds_toArray, List.set_cons_zero, List.set_cons_succ]) <;> rfl))
  (hl2 : listed.setIfInBounds j true = l2 := by ((try simp only [List.setIfInBounds_toArray, List.set_cons_zero, List.set_cons_succ]) <;> rfl))
  (hb1 : upC c l1 = b1 := by rfl) (hb2 : upC c l2 = b2 := by rfl) : wpL P md ops Q c S (n + 1) listed a w := by
 subst hl1 hl2;exact znX hr hi hj hb1 hb2 h1 h2
theorem zi {ops : Array Oper} {o : Oper} {a : Act} {X E : Prop} (hg : o.guard = none) (h : X) : if Region.wanted o (yielded ops a.tmps) = true then X else E := by
 rw [if_pos (by simp [Region.wanted, hg])];exact h
end
end
section
open Go.RowKit
attribute [local go_sem ↓] Go.wp_at_zero Go.wp_at_succ
theorem zlu {la lb : List Cel} (k : Nat) (ha : k < la.length) (hb : k < lb.length) (h : la.take k = lb.take k) (e : la.getD k noC = lb.getD k noC) : la.take (k + 1) = lb.take (k + 1) := by
 rw [Zx la noC k ha, Zx lb noC k hb, h, e]
end
section
def cp (r : Int) : Nat := if Utf8.valid r then r.toNat else 65533
def zhv (r : Int) : List UInt8 := (Utf8.encode r).data.toList
theorem zlv (r : Int) : Utf8.valid r = true ↔ (0 ≤ r ∧ r < 55296) ∨ (57344 ≤ r ∧ r ≤ 1114111) := by
 unfold Utf8.valid; simp
theorem znY (r : Int) : zhv r =
  if cp r < 128 then [UInt8.ofNat (cp r)]
  else if cp r < 2048 then [UInt8.ofNat (192 + cp r / 64), UInt8.ofNat (128 + cp r % 64)]
  else if cp r < 65536 then [UInt8.ofNat (224 + cp r / 4096), UInt8.ofNat (128 + cp r / 64 % 64), UInt8.ofNat (128 + cp r % 64)]
  else [UInt8.ofNat (240 + cp r / 262144), UInt8.ofNat (128 + cp r / 4096 % 64), UInt8.ofNat (128 + cp r / 64 % 64), UInt8.ofNat (128 + cp r % 64)] := by
 unfold zhv Utf8.encode;have e : (if Utf8.valid r = true then r.toNat else Utf8.runeError) = cp r := rfl;simp only [e];by_cases h1 : cp r < 128
 ·rw [if_pos h1, if_pos h1]
 by_cases h2 : cp r < 2048
 ·rw [if_neg h1, if_neg h1, if_pos h2, if_pos h2]
 by_cases h3 : cp r < 65536
 ·rw [if_neg h1, if_neg h1, if_neg h2, if_neg h2, if_pos h3, if_pos h3]
 ·rw [if_neg h1, if_neg h1, if_neg h2, if_neg h2, if_neg h3, if_neg h3]
theorem zfj (n : Nat) (h : n < 256) : (UInt8.ofNat n).toNat = n := by simp; omega
theorem zoE (b : Int) (h : 194 ≤ b ∧ b ≤ 223) : Z8 b = (128, 191, 0) := by unfold Z8; rw [if_pos h]
theorem zoF (b : Int) (h : 224 ≤ b ∧ b ≤ 239) : Z8 b = (if b = 224 then 160 else 128, if b = 237 then 159 else 191, 1) := by
 unfold Z8; rw [if_neg (by omega)];by_cases c2 : b = 224
 ·subst c2; rfl
 by_cases c3 : b = 237
 ·subst c3; rfl
 rw [if_neg c2, if_neg c3, if_pos (by omega), if_neg c2, if_neg c3]
theorem zoG (b : Int) (h : 240 ≤ b ∧ b ≤ 244) : Z8 b = (if b = 240 then 144 else 128, if b = 244 then 143 else 191, 2) := by
 unfold Z8; rw [if_neg (by omega), if_neg (by omega), if_neg (by omega), if_neg (by omega)];by_cases c2 : b = 240
 ·subst c2; rfl
 by_cases c3 : b = 244
 ·subst c3; rfl
 rw [if_neg c2, if_pos (by omega), if_neg c2, if_neg c3]
theorem zo0 (b : Int) : zg7 b 0 = b % 32 := rfl
theorem zo1 (b : Int) : zg7 b 1 = b % 16 := rfl
theorem zo2 (b : Int) : zg7 b 2 = b % 8 := rfl
theorem zm0 (r : Int) : 1 ≤ (zhv r).length ∧ (zhv r).length ≤ 4 := by
 rw [znY]; repeat' split
 all_goals simp
def zaT (l : List Int) : List UInt8 := l.flatMap zhv
theorem zgT : ∀ (k : Nat) (r lo hi : Int) (t : List UInt8) (i : Nat), 0 ≤ r → 0 ≤ lo →
  (goT k r lo hi t i).1 = 65533 ∨ (0 ≤ (goT k r lo hi t i).1 ∧ (goT k r lo hi t i).1 ≤ r * 64 ^ k + (64 ^ k - 1) ∧ r * 64 ^ k ≤ (goT k r lo hi t i).1) ∨ (goT k r lo hi t i).1 = 0
 | 0, r, _, _, _, _, h, _ => .inr (.inl ⟨h, by simp [goT], by simp [goT]⟩)
 | _ + 1, _, _, _, [], _, _, _ => .inr (.inr rfl)
 | k + 1, r, lo, hi, b :: t, i, h, h' => by
  rw [goT];split
  ·exact .inl rfl
  ·rcases zgT k (r * 64 + (b.toNat : Int) % 64) 128 191 t (i + 1) (by omega) (by omega) with e | ⟨e1, e2, e3⟩ | e
   ·exact .inl e
   ·refine .inr (.inl ⟨e1, ?_, ?_⟩)
    ·rw [Int.pow_succ];have hp : (0 : Int) < 64 ^ k := Int.pow_pos (by decide);generalize (64 : Int) ^ k = q at *;have hm : (b.toNat : Int) % 64 ≤ 63 := (by omega);have := Int.mul_le_mul_of_nonneg_right hm (Int.le_of_lt hp);rw [Int.add_mul] at e2;have e4 : r * 64 * q = r * (q * 64) := (by rw [Int.mul_assoc, Int.mul_comm 64 q]);omega
    ·rw [Int.pow_succ];have hp : (0 : Int) < 64 ^ k := Int.pow_pos (by decide);generalize (64 : Int) ^ k = q at *;have hm : (0 : Int) ≤ (b.toNat : Int) % 64 := (by omega);have := Int.mul_le_mul_of_nonneg_right hm (Int.le_of_lt hp);rw [Int.add_mul] at e3;have e4 : r * 64 * q = r * (q * 64) := (by rw [Int.mul_assoc, Int.mul_comm 64 q]);omega
   ·exact .inr (.inr e)
theorem zdX (k : Nat) (r lo hi : Int) (t : List UInt8) (i : Nat) (h : 0 ≤ r) (hlo : 128 ≤ lo) (hhi : hi ≤ 191) :
  (goT (k + 1) r lo hi t i).1 = 65533 ∨ (goT (k + 1) r lo hi t i).1 = 0 ∨ ((r * 64 + (lo - 128)) * 64 ^ k ≤ (goT (k + 1) r lo hi t i).1 ∧ (goT (k + 1) r lo hi t i).1 ≤ (r * 64 + (hi - 128)) * 64 ^ k + (64 ^ k - 1)) := by
 cases t with
 | nil => exact .inr (.inl rfl)
 | cons b t =>
  rw [goT];split
  ·exact .inl rfl
  ·have hp : (0 : Int) < 64 ^ k := Int.pow_pos (by decide);rcases zgT k (r * 64 + (b.toNat : Int) % 64) 128 191 t (i + 1) (by omega) (by omega) with e | ⟨e1, e2, e3⟩ | e
   ·exact .inl e
   ·right; right;generalize (64 : Int) ^ k = q at *;have m1 : r * 64 + (lo - 128) ≤ r * 64 + (b.toNat : Int) % 64 := (by omega);have m2 : r * 64 + (b.toNat : Int) % 64 ≤ r * 64 + (hi - 128) := (by omega);have n1 := Int.mul_le_mul_of_nonneg_right m1 (Int.le_of_lt hp);have n2 := Int.mul_le_mul_of_nonneg_right m2 (Int.le_of_lt hp);omega
   ·exact .inr (.inl e)
theorem zir (l : List UInt8) : Utf8.valid (za5 l).1 = true := by
 rw [zlv];cases l with
 | nil => left; exact ⟨Int.le_refl _, by decide⟩
 | cons b t =>
  rw [zcA];split
  ·left; dsimp only; omega
  rename_i h1;split
  ·right; dsimp only; omega
  rename_i h2;have hb := b.toNat_lt;have hc : (194 ≤ (b.toNat : Int) ∧ (b.toNat : Int) ≤ 223) ∨ (224 ≤ (b.toNat : Int) ∧ (b.toNat : Int) ≤ 239) ∨ (240 ≤ (b.toNat : Int) ∧ (b.toNat : Int) ≤ 244) := by
   by_cases c1 : (194 ≤ (b.toNat : Int) ∧ (b.toNat : Int) ≤ 223)
   ·exact .inl c1
   by_cases c2 : (224 ≤ (b.toNat : Int) ∧ (b.toNat : Int) ≤ 239)
   ·exact .inr (.inl c2)
   by_cases c3 : (240 ≤ (b.toNat : Int) ∧ (b.toNat : Int) ≤ 244)
   ·exact .inr (.inr c3)
   ·exfalso; apply h2; unfold Z8;rw [if_neg c1, if_neg (by omega), if_neg (by omega), if_neg (by omega), if_neg (by omega), if_neg (by omega), if_neg (by omega)]; decide
  rcases hc with hc | hc | hc
  ·rw [zoE _ hc];dsimp only;rw [show (0 : Int).toNat + 1 = 0 + 1 from rfl, zo0];have hG := zdX 0 ((b.toNat : Int) % 32) 128 191 t 1 (by omega) (by omega) (by omega);generalize (goT (0 + 1) ((b.toNat : Int) % 32) 128 191 t 1).1 = G at *;omega
  ·rw [zoF _ hc];dsimp only;rw [show (1 : Int).toNat + 1 = 1 + 1 from rfl, zo1];have hG := zdX 1 ((b.toNat : Int) % 16) (if (b.toNat : Int) = 224 then 160 else 128) (if (b.toNat : Int) = 237 then 159 else 191) t 1 (by omega) (by split <;> omega) (by split <;> omega);generalize (goT (1 + 1) ((b.toNat : Int) % 16) (if (b.toNat : Int) = 224 then 160 else 128) (if (b.toNat : Int) = 237 then 159 else 191) t 1).1 = G at *;by_cases c3 : (b.toNat : Int) = 237
   ·rw [if_pos c3] at hG; split at hG <;> omega
   ·rw [if_neg c3] at hG; split at hG <;> omega
  ·rw [zoG _ hc];dsimp only;rw [show (2 : Int).toNat + 1 = 2 + 1 from rfl, zo2];have hG := zdX 2 ((b.toNat : Int) % 8) (if (b.toNat : Int) = 240 then 144 else 128) (if (b.toNat : Int) = 244 then 143 else 191) t 1 (by omega) (by split <;> omega) (by split <;> omega);generalize (goT (2 + 1) ((b.toNat : Int) % 8) (if (b.toNat : Int) = 240 then 144 else 128) (if (b.toNat : Int) = 244 then 143 else 191) t 1).1 = G at *;by_cases c3 : (b.toNat : Int) = 240
   ·rw [if_pos c3] at hG; split at hG <;> omega
   ·rw [if_neg c3] at hG; split at hG <;> omega
theorem zeo : ∀ (n : Nat) (l : List UInt8), ∀ r ∈ (zbs n l).1, Utf8.valid r = true
 | 0, _, r, h => by simp [zbs] at h
 | _ + 1, [], r, h => by simp [zbs] at h
 | n + 1, b :: t, r, h => by
  rw [zbs] at h;split at h
  ·simp at h
  ·rcases List.mem_cons.1 h with h | h
   ·rw [h]; exact zir _
   ·exact zeo n _ r h
theorem zis (l : List UInt8) : ∀ r ∈ zcW l, Utf8.valid r = true := by
 intro r h;rw [zmb, ziY] at h;rcases List.mem_append.1 h with h | h
 ·exact zeo _ _ r h
 ·split at h
  ·simp at h
  ·simp at h; rw [h]; decide
end
section
theorem zit (r : Int) (l : List Int) : zaT (r :: l) = zhv r ++ zaT l := by simp [zaT]
theorem zgm (l : List Int) : runesBytes l = ⟨(zaT l).toArray⟩ := by
 have : ∀ (l : List Int) (s : ByteArray), l.foldl (fun r n => r ++ Utf8.encode n) s = ⟨(s.data.toList ++ zaT l).toArray⟩ := by
  intro l
  induction l with
  | nil => intro s; simp [zaT]
  | cons r l ih =>
   intro s;rw [List.foldl_cons, ih];congr 1;rw [zit];simp [zhv]
 rw [runesBytes, this]; rfl
end
section
open Go.RowKit
theorem zgU (d : Dec) (b : Int) (hr : 0 ≤ d.r) (hh : d.hav = 0) (hm : 0 ≤ d.more) (hm4 : d.more ≤ 4) : (zY d b).1.ok := by
 unfold zY;split
 ·exact ⟨by simp [hh], by simp [hh]; omega, hm, hr, fun h => absurd hh h, fun h => absurd hh h, fun h => absurd hh h, fun h => absurd hh h⟩
 split
 ·exact ⟨by simp, by simp, by simp, by simp; omega, fun _ => by simp; omega, fun _ => by simp, fun _ => by simp, fun _ => by simp⟩
 split
 ·exact ⟨by simp, by simp, by simp, by simp; omega, fun _ => by simp; omega, fun _ => by simp, fun _ => by simp only []; split <;> omega, fun _ => by simp only []; split <;> omega⟩
 split
 ·exact ⟨by simp, by simp, by simp, by simp; omega, fun _ => by simp; omega, fun _ => by simp, fun _ => by simp only []; split <;> omega, fun _ => by simp only []; split <;> omega⟩
 ·exact ⟨by simp [hh], by simp [hh]; omega, hm, hr, fun h => absurd hh h, fun h => absurd hh h, fun h => absurd hh h, fun h => absurd hh h⟩
theorem ziu (d : Dec) (b : Int) (h0 : 0 ≤ b) (h1 : b ≤ 255) (hok : d.ok) : (Zg d b).1.ok := by
 have _ := h0; have _ := h1;have k0 := hok.h0; have k1 := hok.h1; have k2 := hok.m0; have k3 := hok.r0;unfold Zg;split
 ·rename_i h; exact zgU d b k3 h k2 (by omega)
 rename_i hh;have k4 := hok.r1 hh; have k5 := hok.m1 hh; have k6 := hok.lo hh; have k7 := hok.hi hh;split
 ·exact zgU _ b k3 rfl k2 (by simp only []; omega)
 rename_i hb;split
 ·rename_i hm;refine ⟨by simp only []; omega, by simp only []; omega, by simp only []; omega, by simp only []; omega, fun _ => ?_, fun _ => by simp only []; omega, fun _ => by simp, fun _ => by simp⟩;simp only [];have e : d.more.toNat = (d.more - 1).toNat + 1 := (by omega);rw [e, Int.pow_succ] at k4;have hcase : (d.more - 1).toNat = 1 ∨ (d.more - 1).toNat = 2 := (by omega);rcases hcase with h | h <;> rw [h] at k4 ⊢ <;> omega
 ·exact ⟨by simp, by simp only []; omega, by simp only []; omega, by simp only []; omega, fun h => absurd rfl h, fun h => absurd rfl h, fun h => absurd rfl h, fun h => absurd rfl h⟩
theorem zdy (b : UInt8) : (b.toNat : Int) ≤ 255 := by have := b.toNat_lt; omega
theorem zka : ∀ (l : List UInt8) (d : Dec), d.ok → (Zt d l).1.ok
 | [], _, h => h
 | b :: l, d, h => zka l _ (ziu d _ (by omega) (zdy b) h)
theorem zdz (d : Dec) (b : Int) : (Zg d b).2.length ≤ 2 := by
 unfold Zg
 repeat' split
 ·have := zdM d b; omega
 ·have := zdM { d with hav := 0 } b; simp; omega
 ·simp
 ·simp
theorem zep : ∀ (l : List UInt8) (d : Dec), (Zt d l).2.length ≤ 2 * l.length
 | [], _ => by simp [Zt]
 | b :: l, d => by
  have := zep l (Zg d b.toNat).1;have := zdz d b.toNat;simp [Zt]; omega
theorem zeq (d : Dec) : (zaA d).2.length ≤ 1 := by unfold zaA; split <;> simp
theorem zjw (s : ByteArray) : (zcW s.data.toList).length ≤ 2 * s.size + 1 := by
 have h1 := zep s.data.toList dec0;have h2 := zeq (Zt dec0 s.data.toList).1;have h3 : s.data.toList.length = s.size := (by simp);unfold zcW; rw [List.length_append]; omega
end
section
open Go.RowKit
def zf2 (r : Int) : Bool := decide (32 ≤ r) && (!(r == 127) && Lib.validRune r)
def ziv (b : UInt8) : Bool := decide ((b.toNat : Int) < 32) && (!((b.toNat : Int) == 24) && (!((b.toNat : Int) == 26) && !((b.toNat : Int) == 27)))
def ziw (inter : List UInt8) (b : UInt8) : Bool := Zr inter && (decide (48 ≤ (b.toNat : Int)) && (decide ((b.toNat : Int) ≤ 126) && (!inter.isEmpty || !zfg b.toNat)))
def zkb (t : List UInt8) : Bool := zcX t 32 255 && decide (t.length ≤ 1024)
def wrL (a : VAct) : List UInt8 :=
 if a.kind = 1 then cond (zf2 a.rune) (zhv a.rune) []
 else if a.kind = 2 then cond (ziv a.byte) [a.byte] []
 else if a.kind = 3 then cond (ziw a.inter.data.toList a.byte) (27 :: a.inter.data.toList ++ [a.byte]) []
 else if a.kind = 4 then cond (zaB a) ([27, 91] ++ zfx a) []
 else if a.kind = 5 then cond (zkb a.text.data.toList) ([27, 93] ++ a.text.data.toList ++ [7]) []
 else if a.kind = 6 then cond (zaB a && zkb a.text.data.toList) ([27, 80] ++ zfx a ++ a.text.data.toList ++ [27, 92]) []
 else []
theorem zgV : ∀ (l : List Int) (f : Bool), l.all zc4 = true → (Ze f l).length ≤ 22 * l.length
 | [], _, _ => by simp [Ze]
 | x :: l, f, h => by
  rw [List.all_cons, Bool.and_eq_true] at h;have h1 := zgV l true h.2;have hx := h.1;unfold zc4 at hx;rw [Bool.and_eq_true, decide_eq_true_eq, decide_eq_true_eq] at hx;have h2 := Lib.itoa_length_le x (by omega) (by omega);have h3 : (zhR f x).length ≤ 22 := by
   unfold zhR;rw [List.length_append];have e1 : (if f = true then [59] else [] : List UInt8).length ≤ 1 := (by cases f <;> decide);have e2 : (if 0 ≤ x then Lib.itoa x else []).length ≤ 21 := by
    by_cases h0 : 0 ≤ x
    ·rw [if_pos h0]; omega
    ·rw [if_neg h0]; simp
   omega
  rw [Ze, List.length_append, List.length_cons];omega
theorem zlw (l : List UInt8) : ∀ u ∈ zk l, u.oneCell' = true := by
 intro u hu;unfold zk at hu;rw [List.mem_map] at hu;obtain ⟨b, _, rfl⟩ := hu;rfl
theorem zf3 (w : World) (C : Array Value) (n c : Nat) : (convert 38 38 (.slice (some ⟨w.heap.size, 0, none⟩) n c)).run Tryz.prog (w.alloc (.cells C 5)) = .ok (.slice (some ⟨w.heap.size, 0, none⟩) n c) (w.alloc (.cells C 5 (C.size, C.size + 1))) :=
 Lib.run_convert_bytes_const (P := Tryz.prog) w 38 5 C n c Tryz.underlying38 Tryz.underlying5
theorem zjx (w : World) (T : TypeId) (l : List UInt8) (C : Array Value) (hC : C.toList = zk l) (hm : l.length ≤ maxLen) : zn (w.alloc (.cells C T (C.size, C.size + 1))) w.heap.size 1 (.slice (some ⟨w.heap.size, 0, none⟩) l.length l.length) l.length (zk l) := by
 have hs : C.size = l.length := (by rw [← Array.length_toList, hC, zaN]);refine ⟨by rw [zaN, Nat.mul_one], .inr ⟨w.heap.size, 0, _, rfl, Nat.le_refl _, by simp, Nat.le_refl _, hm, ?_, ?_⟩⟩
 ·intro j hj;rw [Nat.zero_add, World.cell?_alloc_mark w C T (C.size, C.size + 1) j, World.frozen?_alloc_mark w C T C.size (C.size + 1) j, Array.getElem?_eq_getElem (by omega)];simp; omega
 ·intro j u hu;rw [Nat.zero_add, World.cell?_alloc_mark w C T (C.size, C.size + 1) j, ← Array.getElem?_toList, hC];exact hu
section
variable (kind rune : Int) (byte : UInt8) (params : List Int) (inter text : ByteArray) (vp : Value) (w : World)
theorem zix {w : World} {base : Nat} {v : Value} {s : ByteArray} {l : List UInt8} (h : zn w base 1 v s.size (s.data.toList.map fun b => Value.int .u8 (b.toNat : Int))) (e : s.data.toList = l) : zn w base 1 v l.length (zk l) := by
 subst e;rw [Array.length_toList]; exact h
end
end
section
open Go.RowKit
set_option maxHeartbeats 1000000 in
theorem zlx (s : ByteArray) (w : World) (hs : s.size ≤ 1099511627776) :
  Calls Tryz.prog 169 #[.string s] w fun e w' => ∃ v, e = .returned v ∧
   w'.ownsRow w.heap.size 21 1 v (zcW s.data.toList).length ((zcW s.data.toList).map (Value.int .i32)) ∧ Below w.heap.size w w' := by
 go_enter Tryz.func169, Tryz.ntmps169;go_wp2_with fail;refine (zcC _).mono ?_;rintro e w1 ⟨rfl, rfl⟩;go_wp2_with fail
 go_loopw [3, 9] (fun v i wr => ∃ k : Nat, k ≤ s.size ∧ i = .int .i64 k ∧ Below w.heap.size w wr ∧ w.heap.size < wr.heap.size ∧ zbX wr w.heap.size (Zt dec0 (s.data.toList.take k)).1 ∧
  wr.ownsRow (w.heap.size + 1) 21 1 v (Zt dec0 (s.data.toList.take k)).2.length ((Zt dec0 (s.data.toList.take k)).2.map (Value.int .i32))) (fun _ i _ => s.size - (intOf i).toNat)
 case atStart => exact ⟨0, by omega, rfl, (Below.refl _ _).alloc (Nat.le_refl _) _, by simp, heap_alloc_new _ _, World.ownsRow_nil _ _ _ _⟩
 case round =>
  obtain ⟨k, hk, rfl, hb, hsz, hd, hown⟩ := hrel;have HB := Lib.hid hb;have HD := Lib.hid hd;have HO := Lib.hid hown;clear hb hd hown;by_cases hlt : k < s.size
  ·have hlt' : k < s.data.toList.length := (by simpa using hlt);have hsnoc := Zx s.data.toList 0 k hlt';have Hrun := Lib.hid (zkw (s.data.toList.take k) (s.data.toList.getD k 0) dec0);rw [← hsnoc] at Hrun;clear hsnoc;have hok := Lib.hid (zka (s.data.toList.take k) dec0 zg8);have hlen := zep (s.data.toList.take k) dec0;have hbyte : s.data.toList.getD k 0 = s[k] := by
    rw [List.getD_eq_getElem?_getD, List.getElem?_eq_getElem hlt']; rfl
   rw [hbyte] at Hrun;clear hbyte;generalize Zt dec0 (s.data.toList.take k) = D at *;obtain ⟨D, out⟩ := D;dsimp only at HD HO hok hlen Hrun;go_wp2_with fail;refine (zhP _ D s[k].toNat _ HD.out (by omega) (zdy _) hok.out).mono ?_;rintro e w2 ⟨v2, rfl, h2, h3, h4⟩;have H2 := Lib.hid h2;have H3 := Lib.hid h3;have H4 := Lib.hid h4;clear h2 h3 h4;go_wp2_with (at_builtin; refine zaz ?_);unfold zay;have h5 := H3.out.size;have h6 := zdz D s[k].toNat;have h7 : (List.take k s.data.toList).length ≤ k := List.length_take_le _ _;have HO2 := Lib.hid (HO.out.kept H3.out (by
    rcases HO.out.2 with ⟨hv, _⟩ | ⟨g, cap, cur, hv, hg, _⟩
    ·left; rw [hv]; rfl
    ·right; rw [hv]; simp only [Value.ownBlock, ne_eq, Option.some.injEq]; omega))
   refine zbE zcB rfl rfl (w.heap.size + 1) HO2.out rfl (zdj H2.out) rfl (ints_oneCell _ _) (by unfold maxLen; omega) (by omega) (by omega) ?_;intro v' w3 g1 g2;have hv := HO2.out.lt;have G1 := Lib.hid g1;have G2 := Lib.hid g2;have HV := Lib.hid hv;clear g1 g2 hv;go_wp2_with fail;go_roundw
   case rel =>
    have gsz := G2.out.size;refine ⟨k + 1, by omega, by go_num, ?_, by omega, ?_, ?_⟩
    ·exact (HB.out.trans (ZW H3.out (by omega) (by intro q hq; injection hq; omega))).trans (ZW G2.out (by omega) (fun q hq => by have := (HV.out q hq).1; omega))
    ·rw [Hrun.out];exact zo (o := .cells _ 214 (0, 0)) H4.out G2.out (fun e => by have := (HV.out _ e.symm).1; omega)
    ·rw [Hrun.out, List.length_append, List.map_append];exact G1.out
   case measure => simp [intOf]; omega
  ·have hk' : k = s.size := (by omega);have Hk := Lib.hid (show List.take k s.data.toList = s.data.toList by rw [hk', List.take_of_length_le (by simp)]);have hlen := zep (s.data.toList.take k) dec0;rw [Hk.out] at HD HO hlen;clear Hk hk';have Hrun := Lib.hid (show zcW s.data.toList = (Zt dec0 s.data.toList).2 ++ (zaA (Zt dec0 s.data.toList).1).2 from rfl);generalize Zt dec0 s.data.toList = D at *;obtain ⟨D, out⟩ := D;dsimp only at HD HO hlen Hrun;go_wp2_with fail;refine (zjQ _ D _ HD.out).mono ?_;rintro e w2 ⟨v2, rfl, h2, h3, h4⟩;have H2 := Lib.hid h2;have H3 := Lib.hid h3;clear h2 h3 h4;go_wp2_with (at_builtin; refine zaz ?_);unfold zay;have h5 := H3.out.size;have h6 := zeq D;have h7 : s.data.toList.length = s.size := (by simp);have HO2 := Lib.hid (HO.out.kept H3.out (by
    rcases HO.out.2 with ⟨hv, _⟩ | ⟨g, cap, cur, hv, hg, _⟩
    ·left; rw [hv]; rfl
    ·right; rw [hv]; simp only [Value.ownBlock, ne_eq, Option.some.injEq]; omega))
   refine zbE zcB rfl rfl (w.heap.size + 1) HO2.out rfl (zdj H2.out) rfl (ints_oneCell _ _) (by unfold maxLen; omega) (by omega) (by omega) ?_;intro v' w3 g1 g2;have hv := HO2.out.lt;have G1 := Lib.hid g1;have G2 := Lib.hid g2;have HV := Lib.hid hv;clear g1 g2 hv h7;go_wp2_with fail;refine zT rfl rfl rfl ⟨v', rfl, ?_, ?_⟩
   ·rw [Hrun.out, List.length_append, List.map_append];exact zhN G1.out (by omega)
   ·exact (HB.out.trans (ZW H3.out (by omega) (by intro q hq; injection hq; omega))).trans (ZW G2.out (by omega) (fun q hq => by have := (HV.out q hq).1; omega))
end
section
open Go.RowKit
def cols (l : List Int) : Int := (l.map zoZ).sum
theorem zly (r : Int) : -1 ≤ wid r ∧ wid r ≤ 2 := by
 unfold wid; repeat' split
 all_goals omega
theorem ziy (l : List Int) (k : Nat) (hk : k < l.length) : l.getD k 0 ∈ l := by
 rw [List.getD_eq_getElem?_getD, List.getElem?_eq_getElem hk]; exact List.getElem_mem hk
end
end Go.Proofs.YtlfdgkiliegaiaaGreatDoor
