/- The statement of the law ScreenLooks: for every input the call returns true and its arguments read as before. -/
import Derived.Test.YtlfdgkiliegaiaaGreatDoorScreenLooksA
import Derived.Test.YtlfdgkiliegaiaaGreatDoorY1
import Derived.Test.YtlfdgkiliegaiaaGreatDoorY11
import Derived.Test.YtlfdgkiliegaiaaGreatDoorY13
import Derived.Test.YtlfdgkiliegaiaaGreatDoorY14
import Derived.Test.YtlfdgkiliegaiaaGreatDoorY2
import Derived.Test.YtlfdgkiliegaiaaGreatDoorY3
import Derived.Deep.DeepWitnessRowRef
import Derived.WalkKit
import Derived.ProofKit
import Derived.OpenShut
import Derived.Deep.DeepHandedRow
import Derived.Laws.ResultCell
import Derived.Deep.CutBlock
import Derived.Laws.EntriesVeiled
import Derived.Deep.DeepCutAuto
import Derived.Laws.StructEq
import Derived.Deep.DrawnRows
import Derived.Deep.RegionHeld3
import Derived.Test.YtlfdgkiliegaiaaGreatDoorShelf
import Derived.Lib.Builder
import Derived.Lib.FrozenHead
import Derived.Lib.RuneBytes
import Derived.Lib.UnsafeStr
import Derived.Lib.SliceRun
import Derived.WalkSpells
import Derived.StillTailTactics
import Derived.Deep.RegionLaw
import Derived.Test.YtlfdgkiliegaiaaGreatDoorRows
import Derived.Deep.AppendSrc
import Derived.Lib.AppendStr
import Derived.ArgAppend
import Derived.Laws.IdiomCopy
import Derived.Laws.IdiomStrings
import Derived.Deep.Upon
import Derived.WalkLawsBesides
import Derived.BigQuiet
import Derived.Lib.Hide
import Derived.Deep.QuietTactic
import Derived.Lib.AppendIntMem
import Derived.Lib.ItoaNum
import Derived.Lib.ItoaLen
import Derived.Laws.Bits64b
import Derived.JoinedCond
import Derived.ChangeKeysEq
import Derived.Deep.MidRow
import Derived.Laws.Cover4
import Derived.WalkMore
import Derived.ScopeJumps
import Derived.Lib.SlBytesConst
import Derived.Lib.FrozenHead2
import Derived.Lib.TrimU
import Derived.Lib.OthersKept
import Derived.Deep.LoopGhost
import Derived.Test.YtlfdgkiliegaiaaGreatDoorCards
import Derived.Test.YtlfdgkiliegaiaaGreatDoorTie
import Derived.Lib.LaidTab
set_option linter.unusedVariables false
set_option linter.unusedSimpArgs false
namespace Go.Proofs.YtlfdgkiliegaiaaGreatDoor.screenLooks
open Go.ChangeShapes Go.WideShapes Go.ChangeAt Go.RowKit Go.ChangeMaps
theorem own : ownKnob Tryz.prog.godebug = none := by kernel_rfl
theorem zdh : laidOutB Tryz.prog = true := by kernel_rfl
set_option maxRecDepth 1000000 in
theorem contract (H : Type) (enc : TypeId × Value → H) (W : World) (base : Nat) (args : Array Value) (ds gs : List (DataW H)) (before : List MemPlace)
  (hval : ∀ (j : Nat) t v, Tryz.f4.params[j]? = some t → args[j]? = some v → Value.okWide Tryz.prog W .any base t v)
  (hW : DataW.Whole enc Tryz.prog Tryz.f4.params.toList Rows.screenLooksSpec.vars false W args.toList ds gs before) (hL : laidMetH Tryz.prog Rows.screenLooksRow.laid W) :
  Calls Tryz.prog 4 args W fun e W' => ∃ v, e = .returned v ∧ Rows.screenLooksSpec.post enc Tryz.prog Tryz.f4 false true false false W args v W' := by
 have hW' := hW;obtain ⟨p, q, hA0, hV, rfl, hfz, hnd⟩ := hW;have hA : DataW.TrodAll enc Tryz.prog W 0 (fun _ => true) true Tryz.f4.params.toList args.toList ds p := hA0;rw [Tryz.params4] at hA hval;obtain ⟨v0, vs0, d0, ds0, p0, q0, hargs, rfl, rfl, h0, r0⟩ := trodAll_cons hA;obtain ⟨v1, vs1, d1, ds1, p1, q1, rfl, rfl, rfl, h1, r1⟩ := trodAll_cons r0;obtain ⟨rfl, rfl, rfl⟩ := trodAll_nil r1;obtain rfl : args = #[v0, v1] := (by cases args; simp_all);obtain ⟨rfl, rfl⟩ := trodVars_none hV;have k0 := h0;have lt0 : ∀ x ∈ p0, x.block < W.heap.size := (by obtain ⟨m, hm⟩ := k0; exact DataW.trod_lt m _ _ _ hm);obtain ⟨z0, rfl, i0⟩ := zd8 (hval 0 35 v0 rfl rfl) h0;have k1 := h1;have lt1 : ∀ x ∈ p1, x.block < W.heap.size := (by obtain ⟨m, hm⟩ := k1; exact DataW.trod_lt m _ _ _ hm);obtain ⟨z1, rfl, i1⟩ := zd8 (hval 1 35 v1 rfl rfl) h1;refine (zey z0 z1 W i0 i1 (zfh hL)).mono fun e W' ⟨he, bel⟩ => ?_;subst he;exact ⟨_, rfl, _, _, _, [], _, [], hW', trodAll_mk1 (shut_bool Tryz.underlying4 _), (trodAll_cons_mk (Below.trod zdh (by kernel_rfl) (of_decide_eq_true (by kernel_rfl)) k0 bel lt0) (trodAll_cons_mk (Below.trod zdh (by kernel_rfl) (of_decide_eq_true (by kernel_rfl)) k1 bel lt1) trodAll_mk0)), rfl, bel.frame _, fun h => by cases h⟩
set_option maxRecDepth 1000000 in
theorem zbD (os : Os) : laidMet Tryz.prog Rows.screenLooksRow.laid ((ZD os #[(.agg #[.int .i64 0, .int .i64 0, .int .i64 0]), (.agg #[.int .i64 0, .int .i64 0, .int .i64 0])]).forCall (fun _ _ => 0) ⟨#[], #[(.agg #[.int .i64 0, .int .i64 0, .int .i64 0]), (.agg #[.int .i64 0, .int .i64 0, .int .i64 0])], []⟩).memory :=
 laidMet_of_run' 8 (by kernel_rfl) (by kernel_rfl)
set_option maxRecDepth 1000000 in
theorem reads (os : Os) {H : Type} (enc : TypeId × Value → H) : ∃ places, DataW.whole enc Tryz.prog ((ZD os #[(.agg #[.int .i64 0, .int .i64 0, .int .i64 0]), (.agg #[.int .i64 0, .int .i64 0, .int .i64 0])]).forCall (fun _ _ => 0) ⟨#[], #[(.agg #[.int .i64 0, .int .i64 0, .int .i64 0]), (.agg #[.int .i64 0, .int .i64 0, .int .i64 0])], []⟩).memory Tryz.f4.params.toList Rows.screenLooksSpec.vars false (#[(.agg #[.int .i64 0, .int .i64 0, .int .i64 0]), (.agg #[.int .i64 0, .int .i64 0, .int .i64 0])] : Array Value).toList 8 = some ([.agg [.lit (.int .i64 0), .lit (.int .i64 0), .lit (.int .i64 0)], .agg [.lit (.int .i64 0), .lit (.int .i64 0), .lit (.int .i64 0)]], [], places) :=
 ⟨[], by kernel_rfl⟩
set_option maxRecDepth 1000000 in
theorem lifted (os : Os) (started : os.Started) (H : Type) (enc : TypeId × Value → H) (F : Stop.Interp) :
  ReturnsInHanded {} Tryz.checked os 4 .any ((OpenSpec.ofChange Rows.screenLooksSpec).preRow enc Tryz.prog Tryz.f4 Rows.screenLooksRow.domain false Rows.screenLooksRow.laid) (((OpenSpec.ofChange Rows.screenLooksSpec).at F).post enc Tryz.prog Tryz.f4 false true false false) := by
 obtain ⟨places, hx⟩ := reads os enc;refine returnsInHanded_of_row (C := Tryz.checked) (s := OpenSpec.ofChange Rows.screenLooksSpec) own started (by kernel_rfl) Tryz.func4
  (witness_row_atRef (enc := enc) (C := Tryz.checked) false (ZD os #[(.agg #[.int .i64 0, .int .i64 0, .int .i64 0]), (.agg #[.int .i64 0, .int .i64 0, .int .i64 0])]) #[(.agg #[.int .i64 0, .int .i64 0, .int .i64 0]), (.agg #[.int .i64 0, .int .i64 0, .int .i64 0])] rfl (by kernel_rfl) (by kernel_rfl) (by kernel_rfl)
   (OpenSpec.preRow_of_cond 8 hx (by kernel_rfl) (fun k hk => by cases hk) (by kernel_rfl) (zbD os))) ?_
 intro W base args ds gs before hval hW _ _ _ hL _ _;exact contract H enc W base args ds gs before hval hW hL
theorem said : Rows.ScreenLooksSaid :=
 OpenClaim.holds_of_cond 4 Tryz.f4 rfl rfl rfl rfl rfl rfl rfl ⟨rfl, rfl, rfl, rfl, rfl⟩ rfl rfl rfl rfl rfl (by kernel_rfl) Tryz.func4 (by kernel_rfl)
  (of_decide_eq_true (by kernel_rfl)) (by unfold Func.isWrapper; first | (rw [if_pos (by decide +kernel)]; kernel_rfl) | (rw [if_neg (by decide +kernel)]; exact ⟨rfl, rfl⟩))
  (fun os started H enc _ F => by rw [OpenClaim.pre_eq_preRow]; exact lifted os started H enc F)
set_option maxRecDepth 1000000 in
theorem plain (g : FuncId) (fn : Func) (hf : Tryz.pinned.checked.prog.funcNamed "mullion/mullionlaw6.ScreenLooks" = some g) (hfn : Tryz.pinned.checked.prog.funcs[g]? = some fn) :
  false = Tryz.pinned.checked.prog.looks [] ∧ ∀ (j : Nat) t, fn.params[j]? = some t → Tryz.pinned.checked.prog.wantsStandIn t = false := by
 obtain rfl : g = 4 := Option.some.inj ((show Tryz.prog.funcNamed "mullion/mullionlaw6.ScreenLooks" = some 4 by kernel_rfl).symm.trans hf) |>.symm;obtain rfl : fn = Tryz.f4 := (Option.some.inj (Tryz.func4.symm.trans hfn)).symm;refine ⟨by kernel_rfl, fun j t ht => ?_⟩;rw [Tryz.params4] at ht;obtain rfl : t = 35 := (by simpa using Array.mem_of_getElem? ht);exact (show Tryz.prog.wantsStandIn 35 = false by kernel_rfl)
theorem card : Rows.ScreenLooksCardSaid :=
 Claim7.holds_tied_plain_at .later [] _ _ _ _ said (fun _ h => by cases h) (by kernel_rfl) (fun _ h => by cases h) screenLooks_row_tie rfl ⟨rfl, rfl⟩ (by kernel_rfl) rfl plain (by kernel_rfl)
end Go.Proofs.YtlfdgkiliegaiaaGreatDoor.screenLooks
