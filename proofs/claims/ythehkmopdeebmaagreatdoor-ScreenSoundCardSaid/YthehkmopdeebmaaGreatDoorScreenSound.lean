/- The statement of the law ScreenSound: for every input the call returns true and its arguments read as before. -/
import Derived.Test.YthehkmopdeebmaaGreatDoorY38
set_option linter.unusedVariables false
set_option linter.unusedSimpArgs false
set_option maxRecDepth 1000000
namespace Go.Proofs.YthehkmopdeebmaaGreatDoor.screenSound
open _root_.Go.Proofs.Tryz
open Go.ChangeShapes Go.WideShapes Go.ChangeAt Go.RowKit Go.ChangeMaps
theorem own:ownKnob prog.godebug=none:=by kernel_rfl
theorem zj1:laidOutB prog=true:=by kernel_rfl
theorem contract (H:Type) (enc:TypeId × Value→H) (W:World) (base:Nat) (args:Array Value) (ds gs:List (DataW H)) (before:List MemPlace)
  (hval:∀ (j:Nat) t v,Tryz.f6.params[j]?=some t→args[j]?=some v→Value.okWide prog W .any base t v)
  (hW:DataW.Whole enc prog Tryz.f6.params.toList Rows.screenSoundSpec.vars false W args.toList ds gs before) (hL:laidMetH prog Rows.screenSoundRow.laid W) :
  Calls prog 6 args W fun e W'=>∃ v,e=.returned v∧Rows.screenSoundSpec.post enc prog Tryz.f6 false true false false W args v W':=by
 have G:=hW;obtain⟨p,q,J,hV,rfl,M0,C0⟩:=hW;have U:DataW.TrodAll enc prog W 0 (fun _=>true) true Tryz.f6.params.toList args.toList ds p:=J;rw[Tryz.params6]at U hval;obtain⟨Z,A0,d0,B0,p0,q0,M,rfl,rfl,h0,r0⟩:=trodAll_cons U;obtain⟨O,D0,d1,G0,p1,q1,rfl,rfl,rfl,h1,r1⟩:=trodAll_cons r0;obtain⟨Y,J0,d2,I0,p2,q2,rfl,rfl,rfl,h2,r2⟩:=trodAll_cons r1;obtain⟨R,E0,d3,F0,p3,q3,rfl,rfl,rfl,T,r3⟩:=trodAll_cons r2;obtain⟨v4,L0,d4,H0,p4,q4,rfl,rfl,rfl,V,r4⟩:=trodAll_cons r3;obtain⟨rfl,rfl,rfl⟩:=trodAll_nil r4;obtain rfl:args=#[Z,O,Y,R,v4]:=(by cases args;simp_all);obtain⟨rfl,rfl⟩:=trodVars_none hV;obtain⟨a0,rfl,rfl,rfl,w0⟩:=open_int underlying3 (hval 0 3 Z rfl rfl) h0;obtain⟨a1,rfl,rfl,rfl,S⟩:=open_int underlying3 (hval 1 3 O rfl rfl) h1;obtain⟨a2,rfl,rfl,rfl,w2⟩:=open_int underlying3 (hval 2 3 Y rfl rfl) h2;obtain⟨a3,A,B,rfl⟩:=okWide_slice underlying70 (hval 3 70 R rfl rfl);have X:=T;have I:∀ x∈p3,x.block<W.heap.size:=(by obtain⟨m,N⟩:=X;exact DataW.trod_lt m _ _ _ N);obtain⟨z3,x3,s3,y3⟩:∃ l:List ByteArray,zhd W (.slice a3 A B) (l.map Value.string)∧(∀ s∈l,s.size≤maxLen)∧l.length≤9223372036854775807:=by
  obtain⟨E,F⟩:=T;exact zji F
 obtain⟨a4,C,D,rfl⟩:=okWide_slice underlying22 (hval 4 22 v4 rfl rfl);have k4:=V;have L:∀ x∈p4,x.block<W.heap.size:=(by obtain⟨m,N⟩:=k4;exact DataW.trod_lt m _ _ _ N);obtain⟨z4,x4,y4⟩:∃ zs,zj2 .i64 W (.slice a4 C D) zs∧zs.length+1≤Rows.uptoBulk d4:=by
  obtain⟨E,F⟩:=V;exact zm5 underlying22 underlying3 (by kernel_rfl) F
 refine(zeX a0 a1 a2 _ z3 _ z4 W (zoE w0) (zoE S) (zoE w2) x3 s3 y3 x4 (znu hL)).mono fun e W' ⟨he,bel⟩=>?_;subst he;exact⟨_,rfl,_,_,_,[],_,[],G,trodAll_mk1 (shut_bool underlying4 _),(trodAll_cons_mk (shut_int underlying3 w0) (trodAll_cons_mk (shut_int underlying3 S) (trodAll_cons_mk (shut_int underlying3 w2) (trodAll_cons_mk (Below.trod zj1 (by kernel_rfl) (of_decide_eq_true (by kernel_rfl)) X bel I) (trodAll_cons_mk (Below.trod zj1 (by kernel_rfl) (of_decide_eq_true (by kernel_rfl)) k4 bel L) trodAll_mk0))))),rfl,bel.frame _,fun h=>by cases h⟩
theorem zl4 (os:Os):laidMet prog Rows.screenSoundRow.laid ((zd3 os #[.int .i64 0,.int .i64 0,.int .i64 0,(.slice none 0 0),(.slice none 0 0)]).forCall (fun _ _=>0) ⟨#[],#[.int .i64 0,.int .i64 0,.int .i64 0,(.slice none 0 0),(.slice none 0 0)],[]⟩).memory :=
 laidMet_of_run' 8 (by kernel_rfl) (by kernel_rfl)
theorem reads (os:Os) {H:Type} (enc:TypeId × Value→H):∃ places,DataW.whole enc prog ((zd3 os #[.int .i64 0,.int .i64 0,.int .i64 0,(.slice none 0 0),(.slice none 0 0)]).forCall (fun _ _=>0) ⟨#[],#[.int .i64 0,.int .i64 0,.int .i64 0,(.slice none 0 0),(.slice none 0 0)],[]⟩).memory Tryz.f6.params.toList Rows.screenSoundSpec.vars false (#[.int .i64 0,.int .i64 0,.int .i64 0,(.slice none 0 0),(.slice none 0 0)]:Array Value).toList 8=some ([.lit (.int .i64 0),.lit (.int .i64 0),.lit (.int .i64 0),.nil,.nil],[],places) :=
 ⟨[],by kernel_rfl⟩
theorem lifted (os:Os) (started:os.Started) (H:Type) (enc:TypeId × Value→H) (F:Stop.Interp) :
  ReturnsInHanded {} Tryz.checked os 6 .any ((OpenSpec.ofChange Rows.screenSoundSpec).preRow enc prog Tryz.f6 Rows.screenSoundRow.domain false Rows.screenSoundRow.laid) (((OpenSpec.ofChange Rows.screenSoundSpec).at F).post enc prog Tryz.f6 false true false false):=by
 obtain⟨G,I⟩:=reads os enc;refine returnsInHanded_of_row (C:=Tryz.checked) (s:=OpenSpec.ofChange Rows.screenSoundSpec) own started (by kernel_rfl) func6
  (witness_row_atRef (enc:=enc) (C:=Tryz.checked) false (zd3 os #[.int .i64 0,.int .i64 0,.int .i64 0,(.slice none 0 0),(.slice none 0 0)]) #[.int .i64 0,.int .i64 0,.int .i64 0,(.slice none 0 0),(.slice none 0 0)] rfl (by kernel_rfl) (by kernel_rfl) (by kernel_rfl)
   (OpenSpec.preRow_of_cond 8 I (by kernel_rfl) (fun k hk=>by cases hk) (by kernel_rfl) (zl4 os))) ?_
 intro W D E N J A B M _ _ _ L _ _;exact contract H enc W D E N J A B M L
theorem said:Rows.ScreenSoundSaid :=
 OpenClaim.holds_of_cond 6 Tryz.f6 rfl rfl rfl rfl rfl rfl rfl ⟨rfl,rfl,rfl,rfl,rfl⟩ rfl rfl rfl rfl rfl (by kernel_rfl) func6 (by kernel_rfl)
  (of_decide_eq_true (by kernel_rfl)) (by unfold Func.isWrapper;first | (rw[if_pos (by decide +kernel)];kernel_rfl) | (rw[if_neg (by decide +kernel)];exact⟨rfl,rfl⟩))
  (fun os started H enc _ F=>by rw[OpenClaim.pre_eq_preRow];exact lifted os started H enc F)
theorem plain (g:FuncId) (fn:Func) (hf:Tryz.pinned.checked.prog.funcNamed "mullion/mullionlaw6.ScreenSound"=some g) (hfn:Tryz.pinned.checked.prog.funcs[g]?=some fn) :
  false=Tryz.pinned.checked.prog.looks []∧∀ (j:Nat) t,fn.params[j]?=some t→Tryz.pinned.checked.prog.wantsStandIn t=false:=by
 obtain rfl:g=6:=Option.some.inj ((show prog.funcNamed "mullion/mullionlaw6.ScreenSound"=some 6 by kernel_rfl).symm.trans hf) |>.symm;obtain rfl:fn=Tryz.f6:=(Option.some.inj (func6.symm.trans hfn)).symm;refine⟨by kernel_rfl,fun j t ht=>?_⟩;rw[Tryz.params6]at ht;have hm:=Array.mem_of_getElem? ht;simp at hm;rcases hm with rfl | rfl | rfl | rfl | rfl
 all_goals first
  | exact(show prog.wantsStandIn 3=false by kernel_rfl)
  | exact(show prog.wantsStandIn 70=false by kernel_rfl)
  | exact(show prog.wantsStandIn 22=false by kernel_rfl)
theorem card:Rows.ScreenSoundCardSaid :=
 Claim7.holds_tied_plain_at .later [] _ _ _ _ said (fun _ h=>by cases h) (by kernel_rfl) (fun _ h=>by cases h) screenSound_row_tie rfl ⟨rfl,rfl⟩ (by kernel_rfl) rfl plain (by kernel_rfl)
end Go.Proofs.YthehkmopdeebmaaGreatDoor.screenSound
