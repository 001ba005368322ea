/- Part. -/
import Derived.Test.YthehkmopdeebmaaGreatDoorY27
set_option linter.unusedVariables false
set_option linter.unusedSimpArgs false
set_option maxRecDepth 100000
set_option maxHeartbeats 1000000
namespace Go.Proofs.YthehkmopdeebmaaGreatDoor
open _root_.Go.Proofs.Tryz
section
open Go.RowKit
theorem zaI (n:Int) (h0:-9223372036854775808≤n) (h1:n≤9223372036854775807) (w:World) (ht:zdz w) :
  Calls prog 105 #[.int .i64 n] w fun e w'=>∃ str:ByteArray,e=.returned (.string str)∧str.data.toList=Lib.itoa n∧str.size≤21∧Below w.heap.size w w':=by
 refine(Tryz.strconv_Itoa n h0 h1 w ht.pw.here).mono ?_;rintro e w' ⟨rfl,k,A,rfl⟩;refine⟨_,rfl,by simp,?_,Lib.below_grow w.heap.size w (Nat.le_refl _) k A⟩;show(Lib.itoa n).toArray.size≤21;rw[List.size_toArray];exact Lib.itoa_length_le n h0 h1
theorem ZT {a b:ByteArray} {n m:Nat} (ha:a.size≤n) (hb:b.size≤m):(a++b).size≤n+m:=by rw[ByteArray.size_append];omega
theorem Zx (a b:ByteArray):(a++b).data.toList=a.data.toList++b.data.toList:=by
 rw[ByteArray.data_append,Array.toList_append]
theorem zd9 (a:ByteArray):a.data.toList.length=a.size:=by rw[Array.length_toList];rfl
theorem SR.tabs' {B:World} {C:Nat→Nat} {p:Nat} {w:World} {s:Scr} {ps:PSt} (h:SR B C p w s ps):zdz w:=h.tb.below h.bl
theorem zit {B:World} {C:Nat→Nat} {p c r:Nat} {w:World} {s:Scr} {ps:PSt} (h:SR B C p w s ps) (hok:s.Ok c r) (k:Int) (ho:s.out.length≤100000) :
  Calls prog 212 #[.pointer (some ⟨p,0,none⟩),.int .i64 k] w fun e w'=>e=.returned (.tuple #[])∧zy B C p w w' (s.report k) ps:=by
 have U:=Qh h;have HN:=Qh (h.nums hok);have V:=Qh (show s.out.length≤1000000 by omega);clear hok ho;by_cases h5:k=5
 ·subst h5;have Z:=Qh (show s.report 5=s.say [27,91,48,110] from rfl);clear h;go_enter func212,ntmps212;go_wp2_with fail;refine(zao U ⟨#[27,91,48,110]⟩ V (by decide)).mono ?_;rintro e S0 ⟨rfl,R0,C0,D0⟩;have M0:=Qh C0;have G0:=Qh (D0);clear C0 D0;go_wp2_with fail;go_end0;refine⟨rfl,?_⟩;rw[Z.out];exact⟨_,M0,G0⟩
 by_cases h6:k=6;rotate_left
 ·have Z:=Qh (show s.report k=s by unfold Scr.report;rw[if_neg h5,if_neg h6]);have e5:(k == 5)=false:=Qb h5;have e6:(k == 6)=false:=Qb h6;clear h h5 h6;go_enter func212,ntmps212;go_wp2_with fail;go_end0;refine⟨rfl,?_⟩;rw[Z.out];exact .refl U
 subst h6;clear h5;obtain⟨H,R⟩:∃ H,H=if s.has 4 then max 0 (s.now.y-s.top) else s.now.y:=⟨_,rfl⟩
 have Z:=Qh (show s.report 6=s.say ([27,91]++Lib.itoa (H+1)++[59]++Lib.itoa (s.now.x+1)++[82]) by rw[R];rfl);have A:=HN.out;have x0:=A.x0;have x1:=A.x1;have k2:=A.c2;have y0:=A.y0;have y1:=A.y1;have r2:=A.r2;have t0:=A.t0;have tb:=A.tb;have b1:=A.b1;have H0:0≤H∧H≤200:=(by rw[R];split <;> omega);have L0:IntKind.i64.wrap (s.now.y-s.top)=s.now.y-s.top:=zd _ (by omega) (by omega);have O0:IntKind.i64.wrap (H+1)=H+1:=zd _ (by omega) (by omega);have N0:IntKind.i64.wrap (s.now.x+1)=s.now.x+1:=zd _ (by omega) (by omega);have I:=Qh (show 0≤s.now.x+1∧s.now.x+1≤1000 by omega);have E0:=Qh (show 0≤H+1∧H+1≤1000 by omega);have L:w.cell? ⟨p,0,none⟩=some (.int .i64 s.now.x):=h.at_ 0 _;have c1:w.cell? ⟨p,1,none⟩=some (.int .i64 s.now.y):=h.at_ 1 _;have J0:w.cell? ⟨p,33,none⟩=some (.int .i64 s.top):=h.at_ 33 _;clear h x0 x1 k2 y0 y1 r2 t0 tb b1 H0 A;have HH:=Qh (za4 U 4);go_enter func212,ntmps212;go_upto_if 18 with (refine HH.mono ?_;rintro e w2 ⟨rfl,rfl⟩)
 go_cut [4] (fun v wz=>v=.int .i64 H∧wz=w2)
 case first =>
  cases hh:s.has 4
  ·have A0:=Qh (show H=s.now.y by rw[R,hh];rfl);go_wp2_with fail;go_meet;exact⟨by rw[A0.out],rfl⟩
  ·have A0:=Qh (show H=max 0 (s.now.y-s.top) by rw[R,hh];rfl);go_wp2_with fail;go_meet;exact⟨by rw[A0.out],rfl⟩
 case rest =>
 obtain⟨rfl,I0⟩:=hcut;subst I0;obtain⟨w,rfl⟩:∃ z,z=wc:=⟨wc,rfl⟩;clear R c1 J0 L0 HH;go_upto_region 7 with fail;refine zJ (c:=15) (S:=(fun bb w'=>w'.cell? ⟨p,0,none⟩=some (.int .i64 s.now.x)∧(bb=false→True))) (by kernel_rfl) (⟨L,fun _=>trivial⟩) (fun _=>?_);refine zb false 0 (⟨L,fun _=>trivial⟩) ?_;refine zb false 1 (⟨L,fun _=>trivial⟩) ?_;refine zb false 2 (⟨L,fun _=>trivial⟩) ?_;refine zb false 6 (⟨L,fun _=>trivial⟩) ?_;refine zb false 7 (⟨L,fun _=>trivial⟩) ?_;refine zb false 8 (⟨L,fun _=>trivial⟩) ?_;refine zb false 9 (⟨L,fun _=>trivial⟩) ?_;refine zb false 10 (⟨L,fun _=>trivial⟩) ?_;refine zb false 11 (⟨L,fun _=>trivial⟩) ?_;refine zj false 3 fun K hK=>?_;refine ze rfl ?_;go_wp2_with fail;refine(zaI (H+1) (by have:=E0.out;omega) (by have:=E0.out;omega) w.drew (U.below (Below.refl _ _).drew).tabs').mono ?_;rintro e w5 ⟨s5,rfl,F0,B0,b5⟩;have Y:=Qh F0;have D:=Qh ((Below.refl w.heap.size w).drew.trans b5);have z5:=zc b5 L;refine hK.out _ _ (⟨z5,fun _=>trivial⟩) (fun _=>?_);clear hK K F0 b5
 try simp only[Act.put,List.setIfInBounds_toArray,List.set_cons_zero,List.set_cons_succ]
 refine zdx false false 4 12 ?_ ?_
 ·intro K hK;refine ze rfl ?_;go_wp2_with fail;refine hK.out _ _ (⟨z5,fun _=>trivial⟩) (fun _=>?_);clear hK K
  try simp only[Act.put,List.setIfInBounds_toArray,List.set_cons_zero,List.set_cons_succ]
  refine zdx false false 5 12 ?_ ?_
  ·intro K hK;refine ze rfl ?_;go_wp2_with fail;refine hK.out _ _ (⟨z5,fun _=>trivial⟩) (fun _=>?_);clear hK K
   try simp only[Act.put,List.setIfInBounds_toArray,List.set_cons_zero,List.set_cons_succ]
   refine zj false 12 fun K hK=>?_;refine ze rfl ?_;go_wp2_with fail;refine(zaI (s.now.x+1) (by have:=I.out;omega) (by have:=I.out;omega) w5 (U.below D).tabs').mono ?_;rintro e w6 ⟨s6,rfl,E,T,O⟩;have N:=Qh E;have F:=Qh (D.trans (O.mono D.size));have G:=zc O z5;refine hK.out _ _ (⟨G,fun _=>trivial⟩) (fun _=>?_);clear hK K E O
   try simp only[Act.put,List.setIfInBounds_toArray,List.set_cons_zero,List.set_cons_succ]
   refine zj false 13 fun K hK=>?_;refine ze rfl ?_;go_wp2_with fail;refine hK.out _ _ (⟨G,fun _=>trivial⟩) (fun _=>?_);clear hK K
   try simp only[Act.put,List.setIfInBounds_toArray,List.set_cons_zero,List.set_cons_succ]
   refine zj false 14 fun K hK=>?_;refine ze rfl ?_;go_wp2_with fail;refine hK.out _ _ (⟨G,fun _=>trivial⟩) (fun _=>?_);clear hK K
   try simp only[Act.put,List.setIfInBounds_toArray,List.set_cons_zero,List.set_cons_succ]
   refine zj true 15 fun K hK=>?_;refine ze rfl ?_;go_wp2_with fail;have q4:=ZT (ZT (ZT (ZT (a:=⟨#[27,91]⟩) (n:=2) (Nat.le_refl _) B0) (b:=⟨#[59]⟩) (m:=1) (Nat.le_refl _)) T) (b:=⟨#[82]⟩) (m:=1) (Nat.le_refl _);refine(zao (U.below F) _ V (by rw[zd9];omega)).mono ?_;rintro e w7 ⟨rfl,C7,J,X⟩;have z7:=J.at_ 0 (.int .i64 s.now.x);have H7:=Qh J;have P7:=Qh (((Pre.refl C w).below F).trans X);refine hK.out _ _ (⟨z7,fun e=>by cases e⟩) (fun _=>?_);clear hK K J X q4
   try simp only[Act.put,List.setIfInBounds_toArray,List.set_cons_zero,List.set_cons_succ]
   refine zD (by kernel_rfl) ?_ _;have M:=Qh (show s.report 6=s.say (((((⟨#[27,91]⟩:ByteArray)++s5)++⟨#[59]⟩)++s6)++⟨#[82]⟩).data.toList by
    rw[Z.out,Zx,Zx,Zx,Zx,Y.out,N.out])
   go_wp2_with fail;go_end0;refine⟨rfl,?_⟩;rw[M.out];exact⟨_,H7,P7⟩
  ·intro K hK;refine ze rfl ?_;go_wp2_with fail;refine(zaI (s.now.x+1) (by have:=I.out;omega) (by have:=I.out;omega) w5 (U.below D).tabs').mono ?_;rintro e w6 ⟨s6,rfl,E,T,O⟩;have N:=Qh E;have F:=Qh (D.trans (O.mono D.size));have G:=zc O z5;refine hK.out _ _ (⟨G,fun _=>trivial⟩) (fun _=>?_);clear hK K E O
   try simp only[Act.put,List.setIfInBounds_toArray,List.set_cons_zero,List.set_cons_succ]
   refine zj false 5 fun K hK=>?_;refine ze rfl ?_;go_wp2_with fail;refine hK.out _ _ (⟨G,fun _=>trivial⟩) (fun _=>?_);clear hK K
   try simp only[Act.put,List.setIfInBounds_toArray,List.set_cons_zero,List.set_cons_succ]
   refine zj false 13 fun K hK=>?_;refine ze rfl ?_;go_wp2_with fail;refine hK.out _ _ (⟨G,fun _=>trivial⟩) (fun _=>?_);clear hK K
   try simp only[Act.put,List.setIfInBounds_toArray,List.set_cons_zero,List.set_cons_succ]
   refine zj false 14 fun K hK=>?_;refine ze rfl ?_;go_wp2_with fail;refine hK.out _ _ (⟨G,fun _=>trivial⟩) (fun _=>?_);clear hK K
   try simp only[Act.put,List.setIfInBounds_toArray,List.set_cons_zero,List.set_cons_succ]
   refine zj true 15 fun K hK=>?_;refine ze rfl ?_;go_wp2_with fail;have q4:=ZT (ZT (ZT (ZT (a:=⟨#[27,91]⟩) (n:=2) (Nat.le_refl _) B0) (b:=⟨#[59]⟩) (m:=1) (Nat.le_refl _)) T) (b:=⟨#[82]⟩) (m:=1) (Nat.le_refl _);refine(zao (U.below F) _ V (by rw[zd9];omega)).mono ?_;rintro e w7 ⟨rfl,C7,J,X⟩;have z7:=J.at_ 0 (.int .i64 s.now.x);have H7:=Qh J;have P7:=Qh (((Pre.refl C w).below F).trans X);refine hK.out _ _ (⟨z7,fun e=>by cases e⟩) (fun _=>?_);clear hK K J X q4
   try simp only[Act.put,List.setIfInBounds_toArray,List.set_cons_zero,List.set_cons_succ]
   refine zD (by kernel_rfl) ?_ _;have M:=Qh (show s.report 6=s.say (((((⟨#[27,91]⟩:ByteArray)++s5)++⟨#[59]⟩)++s6)++⟨#[82]⟩).data.toList by
    rw[Z.out,Zx,Zx,Zx,Zx,Y.out,N.out])
   go_wp2_with fail;go_end0;refine⟨rfl,?_⟩;rw[M.out];exact⟨_,H7,P7⟩
 ·intro K hK;refine ze rfl ?_;go_wp2_with fail;refine(zaI (s.now.x+1) (by have:=I.out;omega) (by have:=I.out;omega) w5 (U.below D).tabs').mono ?_;rintro e w6 ⟨s6,rfl,E,T,O⟩;have N:=Qh E;have F:=Qh (D.trans (O.mono D.size));have G:=zc O z5;refine hK.out _ _ (⟨G,fun _=>trivial⟩) (fun _=>?_);clear hK K E O
  try simp only[Act.put,List.setIfInBounds_toArray,List.set_cons_zero,List.set_cons_succ]
  refine zj false 4 fun K hK=>?_;refine ze rfl ?_;go_wp2_with fail;refine hK.out _ _ (⟨G,fun _=>trivial⟩) (fun _=>?_);clear hK K
  try simp only[Act.put,List.setIfInBounds_toArray,List.set_cons_zero,List.set_cons_succ]
  refine zj false 5 fun K hK=>?_;refine ze rfl ?_;go_wp2_with fail;refine hK.out _ _ (⟨G,fun _=>trivial⟩) (fun _=>?_);clear hK K
  try simp only[Act.put,List.setIfInBounds_toArray,List.set_cons_zero,List.set_cons_succ]
  refine zj false 13 fun K hK=>?_;refine ze rfl ?_;go_wp2_with fail;refine hK.out _ _ (⟨G,fun _=>trivial⟩) (fun _=>?_);clear hK K
  try simp only[Act.put,List.setIfInBounds_toArray,List.set_cons_zero,List.set_cons_succ]
  refine zj false 14 fun K hK=>?_;refine ze rfl ?_;go_wp2_with fail;refine hK.out _ _ (⟨G,fun _=>trivial⟩) (fun _=>?_);clear hK K
  try simp only[Act.put,List.setIfInBounds_toArray,List.set_cons_zero,List.set_cons_succ]
  refine zj true 15 fun K hK=>?_;refine ze rfl ?_;go_wp2_with fail;have q4:=ZT (ZT (ZT (ZT (a:=⟨#[27,91]⟩) (n:=2) (Nat.le_refl _) B0) (b:=⟨#[59]⟩) (m:=1) (Nat.le_refl _)) T) (b:=⟨#[82]⟩) (m:=1) (Nat.le_refl _);refine(zao (U.below F) _ V (by rw[zd9];omega)).mono ?_;rintro e w7 ⟨rfl,C7,J,X⟩;have z7:=J.at_ 0 (.int .i64 s.now.x);have H7:=Qh J;have P7:=Qh (((Pre.refl C w).below F).trans X);refine hK.out _ _ (⟨z7,fun e=>by cases e⟩) (fun _=>?_);clear hK K J X q4
  try simp only[Act.put,List.setIfInBounds_toArray,List.set_cons_zero,List.set_cons_succ]
  refine zD (by kernel_rfl) ?_ _;have M:=Qh (show s.report 6=s.say (((((⟨#[27,91]⟩:ByteArray)++s5)++⟨#[59]⟩)++s6)++⟨#[82]⟩).data.toList by
   rw[Z.out,Zx,Zx,Zx,Zx,Y.out,N.out])
  go_wp2_with fail;go_end0;refine⟨rfl,?_⟩;rw[M.out];exact⟨_,H7,P7⟩
end
section
open Go.RowKit
def zaa (b:UInt8) (ps:PSt):PSt:=if (b.toNat:Int)=99 then s0 else ps
theorem zgc {B:World} {C:Nat→Nat} {p:Nat} {w:World} {s:Scr} {ps:PSt} (h:SR B C p w s ps) (x:Nat) (hx:x<s.tabs.length) (y:Bool) :
  ∃ b off c,w.cell? ⟨p,35,none⟩=some (.slice (some ⟨b,off,none⟩) s.tabs.length c)∧(∀ wx,(Instr.indexAt 86 (.slice (some ⟨b,off,none⟩) s.tabs.length c) (.int .i64 x)).run prog wx=.ok (.pointer (some ⟨b,off+x,none⟩)) wx) ∧
   w.cell? ⟨b,off+x,none⟩=some (.bool (s.tabs.getD x false))∧w.frozen? ⟨b,off+x,none⟩=false∧zy B C p w (w.setCell ⟨b,off+x,none⟩ (.bool y)) { s with tabs:=s.tabs.set x y } ps:=by
 obtain⟨L,E,H,_,_⟩:=h.tabs;obtain⟨b,off,c,J,I,⟨u,D,G⟩,F,A⟩:=zeD underlying86 zdK H x hx;subst J;rw[zh7 _ _ hx]at D;injection D with D;subst D;refine⟨b,off,c,E,I,G,F,?_⟩;refine h.tabsIn E (x:=s.tabs.set x y) (by rw[List.length_set]) (zx (zo _ (some b)) _ _) ?_;rw[List.map_set];exact A (.bool y)
theorem zlD {B:World} {C:Nat→Nat} {p c r:Nat} {w:World} {s:Scr} {ps:PSt} (h:SR B C p w s ps) (hok:s.Ok c r) (b:UInt8) (ho:s.out.length≤100000) :
  Calls prog 149 #[.pointer (some ⟨p,0,none⟩),.int .u8 (b.toNat:Int)] w fun e w'=>e=.returned (.tuple #[])∧zy B C p w w' (s.bare b) (zaa b ps):=by
 have I:(0:Int)≤(b.toNat:Int)∧(b.toNat:Int)≤255:=(by have:=b.toNat_lt;omega);have I0:=Qh (show s.out.length≤1000000 by omega);clear ho;obtain⟨k,J⟩:∃ k:Int,k=(b.toNat:Int):=⟨_,rfl⟩;have HN:=Qh (h.nums hok);have S:=Qh h;have Z:=Qh hok;have E:=Qh (show zaa b ps=if k=99 then s0 else ps by unfold zaa;rw[J]);rw[← J]at I ⊢;clear h hok;by_cases h55:k=55
 ·subst h55;have H:=Qh (show s.bare b=s.save∧zaa b ps=ps from⟨by unfold Scr.bare;dsimp only;rw[← J];rfl,E.trans rfl⟩);clear J I E;go_enter func149,ntmps149;go_wp2_with fail;refine(zeS S).mono ?_;rintro e N ⟨rfl,O,A,D⟩;have F:=Qh A;have G:=Qh (D);clear A D;go_wp2_with fail;go_end0;refine⟨rfl,?_⟩;rw[H.out.1,H.out.2];exact⟨_,F,G⟩
 by_cases h56:k=56
 ·subst h56;have H:=Qh (show s.bare b=s.restore∧zaa b ps=ps from⟨by unfold Scr.bare;dsimp only;rw[← J];rfl,E.trans rfl⟩);clear J I E;go_enter func149,ntmps149;go_wp2_with fail;refine(zda S).mono ?_;rintro e N ⟨rfl,O,A,D⟩;have F:=Qh A;have G:=Qh (D);clear A D;go_wp2_with fail;go_end0;refine⟨rfl,?_⟩;rw[H.out.1,H.out.2];exact⟨_,F,G⟩
 by_cases h69:k=69
 ·subst h69;have H:=Qh (show s.bare b=(s.toX 0).index.calm∧zaa b ps=ps from⟨by unfold Scr.bare;dsimp only;rw[← J];rfl,E.trans rfl⟩);clear J I E;have c0:w.cell? ⟨p,0,none⟩=some (.int .i64 s.now.x):=S.out.at_ 0 _;have f0:=S.out.fz 0;obtain⟨Y,T⟩:=(S).set 0 (.int .i64 0) (s.toX 0);have F:=Qh Y;have G:=Qh (T);clear Y T;have D0:=Qh (Z.toX (x:=0) (by decide) (by rw[(HN.out.ok Z.out).1];have:=HN.out.c1;omega));go_enter func149,ntmps149;go_wp2_with fail;refine(zbE F D0).mono ?_;rintro e F0 ⟨rfl,V0,C0,E0⟩;have R:=Qh C0;have V:=Qh (G.trans E0);clear C0 E0;have c2:F0.cell? ⟨p,2,none⟩=some (.bool ((s.toX 0).index).now.wait):=R.out.at_ 2 _;have f2:=R.out.fz 2;obtain⟨X,U⟩:=(R).set 2 (.bool false) (((s.toX 0).index).calm);have H0:=Qh X;have J0:=Qh (V.trans U);clear X U;go_wp2_with fail;go_end0;refine⟨rfl,?_⟩;rw[H.out.1,H.out.2];exact⟨_,H0,J0⟩
 by_cases h68:k=68
 ·subst h68;have H:=Qh (show s.bare b=s.index.calm∧zaa b ps=ps from⟨by unfold Scr.bare;dsimp only;rw[← J];rfl,E.trans rfl⟩);clear J I E;go_enter func149,ntmps149;go_wp2_with fail;refine(zbE S Z).mono ?_;rintro e N ⟨rfl,O,A,D⟩;have F:=Qh A;have G:=Qh (D);clear A D;have c2:N.cell? ⟨p,2,none⟩=some (.bool (s.index).now.wait):=F.out.at_ 2 _;have f2:=F.out.fz 2;obtain⟨M,L⟩:=(F).set 2 (.bool false) ((s.index).calm);have R:=Qh M;have V:=Qh (G.trans L);clear M L;go_wp2_with fail;go_end0;refine⟨rfl,?_⟩;rw[H.out.1,H.out.2];exact⟨_,R,V⟩
 by_cases h77:k=77
 ·subst h77;have H:=Qh (show s.bare b=s.reverse.calm∧zaa b ps=ps from⟨by unfold Scr.bare;dsimp only;rw[← J];rfl,E.trans rfl⟩);clear J I E;go_enter func149,ntmps149;go_wp2_with fail;refine(zhm S Z).mono ?_;rintro e N ⟨rfl,O,A,D⟩;have F:=Qh A;have G:=Qh (D);clear A D;have c2:N.cell? ⟨p,2,none⟩=some (.bool (s.reverse).now.wait):=F.out.at_ 2 _;have f2:=F.out.fz 2;obtain⟨M,L⟩:=(F).set 2 (.bool false) ((s.reverse).calm);have R:=Qh M;have V:=Qh (G.trans L);clear M L;go_wp2_with fail;go_end0;refine⟨rfl,?_⟩;rw[H.out.1,H.out.2];exact⟨_,R,V⟩
 by_cases h72:k=72
 ·subst h72;have H:=Qh (show s.bare b={ s with tabs:=s.tabs.set s.now.x.toNat true }∧zaa b ps=ps from⟨by unfold Scr.bare;dsimp only;rw[← J];rfl,E.trans rfl⟩);clear J I E;have A0:=HN.out;obtain⟨x,hx⟩:∃ x:Nat,s.now.x=x:=⟨s.now.x.toNat,by have:=A0.x0;omega⟩;obtain⟨bb,B0,cc,ct,hi,hc,hf,hd⟩:=zgc (S.below (Below.refl w.heap.size w).drew) x (by have:=A0.x1;have:=A0.tl;omega) true;have HD:=Qh (zy.after ((Pre.refl C w).below (Below.refl w.heap.size w).drew) hd);have G0:=Qh (show s.now.x.toNat=x by rw[hx,Int.toNat_natCast]);have c0:w.cell? ⟨p,0,none⟩=some (.int .i64 x):=(by rw[← hx];exact S.at_ 0 _);have O0:w.cell? ⟨p,35,none⟩=some (.slice (some ⟨bb,B0,none⟩) s.tabs.length cc):=ct;have C0:w.cell? ⟨bb,B0+x,none⟩=some (.bool (s.tabs.getD x false)):=hc;have T0:w.frozen? ⟨bb,B0+x,none⟩=false:=hf;clear A0 hx hd;go_enter func149,ntmps149;go_upto_region 18 with fail
  go_still_tail 10,(by kernel_rfl)
  change wpList _ _ _ _ _ w.drew;go_wp2_with fail;go_end0;refine⟨rfl,?_⟩;rw[H.out.1,H.out.2,G0.out];exact HD
 by_cases h99:k=99
 ·subst h99;have H:=Qh (show s.bare b=s.reset∧zaa b ps=s0 from⟨by unfold Scr.bare;dsimp only;rw[← J];rfl,E.trans rfl⟩);clear J I E;go_enter func149,ntmps149;go_wp2_with fail;refine(zjA S).mono ?_;rintro e N ⟨rfl,O,A,D⟩;have F:=Qh A;have G:=Qh (D);clear A D;go_wp2_with fail;go_end0;refine⟨rfl,?_⟩;rw[H.out.1,H.out.2];exact⟨_,F,G⟩
 by_cases h61:k=61
 ·subst h61;have H:=Qh (show s.bare b=s.mode 32 true∧zaa b ps=ps from⟨by unfold Scr.bare;dsimp only;rw[← J];rfl,E.trans rfl⟩);clear J I E;go_enter func149,ntmps149;go_wp2_with fail;refine(ZF S 32 true).mono ?_;rintro e N ⟨rfl,O,A,D⟩;have F:=Qh A;have G:=Qh (D);clear A D;go_wp2_with fail;go_end0;refine⟨rfl,?_⟩;rw[H.out.1,H.out.2];exact⟨_,F,G⟩
 by_cases h62:k=62
 ·subst h62;have H:=Qh (show s.bare b=s.mode 32 false∧zaa b ps=ps from⟨by unfold Scr.bare;dsimp only;rw[← J];rfl,E.trans rfl⟩);clear J I E;go_enter func149,ntmps149;go_wp2_with fail;refine(ZF S 32 false).mono ?_;rintro e N ⟨rfl,O,A,D⟩;have F:=Qh A;have G:=Qh (D);clear A D;go_wp2_with fail;go_end0;refine⟨rfl,?_⟩;rw[H.out.1,H.out.2];exact⟨_,F,G⟩
 by_cases h90:k=90
 ·subst h90;have H:=Qh (show s.bare b=s.say da1∧zaa b ps=ps from⟨by unfold Scr.bare;dsimp only;rw[← J];rfl,E.trans rfl⟩);clear J I E;go_enter func149,ntmps149;go_wp2_with fail;refine(zao S ⟨#[27,91,63,54,50,59,99]⟩ I0 (by decide)).mono ?_;rintro e N ⟨rfl,O,A,D⟩;have F:=Qh A;have G:=Qh (D);clear A D;go_wp2_with fail;go_end0;refine⟨rfl,?_⟩;rw[H.out.1,H.out.2];exact⟨_,F,G⟩
 have H:=Qh (show s.bare b=s∧zaa b ps=ps from⟨by
  unfold Scr.bare;dsimp only;rw[← J,if_neg h55,if_neg h56,if_neg h69,if_neg h68,if_neg h77,if_neg h72,if_neg h99,if_neg (show ¬ (k=61∨k=62) by omega),if_neg h90],by rw[E.out,if_neg h99]⟩)
 have A1:(k == 55)=false:=Qb h55;have U0:(k == 56)=false:=Qb h56;have Z0:(k == 69)=false:=Qb h69;have Y0:(k == 68)=false:=Qb h68;have N0:(k == 77)=false:=Qb h77;have M0:(k == 72)=false:=Qb h72;have L0:(k == 99)=false:=Qb h99;have R0:(k == 61)=false:=Qb h61;have S0:(k == 62)=false:=Qb h62;have X0:(k == 90)=false:=Qb h90;clear I J E h55 h56 h69 h68 h77 h72 h99 h61 h62 h90;go_enter func149,ntmps149;go_wp2_with fail;go_end0;refine⟨rfl,?_⟩;rw[H.out.1,H.out.2];exact .refl S
end
end Go.Proofs.YthehkmopdeebmaaGreatDoor
