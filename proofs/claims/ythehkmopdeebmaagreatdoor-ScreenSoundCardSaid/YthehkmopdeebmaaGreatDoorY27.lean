/- Part. -/
import Derived.Test.YthehkmopdeebmaaGreatDoorY24
import Derived.Test.YthehkmopdeebmaaGreatDoorY25
set_option linter.unusedVariables false
set_option linter.unusedSimpArgs false
set_option maxRecDepth 100000
set_option maxHeartbeats 2000000
namespace Go.Proofs.YthehkmopdeebmaaGreatDoor
open _root_.Go.Proofs.Tryz
section
open Go.RowKit
theorem zlq {B:World} {C:Nat→Nat} {p c r:Nat} {w:World} {s:Scr} {ps:PSt} (h:SR B C p w s ps) (hok:s.Ok c r) :
  Calls prog 148 #[.pointer (some ⟨p,0,none⟩)] w fun e w'=>e=.returned (.tuple #[])∧zy B C p w w' s.fill ps:=by
 have D:=h.nums hok;have S:=Qh (D.ok hok).1;have N:=Qh (D.ok hok).2;have HN:=Qh D;have E:=Qh ((hok.whole (by rw[(D.ok hok).2];exact D.r1)).place (by rw[(D.ok hok).1];exact D.c1) (by rw[(D.ok hok).2];exact D.r1) 0 0);have C0:=Qh (show s.fill=((s.whole).place 0 0).turn (fun g=>zbY g c r) by unfold Scr.fill;rw[S.out,N.out]);have HW:=Qh (zbh h);clear D h hok;go_enter func148,ntmps148;go_wp2_with fail;refine HW.mono ?_;rintro e w2 ⟨rfl,C2,h2,p2⟩;have H2:=Qh h2;have P2:=Qh p2;clear h2 p2 HW;go_wp2_with fail;refine(Zo H2 0 0).mono ?_;rintro e w3 ⟨rfl,C3,h3,p3⟩;have H3:=Qh h3;have P3:=Qh (P2.trans p3);clear h3 p3 H2 P2;generalize (s.whole).place 0 0=u at *;have E0:=Qh (show u.main.cols=c from E.out.main.1);have X:=Qh (show u.main.rows.length=r from E.out.main.2);go_wp2_with fail;refine(ZY H3).mono ?_;rintro e w4 ⟨rfl,rfl⟩;rw[X.out];have F:=Qh (show r≤120 by rw[N.out];exact HN.r2);have G:=Qh (show c≤250 by rw[S.out];exact HN.c2);go_wp2_with fail
 go_loopw [10] (fun iv wr=>∃ (y:Nat) (R:Nat→Nat),y≤r∧iv=.int .i64 y∧Hid (SR B R p wr (u.turn (fun g=>zbY g c y)) ps)∧Hid (Pre C w R wr)) (fun iv _=>r-(intOf iv).toNat)
 case atStart=>exact⟨0,C3,Nat.zero_le _,rfl,Qh (by rw[show(fun g=>zbY g c 0)=fun g=>g from rfl,zki];exact H3),P3⟩
 case round =>
  obtain⟨y,R,hy,rfl,H4,P4⟩:=hrel;by_cases hlt:y<r;rotate_left
  ·obtain rfl:y=r:=(by omega);have HD:=Qh (show zy B C p w wr s.fill ps by rw[C0.out];exact⟨R,H4,P4⟩);go_wp2_with fail;go_end0;exact⟨rfl,HD⟩
  have D0:=Qh (show(u.turn (fun g=>zbY g c y)).Ok c r from E.out.turn _ fun g U=>zeo U _ _);have B0:=Qh D0.main.1;have Y:y<120:=(by have:=F.out;omega);go_wp2_with fail;refine(Z3 H4).mono ?_;rintro e w5 ⟨rfl,rfl⟩;rw[B0.out];go_wp2_with fail
  go_loopw [15] (fun iv wr=>∃ (x:Nat) (V:Nat→Nat),x≤c∧iv=.int .i64 x∧Hid (SR B V p wr (u.turn (fun g=>zhS (zbY g c y) y x)) ps)∧Hid (Pre C w V wr)) (fun iv _=>c-(intOf iv).toNat)
  case atStart=>exact⟨0,R,Nat.zero_le _,rfl,H4,P4⟩
  case round =>
   obtain⟨x,V,hx,rfl,H5,P5⟩:=hrel;obtain⟨T,q,U,hq,H⟩:=H5.out.grid;have HG:=Qh U;have HQ:=Qh hq;have HK:=Qh H;clear U hq H;by_cases hlx:x<c
   ·have A0:x<250:=(by have:=G.out;omega);go_wp2_with fail;refine(z8 HQ).mono ?_;rintro e w6 ⟨rfl,rfl⟩;go_wp2_with fail;refine(ZW _).mono ?_;rintro e w7 ⟨rfl,b7⟩;have L:=Qh b7;clear b7;unfold Sty.val plainS;go_wp2_with fail;refine(zkx (HG.below L) x y ⟨69,1,plainS⟩ ziD ⟨by decide,by decide⟩).mono ?_;rintro e w8 ⟨rfl,A,O⟩;obtain⟨J,_⟩:=HK.out _ _ _ (fun g=>g.put x y ⟨69,1,plainS⟩) L A O (fun k H=>.inl H);rw[zcO]at J;obtain⟨C6,I,M⟩:=J;have H6:=Qh I;have Z:=Qh (P5.trans M);clear A O I M;go_wp2_with fail;go_roundw
    case rel=>exact⟨x+1,C6,by omega,by go_num,H6,Z⟩
    case measure=>simp[intOf];omega
   ·obtain rfl:x=c:=(by omega);go_wp2_with fail;refine(z8 HQ).mono ?_;rintro e w6 ⟨rfl,rfl⟩;go_wp2_with fail;refine(zeE HG y false).mono ?_;rintro e w8 ⟨rfl,A,O⟩;obtain⟨J,_⟩:=HK.out _ _ _ (fun g=>g.setWrap y false) (Below.refl _ _) A O (fun k H=>.inl H);rw[zcO]at J;obtain⟨C6,I,M⟩:=J;have H6:=Qh I;have Z:=Qh (P5.trans M);clear A O I M;go_wp2_with fail;go_roundw
    case rel=>exact⟨y+1,C6,by omega,by go_num,H6,Z⟩
    case measure=>simp[intOf];omega
theorem zdt {w:World} {p:Nat} (h:p<w.heap.size) (o:Obj):(w.alloc o).heap[p]?=w.heap[p]?:=by
 obtain⟨x,A⟩:∃ x,w.heap[p]?=some x:=⟨_,Array.getElem?_eq_getElem h⟩;rw[A];exact zI A o
theorem zdu {w w':World} {p:Nat} (h:w'.heap[p]?=w.heap[p]?) (i:Nat):w'.frozen? ⟨p,i,none⟩=w.frozen? ⟨p,i,none⟩:=by
 unfold World.frozen?;rw[h]
theorem zf3:zdQ prog 86 4 1 1 (.bool false):=⟨underlying86,by kernel_rfl,rfl,by decide⟩
def zf4 (n:Nat):Bool:=decide (0<n∧n % 8=0)
def ZM (t:List Bool) (n:Nat):List Bool:=t++(List.range' t.length (n-t.length)).map zf4
theorem zfm (t:List Bool) (n:Nat) (h:t.length≤n):(ZM t n).length=n:=by
 unfold ZM;rw[List.length_append,List.length_map,List.length_range'];omega
theorem zhs (t:List Bool) (n:Nat) (h:t.length≤n):ZM t (n+1)=ZM t n++[zf4 n]:=by
 unfold ZM;rw[show n+1-t.length=(n-t.length)+1 by omega,List.range'_concat,List.map_append,List.append_assoc];rw[show t.length+1*(n-t.length)=n by omega];rfl
theorem zih (t:List Bool) (n c:Nat) (h2:c≤n) (h3:n≤c∨n=t.length):(ZM t n).take c=zcc t c:=by
 unfold ZM zcc;rcases h3 with h3 | h3
 ·rw[show n=c by omega];rfl
 ·rw[h3,Nat.sub_self,show c-t.length=0 by omega];rfl
theorem zd4 {B:World} {C:Nat→Nat} {p:Nat} {w:World} {s:Scr} {ps:PSt} (h:SR B C p w s ps) (hl:s.tabs.length≤1000) :
  Calls prog 84 #[.pointer (some ⟨p,0,none⟩)] w fun e w'=>e=.returned (.tuple #[])∧zy B C p w w' s.stops ps:=by
 have HW:=Qh h.wf;obtain⟨vt,ct,ot,_,_⟩:=h.tabs;have A0:=zcU underlying86 ot;have HR:=Qh h;have HM:=Qh (show ∀ t:List Bool,({ s with tabs:=t }:Scr).main.cols=s.main.cols from fun _=>rfl);clear ot h;obtain⟨c,hc⟩:∃ c,c=s.main.cols:=⟨_,rfl⟩;have HC:=Qh hc;have D:=Qh (show c≤250 by rw[hc];exact HW.c2);have I0:=Qh (show s.stops={ s with tabs:=zcc s.tabs c } by rw[hc];rfl);clear hc;go_enter func84,ntmps84;go_wp2_with fail
 go_loopw [2] (fun iv wr=>∃ (n:Nat) (C1:Nat→Nat),iv=.int .i64 n∧s.tabs.length≤n∧n≤1000∧(n≤c∨n=s.tabs.length)∧Hid (SR B C1 p wr { s with tabs:=ZM s.tabs n } ps)∧Hid (Pre C w C1 wr)) (fun iv _=>c-(intOf iv).toNat)
 case atStart=>exact⟨s.tabs.length,C,rfl,Nat.le_refl _,hl,.inr rfl,Qh (by
  rw[show ZM s.tabs s.tabs.length=s.tabs by unfold ZM;rw[Nat.sub_self];simp];exact HR),Qh (Pre.refl _ _)⟩
 case round =>
  obtain⟨n,C1,rfl,Z,U0,H0,F,P1⟩:=hrel;have E0:=Qh (Z3 F);obtain⟨v1,c1,o1,t1,Y⟩:=F.out.tabs;have U:=Qh Y;have C0:=Qh t1;have I:=Qh (show zp wr 0 1 v1 n ((ZM s.tabs n).map Value.bool) by
   have:=o1;rw[show({ s with tabs:=ZM s.tabs n }:Scr).tabs.length=n from zfm s.tabs n Z]at this;exact this)
  obtain⟨x1,m1,M0,rfl⟩:=zR I;clear o1 Y t1 ct A0;by_cases hlt:n<c
  ·have F0:(n:Int)<c:=(by omega);have d1:decide ((n:Int)<(c:Int))=true:=Qt F0;have HB:=Qh (show ∀ (b:Bool),b=zf4 n→∀ A S N R,zp A 0 1 (.slice S N R) (n+1) ((ZM s.tabs n).map Value.bool++[.bool b])→zp A 0 1 (.slice S N R) (ZM s.tabs (n+1)).length ((ZM s.tabs (n+1)).map Value.bool) from fun b hb A S N R J=>by
    rw[zfm _ _ (by omega),zhs _ _ Z,List.map_append,← hb];exact J)
   go_wp2_with fail;refine E0.mono ?_;rintro e V ⟨rfl,rfl⟩;rw[show({ s with tabs:=ZM s.tabs n }:Scr).main.cols=c from HC.out.symm];have E:=F.out.fz 35;go_upto_region 3 with fail;have hn0:(0<n)∨n=0:=(by omega);obtain⟨bn,D0⟩:∃ b,b=zf4 n:=⟨_,rfl⟩;have H:=Qh D0;clear D0;rcases hn0 with hn0 | hn0
   ·have d2:decide (0<(n:Int))=true:=Qt (by omega);have S0:decide (0<n)=true:=Qt hn0;have H:=Qh (show((n:Int) % 8 == 0)=zf4 n by
     unfold zf4;by_cases h8:n % 8=0
     ·rw[Qt ⟨hn0,h8⟩,show((n:Int) % 8 == 0)=true from beq_iff_eq.2 (by omega)]
     ·rw[Qf (fun e=>h8 e.2),show((n:Int) % 8 == 0)=false from Qb (by omega)])
    go_wp2_with (at_builtin;refine zaQ ?_);unfold zaP;refine zS zf3 rfl rfl 0 (zG I _) rfl (Zi _ _ _) rfl (by intro u hu;simp at hu;subst hu;rfl) (by unfold maxLen;omega) (by omega) (by omega) ?_;intro v6 A J O n6;obtain⟨S,N,R,rfl⟩:=zR J;have o7:=HB.out _ H A S N R J;obtain⟨C7,L,M⟩:=U.out _ A _ (ZM s.tabs (n+1)) (World.grownBy_alloc V _ none) O o7 n6;have H7:=Qh L;have P7:=Qh (P1.trans M);have T:A.heap[p]?=V.heap[p]?:=by
     rw[O.block p (by have:=F.out.pl;simp;omega) (fun e=>(C0.out p e.symm).2 rfl)];exact zdt F.pl _
    have J0:=(zw T 35).trans c1;have f6:=(zdu T 35).trans E;clear J O n6 o7 L M T E c1;go_wp2_with fail;go_roundw
    case rel=>exact⟨n+1,C7,by go_num,by omega,by have:=D.out;omega,.inl (by omega),H7,P7⟩
    case measure=>simp[intOf];omega
   ·subst hn0;have H:=Qh (show false=zf4 0 from rfl);go_wp2_with (at_builtin;refine zaQ ?_);unfold zaP;refine zS zf3 rfl rfl 0 (zG I _) rfl (Zi _ _ _) rfl (by intro u hu;simp at hu;subst hu;rfl) (by unfold maxLen;omega) (by omega) (by omega) ?_;intro v6 A J O n6;obtain⟨S,N,R,rfl⟩:=zR J;have o7:=HB.out _ H A S N R J;obtain⟨C7,L,M⟩:=U.out _ A _ (ZM s.tabs (0+1)) (World.grownBy_alloc V _ none) O o7 n6;have H7:=Qh L;have P7:=Qh (P1.trans M);have T:A.heap[p]?=V.heap[p]?:=by
     rw[O.block p (by have:=F.out.pl;simp;omega) (fun e=>(C0.out p e.symm).2 rfl)];exact zdt F.pl _
    have J0:=(zw T 35).trans c1;have f6:=(zdu T 35).trans E;clear J O n6 o7 L M T E c1;go_wp2_with fail;go_roundw
    case rel=>exact⟨0+1,C7,by go_num,by omega,by have:=D.out;omega,.inl (by omega),H7,P7⟩
    case measure=>simp[intOf];omega
  ·have d1:decide ((n:Int)<(c:Int))=false:=Qf (by omega);have R0:decide (n<c)=false:=Qf hlt;obtain⟨v9,T0,G,B0⟩:=zgC (P:=prog) underlying86 zdK I c (by omega);obtain⟨x9,m9,c9,rfl⟩:=zR G;have N0:=Qh (zih s.tabs n c (by omega) H0);have X:wr.grownBy wr.drew none:=zaM (zo _ _);obtain⟨C7,L,M⟩:=U.out wr.drew wr.drew _ (zcc s.tabs c) X (zo _ _) (by
    rw[← List.map_take,N0.out]at G;have G0:(zcc s.tabs c).length=c:=zc2 _ _;rw[G0];exact zk G (Below.refl _ _).drew) (fun k e=>.inl (by rw[← B0];exact e))
   have HD:=Qh (show zy B C p w _ s.stops ps by rw[I0.out];exact⟨C7,L,P1.trans M⟩);have O0:wr.drew.cell? ⟨p,35,none⟩=some (.slice x1 m1 M0):=c1;have E:wr.drew.frozen? ⟨p,35,none⟩=false:=F.out.fz 35;have L0:=Qh (Z3 (F.below (Below.refl _ _).drew));clear G B0 L M X;go_wp2_with fail;refine E0.mono ?_;rintro e V ⟨rfl,rfl⟩;rw[show({ s with tabs:=ZM s.tabs n }:Scr).main.cols=c from HC.out.symm];go_upto_region 4 with fail
   go_still_tail 10,(by kernel_rfl)
   still_call L0
   rw[show({ s with tabs:=ZM s.tabs n }:Scr).main.cols=c from HC.out.symm]
   repeat still_step
   refine wpStill_nil ?_;change wpList _ _ _ _ _ V.drew;go_wp2_with fail;go_end0;exact⟨rfl,HD⟩
end
section
open Go.RowKit
structure zoZ (B:World) (C:Nat→Nat) (p:Nat) (w:World) (g:Gr) (bells:Int) (out:List UInt8):Prop where
 lt:∀ k,C k≠0→k<w.heap.size
 cp:C p=1
 hi:∀ k,C k≠0→B.heap.size≤k
 tb:zdz B
 bl:Below B.heap.size B w
 ex:∃ cs Tm pm vo,w.heap[p]?=some (.cells cs 89 (0,0))∧cs.size=41∧cs[10]?=some (.pointer (some ⟨pm,0,none⟩))∧cs[38]?=some (.int .i64 bells)∧cs[40]?=some vo∧GM Tm pm w g∧zp w 0 1 vo out.length (zu out)∧(∀ k,vo.ownBlock=some k→C k=3)
theorem SR.half {B:World} {C:Nat→Nat} {p:Nat} {w:World} {s:Scr} {ps:PSt} (h:SR B C p w s ps):zoZ B C p w s.main s.bells s.out:=by
 obtain⟨D,I,J,E,L,G,H,F,A⟩:=h.sm;exact⟨A.lt,A.cp,h.hi,h.tb,h.bl,_,D,E,F,A.blk,rfl,rfl,rfl,rfl,A.gm,A.ou,A.t3⟩
def zcy (g:Gr) (bells:Int) (out:List UInt8):Scr:=⟨zbp,Z1 g.cols g.rows.length g.limit,none,zbp,zbp,9,0,0,[],[],0,bells,out⟩
theorem zcP (w:World):Calls prog 90 #[] w fun e w'=>e=.returned (.agg #[.int .i64 0,.int .i64 0,.bool false,.int .i64 (-1),.int .i64 (-1),.int .i64 0,.bool false,.bool false,.bool false,.int .i64 0])∧Below w.heap.size w w':=zli w
theorem zf5 {B:World} {C:Nat→Nat} {p:Nat} {w:World} {g:Gr} {bells:Int} {out:List UInt8} (h:zoZ B C p w g bells out) :
  Calls prog 42 #[.pointer (some ⟨p,0,none⟩)] w fun e w'=>e=.returned (.tuple #[])∧zy B C p w w' (((zcy g bells out).stops).whole) s0:=by
 obtain⟨cs,Tm,pm,vo,hb,Y0,H0,A,D,hg,ho,D0⟩:=h.ex;obtain⟨H,J,I,rfl⟩:=zR ho;have Y:w.cell? ⟨p,10,none⟩=some (.pointer (some ⟨pm,0,none⟩)):=(za hb 10).trans H0;have F:w.cell? ⟨p,38,none⟩=some (.int .i64 bells):=(za hb 38).trans A;have G:w.cell? ⟨p,40,none⟩=some (.slice H J I):=(za hb 40).trans D;have HB:=Qh hb;have A1:=Qh Y0;have R:=Qh hg;have HO:=Qh ho;have B1:=Qh D0;have HH:=Qh h;have N0:=Qh (zq hb);clear hb Y0 H0 A D hg ho D0 h;go_enter func42,ntmps42;go_upto_region 0 with fail
 go_region_held3 (fun w'=>w'.cell? ⟨p,10,none⟩=some (.pointer (some ⟨pm,0,none⟩))) (first | exact Y | exact z0)
  (first
   | (go_at_call 31;refine(zga (R.below (Below.refl _ _).drew)).mono ?_;rintro e wq ⟨rfl,rfl⟩)
   | (go_at_call 32;refine(zdN (R.below (Below.refl _ _).drew)).mono ?_;rintro e wq ⟨rfl,rfl⟩)
   | (go_at_call 33;refine(zgR (R.below (Below.refl _ _).drew)).mono ?_;rintro e wq ⟨rfl,rfl⟩)
   | (go_at_call 41;refine(zdv g.cols g.rows.length g.limit w.drew R.wf.c1 R.wf.c2 R.wf.r1 R.wf.r2 R.wf.li).mono ?_;rintro e E ⟨q1,T1,rfl,b4,g4,n4⟩;have L:=Qh ((Below.refl w.heap.size w).drew.trans b4);have T0:=Qh g4;have C1:=Qh n4;have z0:=zc b4 Y;clear b4 g4 n4))
 have X0:E.cell? ⟨p,38,none⟩=some (.int .i64 bells):=zc L F;have U0:E.cell? ⟨p,40,none⟩=some (.slice H J I):=zc L G;clear Y F G z0;go_upto_region 1 with fail;have A:E.drew.cell? ⟨p,38,none⟩=some (.int .i64 bells):=X0;have D:E.drew.cell? ⟨p,40,none⟩=some (.slice H J I):=U0;have L0:=Qh (L.trans ((Below.refl E.heap.size E).drew.mono L.size));refine zJ (c:=17) (S:=(fun X w'=>(w'.cell? ⟨p,38,none⟩=some (.int .i64 bells)∧w'.cell? ⟨p,40,none⟩=some (.slice H J I))∧(X=false→True))) (by kernel_rfl) (Qz ⟨A,D⟩) (fun _=>?_);refine zb false 0 (Qz ⟨A,D⟩) ?_;refine zb false 2 (Qz ⟨A,D⟩) ?_;refine zb false 6 (Qz ⟨A,D⟩) ?_;refine zb false 7 (Qz ⟨A,D⟩) ?_;refine zb false 8 (Qz ⟨A,D⟩) ?_;refine zb false 9 (Qz ⟨A,D⟩) ?_;refine zb false 10 (Qz ⟨A,D⟩) ?_;refine zb false 11 (Qz ⟨A,D⟩) ?_;refine zb false 12 (Qz ⟨A,D⟩) ?_;refine zb false 13 (Qz ⟨A,D⟩) ?_;refine zj false 1 fun K hK=>?_;refine ze rfl ?_;go_wp2_with fail;refine(zcP E.drew).mono ?_;rintro e wa ⟨rfl,ba⟩;have Z:=zc ba A;have U:=zc ba D;have G0:=Qh (L0.trans (ba.mono L0.size));have F0:=Qh (show Below E.heap.size E wa from(Below.refl E.heap.size E).drew.trans ba);refine hK.out _ _ (Qz ⟨Z,U⟩) (fun _=>?_);clear hK K ba
 try simp only[Act.put,List.setIfInBounds_toArray,List.set_cons_zero,List.set_cons_succ]
 refine zj false 3 fun K hK=>?_;refine ze rfl ?_;go_wp2_with fail;refine(zcP wa).mono ?_;rintro e wb ⟨rfl,X⟩;have C0:=zc X Z;have V:=zc X U;have O0:=Qh (G0.trans (X.mono G0.size));have S0:=Qh (show Below E.heap.size E wb from F0.out.trans (X.mono F0.size));refine hK.out _ _ (Qz ⟨C0,V⟩) (fun _=>?_);clear hK K X
 try simp only[Act.put,List.setIfInBounds_toArray,List.set_cons_zero,List.set_cons_succ]
 refine zj false 4 fun K hK=>?_;refine ze rfl ?_;go_wp2_with fail;refine(zcP wb).mono ?_;rintro e wc ⟨rfl,bc⟩;have F:=zc bc C0;have G:=zc bc V;have A0:=Qh (O0.trans (bc.mono O0.size));have B0:=Qh (show Below E.heap.size E wc from S0.out.trans (bc.mono S0.size));refine hK.out _ _ (Qz ⟨F,G⟩) (fun _=>?_);clear hK K bc
 try simp only[Act.put,List.setIfInBounds_toArray,List.set_cons_zero,List.set_cons_succ]
 refine zb false 5 (Qz ⟨F,G⟩) ?_;refine zj false 14 fun K hK=>?_;refine ze rfl ?_;go_wp2_with fail;refine(znG wc).mono ?_;rintro e wn ⟨pp,Tp,rfl,bn,rn,nn⟩;have O:=zc bn F;have M:=zc bn G;have T:=Qh (A0.trans (bn.mono A0.size));have M0:=Qh (show Below E.heap.size E wc from B0.out);have I0:=Qh (show Below E.heap.size E wn from B0.out.trans (bn.mono B0.size));have D1:=Qh rn;have V0:=Qh nn;refine hK.out _ _ (Qz ⟨O,M⟩) (fun _=>?_);clear hK K bn rn nn
 try simp only[Act.put,List.setIfInBounds_toArray,List.set_cons_zero,List.set_cons_succ]
 refine zb false 15 (Qz ⟨O,M⟩) ?_;refine zb false 16 (Qz ⟨O,M⟩) ?_;refine zj true 17 fun K hK=>?_;refine ze rfl ?_;have E0:=run_storeVar_row (P:=prog) wn p 89 89 cs ((zcy g bells out).cells q1 none pp Z0 (.slice H J I)) (zr HB T N0) (by kernel_rfl) (by rw[A1.out];rfl) (by simp[Scr.cells,Value.oneCell',zpa,Z0,zcy]);refine zal _ _ _ rfl E0 rfl rfl ?_;have N:=Zz (cells:=(zcy g bells out).cells q1 none pp Z0 (.slice H J I)) (zr HB T N0);have g9:=zbD wn p ((zcy g bells out).cells q1 none pp Z0 (.slice H J I));have G1:∀ {a b:World},Below a.heap.size a b→a.heap.size≤b.heap.size:=fun h=>h.size;obtain⟨C7,h7,p7⟩:=zmB (s:=zcy g bells out) HH.lt HH.cp HH.hi HH.tb HH.bl HO B1 T (T0.below I0) (fun k hk=>C1 k hk) D1 (fun k hk=>Nat.le_trans A0.size (V0 k hk)) (fun k hk=>T0.own0 (Nat.le_trans M0.size (V0 k hk))) g9 N rfl rfl;have H7:=Qh h7;have P7:=Qh p7;have R0:(wn.setRow p ((zcy g bells out).cells q1 none pp Z0 (.slice H J I))).cell? ⟨p,38,none⟩=some (.int .i64 bells):=za N 38;have J0:(wn.setRow p ((zcy g bells out).cells q1 none pp Z0 (.slice H J I))).cell? ⟨p,40,none⟩=some (.slice H J I):=za N 40;refine hK.out _ _ (⟨⟨R0,J0⟩,fun e=>by cases e⟩) (fun _=>?_);clear hK K E0 N g9 h7 p7
 try simp only[Act.put]
 refine zD (by kernel_rfl) ?_ _;clear R0 J0 O M F G C0 V Z U X0 U0 A D;generalize wn.setRow p ((zcy g bells out).cells q1 none pp Z0 (.slice H J I))=w9 at *;go_wp2_with fail;refine(zd4 H7 (by show(0:Nat)≤1000;decide)).mono ?_;rintro e F1 ⟨rfl,C8,h8,p8⟩;have H8:=Qh h8;have P8:=Qh (P7.trans p8);clear h8 p8;go_wp2_with fail;refine(zbh H8).mono ?_;rintro e E1 ⟨rfl,d9⟩;have HD:=Qh (zy.after P8 d9);clear d9;go_wp2_with fail;go_end0;exact⟨rfl,HD⟩
end
section
open Go.RowKit
theorem zjA {B:World} {C:Nat→Nat} {p:Nat} {w:World} {s:Scr} {ps:PSt} (h:SR B C p w s ps):Calls prog 42 #[.pointer (some ⟨p,0,none⟩)] w fun e w'=>e=.returned (.tuple #[])∧zy B C p w w' s.reset s0:=zf5 h.half
theorem zf6 (cols rows hist:Nat) (w:World) (h1:1≤cols) (h2:cols≤250) (h3:1≤rows) (h4:rows≤120) (h5:hist≤2000) (ht:zdz w) :
  Calls prog 9 #[.int .i64 cols,.int .i64 rows,.int .i64 hist] w fun e w'=>∃ p C,e=.returned (.tuple #[.pointer (some ⟨p,0,none⟩),.int .i64 0])∧SR w C p w' (zdR cols rows hist) s0:=by
 have L:=Qh ht;have R:=Qh (zdv cols rows hist w h1 h2 h3 h4 h5);have V:=Qh (show(Z1 cols rows hist).rows.length=rows by unfold Z1 zW;exact List.length_replicate);clear ht h1 h2 h3 h4 h5;go_enter func9,ntmps9;go_wp2_with fail;refine R.mono ?_;rintro e A ⟨q,T,rfl,I,G,J⟩;have D:=Qh I;have F:=Qh G;clear I G J;have E:=zH A (.cells #[.int .i64 0,.int .i64 0,.bool false,.int .i64 0,.int .i64 0,.int .i64 0,.bool false,.bool false,.bool false,.int .i64 0,.pointer (some ⟨q,0,none⟩),.pointer none,.int .i64 0,.int .i64 0,.bool false,.int .i64 0,.int .i64 0,.int .i64 0,.bool false,.bool false,.bool false,.int .i64 0,.int .i64 0,.int .i64 0,.bool false,.int .i64 0,.int .i64 0,.int .i64 0,.bool false,.bool false,.bool false,.int .i64 0,.int .i64 0,.int .i64 0,.int .i64 0,.slice none 0 0,.string ⟨#[]⟩,.int .i32 0,.int .i64 0,.pointer none,.slice none 0 0] 89);have B:=(Below.refl A.heap.size A).alloc (Nat.le_refl _) (.cells #[.int .i64 0,.int .i64 0,.bool false,.int .i64 0,.int .i64 0,.int .i64 0,.bool false,.bool false,.bool false,.int .i64 0,.pointer (some ⟨q,0,none⟩),.pointer none,.int .i64 0,.int .i64 0,.bool false,.int .i64 0,.int .i64 0,.int .i64 0,.bool false,.bool false,.bool false,.int .i64 0,.int .i64 0,.int .i64 0,.bool false,.int .i64 0,.int .i64 0,.int .i64 0,.bool false,.bool false,.bool false,.int .i64 0,.int .i64 0,.int .i64 0,.int .i64 0,.slice none 0 0,.string ⟨#[]⟩,.int .i32 0,.int .i64 0,.pointer none,.slice none 0 0] 89);have O:=Qh (show zoZ w (fun k=>if k=A.heap.size then 1 else 0) A.heap.size (A.alloc (.cells #[.int .i64 0,.int .i64 0,.bool false,.int .i64 0,.int .i64 0,.int .i64 0,.bool false,.bool false,.bool false,.int .i64 0,.pointer (some ⟨q,0,none⟩),.pointer none,.int .i64 0,.int .i64 0,.bool false,.int .i64 0,.int .i64 0,.int .i64 0,.bool false,.bool false,.bool false,.int .i64 0,.int .i64 0,.int .i64 0,.bool false,.int .i64 0,.int .i64 0,.int .i64 0,.bool false,.bool false,.bool false,.int .i64 0,.int .i64 0,.int .i64 0,.int .i64 0,.slice none 0 0,.string ⟨#[]⟩,.int .i32 0,.int .i64 0,.pointer none,.slice none 0 0] 89)) (Z1 cols rows hist) 0 [] from
  ⟨fun k hk=>by
    by_cases e:k=A.heap.size
    ·rw[e];simp
    ·simp[e]at hk,by simp,fun k hk=>by
    by_cases e:k=A.heap.size
    ·rw[e];exact D.size
    ·simp[e]at hk,L,D.trans (B.mono D.size),_,T,q,.slice none 0 0,E,rfl,rfl,rfl,rfl,F.below B,Zy _ _ _,fun k e=>by simp[Value.ownBlock]at e⟩)
 clear E B;go_upto_region 5 with fail;generalize (A.alloc (.cells #[.int .i64 0,.int .i64 0,.bool false,.int .i64 0,.int .i64 0,.int .i64 0,.bool false,.bool false,.bool false,.int .i64 0,.pointer (some ⟨q,0,none⟩),.pointer none,.int .i64 0,.int .i64 0,.bool false,.int .i64 0,.int .i64 0,.int .i64 0,.bool false,.bool false,.bool false,.int .i64 0,.int .i64 0,.int .i64 0,.bool false,.int .i64 0,.int .i64 0,.int .i64 0,.bool false,.bool false,.bool false,.int .i64 0,.int .i64 0,.int .i64 0,.int .i64 0,.slice none 0 0,.string ⟨#[]⟩,.int .i32 0,.int .i64 0,.pointer none,.slice none 0 0] 89))=U at *;generalize A.heap.size=p at *;go_wp2_with fail;refine(zf5 O).mono ?_;rintro e N ⟨rfl,H,h4,S⟩;have M:=Qh (show SR w H p N (zdR cols rows hist) s0 from by
  have:zdR cols rows hist=((zcy (Z1 cols rows hist) 0 []).stops).whole:=rfl;rw[this];exact h4)
 clear h4 S;go_wp2_with fail;refine zcD rfl rfl rfl rfl ⟨p,H,rfl,M⟩
def Scr.soft0 (s:Scr):Scr:={ s with now:={ zbp with x:=s.now.x,y:=s.now.y } }
theorem zlr {B:World} {C:Nat→Nat} {p:Nat} {w:World} {s:Scr} {ps:PSt} (h:SR B C p w s ps) :
  Calls prog 155 #[.pointer (some ⟨p,0,none⟩)] w fun e w'=>e=.returned (.tuple #[])∧zy B C p w w' s.soft ps:=by
 have HR:=Qh h;have R:w.cell? ⟨p,0,none⟩=some (.int .i64 s.now.x):=h.at_ 0 _;have L:w.cell? ⟨p,1,none⟩=some (.int .i64 s.now.y):=h.at_ 1 _;clear h;go_enter func155,ntmps155;go_upto_region 0 with fail;go_quiet (fail);have M:=Qh (zm (Below.refl w.heap.size w) nq);have h:=HR.out.below M;have S:=Qh h;clear h;generalize w.drewN nq=wn at *;clear R L;go_wp2_with fail;refine(zcP wn).mono ?_;rintro e w2 ⟨rfl,X⟩;have U:=S.out.below X;have T:=Qh (M.trans (X.mono M.size));have A:=zdL zbp (U.there 0 10 (by decide));rw[show zbp.arr=#[.int .i64 0,.int .i64 0,.bool false,.int .i64 (-1),.int .i64 (-1),.int .i64 0,.bool false,.bool false,.bool false,.int .i64 0] from rfl]at A;obtain⟨h3,g3⟩:=U.setNow zbp;have E:=Qh h3;have G3:=Qh g3;clear U h3 g3 X;go_upto_region 2 with (refine zF rfl _ _ _ rfl A rfl rfl ?_);clear A;generalize w2.setCells p 0 zbp.vals=I at *;have R:I.cell? ⟨p,0,none⟩=some (.int .i64 0):=E.out.at_ 0 _;have L:I.cell? ⟨p,1,none⟩=some (.int .i64 0):=E.out.at_ 1 _;have f0:=E.out.fz 0;have f1:=E.out.fz 1;obtain⟨h4,g4⟩:=E.out.set 0 (.int .i64 s.now.x) { s with now:={ zbp with x:=s.now.x } };obtain⟨h5,Z⟩:=h4.set 1 (.int .i64 s.now.y) s.soft0;have H5:=Qh h5;have P5:=Qh ((Pre.refl C w).below T |>.trans (G3.trans (g4.trans Z)));clear h4 g4 h5 Z;go_upto_region 3 with fail;generalize (I.setCell ⟨p,0,none⟩ (.int .i64 s.now.x)).setCell ⟨p,1,none⟩ (.int .i64 s.now.y)=w4 at *;clear R L f0 f1;go_wp2_with fail;refine(zbh H5).mono ?_;rintro e w5 ⟨rfl,C6,G,p6⟩;have V:w5.cell? ⟨p,32,none⟩=some (.int .i64 s.modes):=G.at_ 32 _;have N:=G.fz 32;obtain⟨Y,g7⟩:=G.set 32 (.int .i64 (ZD s.modes 54)) { s.soft0.whole with modes:=ZD s.modes 54 };obtain⟨h8,g8⟩:=Y.set 32 (.int .i64 (bOr (ZD s.modes 54) 9)) { s.soft0.whole with modes:=bOr (ZD s.modes 54) 9 };have H8:=Qh h8;have P8:=Qh (P5.trans (p6.trans (g7.trans g8)));clear G p6 Y g7 h8 g8;go_upto_region 6 with fail;rw[show bits BinOp.andNot IntKind.i64 s.modes 54=ZD s.modes 54 from rfl,show bits BinOp.or IntKind.i64 (ZD s.modes 54) 9=bOr (ZD s.modes 54) 9 from rfl];generalize A0:(w5.setCell ⟨p,32,none⟩ (.int .i64 (ZD s.modes 54))).setCell ⟨p,32,none⟩ (.int .i64 (bOr (ZD s.modes 54) 9))=w6 at *;clear V N;have J:=Qh (show s.soft=({ s.soft0.whole with modes:=bOr (ZD s.modes 54) 9 }:Scr).setSlot zbp from rfl);generalize ({ s.soft0.whole with modes:=bOr (ZD s.modes 54) 9 }:Scr)=s6 at *;go_wp2_with fail;refine(zeR H8).mono ?_;rintro e w7 ⟨rfl,rfl⟩;go_wp2_with fail;refine(zcP _).mono ?_;rintro e w8 ⟨rfl,H⟩;have O:=H8.out.below H;have A:=zdL zbp O.thereSlot;rw[show zbp.arr=#[.int .i64 0,.int .i64 0,.bool false,.int .i64 (-1),.int .i64 (-1),.int .i64 0,.bool false,.bool false,.bool false,.int .i64 0] from rfl]at A;obtain⟨D,F⟩:=O.setSlot zbp;have HD:=Qh (show zy B C p w _ s.soft ps by rw[J.out];exact⟨_,D,(P8.below H).trans F⟩);clear O D F H;go_wp2_with (refine zF rfl _ _ _ rfl A rfl rfl ?_);go_end0;exact⟨rfl,HD⟩
end
section
open Go.RowKit
theorem zao {B:World} {C:Nat→Nat} {p:Nat} {w:World} {s:Scr} {ps:PSt} (h:SR B C p w s ps) (t:ByteArray) (hl:s.out.length≤1000000) (hb:t.data.toList.length≤1000000) :
  Calls prog 156 #[.pointer (some ⟨p,0,none⟩),.string t] w fun e w'=>e=.returned (.tuple #[])∧zy B C p w w' (s.say t.data.toList) ps:=by
 obtain⟨vo,O,F,M,J⟩:=h.outs;obtain⟨xo,mo,cp,rfl⟩:=zR F;have A:=h.fz 40;have X:=Qh F;have T:=Qh M;have S:=Qh J;have G:=Qh h.pl;clear F M J h;go_enter func156,ntmps156;go_wp2_with (at_builtin;refine zaQ ?_);unfold zaP;refine zfp zay rfl rfl 0 X rfl (zn2 _ underlying9 t) rfl (by unfold maxLen;omega) (by omega) (by omega) ?_;intro v6 D H E N;obtain⟨V,R,Y,rfl⟩:=zR H;have L:zp D 0 1 (.slice V R Y) (s.out++t.data.toList).length (zu (s.out++t.data.toList)):=(by rw[List.length_append,ZP];exact H);have Z:=Qh (S w D _ _ (zo _ _) E L N);have I:D.heap[p]?=w.heap[p]?:=E.block p G (fun e=>(T p e.symm).2 rfl);have U:=(zw I 40).trans O;have f6:=(zdu I 40).trans A;clear H E N L I A O;go_wp2_with fail;go_end0;exact⟨rfl,Z⟩
theorem zjB {B:World} {C:Nat→Nat} {p:Nat} {w:World} {s:Scr} {ps:PSt} (h:SR B C p w s ps) :
  Calls prog 234 #[.pointer (some ⟨p,0,none⟩)] w fun e w'=>e=.returned (.tuple #[])∧zy B C p w w' s.forget ps:=by
 obtain⟨T,q,D,G,A⟩:=h.main;have H:=Qh D;have L:=Qh A;clear D A h;go_enter func234,ntmps234;go_wp2_with fail;refine(zi9 H).mono ?_;rintro e I ⟨rfl,F,E⟩;have J:=Qh (L w I T _ (Below.refl _ _) F E (fun k A=>.inl A)).1;clear F E;go_wp2_with fail;go_end0;exact⟨rfl,J⟩
theorem zd5 {B:World} {C:Nat→Nat} {p c r:Nat} {w:World} {s:Scr} {ps:PSt} (h:SR B C p w s ps) (hok:s.Ok c r) (k:Int) :
  Calls prog 211 #[.pointer (some ⟨p,0,none⟩),.int .i64 k] w fun e w'=>e=.returned (.tuple #[])∧zy B C p w w' (s.inRow k) ps:=by
 by_cases h0:k=0
 ·subst h0;have HE:=Qh (show s.inRow 0=s.calm.turn (fun g=>(g.erase s.now.x s.now.y s.cols s.blank).setWrap s.now.y false) from rfl);have M:=Qh hok.calm;have I:=Qh (h.nums hok);have c2:w.cell? ⟨p,2,none⟩=some (.bool s.now.wait):=h.at_ 2 _;have f2:=h.fz 2;obtain⟨h1,N⟩:=h.set 2 (.bool false) s.calm;have F:=Qh h1;have P1:=Qh N;clear h h1 N hok;go_enter func211,ntmps211;go_upto_region 3 with fail;generalize w.setCell ⟨p,2,none⟩ (.bool false)=D at *;clear c2 f2;have V:D.cell? ⟨p,0,none⟩=some (.int .i64 s.now.x):=F.out.at_ 0 _;have J:D.cell? ⟨p,1,none⟩=some (.int .i64 s.now.y):=F.out.at_ 1 _;have hok:=M.out;obtain⟨T,q,Y,hq,H⟩:=F.out.grid;have HG:=Qh Y;have HQ:=Qh hq;have HK:=Qh H;have O:=Qh (F.blankR hok);clear Y hq H;go_upto_region 3 with fail
  go_region_held3 (fun w'=>w'.cell? ⟨p,0,none⟩=some (.int .i64 s.now.x)∧w'.cell? ⟨p,1,none⟩=some (.int .i64 s.now.y)) (first | exact⟨V,J⟩ | exact⟨U,z1⟩)
   (first
    | (go_at_call 56;refine(z8 (w:=D.drew) HQ).mono ?_;rintro e w4 ⟨rfl,rfl⟩)
    | (go_at_call 131;refine(Z3 (F.below (Below.refl _ _).drew)).mono ?_;rintro e wq ⟨rfl,rfl⟩)
    | (go_at_call 144;refine(ZG (F.below (Below.refl _ _).drew)).mono ?_;rintro e w5 ⟨rfl,R⟩;have G:=Qh ((Below.refl D.heap.size D).drew.trans R);have U:=zc R V;have z1:=zc R J;clear R)
    | (go_at_call 231;refine(zdH (HG.below G) _ _ _ _ (O.below G)).mono ?_;rintro e w6 ⟨rfl,E,X⟩;obtain⟨L,A⟩:=HK.out _ _ _ (fun g=>g.erase s.now.x s.now.y s.main.cols s.blank) G E X (fun k H=>.inl H);have Z:=Qh L;have U:=(zw A 0).trans V;have z1:=(zw A 1).trans J;clear E X A L))
  obtain⟨C2,h2,p2⟩:=Z.out;have H2:=Qh h2;have P2:=Qh (P1.trans p2);have B0:w6.cell? ⟨p,1,none⟩=some (.int .i64 s.now.y):=by
   have:=h2.at_ 1 _;rw[za3]at this;exact this
  clear h2 p2 U z1 V J HG HQ HK O Z F P1 hok;obtain⟨T,q,Y,hq,H⟩:=H2.out.grid;have HG:=Qh Y;have HQ:=Qh hq;have HK:=Qh H;clear Y hq H;obtain⟨D,D0⟩:∃ z,z=w6:=⟨_,rfl⟩;subst D0;have J:D.cell? ⟨p,1,none⟩=some (.int .i64 s.now.y):=B0;clear B0;go_upto_region 4 with fail
  go_region_held3 (fun w'=>w'.cell? ⟨p,1,none⟩=some (.int .i64 s.now.y)) (first | exact J | exact U)
   (first
    | (go_at_call 56;refine(z8 (w:=D.drew) HQ).mono ?_;rintro e w4 ⟨rfl,rfl⟩)
    | (go_at_call 183;refine(zeE (HG.below (Below.refl _ _).drew) _ _).mono ?_;rintro e w6 ⟨rfl,E,X⟩;obtain⟨L,A⟩:=HK.out _ _ _ (fun g=>g.setWrap s.now.y false) (Below.refl _ _).drew E X (fun k H=>.inl H);have Z:=Qh L;have U:=(zw A 1).trans J;clear E X A L))
  go_wp2_with fail;go_end0;refine⟨rfl,?_⟩;have A0:=Z.out;rw[zcO]at A0;rw[HE.out];exact .after P2 A0
 by_cases h1:k=1
 ·subst h1;clear h0;have HE:=Qh (show s.inRow 1=s.calm.turn (fun g=>g.erase 0 s.now.y (s.now.x+1) s.blank) from rfl);have M:=Qh hok.calm;have I:=Qh (h.nums hok);have c2:w.cell? ⟨p,2,none⟩=some (.bool s.now.wait):=h.at_ 2 _;have f2:=h.fz 2;obtain⟨h1,N⟩:=h.set 2 (.bool false) s.calm;have F:=Qh h1;have P1:=Qh N;clear h h1 N hok;go_enter func211,ntmps211;go_upto_region 6 with fail;generalize w.setCell ⟨p,2,none⟩ (.bool false)=D at *;clear c2 f2;have V:D.cell? ⟨p,0,none⟩=some (.int .i64 s.now.x):=F.out.at_ 0 _;have J:D.cell? ⟨p,1,none⟩=some (.int .i64 s.now.y):=F.out.at_ 1 _;have hok:=M.out;obtain⟨T,q,Y,hq,H⟩:=F.out.grid;have HG:=Qh Y;have HQ:=Qh hq;have HK:=Qh H;have O:=Qh (F.blankR hok);clear Y hq H;have hw:IntKind.i64.wrap (s.now.x+1)=s.now.x+1:=(by have h1:=I.out.x0;have h2:=I.out.x1;have h3:=I.out.c2;exact zd _ (by omega) (by omega));go_upto_region 6 with fail
  go_region_held3 (fun w'=>w'.cell? ⟨p,0,none⟩=some (.int .i64 s.now.x)∧w'.cell? ⟨p,1,none⟩=some (.int .i64 s.now.y)) (first | exact⟨V,J⟩ | exact⟨U,z1⟩)
   (first
    | (go_at_call 56;refine(z8 (w:=D.drew) HQ).mono ?_;rintro e w4 ⟨rfl,rfl⟩)
    | (go_at_call 144;refine(ZG (F.below (Below.refl _ _).drew)).mono ?_;rintro e w5 ⟨rfl,R⟩;have G:=Qh ((Below.refl D.heap.size D).drew.trans R);have U:=zc R V;have z1:=zc R J;clear R)
    | (go_at_call 231;refine(zdH (HG.below G) _ _ _ _ (O.below G)).mono ?_;rintro e w6 ⟨rfl,E,X⟩;obtain⟨L,A⟩:=HK.out _ _ _ (fun g=>g.erase 0 s.now.y (s.now.x+1) s.blank) G E X (fun k H=>.inl H);have Z:=Qh L;have U:=(zw A 0).trans V;have z1:=(zw A 1).trans J;clear E X A L))
  go_wp2_with fail;go_end0;refine⟨rfl,?_⟩;rw[HE.out];exact .after P1 Z
 by_cases h2:k=2
 ·subst h2;clear h0 h1;have HE:=Qh (show s.inRow 2=s.calm.clean s.now.y (s.now.y+1) from rfl);have M:=Qh hok.calm;have I:=Qh (h.nums hok);have c2:w.cell? ⟨p,2,none⟩=some (.bool s.now.wait):=h.at_ 2 _;have f2:=h.fz 2;obtain⟨h1,N⟩:=h.set 2 (.bool false) s.calm;have F:=Qh h1;have P1:=Qh N;clear h h1 N hok;go_enter func211,ntmps211;go_upto_region 8 with fail;generalize w.setCell ⟨p,2,none⟩ (.bool false)=D at *;clear c2 f2;have J:D.cell? ⟨p,1,none⟩=some (.int .i64 s.now.y):=F.out.at_ 1 _;have S:=I.out;have E0:=S.y0;have F0:=S.y1;have G0:=S.r2;have hw:IntKind.i64.wrap (s.now.y+1)=s.now.y+1:=zd _ (by omega) (by omega);clear S
  go_still_tail 12,(by kernel_rfl)
  change wpList _ _ _ _ _ D.drew;go_wp2_with fail;refine(zc7 (F.below (Below.refl _ _).drew) M s.now.y (s.now.y+1) ⟨by omega,by omega⟩ (by omega)).mono ?_;rintro e w6 ⟨rfl,L⟩;have C0:=Qh (zy.after (P1.below (Below.refl _ _).drew) L);clear L;go_wp2_with fail;go_end0;refine⟨rfl,?_⟩;rw[HE.out];exact C0
 have HE:=Qh (show s.inRow k=s.calm by unfold Scr.inRow;rw[if_neg h0,if_neg h1,if_neg h2]);have e0:(k == 0)=false:=Qb h0;have e1:(k == 1)=false:=Qb h1;have e2:(k == 2)=false:=Qb h2;have c2:w.cell? ⟨p,2,none⟩=some (.bool s.now.wait):=h.at_ 2 _;have f2:=h.fz 2;obtain⟨h1,N⟩:=h.set 2 (.bool false) s.calm;have Z:=Qh (show zy B C p w _ _ ps from⟨_,h1,N⟩);clear h h1 N hok h0 h2;go_enter func211,ntmps211;go_wp2_with fail;go_end0;refine⟨rfl,?_⟩;rw[HE.out];exact Z
theorem zjC {B:World} {C:Nat→Nat} {p c r:Nat} {w:World} {s:Scr} {ps:PSt} (h:SR B C p w s ps) (hok:s.Ok c r) (k:Int) :
  Calls prog 210 #[.pointer (some ⟨p,0,none⟩),.int .i64 k] w fun e w'=>e=.returned (.tuple #[])∧zy B C p w w' (s.inAll k) ps:=by
 by_cases h0:k=0
 ·subst h0;have L:=Qh (show s.inAll 0=(s.calm.inRow 0).clean (s.now.y+1) s.rows from rfl);have D:=Qh hok.calm;have E:=Qh (h.nums hok);have J:=Qh hok;have Y:w.cell? ⟨p,2,none⟩=some (.bool s.now.wait):=h.at_ 2 _;have Z:=h.fz 2;obtain⟨h1,G⟩:=h.set 2 (.bool false) s.calm;have M:=Qh h1;have R:=Qh G;have A:=E.out;have N:=A.y0;have O:=A.y1;have S:=A.r2;have hw:IntKind.i64.wrap (s.now.y+1)=s.now.y+1:=zd _ (by omega) (by omega);clear h h1 G hok A;go_enter func210,ntmps210;go_wp2_with fail;refine(zd5 M D 0).mono ?_;rintro e X ⟨rfl,C2,h2,U⟩;have T:=Qh h2;have P2:=Qh (R.trans U);have H:=Qh (D.inRow 0);have V:=Qh (show(s.calm.inRow 0).main.rows.length=s.main.rows.length from H.out.main.2.trans D.main.2.symm);have A0:=Qh (show s.inAll 0=(s.calm.inRow 0).clean (s.now.y+1) s.rows from L.out);clear h2 U;have c1:X.cell? ⟨p,1,none⟩=some (.int .i64 s.now.y):=by
   have:=T.out.at_ 1 _;rw[show(s.calm.inRow 0).now.y=s.now.y by unfold Scr.inRow;rw[if_pos rfl,za3];rfl]at this;exact this
  go_upto_region 4 with fail
  go_still_tail 9,(by kernel_rfl)
  still_call (ZY (T.below (Below.refl _ _).drew))
  repeat still_step
  refine wpStill_nil ?_;change wpList _ _ _ _ _ X.drew;rw[V.out];go_wp2_with fail;refine(zc7 (T.below (Below.refl _ _).drew) H (s.now.y+1) s.main.rows.length ⟨by omega,by omega⟩ (by omega)).mono ?_;rintro e w6 ⟨rfl,I⟩;have F:=Qh (zy.after (P2.below (Below.refl _ _).drew) I);clear I;go_wp2_with fail;go_end0;refine⟨rfl,?_⟩;rw[L.out];exact F
 by_cases h1:k=1
 ·subst h1;clear h0;have L:=Qh (show s.inAll 1=(s.calm.inRow 1).clean 0 s.now.y from rfl);have D:=Qh hok.calm;have E:=Qh (h.nums hok);have J:=Qh hok;have Y:w.cell? ⟨p,2,none⟩=some (.bool s.now.wait):=h.at_ 2 _;have Z:=h.fz 2;obtain⟨h1,G⟩:=h.set 2 (.bool false) s.calm;have M:=Qh h1;have R:=Qh G;have A:=E.out;have N:=A.y0;have O:=A.y1;have S:=A.r2;have hw:IntKind.i64.wrap (s.now.y+1)=s.now.y+1:=zd _ (by omega) (by omega);clear h h1 G hok A;go_enter func210,ntmps210;go_wp2_with fail;refine(zd5 M D 1).mono ?_;rintro e X ⟨rfl,C2,h2,U⟩;have T:=Qh h2;have P2:=Qh (R.trans U);have H:=Qh (D.inRow 1);have V:=Qh (show(s.calm.inRow 1).main.rows.length=s.main.rows.length from H.out.main.2.trans D.main.2.symm);have A0:=Qh (show s.inAll 1=(s.calm.inRow 1).clean 0 s.now.y from L.out);clear h2 U;have c1:X.cell? ⟨p,1,none⟩=some (.int .i64 s.now.y):=by
   have:=T.out.at_ 1 _;rw[show(s.calm.inRow 1).now.y=s.now.y by unfold Scr.inRow;rw[if_neg (by decide),if_pos rfl,za3];rfl]at this;exact this
  go_wp2_with fail;refine(zc7 T H 0 s.now.y ⟨by omega,by omega⟩ (by omega)).mono ?_;rintro e w6 ⟨rfl,I⟩;have F:=Qh (zy.after P2 I);clear I;go_wp2_with fail;go_end0;refine⟨rfl,?_⟩;rw[L.out];exact F
 by_cases h2:k=2
 ·subst h2;clear h0 h1;have L:=Qh (show s.inAll 2=s.calm.clean 0 s.rows from rfl);have D:=Qh hok.calm;have E:=Qh (h.nums hok);have J:=Qh hok;have Y:w.cell? ⟨p,2,none⟩=some (.bool s.now.wait):=h.at_ 2 _;have Z:=h.fz 2;obtain⟨h1,G⟩:=h.set 2 (.bool false) s.calm;have M:=Qh h1;have R:=Qh G;have A:=E.out;have N:=A.y0;have O:=A.y1;have S:=A.r2;have hw:IntKind.i64.wrap (s.now.y+1)=s.now.y+1:=zd _ (by omega) (by omega);clear h h1 G hok A;go_enter func210,ntmps210;go_wp2_with fail;refine(ZY M).mono ?_;rintro e X ⟨rfl,rfl⟩;go_wp2_with fail;refine(zc7 M D 0 s.main.rows.length ⟨by omega,by omega⟩ (by omega)).mono ?_;rintro e w6 ⟨rfl,I⟩;have F:=Qh (zy.after R I);clear I;go_wp2_with fail;go_end0;refine⟨rfl,?_⟩;rw[L.out];exact F
 by_cases h3:k=3
 ·subst h3;clear h0 h1 h2;have L:=Qh (show s.inAll 3=s.calm.forget from rfl);have D:=Qh hok.calm;have E:=Qh (h.nums hok);have J:=Qh hok;have Y:w.cell? ⟨p,2,none⟩=some (.bool s.now.wait):=h.at_ 2 _;have Z:=h.fz 2;obtain⟨h1,G⟩:=h.set 2 (.bool false) s.calm;have M:=Qh h1;have R:=Qh G;have A:=E.out;have N:=A.y0;have O:=A.y1;have S:=A.r2;have hw:IntKind.i64.wrap (s.now.y+1)=s.now.y+1:=zd _ (by omega) (by omega);clear h h1 G hok A;go_enter func210,ntmps210;go_wp2_with fail;refine(zjB M).mono ?_;rintro e w6 ⟨rfl,I⟩;have F:=Qh (zy.after R I);clear I;go_wp2_with fail;go_end0;refine⟨rfl,?_⟩;rw[L.out];exact F
 have L:=Qh (show s.inAll k=s.calm by unfold Scr.inAll;rw[if_neg h0,if_neg h1,if_neg h2,if_neg h3]);have e0:(k == 0)=false:=Qb h0;have e1:(k == 1)=false:=Qb h1;have e2:(k == 2)=false:=Qb h2;have e3:(k == 3)=false:=Qb h3;have Y:w.cell? ⟨p,2,none⟩=some (.bool s.now.wait):=h.at_ 2 _;have Z:=h.fz 2;obtain⟨h1,G⟩:=h.set 2 (.bool false) s.calm;have HD:=Qh (show zy B C p w _ _ ps from⟨_,h1,G⟩);clear h h1 G hok h0 h2 h3;go_enter func210,ntmps210;go_wp2_with fail;go_end0;refine⟨rfl,?_⟩;rw[L.out];exact HD
theorem zii {B:World} {C:Nat→Nat} {p c r:Nat} {w:World} {s:Scr} {ps:PSt} (h:SR B C p w s ps) (hok:s.Ok c r) (n:Nat) (h9:n≤9999) (hlast:-2147483648≤s.last∧s.last≤2147483647) :
  Calls prog 208 #[.pointer (some ⟨p,0,none⟩),.int .i64 (n:Int)] w fun e w'=>e=.returned (.tuple #[])∧zy B C p w w' (itF (fun t=>if t.last≠0 then t.print t.last else t) n s) ps:=by
 have M:=h.nums hok;have HR:=Qh h;have R:=Qh hok;have S:=Qh (show 1≤c by rw[(M.ok hok).1];exact M.c1);have N:=Qh hlast;clear M h hok hlast;obtain⟨F,O⟩:∃ F:Scr→Scr,F=fun t=>if t.last≠0 then t.print t.last else t:=⟨_,rfl⟩
 rw[← O];have I:=Qh O;clear O;go_enter func208,ntmps208;go_wp2_with fail
 go_loopw [5] (fun iv wr=>∃ (k:Nat) (J:Nat→Nat) (t:Scr),k≤n∧iv=.int .i64 k∧Hid (SR B J p wr t ps)∧Hid (t.Ok c r)∧Hid (t.last=s.last)∧Hid (Pre C w J wr)∧Hid (itF F (n-k) t=itF F n s)) (fun iv _=>n-(intOf iv).toNat)
 case atStart=>exact⟨0,C,s,Nat.zero_le _,rfl,HR,R,Qh rfl,Qh (Pre.refl _ _),Qh rfl⟩
 case round =>
  obtain⟨k,J,t,hk,rfl,L,A,E,D,X⟩:=hrel;by_cases hlt:k<n;rotate_left
  ·obtain rfl:k=n:=(by omega);have HD:=Qh (show zy B C p w wr (itF F k s) ps by
    rw[← X.out,Nat.sub_self];exact⟨J,L,D⟩)
   go_wp2_with fail;go_end0;exact⟨rfl,HD⟩
  have Y:wr.cell? ⟨p,37,none⟩=some (.int .i32 t.last):=L.out.at_ 37 _;have H:=Qh (show ∀ u,u=F t→itF F (n-(k+1)) u=itF F n s from fun u hu=>by
   rw[hu,← X.out,show n-k=(n-(k+1))+1 by omega];rfl)
  by_cases hz:t.last=0
  ·have e1:(t.last != 0)=false:=(by rw[hz];rfl);have G:=Qh (show F t=t by rw[I.out];exact if_neg (fun e=>e hz));clear hz;go_wp2_with fail;go_roundw
   case rel=>exact⟨k+1,J,t,by omega,by go_num,L,A,E,D,Qh (H t G.out.symm)⟩
   case measure=>simp[intOf];omega
  ·have e1:(t.last != 0)=true:=bne_iff_ne.2 hz;have G:=Qh (show F t=t.print t.last by rw[I.out];exact if_pos hz);have T:=Qh (show(t.print t.last).last=t.last by unfold Scr.print;dsimp only;split <;> rfl);clear hz;go_wp2_with fail;refine(zfX L A t.last (by rw[E.out];exact N)).mono ?_;rintro e w2 ⟨rfl,Z,U,V⟩;have H2:=Qh U;have P2:=Qh (D.trans V);clear U V;go_wp2_with fail;go_roundw
   case rel=>exact⟨k+1,Z,_,by omega,by go_num,H2,Qh (A.print S _),Qh (T.trans E),P2,Qh (H _ G.out.symm)⟩
   case measure=>simp[intOf];omega
end
end Go.Proofs.YthehkmopdeebmaaGreatDoor
