/- Part. -/
import Derived.Test.YthehkmopdeebmaaGreatDoorY24
import Derived.Test.YthehkmopdeebmaaGreatDoorY25
set_option linter.unusedVariables false
set_option linter.unusedSimpArgs false
set_option maxRecDepth 100000
set_option maxHeartbeats 4000000
namespace Go.Proofs.YthehkmopdeebmaaGreatDoor
open _root_.Go.Proofs.Tryz
section
open Go.RowKit
theorem zf7 {B:World} {C:Nat→Nat} {p c r:Nat} {w:World} {s:Scr} {ps:PSt} (h:SR B C p w s ps) (hok:s.Ok c r) (n:Int) (h0:0≤n) (h9:n≤9999) :
  Calls prog 193 #[.pointer (some ⟨p,0,none⟩),.int .i64 n] w fun e w'=>e=.returned (.tuple #[])∧zy B C p w w' (s.place (s.now.x+n) (s.now.y)) ps:=by
 have O:=Qh h;obtain⟨E,I,M,R,T,H,F,G,S,L,U,J,N⟩:=h.nums hok;have Y:w.cell? ⟨p,0,none⟩=some (.int .i64 s.now.x):=h.at_ 0 _;have X:w.cell? ⟨p,1,none⟩=some (.int .i64 s.now.y):=h.at_ 1 _;have Z:IntKind.i64.wrap (s.now.x+n)=s.now.x+n:=zd _ (by omega) (by omega);clear h hok E I M R T H F G S L U J N;go_enter func193,ntmps193;go_upto_region 0 with fail
 go_still_tail 13,(by kernel_rfl)
 change wpList _ _ _ _ _ w.drew;go_wp2_with fail;refine(Zo (O.below (Below.refl _ _).drew) (s.now.x+n) (s.now.y)).mono ?_;rintro e V ⟨rfl,D⟩;have A:=Qh (zy.after ((Pre.refl _ _).below (Below.refl _ _).drew) D);clear D;go_wp2_with fail;go_end0;refine⟨rfl,?_⟩;exact A
theorem zls {B:World} {C:Nat→Nat} {p c r:Nat} {w:World} {s:Scr} {ps:PSt} (h:SR B C p w s ps) (hok:s.Ok c r) (n:Int) (h0:0≤n) (h9:n≤9999) :
  Calls prog 194 #[.pointer (some ⟨p,0,none⟩),.int .i64 n] w fun e w'=>e=.returned (.tuple #[])∧zy B C p w w' (s.place (s.now.x-n) (s.now.y)) ps:=by
 have O:=Qh h;obtain⟨E,I,M,R,T,H,F,G,S,L,U,J,N⟩:=h.nums hok;have Y:w.cell? ⟨p,0,none⟩=some (.int .i64 s.now.x):=h.at_ 0 _;have X:w.cell? ⟨p,1,none⟩=some (.int .i64 s.now.y):=h.at_ 1 _;have Z:IntKind.i64.wrap (s.now.x-n)=s.now.x-n:=zd _ (by omega) (by omega);clear h hok E I M R T H F G S L U J N;go_enter func194,ntmps194;go_upto_region 0 with fail
 go_still_tail 13,(by kernel_rfl)
 change wpList _ _ _ _ _ w.drew;go_wp2_with fail;refine(Zo (O.below (Below.refl _ _).drew) (s.now.x-n) (s.now.y)).mono ?_;rintro e V ⟨rfl,D⟩;have A:=Qh (zy.after ((Pre.refl _ _).below (Below.refl _ _).drew) D);clear D;go_wp2_with fail;go_end0;refine⟨rfl,?_⟩;exact A
theorem zfn {B:World} {C:Nat→Nat} {p c r:Nat} {w:World} {s:Scr} {ps:PSt} (h:SR B C p w s ps) (hok:s.Ok c r) (n:Int) (h0:0≤n) (h9:n≤9999) :
  Calls prog 197 #[.pointer (some ⟨p,0,none⟩),.int .i64 n] w fun e w'=>e=.returned (.tuple #[])∧zy B C p w w' (s.place (n-1) (s.now.y)) ps:=by
 have O:=Qh h;obtain⟨E,I,M,R,T,G,H,F,S,L,U,J,N⟩:=h.nums hok;have X:w.cell? ⟨p,1,none⟩=some (.int .i64 s.now.y):=h.at_ 1 _;have Y:IntKind.i64.wrap (n-1)=n-1:=zd _ (by omega) (by omega);clear h hok E I M R T G H F S L U J N;go_enter func197,ntmps197;go_wp2_with fail;refine(Zo O (n-1) (s.now.y)).mono ?_;rintro e V ⟨rfl,D⟩;have A:=Qh D;clear D;go_wp2_with fail;go_end0;exact⟨rfl,A⟩
theorem zkn {B:World} {C:Nat→Nat} {p c r:Nat} {w:World} {s:Scr} {ps:PSt} (h:SR B C p w s ps) (hok:s.Ok c r) (n:Int) (h0:0≤n) (h9:n≤9999) :
  Calls prog 191 #[.pointer (some ⟨p,0,none⟩),.int .i64 n] w fun e w'=>e=.returned (.tuple #[])∧zy B C p w w' (s.place s.now.x (s.upY n)) ps:=by
 have M:=Qh h;obtain⟨R,V,Z,y1,t0,T,U,S,k2,Y,r2,X,pn⟩:=h.nums hok;have J:w.cell? ⟨p,0,none⟩=some (.int .i64 s.now.x):=h.at_ 0 _;have I:w.cell? ⟨p,1,none⟩=some (.int .i64 s.now.y):=h.at_ 1 _;have D:w.cell? ⟨p,33,none⟩=some (.int .i64 s.top):=h.at_ 33 _;have A0:IntKind.i64.wrap (s.now.y-s.top)=s.now.y-s.top:=zd _ (by omega) (by omega);by_cases hy:s.top≤s.now.y
 ·have e1:decide (s.top≤s.now.y)=true:=Qt hy;have N:=Qh (show s.upY n=s.now.y-min n (s.now.y-s.top) by unfold Scr.upY;rw[if_pos hy]);have hw:IntKind.i64.wrap (s.now.y-min n (s.now.y-s.top))=s.now.y-min n (s.now.y-s.top):=zd _ (by omega) (by omega);clear h hok hy R V Z y1 t0 T U S k2 Y r2 X pn;go_enter func191,ntmps191;go_upto_region 0 with fail;go_quiet (fail);have E:=Qh (zm (Below.refl w.heap.size w) nq);have h:=M.out.below E;generalize w.drewN nq=A at *;clear J I D;have J:A.cell? ⟨p,0,none⟩=some (.int .i64 s.now.x):=h.at_ 0 _;have I:A.cell? ⟨p,1,none⟩=some (.int .i64 s.now.y):=h.at_ 1 _;have D:A.cell? ⟨p,33,none⟩=some (.int .i64 s.top):=h.at_ 33 _;have O:=Qh h;clear h;go_upto_region 1 with fail;go_quiet (fail);have F:=Qh (E.trans ((zm (Below.refl A.heap.size A) nq).mono E.size));have h:=O.out.below (zm (Below.refl A.heap.size A) nq);generalize A.drewN nq=G at *;clear J I D;have J:G.cell? ⟨p,0,none⟩=some (.int .i64 s.now.x):=h.at_ 0 _;have I:G.cell? ⟨p,1,none⟩=some (.int .i64 s.now.y):=h.at_ 1 _;have D:G.cell? ⟨p,33,none⟩=some (.int .i64 s.top):=h.at_ 33 _;clear h;go_upto_region 2 with fail
  go_still_tail 13,(by kernel_rfl)
  change wpList _ _ _ _ _ G.drew;go_wp2_with fail;refine(Zo (M.below (F.trans ((Below.refl G.heap.size G).drew.mono F.size))) s.now.x (s.now.y-min n (s.now.y-s.top))).mono ?_;rintro e w6 ⟨rfl,L⟩;have H:=Qh (zy.after ((Pre.refl _ _).below (F.trans ((Below.refl G.heap.size G).drew.mono F.size))) L);clear L;go_wp2_with fail;go_end0;refine⟨rfl,?_⟩;rw[N.out];exact H
 ·have e1:decide (s.top≤s.now.y)=false:=Qf hy;have N:=Qh (show s.upY n=s.now.y-n by unfold Scr.upY;rw[if_neg hy]);have hw:IntKind.i64.wrap (s.now.y-n)=s.now.y-n:=zd _ (by omega) (by omega);clear h hok hy R V Z y1 t0 T U S k2 Y r2 X pn;go_enter func191,ntmps191;go_upto_region 0 with fail;go_quiet (fail);have E:=Qh (zm (Below.refl w.heap.size w) nq);have h:=M.out.below E;generalize w.drewN nq=A at *;clear J I D;have J:A.cell? ⟨p,0,none⟩=some (.int .i64 s.now.x):=h.at_ 0 _;have I:A.cell? ⟨p,1,none⟩=some (.int .i64 s.now.y):=h.at_ 1 _;have D:A.cell? ⟨p,33,none⟩=some (.int .i64 s.top):=h.at_ 33 _;clear h;go_upto_region 2 with fail
  go_still_tail 13,(by kernel_rfl)
  change wpList _ _ _ _ _ A.drew;go_wp2_with fail;refine(Zo (M.below (E.trans ((Below.refl A.heap.size A).drew.mono E.size))) s.now.x (s.now.y-n)).mono ?_;rintro e w6 ⟨rfl,L⟩;have H:=Qh (zy.after ((Pre.refl _ _).below (E.trans ((Below.refl A.heap.size A).drew.mono E.size))) L);clear L;go_wp2_with fail;go_end0;refine⟨rfl,?_⟩;rw[N.out];exact H
theorem zeU {B:World} {C:Nat→Nat} {p c r:Nat} {w:World} {s:Scr} {ps:PSt} (h:SR B C p w s ps) (hok:s.Ok c r) (n:Int) (h0:0≤n) (h9:n≤9999) :
  Calls prog 192 #[.pointer (some ⟨p,0,none⟩),.int .i64 n] w fun e w'=>e=.returned (.tuple #[])∧zy B C p w w' (s.place s.now.x (s.downY n)) ps:=by
 have M:=Qh h;obtain⟨R,V,Z,y1,t0,T,U,S,k2,Y,r2,X,pn⟩:=h.nums hok;have J:w.cell? ⟨p,0,none⟩=some (.int .i64 s.now.x):=h.at_ 0 _;have I:w.cell? ⟨p,1,none⟩=some (.int .i64 s.now.y):=h.at_ 1 _;have D:w.cell? ⟨p,34,none⟩=some (.int .i64 s.bottom):=h.at_ 34 _;have A0:IntKind.i64.wrap (s.bottom-s.now.y)=s.bottom-s.now.y:=zd _ (by omega) (by omega);by_cases hy:s.now.y≤s.bottom
 ·have e1:decide (s.now.y≤s.bottom)=true:=Qt hy;have N:=Qh (show s.downY n=s.now.y+min n (s.bottom-s.now.y) by unfold Scr.downY;rw[if_pos hy]);have hw:IntKind.i64.wrap (s.now.y+min n (s.bottom-s.now.y))=s.now.y+min n (s.bottom-s.now.y):=zd _ (by omega) (by omega);clear h hok hy R V Z y1 t0 T U S k2 Y r2 X pn;go_enter func192,ntmps192;go_upto_region 0 with fail;go_quiet (fail);have E:=Qh (zm (Below.refl w.heap.size w) nq);have h:=M.out.below E;generalize w.drewN nq=A at *;clear J I D;have J:A.cell? ⟨p,0,none⟩=some (.int .i64 s.now.x):=h.at_ 0 _;have I:A.cell? ⟨p,1,none⟩=some (.int .i64 s.now.y):=h.at_ 1 _;have D:A.cell? ⟨p,34,none⟩=some (.int .i64 s.bottom):=h.at_ 34 _;have O:=Qh h;clear h;go_upto_region 1 with fail;go_quiet (fail);have F:=Qh (E.trans ((zm (Below.refl A.heap.size A) nq).mono E.size));have h:=O.out.below (zm (Below.refl A.heap.size A) nq);generalize A.drewN nq=G at *;clear J I D;have J:G.cell? ⟨p,0,none⟩=some (.int .i64 s.now.x):=h.at_ 0 _;have I:G.cell? ⟨p,1,none⟩=some (.int .i64 s.now.y):=h.at_ 1 _;have D:G.cell? ⟨p,34,none⟩=some (.int .i64 s.bottom):=h.at_ 34 _;clear h;go_upto_region 2 with fail
  go_still_tail 13,(by kernel_rfl)
  change wpList _ _ _ _ _ G.drew;go_wp2_with fail;refine(Zo (M.below (F.trans ((Below.refl G.heap.size G).drew.mono F.size))) s.now.x (s.now.y+min n (s.bottom-s.now.y))).mono ?_;rintro e w6 ⟨rfl,L⟩;have H:=Qh (zy.after ((Pre.refl _ _).below (F.trans ((Below.refl G.heap.size G).drew.mono F.size))) L);clear L;go_wp2_with fail;go_end0;refine⟨rfl,?_⟩;rw[N.out];exact H
 ·have e1:decide (s.now.y≤s.bottom)=false:=Qf hy;have N:=Qh (show s.downY n=s.now.y+n by unfold Scr.downY;rw[if_neg hy]);have hw:IntKind.i64.wrap (s.now.y+n)=s.now.y+n:=zd _ (by omega) (by omega);clear h hok hy R V Z y1 t0 T U S k2 Y r2 X pn;go_enter func192,ntmps192;go_upto_region 0 with fail;go_quiet (fail);have E:=Qh (zm (Below.refl w.heap.size w) nq);have h:=M.out.below E;generalize w.drewN nq=A at *;clear J I D;have J:A.cell? ⟨p,0,none⟩=some (.int .i64 s.now.x):=h.at_ 0 _;have I:A.cell? ⟨p,1,none⟩=some (.int .i64 s.now.y):=h.at_ 1 _;have D:A.cell? ⟨p,34,none⟩=some (.int .i64 s.bottom):=h.at_ 34 _;clear h;go_upto_region 2 with fail
  go_still_tail 13,(by kernel_rfl)
  change wpList _ _ _ _ _ A.drew;go_wp2_with fail;refine(Zo (M.below (E.trans ((Below.refl A.heap.size A).drew.mono E.size))) s.now.x (s.now.y+n)).mono ?_;rintro e w6 ⟨rfl,L⟩;have H:=Qh (zy.after ((Pre.refl _ _).below (E.trans ((Below.refl A.heap.size A).drew.mono E.size))) L);clear L;go_wp2_with fail;go_end0;refine⟨rfl,?_⟩;rw[N.out];exact H
theorem zlt {B:World} {C:Nat→Nat} {p c r:Nat} {w:World} {s:Scr} {ps:PSt} (h:SR B C p w s ps) (hok:s.Ok c r) (n:Int) (h0:0≤n) (h9:n≤9999) :
  Calls prog 195 #[.pointer (some ⟨p,0,none⟩),.int .i64 n] w fun e w'=>e=.returned (.tuple #[])∧zy B C p w w' ((s.place s.now.x (s.downY n)).toX 0) ps:=by
 have J:=Qh (zeU h hok n h0 h9);clear h hok;go_enter func195,ntmps195;go_wp2_with fail;refine J.mono ?_;rintro e H ⟨rfl,G⟩;obtain⟨I,A,F⟩:=G;have M:H.cell? ⟨p,0,none⟩=some (.int .i64 (s.place s.now.x (s.downY n)).now.x):=A.at_ 0 _;have N:=A.fz 0;obtain⟨D,E⟩:=A.set 0 (.int .i64 0) ((s.place s.now.x (s.downY n)).toX 0);have L:=Qh (show zy B C p w _ _ ps from⟨I,D,F.trans E⟩);clear A F D E;go_wp2_with fail;go_end0;exact⟨rfl,L⟩
theorem zij {B:World} {C:Nat→Nat} {p c r:Nat} {w:World} {s:Scr} {ps:PSt} (h:SR B C p w s ps) (hok:s.Ok c r) (n:Int) (h0:0≤n) (h9:n≤9999) :
  Calls prog 196 #[.pointer (some ⟨p,0,none⟩),.int .i64 n] w fun e w'=>e=.returned (.tuple #[])∧zy B C p w w' ((s.place s.now.x (s.upY n)).toX 0) ps:=by
 have J:=Qh (zkn h hok n h0 h9);clear h hok;go_enter func196,ntmps196;go_wp2_with fail;refine J.mono ?_;rintro e H ⟨rfl,G⟩;obtain⟨I,A,F⟩:=G;have M:H.cell? ⟨p,0,none⟩=some (.int .i64 (s.place s.now.x (s.upY n)).now.x):=A.at_ 0 _;have N:=A.fz 0;obtain⟨D,E⟩:=A.set 0 (.int .i64 0) ((s.place s.now.x (s.upY n)).toX 0);have L:=Qh (show zy B C p w _ _ ps from⟨I,D,F.trans E⟩);clear A F D E;go_wp2_with fail;go_end0;exact⟨rfl,L⟩
theorem zlu {B:World} {C:Nat→Nat} {p c r:Nat} {w:World} {s:Scr} {ps:PSt} (h:SR B C p w s ps) (hok:s.Ok c r) (n:Int) (h0:0≤n) (h9:n≤9999) :
  Calls prog 198 #[.pointer (some ⟨p,0,none⟩),.int .i64 n] w fun e w'=>e=.returned (.tuple #[])∧zy B C p w w' (s.place s.now.x (s.line (n-1))) ps:=by
 have Y:=Qh h;obtain⟨L,R,V,Z,t0,N,O,M,k2,U,r2,T,X⟩:=h.nums hok;have A:w.cell? ⟨p,0,none⟩=some (.int .i64 s.now.x):=h.at_ 0 _;have hw:IntKind.i64.wrap (n-1)=n-1:=zd _ (by omega) (by omega);have HL:=Qh (fun w' hb=>zcL (h.below (w':=w') hb) (n-1) ⟨by omega,by omega⟩ ⟨by omega,by omega⟩);clear h hok L R V Z t0 N O M k2 U r2 T X;go_enter func198,ntmps198;go_upto_region 0 with fail;refine zJ (c:=10) (S:=(fun bb w'=>True∧(bb=false→w'.cell? ⟨p,0,none⟩=some (.int .i64 s.now.x)))) (by kernel_rfl) (⟨trivial,fun _=>A⟩) (fun _=>?_);refine zb false 0 (⟨trivial,fun _=>A⟩) ?_;refine zb false 1 (⟨trivial,fun _=>A⟩) ?_;refine zb false 2 (⟨trivial,fun _=>A⟩) ?_;refine zb false 3 (⟨trivial,fun _=>A⟩) ?_;refine zb false 4 (⟨trivial,fun _=>A⟩) ?_;refine Zh 5 (⟨trivial,fun _=>A⟩) ?_;refine zb false 6 (⟨trivial,fun _=>A⟩) ?_;refine zb false 7 (⟨trivial,fun _=>A⟩) ?_;refine zb false 8 (⟨trivial,fun _=>A⟩) ?_;refine zj false 9 fun K hK=>?_;refine ze rfl ?_;go_wp2_with fail;refine(HL _ (Below.refl _ _).drew).mono ?_;rintro e J ⟨rfl,m,D⟩;have F:Below w.heap.size w J:=D ▸ zm (Below.refl w.heap.size w).drew m;clear D;have H:J.cell? ⟨p,0,none⟩=some (.int .i64 s.now.x):=zc F A;have E:=Qh F;refine hK.out _ _ (⟨trivial,fun _=>H⟩) (fun _=>?_);clear hK K F
 try simp only[Act.put,List.setIfInBounds_toArray,List.set_cons_zero,List.set_cons_succ]
 refine zj true 10 fun K hK=>?_;refine ze rfl ?_;go_wp2_with fail;refine(Zo (Y.below E) s.now.x (s.line (n-1))).mono ?_;rintro e w6 ⟨rfl,I⟩;have G:=Qh (zy.after ((Pre.refl _ _).below E) I);clear I;refine hK.out _ _ (⟨trivial,fun e=>by cases e⟩) (fun _=>?_);clear hK K
 try simp only[Act.put,List.setIfInBounds_toArray,List.set_cons_zero,List.set_cons_succ]
 refine zD (by kernel_rfl) ?_ _;go_wp2_with fail;go_end0;exact⟨rfl,G⟩
theorem zjD {B:World} {C:Nat→Nat} {p c r:Nat} {w:World} {s:Scr} {ps:PSt} (h:SR B C p w s ps) (hok:s.Ok c r) (n:Nat) (h9:n≤9999) :
  Calls prog 199 #[.pointer (some ⟨p,0,none⟩),.int .i64 (n:Int)] w fun e w'=>e=.returned (.tuple #[])∧zy B C p w w' (itF Scr.tab n s) ps:=by
 have E:=h.nums hok;obtain⟨U,Y⟩:=E.ok hok;have O:=E.c1;have S:=E.r1;have T:=Qh h;have G:=Qh hok;have I:=Qh (show 1≤c by omega);have H:=Qh (show 1≤r by omega);clear E h hok U Y O S;go_enter func199,ntmps199;go_wp2_with fail
 go_loopw [5] (fun iv wr=>∃ (k:Nat) (F:Nat→Nat) (t:Scr),k≤n∧iv=.int .i64 k∧Hid (SR B F p wr t ps)∧Hid (t.Ok c r)∧Hid (Pre C w F wr)∧Hid (itF Scr.tab (n-k) t=itF Scr.tab n s)) (fun iv _=>n-(intOf iv).toNat)
 case atStart=>exact⟨0,C,s,Nat.zero_le _,rfl,T,G,Qh (Pre.refl _ _),Qh rfl⟩
 case round =>
  obtain⟨k,F,t,hk,rfl,N,A,D,M⟩:=hrel;by_cases hlt:k<n
  ·go_wp2_with fail;refine(zh8 N A).mono ?_;rintro e w2 ⟨rfl,R,J,L⟩;have V:=Qh J;have X:=Qh (D.trans L);clear J L;go_wp2_with fail;go_roundw
   case rel =>
    refine⟨k+1,R,t.tab,by omega,by go_num,V,Qh (A.tab I H),X,Qh ?_⟩;rw[← M.out,show n-k=(n-(k+1))+1 by omega];rfl
   case measure=>simp[intOf];omega
  ·obtain rfl:k=n:=(by omega);have Z:=Qh (show zy B C p w wr (itF Scr.tab k s) ps by
    rw[← M.out,Nat.sub_self];exact⟨F,N,D⟩)
   go_wp2_with fail;go_end0;exact⟨rfl,Z⟩
theorem zjE {B:World} {C:Nat→Nat} {p c r:Nat} {w:World} {s:Scr} {ps:PSt} (h:SR B C p w s ps) (hok:s.Ok c r) (n:Nat) (h9:n≤9999) :
  Calls prog 200 #[.pointer (some ⟨p,0,none⟩),.int .i64 (n:Int)] w fun e w'=>e=.returned (.tuple #[])∧zy B C p w w' (itF Scr.back n s) ps:=by
 have E:=h.nums hok;obtain⟨U,Y⟩:=E.ok hok;have O:=E.c1;have S:=E.r1;have T:=Qh h;have G:=Qh hok;have I:=Qh (show 1≤c by omega);have H:=Qh (show 1≤r by omega);clear E h hok U Y O S;go_enter func200,ntmps200;go_wp2_with fail
 go_loopw [5] (fun iv wr=>∃ (k:Nat) (F:Nat→Nat) (t:Scr),k≤n∧iv=.int .i64 k∧Hid (SR B F p wr t ps)∧Hid (t.Ok c r)∧Hid (Pre C w F wr)∧Hid (itF Scr.back (n-k) t=itF Scr.back n s)) (fun iv _=>n-(intOf iv).toNat)
 case atStart=>exact⟨0,C,s,Nat.zero_le _,rfl,T,G,Qh (Pre.refl _ _),Qh rfl⟩
 case round =>
  obtain⟨k,F,t,hk,rfl,N,A,D,M⟩:=hrel;by_cases hlt:k<n
  ·go_wp2_with fail;refine(zlh N A).mono ?_;rintro e w2 ⟨rfl,R,J,L⟩;have V:=Qh J;have X:=Qh (D.trans L);clear J L;go_wp2_with fail;go_roundw
   case rel =>
    refine⟨k+1,R,t.back,by omega,by go_num,V,Qh (A.back I H),X,Qh ?_⟩;rw[← M.out,show n-k=(n-(k+1))+1 by omega];rfl
   case measure=>simp[intOf];omega
  ·obtain rfl:k=n:=(by omega);have Z:=Qh (show zy B C p w wr (itF Scr.back k s) ps by
    rw[← M.out,Nat.sub_self];exact⟨F,N,D⟩)
   go_wp2_with fail;go_end0;exact⟨rfl,Z⟩
end
section
open Go.RowKit
theorem zeu {B:World} {C:Nat→Nat} {p c r:Nat} {w:World} {s:Scr} {ps:PSt} (h:SR B C p w s ps) (hok:s.Ok c r) (k:Int) (on:Bool) :
  Calls prog 154 #[.pointer (some ⟨p,0,none⟩),.int .i64 k,.bool on] w fun e w'=>e=.returned (.tuple #[])∧zy B C p w w' (s.private k on) ps:=by
 by_cases h1:k=1
 ·subst h1;have G:=Qh (show s.private 1 on=s.mode 16 on from rfl);have L:=Qh h;have R:=Qh hok;clear h hok;go_enter func154,ntmps154;go_wp2_with fail;refine(ZF L 16 on).mono ?_;rintro e H ⟨rfl,M,A,D⟩;have E:=Qh A;have F:=Qh (D);clear A D;go_wp2_with fail;go_end0;refine⟨rfl,?_⟩;rw[G.out];exact⟨_,E,F⟩
 by_cases h6:k=6
 ·subst h6;have G:=Qh (show s.private 6 on=(s.mode 4 on).place 0 ((s.mode 4 on).line 0) from rfl);have A0:=Qh (hok.mode 4 ⟨by decide,by decide⟩ on);have L:=Qh h;have R:=Qh hok;clear h hok;go_enter func154,ntmps154;go_wp2_with fail;refine(ZF L 4 on).mono ?_;rintro e H ⟨rfl,M,A,D⟩;have E:=Qh A;have F:=Qh (D);clear A D;go_wp2_with fail;have Z:=Qh (E.nums A0);refine(zcL E 0 ⟨by decide,by decide⟩ ⟨Z.t0,by have h1:=Z.out.tb;have h2:=Z.out.b1;have h3:=Z.out.r2;omega⟩).mono ?_;rintro e wl ⟨rfl,m,Y⟩;have X:=Qh (show Below H.heap.size H wl from Y ▸ zm (Below.refl _ _) m);have HL:=Qh (E.below X);have PL:=Qh (F.below X);clear Y;go_wp2_with fail;refine(Zo HL 0 ((s.mode 4 on).line 0)).mono ?_;rintro e U ⟨rfl,V,T,S⟩;have O:=Qh T;have N:=Qh (PL.trans S);clear T S;go_wp2_with fail;go_end0;refine⟨rfl,?_⟩;rw[G.out];exact⟨_,O,N⟩
 by_cases h7:k=7
 ·subst h7;have G:=Qh (show s.private 7 on={ s.mode 1 on with now:={ s.now with wait:=s.now.wait && on } } from rfl);have L:=Qh h;have R:=Qh hok;clear h hok;go_enter func154,ntmps154;go_wp2_with fail;refine(ZF L 1 on).mono ?_;rintro e H ⟨rfl,M,A,D⟩;have E:=Qh A;have F:=Qh (D);clear A D;have c2:H.cell? ⟨p,2,none⟩=some (.bool s.now.wait):=E.out.at_ 2 _;have f2:=E.out.fz 2;cases hwt:s.now.wait
  ·rw[hwt]at c2 G;obtain⟨J,I⟩:=(E).set 2 (.bool (false && on)) ({ s.mode 1 on with now:={ s.now with wait:=false && on } });have O:=Qh J;have N:=Qh (F.trans I);clear J I;go_wp2_with fail;go_end0;refine⟨rfl,?_⟩;rw[G.out];exact⟨_,O,N⟩
  ·rw[hwt]at c2 G;obtain⟨J,I⟩:=(E).set 2 (.bool (true && on)) ({ s.mode 1 on with now:={ s.now with wait:=true && on } });have O:=Qh J;have N:=Qh (F.trans I);clear J I;go_wp2_with fail;go_end0;refine⟨rfl,?_⟩;rw[G.out];exact⟨_,O,N⟩
 by_cases h25:k=25
 ·subst h25;have G:=Qh (show s.private 25 on=s.mode 8 on from rfl);have L:=Qh h;have R:=Qh hok;clear h hok;go_enter func154,ntmps154;go_wp2_with fail;refine(ZF L 8 on).mono ?_;rintro e H ⟨rfl,M,A,D⟩;have E:=Qh A;have F:=Qh (D);clear A D;go_wp2_with fail;go_end0;refine⟨rfl,?_⟩;rw[G.out];exact⟨_,E,F⟩
 by_cases h47:k=47
 ·subst h47;have G:=Qh (show s.private 47 on=s.swap on from rfl);have L:=Qh h;have R:=Qh hok;clear h hok;go_enter func154,ntmps154;go_wp2_with fail;refine(zdM L on).mono ?_;rintro e H ⟨rfl,M,A,D⟩;have E:=Qh A;have F:=Qh (D);clear A D;go_wp2_with fail;go_end0;refine⟨rfl,?_⟩;rw[G.out];exact⟨_,E,F⟩
 by_cases h1047:k=1047
 ·subst h1047;have G:=Qh (show s.private 1047 on=s.swap on from rfl);have L:=Qh h;have R:=Qh hok;clear h hok;go_enter func154,ntmps154;go_wp2_with fail;refine(zdM L on).mono ?_;rintro e H ⟨rfl,M,A,D⟩;have E:=Qh A;have F:=Qh (D);clear A D;go_wp2_with fail;go_end0;refine⟨rfl,?_⟩;rw[G.out];exact⟨_,E,F⟩
 by_cases h1048:k=1048
 ·subst h1048;have G:=Qh (show s.private 1048 on=s.keep on from rfl);have L:=Qh h;have R:=Qh hok;clear h hok;go_enter func154,ntmps154;go_wp2_with fail;refine(zeT L on).mono ?_;rintro e H ⟨rfl,M,A,D⟩;have E:=Qh A;have F:=Qh (D);clear A D;go_wp2_with fail;go_end0;refine⟨rfl,?_⟩;rw[G.out];exact⟨_,E,F⟩
 by_cases h1049:k=1049
 ·subst h1049;have G:=Qh (show s.private 1049 on=if on=true then s.save.swap true else (s.swap false).restore from rfl);have L:=Qh h;clear h hok;cases on
  ·have G:=Qh (show s.private 1049 false=(s.swap false).restore from rfl);go_enter func154,ntmps154;go_wp2_with fail;refine(zdM L false).mono ?_;rintro e H ⟨rfl,M,A,D⟩;have E:=Qh A;have F:=Qh (D);clear A D;go_wp2_with fail;refine(zda E).mono ?_;rintro e U ⟨rfl,V,T,S⟩;have O:=Qh T;have N:=Qh (F.trans S);clear T S;go_wp2_with fail;go_end0;refine⟨rfl,?_⟩;rw[G.out];exact⟨_,O,N⟩
  ·have G:=Qh (show s.private 1049 true=s.save.swap true from rfl);go_enter func154,ntmps154;go_wp2_with fail;refine(zeS L).mono ?_;rintro e H ⟨rfl,M,A,D⟩;have E:=Qh A;have F:=Qh (D);clear A D;go_wp2_with fail;refine(zdM E true).mono ?_;rintro e U ⟨rfl,V,T,S⟩;have O:=Qh T;have N:=Qh (F.trans S);clear T S;go_wp2_with fail;go_end0;refine⟨rfl,?_⟩;rw[G.out];exact⟨_,O,N⟩
 by_cases h1000:k=1000
 ·subst h1000;have G:=Qh (show s.private 1000 on=s.mode 128 on from rfl);have L:=Qh h;have R:=Qh hok;clear h hok;go_enter func154,ntmps154;go_wp2_with fail;refine(ZF L 128 on).mono ?_;rintro e H ⟨rfl,M,A,D⟩;have E:=Qh A;have F:=Qh (D);clear A D;go_wp2_with fail;go_end0;refine⟨rfl,?_⟩;rw[G.out];exact⟨_,E,F⟩
 by_cases h2004:k=2004
 ·subst h2004;have G:=Qh (show s.private 2004 on=s.mode 64 on from rfl);have L:=Qh h;have R:=Qh hok;clear h hok;go_enter func154,ntmps154;go_wp2_with fail;refine(ZF L 64 on).mono ?_;rintro e H ⟨rfl,M,A,D⟩;have E:=Qh A;have F:=Qh (D);clear A D;go_wp2_with fail;go_end0;refine⟨rfl,?_⟩;rw[G.out];exact⟨_,E,F⟩
 have G:=Qh (show s.private k on=s by unfold Scr.private;rw[if_neg h1,if_neg h6,if_neg h7,if_neg h25,if_neg (by omega),if_neg h1048,if_neg h1049,if_neg h1000,if_neg h2004]);have e1:(k == 1)=false:=Qb h1;have e6:(k == 6)=false:=Qb h6;have e7:(k == 7)=false:=Qb h7;have H0:(k == 25)=false:=Qb h25;have G0:(k == 47)=false:=Qb h47;have F0:(k == 1047)=false:=Qb h1047;have E0:(k == 1048)=false:=Qb h1048;have B0:(k == 1049)=false:=Qb h1049;have D0:(k == 1000)=false:=Qb h1000;have C0:(k == 2004)=false:=Qb h2004;have L:=Qh h;clear h hok h1 h6 h7 h25 h47 h1047 h1048 h1049 h1000 h2004;go_enter func154,ntmps154;go_wp2_with fail;go_end0;refine⟨rfl,?_⟩;rw[G.out];exact .refl L
theorem zht {B:World} {C:Nat→Nat} {p c r:Nat} {w:World} {s:Scr} {ps:PSt} (h:SR B C p w s ps) (hok:s.Ok c r) (b:UInt8) :
  Calls prog 96 #[.pointer (some ⟨p,0,none⟩),.int .u8 (b.toNat:Int)] w fun e w'=>e=.returned (.tuple #[])∧zy B C p w w' (s.control b) ps:=by
 have J:(0:Int)≤(b.toNat:Int)∧(b.toNat:Int)≤255:=(by have:=b.toNat_lt;omega);obtain⟨k,R⟩:∃ k:Int,k=(b.toNat:Int):=⟨_,rfl⟩;rw[← R]at J ⊢;by_cases h7:k=7
 ·subst h7;have E:=Qh (show s.control b={ s with bells:=IntKind.i64.wrap (s.bells+1) } by unfold Scr.control;dsimp only;rw[← R];rfl);have D:=Qh hok.calm;have N:=Qh (h.nums hok);have H0:w.cell? ⟨p,38,none⟩=some (.int .i64 s.bells):=h.at_ 38 _;have G0:=h.fz 38;obtain⟨bw,C0⟩:∃ bw,IntKind.i64.wrap (s.bells+1)=bw:=⟨_,rfl⟩;rw[C0]at E;obtain⟨H,I⟩:=h.set 38 (.int .i64 bw) { s with bells:=bw };have Z:=Qh (show zy B C p w _ _ ps from⟨_,H,I⟩);clear h H I hok R J;go_enter func96,ntmps96;go_wp2_with fail;go_end0;refine⟨rfl,?_⟩;rw[E.out];exact Z
 by_cases h8:k=8
 ·subst h8;have E:=Qh (show s.control b=s.calm.toX (max 0 (s.now.x-1)) by unfold Scr.control;dsimp only;rw[← R];rfl);have D:=Qh hok.calm;have N:=Qh (h.nums hok);have T:w.cell? ⟨p,2,none⟩=some (.bool s.now.wait):=h.at_ 2 _;have U:=h.fz 2;obtain⟨H,I⟩:=h.set 2 (.bool false) s.calm;have S:=Qh H;have X:=Qh I;clear h H I hok R J;go_enter func96,ntmps96;go_upto_region 6 with fail;generalize w.setCell ⟨p,2,none⟩ (.bool false)=w1 at *;clear T U;have c0:w1.cell? ⟨p,0,none⟩=some (.int .i64 s.now.x):=S.out.at_ 0 _;have f0:=S.out.fz 0;have hw:IntKind.i64.wrap (s.now.x-1)=s.now.x-1:=(by have H:=N.out.x0;have h2:=N.out.x1;have h3:=N.out.c2;exact zd _ (by omega) (by omega));obtain⟨h2,g2⟩:=S.out.set 0 (.int .i64 (max 0 (s.now.x-1))) (s.calm.toX (max 0 (s.now.x-1)));have Z:=Qh (show zy B C p w _ _ ps from⟨_,h2,X.trans g2⟩);clear h2 g2;go_wp2_with fail;go_end0;refine⟨rfl,?_⟩;rw[E.out];exact Z
 by_cases h9:k=9
 ·subst h9;have E:=Qh (show s.control b=s.calm.tab by unfold Scr.control;dsimp only;rw[← R];rfl);have D:=Qh hok.calm;have N:=Qh (h.nums hok);have T:w.cell? ⟨p,2,none⟩=some (.bool s.now.wait):=h.at_ 2 _;have U:=h.fz 2;obtain⟨H,I⟩:=h.set 2 (.bool false) s.calm;have S:=Qh H;have X:=Qh I;clear h H I hok R J;go_enter func96,ntmps96;go_upto_region 8 with fail;generalize w.setCell ⟨p,2,none⟩ (.bool false)=w1 at *;clear T U;go_wp2_with fail;refine(zh8 S D).mono ?_;rintro e B0 ⟨rfl,A0,L,M⟩;have A:=Qh L;have O:=Qh (X.trans M);clear L M;go_wp2_with fail;go_end0;refine⟨rfl,?_⟩;rw[E.out];exact⟨_,A,O⟩
 by_cases h10:k=10
 ·subst h10;have E:=Qh (show s.control b=if s.calm.index.has 512=true then s.calm.index.toX 0 else s.calm.index by unfold Scr.control;dsimp only;rw[← R];rfl);have D:=Qh hok.calm;have N:=Qh (h.nums hok);have T:w.cell? ⟨p,2,none⟩=some (.bool s.now.wait):=h.at_ 2 _;have U:=h.fz 2;obtain⟨H,I⟩:=h.set 2 (.bool false) s.calm;have S:=Qh H;have X:=Qh I;clear h H I hok R J;go_enter func96,ntmps96;go_upto_region 12 with fail;generalize w.setCell ⟨p,2,none⟩ (.bool false)=w1 at *;clear T U;go_wp2_with fail;refine(zbE S D).mono ?_;rintro e B0 ⟨rfl,A0,L,M⟩;have A:=Qh L;have O:=Qh (X.trans M);clear L M;go_wp2_with fail;refine(za4 A 512).mono ?_;rintro e wq ⟨rfl,rfl⟩;cases hh:s.calm.index.has 512
  ·have E:=Qh (show s.control b=s.calm.index by rw[E.out,hh];rfl);go_wp2_with fail;go_end0;refine⟨rfl,?_⟩;rw[E.out];exact⟨_,A,O⟩
  ·have E:=Qh (show s.control b=s.calm.index.toX 0 by rw[E.out,hh];rfl);have c0:wq.cell? ⟨p,0,none⟩=some (.int .i64 s.calm.index.now.x):=A.out.at_ 0 _;have f0:=A.out.fz 0;obtain⟨G,F⟩:=(A).set 0 (.int .i64 0) (s.calm.index.toX 0);have Y:=Qh G;have V:=Qh (O.trans F);clear G F;go_wp2_with fail;go_end0;refine⟨rfl,?_⟩;rw[E.out];exact⟨_,Y,V⟩
 by_cases h11:k=11
 ·subst h11;have E:=Qh (show s.control b=if s.calm.index.has 512=true then s.calm.index.toX 0 else s.calm.index by unfold Scr.control;dsimp only;rw[← R];rfl);have D:=Qh hok.calm;have N:=Qh (h.nums hok);have T:w.cell? ⟨p,2,none⟩=some (.bool s.now.wait):=h.at_ 2 _;have U:=h.fz 2;obtain⟨H,I⟩:=h.set 2 (.bool false) s.calm;have S:=Qh H;have X:=Qh I;clear h H I hok R J;go_enter func96,ntmps96;go_upto_region 12 with fail;generalize w.setCell ⟨p,2,none⟩ (.bool false)=w1 at *;clear T U;go_wp2_with fail;refine(zbE S D).mono ?_;rintro e B0 ⟨rfl,A0,L,M⟩;have A:=Qh L;have O:=Qh (X.trans M);clear L M;go_wp2_with fail;refine(za4 A 512).mono ?_;rintro e wq ⟨rfl,rfl⟩;cases hh:s.calm.index.has 512
  ·have E:=Qh (show s.control b=s.calm.index by rw[E.out,hh];rfl);go_wp2_with fail;go_end0;refine⟨rfl,?_⟩;rw[E.out];exact⟨_,A,O⟩
  ·have E:=Qh (show s.control b=s.calm.index.toX 0 by rw[E.out,hh];rfl);have c0:wq.cell? ⟨p,0,none⟩=some (.int .i64 s.calm.index.now.x):=A.out.at_ 0 _;have f0:=A.out.fz 0;obtain⟨G,F⟩:=(A).set 0 (.int .i64 0) (s.calm.index.toX 0);have Y:=Qh G;have V:=Qh (O.trans F);clear G F;go_wp2_with fail;go_end0;refine⟨rfl,?_⟩;rw[E.out];exact⟨_,Y,V⟩
 by_cases h12:k=12
 ·subst h12;have E:=Qh (show s.control b=if s.calm.index.has 512=true then s.calm.index.toX 0 else s.calm.index by unfold Scr.control;dsimp only;rw[← R];rfl);have D:=Qh hok.calm;have N:=Qh (h.nums hok);have T:w.cell? ⟨p,2,none⟩=some (.bool s.now.wait):=h.at_ 2 _;have U:=h.fz 2;obtain⟨H,I⟩:=h.set 2 (.bool false) s.calm;have S:=Qh H;have X:=Qh I;clear h H I hok R J;go_enter func96,ntmps96;go_upto_region 12 with fail;generalize w.setCell ⟨p,2,none⟩ (.bool false)=w1 at *;clear T U;go_wp2_with fail;refine(zbE S D).mono ?_;rintro e B0 ⟨rfl,A0,L,M⟩;have A:=Qh L;have O:=Qh (X.trans M);clear L M;go_wp2_with fail;refine(za4 A 512).mono ?_;rintro e wq ⟨rfl,rfl⟩;cases hh:s.calm.index.has 512
  ·have E:=Qh (show s.control b=s.calm.index by rw[E.out,hh];rfl);go_wp2_with fail;go_end0;refine⟨rfl,?_⟩;rw[E.out];exact⟨_,A,O⟩
  ·have E:=Qh (show s.control b=s.calm.index.toX 0 by rw[E.out,hh];rfl);have c0:wq.cell? ⟨p,0,none⟩=some (.int .i64 s.calm.index.now.x):=A.out.at_ 0 _;have f0:=A.out.fz 0;obtain⟨G,F⟩:=(A).set 0 (.int .i64 0) (s.calm.index.toX 0);have Y:=Qh G;have V:=Qh (O.trans F);clear G F;go_wp2_with fail;go_end0;refine⟨rfl,?_⟩;rw[E.out];exact⟨_,Y,V⟩
 by_cases h13:k=13
 ·subst h13;have E:=Qh (show s.control b=s.calm.toX 0 by unfold Scr.control;dsimp only;rw[← R];rfl);have D:=Qh hok.calm;have N:=Qh (h.nums hok);have T:w.cell? ⟨p,2,none⟩=some (.bool s.now.wait):=h.at_ 2 _;have U:=h.fz 2;obtain⟨H,I⟩:=h.set 2 (.bool false) s.calm;have S:=Qh H;have X:=Qh I;clear h H I hok R J;go_enter func96,ntmps96;go_upto_region 16 with fail;generalize w.setCell ⟨p,2,none⟩ (.bool false)=w1 at *;clear T U;have c0:w1.cell? ⟨p,0,none⟩=some (.int .i64 s.now.x):=S.out.at_ 0 _;have f0:=S.out.fz 0;obtain⟨h2,g2⟩:=S.out.set 0 (.int .i64 0) (s.calm.toX 0);have Z:=Qh (show zy B C p w _ _ ps from⟨_,h2,X.trans g2⟩);clear h2 g2;go_wp2_with fail;go_end0;refine⟨rfl,?_⟩;rw[E.out];exact Z
 by_cases h14:k=14
 ·subst h14;have E:=Qh (show s.control b={ s with now:={ s.now with second:=1 } } by unfold Scr.control;dsimp only;rw[← R];rfl);have D:=Qh hok.calm;have N:=Qh (h.nums hok);have c9:w.cell? ⟨p,9,none⟩=some (.int .i64 s.now.second):=h.at_ 9 _;have f9:=h.fz 9;obtain⟨H,I⟩:=h.set 9 (.int .i64 1) { s with now:={ s.now with second:=1 } };have Z:=Qh (show zy B C p w _ _ ps from⟨_,H,I⟩);clear h H I hok R J;go_enter func96,ntmps96;go_wp2_with fail;go_end0;refine⟨rfl,?_⟩;rw[E.out];exact Z
 by_cases h15:k=15
 ·subst h15;have E:=Qh (show s.control b={ s with now:={ s.now with second:=0 } } by unfold Scr.control;dsimp only;rw[← R];rfl);have D:=Qh hok.calm;have N:=Qh (h.nums hok);have c9:w.cell? ⟨p,9,none⟩=some (.int .i64 s.now.second):=h.at_ 9 _;have f9:=h.fz 9;obtain⟨H,I⟩:=h.set 9 (.int .i64 0) { s with now:={ s.now with second:=0 } };have Z:=Qh (show zy B C p w _ _ ps from⟨_,H,I⟩);clear h H I hok R J;go_enter func96,ntmps96;go_wp2_with fail;go_end0;refine⟨rfl,?_⟩;rw[E.out];exact Z
 have E:=Qh (show s.control b=s by
  unfold Scr.control;dsimp only;rw[← R,if_neg h7,if_neg h8,if_neg h9,if_neg (show ¬ (k=10∨k=11∨k=12) by omega),if_neg h13,if_neg (show ¬ (k=14∨k=15) by omega),if_neg (show ¬ (8≤k∧k≤13) by omega)])
 have e7:(k == 7)=false:=Qb h7;have e8:(k == 8)=false:=Qb h8;have e9:(k == 9)=false:=Qb h9;have I0:(k == 10)=false:=Qb h10;have D0:(k == 11)=false:=Qb h11;have J0:(k == 12)=false:=Qb h12;have E0:(k == 13)=false:=Qb h13;have F0:(k == 14)=false:=Qb h14;have L0:(k == 15)=false:=Qb h15;have S:=Qh h;clear h hok R;by_cases hl:8≤k
 ·have d1:decide (8≤k)=true:=Qt hl;have d2:decide (k≤13)=false:=Qf (by omega);clear J hl h7 h8 h9 h10 h11 h12 h13 h14 h15;go_enter func96,ntmps96;go_wp2_with fail;go_end0;refine⟨rfl,?_⟩;rw[E.out];exact .refl S
 ·have d1:decide (8≤k)=false:=Qf hl;clear J hl h7 h8 h9 h10 h11 h12 h13 h14 h15;go_enter func96,ntmps96;go_wp2_with fail;go_end0;refine⟨rfl,?_⟩;rw[E.out];exact .refl S
end
section
open Go.RowKit
theorem zfo {w:World} {base:Nat} {v:Value} {l:List Int} (h:zp w base 1 v l.length (l.map (Value.int .i32))) :
  (convert 131 9 v).run prog w=.ok (.string ⟨(zbg l).toArray⟩) w:=by
 rcases h.2 with ⟨rfl,h0⟩ | ⟨b,off,cap,rfl,_⟩
 ·have:l=[]:=List.eq_nil_of_length_eq_zero h0;subst this;exact run_convert_runes_nil w 131 9 21 0 0 underlying131 underlying21 underlying9
 ·have:=run_convert_runes (P:=prog) w 131 9 21 ⟨b,off,none⟩ l.length cap l (Nat.le_refl _) underlying131 underlying21 underlying9 (fun j hj=>by
   have:=(zae h j (by omega)).1;rw[List.getElem?_map,zeg l j hj]at this;rw[zbb];exact this)
  rw[List.take_length,zgv]at this;exact this
theorem zpk {w:World} {base b off n c:Nat} {l:List Int} (h:zp w base 1 (.slice (some ⟨b,off,none⟩) n c) n (l.map (Value.int .i32))) (k:Nat) (hk:k<l.length) (hl:l.length=n) :
  w.cell? ⟨b,off+k,none⟩=some (.int .i32 (l.getD k 0)):=by
 rw[(zae h k (by omega)).1,List.getElem?_map,zeg l k hk];rfl
theorem zpl (t:ByteArray) (a b:UInt8):(Lib.hasPrefix t.data.toList [a,b]=true↔t.data.toList.take 2=[a,b])∧(Lib.hasPrefix t.data.toList [a,b]=true→2≤t.size):=by
 have e:t.size=t.data.toList.length:=(Array.length_toList).symm;rw[e];generalize t.data.toList=l;unfold Lib.hasPrefix
 match l with
 | []=>exact⟨⟨fun e=>(Bool.noConfusion e),fun e=>by cases e⟩,fun e=>Bool.noConfusion e⟩
 | [x] =>
  have B:List.isPrefixOf [a,b] [x]=false:=by
   show(a == x && false)=false;rw[Bool.and_false]
  rw[B];exact⟨⟨fun e=>(Bool.noConfusion e),fun e=>by cases e⟩,fun e=>Bool.noConfusion e⟩
 | x::y::m =>
  have B:List.isPrefixOf [a,b] (x::y::m)=(a == x && (b == y && true)):=rfl;rw[B,show(x::y::m).take 2=[x,y] from rfl,Bool.and_true,Bool.and_eq_true,beq_iff_eq,beq_iff_eq];refine⟨⟨fun e=>by rw[e.1,e.2],fun e=>?_⟩,fun _=>by rw[List.length_cons,List.length_cons];omega⟩;injection e with C A;injection A with A;exact⟨C.symm,A.symm⟩
theorem zo0 (l:List Int) (k:Nat) (hk:k<l.length):l.drop k=l.getD k 0::l.drop (k+1):=by
 rw[List.drop_eq_getElem_cons hk,List.getD_eq_getElem?_getD,List.getElem?_eq_getElem hk];rfl
theorem zik (n:Int) (l:List Int) (k:Nat) (hk:k<l.length):zbe n (l.drop k)=if wid (l.getD k 0)<1 then zbe n (l.drop (k+1)) else if 64<n+wid (l.getD k 0) then [] else l.getD k 0::zbe (n+wid (l.getD k 0)) (l.drop (k+1)):=by
 rw[zo0 l k hk];rfl
theorem zjF {B:World} {C:Nat→Nat} {p:Nat} {w:World} {s:Scr} {ps:PSt} (h:SR B C p w s ps) (t:ByteArray) (hl:t.size≤1000000) :
  Calls prog 99 #[.pointer (some ⟨p,0,none⟩),.string t] w fun e w'=>e=.returned (.tuple #[])∧zy B C p w w' (s.named t.data.toList) ps:=by
 have HR:=Qh h;have HL:=Qh hl;obtain⟨G,R⟩:=zpl t 48 59;obtain⟨I,N⟩:=zpl t 50 59;by_cases hp:Lib.hasPrefix t.data.toList [48,59]=true∨Lib.hasPrefix t.data.toList [50,59]=true;rotate_left
 ·have ea:Lib.hasPrefix t.data.toList [48,59]=false:=by
   cases e:Lib.hasPrefix t.data.toList [48,59] with
   | false=>rfl
   | true=>exact absurd (.inl e) hp
  have eb:Lib.hasPrefix t.data.toList [50,59]=false:=by
   cases e:Lib.hasPrefix t.data.toList [50,59] with
   | false=>rfl
   | true=>exact absurd (.inr e) hp
  have HE:=Qh (show s.named t.data.toList=s by
   unfold Scr.named;rw[if_neg (fun e=>hp (e.elim (fun e=>.inl (G.2 e)) (fun e=>.inr (I.2 e))))])
  clear hp G R I N hl h;go_enter func99,ntmps99;go_wp2_with fail;refine(Tryz.strings_HasPrefix t ⟨#[48,59]⟩ _).mono ?_;rintro e O ⟨rfl,rfl⟩;rw[show Lib.hasPrefix t.data.toList (⟨#[48,59]⟩:ByteArray).data.toList=false from ea];go_wp2_with fail;refine(Tryz.strings_HasPrefix t ⟨#[50,59]⟩ _).mono ?_;rintro e O ⟨rfl,rfl⟩;rw[show Lib.hasPrefix t.data.toList (⟨#[50,59]⟩:ByteArray).data.toList=false from eb];go_wp2_with fail;refine ZR rfl rfl ?_;refine⟨rfl,?_⟩;rw[HE.out];exact zy.refl HR
 have h2:2≤t.size:=hp.elim R N;have D0:=Qh (show s.named t.data.toList={ s with title:=zbg (zbe 0 (zdj (t.data.toList.drop 2))) } by
  unfold Scr.named;rw[if_pos (hp.imp G.1 I.1)];rfl)
 have HX:=Qh (show(t.extract 2 t.size).data.toList=t.data.toList.drop 2 by
  rw[ByteArray.data_extract,Array.toList_extract];show(t.data.toList.drop 2).take (t.size-2)=_;rw[List.take_of_length_le (by rw[List.length_drop];show t.data.toList.length-2≤t.data.size-2;rw[Array.length_toList];omega)])
 have E0:Lib.hasPrefix t.data.toList [48,59]=true∨(Lib.hasPrefix t.data.toList [48,59]=false∧Lib.hasPrefix t.data.toList [50,59]=true):=by
  cases e:Lib.hasPrefix t.data.toList [48,59] with
  | true=>exact .inl rfl
  | false=>exact .inr ⟨rfl,hp.resolve_left (by rw[e];decide)⟩
 clear hp G R I N;have X:(t.extract 2 t.size).size≤1000000:=(by simp;omega);have U:=Qh (fun O=>zlW (t.extract 2 t.size) O (by omega));have E:=Qh (show(zdj (t.extract 2 t.size).data.toList).length≤2000001 by have:=zjV (t.extract 2 t.size);omega);rw[HX.out]at U E;clear h hl X HX;go_enter func99,ntmps99;go_upto_region 0 with fail
 go_cut [16] (fun v wz=>v=.bool false∧wz=w)
 case first =>
  go_wp2_with fail;refine(Tryz.strings_HasPrefix t ⟨#[48,59]⟩ _).mono ?_;rintro e O ⟨rfl,hx⟩;subst O;rcases E0 with e1 | ⟨e1,e2⟩
  ·rw[show Lib.hasPrefix t.data.toList (⟨#[48,59]⟩:ByteArray).data.toList=true from e1];clear e1;go_wp2_with fail;go_meet;exact⟨rfl,rfl⟩
  ·rw[show Lib.hasPrefix t.data.toList (⟨#[48,59]⟩:ByteArray).data.toList=false from e1];clear e1;go_wp2_with fail;refine(Tryz.strings_HasPrefix t ⟨#[50,59]⟩ _).mono ?_;rintro e O ⟨rfl,hx⟩;subst O;rw[show Lib.hasPrefix t.data.toList (⟨#[50,59]⟩:ByteArray).data.toList=true from e2];clear e2;go_wp2_with fail;go_meet;exact⟨rfl,rfl⟩
 case rest =>
 obtain⟨rfl,S0⟩:=hcut;subst wc;have U0:(2:Int)≤(t.size:Int):=(by omega);go_wp2_with fail;refine(U w).mono ?_;rintro e w2 ⟨lv,rfl,ol,b2⟩;have L0:=Qh b2;have hv:=fun k hk=>zh0 (t.data.toList.drop 2) _ (ziB _ k hk);have A0:=Qh (zaj ol);have O0:=E.out;generalize hL:zdj (t.data.toList.drop 2)=L at *;clear hL ol b2 hv U E;have F0:=Zf underlying131 A0;go_wp2_with fail;clear F0
 go_loopw [4,5,21] (fun vv nv iv wr=>∃ (k n:Nat) (o:List Int) (Z:Value),Z=vv∧nv=.int .i64 n∧iv=.int .i64 k∧k≤L.length∧n≤64∧o.length≤n∧Hid (zbe 0 L=o++zbe n (L.drop k))∧Hid (Below w.heap.size w wr)∧Hid (zp wr w.heap.size 1 Z o.length (o.map (Value.int .i32)))∧Hid (zp wr w.heap.size 1 lv L.length (L.map (Value.int .i32)))∧Hid (∀ q,Z.ownBlock=some q→lv.ownBlock≠some q)) (fun _ _ iv _=>L.length-(intOf iv).toNat)
 case atStart=>exact⟨0,0,[],_,rfl,rfl,rfl,Nat.zero_le _,by omega,Nat.le_refl _,Qh rfl,L0,Qh (Zy _ _ _),A0,Qh (fun q h=>by simp[Value.ownBlock]at h)⟩
 case round =>
  obtain⟨k,n,o,Z,rfl,rfl,rfl,hk,hn,ho,HT,HB,HO,M,HD⟩:=hrel;obtain⟨wi,rfl⟩:∃ wi,wi=wr:=⟨wr,rfl⟩;by_cases hlt:k<L.length;rotate_left
  ·have C0:k=L.length:=(by omega);have HE:=Qh (show s.named t.data.toList={ s with title:=zbg o } by
    rw[D0.out,HT.out,C0,List.drop_length];show({ s with title:=zbg (o++zbe n []) }:Scr)=_;rw[show zbe n []=[] from rfl,List.append_nil])
   have d1:decide ((k:Int)<(L.length:Int))=false:=Qf (by omega);have I0:decide (k<L.length)=false:=Qf hlt;have N0:=zfo HO;have A:=Qh (HR.below HB);have V:=Qh ((Pre.refl C w).below HB);clear C0 hlt;obtain⟨h9,g9⟩:=A.out.set 36 (.string ⟨(zbg o).toArray⟩) { s with title:=zbg o };have H9:=Qh h9;have P9:=Qh (V.trans g9);clear h9 g9;have H0:=A.out.fz 36;have M0:=A.out.at_ 36 (.string ⟨s.title.toArray⟩);go_wp2_with fail;go_end0;refine⟨rfl,?_⟩;rw[HE.out];exact⟨_,H9,P9⟩
  have d1:decide ((k:Int)<(L.length:Int))=true:=Qt (by omega);have I0:decide (k<L.length)=true:=Qt hlt;obtain⟨lb,lo,lc,e1,_,_⟩:=zE M (by omega);subst e1;have p0:=zpk M k hlt rfl;have Y:=Zw (P:=prog) (size:=1) underlying131 (by kernel_rfl) lb lo L.length lc k hlt;rw[Nat.mul_one]at Y;have HS:=Qh (zik n L k hlt);have T0:IntKind.i64.wrap ((k:Int)+1)=(k:Int)+1:=zd _ (by omega) (by omega);generalize L.getD k 0=r at *;go_wp2_with fail;refine(zb7 r _).mono ?_;rintro e w3 ⟨rfl,b3⟩;have D:=Qh (HB.trans (b3.mono HB.size));have H:=Qh (zk HO b3);have S:=Qh (zk M b3);have B0:=zlR r;obtain⟨m,hm⟩:∃ m,m=wid r:=⟨_,rfl⟩;rw[← hm]at HS B0;rw[← hm];clear hm b3 p0 Y;by_cases hm1:m<1
  ·have T:=Qh (show zbe 0 L=o++zbe n (L.drop (k+1)) by rw[HT.out,HS.out,if_pos hm1]);have d2:decide (m<1)=true:=Qt hm1;go_wp2_with fail;go_roundw
   case rel=>exact⟨k+1,n,o,Z,rfl,rfl,by go_num,by omega,hn,ho,T,D,H,S,HD⟩
   case measure=>simp[intOf];omega
  have d2:decide (m<1)=false:=Qf hm1;obtain⟨F,J⟩:∃ F:Nat,(F:Int)=n+m:=⟨((n:Int)+m).toNat,by omega⟩;have R0:IntKind.i64.wrap ((n:Int)+m)=(F:Int):=(by rw[J];exact zd _ (by omega) (by omega));by_cases h64:(64:Int)<n+m
  ·have HE:=Qh (show s.named t.data.toList={ s with title:=zbg o } by
    rw[D0.out,HT.out,HS.out,if_neg hm1,if_pos h64,List.append_nil])
   have d3:decide ((64:Int)<(F:Int))=true:=Qt (by omega);have J0:decide (64<F)=true:=Qt (by omega);have N0:=zfo H;have A:=Qh (HR.below D);have V:=Qh ((Pre.refl C w).below D);clear hm1 h64 J;obtain⟨h9,g9⟩:=A.out.set 36 (.string ⟨(zbg o).toArray⟩) { s with title:=zbg o };have H9:=Qh h9;have P9:=Qh (V.trans g9);clear h9 g9;have H0:=A.out.fz 36;have M0:=A.out.at_ 36 (.string ⟨s.title.toArray⟩);go_wp2_with fail;go_end0;refine⟨rfl,?_⟩;rw[HE.out];exact⟨_,H9,P9⟩
  have T:=Qh (show zbe 0 L=(o++[r])++zbe F (L.drop (k+1)) by rw[HT.out,HS.out,if_neg hm1,if_neg h64,J,List.append_assoc];rfl);have hN:=Qh (show F≤64∧o.length+1≤F∧o.length≤64 by omega);have d3:decide ((64:Int)<(F:Int))=false:=Qf (by omega);have J0:decide (64<F)=false:=Qf (by omega);clear hm1 h64 J HS B0;go_wp2_with (at_builtin;refine zaQ ?_);unfold zaP;refine zS zdd rfl rfl w.heap.size (zG H _) rfl (Zi _ _ _) rfl (zaw _ _) (by have:=hN.out;unfold maxLen;omega) (by have:=hN.out;omega) (by have:=D.out.size;simp;omega) ?_;intro G0 w6 o6 g6 n6;have X:(w3.alloc (.cells #[.int .i32 r] 21)).heap.size=w3.heap.size+1:=(by simp);have B6:=Qh ((D.alloc D.size _).grown g6 (by have:=D.out.size;simp;omega) (fun q hq=>(zg H q hq).1));have O6:=Qh o6;have L6:=Qh (zi (zG S (.cells #[.int .i32 r] 21)) g6 (fun q hq e=>HD q e hq));have D6:=Qh (show ∀ q,G0.ownBlock=some q→(Value.slice (some ⟨lb,lo,none⟩) L.length lc).ownBlock≠some q from fun q h1 h2=>by
   rcases n6 q h1 with h3 | h3
   ·exact HD q h3 h2
   ·have h4:=(zg S q h2).2;rw[X]at h3;omega)
  clear o6 g6 n6;go_wp2_with fail;go_roundw
  case rel=>exact⟨k+1,F,o++[r],_,rfl,rfl,by go_num,by omega,hN.out.1,by rw[List.length_append];exact hN.out.2.1,T,B6,Qh (by rw[List.length_append,List.map_append];exact O6),L6,D6⟩
  case measure=>simp[intOf];omega
end
end Go.Proofs.YthehkmopdeebmaaGreatDoor
