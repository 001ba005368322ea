/- Part. -/
import Derived.Test.YthehkmopdeebmaaGreatDoorY15
set_option linter.unusedVariables false
set_option linter.unusedSimpArgs false
set_option maxRecDepth 100000
set_option maxHeartbeats 8000000
namespace Go.Proofs.YthehkmopdeebmaaGreatDoor
open _root_.Go.Proofs.Tryz
section
open Go.RowKit
theorem zcx {T:Nat→Nat} {w w2 w':World} {b:Nat} (hb:Below w.heap.size w w2) (ht:T b≠0) (g:w2.grownBy w' (some b)):zh (own T w) w w' :=
 (zh.of_below hb).trans (zh.of_gb g (fun k hk=>.inl (by injection hk with hk;subst hk;exact ht)))
theorem zdH {T:Nat→Nat} {p:Nat} {w:World} {g:Gr} (h:GM T p w g) (x y n:Int) (s:Sty) (hs:ZU w s) :
  Calls prog 231 #[.pointer (some ⟨p,0,none⟩),.int .i64 x,.int .i64 y,.int .i64 n,s.val] w fun e w'=>e=.returned (.tuple #[])∧zh (own T w) w w'∧GM T p w' (g.erase x y n s):=by
 have I:=Below.alloc (Below.refl w.heap.size w) (Nat.le_refl _) (.cells #[.int .i64 s.fg,.int .i64 s.bg,.int .i64 s.attr] 49);have Z:=zH w (.cells #[.int .i64 s.fg,.int .i64 s.bg,.int .i64 s.attr] 49);have R:=Qh (h.below I);have B1:=Qh h.lt;clear h;cases hon:g.onIt x y s
 ·have HE:=Qh (show g.erase x y n s=g by unfold Gr.erase Gr.rowOp;rw[hon,if_neg (by simp)]);have B:=Qh (zkw R x y s (hs.below I) hon);have hq:=fun (wx:World)=>Lib.run_eql_slice_nil (P:=prog) wx 56 96 none 0 0 0 0 underlying56;unfold Sty.val at B ⊢;go_enter func231,ntmps231;go_wp2_with fail;refine B.mono ?_;rintro e w2 ⟨rfl,J⟩;have C0:=Qh (R.below J);have L:=Qh (I.trans (J.mono (by simp)));clear J B;go_wp2_with fail;refine zdh rfl rfl ⟨rfl,zh.of_below L,?_⟩;rw[HE.out];exact C0
 ·obtain⟨n1,n2,n3,n4,n5⟩:=zdp hon;obtain⟨A,rfl⟩:∃ k:Nat,x=(k:Int):=⟨x.toNat,by omega⟩;obtain⟨D,rfl⟩:∃ k:Nat,y=(k:Int):=⟨y.toNat,by omega⟩;obtain⟨vr,vo,Lr,Lo,O⟩:=R.out;have M1:=(Zg O).1;have E:D<Lr.length:=(by omega);have G1:=O.wf.c2;have F:Lr[D].2.cells.length=g.cols:=(O.wf.ce _ (List.mem_append_left _ (by rw[← O.er];exact List.mem_map_of_mem (List.getElem_mem E)))).1;have I0:∀ c∈Lr[D].2.cells,c.Ok:=(O.wf.ce _ (List.mem_append_left _ (by rw[← O.er];exact List.mem_map_of_mem (List.getElem_mem E)))).2;have B:=Qh (zhA O A D s (hs.below I) (by omega) E n5);have D0:=O.ca Lr[D] (List.mem_append_left _ (List.getElem_mem E));have HC:=Qh D0;obtain⟨b,C,S,H,H1,T1⟩:=zE D0.own (by omega);rw[F]at H H1;have HA:=Qh O;clear O D0;rw[H]at B;have hq:=fun (wx:World)=>Lib.run_eql_slice_nil (P:=prog) wx 56 96 (some ⟨b,C,none⟩) g.cols S 0 0 underlying56;unfold Sty.val at B ⊢;by_cases hn0:0<n;rotate_left
  ·have d0:decide (n≤0)=true:=Qt (by omega);have HE:=Qh (show g.erase A D n s=g by unfold Gr.erase Gr.rowOp;rw[if_neg (fun e=>hn0 e.2)]);go_enter func231,ntmps231;go_wp2_with fail;refine B.mono ?_;rintro e w2 ⟨rfl,J⟩;have C0:=Qh (R.below J);have L:=Qh (I.trans (J.mono (by simp)));clear J B;go_wp2_with fail;refine zdh rfl rfl ⟨rfl,zh.of_below L,?_⟩;rw[HE.out];exact C0
  have d0:decide (n≤0)=false:=Qf (by omega);obtain⟨N,hN⟩:∃ N:Nat,N=zdi g A n:=⟨_,rfl⟩;have L1:min n ((g.cols:Int)-(A:Int))=(N:Int):=(by unfold zdi at hN;omega);have O1:1≤N∧A+N≤g.cols:=(by unfold zdi at hN;omega);have HE:=Qh (show g.erase A D n s=g.turn D (fun l=>zbF l A N s) by
   unfold Gr.erase Gr.rowOp;rw[if_pos ⟨hon,hn0⟩,hN,Int.toNat_natCast,Int.toNat_natCast])
  have S0:T b=10+b:=by
   obtain⟨q,e1,e2⟩:=HC.out.tag;rw[H]at e1;simp only[Value.ownBlock]at e1;injection e1 with e1;subst e1;exact e2
  have R1:b<w.heap.size:=B1.out b (by omega);have V1:IntKind.i64.wrap ((g.cols:Int)-(A:Int))=(g.cols:Int)-(A:Int):=zd _ (by omega) (by omega);have U1:IntKind.i64.wrap ((A:Int)+(N:Int))=(A:Int)+(N:Int):=zd _ (by omega) (by omega);have N1:IntKind.i64.wrap ((g.cols:Int)-(N:Int))=(g.cols:Int)-(N:Int):=zd _ (by omega) (by omega);clear hN hon n1 n2 n3 n4;go_enter func231,ntmps231;go_wp2_with fail;refine B.mono ?_;rintro e w2 ⟨rfl,J⟩;have G:=Qh (HA.mod (.of_below J) id id id (fun _=>id));have L:=Qh (I.trans (J.mono (by simp)));have A0:=zr Z J (by simp);have X:=G.out.blk;have c0:w2.cell? ⟨p,0,none⟩=some (.int .i64 g.cols):=(zY G).1;have O2:=(G.ca Lr[D] (List.mem_append_left _ (List.getElem_mem E))).own;have S1:T p=1:=G.out.tp;have M0:b≠p:=fun e=>(by rw[e]at S0;omega);rw[H,F]at O2;have I1:=Qh (show ∀ w',w2.grownBy w' (some b)→zp w' 0 5 (.slice (some ⟨b,C,none⟩) g.cols S) g.cols (zt (zbF Lr[D].2.cells A N s))→GM T p w' (g.turn D (fun l=>zbF l A N s)) from fun w' g' o'=>by
   have F0:(zbF Lr[D].2.cells A N s).length=g.cols:=by
    rw[zgl s (by omega)];exact F
   refine G.turned D E (b:=b) (by rw[H];rfl) (Mod.of_gb g' (fun k hk=>by injection hk with hk;subst hk;exact S0)) _ ?_ ?_ ?_
   ·rw[F0,H];exact o'
   ·exact F0
   ·exact zkN I0)
  have C1:=Qh (show ∀ w',w2.grownBy w' (some b)→zh (own T w) w w' from fun w' g'=>zcx L (by omega) g');clear J B Z G;generalize Lr[D].2.cells=lx at *;have Y0:g.cols≤1000000:=(by omega);go_wp2_with fail;refine(zb1 lx A b C g.cols S w2 O2 F Y0 (by omega)).mono ?_;rintro e w5 ⟨rfl,g5,o5⟩;have B0:=zl A0 g5 (by intro e;injection e with e;omega);have M:=zl X g5 (by intro e;injection e with e;exact M0 e.symm);have k0:w5.cell? ⟨p,0,none⟩=some (.int .i64 g.cols):=za M 0;have U0:=Qh o5;have V0:=Qh B0;have A1:=Qh M;have G0:=Qh g5;clear o5 B0 g5 O2 c0 A0 X M;go_wp2_with fail;refine(zb1 (zB lx A) ((A:Int)+(N:Int)) b C g.cols S w5 U0 (by rw[zN];exact F) Y0 (by omega)).mono ?_;rintro e w6 ⟨rfl,g6,o6⟩;rw[show(A:Int)+(N:Int)=((A+N:Nat):Int) by omega]at o6;have V:=zl V0 g6 (by intro e;injection e with e;omega);have Y:=zl A1 g6 (by intro e;injection e with e;exact M0 e.symm);have R0:=Qh (Zc G0 g6);have N0:=Qh V;have Z0:=Qh Y;have O0:=Qh o6;clear k0 g6 o6 V Y G0 V0 A1 U0 hq;have E0:(zB (zB lx A) ((A+N:Nat):Int)).length=g.cols:=(by rw[zN,zN];exact F);have U:=N0;have T0:=Z0;have L0:=O0;have J0:=R0;clear N0 Z0 O0 R0;have J1:=zca (P:=prog) (size:=5) underlying56 zT b C g.cols S A (A+N) (by omega) (by omega) (by omega);rw[show A+N-A=N by omega,show((A+N:Nat):Int)=(A:Int)+(N:Int) by omega]at J1;have f0:w6.cell? ⟨w.heap.size,0,none⟩=some (.int .i64 s.fg):=za U 0;have f1:w6.cell? ⟨w.heap.size,1,none⟩=some (.int .i64 s.bg):=za U 1;have f2:w6.cell? ⟨w.heap.size,2,none⟩=some (.int .i64 s.attr):=za U 2;have j0:w6.cell? ⟨p,0,none⟩=some (.int .i64 g.cols):=za T0 0;have H0:=Qh (fun wx (ho:zp wx 0 5 (.slice (some ⟨b,C,none⟩) g.cols S) g.cols (zt (zB (zB lx A) ((A+N:Nat):Int))))=>zcE (zB (zB lx A) ((A+N:Nat):Int)) s b C g.cols S A N (S-A) wx ho E0 (by omega) (by unfold maxLen;omega));unfold Sty.val at H0;go_upto_region 6 with fail
  go_still_tail 7,(by kernel_rfl)
  change wpList _ _ _ _ _ w6.drew;have F1:=Qh (show zp w6.drew 0 5 (.slice (some ⟨b,C,none⟩) g.cols S) g.cols (zt (zB (zB lx A) ((A+N:Nat):Int))) from L0.out);have E1:=Qh (zaM J0);clear f0 f1 f2 j0 L0 J0 U T0;generalize w6.drew=wd at *;go_wp2_with fail;refine(H0 _ F1).mono ?_;rintro e w9 ⟨rfl,g9,o9⟩;have X0:=Qh (Zc E1 g9);have D1:=Qh o9;clear g9 o9;go_wp2_with fail;go_end0;refine⟨rfl,C1 _ X0,?_⟩;rw[HE.out];refine I1 _ X0 ?_;have:=D1.out;unfold zbF;exact this
theorem zj9 {T:Nat→Nat} {p:Nat} {w:World} {g:Gr} (h:GM T p w g) (x y n:Int) (s:Sty) (hs:ZU w s) :
  Calls prog 143 #[.pointer (some ⟨p,0,none⟩),.int .i64 x,.int .i64 y,.int .i64 n,s.val] w fun e w'=>e=.returned (.tuple #[])∧zh (own T w) w w'∧GM T p w' (g.ins x y n s):=by
 have M:=Below.alloc (Below.refl w.heap.size w) (Nat.le_refl _) (.cells #[.int .i64 s.fg,.int .i64 s.bg,.int .i64 s.attr] 49);have C0:=zH w (.cells #[.int .i64 s.fg,.int .i64 s.bg,.int .i64 s.attr] 49);have X:=Qh (h.below M);have N1:=Qh h.lt;clear h;cases hon:g.onIt x y s
 ·have HE:=Qh (show g.ins x y n s=g by unfold Gr.ins Gr.rowOp;rw[hon,if_neg (by simp)]);have D:=Qh (zkw X x y s (hs.below M) hon);have hq:=fun (wx:World)=>Lib.run_eql_slice_nil (P:=prog) wx 56 96 none 0 0 0 0 underlying56;unfold Sty.val at D ⊢;go_enter func143,ntmps143;go_wp2_with fail;refine D.mono ?_;rintro e w2 ⟨rfl,O⟩;have F0:=Qh (X.below O);have R:=Qh (M.trans (O.mono (by simp)));clear O D;go_wp2_with fail;refine zdh rfl rfl ⟨rfl,zh.of_below R,?_⟩;rw[HE.out];exact F0
 ·obtain⟨n1,n2,n3,n4,n5⟩:=zdp hon;obtain⟨A,rfl⟩:∃ k:Nat,x=(k:Int):=⟨x.toNat,by omega⟩;obtain⟨G,rfl⟩:∃ k:Nat,y=(k:Int):=⟨y.toNat,by omega⟩;obtain⟨vr,vo,Lr,Lo,V⟩:=X.out;have B2:=(Zg V).1;have H:G<Lr.length:=(by omega);have V1:=V.wf.c2;have I:Lr[G].2.cells.length=g.cols:=(V.wf.ce _ (List.mem_append_left _ (by rw[← V.er];exact List.mem_map_of_mem (List.getElem_mem H)))).1;have S0:∀ c∈Lr[G].2.cells,c.Ok:=(V.wf.ce _ (List.mem_append_left _ (by rw[← V.er];exact List.mem_map_of_mem (List.getElem_mem H)))).2;have D:=Qh (zhA V A G s (hs.below M) (by omega) H n5);have J0:=V.ca Lr[G] (List.mem_append_left _ (List.getElem_mem H));have HC:=Qh J0;obtain⟨b,C,F,L,J1,G2⟩:=zE J0.own (by omega);rw[I]at L J1;have HA:=Qh V;clear V J0;rw[L]at D;have hq:=fun (wx:World)=>Lib.run_eql_slice_nil (P:=prog) wx 56 96 (some ⟨b,C,none⟩) g.cols F 0 0 underlying56;unfold Sty.val at D ⊢;by_cases hn0:0<n;rotate_left
  ·have d0:decide (n≤0)=true:=Qt (by omega);have HE:=Qh (show g.ins A G n s=g by unfold Gr.ins Gr.rowOp;rw[if_neg (fun e=>hn0 e.2)]);go_enter func143,ntmps143;go_wp2_with fail;refine D.mono ?_;rintro e w2 ⟨rfl,O⟩;have F0:=Qh (X.below O);have R:=Qh (M.trans (O.mono (by simp)));clear O D;go_wp2_with fail;refine zdh rfl rfl ⟨rfl,zh.of_below R,?_⟩;rw[HE.out];exact F0
  have d0:decide (n≤0)=false:=Qf (by omega);obtain⟨N,hN⟩:∃ N:Nat,N=zdi g A n:=⟨_,rfl⟩;have Z1:min n ((g.cols:Int)-(A:Int))=(N:Int):=(by unfold zdi at hN;omega);have D2:1≤N∧A+N≤g.cols:=(by unfold zdi at hN;omega);have HE:=Qh (show g.ins A G n s=g.turn G (fun l=>zdT l A N s) by
   unfold Gr.ins Gr.rowOp;rw[if_pos ⟨hon,hn0⟩,hN,Int.toNat_natCast,Int.toNat_natCast])
  have Z0:T b=10+b:=by
   obtain⟨q,e1,e2⟩:=HC.out.tag;rw[L]at e1;simp only[Value.ownBlock]at e1;injection e1 with e1;subst e1;exact e2
  have E2:b<w.heap.size:=N1.out b (by omega);have I2:IntKind.i64.wrap ((g.cols:Int)-(A:Int))=(g.cols:Int)-(A:Int):=zd _ (by omega) (by omega);have H2:IntKind.i64.wrap ((A:Int)+(N:Int))=(A:Int)+(N:Int):=zd _ (by omega) (by omega);have C2:IntKind.i64.wrap ((g.cols:Int)-(N:Int))=(g.cols:Int)-(N:Int):=zd _ (by omega) (by omega);clear hN hon n1 n2 n3 n4;go_enter func143,ntmps143;go_wp2_with fail;refine D.mono ?_;rintro e w2 ⟨rfl,O⟩;have J:=Qh (HA.mod (.of_below O) id id id (fun _=>id));have R:=Qh (M.trans (O.mono (by simp)));have D0:=zr C0 O (by simp);have A0:=J.out.blk;have c0:w2.cell? ⟨p,0,none⟩=some (.int .i64 g.cols):=(zY J).1;have O2:=(J.ca Lr[G] (List.mem_append_left _ (List.getElem_mem H))).own;have F2:T p=1:=J.out.tp;have H0:b≠p:=fun e=>(by rw[e]at Z0;omega);rw[L,I]at O2;have X1:=Qh (show ∀ w',w2.grownBy w' (some b)→zp w' 0 5 (.slice (some ⟨b,C,none⟩) g.cols F) g.cols (zt (zdT Lr[G].2.cells A N s))→GM T p w' (g.turn G (fun l=>zdT l A N s)) from fun w' g' o'=>by
   have M0:(zdT Lr[G].2.cells A N s).length=g.cols:=by
    rw[ziR s (by omega)];exact I
   refine J.turned G H (b:=b) (by rw[L];rfl) (Mod.of_gb g' (fun k hk=>by injection hk with hk;subst hk;exact Z0)) _ ?_ ?_ ?_
   ·rw[M0,L];exact o'
   ·exact M0
   ·exact zny S0)
  have O1:=Qh (show ∀ w',w2.grownBy w' (some b)→zh (own T w) w w' from fun w' g'=>zcx R (by omega) g');clear O D C0 J;generalize Lr[G].2.cells=B at *;have F1:g.cols≤1000000:=(by omega);go_wp2_with fail;refine(zb1 B A b C g.cols F w2 O2 I F1 (by omega)).mono ?_;rintro e w5 ⟨rfl,g5,o5⟩;have E0:=zl D0 g5 (by intro e;injection e with e;omega);have S:=zl A0 g5 (by intro e;injection e with e;exact H0 e.symm);have k0:w5.cell? ⟨p,0,none⟩=some (.int .i64 g.cols):=za S 0;have C1:=Qh o5;have D1:=Qh E0;have L1:=Qh S;have O0:=Qh g5;clear o5 E0 g5 O2 c0 D0 A0 S;go_wp2_with fail;refine(zb1 (zB B A) ((g.cols:Int)-(N:Int)) b C g.cols F w5 C1 (by rw[zN];exact I) F1 (by omega)).mono ?_;rintro e w6 ⟨rfl,g6,o6⟩;rw[show(g.cols:Int)-(N:Int)=((B.length-N:Nat):Int) by omega]at o6;have Z:=zl D1 g6 (by intro e;injection e with e;omega);have B0:=zl L1 g6 (by intro e;injection e with e;exact H0 e.symm);have Y0:=Qh (Zc O0 g6);have V0:=Qh Z;have H1:=Qh B0;have I0:=Qh o6;clear k0 g6 o6 Z B0 O0 D1 L1 C1 hq;have E:(zB (zB B A) ((B.length-N:Nat):Int)).length=g.cols:=(by rw[zN,zN];exact I);obtain⟨da,X0,M1⟩:=zgf (P:=prog) (size:=5) underlying56 zT b C g.cols F (A+N) (by omega) J1;rw[show((A+N:Nat):Int)=(A:Int)+(N:Int) by omega]at X0;have A2:=zcW (P:=prog) (size:=5) underlying56 zT b C g.cols F A (by omega) (by omega);have L0:=zcR I0 A g.cols (F-A) ⟨b,C+A*5,none⟩ (fun _=>rfl) (by omega) (Nat.le_refl _);rw[zdY,zbc,List.take_of_length_le (by rw[List.length_drop,E];exact Nat.le_refl _)]at L0;have G1:=fun (wx:World) (ho:zp wx 0 5 (.slice (some ⟨b,C,none⟩) g.cols F) g.cols (zt (zB (zB B A) ((B.length-N:Nat):Int)))) (hr:zaB wx 5 (.slice (some ⟨b,C+A*5,none⟩) (g.cols-A) (F-A)) (g.cols-A) (zt ((zB (zB B A) ((B.length-N:Nat):Int)).drop A)))=>zbN (P:=prog) underlying56 zT ho (A+N) (g.cols-(A+N)) (F-(A+N)) da (fun h0=>M1 (by omega)) (by omega) hr (zbw _) 3;have N0:=Qh (show zaB w6.drew 5 (.slice (some ⟨b,C+A*5,none⟩) (g.cols-A) (F-A)) (g.cols-A) (zt ((zB (zB B A) ((B.length-N:Nat):Int)).drop A)) from L0);have U:=Qh (show zp w6.drew 0 5 (.slice (some ⟨b,C,none⟩) g.cols F) g.cols (zt (zB (zB B A) ((B.length-N:Nat):Int))) from I0.out);have B1:=G1 w6.drew U N0;rw[show Nat.min (g.cols-A) (g.cols-(A+N))=g.cols-(A+N) by show min _ _=_;omega,zbc]at B1;clear G1 L0;have I1:(((zB (zB B A) ((B.length-N:Nat):Int)).drop A).take (g.cols-(A+N))).length=g.cols-(A+N):=(by rw[List.length_take,List.length_drop,E];omega);go_upto_region 6 with fail
  go_still_tail 8,(by kernel_rfl)
  change wpList _ _ _ _ _ w6.drew;have G0:=zaz U (A+N) (zt (((zB (zB B A) ((B.length-N:Nat):Int)).drop A).take (g.cols-(A+N)))) (by rw[zbj,I1];omega);rw[← zb4]at G0;have g7:=zV w6.drew b (C+(A+N)*5) (zt (((zB (zB B A) ((B.length-N:Nat):Int)).drop A).take (g.cols-(A+N))));have Y:=Qh (zl (Zb V0) g7 (by intro e;injection e with e;omega));have A1:=Qh (zl (Zb H1) g7 (by intro e;injection e with e;exact H0 e.symm));have T0:=Qh (Zc (zaM Y0) g7);have U0:=Qh G0;clear G0 g7 V0 H1 Y0 I0 U N0;generalize T1:w6.drew.setCells b (C+(A+N)*5) (zt (((zB (zB B A) ((B.length-N:Nat):Int)).drop A).take (g.cols-(A+N))))=w7 at *;clear T1;have f0:w7.cell? ⟨w.heap.size,0,none⟩=some (.int .i64 s.fg):=za Y 0;have f1:w7.cell? ⟨w.heap.size,1,none⟩=some (.int .i64 s.bg):=za Y 1;have f2:w7.cell? ⟨w.heap.size,2,none⟩=some (.int .i64 s.attr):=za Y 2;have j0:w7.cell? ⟨p,0,none⟩=some (.int .i64 g.cols):=za A1 0;have Y1:=zca (P:=prog) (size:=5) underlying56 zT b C g.cols F A (A+N) (by omega) (by omega) (by omega);rw[show A+N-A=N by omega,show((A+N:Nat):Int)=(A:Int)+(N:Int) by omega]at Y1;have R0:=Qh (fun wx (ho:zp wx 0 5 (.slice (some ⟨b,C,none⟩) g.cols F) g.cols (zt (Za (zB (zB B A) ((B.length-N:Nat):Int)) (A+N) (((zB (zB B A) ((B.length-N:Nat):Int)).drop A).take (g.cols-(A+N))))))=>zcE (Za (zB (zB B A) ((B.length-N:Nat):Int)) (A+N) (((zB (zB B A) ((B.length-N:Nat):Int)).drop A).take (g.cols-(A+N)))) s b C g.cols F A N (F-A) wx ho (by rw[ZV _ _ _ (by rw[I1,E];omega)];exact E) (by omega) (by unfold maxLen;omega));unfold Sty.val at R0;go_upto_region 7 with fail
  go_still_tail 7,(by kernel_rfl)
  change wpList _ _ _ _ _ w7.drew;have U1:=Qh (show zp w7.drew 0 5 (.slice (some ⟨b,C,none⟩) g.cols F) g.cols (zt (Za (zB (zB B A) ((B.length-N:Nat):Int)) (A+N) (((zB (zB B A) ((B.length-N:Nat):Int)).drop A).take (g.cols-(A+N))))) from U0.out);have S1:=Qh (zaM T0);clear f0 f1 f2 j0 U0 T0 Y A1;generalize w7.drew=wd at *;go_wp2_with fail;refine(R0 _ U1).mono ?_;rintro e w9 ⟨rfl,g9,o9⟩;have E1:=Qh (Zc S1 g9);have R1:=Qh o9;clear g9 o9;go_wp2_with fail;go_end0;refine⟨rfl,O1 _ E1,?_⟩;rw[HE.out];refine X1 _ E1 ?_;have:=R1.out;rw[show g.cols-(A+N)=B.length-A-N by omega,zoF B A N s (by omega)]at this;exact this
theorem znE {T:Nat→Nat} {p:Nat} {w:World} {g:Gr} (h:GM T p w g) (x y n:Int) (s:Sty) (hs:ZU w s) :
  Calls prog 230 #[.pointer (some ⟨p,0,none⟩),.int .i64 x,.int .i64 y,.int .i64 n,s.val] w fun e w'=>e=.returned (.tuple #[])∧zh (own T w) w w'∧GM T p w' (g.del x y n s):=by
 have M:=Below.alloc (Below.refl w.heap.size w) (Nat.le_refl _) (.cells #[.int .i64 s.fg,.int .i64 s.bg,.int .i64 s.attr] 49);have C0:=zH w (.cells #[.int .i64 s.fg,.int .i64 s.bg,.int .i64 s.attr] 49);have X:=Qh (h.below M);have N1:=Qh h.lt;clear h;cases hon:g.onIt x y s
 ·have HE:=Qh (show g.del x y n s=g by unfold Gr.del Gr.rowOp;rw[hon,if_neg (by simp)]);have D:=Qh (zkw X x y s (hs.below M) hon);have hq:=fun (wx:World)=>Lib.run_eql_slice_nil (P:=prog) wx 56 96 none 0 0 0 0 underlying56;unfold Sty.val at D ⊢;go_enter func230,ntmps230;go_wp2_with fail;refine D.mono ?_;rintro e w2 ⟨rfl,O⟩;have F0:=Qh (X.below O);have R:=Qh (M.trans (O.mono (by simp)));clear O D;go_wp2_with fail;refine zdh rfl rfl ⟨rfl,zh.of_below R,?_⟩;rw[HE.out];exact F0
 ·obtain⟨n1,n2,n3,n4,n5⟩:=zdp hon;obtain⟨A,rfl⟩:∃ k:Nat,x=(k:Int):=⟨x.toNat,by omega⟩;obtain⟨G,rfl⟩:∃ k:Nat,y=(k:Int):=⟨y.toNat,by omega⟩;obtain⟨vr,vo,Lr,Lo,V⟩:=X.out;have B2:=(Zg V).1;have H:G<Lr.length:=(by omega);have V1:=V.wf.c2;have I:Lr[G].2.cells.length=g.cols:=(V.wf.ce _ (List.mem_append_left _ (by rw[← V.er];exact List.mem_map_of_mem (List.getElem_mem H)))).1;have S0:∀ c∈Lr[G].2.cells,c.Ok:=(V.wf.ce _ (List.mem_append_left _ (by rw[← V.er];exact List.mem_map_of_mem (List.getElem_mem H)))).2;have D:=Qh (zhA V A G s (hs.below M) (by omega) H n5);have J0:=V.ca Lr[G] (List.mem_append_left _ (List.getElem_mem H));have HC:=Qh J0;obtain⟨b,B,F,L,J1,G2⟩:=zE J0.own (by omega);rw[I]at L J1;have HA:=Qh V;clear V J0;rw[L]at D;have hq:=fun (wx:World)=>Lib.run_eql_slice_nil (P:=prog) wx 56 96 (some ⟨b,B,none⟩) g.cols F 0 0 underlying56;unfold Sty.val at D ⊢;by_cases hn0:0<n;rotate_left
  ·have d0:decide (n≤0)=true:=Qt (by omega);have HE:=Qh (show g.del A G n s=g by unfold Gr.del Gr.rowOp;rw[if_neg (fun e=>hn0 e.2)]);go_enter func230,ntmps230;go_wp2_with fail;refine D.mono ?_;rintro e w2 ⟨rfl,O⟩;have F0:=Qh (X.below O);have R:=Qh (M.trans (O.mono (by simp)));clear O D;go_wp2_with fail;refine zdh rfl rfl ⟨rfl,zh.of_below R,?_⟩;rw[HE.out];exact F0
  have d0:decide (n≤0)=false:=Qf (by omega);obtain⟨N,hN⟩:∃ N:Nat,N=zdi g A n:=⟨_,rfl⟩;have Z1:min n ((g.cols:Int)-(A:Int))=(N:Int):=(by unfold zdi at hN;omega);have D2:1≤N∧A+N≤g.cols:=(by unfold zdi at hN;omega);have HE:=Qh (show g.del A G n s=g.turn G (fun l=>zdU l A N s) by
   unfold Gr.del Gr.rowOp;rw[if_pos ⟨hon,hn0⟩,hN,Int.toNat_natCast,Int.toNat_natCast])
  have Z0:T b=10+b:=by
   obtain⟨q,e1,e2⟩:=HC.out.tag;rw[L]at e1;simp only[Value.ownBlock]at e1;injection e1 with e1;subst e1;exact e2
  have E2:b<w.heap.size:=N1.out b (by omega);have I2:IntKind.i64.wrap ((g.cols:Int)-(A:Int))=(g.cols:Int)-(A:Int):=zd _ (by omega) (by omega);have H2:IntKind.i64.wrap ((A:Int)+(N:Int))=(A:Int)+(N:Int):=zd _ (by omega) (by omega);have C2:IntKind.i64.wrap ((g.cols:Int)-(N:Int))=(g.cols:Int)-(N:Int):=zd _ (by omega) (by omega);clear hN hon n1 n2 n3 n4;go_enter func230,ntmps230;go_wp2_with fail;refine D.mono ?_;rintro e w2 ⟨rfl,O⟩;have J:=Qh (HA.mod (.of_below O) id id id (fun _=>id));have R:=Qh (M.trans (O.mono (by simp)));have D0:=zr C0 O (by simp);have A0:=J.out.blk;have c0:w2.cell? ⟨p,0,none⟩=some (.int .i64 g.cols):=(zY J).1;have O2:=(J.ca Lr[G] (List.mem_append_left _ (List.getElem_mem H))).own;have F2:T p=1:=J.out.tp;have H0:b≠p:=fun e=>(by rw[e]at Z0;omega);rw[L,I]at O2;have X1:=Qh (show ∀ w',w2.grownBy w' (some b)→zp w' 0 5 (.slice (some ⟨b,B,none⟩) g.cols F) g.cols (zt (zdU Lr[G].2.cells A N s))→GM T p w' (g.turn G (fun l=>zdU l A N s)) from fun w' g' o'=>by
   have M0:(zdU Lr[G].2.cells A N s).length=g.cols:=by
    rw[ziS s (by omega)];exact I
   refine J.turned G H (b:=b) (by rw[L];rfl) (Mod.of_gb g' (fun k hk=>by injection hk with hk;subst hk;exact Z0)) _ ?_ ?_ ?_
   ·rw[M0,L];exact o'
   ·exact M0
   ·exact znz S0)
  have O1:=Qh (show ∀ w',w2.grownBy w' (some b)→zh (own T w) w w' from fun w' g'=>zcx R (by omega) g');clear O D C0 J;generalize Lr[G].2.cells=E at *;have F1:g.cols≤1000000:=(by omega);go_wp2_with fail;refine(zb1 E A b B g.cols F w2 O2 I F1 (by omega)).mono ?_;rintro e w5 ⟨rfl,g5,o5⟩;have E0:=zl D0 g5 (by intro e;injection e with e;omega);have S:=zl A0 g5 (by intro e;injection e with e;exact H0 e.symm);have k0:w5.cell? ⟨p,0,none⟩=some (.int .i64 g.cols):=za S 0;have C1:=Qh o5;have D1:=Qh E0;have L1:=Qh S;have O0:=Qh g5;clear o5 E0 g5 O2 c0 D0 A0 S;go_wp2_with fail;refine(zb1 (zB E A) ((A:Int)+(N:Int)) b B g.cols F w5 C1 (by rw[zN];exact I) F1 (by omega)).mono ?_;rintro e w6 ⟨rfl,g6,o6⟩;rw[show(A:Int)+(N:Int)=((A+N:Nat):Int) by omega]at o6;have Z:=zl D1 g6 (by intro e;injection e with e;omega);have B0:=zl L1 g6 (by intro e;injection e with e;exact H0 e.symm);have X0:=Qh (Zc O0 g6);have V0:=Qh Z;have H1:=Qh B0;have I0:=Qh o6;clear k0 g6 o6 Z B0 O0 D1 L1 C1 hq;have C:(zB (zB E A) ((A+N:Nat):Int)).length=g.cols:=(by rw[zN,zN];exact I);have A2:=zcW (P:=prog) (size:=5) underlying56 zT b B g.cols F A (by omega) (by omega);obtain⟨sa,Y0,M1⟩:=zgf (P:=prog) (size:=5) underlying56 zT b B g.cols F (A+N) (by omega) J1;rw[show((A+N:Nat):Int)=(A:Int)+(N:Int) by omega]at Y0;have L0:=zcR I0 (A+N) g.cols (F-(A+N)) sa M1 (by omega) (Nat.le_refl _);rw[zdY,zbc,List.take_of_length_le (by rw[List.length_drop,C];exact Nat.le_refl _)]at L0;have G1:=fun (wx:World) (ho:zp wx 0 5 (.slice (some ⟨b,B,none⟩) g.cols F) g.cols (zt (zB (zB E A) ((A+N:Nat):Int)))) (hr:zaB wx 5 (.slice (some sa) (g.cols-(A+N)) (F-(A+N))) (g.cols-(A+N)) (zt ((zB (zB E A) ((A+N:Nat):Int)).drop (A+N))))=>zbN (P:=prog) underlying56 zT ho A (g.cols-A) (F-A) ⟨b,B+A*5,none⟩ (fun _=>rfl) (by omega) hr (zbw _) 3;have N0:=Qh (show zaB w6.drew 5 (.slice (some sa) (g.cols-(A+N)) (F-(A+N))) (g.cols-(A+N)) (zt ((zB (zB E A) ((A+N:Nat):Int)).drop (A+N))) from L0);have U:=Qh (show zp w6.drew 0 5 (.slice (some ⟨b,B,none⟩) g.cols F) g.cols (zt (zB (zB E A) ((A+N:Nat):Int))) from I0.out);have B1:=G1 w6.drew U N0;rw[show Nat.min (g.cols-(A+N)) (g.cols-A)=g.cols-(A+N) by show min _ _=_;omega,zbc]at B1;clear G1 L0;have I1:(((zB (zB E A) ((A+N:Nat):Int)).drop (A+N)).take (g.cols-(A+N))).length=g.cols-(A+N):=(by rw[List.length_take,List.length_drop,C];omega);go_upto_region 6 with fail
  go_still_tail 8,(by kernel_rfl)
  change wpList _ _ _ _ _ w6.drew;have G0:=zaz U A (zt (((zB (zB E A) ((A+N:Nat):Int)).drop (A+N)).take (g.cols-(A+N)))) (by rw[zbj,I1];omega);rw[← zb4]at G0;have g7:=zV w6.drew b (B+A*5) (zt (((zB (zB E A) ((A+N:Nat):Int)).drop (A+N)).take (g.cols-(A+N))));have Y:=Qh (zl (Zb V0) g7 (by intro e;injection e with e;omega));have A1:=Qh (zl (Zb H1) g7 (by intro e;injection e with e;exact H0 e.symm));have T0:=Qh (Zc (zaM X0) g7);have U0:=Qh G0;clear G0 g7 V0 H1 X0 I0 U N0;generalize T1:w6.drew.setCells b (B+A*5) (zt (((zB (zB E A) ((A+N:Nat):Int)).drop (A+N)).take (g.cols-(A+N))))=w7 at *;clear T1;have f0:w7.cell? ⟨w.heap.size,0,none⟩=some (.int .i64 s.fg):=za Y 0;have f1:w7.cell? ⟨w.heap.size,1,none⟩=some (.int .i64 s.bg):=za Y 1;have f2:w7.cell? ⟨w.heap.size,2,none⟩=some (.int .i64 s.attr):=za Y 2;have j0:w7.cell? ⟨p,0,none⟩=some (.int .i64 g.cols):=za A1 0;have Y1:=zcW (P:=prog) (size:=5) underlying56 zT b B g.cols F (g.cols-N) (by omega) (by omega);rw[show g.cols-(g.cols-N)=N by omega,show((g.cols-N:Nat):Int)=(g.cols:Int)-(N:Int) by omega]at Y1;have R0:=Qh (fun wx (ho:zp wx 0 5 (.slice (some ⟨b,B,none⟩) g.cols F) g.cols (zt (Za (zB (zB E A) ((A+N:Nat):Int)) A (((zB (zB E A) ((A+N:Nat):Int)).drop (A+N)).take (g.cols-(A+N))))))=>zcE (Za (zB (zB E A) ((A+N:Nat):Int)) A (((zB (zB E A) ((A+N:Nat):Int)).drop (A+N)).take (g.cols-(A+N)))) s b B g.cols F (g.cols-N) N (F-(g.cols-N)) wx ho (by rw[ZV _ _ _ (by rw[I1,C];omega)];exact C) (by omega) (by unfold maxLen;omega));unfold Sty.val at R0;go_upto_region 7 with fail
  go_still_tail 9,(by kernel_rfl)
  change wpList _ _ _ _ _ w7.drew;have U1:=Qh (show zp w7.drew 0 5 (.slice (some ⟨b,B,none⟩) g.cols F) g.cols (zt (Za (zB (zB E A) ((A+N:Nat):Int)) A (((zB (zB E A) ((A+N:Nat):Int)).drop (A+N)).take (g.cols-(A+N))))) from U0.out);have S1:=Qh (zaM T0);clear f0 f1 f2 j0 U0 T0 Y A1;generalize w7.drew=wd at *;go_wp2_with fail;refine(R0 _ U1).mono ?_;rintro e w9 ⟨rfl,g9,o9⟩;have E1:=Qh (Zc S1 g9);have R1:=Qh o9;clear g9 o9;go_wp2_with fail;go_end0;refine⟨rfl,O1 _ E1,?_⟩;rw[HE.out];refine X1 _ E1 ?_;have:=R1.out;rw[List.take_of_length_le (by rw[List.length_drop,C];exact Nat.le_refl _),show g.cols-N=E.length-N by omega,zoG E A N s (by omega)]at this;exact this
end
section
open Go.RowKit
theorem zce {f b a:Int} (hf:ZB f=true) (hb:ZB b=true) (h0:0≤a) (h1:a≤255):okS ⟨f,b,a⟩=true:=by
 unfold okS;rw[hf,hb];simp;omega
theorem zdI {p:Sty} (h:okS p=true):ZB p.fg=true∧ZB p.bg=true∧0≤p.attr∧p.attr≤255:=by
 unfold okS at h;simp only[Bool.and_eq_true,decide_eq_true_eq]at h;exact⟨h.1,h.2.1,h.2.2.1,h.2.2.2⟩
theorem zaU {x:Int} (h0:-1≤x) (h1:x≤255):ZB x=true:=by unfold ZB;simp;omega
theorem zkR {x:Int} (h0:16777216≤x) (h1:x<33554432):ZB x=true:=by unfold ZB;simp;omega
theorem zmj {a:Int} (b:Nat) (h0:0≤a) (h1:a≤255) (hb:b≤255):0≤bOr a (b:Int)∧bOr a (b:Int)≤255:=by
 obtain⟨x,rfl⟩:∃ n:Nat,a=n:=⟨a.toNat,by omega⟩;have h:x ||| b<2 ^ 8:=Nat.or_lt_two_pow (by omega) (by omega);unfold bOr;rw[BitVec.toNat_or,zcH x (by omega),zcH b (by omega),zd _ (by omega) (by omega)];omega
theorem zgG {a:Int} (b:Int) (h0:0≤a) (h1:a≤255):0≤ZD a b∧ZD a b≤255:=by
 have:=zj6 (a:=a) ⟨h0,by omega⟩ b;omega
theorem znF {p:Sty} (h:okS p=true) (n:Int) (kc:Nat × Int) (hk:2 ^ kc.1≤255):okS (zfI p n kc)=true:=by
 obtain⟨G,E,B,I⟩:=zdI h;unfold zfI;have A:okS (if n=kc.2 then { p with attr:=bOr p.attr (2 ^ kc.1:Nat) } else p)=true:=by
  split
  ·have:=zmj (2 ^ kc.1) B I hk;exact zce G E this.1 this.2
  ·exact h
 generalize (if n=kc.2 then { p with attr:=bOr p.attr (2 ^ kc.1:Nat) } else p)=J at A ⊢;obtain⟨C,D,H,F⟩:=zdI A;dsimp only;split
 ·have:=zgG ((2 ^ kc.1:Nat):Int) H F;exact zce C D this.1 this.2
 ·exact A
theorem zmk {p:Sty} (h:okS p=true) (n:Int):okS (zaS p n)=true:=by
 obtain⟨E,D,A,B⟩:=zdI h;unfold zaS
 repeat' split
 ·exact zam
 ·have:=zgG 3 A B;exact zce E D this.1 this.2
 ·exact zce (zaU (by omega) (by omega)) D A B
 ·exact zce (zaU (by omega) (by omega)) D A B
 ·exact zce E (zaU (by omega) (by omega)) A B
 ·exact zce E (zaU (by omega) (by omega)) A B
 ·exact zce (zaU (by omega) (by omega)) D A B
 ·exact zce E (zaU (by omega) (by omega)) A B
 ·have C:∀ (l:List (Nat × Int)) (p:Sty),(∀ kc∈l,2 ^ kc.1≤255)→okS p=true→okS (l.foldl (fun p kc=>zfI p n kc) p)=true:=by
   intro l
   induction l with
   | nil=>intro p _ F;exact F
   | cons a l ih=>intro p G F;exact ih _ (fun x hx=>G x (List.mem_cons_of_mem _ hx)) (znF F n a (G a (List.mem_cons_self ..)))
  exact C _ p (by decide) h
theorem ZX (ps:List Int) (i:Nat) (f:Int) (h0:0≤f) (h1:f≤9999):0≤par ps i f∧par ps i f≤9999:=by
 unfold par;split
 ·omega
 ·exact⟨h0,h1⟩
theorem zjj (ps:List Int) (i:Nat) (h:(Zq ps i).2≠0):ZB (Zq ps i).1=true:=by
 have A:=ZX ps (i+1) 0 (by decide) (by decide);have C:=ZX ps (i+2) 0 (by decide) (by decide);have B:=ZX ps (i+3) 0 (by decide) (by decide);unfold Zq at h ⊢;split
 ·exact zaU (by omega) (by omega)
 ·rename_i h5;rw[if_neg h5]at h;split
  ·exact zkR (by dsimp only;omega) (by dsimp only;omega)
  ·rename_i h6;rw[if_neg h6]at h;exact absurd rfl h
theorem zkS (ps:List Int):∀ (f i:Nat) (p:Sty),okS p=true→okS (zax ps f i p)=true:=by
 intro f
 induction f with
 | zero=>intro i p h;exact h
 | succ f ih =>
  intro i p h;unfold zax;split
  ·split
   ·split
    ·exact h
    ·rename_i A;have C:=zjj ps (i+1) A;obtain⟨E,A,D,B⟩:=zdI h;refine ih _ _ ?_;split
     ·exact zce C A D B
     ·exact zce E C D B
   ·exact ih _ _ (zmk h _)
  ·exact h
theorem zkT (ps:List Int) {p:Sty} (h:okS p=true):okS (zmc ps p)=true:=zkS ps _ _ _ (by
 split
 ·exact zam
 ·exact h)
section
variable {c r:Nat} {s:Scr}
theorem zhh {f:Scr→Scr} (hf:∀ t:Scr,t.Ok c r→(f t).Ok c r):∀ (n:Nat) (t:Scr),t.Ok c r→(itF f n t).Ok c r
 | 0,_,h=>h
 | n+1,t,h=>zhh hf n (f t) (hf t h)
theorem Scr.Ok.move (h:s.Ok c r) (hc:1≤c) (hr:1≤r) (k n:Int):∀ t,s.move k n=some t→t.Ok c r:=by
 intro t ht;unfold Scr.move at ht
 repeat' split at ht
 all_goals first
  | (injection ht with ht;subst ht;exact h.place hc hr _ _)
  | (injection ht with ht;subst ht;exact(h.place hc hr _ _).toX (Int.le_refl 0) (by omega))
  | (injection ht with ht;subst ht;exact zhh (fun _ h=>h.tab hc hr) _ _ h)
  | (injection ht with ht;subst ht;exact zhh (fun _ h=>h.back hc hr) _ _ h)
  | cases ht
theorem Scr.Ok.edit (h:s.Ok c r) (hc:1≤c) (k n:Int):∀ t,s.edit k n=some t→t.Ok c r:=by
 intro t ht;have A:=((h.toX (Int.le_refl 0) (by omega)).calm);unfold Scr.edit at ht;split at ht
 ·injection ht with ht;subst ht;exact(h.turn _ fun g hg=>zen hg _ _ _ _).calm
 split at ht
 ·injection ht with ht;subst ht;exact(h.turn _ fun g hg=>zme hg _ _ _ _).calm
 split at ht
 ·injection ht with ht;subst ht;exact(h.turn _ fun g hg=>zc1 hg _ _ _ _).calm
 split at ht
 ·injection ht with ht;subst ht;split
  ·exact A.turn _ fun g hg=>zeL hg _ _ _ _
  ·exact h
 split at ht
 ·injection ht with ht;subst ht;split
  ·exact A.turn _ fun g hg=>zhg hg _ _ _ _ _
  ·exact h
 split at ht
 ·injection ht with ht;subst ht;exact h.turn _ fun g hg=>zhg hg _ _ _ _ _
 split at ht
 ·injection ht with ht;subst ht;exact h.turn _ fun g hg=>zeL hg _ _ _ _
 split at ht
 ·injection ht with ht;subst ht;refine zhh (fun t h=>?_) _ _ h;split
  ·exact h.print hc _
  ·exact h
 ·cases ht
theorem zfe {g:Gr} (h:zaR c r g) (m:Int) (b:Sty) (y:Int) (n:Nat):zaR c r (zcw m b y n g):=by
 induction n with
 | zero=>exact h
 | succ n ih=>exact zcI (zc1 ih _ _ _ _) _ _
theorem Scr.Ok.clean (h:s.Ok c r) (y z:Int):(s.clean y z).Ok c r:=h.turn _ fun g hg=>zfe hg _ _ _ _
theorem Scr.Ok.inRow (h:s.Ok c r) (k:Int):(s.inRow k).Ok c r:=by
 unfold Scr.inRow
 repeat' split
 ·exact h.calm.turn _ fun g hg=>zcI (zc1 hg _ _ _ _) _ _
 ·exact h.calm.turn _ fun g hg=>zc1 hg _ _ _ _
 ·exact h.calm.clean _ _
 ·exact h.calm
theorem Scr.Ok.forget (h:s.Ok c r):s.forget.Ok c r:=⟨h.main,h.other,h.now,h.k0,h.k1,h.t0,h.tb,h.b1,h.tl,h.md⟩
theorem Scr.Ok.inAll (h:s.Ok c r) (k:Int):(s.inAll k).Ok c r:=by
 unfold Scr.inAll
 repeat' split
 ·exact(h.inRow 0).clean _ _
 ·exact(h.inRow 1).clean _ _
 ·exact h.calm.clean _ _
 ·exact h.calm.forget
 ·exact h.calm
theorem Scr.Ok.report (h:s.Ok c r) (k:Int):(s.report k).Ok c r:=by
 unfold Scr.report
 repeat' split
 ·exact h.say _
 ·exact h.say _
 ·exact h.say _
 ·exact h
theorem Scr.Ok.looks (h:s.Ok c r) (ps:List Int):(s.looks ps).Ok c r:=h.put ⟨h.now.x0,h.now.x1,h.now.y0,h.now.y1,zkT ps h.now.pen,h.now.sec⟩
theorem Scr.Ok.setMode1 (h:s.Ok c r) (k:Int) (on:Bool):(s.setMode1 k on).Ok c r:=by
 unfold Scr.setMode1
 repeat' split
 ·exact h.mode 2 ⟨by decide,by decide⟩ _
 ·exact h.mode 512 ⟨by decide,by decide⟩ _
 ·exact h
theorem Scr.Ok.region (h:s.Ok c r) (hc:1≤c) (hr:1≤r) (ps:List Int):(s.region ps).Ok c r:=by
 have e:=h.rows;unfold Scr.region;dsimp only;generalize (if par ps 1 s.rows=0 then s.rows else par ps 1 s.rows)=A;split
 ·rename_i hlt;have B:({ s with top:=max 1 (par ps 0 1)-1,bottom:=min A s.rows-1 }:Scr).Ok c r :=
   ⟨h.main,h.other,h.now,h.k0,h.k1,by show 0≤max 1 (par ps 0 1)-1;omega,by show max 1 (par ps 0 1)-1≤min A s.rows-1;omega,by show min A s.rows-1<r;omega,h.tl,h.md⟩
  exact B.place hc hr _ _
 ·exact h
theorem zfM {f:Scr→Nat→Scr} (hf:∀ (t:Scr) i,t.Ok c r→(f t i).Ok c r):∀ (l:List Nat) (t:Scr),t.Ok c r→(l.foldl f t).Ok c r
 | [],_,h=>h
 | i::l,t,h=>zfM hf l (f t i) (hf t i h)
theorem Scr.Ok.others (h:s.Ok c r) (hc:1≤c) (hr:1≤r) (k:Int) (ps:List Int):(s.others k ps).Ok c r:=by
 unfold Scr.others;dsimp only
 repeat' split
 ·exact h.place hc hr _ _
 ·exact h.inAll _
 ·exact h.inRow _
 ·exact h.say _
 ·exact h
 ·exact h.report _
 ·exact h.setTabs (by rw[List.length_set];exact h.tl)
 ·exact h.setTabs (by rw[List.length_replicate];exact h.tl)
 ·exact h
 ·exact zfM (fun t i h=>h.setMode1 _ _) _ _ h
 ·exact h.looks ps
 ·exact h.region hc hr ps
 ·exact h.keep _
 ·exact h
theorem Scr.Ok.private (h:s.Ok c r) (hc:1≤c) (hr:1≤r) (k:Int) (on:Bool):(s.private k on).Ok c r:=by
 unfold Scr.private;dsimp only
 repeat' split
 ·exact h.mode 16 ⟨by decide,by decide⟩ _
 ·exact(h.mode 4 ⟨by decide,by decide⟩ on).place hc hr _ _
 ·have A:=h.mode 1 ⟨by decide,by decide⟩ on;exact A.put ⟨A.now.x0,A.now.x1,A.now.y0,A.now.y1,A.now.pen,A.now.sec⟩
 ·exact h.mode 8 ⟨by decide,by decide⟩ _
 ·exact h.swap hr _
 ·exact h.keep _
 ·exact h.save.swap hr _
 ·exact(h.swap hr _).restore
 ·exact h.mode 128 ⟨by decide,by decide⟩ _
 ·exact h.mode 64 ⟨by decide,by decide⟩ _
 ·exact h
theorem Scr.Ok.soft (h:s.Ok c r) (hc:1≤c) (hr:1≤r):s.soft.Ok c r:=by
 have A:=(h.put (v:={ zbp with x:=s.now.x,y:=s.now.y }) ⟨h.now.x0,h.now.x1,h.now.y0,h.now.y1,zam,.inl rfl⟩).whole hr;unfold Scr.soft;dsimp only;generalize (({ s with now:={ zbp with x:=s.now.x,y:=s.now.y } }:Scr).whole)=B at A ⊢;have C:({ B with modes:=bOr (ZD B.modes 54) 9 }:Scr).Ok c r:=⟨A.main,A.other,A.now,A.k0,A.k1,A.t0,A.tb,A.b1,A.tl,(A.md.not 54).or ⟨by decide,by decide⟩⟩;exact C.setSlot (zc0 hc hr)
theorem Scr.Ok.csi (h:s.Ok c r) (hc:1≤c) (hr:1≤r) (b:UInt8) (ps:List Int) (i:List UInt8):(s.csi b ps i).Ok c r:=by
 unfold Scr.csi;dsimp only;split
 ·split
  ·rename_i t ht;exact h.move hc hr _ _ t ht
  ·split
   ·rename_i t ht;exact h.edit hc _ _ t ht
   ·exact h.others hc hr _ ps
 split
 ·split
  ·exact zfM (fun t i h=>h.private hc hr _ _) _ _ h
  ·exact h
 split
 ·split
  ·exact h.soft hc hr
  ·exact h
 split
 ·split
  ·exact h.say _
  ·exact h
 ·exact h
theorem Scr.Ok.named (h:s.Ok c r) (t:List UInt8):(s.named t).Ok c r:=by
 unfold Scr.named;split
 ·exact⟨h.main,h.other,h.now,h.k0,h.k1,h.t0,h.tb,h.b1,h.tl,h.md⟩
 ·exact h
end
end
section
open Go.RowKit
structure SR (B:World) (C:Nat→Nat) (p:Nat) (w:World) (s:Scr) (ps:PSt):Prop where
 sm:SM C p w s ps
 tb:zdz B
 bl:Below B.heap.size B w
 hi:∀ k,C k≠0→B.heap.size≤k
structure Pre (C:Nat→Nat) (w:World) (C':Nat→Nat) (w':World):Prop where
 wi:zh (own C w) w w'
 n:∀ k,C' k≠0→own C w k
theorem Pre.refl (C:Nat→Nat) (w:World):Pre C w C w:=⟨zh.refl _ _,fun _ hk=>.inl hk⟩
theorem Pre.trans {C C1 C2:Nat→Nat} {w w1 w2:World} (h:Pre C w C1 w1) (g:Pre C1 w1 C2 w2):Pre C w C2 w2 :=
 ⟨zdG h.wi h.n g.wi,fun k hk=>by
  rcases g.n k hk with e | e
  ·exact h.n k e
  ·exact .inr (by have:=h.wi.size;omega)⟩
theorem Pre.below {C C1:Nat→Nat} {w w1 w2:World} (h:Pre C w C1 w1) (b:Below w1.heap.size w1 w2):Pre C w C1 w2:=⟨h.wi.trans (zh.of_below b),h.n⟩
def zy (B:World) (C:Nat→Nat) (p:Nat) (w w':World) (s:Scr) (ps:PSt):Prop:=∃ C',SR B C' p w' s ps∧Pre C w C' w'
section
variable {B:World} {C:Nat→Nat} {p:Nat} {w w':World} {s:Scr} {ps:PSt}
theorem SR.step {C':Nat→Nat} {s':Scr} {ps':PSt} (h:SR B C p w s ps) (g:Pre C w C' w') (hs:SM C' p w' s' ps'):SR B C' p w' s' ps' :=
 ⟨hs,h.tb,h.bl.trans (zeI g.wi h.bl.size h.hi),zhK g.n h.bl.size h.hi⟩
theorem SR.below (h:SR B C p w s ps) (b:Below w.heap.size w w'):SR B C p w' s ps:=by
 obtain⟨D,A,G,H,L,E,J,F,I⟩:=h.sm;exact h.step ⟨zh.of_below b,fun _ hk=>.inl hk⟩ ⟨D,A,G,H,L,E,J,F,I.below b⟩
theorem zy.refl (h:SR B C p w s ps):zy B C p w w s ps:=⟨C,h,Pre.refl _ _⟩
theorem zy.after {C1:Nat→Nat} {w1 w2:World} {s2:Scr} {ps2:PSt} (g:Pre C w C1 w1) (d:zy B C1 p w1 w2 s2 ps2):zy B C p w w2 s2 ps2:=by
 obtain⟨A,D,E⟩:=d;exact⟨A,D,g.trans E⟩
theorem SR.blk (h:SR B C p w s ps):∃ pm po pp vt vo,w.heap[p]?=some (.cells (s.cells pm po pp vt vo) 89 (0,0)):=by
 obtain⟨E,D,F,pm,po,pp,vt,vo,A⟩:=h.sm;exact⟨pm,po,pp,vt,vo,A.blk⟩
theorem SR.fz (h:SR B C p w s ps) (i:Nat):w.frozen? ⟨p,i,none⟩=false:=by
 obtain⟨F,H,D,G,E,A⟩:=h.blk;exact zA A i
theorem SR.at_ (h:SR B C p w s ps) (i:Nat) (v:Value) (hv:∀ pm po pp vt vo,(s.cells pm po pp vt vo)[i]?=some v:=by intros;rfl):w.cell? ⟨p,i,none⟩=some v:=by
 obtain⟨pm,po,pp,vt,vo,A⟩:=h.blk;exact(za A i).trans (hv pm po pp vt vo)
theorem zw {w w':World} {p:Nat} (h:w'.heap[p]?=w.heap[p]?) (i:Nat):w'.cell? ⟨p,i,none⟩=w.cell? ⟨p,i,none⟩:=by
 unfold World.cell?;rw[h]
theorem SR.pc (h:SR B C p w s ps):C p≠0:=by
 obtain⟨E,D,H,I,L,F,J,G,A⟩:=h.sm;rw[A.cp];decide
theorem SR.pl (h:SR B C p w s ps):p<w.heap.size:=by
 obtain⟨F,H,D,G,E,A⟩:=h.blk;exact zq A
theorem SR.set (h:SR B C p w s ps) (i:Nat) (v:Value) (s':Scr) (hc:∀ pm po pp vt vo,(s.cells pm po pp vt vo).setIfInBounds i v=s'.cells pm po pp vt vo:=by intros;rfl) (h1:s'.main=s.main:=by rfl) (h2:s'.other=s.other:=by rfl) (h3:s'.tabs=s.tabs:=by rfl) (h4:s'.out=s.out:=by rfl) :
  SR B C p (w.setCell ⟨p,i,none⟩ v) s' ps∧Pre C w C (w.setCell ⟨p,i,none⟩ v):=by
 obtain⟨E,D,F,pm,po,pp,vt,vo,G⟩:=h.sm;have g:Pre C w C (w.setCell ⟨p,i,none⟩ v):=⟨zh.of_gb (zx (zo _ _) _ _) (fun k A=>by injection A with A;subst A;exact .inl h.pc),fun _ A=>.inl A⟩;exact⟨h.step g ⟨E,D,F,pm,po,pp,vt,vo,G.field i v (hc pm po pp vt vo) h1 h2 h3 h4⟩,g⟩
theorem SR.main (h:SR B C p w s ps):∃ T q,GM T q w s.main∧w.cell? ⟨p,10,none⟩=some (.pointer (some ⟨q,0,none⟩)) ∧
  ∀ w2 w' T' g',Below w.heap.size w w2→zh (own T w2) w2 w'→GM T' q w' g'→(∀ k,T' k≠0→own T w2 k)→zy B C p w w' { s with main:=g' } ps∧w'.heap[p]?=w.heap[p]?:=by
 obtain⟨D,I,M,H,O,J,N,L,A⟩:=h.sm;refine⟨D,H,A.gm,za A.blk 10,fun w2 w' T' g' hb hw hg hn=>?_⟩;obtain⟨G,F⟩:=(A.below hb).main' hw hg hn;have K:=zaT.of_own hw (A.below hb).t4;have E:Pre C w2 (reC C 4 T') w':=⟨K.own (by decide),F⟩;have g:=((Pre.refl C w).below hb).trans E;exact⟨⟨_,h.step g ⟨_,_,_,_,_,_,_,_,G⟩,g⟩,(K.blk (A.below hb).blk A.cp (by decide)).trans A.blk.symm⟩
def ShQ (w:World) (p q:Nat):Prop:=(w.cell? ⟨p,11,none⟩=some (.pointer none)∧w.cell? ⟨p,10,none⟩=some (.pointer (some ⟨q,0,none⟩)))∨w.cell? ⟨p,11,none⟩=some (.pointer (some ⟨q,0,none⟩))
theorem SR.grid (h:SR B C p w s ps):∃ T q,GM T q w s.shown∧ShQ w p q ∧
  ∀ w2 w' T' (f:Gr→Gr),Below w.heap.size w w2→zh (own T w2) w2 w'→GM T' q w' (f s.shown)→(∀ k,T' k≠0→own T w2 k)→zy B C p w w' (s.turn f) ps∧w'.heap[p]?=w.heap[p]?:=by
 obtain⟨I,H,M,J,R,L,N,O,hs⟩:=h.sm;rcases hs.go with ⟨rfl,e,_⟩ | ⟨q,g0,rfl,e,hg0⟩
 ·have A:s.shown=s.main:=(by unfold Scr.shown;rw[e];rfl);refine⟨I,J,by rw[A];exact hs.gm,.inl ⟨za hs.blk 11,za hs.blk 10⟩,fun w2 w' T' f hb hw hg hn=>?_⟩;obtain⟨D,F⟩:=(hs.below hb).main' hw hg hn;have K:=zaT.of_own hw (hs.below hb).t4;have G:Pre C w2 (reC C 4 T') w':=⟨K.own (by decide),F⟩;have g:=((Pre.refl C w).below hb).trans G;have E:s.turn f={ s with main:=f s.shown }:=(by unfold Scr.turn;rw[e,A]);rw[E];exact⟨⟨_,h.step g ⟨_,_,_,_,_,_,_,_,D⟩,g⟩,(K.blk (hs.below hb).blk hs.cp (by decide)).trans hs.blk.symm⟩
 ·have A:s.shown=g0:=(by unfold Scr.shown;rw[e];rfl);refine⟨H,q,by rw[A];exact hg0,.inr (za hs.blk 11),fun w2 w' T' f hb hw hg hn=>?_⟩;obtain⟨D,F⟩:=(hs.below hb).other' (g:=g0) hw hg hn;have K:=zaT.of_own hw (hs.below hb).t5;have G:Pre C w2 (reC C 5 T') w':=⟨K.own (by decide),F⟩;have g:=((Pre.refl C w).below hb).trans G;have E:s.turn f={ s with other:=some (f s.shown) }:=(by unfold Scr.turn;rw[e,A]);rw[E];exact⟨⟨_,h.step g ⟨_,_,_,_,_,_,_,_,D⟩,g⟩,(K.blk (hs.below hb).blk hs.cp (by decide)).trans hs.blk.symm⟩
theorem SR.right (h:SR B C p w s ps) (t:Sty) (h1:-9223372036854775808≤t.fg∧t.fg≤9223372036854775807) (h2:-9223372036854775808≤t.bg∧t.bg≤9223372036854775807):ZU w t:=(ze5 t B h.tb h1 h2).below h.bl
theorem zbC {t:Sty} (h:okS t=true):(-9223372036854775808≤t.fg∧t.fg≤9223372036854775807)∧(-9223372036854775808≤t.bg∧t.bg≤9223372036854775807):=by
 unfold okS ZB at h;simp only[Bool.and_eq_true,Bool.or_eq_true,decide_eq_true_eq]at h;omega
theorem SR.oth (h:SR B C p w s ps):(w.cell? ⟨p,11,none⟩=some (.pointer none)∧s.other.isNone=true)∨∃ q,w.cell? ⟨p,11,none⟩=some (.pointer (some ⟨q,0,none⟩))∧s.other.isNone=false:=by
 obtain⟨D,A,G,H,J,F,I,E,hs⟩:=h.sm;have c:=za hs.blk 11;rcases hs.go with ⟨rfl,e,_⟩ | ⟨q,g0,rfl,e,hg0⟩
 ·exact .inl ⟨c,by rw[e];rfl⟩
 ·exact .inr ⟨q,c,by rw[e];rfl⟩
theorem SR.wf (h:SR B C p w s ps):s.main.WF:=by
 obtain⟨T,q,A,_⟩:=h.main;exact A.wf
structure zoH (s:Scr):Prop where
 x0:0≤s.now.x
 x1:s.now.x<(s.main.cols:Int)
 y0:0≤s.now.y
 y1:s.now.y<(s.main.rows.length:Int)
 t0:0≤s.top
 tb:s.top≤s.bottom
 b1:s.bottom<(s.main.rows.length:Int)
 c1:1≤s.main.cols
 c2:s.main.cols≤250
 r1:1≤s.main.rows.length
 r2:s.main.rows.length≤120
 tl:s.tabs.length=s.main.cols
 pen:okS s.now.pen=true
theorem SR.nums {c r:Nat} (h:SR B C p w s ps) (hok:s.Ok c r):zoH s:=by
 have D:=h.wf;obtain⟨E,F⟩:=hok.main;have A:=hok.now;exact⟨A.x0,by rw[E];exact A.x1,A.y0,by rw[F];exact A.y1,hok.t0,hok.tb,by rw[F];exact hok.b1,D.c1,D.c2,D.r1,D.r2,by rw[E];exact hok.tl,A.pen⟩
theorem zoH.ok {s:Scr} (_:zoH s) {c r:Nat} (hok:s.Ok c r):c=s.main.cols∧r=s.main.rows.length:=⟨hok.main.1.symm,hok.main.2.symm⟩
theorem SR.blankR {c r:Nat} (h:SR B C p w s ps) (hok:s.Ok c r):ZU w s.blank:=by
 have A:=zbC (h.nums hok).pen;refine h.right _ ⟨?_,?_⟩ ?_
 ·show(-9223372036854775808:Int)≤-1;decide
 ·show(-1:Int)≤9223372036854775807;decide
 ·exact A.2
theorem SR.setG (h:SR B C p w s ps) (g:w.grownBy w' (some p)) (s':Scr) (hb:∀ pm po pp vt vo,w.heap[p]?=some (.cells (s.cells pm po pp vt vo) 89 (0,0))→w'.heap[p]?=some (.cells (s'.cells pm po pp vt vo) 89 (0,0)))
  (h1:s'.main=s.main:=by rfl) (h2:s'.other=s.other:=by rfl) (h3:s'.tabs=s.tabs:=by rfl) (h4:s'.out=s.out:=by rfl):SR B C p w' s' ps∧Pre C w C w':=by
 obtain⟨G,F,H,pm,po,pp,vt,vo,A⟩:=h.sm;have K:zaT C 1 w w':=.of_gb g (fun k D=>by injection D with D;subst D;exact .inl A.cp);have E:Pre C w C w':=⟨K.own (by decide),fun _ D=>.inl D⟩;exact⟨h.step E ⟨G,F,H,pm,po,pp,vt,vo,⟨fun k D=>Nat.lt_of_lt_of_le (A.lt k D) g.size,A.cp,hb pm po pp vt vo A.blk,by rw[h1];exact K.gm A.gm A.t4 (by decide),by rw[h2];exact K.oth A.go A.t5 (by decide),K.rest A.rp A.t6 (by decide),by rw[h3];exact K.row A.ta A.t2 (by decide),by rw[h4];exact K.row A.ou A.t3 (by decide),A.t2,A.t3,A.t4,A.t5,A.t6⟩⟩,E⟩
def Sav.vals (v:Sav):List Value:=[.int .i64 v.x,.int .i64 v.y,.bool v.wait,.int .i64 v.pen.fg,.int .i64 v.pen.bg,.int .i64 v.pen.attr,.bool v.origin,.bool v.l0,.bool v.l1,.int .i64 v.second]
theorem zbq (w:World) (p:Nat):∀ (vs:List Value) (o:Nat),w.grownBy (w.setCells p o vs) (some p):=fun vs o=>by
 induction vs generalizing w o with
 | nil=>exact zo _ _
 | cons v r ih=>exact Zc (zx (zo w (some p)) o v) (ih _ _)
theorem zcf {w:World} {p:Nat} {c:Array Value} {T:TypeId} (h:w.heap[p]?=some (.cells c T (0,0))) (o:Nat) (v:Sav) :
  (w.setCells p o v.vals).heap[p]?=some (.cells ((((((((((c.setIfInBounds o (.int .i64 v.x)).setIfInBounds (o+1) (.int .i64 v.y)).setIfInBounds (o+2) (.bool v.wait)).setIfInBounds (o+3) (.int .i64 v.pen.fg)).setIfInBounds (o+4) (.int .i64 v.pen.bg)).setIfInBounds (o+5) (.int .i64 v.pen.attr)).setIfInBounds (o+6) (.bool v.origin)).setIfInBounds (o+7) (.bool v.l0)).setIfInBounds (o+8) (.bool v.l1)).setIfInBounds (o+9) (.int .i64 v.second)) T (0,0)) :=
 zz (zz (zz (zz (zz (zz (zz (zz (zz (zz h _ _) _ _) _ _) _ _) _ _) _ _) _ _) _ _) _ _) _ _
theorem SR.setNow (h:SR B C p w s ps) (v:Sav):SR B C p (w.setCells p 0 v.vals) { s with now:=v } ps∧Pre C w C (w.setCells p 0 v.vals) :=
 h.setG (zbq w p _ _) { s with now:=v } (fun pm po pp vt vo hb=>by
  have h2:=zcf hb 0 v;simp only[Scr.cells,List.setIfInBounds_toArray,List.set_cons_zero,List.set_cons_succ,Nat.reduceAdd,Nat.zero_add]at h2;exact h2)
theorem SR.setK0 (h:SR B C p w s ps) (v:Sav):SR B C p (w.setCells p 12 v.vals) { s with k0:=v } ps∧Pre C w C (w.setCells p 12 v.vals) :=
 h.setG (zbq w p _ _) { s with k0:=v } (fun pm po pp vt vo hb=>by
  have h2:=zcf hb 12 v;simp only[Scr.cells,List.setIfInBounds_toArray,List.set_cons_zero,List.set_cons_succ,Nat.reduceAdd,Nat.zero_add]at h2;exact h2)
theorem SR.setK1 (h:SR B C p w s ps) (v:Sav):SR B C p (w.setCells p 22 v.vals) { s with k1:=v } ps∧Pre C w C (w.setCells p 22 v.vals) :=
 h.setG (zbq w p _ _) { s with k1:=v } (fun pm po pp vt vo hb=>by
  have h2:=zcf hb 22 v;simp only[Scr.cells,List.setIfInBounds_toArray,List.set_cons_zero,List.set_cons_succ,Nat.reduceAdd,Nat.zero_add]at h2;exact h2)
theorem zka {w:World} {p o:Nat} {c:Array Value} {T:TypeId} {vs:List Value} (h:w.heap[p]?=some (.cells c T (0,0))) (hv:∀ j v,vs[j]?=some v→c[o+j]?=some v):w.rangeAt p o vs:=fun j v e=>(za h (o+j)).trans (hv j v e)
theorem zgH (v:Sav) (o:Nat) (c:Array Value) (h0:c[o]?=some (.int .i64 v.x)) (h1:c[o+1]?=some (.int .i64 v.y)) (h2:c[o+2]?=some (.bool v.wait)) (h3:c[o+3]?=some (.int .i64 v.pen.fg)) (h4:c[o+4]?=some (.int .i64 v.pen.bg)) (h5:c[o+5]?=some (.int .i64 v.pen.attr)) (h6:c[o+6]?=some (.bool v.origin)) (h7:c[o+7]?=some (.bool v.l0)) (h8:c[o+8]?=some (.bool v.l1)) (h9:c[o+9]?=some (.int .i64 v.second)) :
  ∀ j u,v.vals[j]?=some u→c[o+j]?=some u
 | 0,u,e=>by rw[show v.vals[0]?=some (.int .i64 v.x) from rfl]at e;rw[← e];exact h0
 | 1,u,e=>by rw[show v.vals[1]?=some (.int .i64 v.y) from rfl]at e;rw[← e];exact h1
 | 2,u,e=>by rw[show v.vals[2]?=some (.bool v.wait) from rfl]at e;rw[← e];exact h2
 | 3,u,e=>by rw[show v.vals[3]?=some (.int .i64 v.pen.fg) from rfl]at e;rw[← e];exact h3
 | 4,u,e=>by rw[show v.vals[4]?=some (.int .i64 v.pen.bg) from rfl]at e;rw[← e];exact h4
 | 5,u,e=>by rw[show v.vals[5]?=some (.int .i64 v.pen.attr) from rfl]at e;rw[← e];exact h5
 | 6,u,e=>by rw[show v.vals[6]?=some (.bool v.origin) from rfl]at e;rw[← e];exact h6
 | 7,u,e=>by rw[show v.vals[7]?=some (.bool v.l0) from rfl]at e;rw[← e];exact h7
 | 8,u,e=>by rw[show v.vals[8]?=some (.bool v.l1) from rfl]at e;rw[← e];exact h8
 | 9,u,e=>by rw[show v.vals[9]?=some (.int .i64 v.second) from rfl]at e;rw[← e];exact h9
 | n+10,u,e=>by rw[show v.vals[n+10]?=none from rfl]at e;cases e
theorem SR.k0R (h:SR B C p w s ps):w.rangeAt p 12 s.k0.vals:=by
 obtain⟨F,H,D,G,E,A⟩:=h.blk;exact zka A (zgH s.k0 12 _ rfl rfl rfl rfl rfl rfl rfl rfl rfl rfl)
theorem SR.k1R (h:SR B C p w s ps):w.rangeAt p 22 s.k1.vals:=by
 obtain⟨F,H,D,G,E,A⟩:=h.blk;exact zka A (zgH s.k1 22 _ rfl rfl rfl rfl rfl rfl rfl rfl rfl rfl)
theorem SR.there (h:SR B C p w s ps) (o n:Nat) (hn:o+n≤41):w.there p o n:=fun j hj=>by
 obtain⟨pm,po,pp,vt,vo,hb⟩:=h.blk;refine⟨?_,h.fz _⟩;rw[za hb,Array.getElem?_eq_getElem (by show o+j<41;omega)];rfl
end
end
end Go.Proofs.YthehkmopdeebmaaGreatDoor
