/- Walks of package screen: Resize. -/
import Derived.Test.YthehkmopdeebmaaGreatDoorY35
set_option linter.unusedVariables false
set_option linter.unusedSimpArgs false
set_option maxRecDepth 100000
set_option maxHeartbeats 8000000
namespace Go.Proofs.YthehkmopdeebmaaGreatDoor
open _root_.Go.Proofs.Tryz
open Go.RowKit
def Scr.cutK (s:Scr) (cols rows:Nat):Nat→Scr
 | 0=>s
 | 1=>{ s with k0:=s.k0.cut cols rows }
 | _=>{ s with k0:=s.k0.cut cols rows,k1:=s.k1.cut cols rows }
theorem Pre.none {C C':Nat→Nat} {w w':World} {k:Nat} (g:Pre C w C' w') (h0:C k=0) (hk:k<w.heap.size):C' k=0:=Classical.byContradiction fun e=>by
 rcases g.n k e with e | e
 ·exact e h0
 ·omega
structure zcQ (B:World) (C:Nat→Nat) (p:Nat) (w:World) (s:Scr) (ps:PSt) (A:Nat) (x y:Int) (wz:World):Prop where
 ex:∃ C1,SR B C1 p wz s ps∧Pre C w C1 wz∧C1 A=0
 blk:wz.heap[A]?=some (.cells #[.int .i64 x,.int .i64 y] 139 (0,0))
 ge:w.heap.size≤A
theorem zcQ.put {B:World} {C C1:Nat→Nat} {p:Nat} {w wz:World} {s:Scr} {ps:PSt} {A:Nat} {c:Array Value} (h:SR B C1 p wz s ps) (g:Pre C w C1 wz) (h0:C1 A=0) (hA:w.heap.size≤A) (hB:B.heap.size≤w.heap.size)
  (hb:wz.heap[A]?=some (.cells c 139 (0,0))) (x y:Int):zcQ B C p w s ps A x y (wz.setRow A #[.int .i64 x,.int .i64 y]):=by
 have E:=zbD wz A #[.int .i64 x,.int .i64 y];exact⟨⟨C1,h.grow E (fun k D=>by injection D with D;rw[← D];exact h0) (fun k D=>by injection D with D;omega),g.grow E (fun k D=>by injection D with D;omega),h0⟩,Zz hb,hA⟩
theorem zhx {B:World} {C:Nat→Nat} {p c r:Nat} {w:World} {s:Scr} {ps:PSt} (h:SR B C p w s ps) (hok:s.Ok c r) (ho:s.other=none) (cols rows:Nat) (hr:1≤cols∧cols≤250∧1≤rows∧rows≤120) :
    Calls prog 29 #[.pointer (some ⟨p,0,none⟩),.int .i64 cols,.int .i64 rows] w fun e w'=>e=.returned (.int .i64 0)∧zy B C p w w' (s.resize cols rows) ps:=by
  have E1:s.tabs.length≤1000:=by have h1:=(h.nums hok).tl;have h2:=(h.nums hok).c2;omega
  obtain⟨ax,H0⟩:∃ x,x=s.now.x:=⟨_,rfl⟩
  obtain⟨ay,J0⟩:∃ x,x=s.now.y:=⟨_,rfl⟩
  obtain⟨R,hR⟩:∃ R,R=s.main.resize cols rows ax ay true:=⟨_,rfl⟩
  obtain⟨I,G0⟩:∃ x,x=R.2.1:=⟨_,rfl⟩
  obtain⟨M,I0⟩:∃ x,x=R.2.2:=⟨_,rfl⟩
  have R0:=Qh (fun (T:Nat→Nat) (q:Nat) (w:World) (hg:GM T q w s.main)=>zfj hg cols rows ax ay hr.1 hr.2.1 hr.2.2.1 hr.2.2.2)
  rw[← hR,← G0,← I0]at R0
  have D1:=Qh (And.intro H0 (And.intro J0 (And.intro hR (And.intro G0 I0))))
  have E:w.cell? ⟨p,0,none⟩=some (.int .i64 ax):=by rw[H0];exact h.at_ 0 _
  have F:w.cell? ⟨p,1,none⟩=some (.int .i64 ay):=by rw[J0];exact h.at_ 1 _
  obtain⟨_,q,_,G,_⟩:=h.main
  have A1:=Qh (Below.refl w.heap.size w).drew
  have E0:=Qh ((Below.refl w.heap.size w).drew.alloc (Nat.le_refl _) (.cells #[.int .i64 0,.int .i64 0] 139))
  have L1:=Qh (h.below A1)
  have G1:=Qh (h.below E0)
  have U0:=Qh (show(w.drew.alloc (.cells #[.int .i64 0,.int .i64 0] 139)).heap[w.heap.size]?=some (.cells #[.int .i64 0,.int .i64 0] 139 (0,0)) from zH w.drew (.cells #[.int .i64 0,.int .i64 0] 139))
  have B1:=Qh (h.free (Nat.le_refl w.heap.size))
  have N0:=Qh h.bl.size
  have M0:=zc E0 G
  have bx:=zc E0 E
  have T0:=zc E0 F
  clear H0 J0 hR G0 I0
  have M1:w.cell? ⟨p,11,none⟩=some (.pointer none):=by
    rcases h.oth with ⟨c,_⟩ | ⟨_,_,e⟩
    · exact c
    · rw[ho]at e;cases e
  clear h hok
  go_enter func29,ntmps29
  go_upto_region 4 with fail
  go_cut [8,9] (fun av ev wz=>ev=.int .i64 0∧∃ A:Nat,av=.pointer (some ⟨A,0,none⟩)∧Hid (zcQ B C p w { s with main:=R.1 } ps A I M wz))
  case first =>
    refine zJ (c:=20) (S:=(fun bb w'=>True∧(bb=false→w'.cell? ⟨p,10,none⟩=some (.pointer (some ⟨q,0,none⟩))∧w'.cell? ⟨p,0,none⟩=some (.int .i64 ax)∧w'.cell? ⟨p,1,none⟩=some (.int .i64 ay)))) (by kernel_rfl) (⟨trivial,fun _=>⟨G,E,F⟩⟩) (fun _=>?_)
    refine zb false 0 (⟨trivial,fun _=>⟨G,E,F⟩⟩) ?_
    refine zb false 1 (⟨trivial,fun _=>⟨G,E,F⟩⟩) ?_
    refine zb false 2 (⟨trivial,fun _=>⟨G,E,F⟩⟩) ?_
    refine Zh 3 (⟨trivial,fun _=>⟨G,E,F⟩⟩) ?_
    refine zb false 4 (⟨trivial,fun _=>⟨G,E,F⟩⟩) ?_
    refine zb false 5 (⟨trivial,fun _=>⟨G,E,F⟩⟩) ?_
    refine zb false 6 (⟨trivial,fun _=>⟨G,E,F⟩⟩) ?_
    refine zb false 7 (⟨trivial,fun _=>⟨G,E,F⟩⟩) ?_
    refine zb false 8 (⟨trivial,fun _=>⟨G,E,F⟩⟩) ?_
    refine Zh 9 (⟨trivial,fun _=>⟨G,E,F⟩⟩) ?_
    refine zb false 10 (⟨trivial,fun _=>⟨G,E,F⟩⟩) ?_
    refine zb false 11 (⟨trivial,fun _=>⟨G,E,F⟩⟩) ?_
    refine zb false 12 (⟨trivial,fun _=>⟨G,E,F⟩⟩) ?_
    refine Zh 13 (⟨trivial,fun _=>⟨G,E,F⟩⟩) ?_
    refine zb false 14 (⟨trivial,fun _=>⟨G,E,F⟩⟩) ?_
    refine zdx false false 15 19 ?_ ?_
    · intro K hK
      refine ze rfl ?_
      go_wp2_with fail
      obtain⟨T,q',hg,L0,F0⟩:=(L1).out.main
      obtain rfl:q=q':=by
        have e:=(G).symm.trans L0
        injection e with e;injection e with e;injection e with e;injection e
      refine(R0 _ _ _ hg).mono ?_
      rintro e O ⟨rfl,D0,T3,g9,n9⟩
      have L:=F0 _ _ T3 _ (Below.refl _ _) D0 g9 n9
      obtain⟨C9,h9,p9⟩:=L.1
      have N:=(zw L.2 10).trans (G)
      have nx:=(zw L.2 0).trans (E)
      have ny:=(zw L.2 1).trans (F)
      have H9:=Qh h9
      have P9:=Qh (((Pre.refl C w).below (A1).out).trans p9)
      have F1:=Qh (show w.heap.size≤O.heap.size from D0.size)
      have O0:=Qh (h9.free (Nat.le_refl O.heap.size))
      clear D0 g9 n9 h9 p9 hg F0 L0 L
      refine hK.out _ _ (⟨trivial,fun _=>⟨N,nx,ny⟩⟩) (fun _=>?_)
      clear hK K
      try simp only[Act.put,List.setIfInBounds_toArray,List.set_cons_zero,List.set_cons_succ]
      refine zb false 16 (⟨trivial,fun _=>⟨N,nx,ny⟩⟩) ?_
      refine zb false 17 (⟨trivial,fun _=>⟨N,nx,ny⟩⟩) ?_
      refine zb false 18 (⟨trivial,fun _=>⟨N,nx,ny⟩⟩) ?_
      refine zj false 19 fun K hK=>?_
      refine ze rfl ?_
      go_wp2_with fail
      refine hK.out _ _ (⟨trivial,fun _=>⟨zc ((Below.refl O.heap.size O).alloc (Nat.le_refl _) _) N,zc ((Below.refl O.heap.size O).alloc (Nat.le_refl _) _) nx,zc ((Below.refl O.heap.size O).alloc (Nat.le_refl _) _) ny⟩⟩) (fun _=>?_)
      clear hK K
      try simp only[Act.put,List.setIfInBounds_toArray,List.set_cons_zero,List.set_cons_succ]
      refine zj true 20 fun K hK=>?_
      refine ze rfl ?_
      first
        | (have Y0:=O0
           have Y:=zH O (.cells #[.int .i64 0,.int .i64 0] 139)
           have A0:=(Below.refl O.heap.size O).alloc (Nat.le_refl _) (.cells #[.int .i64 0,.int .i64 0] 139)
           have J:=run_storeVar_row (P:=prog) _ O.heap.size 139 139 _ #[.int .i64 I,.int .i64 M] Y (by kernel_rfl) rfl (by simp[Value.oneCell'])
           refine zal _ _ _ rfl J rfl rfl ?_
           have X:=Qh (zcQ.put (H9.below A0) (P9.below A0) O0 F1 N0 Y I M)
           clear Y0 Y A0 J)
        | (have J:=run_storeVar_row (P:=prog) O w.heap.size 139 139 _ #[.int .i64 I,.int .i64 M] S0 (by kernel_rfl) rfl (by simp[Value.oneCell'])
           refine zal _ _ _ rfl J rfl rfl ?_
           have X:=Qh (zcQ.put H9 P9 H1 (Nat.le_refl _) N0 S0 I M)
           clear J)
      refine hK.out _ _ (⟨trivial,fun e=>by cases e⟩) (fun _=>?_)
      clear hK K
      try simp only[Act.put]
      refine zb true 21 (⟨trivial,fun e=>by cases e⟩) ?_
      refine zD (by kernel_rfl) ?_ _
      go_wp2_with fail
      go_meet
      exact⟨rfl,_,rfl,X⟩
    · intro K hK
      refine ze rfl ?_
      go_wp2_with fail
      refine hK.out _ _ (⟨trivial,fun _=>⟨M0,bx,T0⟩⟩) (fun _=>?_)
      clear hK K
      try simp only[Act.put,List.setIfInBounds_toArray,List.set_cons_zero,List.set_cons_succ]
      refine zj false 15 fun K hK=>?_
      refine ze rfl ?_
      go_wp2_with fail
      obtain⟨T,q',hg,L0,F0⟩:=(G1).out.main
      obtain rfl:q=q':=by
        have e:=(M0).symm.trans L0
        injection e with e;injection e with e;injection e with e;injection e
      refine(R0 _ _ _ hg).mono ?_
      rintro e O ⟨rfl,D0,T3,g9,n9⟩
      have L:=F0 _ _ T3 _ (Below.refl _ _) D0 g9 n9
      obtain⟨C9,h9,p9⟩:=L.1
      have N:=(zw L.2 10).trans (M0)
      have nx:=(zw L.2 0).trans (bx)
      have ny:=(zw L.2 1).trans (T0)
      have H9:=Qh h9
      have P9:=Qh (((Pre.refl C w).below (E0).out).trans p9)
      have S0:=Qh (p9.blk U0 B1)
      have H1:=Qh (p9.none B1 (zq U0))
      clear D0 g9 n9 h9 p9 hg F0 L0 L
      refine hK.out _ _ (⟨trivial,fun _=>⟨N,nx,ny⟩⟩) (fun _=>?_)
      clear hK K
      try simp only[Act.put,List.setIfInBounds_toArray,List.set_cons_zero,List.set_cons_succ]
      refine zb false 16 (⟨trivial,fun _=>⟨N,nx,ny⟩⟩) ?_
      refine zb false 17 (⟨trivial,fun _=>⟨N,nx,ny⟩⟩) ?_
      refine zb false 18 (⟨trivial,fun _=>⟨N,nx,ny⟩⟩) ?_
      refine zj true 20 fun K hK=>?_
      refine ze rfl ?_
      first
        | (have Y0:=O0
           have Y:=zH O (.cells #[.int .i64 0,.int .i64 0] 139)
           have A0:=(Below.refl O.heap.size O).alloc (Nat.le_refl _) (.cells #[.int .i64 0,.int .i64 0] 139)
           have J:=run_storeVar_row (P:=prog) _ O.heap.size 139 139 _ #[.int .i64 I,.int .i64 M] Y (by kernel_rfl) rfl (by simp[Value.oneCell'])
           refine zal _ _ _ rfl J rfl rfl ?_
           have X:=Qh (zcQ.put (H9.below A0) (P9.below A0) O0 F1 N0 Y I M)
           clear Y0 Y A0 J)
        | (have J:=run_storeVar_row (P:=prog) O w.heap.size 139 139 _ #[.int .i64 I,.int .i64 M] S0 (by kernel_rfl) rfl (by simp[Value.oneCell'])
           refine zal _ _ _ rfl J rfl rfl ?_
           have X:=Qh (zcQ.put H9 P9 H1 (Nat.le_refl _) N0 S0 I M)
           clear J)
      refine hK.out _ _ (⟨trivial,fun e=>by cases e⟩) (fun _=>?_)
      clear hK K
      try simp only[Act.put]
      refine zb true 21 (⟨trivial,fun e=>by cases e⟩) ?_
      refine zD (by kernel_rfl) ?_ _
      go_wp2_with fail
      go_meet
      exact⟨rfl,_,rfl,X⟩
  case rest =>
  obtain⟨rfl,A,rfl,U⟩:=hcut
  obtain⟨Z,rfl⟩:∃ z,z=wc:=⟨wc,rfl⟩
  obtain⟨C1,h1,p1,z1⟩:=U.out.ex
  have a0:Z.cell? ⟨A,0,none⟩=some (.int .i64 I):=za U.blk 0
  have a1:Z.cell? ⟨A,1,none⟩=some (.int .i64 M):=za U.blk 1
  have hd:=h1.below (Below.refl Z.heap.size Z).drew
  obtain⟨h2,g2⟩:=hd.set 0 (.int .i64 I) { s with main:=R.1,now:={ s.now with x:=I } }
  obtain⟨h3,g3⟩:=h2.set 1 (.int .i64 M) { s with main:=R.1,now:={ s.now with x:=I,y:=M } }
  have f0:=hd.fz 0
  have f1:(Z.setCell ⟨p,0,none⟩ (.int .i64 I)).drew.frozen? ⟨p,1,none⟩=false:=h2.fz 1
  have e0:Z.drew.cell? ⟨p,0,none⟩=some (.int .i64 s.now.x):=hd.at_ 0 _
  have e1:(Z.setCell ⟨p,0,none⟩ (.int .i64 I)).drew.cell? ⟨p,1,none⟩=some (.int .i64 s.now.y):=h2.at_ 1 _
  have H3:=Qh (show SR B C1 p ((Z.setCell ⟨p,0,none⟩ (.int .i64 I)).setCell ⟨p,1,none⟩ (.int .i64 M)).drew { s with main:=R.1,now:={ s.now with x:=I,y:=M } } ps from h3)
  have P3:=Qh (show Pre C w C1 ((Z.setCell ⟨p,0,none⟩ (.int .i64 I)).setCell ⟨p,1,none⟩ (.int .i64 M)).drew from((p1.below (Below.refl Z.heap.size Z).drew).trans g2).trans g3)
  have V1:=Qh z1
  have R1:=Qh (show((Z.setCell ⟨p,0,none⟩ (.int .i64 I)).setCell ⟨p,1,none⟩ (.int .i64 M)).drew.heap[A]?=some (.cells #[.int .i64 I,.int .i64 M] 139 (0,0)) from(g2.trans g3).blk (Zb U.blk) z1)
  have b0:(Z.setCell ⟨p,0,none⟩ (.int .i64 I)).drew.cell? ⟨A,0,none⟩=some (.int .i64 I):=za (g2.blk (Zb U.blk) z1) 0
  have b1:(Z.setCell ⟨p,0,none⟩ (.int .i64 I)).drew.cell? ⟨A,1,none⟩=some (.int .i64 M):=za (g2.blk (Zb U.blk) z1) 1
  have T1:=Qh U.ge
  clear hd h1 h2 h3 g2 g3 p1 z1 U R0 A1 E0 L1 G1 U0 B1 M0 bx T0 E F G
  go_upto_region 7 with fail
  refine zJ (c:=11) (S:=(fun bb w'=>True∧(bb=false→w'.cell? ⟨A,0,none⟩=some (.int .i64 I)∧w'.cell? ⟨A,1,none⟩=some (.int .i64 M)))) (by kernel_rfl) (⟨trivial,fun _=>⟨a0,a1⟩⟩) (fun _=>?_)
  refine zb false 0 (⟨trivial,fun _=>⟨a0,a1⟩⟩) ?_
  refine zb false 1 (⟨trivial,fun _=>⟨a0,a1⟩⟩) ?_
  refine zb false 2 (⟨trivial,fun _=>⟨a0,a1⟩⟩) ?_
  refine Zh 3 (⟨trivial,fun _=>⟨a0,a1⟩⟩) ?_
  refine zb false 4 (⟨trivial,fun _=>⟨a0,a1⟩⟩) ?_
  refine Zh 5 (⟨trivial,fun _=>⟨a0,a1⟩⟩) ?_
  refine zb false 6 (⟨trivial,fun _=>⟨a0,a1⟩⟩) ?_
  refine zb false 7 (⟨trivial,fun _=>⟨a0,a1⟩⟩) ?_
  refine zj false 8 fun K hK=>?_
  refine ze rfl ?_
  go_wp2_with fail
  refine hK.out _ _ (⟨trivial,fun _=>⟨b0,b1⟩⟩) (fun _=>?_)
  clear hK K
  try simp only[Act.put]
  refine zb false 9 (⟨trivial,fun _=>⟨b0,b1⟩⟩) ?_
  refine zb false 10 (⟨trivial,fun _=>⟨b0,b1⟩⟩) ?_
  refine zj true 11 fun K hK=>?_
  refine ze rfl ?_
  go_wp2_with fail
  refine hK.out _ _ (⟨trivial,fun e=>by cases e⟩) (fun _=>?_)
  clear hK K
  try simp only[Act.put]
  refine zD (by kernel_rfl) ?_ _
  clear f0 f1 e0 e1 a0 a1 b0 b1
  generalize ((Z.setCell ⟨p,0,none⟩ (.int .i64 I)).setCell ⟨p,1,none⟩ (.int .i64 M)).drew=w3 at *
  have U1:w3.cell? ⟨p,11,none⟩=some (.pointer none):=by
    rcases H3.out.oth with ⟨c,_⟩ | ⟨_,_,e⟩
    · exact c
    · rw[show({ s with main:=R.1,now:={ s.now with x:=I,y:=M } }:Scr).other=s.other from rfl,ho]at e;cases e
  clear M1 R1 T1
  obtain⟨w4,rfl⟩:∃ z,z=w3:=⟨w3,rfl⟩
  have H4:=H3
  have P4:=P3
  clear H3 P3
  go_upto_region 11 with fail
  have c2:=H4.out.at_ 2 (.bool _)
  have f2:=H4.out.fz 2
  obtain⟨S4,V⟩:∃ z:Scr,z={ ({ s with main:=R.1,now:={ s.now with x:=I,y:=M } }:Scr) with now:={ Scr.now ({ s with main:=R.1,now:={ s.now with x:=I,y:=M } }:Scr) with wait:=false } }:=⟨_,rfl⟩
  obtain⟨h5,g5⟩:=H4.out.set 2 (.bool false) S4 (by intros;rw[V];rfl) (by rw[V]) (by rw[V]) (by rw[V]) (by rw[V])
  have X0:=Qh h5
  have Z0:=Qh (P4.trans g5)
  have O1:=Qh (show(S4.cutK cols rows 2).tabs.length≤1000 by rw[V];exact E1)
  have J1:=Qh (show((S4.cutK cols rows 2).stops).whole=s.resize cols rows by
    obtain⟨H0,J0,hR,G0,I0⟩:=D1.out
    rw[V]
    rw[G0,I0,hR,H0,J0]
    unfold Scr.resize Scr.sized
    rw[ho]
    rfl)
  clear h5 g5 H4 P4 V D1 E1
  go_upto_region 12 with fail
  obtain⟨C5,I1⟩:∃ z,z=C1:=⟨_,rfl⟩
  rw[← I1]at X0 Z0
  generalize w4.setCell ⟨p,2,none⟩ (.bool false)=w5 at *
  have H5:=Qh (show SR B C5 p w5 (S4.cutK cols rows 0) ps from X0.out)
  have P5:=Z0
  clear I1 c2 f2 X0 Z0
  go_wp2_with fail
  go_loopw [98] (fun iv wr=>∃ (k:Nat) (C1:Nat→Nat),k≤2∧iv=.int .i64 k∧Hid (SR B C1 p wr (S4.cutK cols rows k) ps)∧Hid (Pre C w C1 wr)) (fun iv _=>2-(intOf iv).toNat)
  case atStart=>exact⟨0,C5,by decide,rfl,H5,P5⟩
  case round =>
    obtain⟨k,C6,hk,rfl,H6,P6⟩:=hrel
    obtain⟨H,rfl⟩:∃ z,z=wr:=⟨wr,rfl⟩
    match k,hk with
    | 0,_ =>
      obtain⟨D,C0⟩:∃ z,z=S4.cutK cols rows 0:=⟨_,rfl⟩
      have V0:=Qh C0
      have B0:=Qh (show SR B C6 p H D ps by rw[C0];exact H6)
      clear C0 H6
      have hd:=B0.out.below (Below.refl H.heap.size H).drew
      have E:H.cell? ⟨p,12,none⟩=some (.int .i64 D.k0.x):=B0.out.at_ 12 _
      have F:H.cell? ⟨p,13,none⟩=some (.int .i64 D.k0.y):=B0.out.at_ 13 _
      obtain⟨h7,g7⟩:=hd.set 12 (.int .i64 (min D.k0.x ((cols:Int)-1))) { D with k0:={ D.k0 with x:=min D.k0.x ((cols:Int)-1) } }
      obtain⟨h8,g8⟩:=h7.set 13 (.int .i64 (min D.k0.y ((rows:Int)-1))) { D with k0:={ D.k0 with x:=min D.k0.x ((cols:Int)-1),y:=min D.k0.y ((rows:Int)-1) } }
      obtain⟨h9,g9⟩:=h8.set 14 (.bool false) { D with k0:=D.k0.cut cols rows }
      have f0:=hd.fz 12
      have f1:(H.setCell ⟨p,12,none⟩ (.int .i64 (min D.k0.x ((cols:Int)-1)))).drew.frozen? ⟨p,13,none⟩=false:=h7.fz 13
      have f2:((H.setCell ⟨p,12,none⟩ (.int .i64 (min D.k0.x ((cols:Int)-1)))).setCell ⟨p,13,none⟩ (.int .i64 (min D.k0.y ((rows:Int)-1)))).drew.frozen? ⟨p,14,none⟩=false:=h8.fz 14
      have e0:H.drew.cell? ⟨p,12,none⟩=some (.int .i64 D.k0.x):=hd.at_ 12 _
      have e1:(H.setCell ⟨p,12,none⟩ (.int .i64 (min D.k0.x ((cols:Int)-1)))).drew.cell? ⟨p,13,none⟩=some (.int .i64 D.k0.y):=h7.at_ 13 _
      have e2:((H.setCell ⟨p,12,none⟩ (.int .i64 (min D.k0.x ((cols:Int)-1)))).setCell ⟨p,13,none⟩ (.int .i64 (min D.k0.y ((rows:Int)-1)))).drew.cell? ⟨p,14,none⟩=some (.bool D.k0.wait):=h8.at_ 14 _
      have HX:=Qh (show SR B C6 p (((H.setCell ⟨p,12,none⟩ (.int .i64 (min D.k0.x ((cols:Int)-1)))).setCell ⟨p,13,none⟩ (.int .i64 (min D.k0.y ((rows:Int)-1)))).setCell ⟨p,14,none⟩ (.bool false)).drew { D with k0:=D.k0.cut cols rows } ps from h9)
      have PX:=Qh (show Pre C6 H C6 (((H.setCell ⟨p,12,none⟩ (.int .i64 (min D.k0.x ((cols:Int)-1)))).setCell ⟨p,13,none⟩ (.int .i64 (min D.k0.y ((rows:Int)-1)))).setCell ⟨p,14,none⟩ (.bool false)).drew from((((Pre.refl C6 H).below (Below.refl H.heap.size H).drew).trans g7).trans g8).trans g9)
      have N1:IntKind.i64.wrap ((cols:Int)-1)=(cols:Int)-1:=zd _ (by omega) (by omega)
      have S1:IntKind.i64.wrap ((rows:Int)-1)=(rows:Int)-1:=zd _ (by omega) (by omega)
      clear hd h7 h8 h9 g7 g8 g9
      go_upto_region 16 with fail
      refine zJ (c:=19) (S:=(fun bb w'=>True∧(bb=false→w'.cell? ⟨p,12,none⟩=some (.int .i64 D.k0.x)∧w'.cell? ⟨p,13,none⟩=some (.int .i64 D.k0.y)))) (by kernel_rfl) (⟨trivial,fun _=>⟨E,F⟩⟩) (fun _=>?_)
      refine zb false 0 (⟨trivial,fun _=>⟨E,F⟩⟩) ?_
      refine zb false 1 (⟨trivial,fun _=>⟨E,F⟩⟩) ?_
      refine zb false 2 (⟨trivial,fun _=>⟨E,F⟩⟩) ?_
      refine zb false 3 (⟨trivial,fun _=>⟨E,F⟩⟩) ?_
      refine zb false 4 (⟨trivial,fun _=>⟨E,F⟩⟩) ?_
      refine zb false 5 (⟨trivial,fun _=>⟨E,F⟩⟩) ?_
      refine Zh 6 (⟨trivial,fun _=>⟨E,F⟩⟩) ?_
      refine zb false 7 (⟨trivial,fun _=>⟨E,F⟩⟩) ?_
      refine zb false 8 (⟨trivial,fun _=>⟨E,F⟩⟩) ?_
      refine zb false 9 (⟨trivial,fun _=>⟨E,F⟩⟩) ?_
      refine zb false 10 (⟨trivial,fun _=>⟨E,F⟩⟩) ?_
      refine zb false 11 (⟨trivial,fun _=>⟨E,F⟩⟩) ?_
      refine zb false 12 (⟨trivial,fun _=>⟨E,F⟩⟩) ?_
      refine Zh 13 (⟨trivial,fun _=>⟨E,F⟩⟩) ?_
      refine zb false 14 (⟨trivial,fun _=>⟨E,F⟩⟩) ?_
      refine zb false 15 (⟨trivial,fun _=>⟨E,F⟩⟩) ?_
      refine zb false 16 (⟨trivial,fun _=>⟨E,F⟩⟩) ?_
      refine zb false 17 (⟨trivial,fun _=>⟨E,F⟩⟩) ?_
      refine zb false 18 (⟨trivial,fun _=>⟨E,F⟩⟩) ?_
      refine zj true 19 fun K hK=>?_
      refine ze rfl ?_
      go_wp2_with fail
      refine hK.out _ _ (⟨trivial,fun e=>by cases e⟩) (fun _=>?_)
      clear hK K
      try simp only[Act.put]
      refine zb true 20 (⟨trivial,fun e=>by cases e⟩) ?_
      refine zb true 21 (⟨trivial,fun e=>by cases e⟩) ?_
      refine zj true 22 fun K hK=>?_
      refine ze rfl ?_
      go_wp2_with fail
      refine hK.out _ _ (⟨trivial,fun e=>by cases e⟩) (fun _=>?_)
      clear hK K
      try simp only[Act.put]
      refine zb true 23 (⟨trivial,fun e=>by cases e⟩) ?_
      refine zb true 24 (⟨trivial,fun e=>by cases e⟩) ?_
      refine zj true 25 fun K hK=>?_
      refine ze rfl ?_
      go_wp2_with fail
      refine hK.out _ _ (⟨trivial,fun e=>by cases e⟩) (fun _=>?_)
      clear hK K
      try simp only[Act.put]
      refine zD (by kernel_rfl) ?_ _
      go_wp2_with fail
      go_roundw
      case rel=>exact⟨0+1,C6,by decide,rfl,by rw[show S4.cutK cols rows (0+1)={ D with k0:=D.k0.cut cols rows } from by rw[V0.out];rfl];exact HX,P6.trans PX⟩
      case measure=>simp[intOf]
    | 1,_ =>
      obtain⟨D,C0⟩:∃ z,z=S4.cutK cols rows 1:=⟨_,rfl⟩
      have V0:=Qh C0
      have B0:=Qh (show SR B C6 p H D ps by rw[C0];exact H6)
      clear C0 H6
      have hd:=B0.out.below (Below.refl H.heap.size H).drew
      have E:H.cell? ⟨p,22,none⟩=some (.int .i64 D.k1.x):=B0.out.at_ 22 _
      have F:H.cell? ⟨p,23,none⟩=some (.int .i64 D.k1.y):=B0.out.at_ 23 _
      obtain⟨h7,g7⟩:=hd.set 22 (.int .i64 (min D.k1.x ((cols:Int)-1))) { D with k1:={ D.k1 with x:=min D.k1.x ((cols:Int)-1) } }
      obtain⟨h8,g8⟩:=h7.set 23 (.int .i64 (min D.k1.y ((rows:Int)-1))) { D with k1:={ D.k1 with x:=min D.k1.x ((cols:Int)-1),y:=min D.k1.y ((rows:Int)-1) } }
      obtain⟨h9,g9⟩:=h8.set 24 (.bool false) { D with k1:=D.k1.cut cols rows }
      have f0:=hd.fz 22
      have f1:(H.setCell ⟨p,22,none⟩ (.int .i64 (min D.k1.x ((cols:Int)-1)))).drew.frozen? ⟨p,23,none⟩=false:=h7.fz 23
      have f2:((H.setCell ⟨p,22,none⟩ (.int .i64 (min D.k1.x ((cols:Int)-1)))).setCell ⟨p,23,none⟩ (.int .i64 (min D.k1.y ((rows:Int)-1)))).drew.frozen? ⟨p,24,none⟩=false:=h8.fz 24
      have e0:H.drew.cell? ⟨p,22,none⟩=some (.int .i64 D.k1.x):=hd.at_ 22 _
      have e1:(H.setCell ⟨p,22,none⟩ (.int .i64 (min D.k1.x ((cols:Int)-1)))).drew.cell? ⟨p,23,none⟩=some (.int .i64 D.k1.y):=h7.at_ 23 _
      have e2:((H.setCell ⟨p,22,none⟩ (.int .i64 (min D.k1.x ((cols:Int)-1)))).setCell ⟨p,23,none⟩ (.int .i64 (min D.k1.y ((rows:Int)-1)))).drew.cell? ⟨p,24,none⟩=some (.bool D.k1.wait):=h8.at_ 24 _
      have HX:=Qh (show SR B C6 p (((H.setCell ⟨p,22,none⟩ (.int .i64 (min D.k1.x ((cols:Int)-1)))).setCell ⟨p,23,none⟩ (.int .i64 (min D.k1.y ((rows:Int)-1)))).setCell ⟨p,24,none⟩ (.bool false)).drew { D with k1:=D.k1.cut cols rows } ps from h9)
      have PX:=Qh (show Pre C6 H C6 (((H.setCell ⟨p,22,none⟩ (.int .i64 (min D.k1.x ((cols:Int)-1)))).setCell ⟨p,23,none⟩ (.int .i64 (min D.k1.y ((rows:Int)-1)))).setCell ⟨p,24,none⟩ (.bool false)).drew from((((Pre.refl C6 H).below (Below.refl H.heap.size H).drew).trans g7).trans g8).trans g9)
      have N1:IntKind.i64.wrap ((cols:Int)-1)=(cols:Int)-1:=zd _ (by omega) (by omega)
      have S1:IntKind.i64.wrap ((rows:Int)-1)=(rows:Int)-1:=zd _ (by omega) (by omega)
      clear hd h7 h8 h9 g7 g8 g9
      go_upto_region 16 with fail
      refine zJ (c:=19) (S:=(fun bb w'=>True∧(bb=false→w'.cell? ⟨p,22,none⟩=some (.int .i64 D.k1.x)∧w'.cell? ⟨p,23,none⟩=some (.int .i64 D.k1.y)))) (by kernel_rfl) (⟨trivial,fun _=>⟨E,F⟩⟩) (fun _=>?_)
      refine zb false 0 (⟨trivial,fun _=>⟨E,F⟩⟩) ?_
      refine zb false 1 (⟨trivial,fun _=>⟨E,F⟩⟩) ?_
      refine zb false 2 (⟨trivial,fun _=>⟨E,F⟩⟩) ?_
      refine zb false 3 (⟨trivial,fun _=>⟨E,F⟩⟩) ?_
      refine zb false 4 (⟨trivial,fun _=>⟨E,F⟩⟩) ?_
      refine zb false 5 (⟨trivial,fun _=>⟨E,F⟩⟩) ?_
      refine Zh 6 (⟨trivial,fun _=>⟨E,F⟩⟩) ?_
      refine zb false 7 (⟨trivial,fun _=>⟨E,F⟩⟩) ?_
      refine zb false 8 (⟨trivial,fun _=>⟨E,F⟩⟩) ?_
      refine zb false 9 (⟨trivial,fun _=>⟨E,F⟩⟩) ?_
      refine zb false 10 (⟨trivial,fun _=>⟨E,F⟩⟩) ?_
      refine zb false 11 (⟨trivial,fun _=>⟨E,F⟩⟩) ?_
      refine zb false 12 (⟨trivial,fun _=>⟨E,F⟩⟩) ?_
      refine Zh 13 (⟨trivial,fun _=>⟨E,F⟩⟩) ?_
      refine zb false 14 (⟨trivial,fun _=>⟨E,F⟩⟩) ?_
      refine zb false 15 (⟨trivial,fun _=>⟨E,F⟩⟩) ?_
      refine zb false 16 (⟨trivial,fun _=>⟨E,F⟩⟩) ?_
      refine zb false 17 (⟨trivial,fun _=>⟨E,F⟩⟩) ?_
      refine zb false 18 (⟨trivial,fun _=>⟨E,F⟩⟩) ?_
      refine zj true 19 fun K hK=>?_
      refine ze rfl ?_
      go_wp2_with fail
      refine hK.out _ _ (⟨trivial,fun e=>by cases e⟩) (fun _=>?_)
      clear hK K
      try simp only[Act.put]
      refine zb true 20 (⟨trivial,fun e=>by cases e⟩) ?_
      refine zb true 21 (⟨trivial,fun e=>by cases e⟩) ?_
      refine zj true 22 fun K hK=>?_
      refine ze rfl ?_
      go_wp2_with fail
      refine hK.out _ _ (⟨trivial,fun e=>by cases e⟩) (fun _=>?_)
      clear hK K
      try simp only[Act.put]
      refine zb true 23 (⟨trivial,fun e=>by cases e⟩) ?_
      refine zb true 24 (⟨trivial,fun e=>by cases e⟩) ?_
      refine zj true 25 fun K hK=>?_
      refine ze rfl ?_
      go_wp2_with fail
      refine hK.out _ _ (⟨trivial,fun e=>by cases e⟩) (fun _=>?_)
      clear hK K
      try simp only[Act.put]
      refine zD (by kernel_rfl) ?_ _
      go_wp2_with fail
      go_roundw
      case rel=>exact⟨1+1,C6,by decide,rfl,by rw[show S4.cutK cols rows (1+1)={ D with k1:=D.k1.cut cols rows } from by rw[V0.out];rfl];exact HX,P6.trans PX⟩
      case measure=>simp[intOf]
    | 2,_ =>
      clear H5 P5
      go_wp2_with fail
      refine(zd4 H6 O1).mono ?_
      rintro e w7 ⟨rfl,C7,h7,p7⟩
      have H7:=Qh h7
      have P7:=Qh (P6.trans p7)
      clear h7 p7 H6 P6
      go_wp2_with fail
      refine(zbh H7).mono ?_
      rintro e w8 ⟨rfl,C8,h8,p8⟩
      have HD:=Qh (show zy B C p w w8 (s.resize cols rows) ps from⟨C8,by rw[← J1.out];exact h8,P7.trans p8⟩)
      clear h8 p8 H7 P7
      go_wp2_with fail
      exact Ze rfl rfl rfl ⟨rfl,HD⟩
theorem zhy {B:World} {C:Nat→Nat} {p c r:Nat} {w:World} {s:Scr} {ps:PSt} (h:SR B C p w s ps) (hok:s.Ok c r) {g0:Gr} (ho:s.other=some g0) (cols rows:Nat) (hr:1≤cols∧cols≤250∧1≤rows∧rows≤120) :
    Calls prog 29 #[.pointer (some ⟨p,0,none⟩),.int .i64 cols,.int .i64 rows] w fun e w'=>e=.returned (.int .i64 0)∧zy B C p w w' (s.resize cols rows) ps:=by
  have C2:s.tabs.length≤1000:=by have h1:=(h.nums hok).tl;have h2:=(h.nums hok).c2;omega
  obtain⟨ax,X0⟩:∃ x,x=s.k0.x:=⟨_,rfl⟩
  obtain⟨ay,E1⟩:∃ x,x=s.k0.y:=⟨_,rfl⟩
  obtain⟨R,hR⟩:∃ R,R=s.main.resize cols rows ax ay true:=⟨_,rfl⟩
  obtain⟨L,U0⟩:∃ x,x=R.2.1:=⟨_,rfl⟩
  obtain⟨O,Y0⟩:∃ x,x=R.2.2:=⟨_,rfl⟩
  have I1:=Qh (fun (T:Nat→Nat) (q:Nat) (w:World) (hg:GM T q w s.main)=>zfj hg cols rows ax ay hr.1 hr.2.1 hr.2.2.1 hr.2.2.2)
  rw[← hR,← U0,← Y0]at I1
  have A2:=Qh (And.intro X0 (And.intro E1 (And.intro hR (And.intro U0 Y0))))
  have F:w.cell? ⟨p,12,none⟩=some (.int .i64 ax):=by rw[X0];exact h.at_ 12 _
  have G:w.cell? ⟨p,13,none⟩=some (.int .i64 ay):=by rw[E1];exact h.at_ 13 _
  obtain⟨_,q,_,H,_⟩:=h.main
  have Y1:=Qh (Below.refl w.heap.size w).drew
  have R0:=Qh ((Below.refl w.heap.size w).drew.alloc (Nat.le_refl _) (.cells #[.int .i64 0,.int .i64 0] 139))
  have S2:=Qh (h.below Y1)
  have L2:=Qh (h.below R0)
  have L1:=Qh (show(w.drew.alloc (.cells #[.int .i64 0,.int .i64 0] 139)).heap[w.heap.size]?=some (.cells #[.int .i64 0,.int .i64 0] 139 (0,0)) from zH w.drew (.cells #[.int .i64 0,.int .i64 0] 139))
  have Z1:=Qh (h.free (Nat.le_refl w.heap.size))
  have A1:=Qh h.bl.size
  have G1:=zc R0 H
  have bx:=zc R0 F
  have J1:=zc R0 G
  clear X0 E1 hR U0 Y0
  obtain⟨qo,T2⟩:∃ qo,w.cell? ⟨p,11,none⟩=some (.pointer (some ⟨qo,0,none⟩)):=by
    rcases h.oth with ⟨_,e⟩ | ⟨q,c,_⟩
    · rw[ho]at e;cases e
    · exact⟨q,c⟩
  clear h hok
  go_enter func29,ntmps29
  go_upto_region 4 with fail
  go_cut [8,9] (fun av ev wz=>ev=.int .i64 0∧∃ A:Nat,av=.pointer (some ⟨A,0,none⟩)∧Hid (zcQ B C p w { s with main:=R.1 } ps A L O wz))
  case first =>
    refine zJ (c:=20) (S:=(fun bb w'=>True∧(bb=false→w'.cell? ⟨p,10,none⟩=some (.pointer (some ⟨q,0,none⟩))∧w'.cell? ⟨p,12,none⟩=some (.int .i64 ax)∧w'.cell? ⟨p,13,none⟩=some (.int .i64 ay)))) (by kernel_rfl) (⟨trivial,fun _=>⟨H,F,G⟩⟩) (fun _=>?_)
    refine zb false 0 (⟨trivial,fun _=>⟨H,F,G⟩⟩) ?_
    refine zb false 1 (⟨trivial,fun _=>⟨H,F,G⟩⟩) ?_
    refine zb false 2 (⟨trivial,fun _=>⟨H,F,G⟩⟩) ?_
    refine Zh 3 (⟨trivial,fun _=>⟨H,F,G⟩⟩) ?_
    refine zb false 4 (⟨trivial,fun _=>⟨H,F,G⟩⟩) ?_
    refine zb false 5 (⟨trivial,fun _=>⟨H,F,G⟩⟩) ?_
    refine zb false 6 (⟨trivial,fun _=>⟨H,F,G⟩⟩) ?_
    refine zb false 7 (⟨trivial,fun _=>⟨H,F,G⟩⟩) ?_
    refine zb false 8 (⟨trivial,fun _=>⟨H,F,G⟩⟩) ?_
    refine Zh 9 (⟨trivial,fun _=>⟨H,F,G⟩⟩) ?_
    refine zb false 10 (⟨trivial,fun _=>⟨H,F,G⟩⟩) ?_
    refine zb false 11 (⟨trivial,fun _=>⟨H,F,G⟩⟩) ?_
    refine zb false 12 (⟨trivial,fun _=>⟨H,F,G⟩⟩) ?_
    refine Zh 13 (⟨trivial,fun _=>⟨H,F,G⟩⟩) ?_
    refine zb false 14 (⟨trivial,fun _=>⟨H,F,G⟩⟩) ?_
    refine zdx false false 15 19 ?_ ?_
    · intro K hK
      refine ze rfl ?_
      go_wp2_with fail
      obtain⟨T,q',hg,I0,D0⟩:=(S2).out.main
      obtain rfl:q=q':=by
        have e:=(H).symm.trans I0
        injection e with e;injection e with e;injection e with e;injection e
      refine(I1 _ _ _ hg).mono ?_
      rintro e Y ⟨rfl,B0,T3,g9,n9⟩
      have M:=D0 _ _ T3 _ (Below.refl _ _) B0 g9 n9
      obtain⟨C9,h9,p9⟩:=M.1
      have A0:=(zw M.2 10).trans (H)
      have nx:=(zw M.2 12).trans (F)
      have ny:=(zw M.2 13).trans (G)
      have H9:=Qh h9
      have P9:=Qh (((Pre.refl C w).below (Y1).out).trans p9)
      have D2:=Qh (show w.heap.size≤Y.heap.size from B0.size)
      have H1:=Qh (h9.free (Nat.le_refl Y.heap.size))
      clear B0 g9 n9 h9 p9 hg D0 I0 M
      refine hK.out _ _ (⟨trivial,fun _=>⟨A0,nx,ny⟩⟩) (fun _=>?_)
      clear hK K
      try simp only[Act.put,List.setIfInBounds_toArray,List.set_cons_zero,List.set_cons_succ]
      refine zb false 16 (⟨trivial,fun _=>⟨A0,nx,ny⟩⟩) ?_
      refine zb false 17 (⟨trivial,fun _=>⟨A0,nx,ny⟩⟩) ?_
      refine zb false 18 (⟨trivial,fun _=>⟨A0,nx,ny⟩⟩) ?_
      refine zj false 19 fun K hK=>?_
      refine ze rfl ?_
      go_wp2_with fail
      refine hK.out _ _ (⟨trivial,fun _=>⟨zc ((Below.refl Y.heap.size Y).alloc (Nat.le_refl _) _) A0,zc ((Below.refl Y.heap.size Y).alloc (Nat.le_refl _) _) nx,zc ((Below.refl Y.heap.size Y).alloc (Nat.le_refl _) _) ny⟩⟩) (fun _=>?_)
      clear hK K
      try simp only[Act.put,List.setIfInBounds_toArray,List.set_cons_zero,List.set_cons_succ]
      refine zj true 20 fun K hK=>?_
      refine ze rfl ?_
      first
        | (have R1:=H1
           have J0:=zH Y (.cells #[.int .i64 0,.int .i64 0] 139)
           have L0:=(Below.refl Y.heap.size Y).alloc (Nat.le_refl _) (.cells #[.int .i64 0,.int .i64 0] 139)
           have U:=run_storeVar_row (P:=prog) _ Y.heap.size 139 139 _ #[.int .i64 L,.int .i64 O] J0 (by kernel_rfl) rfl (by simp[Value.oneCell'])
           refine zal _ _ _ rfl U rfl rfl ?_
           have J:=Qh (zcQ.put (H9.below L0) (P9.below L0) H1 D2 A1 J0 L O)
           clear R1 J0 L0 U)
        | (have U:=run_storeVar_row (P:=prog) Y w.heap.size 139 139 _ #[.int .i64 L,.int .i64 O] H0 (by kernel_rfl) rfl (by simp[Value.oneCell'])
           refine zal _ _ _ rfl U rfl rfl ?_
           have J:=Qh (zcQ.put H9 P9 Z0 (Nat.le_refl _) A1 H0 L O)
           clear U)
      refine hK.out _ _ (⟨trivial,fun e=>by cases e⟩) (fun _=>?_)
      clear hK K
      try simp only[Act.put]
      refine zb true 21 (⟨trivial,fun e=>by cases e⟩) ?_
      refine zD (by kernel_rfl) ?_ _
      go_wp2_with fail
      go_meet
      exact⟨rfl,_,rfl,J⟩
    · intro K hK
      refine ze rfl ?_
      go_wp2_with fail
      refine hK.out _ _ (⟨trivial,fun _=>⟨G1,bx,J1⟩⟩) (fun _=>?_)
      clear hK K
      try simp only[Act.put,List.setIfInBounds_toArray,List.set_cons_zero,List.set_cons_succ]
      refine zj false 15 fun K hK=>?_
      refine ze rfl ?_
      go_wp2_with fail
      obtain⟨T,q',hg,I0,D0⟩:=(L2).out.main
      obtain rfl:q=q':=by
        have e:=(G1).symm.trans I0
        injection e with e;injection e with e;injection e with e;injection e
      refine(I1 _ _ _ hg).mono ?_
      rintro e Y ⟨rfl,B0,T3,g9,n9⟩
      have M:=D0 _ _ T3 _ (Below.refl _ _) B0 g9 n9
      obtain⟨C9,h9,p9⟩:=M.1
      have A0:=(zw M.2 10).trans (G1)
      have nx:=(zw M.2 12).trans (bx)
      have ny:=(zw M.2 13).trans (J1)
      have H9:=Qh h9
      have P9:=Qh (((Pre.refl C w).below (R0).out).trans p9)
      have H0:=Qh (p9.blk L1 Z1)
      have Z0:=Qh (p9.none Z1 (zq L1))
      clear B0 g9 n9 h9 p9 hg D0 I0 M
      refine hK.out _ _ (⟨trivial,fun _=>⟨A0,nx,ny⟩⟩) (fun _=>?_)
      clear hK K
      try simp only[Act.put,List.setIfInBounds_toArray,List.set_cons_zero,List.set_cons_succ]
      refine zb false 16 (⟨trivial,fun _=>⟨A0,nx,ny⟩⟩) ?_
      refine zb false 17 (⟨trivial,fun _=>⟨A0,nx,ny⟩⟩) ?_
      refine zb false 18 (⟨trivial,fun _=>⟨A0,nx,ny⟩⟩) ?_
      refine zj true 20 fun K hK=>?_
      refine ze rfl ?_
      first
        | (have R1:=H1
           have J0:=zH Y (.cells #[.int .i64 0,.int .i64 0] 139)
           have L0:=(Below.refl Y.heap.size Y).alloc (Nat.le_refl _) (.cells #[.int .i64 0,.int .i64 0] 139)
           have U:=run_storeVar_row (P:=prog) _ Y.heap.size 139 139 _ #[.int .i64 L,.int .i64 O] J0 (by kernel_rfl) rfl (by simp[Value.oneCell'])
           refine zal _ _ _ rfl U rfl rfl ?_
           have J:=Qh (zcQ.put (H9.below L0) (P9.below L0) H1 D2 A1 J0 L O)
           clear R1 J0 L0 U)
        | (have U:=run_storeVar_row (P:=prog) Y w.heap.size 139 139 _ #[.int .i64 L,.int .i64 O] H0 (by kernel_rfl) rfl (by simp[Value.oneCell'])
           refine zal _ _ _ rfl U rfl rfl ?_
           have J:=Qh (zcQ.put H9 P9 Z0 (Nat.le_refl _) A1 H0 L O)
           clear U)
      refine hK.out _ _ (⟨trivial,fun e=>by cases e⟩) (fun _=>?_)
      clear hK K
      try simp only[Act.put]
      refine zb true 21 (⟨trivial,fun e=>by cases e⟩) ?_
      refine zD (by kernel_rfl) ?_ _
      go_wp2_with fail
      go_meet
      exact⟨rfl,_,rfl,J⟩
  case rest =>
  obtain⟨rfl,A,rfl,F0⟩:=hcut
  obtain⟨w1,rfl⟩:∃ z,z=wc:=⟨wc,rfl⟩
  obtain⟨C1,h1,p1,z1⟩:=F0.out.ex
  have Z:w1.cell? ⟨A,0,none⟩=some (.int .i64 L):=za F0.blk 0
  have a1:w1.cell? ⟨A,1,none⟩=some (.int .i64 O):=za F0.blk 1
  have hd:=h1.below (Below.refl w1.heap.size w1).drew
  obtain⟨h2,g2⟩:=hd.set 12 (.int .i64 L) { s with main:=R.1,k0:={ s.k0 with x:=L } }
  obtain⟨h3,g3⟩:=h2.set 13 (.int .i64 O) { s with main:=R.1,k0:={ s.k0 with x:=L,y:=O } }
  have f0:=hd.fz 12
  have f1:(w1.setCell ⟨p,12,none⟩ (.int .i64 L)).drew.frozen? ⟨p,13,none⟩=false:=h2.fz 13
  have e0:w1.drew.cell? ⟨p,12,none⟩=some (.int .i64 s.k0.x):=hd.at_ 12 _
  have e1:(w1.setCell ⟨p,12,none⟩ (.int .i64 L)).drew.cell? ⟨p,13,none⟩=some (.int .i64 s.k0.y):=h2.at_ 13 _
  have H3:=Qh (show SR B C1 p ((w1.setCell ⟨p,12,none⟩ (.int .i64 L)).setCell ⟨p,13,none⟩ (.int .i64 O)).drew { s with main:=R.1,k0:={ s.k0 with x:=L,y:=O } } ps from h3)
  have P3:=Qh (show Pre C w C1 ((w1.setCell ⟨p,12,none⟩ (.int .i64 L)).setCell ⟨p,13,none⟩ (.int .i64 O)).drew from((p1.below (Below.refl w1.heap.size w1).drew).trans g2).trans g3)
  have U1:=Qh z1
  have I2:=Qh (show((w1.setCell ⟨p,12,none⟩ (.int .i64 L)).setCell ⟨p,13,none⟩ (.int .i64 O)).drew.heap[A]?=some (.cells #[.int .i64 L,.int .i64 O] 139 (0,0)) from(g2.trans g3).blk (Zb F0.blk) z1)
  have b0:(w1.setCell ⟨p,12,none⟩ (.int .i64 L)).drew.cell? ⟨A,0,none⟩=some (.int .i64 L):=za (g2.blk (Zb F0.blk) z1) 0
  have b1:(w1.setCell ⟨p,12,none⟩ (.int .i64 L)).drew.cell? ⟨A,1,none⟩=some (.int .i64 O):=za (g2.blk (Zb F0.blk) z1) 1
  have Y2:=Qh F0.ge
  clear hd h1 h2 h3 g2 g3 p1 z1 F0 I1 Y1 R0 S2 L2 L1 Z1 G1 bx J1 F G H
  go_upto_region 7 with fail
  refine zJ (c:=11) (S:=(fun bb w'=>True∧(bb=false→w'.cell? ⟨A,0,none⟩=some (.int .i64 L)∧w'.cell? ⟨A,1,none⟩=some (.int .i64 O)))) (by kernel_rfl) (⟨trivial,fun _=>⟨Z,a1⟩⟩) (fun _=>?_)
  refine zb false 0 (⟨trivial,fun _=>⟨Z,a1⟩⟩) ?_
  refine zb false 1 (⟨trivial,fun _=>⟨Z,a1⟩⟩) ?_
  refine zb false 2 (⟨trivial,fun _=>⟨Z,a1⟩⟩) ?_
  refine Zh 3 (⟨trivial,fun _=>⟨Z,a1⟩⟩) ?_
  refine zb false 4 (⟨trivial,fun _=>⟨Z,a1⟩⟩) ?_
  refine Zh 5 (⟨trivial,fun _=>⟨Z,a1⟩⟩) ?_
  refine zb false 6 (⟨trivial,fun _=>⟨Z,a1⟩⟩) ?_
  refine zb false 7 (⟨trivial,fun _=>⟨Z,a1⟩⟩) ?_
  refine zj false 8 fun K hK=>?_
  refine ze rfl ?_
  go_wp2_with fail
  refine hK.out _ _ (⟨trivial,fun _=>⟨b0,b1⟩⟩) (fun _=>?_)
  clear hK K
  try simp only[Act.put]
  refine zb false 9 (⟨trivial,fun _=>⟨b0,b1⟩⟩) ?_
  refine zb false 10 (⟨trivial,fun _=>⟨b0,b1⟩⟩) ?_
  refine zj true 11 fun K hK=>?_
  refine ze rfl ?_
  go_wp2_with fail
  refine hK.out _ _ (⟨trivial,fun e=>by cases e⟩) (fun _=>?_)
  clear hK K
  try simp only[Act.put]
  refine zD (by kernel_rfl) ?_ _
  clear f0 f1 e0 e1 Z a1 b0 b1
  generalize ((w1.setCell ⟨p,12,none⟩ (.int .i64 L)).setCell ⟨p,13,none⟩ (.int .i64 O)).drew=w3 at *
  obtain⟨qn,E⟩:∃ qo,w3.cell? ⟨p,11,none⟩=some (.pointer (some ⟨qo,0,none⟩)):=by
    rcases H3.out.oth with ⟨_,e⟩ | ⟨q,c,_⟩
    · rw[show({ s with main:=R.1,k0:={ s.k0 with x:=L,y:=O } }:Scr).other=s.other from rfl,ho]at e;cases e
    · exact⟨q,c⟩
  clear T2
  go_upto_region 9 with fail
  obtain⟨D1,V0⟩:∃ x,x=s.now.x:=⟨_,rfl⟩
  obtain⟨B1,F1⟩:∃ x,x=s.now.y:=⟨_,rfl⟩
  obtain⟨R2,S0⟩:∃ R,R=g0.resize cols rows D1 B1 false:=⟨_,rfl⟩
  obtain⟨I,E0⟩:∃ x,x=R2.2.1:=⟨_,rfl⟩
  obtain⟨V,C0⟩:∃ x,x=R2.2.2:=⟨_,rfl⟩
  have V1:=Qh (fun (T:Nat→Nat) (q:Nat) (w:World) (hg:GM T q w g0)=>zh3 hg cols rows D1 B1 hr.1 hr.2.1 hr.2.2.1 hr.2.2.2)
  rw[← S0,← E0,← C0]at V1
  have H2:=Qh (And.intro V0 (And.intro F1 (And.intro S0 (And.intro E0 C0))))
  have c0:w3.cell? ⟨p,0,none⟩=some (.int .i64 D1):=by rw[V0];exact H3.at_ 0 _
  have c1:w3.cell? ⟨p,1,none⟩=some (.int .i64 B1):=by rw[F1];exact H3.at_ 1 _
  have B2:=Qh (H3.below (Below.refl w3.heap.size w3).drew)
  have T1:=Qh (Zb I2)
  have E2:=Qh ho
  have O0:w3.drew.cell? ⟨p,11,none⟩=some (.pointer (some ⟨qn,0,none⟩)):=E
  have F2:w3.drew.cell? ⟨p,0,none⟩=some (.int .i64 D1):=c0
  have G2:w3.drew.cell? ⟨p,1,none⟩=some (.int .i64 B1):=c1
  clear V0 F1 S0 E0 C0
  refine zJ (c:=21) (S:=(fun bb w'=>True∧(bb=false→w'.cell? ⟨p,11,none⟩=some (.pointer (some ⟨qn,0,none⟩))∧w'.cell? ⟨p,0,none⟩=some (.int .i64 D1)∧w'.cell? ⟨p,1,none⟩=some (.int .i64 B1)))) (by kernel_rfl) (⟨trivial,fun _=>⟨E,c0,c1⟩⟩) (fun _=>?_)
  refine zb false 0 (⟨trivial,fun _=>⟨E,c0,c1⟩⟩) ?_
  refine zb false 1 (⟨trivial,fun _=>⟨E,c0,c1⟩⟩) ?_
  refine zb false 2 (⟨trivial,fun _=>⟨E,c0,c1⟩⟩) ?_
  refine Zh 3 (⟨trivial,fun _=>⟨E,c0,c1⟩⟩) ?_
  refine zb false 4 (⟨trivial,fun _=>⟨E,c0,c1⟩⟩) ?_
  refine zb false 5 (⟨trivial,fun _=>⟨E,c0,c1⟩⟩) ?_
  refine zb false 6 (⟨trivial,fun _=>⟨E,c0,c1⟩⟩) ?_
  refine zb false 7 (⟨trivial,fun _=>⟨E,c0,c1⟩⟩) ?_
  refine zb false 8 (⟨trivial,fun _=>⟨E,c0,c1⟩⟩) ?_
  refine zb false 9 (⟨trivial,fun _=>⟨E,c0,c1⟩⟩) ?_
  refine Zh 10 (⟨trivial,fun _=>⟨E,c0,c1⟩⟩) ?_
  refine zb false 11 (⟨trivial,fun _=>⟨E,c0,c1⟩⟩) ?_
  refine zb false 12 (⟨trivial,fun _=>⟨E,c0,c1⟩⟩) ?_
  refine zb false 13 (⟨trivial,fun _=>⟨E,c0,c1⟩⟩) ?_
  refine zb false 14 (⟨trivial,fun _=>⟨E,c0,c1⟩⟩) ?_
  refine Zh 15 (⟨trivial,fun _=>⟨E,c0,c1⟩⟩) ?_
  refine zb false 16 (⟨trivial,fun _=>⟨E,c0,c1⟩⟩) ?_
  refine zj false 17 fun K hK=>?_
  refine ze rfl ?_
  go_wp2_with fail
  obtain⟨T,q',hg,I0,D0⟩:=B2.out.grid
  obtain rfl:qn=q':=by
    rcases I0 with ⟨e,_⟩ | e
    · rw[O0]at e;cases e
    · rw[O0]at e
      injection e with e;injection e with e;injection e with e;injection e
  rw[show Scr.shown ({ s with main:=R.1,k0:={ s.k0 with x:=L,y:=O } }:Scr)=g0 by unfold Scr.shown;rw[show({ s with main:=R.1,k0:={ s.k0 with x:=L,y:=O } }:Scr).other=s.other from rfl,E2.out];rfl]at hg
  refine(V1 _ _ _ hg).mono ?_
  rintro e Y ⟨rfl,B0,T3,g9,n9⟩
  have M:=D0 _ _ T3 (fun _=>R2.1) (Below.refl _ _) B0 g9 n9
  obtain⟨C9,h9,p9⟩:=M.1
  have T0:=(zw M.2 11).trans O0
  have n0:=(zw M.2 0).trans F2
  have n1:=(zw M.2 1).trans G2
  have H9:=Qh (show SR B C9 p Y { s with main:=R.1,other:=some R2.1,k0:={ s.k0 with x:=L,y:=O } } ps by
    have e:Scr.turn ({ s with main:=R.1,k0:={ s.k0 with x:=L,y:=O } }:Scr) (fun _=>R2.1)={ s with main:=R.1,other:=some R2.1,k0:={ s.k0 with x:=L,y:=O } }:=by
      unfold Scr.turn
      rw[show({ s with main:=R.1,k0:={ s.k0 with x:=L,y:=O } }:Scr).other=s.other from rfl,E2.out]
    rw[← e];exact h9)
  have P9:=Qh ((P3.below (Below.refl w3.heap.size w3).drew).trans p9)
  have H0:=Qh (p9.blk T1 U1)
  have Z0:=Qh (p9.none U1 (zq T1))
  clear B0 g9 n9 h9 p9 hg D0 I0 M
  refine hK.out _ _ (⟨trivial,fun _=>⟨T0,n0,n1⟩⟩) (fun _=>?_)
  clear hK K
  try simp only[Act.put,List.setIfInBounds_toArray,List.set_cons_zero,List.set_cons_succ]
  refine zb false 18 (⟨trivial,fun _=>⟨T0,n0,n1⟩⟩) ?_
  refine zb false 19 (⟨trivial,fun _=>⟨T0,n0,n1⟩⟩) ?_
  refine zb false 20 (⟨trivial,fun _=>⟨T0,n0,n1⟩⟩) ?_
  refine zj true 21 fun K hK=>?_
  refine ze rfl ?_
  have U:=run_storeVar_row (P:=prog) Y A 139 139 _ #[.int .i64 I,.int .i64 V] H0 (by kernel_rfl) rfl (by simp[Value.oneCell'])
  refine zal _ _ _ rfl U rfl rfl ?_
  have J:=Qh (zcQ.put H9 P9 Z0 Y2 A1 H0 I V)
  clear U
  refine hK.out _ _ (⟨trivial,fun e=>by cases e⟩) (fun _=>?_)
  clear hK K
  try simp only[Act.put]
  refine zD (by kernel_rfl) ?_ _
  clear c0 c1 O0 E F2 G2 T0 n0 n1 V1 B2 T1 H9 P9 H0 Z0 H3 P3 U1 I2
  generalize Y.setRow A #[.int .i64 I,.int .i64 V]=X at *
  obtain⟨M1,O2,J2,S1⟩:=J.out.ex
  have Z:X.cell? ⟨A,0,none⟩=some (.int .i64 I):=za J.blk 0
  have a1:X.cell? ⟨A,1,none⟩=some (.int .i64 V):=za J.blk 1
  have hd:=O2.below (Below.refl X.heap.size X).drew
  obtain⟨h2,g2⟩:=hd.set 0 (.int .i64 I) { s with main:=R.1,other:=some R2.1,k0:={ s.k0 with x:=L,y:=O },now:={ s.now with x:=I } }
  obtain⟨h3,g3⟩:=h2.set 1 (.int .i64 V) { s with main:=R.1,other:=some R2.1,k0:={ s.k0 with x:=L,y:=O },now:={ s.now with x:=I,y:=V } }
  have b0:(X.setCell ⟨p,0,none⟩ (.int .i64 I)).drew.cell? ⟨A,0,none⟩=some (.int .i64 I):=za (g2.blk (Zb J.blk) S1) 0
  have b1:(X.setCell ⟨p,0,none⟩ (.int .i64 I)).drew.cell? ⟨A,1,none⟩=some (.int .i64 V):=za (g2.blk (Zb J.blk) S1) 1
  have f0:=hd.fz 0
  have f1:(X.setCell ⟨p,0,none⟩ (.int .i64 I)).drew.frozen? ⟨p,1,none⟩=false:=h2.fz 1
  have e0:X.drew.cell? ⟨p,0,none⟩=some (.int .i64 s.now.x):=hd.at_ 0 _
  have e1:(X.setCell ⟨p,0,none⟩ (.int .i64 I)).drew.cell? ⟨p,1,none⟩=some (.int .i64 s.now.y):=h2.at_ 1 _
  have H4:=Qh (show SR B M1 p ((X.setCell ⟨p,0,none⟩ (.int .i64 I)).setCell ⟨p,1,none⟩ (.int .i64 V)).drew { s with main:=R.1,other:=some R2.1,k0:={ s.k0 with x:=L,y:=O },now:={ s.now with x:=I,y:=V } } ps from h3)
  have P4:=Qh (show Pre C w M1 ((X.setCell ⟨p,0,none⟩ (.int .i64 I)).setCell ⟨p,1,none⟩ (.int .i64 V)).drew from((J2.below (Below.refl X.heap.size X).drew).trans g2).trans g3)
  clear hd O2 h2 h3 g2 g3 J2 S1 J
  go_upto_region 10 with fail
  refine zJ (c:=13) (S:=(fun bb w'=>True∧(bb=false→w'.cell? ⟨A,0,none⟩=some (.int .i64 I)∧w'.cell? ⟨A,1,none⟩=some (.int .i64 V)))) (by kernel_rfl) (⟨trivial,fun _=>⟨Z,a1⟩⟩) (fun _=>?_)
  refine zb false 0 (⟨trivial,fun _=>⟨Z,a1⟩⟩) ?_
  refine zb false 1 (⟨trivial,fun _=>⟨Z,a1⟩⟩) ?_
  refine zb false 2 (⟨trivial,fun _=>⟨Z,a1⟩⟩) ?_
  refine Zh 3 (⟨trivial,fun _=>⟨Z,a1⟩⟩) ?_
  refine zb false 4 (⟨trivial,fun _=>⟨Z,a1⟩⟩) ?_
  refine Zh 5 (⟨trivial,fun _=>⟨Z,a1⟩⟩) ?_
  refine zb false 6 (⟨trivial,fun _=>⟨Z,a1⟩⟩) ?_
  refine zb false 7 (⟨trivial,fun _=>⟨Z,a1⟩⟩) ?_
  refine zb false 8 (⟨trivial,fun _=>⟨Z,a1⟩⟩) ?_
  refine zj false 9 fun K hK=>?_
  refine ze rfl ?_
  go_wp2_with fail
  refine hK.out _ _ (⟨trivial,fun _=>⟨b0,b1⟩⟩) (fun _=>?_)
  clear hK K
  try simp only[Act.put]
  refine zb false 10 (⟨trivial,fun _=>⟨b0,b1⟩⟩) ?_
  refine zb false 11 (⟨trivial,fun _=>⟨b0,b1⟩⟩) ?_
  refine zb false 12 (⟨trivial,fun _=>⟨b0,b1⟩⟩) ?_
  refine zj true 13 fun K hK=>?_
  refine ze rfl ?_
  go_wp2_with fail
  refine hK.out _ _ (⟨trivial,fun e=>by cases e⟩) (fun _=>?_)
  clear hK K
  try simp only[Act.put]
  refine zD (by kernel_rfl) ?_ _
  clear f0 f1 e0 e1 Z a1 b0 b1
  generalize ((X.setCell ⟨p,0,none⟩ (.int .i64 I)).setCell ⟨p,1,none⟩ (.int .i64 V)).drew=w4 at *
  go_upto_region 11 with fail
  have c2:=H4.out.at_ 2 (.bool _)
  have f2:=H4.out.fz 2
  obtain⟨S4,G0⟩:∃ z:Scr,z={ ({ s with main:=R.1,other:=some R2.1,k0:={ s.k0 with x:=L,y:=O },now:={ s.now with x:=I,y:=V } }:Scr) with now:={ Scr.now ({ s with main:=R.1,other:=some R2.1,k0:={ s.k0 with x:=L,y:=O },now:={ s.now with x:=I,y:=V } }:Scr) with wait:=false } }:=⟨_,rfl⟩
  obtain⟨h5,g5⟩:=H4.out.set 2 (.bool false) S4 (by intros;rw[G0];rfl) (by rw[G0]) (by rw[G0]) (by rw[G0]) (by rw[G0])
  have O1:=Qh h5
  have X1:=Qh (P4.trans g5)
  have V2:=Qh (show(S4.cutK cols rows 2).tabs.length≤1000 by rw[G0];exact C2)
  have N2:=Qh (show((S4.cutK cols rows 2).stops).whole=s.resize cols rows by
    obtain⟨X0,E1,hR,U0,Y0⟩:=A2.out
    rw[G0]
    obtain⟨V0,F1,S0,E0,C0⟩:=H2.out
    rw[E0,C0,S0,V0,F1,U0,Y0,hR,X0,E1]
    unfold Scr.resize Scr.sized
    rw[ho]
    rfl)
  clear h5 g5 H4 P4 G0 A2 C2
  go_upto_region 12 with fail
  obtain⟨C5,M2⟩:∃ z,z=M1:=⟨_,rfl⟩
  rw[← M2]at O1 X1
  generalize w4.setCell ⟨p,2,none⟩ (.bool false)=w5 at *
  have H5:=Qh (show SR B C5 p w5 (S4.cutK cols rows 0) ps from O1.out)
  have P5:=X1
  clear M2 c2 f2 O1 X1
  go_wp2_with fail
  go_loopw [98] (fun iv wr=>∃ (k:Nat) (C1:Nat→Nat),k≤2∧iv=.int .i64 k∧Hid (SR B C1 p wr (S4.cutK cols rows k) ps)∧Hid (Pre C w C1 wr)) (fun iv _=>2-(intOf iv).toNat)
  case atStart=>exact⟨0,C5,by decide,rfl,H5,P5⟩
  case round =>
    obtain⟨k,C6,hk,rfl,H6,P6⟩:=hrel
    obtain⟨N,rfl⟩:∃ z,z=wr:=⟨wr,rfl⟩
    match k,hk with
    | 0,_ =>
      obtain⟨D,N0⟩:∃ z,z=S4.cutK cols rows 0:=⟨_,rfl⟩
      have N1:=Qh N0
      have M0:=Qh (show SR B C6 p N D ps by rw[N0];exact H6)
      clear N0 H6
      have hd:=M0.out.below (Below.refl N.heap.size N).drew
      have F:N.cell? ⟨p,12,none⟩=some (.int .i64 D.k0.x):=M0.out.at_ 12 _
      have G:N.cell? ⟨p,13,none⟩=some (.int .i64 D.k0.y):=M0.out.at_ 13 _
      obtain⟨h7,g7⟩:=hd.set 12 (.int .i64 (min D.k0.x ((cols:Int)-1))) { D with k0:={ D.k0 with x:=min D.k0.x ((cols:Int)-1) } }
      obtain⟨h8,g8⟩:=h7.set 13 (.int .i64 (min D.k0.y ((rows:Int)-1))) { D with k0:={ D.k0 with x:=min D.k0.x ((cols:Int)-1),y:=min D.k0.y ((rows:Int)-1) } }
      obtain⟨h9,g9⟩:=h8.set 14 (.bool false) { D with k0:=D.k0.cut cols rows }
      have f0:=hd.fz 12
      have f1:(N.setCell ⟨p,12,none⟩ (.int .i64 (min D.k0.x ((cols:Int)-1)))).drew.frozen? ⟨p,13,none⟩=false:=h7.fz 13
      have f2:((N.setCell ⟨p,12,none⟩ (.int .i64 (min D.k0.x ((cols:Int)-1)))).setCell ⟨p,13,none⟩ (.int .i64 (min D.k0.y ((rows:Int)-1)))).drew.frozen? ⟨p,14,none⟩=false:=h8.fz 14
      have e0:N.drew.cell? ⟨p,12,none⟩=some (.int .i64 D.k0.x):=hd.at_ 12 _
      have e1:(N.setCell ⟨p,12,none⟩ (.int .i64 (min D.k0.x ((cols:Int)-1)))).drew.cell? ⟨p,13,none⟩=some (.int .i64 D.k0.y):=h7.at_ 13 _
      have e2:((N.setCell ⟨p,12,none⟩ (.int .i64 (min D.k0.x ((cols:Int)-1)))).setCell ⟨p,13,none⟩ (.int .i64 (min D.k0.y ((rows:Int)-1)))).drew.cell? ⟨p,14,none⟩=some (.bool D.k0.wait):=h8.at_ 14 _
      have HX:=Qh (show SR B C6 p (((N.setCell ⟨p,12,none⟩ (.int .i64 (min D.k0.x ((cols:Int)-1)))).setCell ⟨p,13,none⟩ (.int .i64 (min D.k0.y ((rows:Int)-1)))).setCell ⟨p,14,none⟩ (.bool false)).drew { D with k0:=D.k0.cut cols rows } ps from h9)
      have PX:=Qh (show Pre C6 N C6 (((N.setCell ⟨p,12,none⟩ (.int .i64 (min D.k0.x ((cols:Int)-1)))).setCell ⟨p,13,none⟩ (.int .i64 (min D.k0.y ((rows:Int)-1)))).setCell ⟨p,14,none⟩ (.bool false)).drew from((((Pre.refl C6 N).below (Below.refl N.heap.size N).drew).trans g7).trans g8).trans g9)
      have U2:IntKind.i64.wrap ((cols:Int)-1)=(cols:Int)-1:=zd _ (by omega) (by omega)
      have X2:IntKind.i64.wrap ((rows:Int)-1)=(rows:Int)-1:=zd _ (by omega) (by omega)
      clear hd h7 h8 h9 g7 g8 g9
      go_upto_region 16 with fail
      refine zJ (c:=19) (S:=(fun bb w'=>True∧(bb=false→w'.cell? ⟨p,12,none⟩=some (.int .i64 D.k0.x)∧w'.cell? ⟨p,13,none⟩=some (.int .i64 D.k0.y)))) (by kernel_rfl) (⟨trivial,fun _=>⟨F,G⟩⟩) (fun _=>?_)
      refine zb false 0 (⟨trivial,fun _=>⟨F,G⟩⟩) ?_
      refine zb false 1 (⟨trivial,fun _=>⟨F,G⟩⟩) ?_
      refine zb false 2 (⟨trivial,fun _=>⟨F,G⟩⟩) ?_
      refine zb false 3 (⟨trivial,fun _=>⟨F,G⟩⟩) ?_
      refine zb false 4 (⟨trivial,fun _=>⟨F,G⟩⟩) ?_
      refine zb false 5 (⟨trivial,fun _=>⟨F,G⟩⟩) ?_
      refine Zh 6 (⟨trivial,fun _=>⟨F,G⟩⟩) ?_
      refine zb false 7 (⟨trivial,fun _=>⟨F,G⟩⟩) ?_
      refine zb false 8 (⟨trivial,fun _=>⟨F,G⟩⟩) ?_
      refine zb false 9 (⟨trivial,fun _=>⟨F,G⟩⟩) ?_
      refine zb false 10 (⟨trivial,fun _=>⟨F,G⟩⟩) ?_
      refine zb false 11 (⟨trivial,fun _=>⟨F,G⟩⟩) ?_
      refine zb false 12 (⟨trivial,fun _=>⟨F,G⟩⟩) ?_
      refine Zh 13 (⟨trivial,fun _=>⟨F,G⟩⟩) ?_
      refine zb false 14 (⟨trivial,fun _=>⟨F,G⟩⟩) ?_
      refine zb false 15 (⟨trivial,fun _=>⟨F,G⟩⟩) ?_
      refine zb false 16 (⟨trivial,fun _=>⟨F,G⟩⟩) ?_
      refine zb false 17 (⟨trivial,fun _=>⟨F,G⟩⟩) ?_
      refine zb false 18 (⟨trivial,fun _=>⟨F,G⟩⟩) ?_
      refine zj true 19 fun K hK=>?_
      refine ze rfl ?_
      go_wp2_with fail
      refine hK.out _ _ (⟨trivial,fun e=>by cases e⟩) (fun _=>?_)
      clear hK K
      try simp only[Act.put]
      refine zb true 20 (⟨trivial,fun e=>by cases e⟩) ?_
      refine zb true 21 (⟨trivial,fun e=>by cases e⟩) ?_
      refine zj true 22 fun K hK=>?_
      refine ze rfl ?_
      go_wp2_with fail
      refine hK.out _ _ (⟨trivial,fun e=>by cases e⟩) (fun _=>?_)
      clear hK K
      try simp only[Act.put]
      refine zb true 23 (⟨trivial,fun e=>by cases e⟩) ?_
      refine zb true 24 (⟨trivial,fun e=>by cases e⟩) ?_
      refine zj true 25 fun K hK=>?_
      refine ze rfl ?_
      go_wp2_with fail
      refine hK.out _ _ (⟨trivial,fun e=>by cases e⟩) (fun _=>?_)
      clear hK K
      try simp only[Act.put]
      refine zD (by kernel_rfl) ?_ _
      go_wp2_with fail
      go_roundw
      case rel=>exact⟨0+1,C6,by decide,rfl,by rw[show S4.cutK cols rows (0+1)={ D with k0:=D.k0.cut cols rows } from by rw[N1.out];rfl];exact HX,P6.trans PX⟩
      case measure=>simp[intOf]
    | 1,_ =>
      obtain⟨D,N0⟩:∃ z,z=S4.cutK cols rows 1:=⟨_,rfl⟩
      have N1:=Qh N0
      have M0:=Qh (show SR B C6 p N D ps by rw[N0];exact H6)
      clear N0 H6
      have hd:=M0.out.below (Below.refl N.heap.size N).drew
      have F:N.cell? ⟨p,22,none⟩=some (.int .i64 D.k1.x):=M0.out.at_ 22 _
      have G:N.cell? ⟨p,23,none⟩=some (.int .i64 D.k1.y):=M0.out.at_ 23 _
      obtain⟨h7,g7⟩:=hd.set 22 (.int .i64 (min D.k1.x ((cols:Int)-1))) { D with k1:={ D.k1 with x:=min D.k1.x ((cols:Int)-1) } }
      obtain⟨h8,g8⟩:=h7.set 23 (.int .i64 (min D.k1.y ((rows:Int)-1))) { D with k1:={ D.k1 with x:=min D.k1.x ((cols:Int)-1),y:=min D.k1.y ((rows:Int)-1) } }
      obtain⟨h9,g9⟩:=h8.set 24 (.bool false) { D with k1:=D.k1.cut cols rows }
      have f0:=hd.fz 22
      have f1:(N.setCell ⟨p,22,none⟩ (.int .i64 (min D.k1.x ((cols:Int)-1)))).drew.frozen? ⟨p,23,none⟩=false:=h7.fz 23
      have f2:((N.setCell ⟨p,22,none⟩ (.int .i64 (min D.k1.x ((cols:Int)-1)))).setCell ⟨p,23,none⟩ (.int .i64 (min D.k1.y ((rows:Int)-1)))).drew.frozen? ⟨p,24,none⟩=false:=h8.fz 24
      have e0:N.drew.cell? ⟨p,22,none⟩=some (.int .i64 D.k1.x):=hd.at_ 22 _
      have e1:(N.setCell ⟨p,22,none⟩ (.int .i64 (min D.k1.x ((cols:Int)-1)))).drew.cell? ⟨p,23,none⟩=some (.int .i64 D.k1.y):=h7.at_ 23 _
      have e2:((N.setCell ⟨p,22,none⟩ (.int .i64 (min D.k1.x ((cols:Int)-1)))).setCell ⟨p,23,none⟩ (.int .i64 (min D.k1.y ((rows:Int)-1)))).drew.cell? ⟨p,24,none⟩=some (.bool D.k1.wait):=h8.at_ 24 _
      have HX:=Qh (show SR B C6 p (((N.setCell ⟨p,22,none⟩ (.int .i64 (min D.k1.x ((cols:Int)-1)))).setCell ⟨p,23,none⟩ (.int .i64 (min D.k1.y ((rows:Int)-1)))).setCell ⟨p,24,none⟩ (.bool false)).drew { D with k1:=D.k1.cut cols rows } ps from h9)
      have PX:=Qh (show Pre C6 N C6 (((N.setCell ⟨p,22,none⟩ (.int .i64 (min D.k1.x ((cols:Int)-1)))).setCell ⟨p,23,none⟩ (.int .i64 (min D.k1.y ((rows:Int)-1)))).setCell ⟨p,24,none⟩ (.bool false)).drew from((((Pre.refl C6 N).below (Below.refl N.heap.size N).drew).trans g7).trans g8).trans g9)
      have U2:IntKind.i64.wrap ((cols:Int)-1)=(cols:Int)-1:=zd _ (by omega) (by omega)
      have X2:IntKind.i64.wrap ((rows:Int)-1)=(rows:Int)-1:=zd _ (by omega) (by omega)
      clear hd h7 h8 h9 g7 g8 g9
      go_upto_region 16 with fail
      refine zJ (c:=19) (S:=(fun bb w'=>True∧(bb=false→w'.cell? ⟨p,22,none⟩=some (.int .i64 D.k1.x)∧w'.cell? ⟨p,23,none⟩=some (.int .i64 D.k1.y)))) (by kernel_rfl) (⟨trivial,fun _=>⟨F,G⟩⟩) (fun _=>?_)
      refine zb false 0 (⟨trivial,fun _=>⟨F,G⟩⟩) ?_
      refine zb false 1 (⟨trivial,fun _=>⟨F,G⟩⟩) ?_
      refine zb false 2 (⟨trivial,fun _=>⟨F,G⟩⟩) ?_
      refine zb false 3 (⟨trivial,fun _=>⟨F,G⟩⟩) ?_
      refine zb false 4 (⟨trivial,fun _=>⟨F,G⟩⟩) ?_
      refine zb false 5 (⟨trivial,fun _=>⟨F,G⟩⟩) ?_
      refine Zh 6 (⟨trivial,fun _=>⟨F,G⟩⟩) ?_
      refine zb false 7 (⟨trivial,fun _=>⟨F,G⟩⟩) ?_
      refine zb false 8 (⟨trivial,fun _=>⟨F,G⟩⟩) ?_
      refine zb false 9 (⟨trivial,fun _=>⟨F,G⟩⟩) ?_
      refine zb false 10 (⟨trivial,fun _=>⟨F,G⟩⟩) ?_
      refine zb false 11 (⟨trivial,fun _=>⟨F,G⟩⟩) ?_
      refine zb false 12 (⟨trivial,fun _=>⟨F,G⟩⟩) ?_
      refine Zh 13 (⟨trivial,fun _=>⟨F,G⟩⟩) ?_
      refine zb false 14 (⟨trivial,fun _=>⟨F,G⟩⟩) ?_
      refine zb false 15 (⟨trivial,fun _=>⟨F,G⟩⟩) ?_
      refine zb false 16 (⟨trivial,fun _=>⟨F,G⟩⟩) ?_
      refine zb false 17 (⟨trivial,fun _=>⟨F,G⟩⟩) ?_
      refine zb false 18 (⟨trivial,fun _=>⟨F,G⟩⟩) ?_
      refine zj true 19 fun K hK=>?_
      refine ze rfl ?_
      go_wp2_with fail
      refine hK.out _ _ (⟨trivial,fun e=>by cases e⟩) (fun _=>?_)
      clear hK K
      try simp only[Act.put]
      refine zb true 20 (⟨trivial,fun e=>by cases e⟩) ?_
      refine zb true 21 (⟨trivial,fun e=>by cases e⟩) ?_
      refine zj true 22 fun K hK=>?_
      refine ze rfl ?_
      go_wp2_with fail
      refine hK.out _ _ (⟨trivial,fun e=>by cases e⟩) (fun _=>?_)
      clear hK K
      try simp only[Act.put]
      refine zb true 23 (⟨trivial,fun e=>by cases e⟩) ?_
      refine zb true 24 (⟨trivial,fun e=>by cases e⟩) ?_
      refine zj true 25 fun K hK=>?_
      refine ze rfl ?_
      go_wp2_with fail
      refine hK.out _ _ (⟨trivial,fun e=>by cases e⟩) (fun _=>?_)
      clear hK K
      try simp only[Act.put]
      refine zD (by kernel_rfl) ?_ _
      go_wp2_with fail
      go_roundw
      case rel=>exact⟨1+1,C6,by decide,rfl,by rw[show S4.cutK cols rows (1+1)={ D with k1:=D.k1.cut cols rows } from by rw[N1.out];rfl];exact HX,P6.trans PX⟩
      case measure=>simp[intOf]
    | 2,_ =>
      clear H5 P5
      go_wp2_with fail
      refine(zd4 H6 V2).mono ?_
      rintro e w7 ⟨rfl,C7,h7,p7⟩
      have H7:=Qh h7
      have P7:=Qh (P6.trans p7)
      clear h7 p7 H6 P6
      go_wp2_with fail
      refine(zbh H7).mono ?_
      rintro e w8 ⟨rfl,C8,h8,p8⟩
      have HD:=Qh (show zy B C p w w8 (s.resize cols rows) ps from⟨C8,by rw[← N2.out];exact h8,P7.trans p8⟩)
      clear h8 p8 H7 P7
      go_wp2_with fail
      exact Ze rfl rfl rfl ⟨rfl,HD⟩
theorem ziy {B:World} {C:Nat→Nat} {p c r:Nat} {w:World} {s:Scr} {ps:PSt} (h:SR B C p w s ps) (hok:s.Ok c r) (cols rows:Nat) (hr:1≤cols∧cols≤250∧1≤rows∧rows≤120) :
  Calls prog 29 #[.pointer (some ⟨p,0,none⟩),.int .i64 cols,.int .i64 rows] w fun e w'=>e=.returned (.int .i64 0)∧zy B C p w w' (s.resize cols rows) ps:=by
 cases ho:s.other with
 | none=>exact zhx h hok ho cols rows hr
 | some g0=>exact zhy h hok ho cols rows hr
end Go.Proofs.YthehkmopdeebmaaGreatDoor
