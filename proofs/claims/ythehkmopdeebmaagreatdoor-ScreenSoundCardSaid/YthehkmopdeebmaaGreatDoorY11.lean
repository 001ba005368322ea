/- Part. -/
import Derived.Test.YthehkmopdeebmaaGreatDoorY8
import Derived.Test.YthehkmopdeebmaaGreatDoorY9
set_option linter.unusedVariables false
set_option linter.unusedSimpArgs false
set_option maxRecDepth 100000
set_option maxHeartbeats 8000000
namespace Go.Proofs.YthehkmopdeebmaaGreatDoor
open _root_.Go.Proofs.Tryz
section
open Go.RowKit
theorem zo9 {g:Gr} (h:g.WF) (t b n:Nat) (s:Sty) (k:Bool) (h1:t≤b) (h2:b<g.rows.length) (h4:n≤b+1-t) :
  (⟨g.cols,g.limit,zbd g.rows t b n g.cols s,if k=true∧t=0 then zaC g.limit (g.old++(g.rows.drop t).take n) else g.old⟩:Gr).WF:=by
 refine⟨h.c1,h.c2,by show 1≤(zbd _ _ _ _ _ _).length;rw[zjQ h1 h2 h4];exact h.r1,by show(zbd _ _ _ _ _ _).length≤120;rw[zjQ h1 h2 h4];exact h.r2,h.li,?_,fun r hr=>?_⟩
 ·show(if _ then _ else _:List Rw).length≤g.limit;split
  ·unfold zaC;rw[List.length_drop];omega
  ·exact h.ol
 ·have B:∀ r∈zW n g.cols s,r.cells.length=g.cols∧∀ c∈r.cells,c.Ok:=fun r hr=>by
   rw[List.eq_of_mem_replicate hr];refine⟨List.length_replicate,fun c hc=>?_⟩;rw[List.eq_of_mem_replicate hc];exact zaV s
  rcases List.mem_append.1 hr with hr | hr
  ·have A:r∈zbd g.rows t b n g.cols s:=hr;unfold zbd at A;rcases List.mem_append.1 A with A | A
   ·rcases List.mem_append.1 A with A | A
    ·rcases List.mem_append.1 A with A | A
     ·exact h.ce r (List.mem_append_left _ (List.mem_of_mem_take A))
     ·exact h.ce r (List.mem_append_left _ (List.mem_of_mem_drop (List.mem_of_mem_take A)))
    ·exact B r A
   ·exact h.ce r (List.mem_append_left _ (List.mem_of_mem_drop A))
  ·have A:r∈(if k=true∧t=0 then zaC g.limit (g.old++(g.rows.drop t).take n) else g.old):=hr;split at A
   ·unfold zaC at A;rcases List.mem_append.1 (List.mem_of_mem_drop A) with A | A
    ·exact h.ce r (List.mem_append_right _ A)
    ·exact h.ce r (List.mem_append_left _ (List.mem_of_mem_drop (List.mem_of_mem_take A)))
   ·exact h.ce r (List.mem_append_right _ A)
theorem zi1 {T:Nat→Nat} {p:Nat} {w:World} {g:Gr} (h:GM T p w g) (top bottom n:Int) (s:Sty) (hs:ZU w s) (keep:Bool) :
    Calls prog 186 #[.pointer (some ⟨p,0,none⟩),.int .i64 top,.int .i64 bottom,.int .i64 n,s.val,.bool keep] w fun e w'=>e=.returned (.tuple #[])∧zh (own T w) w w'∧∃ T',GM T' p w' (g.up top bottom n s keep)∧∀ k,T' k≠0→own T w k:=by
  have U0:=Below.alloc (Below.refl w.heap.size w) (Nat.le_refl _) (.cells #[.int .i64 s.fg,.int .i64 s.bg,.int .i64 s.attr] 49)
  have N1:=zH w (.cells #[.int .i64 s.fg,.int .i64 s.bg,.int .i64 s.attr] 49)
  have H0:=Qh h
  have HG:=Qh (h.below U0)
  clear h
  have Y0:=Qh (zgo HG top bottom n s (hs.below U0))
  unfold Sty.val at Y0
  by_cases hR0:zZ g top bottom n s=0
  · have HE:=Qh (show g.up top bottom n s keep=g by unfold Gr.up;rw[if_pos hR0])
    rw[hR0]at Y0
    unfold Sty.val
    go_enter func186,ntmps186
    go_wp2_with fail
    refine Y0.mono ?_
    rintro e w2 ⟨rfl,b2⟩
    have E0:=Qh (U0.trans (b2.mono (by simp)))
    clear b2
    go_wp2_with fail
    refine zdh rfl rfl ⟨rfl,zh.of_below E0,T,?_,fun k hk=>.inl hk⟩
    rw[HE.out]
    exact H0.below E0
  obtain⟨k1,k2,k3,T5,k5,k6⟩:=zfu hR0
  have T2:=Qh (show g.up top bottom n s keep=_ by unfold Gr.up;rw[if_neg hR0])
  generalize N4:zZ g top bottom n s=R at *
  obtain⟨t,rfl⟩:∃ t:Nat,top=(t:Int):=⟨top.toNat,by omega⟩
  obtain⟨b,rfl⟩:∃ b:Nat,bottom=(b:Int):=⟨bottom.toNat,by omega⟩
  have D4:1≤R:=by omega
  have F2:R≤b+1-t:=by omega
  have A2:t≤b:=by omega
  have G0:=H0.out.wf
  have V4:=G0.r2
  have R5:=G0.c2
  have X4:=G0.li
  have Y4:=G0.ol
  have dR:((R:Int) == 0)=false:=Qb (by omega)
  have L5:(R == 0)=false:=Qb (by omega)
  clear N4 k1 k2 k6 hR0
  unfold Sty.val
  go_enter func186,ntmps186
  go_wp2_with fail
  refine Y0.mono ?_
  rintro e w2 ⟨rfl,b2⟩
  have E0:=Qh (U0.trans (b2.mono (by simp)))
  have H2:=Qh (zr N1 b2 (by simp))
  have H4:w.heap.size<w2.heap.size:=zq H2
  obtain⟨vr,vo,Lr,Lo,V⟩:=H0.out
  have O:=V.mod (.of_below E0) id id id (fun _=>id)
  have J3:=Qh O
  have O3:=(Zg V).1
  have C4:=(Zg V).2
  obtain⟨B,A,c,rfl,S5,H5⟩:=zE O.rr.own (by omega)
  have L:T B=2:=O.rr.tag B rfl
  have U:T p=1:=O.tp
  have O2:B≠p:=fun e=>by rw[e]at L;omega
  have T4:p<w.heap.size:=V.lt p (by omega)
  have B4:B<w.heap.size:=V.lt B (by omega)
  have V2:b<Lr.length:=by omega
  clear O3 b2 Y0 HG N1 U0
  obtain⟨c0,c1,c2,c3⟩:=zY O
  have Y:=zey (fun x hx=>O.ca x (List.mem_append_left _ hx))
  have D0:((Lr.drop t).take R).length=R:=by rw[List.length_take,List.length_drop];omega
  have G2:=zX (zeh O.rr.own t (t+R) (by omega) (by omega))
  rw[show t+R-t=R by omega,ZA,Zm]at G2
  have M:=zca (P:=prog) (size:=2) underlying112 zC B A Lr.length c t (t+R) (by omega) (by omega) (by omega)
  rw[show t+R-t=R by omega,show((t+R:Nat):Int)=(t:Int)+(R:Int) by omega]at M
  have I2:=Qh (zef ((Lr.drop t).take R) ⟨B,A+t*2,none⟩ (c-t) w2 (by rw[D0];exact G2) (fun u hu=>Y u (by
    rw[← Zm,← ZA]at hu
    exact List.mem_of_mem_drop (List.mem_of_mem_take hu))) (by rw[D0];omega))
  rw[D0]at I2
  go_wp2_with fail
  refine I2.mono ?_
  rintro e w3 ⟨ov,rfl,b3,o3⟩
  have D1:=Qh o3
  have F3:=Qh (E0.trans (b3.mono E0.size))
  have Z0:=J3.out.mod (.of_below b3) id id id (fun _=>id)
  have Z2:=Qh (zr H2 b3 H4)
  have M5:=b3.size
  clear c0 c1 c2 c3 b3 o3 I2 O G2 M
  have Y3:=Qh Z0
  obtain⟨c0,c1,c2,c3⟩:=zY Z0
  have N5:IntKind.i64.wrap ((b:Int)+1)=(b:Int)+1:=zd _ (by omega) (by omega)
  have O5:IntKind.i64.wrap ((t:Int)+(R:Int))=(t:Int)+(R:Int):=zd _ (by omega) (by omega)
  have M:=zca (P:=prog) (size:=2) underlying112 zC B A Lr.length c t (b+1) (by omega) (by omega) (by omega)
  rw[show((b+1:Nat):Int)=(b:Int)+1 by omega]at M
  obtain⟨a2,I1,A4⟩:=zeY (P:=prog) (size:=2) underlying112 zC B A Lr.length c (t+R) (b+1) (by omega) (by omega)
  rw[show((b+1:Nat):Int)=(b:Int)+1 by omega,show((t+R:Nat):Int)=(t:Int)+(R:Int) by omega]at I1
  go_upto_region 4 with fail
  go_still_tail 18,(by kernel_rfl)
  change wpList _ _ _ _ _ w3.drew
  have E:=Z0.mod (.of_below (Below.refl _ _).drew) id id id (fun _=>id)
  have R0:=Qh (show zp w3.drew w2.heap.size 2 ov R _ from D1.out)
  have X2:=Qh (Zb Z2)
  have N3:=Qh F3.drew
  have C5:w3.drew.heap.size=w3.heap.size:=rfl
  clear c0 c1 c2 c3 Z0 Y3 Z2 F3 D1 J3 H2
  generalize F5:w3.drew=w4 at *
  have I5:=Qh E
  have hM:((Lr.drop (t+R)).take (b+1-(t+R))).length=b+1-(t+R):=by rw[List.length_take,List.length_drop];omega
  have N0:=zcR E.rr.own (t+R) (b+1) (c-(t+R)) a2 A4 (by omega) (by omega)
  rw[ZA,Zm]at N0
  have M3:=zbN (P:=prog) underlying112 zC E.rr.own t (b+1-t) (c-t) ⟨B,A+t*2,none⟩ (fun _=>rfl) (by omega) N0 (fun u hu=>Y u (by
    rw[← Zm,← ZA]at hu
    exact List.mem_of_mem_drop (List.mem_of_mem_take hu)))
  rw[List.take_of_length_le (by rw[zL,hM,show Nat.min (b+1-(t+R)) (b+1-t)=b+1-(t+R) by show min (b+1-(t+R)) (b+1-t)=_;omega];exact Nat.le_refl _)]at M3
  have X1:=zaz E.rr.own t (zf ((Lr.drop (t+R)).take (b+1-(t+R)))) (by rw[zL,hM];omega)
  rw[← zbl]at X1
  have g5:=zV w4 B (A+t*2) (zf ((Lr.drop (t+R)).take (b+1-(t+R))))
  have m5:Mod T (fun x=>x=2) w4 (w4.setCells B (A+t*2) (zf ((Lr.drop (t+R)).take (b+1-(t+R))))):=Mod.of_gb g5 (fun k hk=>by injection hk with hk;subst hk;exact L)
  have F1:=(m5.block p (zq E.blk) (by rw[U];decide)).trans E.blk
  have C1:=Qh (E.ro.mod m5 (by decide))
  have O1:=Qh (show ∀ x∈Lr++Lo,CAt T (w4.setCells B (A+t*2) (zf ((Lr.drop (t+R)).take (b+1-(t+R))))) x from fun x hx=>(E.ca x hx).mod m5 (fun k _=>by omega))
  have U2:∀ k,ov.ownBlock=some k→B≠k:=fun k hk=>by
    have:=(zg R0 k hk).1;omega
  have L1:=Qh (zi R0 g5 (fun k hk e=>U2 k hk (by injection e)))
  have F0:=Qh (zl X2 g5 (by intro e;injection e with e;omega))
  have L2:=Qh ((zh.of_below (G:=own T w) N3).trans (zh.of_gb g5 (fun k hk=>by injection hk with hk;subst hk;exact .inl (by omega))))
  have J5:=zaG w4 B (A+t*2) (zf ((Lr.drop (t+R)).take (b+1-(t+R))))
  have C3:=Qh X1
  have S:=Qh F1
  clear g5 m5 E X1 F1 N0 R0 X2 N3
  generalize w4.setCells B (A+t*2) (zf ((Lr.drop (t+R)).take (b+1-(t+R))))=H at *
  have c0:H.cell? ⟨p,0,none⟩=some (.int .i64 g.cols):=za S 0
  have c2:H.cell? ⟨p,2,none⟩=some (.slice (some ⟨B,A,none⟩) Lr.length c):=za S 2
  have q0:H.cell? ⟨w.heap.size,0,none⟩=some (.int .i64 s.fg):=za F0 0
  have q1:H.cell? ⟨w.heap.size,1,none⟩=some (.int .i64 s.bg):=za F0 1
  have q2:H.cell? ⟨w.heap.size,2,none⟩=some (.int .i64 s.attr):=za F0 2
  have G5:IntKind.i64.wrap ((b:Int)+1-(R:Int))=(b:Int)+1-(R:Int):=zd _ (by omega) (by omega)
  have S1:=zcW (P:=prog) (size:=2) underlying112 zC B A Lr.length c (b+1-R) (by omega) (by omega)
  rw[show((b+1-R:Nat):Int)=(b:Int)+1-(R:Int) by omega]at S1
  have U4:H.drew.heap.size=H.heap.size:=rfl
  have T1:=Qh (show zp H.drew 0 2 (.slice (some ⟨B,A,none⟩) Lr.length c) Lr.length (zf (Za Lr t ((Lr.drop (t+R)).take (b+1-(t+R))))) from C3.out)
  have D3:p<H.heap.size:=zq S
  have M2:w.heap.size<H.heap.size:=zq F0
  have S4:B<H.heap.size:=by omega
  have A5:p≠w.heap.size:=by omega
  have O4:B≠w.heap.size:=by omega
  go_upto_region 5 with fail
  go_region_held3 (fun w'=>w'.cell? ⟨p,0,none⟩=some (.int .i64 g.cols)∧w'.cell? ⟨p,2,none⟩=some (.slice (some ⟨B,A,none⟩) Lr.length c)∧w'.cell? ⟨w.heap.size,0,none⟩=some (.int .i64 s.fg)∧w'.cell? ⟨w.heap.size,1,none⟩=some (.int .i64 s.bg)∧w'.cell? ⟨w.heap.size,2,none⟩=some (.int .i64 s.attr)) (go_keep)
    (first
      | (go_at_call 89
         refine(zcF R g.cols s _ (by omega) (by omega)).mono ?_
         rintro e F ⟨fv,C,rfl,b6,Y1,J0⟩
         have B0:C.length=R:=by
           have:=congrArg List.length Y1
           rw[List.length_map]at this
           rw[this];unfold zW;rw[List.length_replicate]
         obtain⟨fa,fc,rfl⟩:=zK J0.own
         have I:=zr (Zb F0) b6 M2
         have X:=zr (Zb S) b6 D3
         have E2:=zk T1 b6
         have z0:F.cell? ⟨p,0,none⟩=some (.int .i64 g.cols):=za X 0
         have z1:F.cell? ⟨p,2,none⟩=some (.slice (some ⟨B,A,none⟩) Lr.length c):=za X 2
         have z2:F.cell? ⟨w.heap.size,0,none⟩=some (.int .i64 s.fg):=za I 0
         have z3:F.cell? ⟨w.heap.size,1,none⟩=some (.int .i64 s.bg):=za I 1
         have z4:F.cell? ⟨w.heap.size,2,none⟩=some (.int .i64 s.attr):=za I 2
         have G1:Nat.min C.length (Lr.length-(b+1-R))=C.length:=by show min C.length (Lr.length-(b+1-R))=_;omega
         have M1:=zbN (P:=prog) underlying112 zC E2 (b+1-R) (Lr.length-(b+1-R)) (c-(b+1-R)) ⟨B,A+(b+1-R)*2,none⟩ (fun _=>rfl) (by omega) (zX J0.own) (zcu C (fun x hx=>by
           obtain⟨xa,xc,e⟩:=zK (J0.cells x hx)
           exact⟨xa,_,xc,e⟩))
         rw[G1,List.take_of_length_le (by rw[zL];exact Nat.le_refl _)]at M1
         have g7:=zV F B (A+(b+1-R)*2) (zf C)
         have A0:=zl I g7 (by intro e;injection e with e;exact O4 e.symm)
         have C0:=zl X g7 (by intro e;injection e with e;exact O2 e.symm)
         have y0:(F.setCells B (A+(b+1-R)*2) (zf C)).cell? ⟨p,0,none⟩=some (.int .i64 g.cols):=za C0 0
         have y1:(F.setCells B (A+(b+1-R)*2) (zf C)).cell? ⟨p,2,none⟩=some (.slice (some ⟨B,A,none⟩) Lr.length c):=za C0 2
         have y2:(F.setCells B (A+(b+1-R)*2) (zf C)).cell? ⟨w.heap.size,0,none⟩=some (.int .i64 s.fg):=za A0 0
         have y3:(F.setCells B (A+(b+1-R)*2) (zf C)).cell? ⟨w.heap.size,1,none⟩=some (.int .i64 s.bg):=za A0 1
         have y4:(F.setCells B (A+(b+1-R)*2) (zf C)).cell? ⟨w.heap.size,2,none⟩=some (.int .i64 s.attr):=za A0 2
         have O0:=Qh b6
         have L4:=Qh Y1
         have I0:=Qh J0
         have Y2:=Qh E2
         have J1:=Qh C0
         have T0:=Qh g7
         have F4:=Qh B0
         clear b6 Y1 J0 I X E2 A0 C0 g7 G1 B0))
  have D5:=O0.out.size
  have B0:=F4.out
  have m7:Mod T (fun x=>x=2) F (F.setCells B (A+(b+1-R)*2) (zf C)):=Mod.of_gb T0 (fun k hk=>by injection hk with hk;subst hk;exact L)
  have C2:Mod T (fun _=>False) H F:=Mod.of_below ((Below.refl H.heap.size H).drew.trans O0)
  have A3:=Qh (show ∀ x∈Lr++Lo,CAt T (F.setCells B (A+(b+1-R)*2) (zf C)) x from fun x hx=>((O1 x hx).mod C2 (fun _ _=>id)).mod m7 (fun k _=>by omega))
  have U1:=Qh ((C1.mod C2 id).mod m7 (by decide))
  have Z1:=zaz Y2 (b+1-R) (zf C) (by rw[zL];omega)
  rw[← zbl]at Z1
  have G3:=Qh Z1
  have D2:∀ x∈C,∃ q,x.1.ownBlock=some q∧H.heap.size≤q:=fun x hx=>by
    obtain⟨q,e1,_⟩:=I0.out.ap x hx
    exact⟨q,e1,(zg (I0.cells x hx) q e1).1⟩
  have I3:=Qh D2
  have H1:=Qh (show ∀ x∈C,zp (F.setCells B (A+(b+1-R)*2) (zf C)) 0 5 x.1 x.2.cells.length (zt x.2.cells) from fun x hx=>zP (zi (I0.cells x hx) T0 (fun k hk e=>by
    obtain⟨q,e1,e2⟩:=D2 x hx
    rw[e1]at hk;injection hk with hk;injection e with e;omega)) (Nat.zero_le _))
  have B3:=Qh (show zp (F.setCells B (A+(b+1-R)*2) (zf C)) w2.heap.size 2 ov R _ from zi (zk (show zp H.drew w2.heap.size 2 ov R _ from L1.out) O0) T0 (fun k hk e=>U2 k hk (by injection e)))
  have G4:=Qh (((L2.trans (zh.of_below (Below.refl H.heap.size H).drew)).trans (zh.of_below O0)).trans (zh.of_gb T0 (fun k hk=>by injection hk with hk;subst hk;exact .inl (by omega))))
  have Z4:=zaG F B (A+(b+1-R)*2) (zf C)
  have U3:=Qh I0.nd
  have D:=Qh V
  clear M1 y0 y1 y2 y3 y4 z0 z1 z2 z3 z4 m7 C2 Z1 D2 q0 q1 q2 c0 c2 T1 Y2 C1 O1 L1 C3 O0 I0 T0 L2 F0 S V S1 M3 M I1
  generalize F.setCells B (A+(b+1-R)*2) (zf C)=w7 at *
  have HU:=Qh (zo3 Lr C t b R A2 V2 D4 F2 B0)
  have M4:=Qh (show(upL Lr t b R C).map (·.2)=zbd g.rows t b R g.cols s by
    rw[HU.out]
    unfold zbd
    rw[List.map_append,List.map_append,List.map_append,List.map_take,List.map_take,List.map_drop,List.map_drop,D.out.er,L4.out])
  have Z3:=Qh (show(upL Lr t b R C).length=Lr.length by
    unfold upL
    rw[ZV _ _ _ (by rw[ZV _ _ _ (by rw[hM];omega)];omega),ZV _ _ _ (by rw[hM];omega)])
  have HUM:=Qh (show ∀ x∈upL Lr t b R C,x∈Lr∨x∈C from fun x hx=>by
    unfold upL at hx
    rcases zbn hx with hx | hx
    · rcases zbn hx with hx | hx
      · exact .inl hx
      · exact .inl (List.mem_of_mem_drop (List.mem_of_mem_take hx))
    · exact .inr hx)
  have B1:w.heap.size≤w7.heap.size:=by omega
  have Z:=Qh (show ∀ (w':World) (vo':Value) (Lo':List (Value × Rw)) (g':Gr),w7.heap.size≤w'.heap.size→zh (fun k=>k=p∨vo.ownBlock=some k∨w7.heap.size≤k) w7 w'→g'.cols=g.cols→g'.limit=g.limit→g'.rows=zbd g.rows t b R g.cols s →
      w'.heap[p]?=some (.cells #[.int .i64 g.cols,.int .i64 g.limit,.slice (some ⟨B,A,none⟩) Lr.length c,vo'] 114 (0,0))→zp w' 0 2 vo' Lo'.length (zf Lo')→(∀ k,vo'.ownBlock=some k→vo.ownBlock=some k∨w7.heap.size≤k)→Lo'.Sublist (Lo++(Lr.drop t).take R)→Lo'.map (·.2)=g'.old→g'.WF →
      zh (own T w) w w'∧∃ T',GM T' p w' g'∧∀ k,T' k≠0→own T w k from fun w' vo' Lo' g' hsz' hw' e1 e2 e3 hk' ho' hv' hsub eo' wf'=>by
    have J:∀ k,vo.ownBlock=some k→T k=3:=D.out.ro.tag
    have A1:∀ k,T k≠0→k<w.heap.size:=D.out.lt
    have m':Mod T (fun x=>x=1∨x=3) w7 w':=⟨hw'.os,hw'.tape,hw'.output,hw'.size,fun k hk hn=>hw'.block k hk (fun e=>by
      rcases e with e | e | e
      · subst e;exact hn (.inl U)
      · exact hn (.inr (J k e))
      · omega)⟩
    have S2:∀ k,w.heap.size≤k→k<w7.heap.size→w'.heap[k]?=w7.heap[k]?:=fun k hk hk2=>hw'.block k hk2 (fun e=>by
      rcases e with e | e | e
      · omega
      · have:=A1 k (by rw[J k e];decide);omega
      · omega)
    refine⟨G4.trans (hw'.mono (fun k hk=>by
      rcases hk with e | e | e
      · subst e;exact .inl (by omega)
      · exact .inl (by rw[J k e];decide)
      · exact .inr (by omega))),?_⟩
    refine zcS (vr:=.slice (some ⟨B,A,none⟩) Lr.length c) (vo:=vo') (Lr:=upL Lr t b R C) (Lo:=Lo') A1 U (Nat.le_trans B1 hsz') (by rw[e1,e2];exact hk') ?_ ho' (fun k hk=>?_) (fun k hk=>?_) (fun x hx=>?_) ?_ (by rw[e3];exact M4) eo' wf'
    · rw[Z3.out]
      refine Zu G3 hsz' (fun k hk=>?_)
      simp[Value.ownBlock]at hk
      subst hk
      exact m'.block _ (by omega) (by rw[L];decide)
    · simp[Value.ownBlock]at hk
      subst hk
      exact .inl L
    · rcases hv' k hk with h | h
      · exact .inl (J k h)
      · exact .inr (by omega)
    · have L0:x∈Lr++Lo→zp w' 0 5 x.1 x.2.cells.length (zt x.2.cells)∧∃ q,x.1.ownBlock=some q∧((q<w.heap.size∧T q=10+q)∨(w.heap.size≤q∧vo'.ownBlock≠some q∧(Value.slice (some ⟨B,A,none⟩) Lr.length c).ownBlock≠some q)):=fun hx=>by
        have hc:=(A3 x hx).mod m' (fun k _=>by omega)
        obtain⟨q,e1,e2⟩:=hc.tag
        exact⟨hc.own,q,e1,.inl ⟨A1 q (by omega),e2⟩⟩
      have J2:x∈C→zp w' 0 5 x.1 x.2.cells.length (zt x.2.cells)∧∃ q,x.1.ownBlock=some q∧((q<w.heap.size∧T q=10+q)∨(w.heap.size≤q∧vo'.ownBlock≠some q∧(Value.slice (some ⟨B,A,none⟩) Lr.length c).ownBlock≠some q)):=fun hx=>by
        obtain⟨q,e1,e2⟩:=I3.out x hx
        have J4:=(zg (H1 x hx) q e1).2
        refine⟨Zu (H1 x hx) hsz' (fun k hk=>by rw[e1]at hk;injection hk with hk;subst hk;exact S2 _ (by omega) J4),q,e1,.inr ⟨by omega,fun e=>?_,fun e=>?_⟩⟩
        · rcases hv' q e with h | h
          · have:=A1 q (by rw[J q h];decide);omega
          · omega
        · simp[Value.ownBlock]at e;omega
      rcases List.mem_append.1 hx with hx | hx
      · rcases HUM.out x hx with h | h
        · exact L0 (List.mem_append_left _ h)
        · exact J2 h
      · have:=hsub.subset hx
        rcases List.mem_append.1 this with h | h
        · exact L0 (List.mem_append_right _ h)
        · exact L0 (List.mem_append_left _ (List.mem_of_mem_drop (List.mem_of_mem_take h)))
    · rw[HU.out]
      refine znc Lr Lo C Lo' t b R w.heap.size A2 V2 F2 D.nd (fun x hx k hk=>?_) U3 (fun x hx=>?_) hsub
      · exact(zg (D.ca x hx).own k hk).2
      · obtain⟨q,e1,e2⟩:=I3.out x hx
        exact⟨q,e1,by omega⟩)
  have E4:=Qh (show ∀ k,vo.ownBlock=some k→vo.ownBlock=some k∨w7.heap.size≤k from fun k hk=>.inl hk)
  have E1:=zo9 G0 t b R s keep A2 (by omega) F2
  have N2:=Qh E1
  have M0:(if keep=true∧(t:Int)=0 then zaC g.limit (g.old++(g.rows.drop t).take R) else g.old)=(if keep=true∧t=0 then zaC g.limit (g.old++(g.rows.drop t).take R) else g.old):=by
    by_cases ht:t=0
    · subst ht;simp
    · rw[if_neg (by rintro ⟨_,h⟩;omega),if_neg (fun h=>ht h.2)]
  have V1:=Qh (show g.up t b n s keep=⟨g.cols,g.limit,zbd g.rows t b R g.cols s,if keep=true∧t=0 then zaC g.limit (g.old++(g.rows.drop t).take R) else g.old⟩ by
    rw[T2.out,Int.toNat_natCast,Int.toNat_natCast,M0])
  clear E1 M0 T2 G0
  by_cases hk0:keep=true∧t=0
  · obtain⟨rfl,rfl⟩:=hk0
    have R2:=zX B3
    have R3:vo.ownBlock≠some p:=fun e=>by have:=D.out.ro.tag p e;omega
    have S3:((Lr.drop 0).take R).length=R:=D0
    have V0:∀ u∈zf ((Lr.drop 0).take R),u.oneCell'=true:=fun u hu=>Y u (by
      rw[← Zm,← ZA]at hu
      exact List.mem_of_mem_drop (List.mem_of_mem_take hu))
    have X0:(zas g.limit (Lo++(Lr.drop 0).take R)).map (·.2)=zaC g.limit (g.old++(g.rows.drop 0).take R):=by
      unfold zas zaC
      rw[List.map_drop,List.map_append,List.map_take,List.map_drop,D.out.eo,D.out.er]
      congr 1
      rw[List.length_append,List.length_append,List.length_take,List.length_take,List.length_drop,List.length_drop,← D.out.eo,← D.out.er,List.length_map,List.length_map]
    have I4:=Qh X0
    have V3:=Qh (ziP p g.cols g.limit (.slice (some ⟨B,A,none⟩) Lr.length c) vo ov Lo ((Lr.drop 0).take R) w7 J1 U1.own R3 (by rw[S3];exact R2) (zey (fun x hx=>D.ca x (List.mem_append_right _ hx))) V0 (by omega) (by rw[S3];omega) (by omega))
    clear R2 V0 X0 Y
    go_wp2_with fail
    refine V3.mono ?_
    rintro e w8 ⟨rfl,B2,R4,E3,H3,L3⟩
    have R1:zh (own T w) w w8∧∃ T',GM T' p w8 (g.up ((0:Nat):Int) b n s true)∧∀ k,T' k≠0→own T w k:=by
      have N:=N2.out
      rw[V1.out]
      rw[if_pos (by simp)]at N ⊢
      exact Z w8 R4 _ _ B2.size B2 rfl rfl rfl E3 H3 L3 (List.drop_sublist _ _) I4 N
    have X3:=Qh R1
    clear R1 B2 E3 H3 L3
    go_wp2_with fail
    go_end0
    exact⟨rfl,X3⟩
  · have B5:=Qh hk0
    have S0:zh (own T w) w w7∧∃ T',GM T' p w7 (g.up t b n s keep)∧∀ k,T' k≠0→own T w k:=by
      have N:=N2.out
      rw[V1.out]
      rw[if_neg hk0]at N ⊢
      exact Z w7 vo Lo _ (Nat.le_refl _) (zh.refl _ _) rfl rfl rfl J1 U1.own E4 (List.sublist_append_left _ _) D.eo N
    have HD:=Qh S0
    clear S0
    cases keep
    · go_wp2_with fail
      go_end0
      exact⟨rfl,HD⟩
    · have T3:¬ t=0:=fun e=>hk0 ⟨rfl,e⟩
      have dt:((t:Int) == 0)=false:=Qb (by omega)
      have E5:(t == 0)=false:=Qb T3
      clear hk0
      go_wp2_with fail
      go_end0
      exact⟨rfl,HD⟩
end
section
open Go.ChangeShapes Go.WideShapes Go.ChangeAt Go.RowKit
theorem zps:prog.globalNamed "internal/strconv.uint64pow10"=some 2:=by kernel_rfl
theorem zl8:(prog.globals[2]?).map (·.type)=some 261:=by kernel_rfl
theorem gSp:prog.globalNamed "strings.asciiSpace"=some 0:=by kernel_rfl
theorem znp:(prog.globals[0]?).map (·.type)=some 221:=by kernel_rfl
theorem gDb:prog.globalNamed "math/bits.deBruijn64tab"=some 4:=by kernel_rfl
theorem znq:(prog.globals[4]?).map (·.type)=some 268:=by kernel_rfl
theorem zl9:prog.cellsOf 261=20:=by kernel_rfl
theorem znr:prog.cellsOf 221=256:=by kernel_rfl
theorem zns:prog.cellsOf 268=64:=by kernel_rfl
theorem zkI:prog.cellsOf 241=1:=by kernel_rfl
theorem zhN:prog.cellsOf 5=1:=by kernel_rfl
def zoC:DataW Unit→Int
 | .lit (.int _ z)=>z
 | _=>0
def znt:DataW Unit→List Int
 | .agg l=>l.map zoC
 | _=>[]
def dbTab:List Int:=znt Rows.laid_math_bits_deBruijn64tab
theorem zi2:(Rows.laid_internal_strconv_uint64pow10:DataW Unit)=Lib.tabData .u64 Lib.pow10Tab:=by kernel_rfl
theorem zkJ:(Rows.laid_strings_asciiSpace:DataW Unit)=Lib.tabData .u8 Lib.asciiSpaceTab:=by kernel_rfl
theorem zkK:(Rows.laid_math_bits_deBruijn64tab:DataW Unit)=Lib.tabData .u8 dbTab:=by kernel_rfl
theorem zhO:dbTab.length=64∧dbTab.getD 15 0=4:=by decide +kernel
theorem znu {W:World} (h:laidMetH prog [("math/bits.deBruijn32tab", Rows.laid_math_bits_deBruijn32tab),("math/bits.deBruijn64tab", Rows.laid_math_bits_deBruijn64tab),("internal/strconv.uint64pow10", Rows.laid_internal_strconv_uint64pow10),("unicode.White_Space", Rows.laid_unicode_White_Space),("strings.asciiSpace", Rows.laid_strings_asciiSpace)] W):zdz W:=by
 have T:laidMet prog [("math/bits.deBruijn32tab", Rows.laid_math_bits_deBruijn32tab),("math/bits.deBruijn64tab", Rows.laid_math_bits_deBruijn64tab),("internal/strconv.uint64pow10", Rows.laid_internal_strconv_uint64pow10),("unicode.White_Space", Rows.laid_unicode_White_Space),("strings.asciiSpace", Rows.laid_strings_asciiSpace)] W:=h;obtain⟨_,⟨_,_,_,_,_,_,_,_,_,_,Z,_⟩,_⟩:=T;obtain⟨g1,t1,R,A0,p1,q1,E,I,H,A,X,_⟩:=Z;obtain⟨g2,t2,C0,U,p2,q2,G,D,M,B,Y,_⟩:=X;obtain⟨_,_,_,_,_,_,_,_,_,_,V,_⟩:=Y;obtain⟨g4,t4,B0,S,p4,q4,L,N,J,C,_,_⟩:=V;obtain rfl:=Option.some.inj (gDb.symm.trans E);obtain rfl:=Option.some.inj (znq.symm.trans I);obtain rfl:=Option.some.inj (zps.symm.trans G);obtain rfl:=Option.some.inj (zl8.symm.trans D);obtain rfl:=Option.some.inj (gSp.symm.trans L);obtain rfl:=Option.some.inj (znp.symm.trans N);rw[zkK]at A;rw[zi2]at B;rw[zkJ]at C;have F:Lib.TabIs prog W "math/bits.deBruijn64tab" .u8 dbTab:=by
  unfold Lib.TabIs;rw[H,← Lib.cells_of_tab underlying268 underlying5 zhN zns A]
 refine⟨Lib.tabBelow_of_tabIs ?_,Lib.tabBelow_of_tabIs ?_,fun w' hb=>?_⟩
 ·unfold Lib.TabIs;rw[J,← Lib.cells_of_tab underlying221 underlying5 zhN znr C]
 ·unfold Lib.TabIs;rw[M,← Lib.cells_of_tab underlying261 underlying241 zkI zl9 B]
 ·have O:=(Lib.tabBelow_of_tabIs F w' hb).cell gDb 15 (by rw[zhO.1];decide);rw[zhO.2]at O;exact O
end
end Go.Proofs.YthehkmopdeebmaaGreatDoor
