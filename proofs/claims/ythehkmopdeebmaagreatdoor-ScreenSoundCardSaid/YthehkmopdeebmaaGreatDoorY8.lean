/- Part. -/
import Derived.Test.YthehkmopdeebmaaGreatDoorY5
import Derived.Test.YthehkmopdeebmaaGreatDoorY6
set_option linter.unusedVariables false
set_option linter.unusedSimpArgs false
set_option maxRecDepth 100000
set_option maxHeartbeats 4000000
namespace Go.Proofs.YthehkmopdeebmaaGreatDoor
open _root_.Go.Proofs.Tryz
section
open Go.RowKit
theorem zg2 {P:Program} {t e:TypeId} {size:Nat} {z:Value} (ht:P.underlying t=some (.slice e)) (hz:∀ w,(zeroValue e).run P w=.ok z w) (hzs:z.cells.size=size) (hz1:∀ u∈z.cells.toList,u.oneCell'=true) {w:World} {base b off n c:Nat} {xs:List Value} (h:zp w base size (.slice (some ⟨b,off,none⟩) n c) n xs)
  (x m c1:Nat) (hm:0<m) (hx:x+m≤n) (ty:TypeId) :
  ∃ zs:List Value,zs.length=m*size∧(Builtin.clear_ #[t] ty #[.slice (some ⟨b,off+x*size,none⟩) m c1]).run P w=.ok (.tuple #[]) (w.setCells b (off+x*size) zs):=by
 obtain⟨J,h2⟩:=h;rcases h2 with ⟨e,_⟩ | ⟨M,H,N,e,hb,hbs,hnc,hcm,hcells,hxs⟩
 ·simp at e
 simp only[Value.slice.injEq,Option.some.injEq,Addr.mk.injEq]at e;obtain⟨⟨rfl,rfl,_⟩,_,rfl⟩:=e;have F:(Builtin.zeroCells z.cells m).toList.length=m*size:=(by simp[Builtin.zeroCells,hzs]);refine⟨(Builtin.zeroCells z.cells m).toList,F,?_⟩;have D:∀ j,j<(Builtin.zeroCells z.cells m).toList.length→x*size+j<c*size:=fun j hj=>by
  have L:x*size+m*size≤c*size:=(by rw[← Nat.add_mul];exact Nat.mul_le_mul_right _ (by omega));omega
 have C:∀ u∈(Builtin.zeroCells z.cells m).toList,u.oneCell'=true:=fun u hu=>by
  unfold Builtin.zeroCells at hu;simp only[Array.toList_map,List.mem_map,Array.mem_toList_iff,Array.mem_range]at hu;obtain⟨i,G,rfl⟩:=hu;have A:0<z.cells.size:=by
   rcases Nat.eq_zero_or_pos z.cells.size with h0 | h0
   ·rw[h0]at G;simp at G
   ·exact h0
  have E:=Nat.mod_lt i A;rw[getElem!_pos z.cells _ E];exact hz1 _ (by simp)
 have B:=run_storeCells_cells (P:=P) b (off+x*size) (Builtin.zeroCells z.cells m).toList 0 w (fun j hj=>by
   have:=(hcells _ (D j hj)).1
   rwa [← Nat.add_assoc]at this) (fun j hj=>by
   have:=(hcells _ (D j hj)).2
   rwa [← Nat.add_assoc]at this) C
 rw[Nat.add_zero]at B;obtain⟨I,rfl⟩:∃ I,m=I+1:=⟨m-1,by omega⟩;simp[Builtin.clear_,run_underlying ht,hz,B]
theorem zgi (w:World):(zeroValue 144).run prog w=.ok (.agg #[.slice none 0 0,.bool false]) w:=by kernel_rfl
theorem zgj:∀ u∈(Value.agg #[.slice none 0 0,.bool false]).cells.toList,u.oneCell'=true:=by
 intro u hu;simp[Value.cells]at hu;rcases hu with rfl | rfl <;> rfl
def zas {α:Type} (limit:Nat) (l:List α):List α:=l.drop (l.length-limit)
theorem zlY (Lo Lk:List (Value × Rw)) (limit:Nat) (hlim:limit<(Lo++Lk).length) (zs:List Value) (_hz:zs.length=((Lo++Lk).length-limit)*2) :
  (Za (Za (zf (Lo++Lk)) 0 (zf (zas limit (Lo++Lk)))) (limit*2) zs).take (limit*2)=zf (zas limit (Lo++Lk)):=by
 generalize Lo++Lk=L at *;have A:(zf (zas limit L)).length=limit*2:=by
  rw[zL];unfold zas;rw[List.length_drop];omega
 have C:(zf L).length=L.length*2:=zL L;have B:Za (zf L) 0 (zf (zas limit L))=zf (zas limit L)++(zf L).drop (limit*2):=by
  unfold Za;rw[List.take_zero,List.nil_append,Nat.zero_add,A]
 rw[B];unfold Za;rw[List.append_assoc,List.take_append_of_le_length (by rw[List.length_take,List.length_append,A];omega),List.take_take,Nat.min_self,List.take_append_of_le_length (by omega),List.take_of_length_le (by omega)]
theorem ziP (p cols limit:Nat) (vr vo y:Value) (Lo Lk:List (Value × Rw)) (w:World) (hblk:w.heap[p]?=some (.cells #[.int .i64 cols,.int .i64 limit,vr,vo] 114 (0,0)))
  (ho:zp w 0 2 vo Lo.length (zf Lo)) (hne:vo.ownBlock≠some p) (hy:zaB w 2 y Lk.length (zf Lk)) (h1o:∀ u∈zf Lo,u.oneCell'=true) (h1:∀ u∈zf Lk,u.oneCell'=true) (hlo:Lo.length≤1000000) (hlk:Lk.length≤1000000) (hlim:limit≤1000000) :
  Calls prog 174 #[.pointer (some ⟨p,0,none⟩),y] w fun e w'=>e=.returned (.tuple #[])∧zh (fun k=>k=p∨vo.ownBlock=some k∨w.heap.size≤k) w w'∧∃ vo',
   w'.heap[p]?=some (.cells #[.int .i64 cols,.int .i64 limit,vr,vo'] 114 (0,0))∧zp w' 0 2 vo' (zas limit (Lo++Lk)).length (zf (zas limit (Lo++Lk)))∧(∀ k,vo'.ownBlock=some k→vo.ownBlock=some k∨w.heap.size≤k):=by
 have c0:w.cell? ⟨p,0,none⟩=some (.int .i64 cols):=za hblk 0;have N:w.cell? ⟨p,1,none⟩=some (.int .i64 limit):=za hblk 1;have c2:w.cell? ⟨p,2,none⟩=some vr:=za hblk 2;have G:w.cell? ⟨p,3,none⟩=some vo:=za hblk 3;have T1:=zq hblk;have HK:=Qh hblk;have HO:=Qh ho;have HY:=Qh hy;have H1:=Qh h1;have A1:=Qh (show ∀ u∈zf (Lo++Lk),u.oneCell'=true from fun u hu=>by
  rw[zO]at hu;rcases List.mem_append.1 hu with hu | hu
  ·exact h1o u hu
  ·exact h1 u hu)
 clear hblk ho hy h1 h1o;go_enter func174,ntmps174;go_wp2_with (at_builtin;refine zaQ ?_);unfold zaP;refine zS zaH rfl rfl 0 HO rfl HY rfl H1 (by unfold maxLen;omega) (by omega) (Nat.zero_le _) ?_;intro v2 I o2 g2 hn2;obtain⟨M,B,rfl⟩:=zK o2;have E:=zl HK g2 (fun e=>hne e.symm);have d3:I.cell? ⟨p,3,none⟩=some vo:=za E 3;have f3:I.frozen? ⟨p,3,none⟩=false:=zA E 3;have R:=zz E 3 (.slice M (Lo.length+Lk.length) B);have R0:(Value.slice M (Lo.length+Lk.length) B).ownBlock≠some p:=fun e=>by
  rcases hn2 p e with e' | e'
  ·exact hne e'
  ·omega
 have g3:I.grownBy (I.setCell ⟨p,3,none⟩ (.slice M (Lo.length+Lk.length) B)) (some p):=zx (zo _ _) _ _;rw[← zO]at o2;have A0:=Qh (zi o2 g3 (fun k C e=>R0 (by rw[C];exact e.symm)));have T0:=Qh (show zh (fun k=>k=p∨vo.ownBlock=some k∨w.heap.size≤k) w (I.setCell ⟨p,3,none⟩ (.slice M (Lo.length+Lk.length) B)) from
  (zh.of_gb g2 (fun k C=>.inr (.inl C))).trans (zh.of_gb g3 (fun k C=>.inl (by injection C with C;exact C.symm))))
 have HN:=Qh hn2;have F:=Qh (show(I.setCell ⟨p,3,none⟩ (.slice M (Lo.length+Lk.length) B)).heap[p]?=some (.cells #[.int .i64 cols,.int .i64 limit,vr,.slice M (Lo.length+Lk.length) B] 114 (0,0)) from R);clear o2 g2 hn2 g3 R E;go_wp2_with fail;have I1:(I.setCell ⟨p,3,none⟩ (.slice M (Lo.length+Lk.length) B)).heap.size=I.heap.size:=(by simp);generalize I.setCell ⟨p,3,none⟩ (.slice M (Lo.length+Lk.length) B)=O at *;clear c0 N c2 G d3 f3;have c0:O.cell? ⟨p,0,none⟩=some (.int .i64 cols):=za F 0;have N:O.cell? ⟨p,1,none⟩=some (.int .i64 limit):=za F 1;have G:O.cell? ⟨p,3,none⟩=some (.slice M (Lo.length+Lk.length) B):=za F 3;have N0:(Lo++Lk).length=Lo.length+Lk.length:=List.length_append;have R1:(Lo++Lk).length≤2000000:=(by omega);generalize hL:Lo++Lk=L at *;have B0:=N0.symm;clear N0;generalize Lo.length+Lk.length=ln at *;subst B0;have U1:IntKind.i64.wrap ((L.length:Int)-(limit:Int))=(L.length:Int)-(limit:Int):=zd _ (by omega) (by omega);go_quiet (fail);by_cases hm:L.length≤limit
 ·have d1:decide (0<(L.length:Int)-(limit:Int))=false:=Qf (by omega);have Y0:zas limit L=L:=(by unfold zas;rw[show L.length-limit=0 by omega];rfl);go_wp2_with fail;go_end0;refine⟨rfl,T0.trans (zh.of_below (zm (Below.refl _ _) nq)),_,F,?_,HN⟩;rw[hL,Y0];exact A0
 ·have d1:decide (0<(L.length:Int)-(limit:Int))=true:=Qt (by omega);obtain⟨b,A,c,e2,F1,V1⟩:=zE A0 (by omega);simp only[Value.slice.injEq]at e2;obtain⟨rfl,_,rfl⟩:=e2;have hO:=show zp (O.drewN nq) 0 2 (.slice (some ⟨b,A,none⟩) L.length B) L.length (zf L) from A0.out;have hK:=show(O.drewN nq).heap[p]?=some (.cells #[.int .i64 cols,.int .i64 limit,vr,.slice (some ⟨b,A,none⟩) L.length B] 114 (0,0)) from F.out;have hW:=T0.out.trans (zh.of_below (zm (Below.refl O.heap.size O) nq));have F0:b≠p:=fun e=>R0 (by rw[← e];rfl);have U:vo.ownBlock=some b∨w.heap.size≤b:=HN.out b rfl;have L0:((zf L).drop ((L.length-limit)*2)).take ((L.length-(L.length-limit))*2)=zf (zas limit L):=by
   rw[ZA,List.take_of_length_le (by rw[zL,List.length_drop];exact Nat.le_refl _)];rfl
  have V:(zas limit L).length=limit:=(by unfold zas;rw[List.length_drop];omega);have D0:∀ u∈zf L,u.oneCell'=true:=A1.out;generalize M1:O.drewN nq=D at *;clear c0 N G;have N:D.cell? ⟨p,1,none⟩=some (.int .i64 limit):=za hK 1;have G:D.cell? ⟨p,3,none⟩=some (.slice (some ⟨b,A,none⟩) L.length B):=za hK 3;obtain⟨a1,I0,G1⟩:=zgf (P:=prog) (size:=2) underlying112 zC b A L.length B (L.length-limit) (by omega) F1;rw[show((L.length-limit:Nat):Int)=(L.length:Int)-(limit:Int) by omega]at I0;go_upto_region 3 with fail
  go_still_tail 10,(by kernel_rfl)
  change wpList _ _ _ _ _ D.drew;have J:=show zp D.drew 0 2 (.slice (some ⟨b,A,none⟩) L.length B) L.length (zf L) from hO;have C0:=Zb hK;have O0:=hW.trans (zh.of_below (Below.refl D.heap.size D).drew);clear N G;generalize N1:D.drew=wa at *;have J0:=zcR J (L.length-limit) L.length (B-(L.length-limit)) a1 G1 (by omega) (Nat.le_refl _);rw[L0]at J0;have E1:=zbN (P:=prog) underlying112 zC J 0 L.length B ⟨b,A,none⟩ (fun _=>by rw[Nat.zero_mul,Nat.add_zero]) (by omega) J0 (by intro u hu;exact D0 u (by
   rw[← L0]at hu;exact List.mem_of_mem_drop (List.mem_of_mem_take hu)))
  rw[List.take_of_length_le (by rw[zL,V,show Nat.min (L.length-(L.length-limit)) L.length=limit by show min (L.length-(L.length-limit)) L.length=limit;omega];exact Nat.le_refl _),Nat.zero_mul,Nat.add_zero]at E1;have E0:=zaz J 0 (zf (zas limit L)) (by rw[zL,V];omega);rw[Nat.zero_mul,Nat.add_zero]at E0;have gb:=zV wa b A (zf (zas limit L));have Y:=zl C0 gb (by intro e;injection e with e;exact F0 e.symm);have V0:=O0.trans (zh.of_gb gb (fun k C=>by injection C with C;subst C;exact .inr U));clear gb J C0 O0;generalize wa.setCells b A (zf (zas limit L))=wb at *;have N:wb.cell? ⟨p,1,none⟩=some (.int .i64 limit):=za Y 1;have G:wb.cell? ⟨p,3,none⟩=some (.slice (some ⟨b,A,none⟩) L.length B):=za Y 3;have J1:=zcW (P:=prog) (size:=2) underlying112 zC b A L.length B limit (by omega) (by omega);go_upto_region 4 with fail
  go_still_tail 9,(by kernel_rfl)
  change wpList _ _ _ _ _ wb.drew;have X:=show zp wb.drew 0 2 (.slice (some ⟨b,A,none⟩) L.length B) L.length _ from E0;have S0:=Zb Y;have G0:=V0.trans (zh.of_below (Below.refl wb.heap.size wb).drew);clear N G;generalize O1:wb.drew=wc at *;obtain⟨zs,M0,X1⟩:=zg2 (P:=prog) (size:=2) underlying112 zgi rfl zgj X limit (L.length-limit) (B-limit) (by omega) (by omega) 0;have U0:=zaz X limit zs (by rw[M0,← Nat.add_mul];exact Nat.mul_le_mul_right _ (by omega));have gd:=zV wc b (A+limit*2) zs;have Z:=zl S0 gd (by intro e;injection e with e;exact F0 e.symm);have C1:=G0.trans (zh.of_gb gd (fun k C=>by injection C with C;subst C;exact .inr U));clear gd X S0 G0;generalize wc.setCells b (A+limit*2) zs=wd at *;have N:wd.cell? ⟨p,1,none⟩=some (.int .i64 limit):=za Z 1;have G:wd.cell? ⟨p,3,none⟩=some (.slice (some ⟨b,A,none⟩) L.length B):=za Z 3;have L1:=zcX (P:=prog) (size:=2) underlying112 zC (some ⟨b,A,none⟩) L.length B limit (by omega);go_upto_region 5 with fail
  go_still_tail 12,(by kernel_rfl)
  change wpList _ _ _ _ _ wd.drew;have H0:=show zp wd.drew 0 2 (.slice (some ⟨b,A,none⟩) L.length B) L.length _ from U0;have T:=Zb Z;have X0:=C1.trans (zh.of_below (Below.refl wd.heap.size wd).drew);clear N G;generalize S1:wd.drew=we at *;have G:we.cell? ⟨p,3,none⟩=some (.slice (some ⟨b,A,none⟩) L.length B):=za T 3;have f3:we.frozen? ⟨p,3,none⟩=false:=zA T 3;have gf:we.grownBy (we.setCell ⟨p,3,none⟩ (.slice (some ⟨b,A,none⟩) limit B)) (some p):=zx (zo _ _) _ _;have D1:=Qh (show(we.setCell ⟨p,3,none⟩ (.slice (some ⟨b,A,none⟩) limit B)).heap[p]?=some (.cells #[.int .i64 cols,.int .i64 limit,vr,.slice (some ⟨b,A,none⟩) limit B] 114 (0,0)) from zz T 3 _);have B1:=Qh (X0.trans (zh.of_gb gf (fun k C=>.inl (by injection C with C;exact C.symm))));have H:=zeh (zi H0 gf (fun k C e=>by simp[Value.ownBlock]at C;injection e with e;omega)) 0 limit (Nat.zero_le _) (by omega);rw[Nat.zero_mul,Nat.add_zero,Nat.sub_zero,Nat.sub_zero,List.drop_zero]at H;have S:=zlY Lo Lk limit (by rw[hL];omega) zs (by rw[hL];exact M0);rw[hL]at S;rw[S]at H;have Z0:=Qh H;clear H S gf H0;go_wp2_with fail;go_end0;refine⟨rfl,B1,_,D1,?_,fun k C=>?_⟩
  ·rw[hL,V];exact Z0
  ·simp[Value.ownBlock]at C;subst C;exact U
end
section
open Go.RowKit
theorem zae {w:World} {base size b off n c:Nat} {xs:List Value} (h:zp w base size (.slice (some ⟨b,off,none⟩) n c) n xs) (j:Nat) (hj:j<n*size) :
  w.cell? ⟨b,off+j,none⟩=xs[j]?∧w.frozen? ⟨b,off+j,none⟩=false:=by
 obtain⟨D,h2⟩:=h;rcases h2 with ⟨e,_⟩ | ⟨F,B,E,e,hb,hbs,hnc,hcm,hcells,hxs⟩
 ·simp at e
 ·simp only[Value.slice.injEq,Option.some.injEq,Addr.mk.injEq]at e;obtain⟨⟨rfl,rfl,_⟩,_,rfl⟩:=e;have C:j<c*size:=Nat.lt_of_lt_of_le hj (Nat.mul_le_mul_right _ hnc);refine⟨?_,(hcells j C).2⟩;have A:j<xs.length:=(by rw[D];exact hj);rw[hxs j _ (List.getElem?_eq_getElem A),List.getElem?_eq_getElem A]
theorem zdX (A B:List (Value × Rw)) (x:Value × Rw):zf (A++x::B)=(zf A++[x.1])++.bool x.2.wrap::zf B:=by
 rw[zO,List.append_assoc];rfl
theorem zhE (L:List (Value × Rw)) (k:Nat) (hk:k<L.length) (is:Bool):Za (zf L) (k*2+1) [.bool is]=zf (L.set k (L[k].1,{ L[k].2 with wrap:=is })):=by
 have e:L=L.take k++L[k]::L.drop (k+1):=by
  rw[List.getElem_cons_drop,List.take_append_drop]
 have C:(L.take k).length=k:=(by rw[List.length_take];omega);rw[List.set_eq_take_append_cons_drop,if_pos hk];generalize D:L[k]=x at *;generalize L.take k=A at *;generalize L.drop (k+1)=B at *;rw[e,zdX,zdX,zb5 _ _ _ _ _ (by rw[List.length_append,zL,C];rfl)]
theorem GAt.rewrap {T:Nat→Nat} {p:Nat} {vr vo:Value} {Lr Lo:List (Value × Rw)} {w w':World} {g:Gr} (h:GAt T p vr vo Lr Lo w g) (k:Nat) (hk:k<Lr.length) (is:Bool) (m:Mod T (fun t=>t=2) w w')
  (ho:zp w' 0 2 vr Lr.length (zf (Lr.set k (Lr[k].1,{ Lr[k].2 with wrap:=is })))):GM T p w' { g with rows:=g.rows.set k { g.rows.getD k noR with wrap:=is } }:=by
 have D:g.rows.getD k noR=Lr[k].2:=by
  rw[← h.er,List.getD_eq_getElem?_getD,List.getElem?_map,List.getElem?_eq_getElem hk];rfl
 have C:(Lr.set k (Lr[k].1,{ Lr[k].2 with wrap:=is })).map (·.1.ownBlock)=Lr.map (·.1.ownBlock):=by
  rw[List.map_set];apply List.ext_getElem?;intro j;by_cases hj:j=k
  ·subst hj;rw[List.getElem?_set_self (by simpa using hk),List.getElem?_map,List.getElem?_eq_getElem hk];rfl
  ·rw[List.getElem?_set_ne (fun e=>hj e.symm)]
 refine⟨vr,vo,Lr.set k (Lr[k].1,{ Lr[k].2 with wrap:=is }),Lo,⟨fun k' hk'=>Nat.lt_of_lt_of_le (h.lt k' hk') m.size,?_,h.tp,?_,h.ro.mod m (by decide),?_,h.eo,fun x hx=>?_,?_,?_⟩⟩
 ·exact(m.block p (zq h.blk) (by rw[h.tp];decide)).trans h.blk
 ·rw[List.length_set];exact⟨ho,h.rr.tag⟩
 ·rw[List.map_set,h.er,D]
 ·rcases List.mem_append.1 hx with hx | hx
  ·rcases List.mem_or_eq_of_mem_set hx with hx | rfl
   ·exact(h.ca x (List.mem_append_left _ hx)).mod m (fun q hq=>by omega)
   ·have:=(h.ca Lr[k] (List.mem_append_left _ (List.getElem_mem hk))).mod m (fun q hq=>by omega);exact⟨this.own,this.tag⟩
  ·exact(h.ca x (List.mem_append_right _ hx)).mod m (fun q hq=>by omega)
 ·rw[List.map_append,C,← List.map_append];exact h.nd
 ·have A:=h.wf;refine⟨A.c1,A.c2,?_,?_,A.li,A.ol,fun r hr'=>?_⟩
  ·show 1≤(g.rows.set k _).length;rw[List.length_set];exact A.r1
  ·show(g.rows.set k _).length≤120;rw[List.length_set];exact A.r2
  ·have hr2:r∈g.rows.set k { g.rows.getD k noR with wrap:=is }++g.old:=hr';rcases List.mem_append.1 hr2 with hm | hm
   ·rcases List.mem_or_eq_of_mem_set hm with hm | rfl
    ·exact A.ce r (List.mem_append_left _ hm)
    ·rw[D];have B:Lr[k].2∈g.rows:=(by rw[← h.er];exact List.mem_map_of_mem (List.getElem_mem hk));exact A.ce Lr[k].2 (List.mem_append_left _ B)
   ·exact A.ce r (List.mem_append_right _ hm)
theorem zeE {T:Nat→Nat} {p:Nat} {w:World} {g:Gr} (h:GM T p w g) (y:Int) (is:Bool) :
  Calls prog 183 #[.pointer (some ⟨p,0,none⟩),.int .i64 y,.bool is] w fun e w'=>e=.returned (.tuple #[])∧zh (own T w) w w'∧GM T p w' (g.setWrap y is):=by
 have I:=Qh h;obtain⟨vr,vo,D,Lo,h⟩:=h;obtain⟨c0,c1,Z,c3⟩:=zY h;have M:=Zf underlying112 h.rr.own;have C:=(Zg h).1;by_cases hy:0≤y∧y<(g.rows.length:Int)
 ·obtain⟨k,rfl⟩:∃ k:Nat,y=(k:Int):=⟨y.toNat,by omega⟩;have F:=Qh (show g.setWrap k is={ g with rows:=g.rows.set k { g.rows.getD k noR with wrap:=is } } by
   unfold Gr.setWrap;rw[if_pos hy,Int.toNat_natCast])
  have A:k<D.length:=(by omega);obtain⟨b,B,c,rfl,X,R⟩:=zE h.rr.own (by omega);have S:=Zw (P:=prog) (size:=2) underlying112 zC b B D.length c k A;obtain⟨G,N⟩:=zae h.rr.own (k*2+1) (by omega);rw[zdZ D k A 1 (by decide),← Nat.add_assoc]at G;rw[← Nat.add_assoc]at N;replace G:w.cell? ⟨b,B+k*2+1,none⟩=some (.bool D[k].2.wrap):=G;have J:decide (0≤(k:Int))=true:=Qt (by omega);have U:decide ((k:Int)<(D.length:Int))=true:=Qt (by omega);have Y:decide (k<D.length)=true:=Qt A;have E:=zak h.rr.own (k*2+1) [.bool is] (by simp;omega);rw[zhE D k A]at E;change zp (w.setCell ⟨b,B+(k*2+1),none⟩ (.bool is)) _ _ _ _ _ at E;rw[← Nat.add_assoc]at E;have H:w.grownBy (w.setCell ⟨b,B+k*2+1,none⟩ (.bool is)) (some b):=zx (zo _ _) _ _;have L:T b=2:=h.rr.tag b rfl;have V:=Qh (h.rewrap k A is (Mod.of_gb H (fun q hq=>by injection hq with hq;rw[← hq];exact L)) E);have O:=Qh (show zh (own T w) w (w.setCell ⟨b,B+k*2+1,none⟩ (.bool is)) from zh.of_gb H (fun q hq=>by injection hq with hq;rw[← hq];exact .inl (by rw[L];decide)));clear h E H C hy;generalize D[k].2.wrap=bo at *;go_enter func183,ntmps183;go_wp2_with fail;go_end0;exact⟨rfl,O,by rw[F.out];exact V⟩
 ·have F:=Qh (show g.setWrap y is=g by unfold Gr.setWrap;rw[if_neg hy]);rw[C]at M;clear h;by_cases h0:0≤y
  ·have J:decide (0≤y)=true:=Qt h0;have U:decide (y<(g.rows.length:Int))=false:=Qf (by omega);go_enter func183,ntmps183;go_wp2_with fail;go_end0;exact⟨rfl,zh.refl _ _,by rw[F.out];exact I⟩
  ·have J:decide (0≤y)=false:=Qf h0;go_enter func183,ntmps183;go_wp2_with fail;go_end0;exact⟨rfl,zh.refl _ _,by rw[F.out];exact I⟩
end
section
open Go.RowKit
def Gr.All (g:Gr) (P:Rw→Prop):Prop:=∀ x∈g.old++g.rows,P x
theorem zkA (c r l:Nat) (P:Rw→Prop) (h:P (blankR c plainS)):(Z1 c r l).All P:=fun x hx=>by
 have hx:x∈zW r c plainS:=(by simpa [Z1] using hx);unfold zW at hx;rw[List.eq_of_mem_replicate hx];exact h
theorem zjX {rows:List Rw} {t b n c:Nat} {s:Sty} {x:Rw} (h:x∈zbd rows t b n c s):x∈rows∨x=blankR c s:=by
 unfold zbd zW at h;simp only[List.mem_append]at h;rcases h with ((h | h) | h) | h
 ·exact .inl (List.mem_of_mem_take h)
 ·exact .inl (List.mem_of_mem_drop (List.mem_of_mem_take h))
 ·exact .inr (List.eq_of_mem_replicate h)
 ·exact .inl (List.mem_of_mem_drop h)
theorem zhF {rows:List Rw} {t b n c:Nat} {s:Sty} {x:Rw} (h:x∈Z7 rows t b n c s):x∈rows∨x=blankR c s:=by
 unfold Z7 zW at h;simp only[List.mem_append]at h;rcases h with ((h | h) | h) | h
 ·exact .inl (List.mem_of_mem_take h)
 ·exact .inr (List.eq_of_mem_replicate h)
 ·exact .inl (List.mem_of_mem_drop (List.mem_of_mem_take h))
 ·exact .inl (List.mem_of_mem_drop h)
theorem zo5 {g:Gr} {P:Rw→Prop} (h:g.All P) (t b n:Int) (s:Sty) (k:Bool) (hb:okS s=true→P (blankR g.cols s)):(g.up t b n s k).All P:=by
 unfold Gr.up;split
 ·exact h
 ·rename_i h0;have hs:okS s=true:=by
   cases hs:okS s
   ·refine absurd ?_ h0;unfold zZ;rw[if_pos (.inr (.inr (.inr hs)))]
   ·rfl
  intro x hx;rcases List.mem_append.1 hx with hx | hx
  ·dsimp only at hx;split at hx
   ·unfold zaC at hx;rcases List.mem_append.1 (List.mem_of_mem_drop hx) with hx | hx
    ·exact h x (List.mem_append_left _ hx)
    ·exact h x (List.mem_append_right _ (List.mem_of_mem_drop (List.mem_of_mem_take hx)))
   ·exact h x (List.mem_append_left _ hx)
  ·rcases zjX hx with hx | hx
   ·exact h x (List.mem_append_right _ hx)
   ·rw[hx];exact hb hs
theorem zng {g:Gr} {P:Rw→Prop} (h:g.All P) (t b n:Int) (s:Sty) (hb:okS s=true→P (blankR g.cols s)):(g.down t b n s).All P:=by
 unfold Gr.down;split
 ·exact h
 ·rename_i h0;have hs:okS s=true:=by
   cases hs:okS s
   ·refine absurd ?_ h0;unfold zZ;rw[if_pos (.inr (.inr (.inr hs)))]
   ·rfl
  intro x hx;rcases List.mem_append.1 hx with hx | hx
  ·exact h x (List.mem_append_left _ hx)
  ·rcases zhF hx with hx | hx
   ·exact h x (List.mem_append_right _ hx)
   ·rw[hx];exact hb hs
theorem zeF {g:Gr} {P:Rw→Prop} (h:g.All P) (y:Nat) (f:List Cel→List Cel) (hy:y<g.rows.length) (hf:∀ r,P r→P { r with cells:=f r.cells }):(g.turn y f).All P:=fun x hx=>by
 rcases List.mem_append.1 hx with hx | hx
 ·exact h x (List.mem_append_left _ hx)
 ·rcases List.mem_or_eq_of_mem_set hx with hx | hx
  ·exact h x (List.mem_append_right _ hx)
  ·rw[hx];refine hf _ (h _ (List.mem_append_right _ ?_));rw[List.getD_eq_getElem?_getD,List.getElem?_eq_getElem hy];exact List.getElem_mem _
theorem zg3 {g:Gr} {x y:Int} {q:Cel} (h:g.putOk x y q=true):0≤y∧y<(g.rows.length:Int)∧0≤x∧okS q.sty=true∧1≤q.width∧q.width=wid q.rune∧x+q.width≤(g.cols:Int):=by
 unfold Gr.putOk Gr.onIt at h;simp only[Bool.and_eq_true,decide_eq_true_eq,beq_iff_eq]at h;exact⟨h.1.1,h.1.2.1,h.1.2.2.1,h.1.2.2.2.2,h.2.1,h.2.2.1,h.2.2.2⟩
theorem zgk {l m:List Cel} {x i:Nat} (hx:x+m.length≤l.length):(Za l x m).getD i noC=if x≤i∧i<x+m.length then m.getD (i-x) noC else l.getD i noC:=by
 unfold Za;rw[List.getD_eq_getElem?_getD,List.getD_eq_getElem?_getD,List.getD_eq_getElem?_getD];have A:(l.take x).length=x:=(by rw[List.length_take];omega);by_cases h1:i<x
 ·rw[if_neg (by omega),List.append_assoc,List.getElem?_append_left (by omega),List.getElem?_take,if_pos h1]
 ·by_cases h2:i<x+m.length
  ·rw[if_pos ⟨by omega,h2⟩,List.append_assoc,List.getElem?_append_right (by omega),A,List.getElem?_append_left (by omega)]
  ·rw[if_neg (by omega),List.getElem?_append_right (by rw[List.length_append];omega),List.length_append,A,List.getElem?_drop,show x+m.length+(i-(x+m.length))=i by omega]
theorem zo8 (l:List Cel) (x:Nat) (q:Cel) (i:Nat) (hw:q.width=1∨q.width=2) (hx:(x:Int)+q.width≤(l.length:Int)) :
  (zcY l x q).getD i noC=if i=x then q else if q.width=2∧i=x+1 then ⟨0,0,q.sty⟩ else (zB (zB l x) ((x:Int)+q.width)).getD i noC:=by
 unfold zcY;rcases hw with hw | hw
 ·rw[if_neg (by omega),zgk (by rw[zN,zN];simp;omega)];by_cases h1:i=x
  ·subst h1;rw[if_pos (by simp),if_pos rfl,Nat.sub_self];rfl
  ·rw[if_neg (by simp;omega),if_neg h1,if_neg (by omega)]
 ·rw[if_pos hw,zgk (by rw[zN,zN];simp;omega)];by_cases h1:i=x
  ·subst h1;rw[if_pos (by simp),if_pos rfl,Nat.sub_self];rfl
  ·by_cases h2:i=x+1
   ·subst h2;rw[if_pos (by simp),if_neg h1,if_pos ⟨hw,rfl⟩,show x+1-x=1 by omega];rfl
   ·rw[if_neg (by simp;omega),if_neg h1,if_neg (fun e=>h2 e.2)]
theorem zlZ (l:List Cel) (x:Nat) (q:Cel) (hw:q.width=1∨q.width=2) (hx:(x:Int)+q.width≤(l.length:Int)):(zcY l x q).length=l.length:=by
 unfold zcY;rw[ZV,zN,zN];rw[zN,zN];split
 ·simp;omega
 ·simp;omega
end
section
open Go.RowKit
inductive Wh:List Cel→Prop
 | nil:Wh []
 | one (c:Cel) (l:List Cel):c.width=1→Wh l→Wh (c::l)
 | two (c:Cel) (l:List Cel):c.width=2→Wh l→Wh (c::⟨0,0,c.sty⟩::l)
theorem Wh.app {a b:List Cel} (ha:Wh a) (hb:Wh b):Wh (a++b):=by
 induction ha with
 | nil=>exact hb
 | one c l h _ ih=>exact .one c _ h ih
 | two c l h _ ih=>exact .two c _ h ih
theorem zbo (n:Nat) (s:Sty):Wh (List.replicate n (zM s)):=by
 induction n with
 | zero=>exact .nil
 | succ n ih=>rw[List.replicate_succ];exact .one _ _ rfl ih
theorem zg4 {l:List Cel} (h:Wh l):∀ x,x<l.length→(l.getD x noC).width=1∨((l.getD x noC).width=2∧x+1<l.length∧(l.getD (x+1) noC).width=0) ∨
  ((l.getD x noC).width=0∧0<x∧(l.getD (x-1) noC).width=2∧(l.getD x noC).rune=0∧(l.getD x noC).sty=(l.getD (x-1) noC).sty):=by
 induction h with
 | nil=>intro x A;simp at A
 | one c l h _ ih =>
  intro x A;cases x with
  | zero=>exact .inl h
  | succ x =>
   have hx2:x<l.length:=(by simpa using A);rcases ih x hx2 with e | ⟨e1,e2,e3⟩ | ⟨e1,e2,e3,e4,e5⟩
   ·exact .inl e
   ·exact .inr (.inl ⟨e1,by simpa using e2,e3⟩)
   ·obtain⟨y,rfl⟩:∃ y,x=y+1:=⟨x-1,by omega⟩;exact .inr (.inr ⟨e1,by omega,e3,e4,e5⟩)
 | two c l h _ ih =>
  intro x A
  match x,A with
  | 0,_=>exact .inr (.inl ⟨h,by simp,rfl⟩)
  | 1,_=>exact .inr (.inr ⟨rfl,by omega,h,rfl,rfl⟩)
  | x+2,A =>
   have hx2:x<l.length:=(by simpa using A);rcases ih x hx2 with e | ⟨e1,e2,e3⟩ | ⟨e1,e2,e3,e4,e5⟩
   ·exact .inl e
   ·exact .inr (.inl ⟨e1,by simp only[List.length_cons];omega,e3⟩)
   ·obtain⟨y,rfl⟩:∃ y,x=y+1:=⟨x-1,by omega⟩;exact .inr (.inr ⟨e1,by omega,e3,e4,e5⟩)
def zo6 (l:List Cel) (x:Nat):Prop:=Wh (l.take x)∧Wh (l.drop x)
theorem ziQ {l:List Cel} (h:Wh l):∀ x,x≤l.length→(zo6 l x∧(x<l.length→(l.getD x noC).width≠0)) ∨
  (0<x∧x<l.length∧(l.getD x noC).width=0∧∃ a c b,l=a++[c,⟨0,0,c.sty⟩]++b∧Wh a∧Wh b∧a.length+1=x∧(l.getD x noC).sty=c.sty):=by
 induction h with
 | nil=>intro x hx;simp at hx;subst hx;exact .inl ⟨⟨.nil,.nil⟩,by simp⟩
 | one c l h hl ih =>
  intro x hx;cases x with
  | zero=>exact .inl ⟨⟨.nil,.one c l h hl⟩,fun _=>by show c.width≠0;omega⟩
  | succ x =>
   rcases ih x (by simpa using hx) with ⟨⟨e1,e2⟩,e3⟩ | ⟨e1,e2,e3,a,d,b,e4,ha,hb,e5,e6⟩
   ·exact .inl ⟨⟨.one c _ h e1,e2⟩,fun e=>e3 (by simpa using e)⟩
   ·exact .inr ⟨by omega,by simpa using e2,e3,c::a,d,b,by rw[e4];rfl,.one c a h ha,hb,by rw[List.length_cons];omega,e6⟩
 | two c l h hl ih =>
  intro x hx
  match x,hx with
  | 0,_=>exact .inl ⟨⟨.nil,.two c l h hl⟩,fun _=>by show c.width≠0;omega⟩
  | 1,_=>exact .inr ⟨by omega,by simp,rfl,[],c,l,rfl,.nil,hl,rfl,rfl⟩
  | x+2,hx =>
   rcases ih x (by simpa using hx) with ⟨⟨e1,e2⟩,e3⟩ | ⟨e1,e2,e3,a,d,b,e4,ha,hb,e5,e6⟩
   ·exact .inl ⟨⟨.two c _ h e1,e2⟩,fun e=>e3 (by simpa using e)⟩
   ·exact .inr ⟨by omega,by simpa using e2,e3,c::⟨0,0,c.sty⟩::a,d,b,by rw[e4];rfl,.two c a h ha,hb,by simp only[List.length_cons];omega,e6⟩
theorem zeG {l:List Cel} (h:Wh l) (x:Nat) (hx:x≤l.length):zo6 (zB l x) x:=by
 rcases ziQ h x hx with ⟨e,e2⟩ | ⟨h0,hl,hz,a,c,b,e4,ha,hb,e5,e6⟩
 ·unfold zB;rw[if_neg (fun k=>by
   have:=e2 (by omega);rw[Int.toNat_natCast]at k;exact this k.2.2)]
  exact e
 ·unfold zB;rw[Int.toNat_natCast,if_pos ⟨by omega,by omega,hz⟩,e6];have B:zat l (x-1) 2 c.sty=(a++[zM c.sty])++([zM c.sty]++b):=by
   unfold zat Za;rw[List.length_replicate,e4,show x-1=a.length by omega];simp[List.replicate_succ]
  rw[B];have A:(a++[zM c.sty]).length=x:=(by simp;omega);refine⟨?_,?_⟩
  ·rw[List.take_left' A];exact ha.app (.one _ _ rfl .nil)
  ·rw[List.drop_left' A];exact .one _ _ rfl hb
theorem zon {l:List Cel} {x:Nat} (h:zo6 l x):Wh l:=by
 rw[← List.take_append_drop x l];exact h.1.app h.2
theorem zoo {l:List Cel} (h:Wh l) (x:Int):Wh (zB l x):=by
 by_cases hx:0≤x∧x≤(l.length:Int)
 ·have:=zon (zeG h x.toNat (by omega))
  rwa [show((x.toNat:Nat):Int)=x by omega]at this
 ·unfold zB;rw[if_neg (by omega)];exact h
theorem zjY {a b:List Cel} (hb:Wh b) (y:Nat):zB (a++b) ((a.length+y:Nat):Int)=a++zB b y:=by
 by_cases hy:y<b.length
 ·have A:(a++b).getD (a.length+y) noC=b.getD y noC:=by
   rw[List.getD_eq_getElem?_getD,List.getElem?_append_right (by omega),show a.length+y-a.length=y by omega,List.getD_eq_getElem?_getD]
  unfold zB;rw[Int.toNat_natCast,Int.toNat_natCast,A];by_cases hz:(b.getD y noC).width=0
  ·have B:0<y:=by
    rcases zg4 hb y hy with e | ⟨e,_⟩ | ⟨_,e,_⟩
    ·omega
    ·omega
    ·exact e
   rw[if_pos ⟨by omega,by rw[List.length_append];omega,hz⟩,if_pos ⟨by omega,by omega,hz⟩];unfold zat Za;rw[List.length_replicate,show a.length+y-1=a.length+(y-1) by omega,show a.length+(y-1)+2=a.length+(y-1+2) by omega];rw[List.take_length_add_append,List.drop_length_add_append];simp
  ·rw[if_neg (fun e=>hz e.2.2),if_neg (fun e=>hz e.2.2)]
 ·unfold zB;rw[if_neg (by rw[List.length_append];omega),if_neg (by omega)]
theorem zeH {l:List Cel} (h:Wh l) (x y:Nat) (hy:x+y≤l.length):∃ a b c,zB (zB l x) ((x+y:Nat):Int)=a++b++c∧a.length=x∧b.length=y∧Wh a∧Wh b∧Wh c:=by
 have B:=zeG h x (by omega);have F:=zN l x;generalize zB l x=m at *;have D:(m.take x).length=x:=(by rw[List.length_take];omega);have G:m=m.take x++m.drop x:=(List.take_append_drop x m).symm;have E:zB m ((x+y:Nat):Int)=m.take x++zB (m.drop x) y:=by
  have:=zjY (a:=m.take x) B.2 y;rw[D,List.take_append_drop]at this;exact this
 have C:=zeG B.2 y (by rw[List.length_drop];omega);have A:=zN (m.drop x) y;rw[List.length_drop]at A;generalize zB (m.drop x) y=k at *;refine⟨m.take x,k.take y,k.drop y,?_,D,by rw[List.length_take];omega,B.1,C.1,C.2⟩;rw[E,List.append_assoc,List.take_append_drop]
theorem zdy {α:Type} (a b c m:List α) (h:b.length=m.length):Za (a++b++c) a.length m=a++m++c:=by
 unfold Za;rw[← h,show(a++b++c).drop (a.length+b.length)=c by rw[show a.length+b.length=(a++b).length by rw[List.length_append],List.drop_left],List.append_assoc a b c,List.take_left]
theorem zop {l:List Cel} (h:Wh l) (x:Nat) (q:Cel) (hw:q.width=1∨q.width=2) (hx:(x:Int)+q.width≤(l.length:Int)):Wh (zcY l x q):=by
 unfold zcY;rcases hw with hw | hw
 ·obtain⟨a,b,c,e,D,A,B,E,C⟩:=zeH h x 1 (by omega);rw[hw,show((x:Int)+1)=((x+1:Nat):Int) by omega,e,if_neg (by omega),← D,zdy a b c [q] (by rw[A];rfl)];exact(B.app (.one _ _ hw .nil)).app C
 ·obtain⟨a,b,c,e,D,A,B,E,C⟩:=zeH h x 2 (by omega);rw[hw,show((x:Int)+2)=((x+2:Nat):Int) by omega,e,if_pos rfl,← D,zdy a b c _ (by rw[A];rfl)];exact(B.app (.two _ _ hw .nil)).app C
def zbF (l:List Cel) (x n:Nat) (s:Sty):List Cel:=zat (zB (zB l x) ((x+n:Nat):Int)) x n s
def zdT (l:List Cel) (x n:Nat) (s:Sty):List Cel :=
 (zB (zB l x) ((l.length-n:Nat):Int)).take x++List.replicate n (zM s)++((zB (zB l x) ((l.length-n:Nat):Int)).drop x).take (l.length-n-x)
def zdU (l:List Cel) (x n:Nat) (s:Sty):List Cel :=
 (zB (zB l x) ((x+n:Nat):Int)).take x++(zB (zB l x) ((x+n:Nat):Int)).drop (x+n)++List.replicate n (zM s)
theorem zgl {l:List Cel} {x n:Nat} (s:Sty) (h:x+n≤l.length):(zbF l x n s).length=l.length:=by
 unfold zbF;rw[zdD _ _ _ _ (by rw[zN,zN];exact h),zN,zN]
theorem ziR {l:List Cel} {x n:Nat} (s:Sty) (h:x+n≤l.length):(zdT l x n s).length=l.length:=by
 unfold zdT;simp only[List.length_append,List.length_take,List.length_drop,List.length_replicate,zN];omega
theorem ziS {l:List Cel} {x n:Nat} (s:Sty) (h:x+n≤l.length):(zdU l x n s).length=l.length:=by
 unfold zdU;simp only[List.length_append,List.length_take,List.length_drop,List.length_replicate,zN];omega
theorem zl0 {l:List Cel} (h:Wh l) {x n:Nat} (s:Sty) (hx:x+n≤l.length):Wh (zbF l x n s):=by
 obtain⟨a,b,c,e,D,A,B,E,C⟩:=zeH h x n hx;unfold zbF zat;rw[e,← D,zdy a b c _ (by rw[A,List.length_replicate])];exact(B.app (zbo n s)).app C
theorem zoq {l:List Cel} (h:Wh l) {x n:Nat} (s:Sty) (hx:x+n≤l.length):Wh (zdT l x n s):=by
 obtain⟨a,b,c,e,A,D,B,C,E⟩:=zeH h x (l.length-n-x) (by omega);unfold zdT;rw[show l.length-n=x+(l.length-n-x) by omega,e,List.append_assoc a b c,List.take_left' A,List.drop_left' A,show x+(l.length-n-x)-x=b.length by omega,List.take_left];exact(B.app (zbo n s)).app C
theorem zor {l:List Cel} (h:Wh l) {x n:Nat} (s:Sty) (hx:x+n≤l.length):Wh (zdU l x n s):=by
 obtain⟨a,b,c,e,C,D,A,E,B⟩:=zeH h x n hx;unfold zdU;rw[e,show x+n=(a++b).length by rw[List.length_append];omega,List.drop_left,List.append_assoc a b c,List.take_left' C];exact(A.app B).app (zbo n s)
theorem zhG {r:Rw} (h:Wh r.cells) (cols:Nat):Wh (ZO r cols).cells:=by
 unfold ZO;split
 ·exact h
 ·dsimp only;refine Wh.app ?_ (zbo _ _);by_cases hc:cols≤r.cells.length
  ·exact(zeG h cols hc).1
  ·rw[List.take_of_length_le (by rw[zN];omega)];exact zoo h _
theorem zgm (r:Rw) (cols:Nat):(ZO r cols).cells.length=cols:=by
 unfold ZO;split
 ·rename_i h;exact h.symm
 ·dsimp only;rw[List.length_append,List.length_take,zN,List.length_replicate];omega
theorem zos {l:List Cel} (h:Wh l) (hp:ZI (l.getD (l.length-1) noC)=true) (hne:l≠[]):Wh (l.take (l.length-1)):=by
 have A:0<l.length:=List.length_pos_iff.2 hne;have B:(l.getD (l.length-1) noC).width=1:=by
  unfold ZI at hp;simp only[Bool.and_eq_true,beq_iff_eq]at hp;exact hp.2.1
 rcases ziQ h (l.length-1) (by omega) with ⟨e,_⟩ | ⟨_,_,e,_⟩
 ·exact e.1
 ·omega
theorem znh (n:Nat) (l:List Cel) (mark:Int) (h:Wh l):Wh (ze9 n l mark):=by
 induction n generalizing l with
 | zero=>exact h
 | succ n ih =>
  unfold ze9;split
  ·rename_i hc;exact ih _ (zos h hc.2.2 hc.2.1)
  ·exact h
structure SpW (cols:Nat) (st:Sp):Prop where
 cur:Wh st.cur
 len:st.cur.length≤cols
 done:∀ r∈st.done,Wh r.cells
theorem zg5 {cols:Nat} {mark:Int} {st:Sp} (h:SpW cols st) (i:Nat) (c:Cel) (hc:c.width=1) (h1:1≤cols):SpW cols (za2 cols mark st i c):=by
 unfold za2;rw[if_neg (by omega)];dsimp only;by_cases hf:st.cur.length=cols
 ·simp only[if_pos hf];refine⟨.one _ _ hc .nil,by simpa using h1,fun r hr=>?_⟩;rcases List.mem_append.1 hr with hr | hr
  ·exact h.done r hr
  ·rw[List.mem_singleton]at hr;subst hr;exact h.cur
 ·simp only[if_neg hf];exact⟨h.cur.app (.one _ _ hc .nil),by rw[List.length_append];have:=h.len;simp;omega,h.done⟩
theorem zl1 {cols:Nat} {mark:Int} {st:Sp} (h:SpW cols st) (i j:Nat) (c d:Cel) (hc:c.width=2) (hd:d=⟨0,0,c.sty⟩) (h1:2≤cols):SpW cols (za2 cols mark (za2 cols mark st i c) j d):=by
 have C:∃ u A B,za2 cols mark st i c=⟨A,u++[c],B⟩∧Wh u∧u.length+2≤cols∧∀ r∈A,Wh r.cells:=by
  have G:=h.len;by_cases h3:st.cur.length=cols-1
  ·refine⟨[],st.done++[⟨st.cur++[zM plainS],true⟩],_,by
    unfold za2;rw[if_pos ⟨hc,h3⟩];dsimp only;rw[if_pos (by rw[List.length_append,List.length_singleton];omega),if_pos (by rw[List.length_append,List.length_singleton];omega)],.nil,by simp;omega,fun r hr=>?_⟩
   rcases List.mem_append.1 hr with hr | hr
   ·exact h.done r hr
   ·rw[List.mem_singleton]at hr;subst hr;exact h.cur.app (.one _ _ rfl .nil)
  ·by_cases hf:st.cur.length=cols
   ·refine⟨[],st.done++[⟨st.cur,true⟩],_,by
     unfold za2;rw[if_neg (fun e=>h3 e.2)];dsimp only;rw[if_pos hf,if_pos hf],.nil,by simp;omega,fun r hr=>?_⟩
    rcases List.mem_append.1 hr with hr | hr
    ·exact h.done r hr
    ·rw[List.mem_singleton]at hr;subst hr;exact h.cur
   ·exact⟨st.cur,st.done,_,by
     unfold za2;rw[if_neg (fun e=>h3 e.2)];dsimp only;rw[if_neg hf,if_neg hf],h.cur,by omega,h.done⟩
 obtain⟨u,A,B,e,E,F,D⟩:=C;rw[e];subst hd;unfold za2;rw[if_neg (fun e=>by have:=e.1;dsimp only at this;omega)];dsimp only;rw[if_neg (by rw[List.length_append,List.length_singleton];omega),if_neg (by rw[List.length_append,List.length_singleton];omega)];refine⟨?_,?_,D⟩
 ·rw[List.append_assoc];exact E.app (.two _ _ hc .nil)
 ·rw[List.length_append,List.length_append];simp;omega
theorem zni {cols:Nat} {mark:Int} (h1:1≤cols) {l:List Cel} (hl:Wh l):∀ (st:Sp) (i:Nat),SpW cols st→SpW cols (zbk cols mark st i l):=by
 induction hl with
 | nil=>intro st i h;exact h
 | one c l hc _ ih =>
  intro st i h;refine ih _ (i+1) ?_;unfold ZC;rw[if_neg (fun e=>e.2 hc)];exact zg5 h i c hc h1
 | two c l hc _ ih =>
  intro st i h;refine ih _ (i+1+1) ?_;by_cases hc1:cols=1
  ·unfold ZC;rw[if_pos ⟨hc1,by show(0:Int)≠1;decide⟩,if_pos rfl,if_pos ⟨hc1,by omega⟩,if_neg (by omega)];have A:=zg5 (mark:=mark) h i (zM c.sty) rfl h1;exact⟨A.cur,A.len,A.done⟩
  ·unfold ZC;rw[if_neg (fun e=>hc1 e.1),if_neg (fun e=>hc1 e.1)];exact zl1 h i (i+1) c _ hc rfl (by omega)
theorem znj {cols:Nat} {st:Sp} (h:SpW cols st):∀ r∈zaN cols st,Wh r.cells:=fun r hr=>by
 unfold zaN at hr;rcases List.mem_append.1 hr with hr | hr
 ·exact h.done r hr
 ·rw[List.mem_singleton]at hr;subst hr;exact h.cur.app (zbo _ _)
theorem ziT {l:List Rw} (is:Bool) (hne:l≠[]) (h:∀ r∈l,Wh r.cells):∀ r∈ZK l is,Wh r.cells:=fun r hr=>by
 unfold ZK at hr;rcases List.mem_or_eq_of_mem_set hr with hr | hr
 ·exact h r hr
 ·have hm:l.getD (l.length-1) noR∈l:=by
   have:0<l.length:=List.length_pos_iff.2 hne;rw[List.getD_eq_getElem?_getD,List.getElem?_eq_getElem (by omega)];exact List.getElem_mem _
  have A:=h _ hm;rw[hr];exact A
theorem znk {cols:Nat} (h1:1≤cols) {line:List Cel} (mark:Int) (wrap:Bool) {st:Fl} (hl:Wh line) (h:∀ r∈st.out,Wh r.cells):∀ r∈(zaD cols line mark wrap st).out,Wh r.cells:=fun r hr=>by
 have hr:r∈st.out++ZK (zaN cols (Z2 (zau line mark) cols mark)) wrap:=hr;rcases List.mem_append.1 hr with hr | hr
 ·exact h r hr
 ·refine ziT wrap (by unfold zaN;simp) (znj ?_) r hr;exact zni h1 (znh _ _ _ hl) _ _ ⟨.nil,by simp,by simp⟩
theorem znl {cols:Nat} (h1:1≤cols) (place atx:Int) (l:List Rw) (hl:∀ r∈l,Wh r.cells):∀ (i:Nat) (line:List Cel) (mark:Int) (st:Fl),Wh line→(∀ r∈st.out,Wh r.cells)→∀ r∈(Z8 cols place atx l i line mark st).out,Wh r.cells:=by
 induction l with
 | nil=>intro i line mark st _ h;exact h
 | cons r l ih =>
  intro i line mark st C h;have B:=ih (fun x hx=>hl x (List.mem_cons_of_mem _ hx));have A:=C.app (hl r (List.mem_cons_self ..));unfold Z8;dsimp only;by_cases hc:r.wrap=false∨l=[]
  ·rw[if_pos hc];exact B _ _ _ _ .nil (znk h1 _ _ A h)
  ·rw[if_neg hc];exact B _ _ _ _ A h
theorem zg6 (n:Nat):∀ (l:List Rw) (py:Int) (r:Rw),r∈zbs n l py→r∈l:=by
 induction n with
 | zero=>intro l py r h;exact h
 | succ n ih =>
  intro l py r h;unfold zbs at h;split at h
  ·exact List.mem_of_mem_take (ih _ _ _ h)
  ·exact h
def WhR (r:Rw):Prop:=Wh r.cells
theorem zot {g:Gr} (h:g.All WhR) (cols rows:Nat) (ax ay:Int) (h1:1≤cols):(g.flow cols rows ax ay).1.All WhR:=fun r hr=>by
 unfold Gr.flow at hr;dsimp only at hr;have key:∀ r∈zbs (Z8 cols ((g.old.length:Int)+ay) ax (g.old++g.rows) 0 [] (-1) ⟨[],0,0⟩).out.length (Z8 cols ((g.old.length:Int)+ay) ax (g.old++g.rows) 0 [] (-1) ⟨[],0,0⟩).out (Z8 cols ((g.old.length:Int)+ay) ax (g.old++g.rows) 0 [] (-1) ⟨[],0,0⟩).py,WhR r :=
  fun r hr=>znl h1 _ _ _ h 0 [] (-1) ⟨[],0,0⟩ .nil (by simp) r (zg6 _ _ _ _ hr)
 generalize zbs (Z8 cols ((g.old.length:Int)+ay) ax (g.old++g.rows) 0 [] (-1) ⟨[],0,0⟩).out.length (Z8 cols ((g.old.length:Int)+ay) ax (g.old++g.rows) 0 [] (-1) ⟨[],0,0⟩).out (Z8 cols ((g.old.length:Int)+ay) ax (g.old++g.rows) 0 [] (-1) ⟨[],0,0⟩).py=out at *;rcases List.mem_append.1 hr with hr | hr
 ·unfold zaC at hr;exact key r (List.mem_of_mem_take (List.mem_of_mem_drop hr))
 ·rcases List.mem_append.1 hr with hr | hr
  ·exact key r (List.mem_of_mem_drop (List.mem_of_mem_take hr))
  ·unfold zW at hr;rw[List.eq_of_mem_replicate hr];exact zbo _ _
theorem zl2 {g:Gr} (h:g.All WhR) (cols rows:Nat) (ax ay:Int) (f:Bool) (h1:1≤cols):(g.resize cols rows ax ay f).1.All WhR:=by
 unfold Gr.resize;cases f
 ·rw[if_neg (by decide)];intro r hr;dsimp only at hr;rcases List.mem_append.1 hr with hr | hr
  ·obtain⟨x,A,rfl⟩:=List.mem_map.1 hr;exact zhG (h x (List.mem_append_left _ A)) cols
  ·split at hr
   ·obtain⟨x,A,rfl⟩:=List.mem_map.1 (List.mem_of_mem_take hr);exact zhG (h x (List.mem_append_right _ A)) cols
   ·rcases List.mem_append.1 hr with hr | hr
    ·obtain⟨x,A,rfl⟩:=List.mem_map.1 hr;exact zhG (h x (List.mem_append_right _ A)) cols
    ·unfold zW at hr;rw[List.eq_of_mem_replicate hr];exact zbo _ _
 ·rw[if_pos rfl];exact zot h cols rows _ _ h1
end
section
open Go.RowKit
structure zdz (w:World):Prop where
 sp:Lib.TabBelow prog w.heap.size w "strings.asciiSpace" .u8 Lib.asciiSpaceTab
 pw:Tab prog w
 db:zom w.heap.size w
theorem zdz.below {w w':World} (h:zdz w) (b:Below w.heap.size w w'):zdz w' :=
 ⟨fun w2 h2=>h.sp w2 (b.trans (h2.mono b.size)),zo2 h.pw b,fun w2 h2=>h.db w2 (b.trans (h2.mono b.size))⟩
def zkB:ByteArray:=⟨#[98,108,97,99,107,32,114,101,100,32,103,114,101,101,110,32,121,101,108,108,111,119,32,98,108,117,101,32,109,97,103,101,110,116,97,32,99,121,97,110,32,119,104,105,116,101]⟩
theorem ziU:Lib.fields zkB.data.toList=[[98,108,97,99,107],[114,101,100],[103,114,101,101,110],[121,101,108,108,111,119],[98,108,117,101],[109,97,103,101,110,116,97],[99,121,97,110],[119,104,105,116,101]]:=by decide +kernel
theorem zfv (w:World) (h:zdz w):Calls prog 132 #[.string zkB] w fun e w' =>
  e=.returned (.slice (some ⟨w.heap.size,0,none⟩) 8 8)∧w'=w.alloc (.cells #[.string ⟨#[98,108,97,99,107]⟩,.string ⟨#[114,101,100]⟩,.string ⟨#[103,114,101,101,110]⟩,.string ⟨#[121,101,108,108,111,119]⟩,.string ⟨#[98,108,117,101]⟩,.string ⟨#[109,97,103,101,110,116,97]⟩,.string ⟨#[99,121,97,110]⟩,.string ⟨#[119,104,105,116,101]⟩] 9):=by
 refine(Tryz.strings_Fields zkB w (by decide) (fun j b hb=>?_) h.sp.here).mono ?_
 ·have B:=List.mem_of_getElem? hb;have A:∀ b∈zkB.data.toList,b.toNat<128:=(by decide);exact A b B
 ·rintro e w' ⟨rfl,rfl⟩;rw[ziU];exact⟨rfl,rfl⟩
theorem ziV (c:Int) (hc:-9223372036854775808≤c∧c≤9223372036854775807) (w:World) (ht:zdz w) :
  Calls prog 86 #[.int .i64 c] w fun e w'=>∃ s:ByteArray,e=.returned (.string s)∧(s.size=0↔ZB c=false)∧Below w.heap.size w w':=by
 have E:=Qh ht;clear ht;by_cases h0:c=-1
 ·subst h0;refine(zee w).mono ?_;rintro e C ⟨rfl,rfl⟩;exact⟨_,rfl,by decide,Below.refl _ _⟩
 have T:decide (c=-1)=false:=Qf h0;have J:(c == -1)=false:=(by simp[h0]);by_cases h1:0≤c;rotate_left
 ·have d1:decide (0≤c)=false:=Qf h1;have O:decide (8≤c)=false:=Qf (by omega);have Y:decide (16≤c)=false:=Qf (by omega);have N:decide (16777216≤c)=false:=Qf (by omega);have A:=Qh (show ZB c=false by unfold ZB;rw[Qf (by omega),Qf (by omega)];rfl);go_enter func86,ntmps86;go_wp2_with fail;exact Ze rfl rfl rfl ⟨_,rfl,⟨fun _=>A,fun _=>rfl⟩,Below.refl _ _⟩
 obtain⟨n,rfl⟩:∃ n:Nat,c=(n:Int):=⟨c.toNat,by omega⟩;clear h1 h0;by_cases h2:n<8
 ·have A:=Qh (show ZB (n:Int)=true by unfold ZB;rw[Qt (by omega)];rfl);have HB:=Qh ((Below.refl w.heap.size w).alloc (Nat.le_refl _) (.cells #[.string ⟨#[98,108,97,99,107]⟩,.string ⟨#[114,101,100]⟩,.string ⟨#[103,114,101,101,110]⟩,.string ⟨#[121,101,108,108,111,119]⟩,.string ⟨#[98,108,117,101]⟩,.string ⟨#[109,97,103,101,110,116,97]⟩,.string ⟨#[99,121,97,110]⟩,.string ⟨#[119,104,105,116,101]⟩] 9));rcases (show n=0∨n=1∨n=2∨n=3∨n=4∨n=5∨n=6∨n=7 by omega) with rfl | rfl | rfl | rfl | rfl | rfl | rfl | rfl
  all_goals
   go_enter func86,ntmps86;go_wp2_with fail;refine(zfv w E).mono ?_;rintro e C ⟨rfl,B⟩;subst C;go_wp2_with fail;exact Ze rfl rfl rfl ⟨_,rfl,⟨fun e=>by simp[ByteArray.size]at e,fun e=>by rw[A.out]at e;cases e⟩,HB⟩
 have O:decide ((n:Int)<8)=false:=Qf (by omega);have L:decide (n<8)=false:=Qf h2;by_cases h3:n<16
 ·have A:=Qh (show ZB (n:Int)=true by unfold ZB;rw[Qt (by omega)];rfl);have HB:=Qh ((Below.refl w.heap.size w).alloc (Nat.le_refl _) (.cells #[.string ⟨#[98,108,97,99,107]⟩,.string ⟨#[114,101,100]⟩,.string ⟨#[103,114,101,101,110]⟩,.string ⟨#[121,101,108,108,111,119]⟩,.string ⟨#[98,108,117,101]⟩,.string ⟨#[109,97,103,101,110,116,97]⟩,.string ⟨#[99,121,97,110]⟩,.string ⟨#[119,104,105,116,101]⟩] 9));clear O L T J;rcases (show n=8∨n=9∨n=10∨n=11∨n=12∨n=13∨n=14∨n=15 by omega) with rfl | rfl | rfl | rfl | rfl | rfl | rfl | rfl
  all_goals
   go_enter func86,ntmps86;go_wp2_with fail;refine(zfv w E).mono ?_;rintro e C ⟨rfl,B⟩;subst C;go_wp2_with fail;exact Ze rfl rfl rfl ⟨_,rfl,⟨fun e=>by rw[ByteArray.size_append]at e;simp[ByteArray.size]at e,fun e=>by rw[A.out]at e;cases e⟩,HB⟩
 have Y:decide ((n:Int)<16)=false:=Qf (by omega);have U:decide (n<16)=false:=Qf h3;have e0:decide ((0:Int)≤(n:Int))=true:=Qt (by omega);have e1:decide ((8:Int)≤(n:Int))=true:=Qt (by omega);have X:decide (8≤n)=true:=Qt (by omega);have e2:decide ((16:Int)≤(n:Int))=true:=Qt (by omega);have A0:decide (16≤n)=true:=Qt (by omega);by_cases h4:n<256
 ·have A:=Qh (show ZB (n:Int)=true by unfold ZB;rw[Qt (by omega)];rfl);have N:decide ((n:Int)<256)=true:=Qt (by omega);have G:decide (n<256)=true:=Qt h4;go_enter func86,ntmps86;go_wp2_with fail;refine(Tryz.strconv_Itoa n (by omega) (by omega) w E.pw.here).mono ?_;rintro e C ⟨rfl,k,Z,B⟩;have HB:=Qh (show Below w.heap.size w C by rw[B];exact Lib.below_grow w.heap.size w (Nat.le_refl _) k Z);clear B;have H:(⟨(Lib.itoa (n:Int)).toArray⟩:ByteArray).size≤21:=by
   show(Lib.itoa (n:Int)).toArray.size≤21;rw[List.size_toArray];exact Lib.itoa_length_le (n:Int) (by omega) (by omega)
  generalize (⟨(Lib.itoa (n:Int)).toArray⟩:ByteArray)=F at *;go_wp2_with fail;refine Ze rfl rfl rfl ⟨_,rfl,⟨fun e=>?_,fun e=>by rw[A.out]at e;cases e⟩,HB⟩;rw[ByteArray.size_append]at e;have h9:(⟨#[99,111,108,111,117,114]⟩:ByteArray).size=6:=rfl;omega
 have N:decide ((n:Int)<256)=false:=Qf (by omega);have G:decide (n<256)=false:=Qf h4;by_cases h5:16777216≤n∧n<33554432
 ·have A:=Qh (show ZB (n:Int)=true by unfold ZB;rw[Qf (by omega),Qt (by omega)];rfl);have R:decide ((16777216:Int)≤(n:Int))=true:=Qt (by omega);have D:decide (16777216≤n)=true:=Qt h5.1;have V:decide ((n:Int)<33554432)=true:=Qt (by omega);have I:decide (n<33554432)=true:=Qt h5.2;go_enter func86,ntmps86;go_wp2_with fail;refine(ziJ n h5.1 h5.2 w E.db).mono ?_;rintro e C ⟨l,M,rfl,S⟩;have HB:=Qh S;have H:(⟨l.toArray⟩:ByteArray).size=7:=(by show l.toArray.size=7;simpa using M);clear S M;generalize (⟨l.toArray⟩:ByteArray)=F at *;go_wp2_with fail;exact Ze rfl rfl rfl ⟨_,rfl,⟨fun e=>by rw[ByteArray.size_append]at e;have h9:(⟨#[35]⟩:ByteArray).size=1:=rfl;omega,fun e=>by rw[A.out]at e;cases e⟩,HB⟩
 ·have A:=Qh (show ZB (n:Int)=false by unfold ZB;rw[Qf (by omega),Qf (by omega)];rfl);by_cases h6:16777216≤n
  ·have R:decide ((16777216:Int)≤(n:Int))=true:=Qt (by omega);have D:decide (16777216≤n)=true:=Qt h6;have V:decide ((n:Int)<33554432)=false:=Qf (by omega);have I:decide (n<33554432)=false:=Qf (by omega);go_enter func86,ntmps86;go_wp2_with fail;exact Ze rfl rfl rfl ⟨_,rfl,⟨fun _=>A,fun _=>rfl⟩,Below.refl _ _⟩
  ·have R:decide ((16777216:Int)≤(n:Int))=false:=Qf (by omega);have D:decide (16777216≤n)=false:=Qf h6;go_enter func86,ntmps86;go_wp2_with fail;exact Ze rfl rfl rfl ⟨_,rfl,⟨fun _=>A,fun _=>rfl⟩,Below.refl _ _⟩
theorem ziW {s:ByteArray} (h:s.size=0):s=⟨#[]⟩:=by
 obtain⟨d⟩:=s;congr 1;exact Array.eq_empty_of_size_eq_zero h
theorem zoB {s:ByteArray} (h:s.size≠0):(!s.toList.isEmpty)=true:=by
 rw[ByteArray.toList_eq];have:s.data.toList.length=s.size:=(by rw[Array.length_toList];rfl);cases hl:s.data.toList with
 | nil=>rw[hl]at this;simp at this;omega
 | cons x l=>rfl
theorem ze5 (s:Sty) (w0:World) (ht:zdz w0) (h1:-9223372036854775808≤s.fg∧s.fg≤9223372036854775807) (h2:-9223372036854775808≤s.bg∧s.bg≤9223372036854775807):ZU w0 s:=by
 intro w N;obtain⟨f,b,A⟩:=s;dsimp only at h1 h2;have F:=Qh ((Below.refl w.heap.size w).alloc (Nat.le_refl _) (.cells #[.int .i64 f,.int .i64 b,.int .i64 A] 49));have L:=Qh (zH w (.cells #[.int .i64 f,.int .i64 b,.int .i64 A] 49));have M:=Qh ((ht.below N).below F);unfold Sty.val;dsimp only;clear ht N;go_enter func34,ntmps34;go_wp2_with fail;refine(ziV f h1 _ M).mono ?_;rintro e Y ⟨Z,rfl,E,R⟩;have H:=Qh (F.trans (R.mono F.size));have G:=Qh (zr L R (zq L));have S:=Qh (M.below R);clear R;by_cases hf:ZB f=true;rotate_left
 ·have J:ZB f=false:=(by simpa using hf);obtain rfl:=ziW (E.2 J);have HE:=Qh (show okS ⟨f,b,A⟩=false by unfold okS;rw[J];rfl);clear E hf J;go_wp2_with fail;go_ret;exact⟨by rw[HE.out];rfl,H⟩
 have n1:=zoB (s:=Z) (fun e=>by rw[E.1 e]at hf;cases hf);have HF:=Qh hf;have x1:Y.cell? ⟨w.heap.size,1,none⟩=some (.int .i64 b):=za G 1;clear E hf;go_wp2_with fail;refine(ziV b h2 _ S).mono ?_;rintro e X ⟨V,rfl,D,T⟩;have C:=Qh (H.trans (T.mono H.size));have x2:X.cell? ⟨w.heap.size,2,none⟩=some (.int .i64 A):=za (zr G T (zq G)) 2;clear T;by_cases hb:ZB b=true;rotate_left
 ·have I:ZB b=false:=(by simpa using hb);obtain rfl:=ziW (D.2 I);have HE:=Qh (show okS ⟨f,b,A⟩=false by unfold okS;rw[HF.out,I];rfl);clear D hb I;go_wp2_with fail;go_ret;exact⟨by rw[HE.out];rfl,C⟩
 have m1:=zoB (s:=V) (fun e=>by rw[D.1 e]at hb;cases hb);have HE:=Qh (show okS ⟨f,b,A⟩=(decide (0≤A) && decide (A≤255)) by unfold okS;rw[HF.out,hb];rfl);clear D hb;by_cases h0:0≤A
 ·have O:decide (0≤A)=true:=Qt h0;by_cases h3:A≤255
  ·have U:decide (A≤255)=true:=Qt h3;have B:=Qh (HE.trans (by rw[O,U];rfl:_=true));go_wp2_with fail;go_ret;exact⟨by rw[B.out];rfl,C⟩
  ·have U:decide (A≤255)=false:=Qf h3;have B:=Qh (HE.trans (by rw[O,U];rfl:_=false));go_wp2_with fail;go_ret;exact⟨by rw[B.out];rfl,C⟩
 ·have O:decide (0≤A)=false:=Qf h0;have B:=Qh (HE.trans (by rw[O];rfl:_=false));go_wp2_with fail;go_ret;exact⟨by rw[B.out];rfl,C⟩
end
end Go.Proofs.YthehkmopdeebmaaGreatDoor
