/- Part. -/
import Derived.Test.YthehkmopdeebmaaGreatDoorY5
import Derived.Test.YthehkmopdeebmaaGreatDoorY6
set_option linter.unusedVariables false
set_option linter.unusedSimpArgs false
set_option maxRecDepth 100000
set_option maxHeartbeats 4000000
namespace Go.Proofs.YthehkmopdeebmaaGreatDoor
open _root_.Go.Proofs.Tryz
section
open Go.RowKit
attribute [local go_sem ↓] Go.wp_at_zero Go.wp_at_succ
theorem Zj.snoc {B:Nat} {w w2 w3:World} {v v' xv:Value} {xr:Rw} {L:List (Value × Rw)} {q:Nat} (h:Zj B w v L) (b:Below w.heap.size w w2) (hxo:zp w2 w.heap.size 5 xv xr.cells.length (zt xr.cells)) (hxb:xv.ownBlock=some q)
  (o3:zp w3 B 2 v' (L.length+1) (zf L++[xv,.bool xr.wrap])) (g:w2.grownBy w3 v.ownBlock) (hn:∀ k,v'.ownBlock=some k→v.ownBlock=some k∨w2.heap.size≤k) (hB:B≤w.heap.size):Zj B w3 v' (L++[(xv,xr)]):=by
 have hq:=zg hxo q hxb;have H:=b.size;refine⟨?_,fun x hx=>?_,?_,fun x hx=>?_⟩
 ·rw[List.length_append,zO];exact o3
 ·rcases List.mem_append.1 hx with hx | hx
  ·refine zi (zk (h.cells x hx) b) g (fun k A e=>?_);obtain⟨D,E,F⟩:=h.ap x hx;rw[E]at A;injection A with A;exact F (by rw[e,A])
  ·rw[List.mem_singleton]at hx;subst hx;refine zP (zi hxo g (fun k A e=>?_)) hB;have:=(zg h.own k e).2;dsimp only at A;rw[hxb]at A;injection A with A;omega
 ·rw[List.map_append,List.nodup_append];refine⟨h.nd,by simp,fun a ha c hc e=>?_⟩;obtain⟨x,hx,rfl⟩:=List.mem_map.1 ha;simp only[List.map_cons,List.map_nil,List.mem_singleton]at hc;subst hc;have:=(zg (h.cells x hx) q (by rw[e,hxb])).2;omega
 ·rcases List.mem_append.1 hx with hx | hx
  ·obtain⟨D,E,F⟩:=h.ap x hx;refine⟨D,E,fun e=>?_⟩;have G:=(zg (h.cells x hx) D E).2;rcases hn D e with C | C
   ·exact F C
   ·omega
  ·rw[List.mem_singleton]at hx;subst hx;refine⟨q,hxb,fun e=>?_⟩;rcases hn q e with C | C
   ·have:=(zg h.own q C).2;omega
   ·omega
theorem Zj.nil (B:Nat) (w:World):Zj B w (.slice none 0 0) []:=⟨Zy _ _ _,fun x hx=>by simp at hx,by simp,fun x hx=>by simp at hx⟩
theorem Zj.below {B:Nat} {w w':World} {v:Value} {L:List (Value × Rw)} (h:Zj B w v L) (b:Below w.heap.size w w'):Zj B w' v L :=
 ⟨zk h.own b,fun x hx=>zk (h.cells x hx) b,h.nd,h.ap⟩
theorem Zj.grown {B:Nat} {w w':World} {v:Value} {L:List (Value × Rw)} {row:Option Nat} (h:Zj B w v L) (g:w.grownBy w' row) (hr:∀ k,row=some k→k<B):Zj B w' v L :=
 ⟨zi h.own g (fun k hk e=>by have:=(zg h.own k hk).1;have:=hr k e;omega),fun x hx=>zi (h.cells x hx) g (fun k hk e=>by have:=(zg (h.cells x hx) k hk).1;have:=hr k e;omega),h.nd,h.ap⟩
theorem ze4 (w:World) (v:Value) (b:Bool) (T:TypeId):zaB (w.alloc (.cells #[v,.bool b] T)) 2 (.slice (some ⟨w.heap.size,0,none⟩) 1 1) 1 [v,.bool b]:=by
 refine .inr ⟨⟨w.heap.size,0,none⟩,1,rfl,rfl,fun j u hu=>?_⟩;rw[zbb,Nat.zero_add,World.cell?_alloc_new];simpa using hu
theorem zeC (a:Option Addr) (n c:Nat) (b:Bool):∀ u∈[Value.slice a n c,Value.bool b],u.oneCell'=true:=by
 intro u hu;simp only[List.mem_cons,List.not_mem_nil,or_false]at hu;rcases hu with rfl | rfl <;> rfl
theorem zlX {T:Nat→Nat} {p:Nat} {w:World} {g:Gr} (h:GM T p w g) :
  Calls prog 60 #[.pointer (some ⟨p,0,none⟩)] w fun e w'=>∃ p' T',e=.returned (.pointer (some ⟨p',0,none⟩))∧Below w.heap.size w w'∧GM T' p' w' g∧∀ k,T' k≠0→w.heap.size≤k:=by
 obtain⟨vr,vo,Lr,Lo,h0⟩:=h;obtain⟨c0,c1,c2,c3⟩:=zY h0;have HG:=Qh h0;have wf:=h0.wf;have Z2:=(Zg h0).1;have D3:=(Zg h0).2;have w1:=wf.r2;have w2:=wf.ol;have B:=wf.li;have w4:=wf.c2;have w5:=wf.c1;have B2:=h0.rr.own;have L2:=h0.ro.own;have O3:=zq h0.blk;have M3:Lr.length≤2000:=(by omega);have T3:Lo.length≤2000:=(by omega);have R2:=Qh (show ∀ x∈Lr++Lo,x.2.cells.length=g.cols from fun x hx=>by
  refine(wf.ce x.2 ?_).1;rcases List.mem_append.1 hx with hx | hx
  ·exact List.mem_append_left _ (by rw[← h0.er];exact List.mem_map_of_mem hx)
  ·exact List.mem_append_right _ (by rw[← h0.eo];exact List.mem_map_of_mem hx))
 clear h0 Z2 D3 wf;obtain⟨ra,rc,rfl⟩:=zK B2;obtain⟨oa,oc,rfl⟩:=zK L2;have N3:=Zf underlying112 B2;have U3:=Zf underlying112 L2;clear B2 L2;have B3:=Qh (zH w (.cells #[.int .i64 g.cols,.int .i64 g.limit,.slice none 0 0,.slice none 0 0] 114));have T2:=Qh (Below.alloc (Below.refl w.heap.size w) (Nat.le_refl _) (.cells #[.int .i64 g.cols,.int .i64 g.limit,.slice none 0 0,.slice none 0 0] 114));go_enter func60,ntmps60;go_upto_region 1 with fail
 go_still_tail 9,(by kernel_rfl)
 change wpList _ _ _ _ _ w.drew;go_upto_region 3 with fail;have S1:=Qh (show((w.alloc (.cells #[.int .i64 g.cols,.int .i64 g.limit,.slice none 0 0,.slice none 0 0] 114)).drew).heap[w.heap.size]?=some (.cells #[.int .i64 g.cols,.int .i64 g.limit,.slice none 0 0,.slice none 0 0] 114) from zH w _);have T1:=Qh (show Below w.heap.size w ((w.alloc (.cells #[.int .i64 g.cols,.int .i64 g.limit,.slice none 0 0,.slice none 0 0] 114)).drew) from T2.out.drew);have H3:((w.alloc (.cells #[.int .i64 g.cols,.int .i64 g.limit,.slice none 0 0,.slice none 0 0] 114)).drew).heap.size=w.heap.size+1:=(by show(w.alloc _).heap.size=_;simp);generalize (w.alloc (.cells #[.int .i64 g.cols,.int .i64 g.limit,.slice none 0 0,.slice none 0 0] 114)).drew=W0 at *;clear B3 T2;have O0:=Qh (HG.mod (.of_below T1) id id id (fun _=>id))
 go_loopw [5,23] (fun _ iv wr=>∃ (k:Nat) (L:List (Value × Rw)) (v:Value),k≤Lr.length∧iv=.int .i64 k∧Hid (L.length=k)∧Hid (W0.grownBy wr (some w.heap.size))∧Hid (Zj W0.heap.size wr v L)∧Hid (wr.heap[w.heap.size]?=some (.cells #[.int .i64 g.cols,.int .i64 g.limit,v,.slice none 0 0] 114 (0,0)))∧Hid (L.map (·.2)=(Lr.map (·.2)).take k)) (fun _ iv _=>Lr.length-(intOf iv).toNat)
 case atStart =>
  exact⟨0,[],.slice none 0 0,Nat.zero_le _,rfl,rfl,zo _ _,Zj.nil _ _,S1,by simp[Hid]⟩
 case round =>
  obtain⟨k,L,v,hk,rfl,HL,E,A,E0,N0⟩:=hrel;by_cases hlt:k<Lr.length
  ·have d1:decide ((k:Int)<(Lr.length:Int))=true:=Qt (by omega);have F1:decide (k<Lr.length)=true:=Qt hlt;have G1:=E.out.size;have Y1:=Qh (O0.rr.own);have Z0:=Qh (zi Y1 E (fun q hq e=>by have:=(zg HG.rr.own q hq).2;injection e with e;omega));have L0:=Qh (zi (O0.ca Lr[k] (List.mem_append_left _ (List.getElem_mem hlt))).own E (fun q hq e=>by have:=(zg (HG.ca Lr[k] (List.mem_append_left _ (List.getElem_mem hlt))).own q hq).2;injection e with e;omega));obtain⟨qx,H0,M2⟩:=(O0.ca Lr[k] (List.mem_append_left _ (List.getElem_mem hlt))).tag;have Y:Lr[k].2.cells.length=g.cols:=R2.out _ (List.mem_append_left _ (List.getElem_mem hlt));have E1:(Lr.map (·.2)).take (k+1)=(Lr.map (·.2)).take k++[Lr[k].2]:=by
    rw[List.take_add_one,List.getElem?_map,List.getElem?_eq_getElem hlt];rfl
   obtain⟨sb,I1,sc,X0,Y2,V2⟩:=zE Z0 (by omega);simp only[Value.slice.injEq]at X0;obtain⟨rfl,_,rfl⟩:=X0;obtain⟨r0,r1⟩:=zaJ Z0 k hlt;have C2:=Zw (P:=prog) (size:=2) underlying112 zC sb I1 Lr.length rc k hlt;have O1:=Qh E1;clear E1;generalize Lr[k]=x at *;obtain⟨xv,xr⟩:=x;dsimp only at r0 r1 Y H0 L0 O1;obtain⟨U,V,rfl⟩:=zK L0;rw[Y]at r0 H0;have I2:w.heap.size<wr.heap.size:=zq E0;have J2:=Qh (Below.alloc (Below.refl wr.heap.size wr) (Nat.le_refl _) (.cells #[.slice none 0 0,.bool false] 144));have HZ:=Qh (zH wr (.cells #[.slice none 0 0,.bool false] 144));have q0:=World.cell?_alloc_new wr #[.slice none 0 0,.bool false] 144 0;have q1:=World.cell?_alloc_new wr #[.slice none 0 0,.bool false] 144 1;have M1:=run_storeVar_row (P:=prog) (wr.alloc (.cells #[.slice none 0 0,.bool false] 144)) wr.heap.size 144 144 _ #[.slice U g.cols V,.bool xr.wrap] HZ zC rfl (by simp[Value.oneCell']);have D1:=Zz (cells:=#[.slice U g.cols V,.bool xr.wrap]) HZ;have C1:=zbA J2 (g:=wr.heap.size) (Nat.le_refl _) #[.slice U g.cols V,.bool xr.wrap];go_upto_region 5 with (refine zF rfl _ _ _ rfl M1 rfl rfl ?_)
   try simp only[Act.put]
   have A0:=Qh D1;have N:=Qh C1;clear D1 C1 M1 r0 r1 C2 q0 q1;generalize (wr.alloc (.cells #[.slice none 0 0,.bool false] 144)).setRow wr.heap.size #[.slice U g.cols V,.bool xr.wrap]=B at *;obtain⟨va,vc,rfl⟩:=zK A.own;have E3:=N.out.size;have S2:wr.heap.size<B.heap.size:=zq A0;have J1:=Qh (show zp B.drew 0 5 (.slice U g.cols V) xr.cells.length (zt xr.cells) by
    rw[← Y];exact zk L0 (show Below wr.heap.size wr B.drew from N.out.drew))
   have N1:=Qh (show zp B.drew W0.heap.size 2 (.slice va L.length vc) L.length (zf L) from zk A.own (show Below wr.heap.size wr B.drew from N.out.drew));have F0:=Qh (show B.drew.heap[w.heap.size]?=some (.cells #[.int .i64 g.cols,.int .i64 g.limit,.slice va L.length vc,.slice none 0 0] 114 (0,0)) from zr E0 N.drew I2);have E2:=Qh (show B.drew.heap[wr.heap.size]?=some (.cells #[.slice U g.cols V,.bool xr.wrap] 144 (0,0)) from A0.out);have X:B.cell? ⟨wr.heap.size,0,none⟩=some (.slice U g.cols V):=za A0 0;have O:B.cell? ⟨wr.heap.size,1,none⟩=some (.bool xr.wrap):=za A0 1;have I:B.drew.cell? ⟨w.heap.size,2,none⟩=some (.slice va L.length vc):=za F0 2;have S0:w.heap.size≠wr.heap.size:=(by omega);have N2:B.drew.heap.size=B.heap.size:=rfl;have D2:=Qh Y;have A2:xr.cells.length≤100000:=(by omega);have F3:L.length≤2000:=(by have:=HL.out;omega);have B0:W0.heap.size≤wr.heap.size:=G1;clear Y d1 F1;refine zJ (c:=15) (S:=(fun bb w'=>(w'.cell? ⟨wr.heap.size,0,none⟩=some (.slice U g.cols V)∧w'.cell? ⟨wr.heap.size,1,none⟩=some (.bool xr.wrap))∧(bb=false→w'.cell? ⟨w.heap.size,2,none⟩=some (.slice va L.length vc)))) (by kernel_rfl) (⟨⟨X,O⟩,fun _=>I⟩) (fun _=>?_);refine zb false 0 (⟨⟨X,O⟩,fun _=>I⟩) ?_;refine zb false 1 (⟨⟨X,O⟩,fun _=>I⟩) ?_;refine zb false 2 (⟨⟨X,O⟩,fun _=>I⟩) ?_;refine zb false 3 (⟨⟨X,O⟩,fun _=>I⟩) ?_;refine Zh 4 (⟨⟨X,O⟩,fun _=>I⟩) ?_;refine zb false 5 (⟨⟨X,O⟩,fun _=>I⟩) ?_;refine zb false 6 (⟨⟨X,O⟩,fun _=>I⟩) ?_;refine zb false 8 (⟨⟨X,O⟩,fun _=>I⟩) ?_;refine zb false 9 (⟨⟨X,O⟩,fun _=>I⟩) ?_;refine zj false 7 fun K hK=>?_;refine ze rfl ?_;go_wp2_with fail;refine(zed xr.cells (.slice U g.cols V) B.drew J1 A2).mono ?_;rintro e w6 ⟨v6,rfl,b6,o6⟩;have C:=zr F0 b6 (show w.heap.size<B.heap.size by omega);have D:=zr E2 b6 (show wr.heap.size<B.heap.size by omega);obtain⟨I0,J0,rfl⟩:=zK o6;have z0:w6.cell? ⟨wr.heap.size,0,none⟩=some (.slice U g.cols V):=za D 0;have z1:w6.cell? ⟨wr.heap.size,1,none⟩=some (.bool xr.wrap):=za D 1;have z2:w6.cell? ⟨w.heap.size,2,none⟩=some (.slice va L.length vc):=za C 2;have z3:∀ o,(w6.alloc o).cell? ⟨w.heap.size,2,none⟩=some (.slice va L.length vc):=fun o=>za (zI C o) 2;have Z:=Qh b6;have V0:=Qh o6;have R0:=Qh C;have R:=Qh D;refine hK.out _ _ (⟨⟨z0,z1⟩,fun _=>z2⟩) (fun _=>?_);clear hK K b6 o6 C D
   try simp only[Act.put,List.setIfInBounds_toArray,List.set_cons_zero,List.set_cons_succ]
   refine zb false 10 (⟨⟨z0,z1⟩,fun _=>z2⟩) ?_;refine zj false 11 fun K hK=>?_;refine ze rfl ?_;go_wp2_with fail;refine hK.out _ _ (⟨⟨za (zI R _) 0,za (zI R _) 1⟩,fun _=>z3 _⟩) (fun _=>?_);clear hK K
   try simp only[Act.put,List.setIfInBounds_toArray,List.set_cons_zero,List.set_cons_succ]
   refine zj false 12 fun K hK=>?_;apply zap zaH
   case hgd=>rfl
   case ho=>rfl
   case hown=>exact zG (zk N1 Z) _
   case hs=>rfl
   case hr=>exact Z4 underlying112 (ze4 _ _ _ _) (zeC _ _ _ _)
   case hx=>rfl
   case h63=>unfold maxLen;omega
   case hbytes=>omega
   case hbase=>(have:=Z.out.size;simp;(try (show _≤B.heap.size+1;omega));omega)
   intro v7 w7 o7 g7 n7;have G:=zl (zI R0 _) g7 (fun e=>by have:=(zg A.own w.heap.size e.symm).1;omega);have F:=zl (zI R _) g7 (fun e=>by have:=(zg A.own wr.heap.size e.symm).2;omega);have y0:w7.cell? ⟨wr.heap.size,0,none⟩=some (.slice U g.cols V):=za F 0;have y1:w7.cell? ⟨wr.heap.size,1,none⟩=some (.bool xr.wrap):=za F 1;have y2:w7.cell? ⟨w.heap.size,2,none⟩=some (.slice va L.length vc):=za G 2;have y3:w7.frozen? ⟨w.heap.size,2,none⟩=false:=zA G 2;obtain⟨M,J,rfl⟩:=zK o7;have U0:=Qh G;have Z1:=Qh o7;have L1:=Qh g7;have F2:=Qh n7;have G0:=Qh F;refine hK.out _ _ (⟨⟨y0,y1⟩,fun _=>y2⟩) (fun _=>?_);clear hK K G F o7 g7 n7
   try simp only[Act.put,List.setIfInBounds_toArray,List.set_cons_zero,List.set_cons_succ]
   refine zb false 13 (⟨⟨y0,y1⟩,fun _=>y2⟩) ?_;refine zb false 14 (⟨⟨y0,y1⟩,fun _=>y2⟩) ?_;refine zj true 15 fun K hK=>?_;refine ze rfl ?_;go_wp2_with fail;refine hK.out _ _ (⟨⟨za (Zp G0 S0.symm _ _) 0,za (Zp G0 S0.symm _ _) 1⟩,fun e=>by cases e⟩) (fun _=>?_);clear hK K
   try simp only[Act.put]
   refine zD (by kernel_rfl) ?_ _;have A3:=Z.out.size;have C0:=Qh (show Below wr.heap.size wr (w6.alloc (.cells #[.slice I0 xr.cells.length J0,.bool xr.wrap] 144)) from
    ((N.drew.trans (Z.mono (by omega))).alloc (by omega) _))
   obtain⟨qb,X1⟩:∃ q,(Value.slice I0 xr.cells.length J0).ownBlock=some q:=by
    obtain⟨b,G3,c,e,_,_⟩:=zE V0 (by rw[D2.out];omega);exact⟨b,by rw[e];rfl⟩
   have B1:=Qh (A.snoc (xr:=xr) C0 (zP (zG V0 _) (by omega)) X1 Z1 L1 F2 B0);have Y0:=Qh (show W0.grownBy w7 (some w.heap.size) from Zs (zaA E C0 B0) L1 (fun q hq=>(zg A.own q hq).1));have X2:w.heap.size<W0.heap.size:=zq S1;have H1:=Qh (B1.grown (zx (zo w7 (some w.heap.size)) 2 (.slice M (L.length+1) J)) (fun k' H=>by injection H with H;omega));have A1:=Qh (zx Y0 2 (.slice M (L.length+1) J));have T0:=Qh (zz U0 2 (.slice M (L.length+1) J));clear y0 y1 y2 y3 z0 z1 z2 z3 X O I;generalize w7.setCell ⟨w.heap.size,2,none⟩ (.slice M (L.length+1) J)=w8 at *;go_wp2_with fail;go_roundw
   case rel=>exact⟨k+1,L++[(.slice I0 xr.cells.length J0,xr)],.slice M (L.length+1) J,by omega,by go_num,by show _=_;rw[List.length_append,HL.out];rfl,A1,H1,T0,by show _=_;rw[List.map_append,N0.out,O1.out];rfl⟩
   case measure=>simp[intOf];omega
  ·have H2:k=Lr.length:=(by omega);subst H2;have d1:decide ((Lr.length:Int)<(Lr.length:Int))=false:=Qf (by omega);have F1:decide (Lr.length<Lr.length)=false:=Qf (by omega);have S3:=HL;have O2:=N0;have M0:=E;have D0:=A;have V1:=E0;clear HL N0 E A E0;obtain⟨na,nc,rfl⟩:=zK D0.own;have I3:p≠w.heap.size:=(by omega);have C3:=Qh (zl O0.blk M0 (by intro e;injection e with e;omega));have t3:wr.cell? ⟨p,3,none⟩=some (.slice oa Lo.length oc):=za C3 3;have tq:T w.heap.size=0:=by
    by_cases h0:T w.heap.size=0
    ·exact h0
    ·have:=HG.out.lt _ h0;omega
   have G2:=Qh (O0.mod (Mod.of_gb (t:=fun t=>t=0) M0 (fun k hk=>by injection hk with hk;rw[← hk];exact tq)) (by decide) (by decide) (by decide) (fun k=>by omega));have L3:=M0.out.size;generalize L=Ln at *;generalize wr=W1 at *;go_upto_region 8 with fail
   go_loopw [7,48] (fun _ iv wr=>∃ (k:Nat) (L:List (Value × Rw)) (v:Value),k≤Lo.length∧iv=.int .i64 k∧Hid (L.length=k)∧Hid (W1.grownBy wr (some w.heap.size))∧Hid (Zj W1.heap.size wr v L)∧Hid (wr.heap[w.heap.size]?=some (.cells #[.int .i64 g.cols,.int .i64 g.limit,.slice na Ln.length nc,v] 114 (0,0)))∧Hid (L.map (·.2)=(Lo.map (·.2)).take k)) (fun _ iv _=>Lo.length-(intOf iv).toNat)
   case atStart =>
    exact⟨0,[],.slice none 0 0,Nat.zero_le _,rfl,rfl,zo _ _,Zj.nil _ _,V1,by simp[Hid]⟩
   case round =>
    obtain⟨k,L,v,hk,rfl,HL,E,A,E0,N0⟩:=hrel;by_cases hlt:k<Lo.length
    ·have d1:decide ((k:Int)<(Lo.length:Int))=true:=Qt (by omega);have F1:decide (k<Lo.length)=true:=Qt hlt;have G1:=E.out.size;have Y1:=Qh (G2.ro.own);have Z0:=Qh (zi Y1 E (fun q hq e=>by have:=(zg HG.ro.own q hq).2;injection e with e;omega));have L0:=Qh (zi (G2.ca Lo[k] (List.mem_append_right _ (List.getElem_mem hlt))).own E (fun q hq e=>by have:=(zg (HG.ca Lo[k] (List.mem_append_right _ (List.getElem_mem hlt))).own q hq).2;injection e with e;omega));obtain⟨qx,H0,M2⟩:=(G2.ca Lo[k] (List.mem_append_right _ (List.getElem_mem hlt))).tag;have Y:Lo[k].2.cells.length=g.cols:=R2.out _ (List.mem_append_right _ (List.getElem_mem hlt));have E1:(Lo.map (·.2)).take (k+1)=(Lo.map (·.2)).take k++[Lo[k].2]:=by
      rw[List.take_add_one,List.getElem?_map,List.getElem?_eq_getElem hlt];rfl
     obtain⟨sb,I1,sc,X0,Y2,V2⟩:=zE Z0 (by omega);simp only[Value.slice.injEq]at X0;obtain⟨rfl,_,rfl⟩:=X0;obtain⟨r0,r1⟩:=zaJ Z0 k hlt;have C2:=Zw (P:=prog) (size:=2) underlying112 zC sb I1 Lo.length oc k hlt;have O1:=Qh E1;clear E1;generalize Lo[k]=x at *;obtain⟨xv,xr⟩:=x;dsimp only at r0 r1 Y H0 L0 O1;obtain⟨U,V,rfl⟩:=zK L0;rw[Y]at r0 H0;have I2:w.heap.size<wr.heap.size:=zq E0;have J2:=Qh (Below.alloc (Below.refl wr.heap.size wr) (Nat.le_refl _) (.cells #[.slice none 0 0,.bool false] 144));have HZ:=Qh (zH wr (.cells #[.slice none 0 0,.bool false] 144));have q0:=World.cell?_alloc_new wr #[.slice none 0 0,.bool false] 144 0;have q1:=World.cell?_alloc_new wr #[.slice none 0 0,.bool false] 144 1;have M1:=run_storeVar_row (P:=prog) (wr.alloc (.cells #[.slice none 0 0,.bool false] 144)) wr.heap.size 144 144 _ #[.slice U g.cols V,.bool xr.wrap] HZ zC rfl (by simp[Value.oneCell']);have D1:=Zz (cells:=#[.slice U g.cols V,.bool xr.wrap]) HZ;have C1:=zbA J2 (g:=wr.heap.size) (Nat.le_refl _) #[.slice U g.cols V,.bool xr.wrap];go_upto_region 10 with (refine zF rfl _ _ _ rfl M1 rfl rfl ?_)
     try simp only[Act.put]
     have A0:=Qh D1;have N:=Qh C1;clear D1 C1 M1 r0 r1 C2 q0 q1;generalize (wr.alloc (.cells #[.slice none 0 0,.bool false] 144)).setRow wr.heap.size #[.slice U g.cols V,.bool xr.wrap]=B at *;obtain⟨va,vc,rfl⟩:=zK A.own;have E3:=N.out.size;have S2:wr.heap.size<B.heap.size:=zq A0;have J1:=Qh (show zp B.drew 0 5 (.slice U g.cols V) xr.cells.length (zt xr.cells) by
      rw[← Y];exact zk L0 (show Below wr.heap.size wr B.drew from N.out.drew))
     have N1:=Qh (show zp B.drew W1.heap.size 2 (.slice va L.length vc) L.length (zf L) from zk A.own (show Below wr.heap.size wr B.drew from N.out.drew));have F0:=Qh (show B.drew.heap[w.heap.size]?=some (.cells #[.int .i64 g.cols,.int .i64 g.limit,.slice na Ln.length nc,.slice va L.length vc] 114 (0,0)) from zr E0 N.drew I2);have E2:=Qh (show B.drew.heap[wr.heap.size]?=some (.cells #[.slice U g.cols V,.bool xr.wrap] 144 (0,0)) from A0.out);have X:B.cell? ⟨wr.heap.size,0,none⟩=some (.slice U g.cols V):=za A0 0;have O:B.cell? ⟨wr.heap.size,1,none⟩=some (.bool xr.wrap):=za A0 1;have I:B.drew.cell? ⟨w.heap.size,3,none⟩=some (.slice va L.length vc):=za F0 3;have S0:w.heap.size≠wr.heap.size:=(by omega);have N2:B.drew.heap.size=B.heap.size:=rfl;have D2:=Qh Y;have A2:xr.cells.length≤100000:=(by omega);have F3:L.length≤2000:=(by have:=HL.out;omega);have B0:W1.heap.size≤wr.heap.size:=G1;clear Y d1 F1;refine zJ (c:=15) (S:=(fun bb w'=>(w'.cell? ⟨wr.heap.size,0,none⟩=some (.slice U g.cols V)∧w'.cell? ⟨wr.heap.size,1,none⟩=some (.bool xr.wrap))∧(bb=false→w'.cell? ⟨w.heap.size,3,none⟩=some (.slice va L.length vc)))) (by kernel_rfl) (⟨⟨X,O⟩,fun _=>I⟩) (fun _=>?_);refine zb false 0 (⟨⟨X,O⟩,fun _=>I⟩) ?_;refine zb false 1 (⟨⟨X,O⟩,fun _=>I⟩) ?_;refine zb false 2 (⟨⟨X,O⟩,fun _=>I⟩) ?_;refine zb false 3 (⟨⟨X,O⟩,fun _=>I⟩) ?_;refine Zh 4 (⟨⟨X,O⟩,fun _=>I⟩) ?_;refine zb false 5 (⟨⟨X,O⟩,fun _=>I⟩) ?_;refine zb false 6 (⟨⟨X,O⟩,fun _=>I⟩) ?_;refine zb false 8 (⟨⟨X,O⟩,fun _=>I⟩) ?_;refine zb false 9 (⟨⟨X,O⟩,fun _=>I⟩) ?_;refine zj false 7 fun K hK=>?_;refine ze rfl ?_;go_wp2_with fail;refine(zed xr.cells (.slice U g.cols V) B.drew J1 A2).mono ?_;rintro e w6 ⟨v6,rfl,b6,o6⟩;have C:=zr F0 b6 (show w.heap.size<B.heap.size by omega);have D:=zr E2 b6 (show wr.heap.size<B.heap.size by omega);obtain⟨I0,J0,rfl⟩:=zK o6;have z0:w6.cell? ⟨wr.heap.size,0,none⟩=some (.slice U g.cols V):=za D 0;have z1:w6.cell? ⟨wr.heap.size,1,none⟩=some (.bool xr.wrap):=za D 1;have z2:w6.cell? ⟨w.heap.size,3,none⟩=some (.slice va L.length vc):=za C 3;have z3:∀ o,(w6.alloc o).cell? ⟨w.heap.size,3,none⟩=some (.slice va L.length vc):=fun o=>za (zI C o) 3;have Z:=Qh b6;have V0:=Qh o6;have R0:=Qh C;have R:=Qh D;refine hK.out _ _ (⟨⟨z0,z1⟩,fun _=>z2⟩) (fun _=>?_);clear hK K b6 o6 C D
     try simp only[Act.put,List.setIfInBounds_toArray,List.set_cons_zero,List.set_cons_succ]
     refine zb false 10 (⟨⟨z0,z1⟩,fun _=>z2⟩) ?_;refine zj false 11 fun K hK=>?_;refine ze rfl ?_;go_wp2_with fail;refine hK.out _ _ (⟨⟨za (zI R _) 0,za (zI R _) 1⟩,fun _=>z3 _⟩) (fun _=>?_);clear hK K
     try simp only[Act.put,List.setIfInBounds_toArray,List.set_cons_zero,List.set_cons_succ]
     refine zj false 12 fun K hK=>?_;apply zap zaH
     case hgd=>rfl
     case ho=>rfl
     case hown=>exact zG (zk N1 Z) _
     case hs=>rfl
     case hr=>exact Z4 underlying112 (ze4 _ _ _ _) (zeC _ _ _ _)
     case hx=>rfl
     case h63=>unfold maxLen;omega
     case hbytes=>omega
     case hbase=>(have:=Z.out.size;simp;(try (show _≤B.heap.size+1;omega));omega)
     intro v7 w7 o7 g7 n7;have G:=zl (zI R0 _) g7 (fun e=>by have:=(zg A.own w.heap.size e.symm).1;omega);have F:=zl (zI R _) g7 (fun e=>by have:=(zg A.own wr.heap.size e.symm).2;omega);have y0:w7.cell? ⟨wr.heap.size,0,none⟩=some (.slice U g.cols V):=za F 0;have y1:w7.cell? ⟨wr.heap.size,1,none⟩=some (.bool xr.wrap):=za F 1;have y2:w7.cell? ⟨w.heap.size,3,none⟩=some (.slice va L.length vc):=za G 3;have y3:w7.frozen? ⟨w.heap.size,3,none⟩=false:=zA G 3;obtain⟨M,J,rfl⟩:=zK o7;have U0:=Qh G;have Z1:=Qh o7;have L1:=Qh g7;have F2:=Qh n7;have G0:=Qh F;refine hK.out _ _ (⟨⟨y0,y1⟩,fun _=>y2⟩) (fun _=>?_);clear hK K G F o7 g7 n7
     try simp only[Act.put,List.setIfInBounds_toArray,List.set_cons_zero,List.set_cons_succ]
     refine zb false 13 (⟨⟨y0,y1⟩,fun _=>y2⟩) ?_;refine zb false 14 (⟨⟨y0,y1⟩,fun _=>y2⟩) ?_;refine zj true 15 fun K hK=>?_;refine ze rfl ?_;go_wp2_with fail;refine hK.out _ _ (⟨⟨za (Zp G0 S0.symm _ _) 0,za (Zp G0 S0.symm _ _) 1⟩,fun e=>by cases e⟩) (fun _=>?_);clear hK K
     try simp only[Act.put]
     refine zD (by kernel_rfl) ?_ _;have A3:=Z.out.size;have C0:=Qh (show Below wr.heap.size wr (w6.alloc (.cells #[.slice I0 xr.cells.length J0,.bool xr.wrap] 144)) from
      ((N.drew.trans (Z.mono (by omega))).alloc (by omega) _))
     obtain⟨qb,X1⟩:∃ q,(Value.slice I0 xr.cells.length J0).ownBlock=some q:=by
      obtain⟨b,G3,c,e,_,_⟩:=zE V0 (by rw[D2.out];omega);exact⟨b,by rw[e];rfl⟩
     have B1:=Qh (A.snoc (xr:=xr) C0 (zP (zG V0 _) (by omega)) X1 Z1 L1 F2 B0);have Y0:=Qh (show W1.grownBy w7 (some w.heap.size) from Zs (zaA E C0 B0) L1 (fun q hq=>(zg A.own q hq).1));have X2:w.heap.size<W1.heap.size:=zq V1;have H1:=Qh (B1.grown (zx (zo w7 (some w.heap.size)) 3 (.slice M (L.length+1) J)) (fun k' H=>by injection H with H;omega));have A1:=Qh (zx Y0 3 (.slice M (L.length+1) J));have T0:=Qh (zz U0 3 (.slice M (L.length+1) J));clear y0 y1 y2 y3 z0 z1 z2 z3 X O I;generalize w7.setCell ⟨w.heap.size,3,none⟩ (.slice M (L.length+1) J)=w8 at *;go_wp2_with fail;go_roundw
     case rel=>exact⟨k+1,L++[(.slice I0 xr.cells.length J0,xr)],.slice M (L.length+1) J,by omega,by go_num,by show _=_;rw[List.length_append,HL.out];rfl,A1,H1,T0,by show _=_;rw[List.map_append,N0.out,O1.out];rfl⟩
     case measure=>simp[intOf];omega
    ·have H2:k=Lo.length:=(by omega);subst H2;have d1:decide ((Lo.length:Int)<(Lo.length:Int))=false:=Qf (by omega);have F1:decide (Lo.length<Lo.length)=false:=Qf (by omega);have J3:=E.out.size;have R1:=Qh (D0.grown E (fun k' H=>by injection H with H;omega));have U1:∃ T',GM T' w.heap.size wr g∧∀ k,T' k≠0→own (fun k=>if k=w.heap.size then 1 else 0) W0 k:=by
      have b1:∀ k,(Value.slice na Ln.length nc).ownBlock=some k→W0.heap.size≤k∧k<W1.heap.size:=fun k hk=>zg D0.own k hk;have b2:∀ k,v.ownBlock=some k→W1.heap.size≤k:=fun k hk=>(zg A.own k hk).1;have b3:∀ x∈Ln,∀ k,x.1.ownBlock=some k→W0.heap.size≤k∧k<W1.heap.size:=fun x hx k hk=>zg (D0.cells x hx) k hk;have b4:∀ x∈L,∀ k,x.1.ownBlock=some k→W1.heap.size≤k:=fun x hx k hk=>(zg (A.cells x hx) k hk).1;refine zcS (vr:=.slice na Ln.length nc) (vo:=v) (Lr:=Ln) (Lo:=L) (fun k hk=>?_) (if_pos rfl) (by omega) E0 (zP R1.own (Nat.zero_le _)) (zP A.own (Nat.zero_le _)) (fun k hk=>.inr ⟨(b1 k hk).1,fun e=>?_⟩) (fun k hk=>.inr ?_) (fun x hx=>?_) ?_ ?_ ?_ HG.wf
      ·by_cases hkq:k=w.heap.size
       ·omega
       ·exact absurd (if_neg hkq) hk
      ·have:=b1 k hk;have:=b2 k e;omega
      ·have:=b2 k hk;omega
      ·rcases List.mem_append.1 hx with hx | hx
       ·obtain⟨q,e1,e2⟩:=R1.out.ap x hx;refine⟨zP (R1.cells x hx) (Nat.zero_le _),q,e1,.inr ⟨(b3 x hx q e1).1,fun e=>?_,e2⟩⟩;have:=b3 x hx q e1;have:=b2 q e;omega
       ·obtain⟨q,e1,e2⟩:=A.out.ap x hx;have R3:=b4 x hx q e1;refine⟨zP (A.cells x hx) (Nat.zero_le _),q,e1,.inr ⟨by omega,e2,fun e=>?_⟩⟩;have:=b1 q e;omega
      ·rw[List.map_append,List.nodup_append];refine⟨R1.nd,A.nd,fun a ha c hc e=>?_⟩;obtain⟨x,hx,rfl⟩:=List.mem_map.1 ha;obtain⟨y,hy,rfl⟩:=List.mem_map.1 hc;obtain⟨q,e1,_⟩:=D0.out.ap x hx;have:=b3 x hx q e1;have:=b4 y hy q (by rw[← e];exact e1);omega
      ·have:=O2.out;rw[← List.length_map (f:=(·.2)),List.take_length]at this;rw[this];exact HG.er
      ·have:=N0.out;rw[← List.length_map (f:=(·.2)),List.take_length]at this;rw[this];exact HG.eo
     have HF:=Qh U1;have U2:=Qh (show Below w.heap.size w wr from(T1.grown M0 (by omega) (by intro k' H;injection H with H;omega)).grown E (by omega) (by intro k' H;injection H with H;omega));clear U1;go_wp2_with fail;obtain⟨T',f1,f2⟩:=HF.out;refine Ze rfl rfl rfl ⟨w.heap.size,rfl,U2,T',f1,fun k hk=>?_⟩;rcases f2 k hk with h | h
     ·by_cases hkq:k=w.heap.size
      ·omega
      ·exact absurd (if_neg hkq) h
     ·omega
end
section
open Go.RowKit
theorem zaF.inG {G:Nat→Prop} {u:Bool} {T:Nat→Nat} {p o:Nat} {w:World} {s:PSt} {acts:List VAct} (h:zaF G u T p o w s acts):G p:=by
 obtain⟨d,D,C,H,E,L,I,A,B,F⟩:=h;exact(A.tl p (by rw[B.tp];decide)).2
theorem zdg {G:Nat→Prop} {p:Nat} (hp:G p) (w:World) (i:Nat) (v:Value):zh G w (w.setCell ⟨p,i,none⟩ v) :=
 ⟨rfl,rfl,rfl,by simp,fun k _ hg=>heap_setCell_other w ⟨p,i,none⟩ k v (fun e=>hg (by rw[e];exact hp))⟩
theorem zaF.set {G:Nat→Prop} {u:Bool} {T:Nat→Nat} {p o:Nat} {w:World} {s:PSt} {acts:List VAct} (h:zaF G u T p o w s acts) (i:Nat) (v:Value) (s':PSt)
  (hc:∀ d t a b c,(s.cells d t a b c).setIfInBounds i v=s'.cells d t a b c) (h1:s'.dec=s.dec) (h2:s'.inter=s.inter) (h3:s'.params=s.params) (h4:s'.text=s.text):zaF G u T p o (w.setCell ⟨p,i,none⟩ v) s' acts:=by
 obtain⟨d,E,D,J,F,L,M,I,A,H⟩:=h;have g:=zx (zo w (some p)) i v;have m:Mod T (fun x=>x=1) w (w.setCell ⟨p,i,none⟩ v):=Mod.of_gb g (fun k B=>by injection B with B;subst B;exact A.tp);have C:=zz A.blk i v;rw[hc]at C;exact⟨d,E,D,J,F,L,M,I.mono g.size,A.put g C h1 (by rw[h2];exact A.ri) (fun hu=>by rw[h3];exact A.rp hu) (by rw[h4];exact A.rt),H.mod m (by decide) (by decide) (by decide)⟩
theorem zbO {G:Nat→Prop} {T:Nat→Nat} {p o d:Nat} {tell vi vp vt vo:Value} {w w1 w':World} {s:PSt} {L:List (VAct × Value)} {t:Nat} (ht:t=4∨t=5∨t=6) (htell:tell=za9 o)
  (hA:zbi G T w) (hC:zcm true T p d tell vi vp vt w s) (hT:zdm G T o vo w L) {v v':Value} {n m:Nat} {xs ys:List Value} (hv:Row T t 1 v n xs w) (g1:w.grownBy w1 none) (g:w1.grownBy w' v.ownBlock) (ho:zp w' 0 1 v' m ys)
  (hn:∀ k,v'.ownBlock=some k→v.ownBlock=some k∨w1.heap.size≤k) :
  ∃ T',zh G w w'∧Row T' t 1 v' m ys w'∧(∀ t' size v n xs,t'≠t→Row T t' size v n xs w→Row T' t' size v n xs w')∧w'.heap[p]?=w.heap[p]? ∧
   ∀ (w'':World) (s':PSt) (vi' vp' vt':Value),w'.grownBy w'' (some p)→w''.heap[p]?=some (.cells (s'.cells d tell vi' vp' vt') 153 (0,0))→s'.dec=s.dec→Row T' 4 1 vi' s'.inter.length (zu s'.inter) w'→Row T' 5 1 vp' s'.params.length (s'.params.map (Value.int .i64)) w'→Row T' 6 1 vt' s'.text.length (zu s'.text) w' →
    zh G w w''∧zaF G true T' p o w'' s' (L.map (·.1)):=by
 have m:Mod T (fun x=>x=t) w w':=(Mod.of_gb g1 (by intro k hk;simp at hk)).trans ⟨g.os,g.tape,g.output,g.size,fun k hk hq=>by
  by_cases hlt:k<w.heap.size
  ·exact g.block k hk (fun e=>hq (hv.tag k e.symm))
  ·exact g.block k hk (fun e=>hlt (zg hv.own k e.symm).2)⟩
 have B:∀ k,k<w.heap.size→adopt T w.heap.size w'.heap.size t k=T k:=fun k hk=>zdB hk;have F:∀ t' size v n xs,t'≠t→Row T t' size v n xs w→Row (adopt T w.heap.size w'.heap.size t) t' size v n xs w':=fun t' size v n xs hne h=>by
  have R:=h.mod m hne;exact⟨R.own,fun k hk=>by rw[B k (zg h.own k hk).2];exact h.tag k hk⟩
 have J:w'.heap[p]?=w.heap[p]?:=m.block p (zq hC.blk) (by rw[hC.tp];omega);have M:=hT.retag B;have H:=M.mod (m.retag B) (by omega) (by omega) (by omega);refine⟨adopt T w.heap.size w'.heap.size t,m.within hA (by omega),⟨ho,fun k hk=>?_⟩,F,J,?_⟩
 ·rcases hn k hk with h | h
  ·rw[B k (zg hv.own k h).2];exact hv.tag k h
  ·exact zdC (Nat.le_trans g1.size h) (zg ho k hk).2
 ·intro w'' s' vi' vp' vt' O U N S X V;have D:adopt T w.heap.size w'.heap.size t p=1:=(by rw[B p (zq hC.blk)];exact hC.tp);have E:adopt T w.heap.size w'.heap.size t d=2:=(by rw[B d (zq hC.dec)];exact hC.td);have C:Mod (adopt T w.heap.size w'.heap.size t) (fun y=>y=1) w' w'':=Mod.of_gb O (fun k hk=>by injection hk with hk;subst hk;exact D);have A:zcs w' d s.dec:=(m.block d (zq hC.dec) (by rw[hC.td];omega)).trans hC.dec;subst htell;have I:=hA.adopt m.size t;exact⟨(m.within hA (by omega)).trans (C.within I (by decide)),d,vi',vp',vt',vo,L,rfl,(hA.adopt m.size t).mono O.size,
   ⟨U,by rw[N];exact(C.block d (zq A) (by rw[E];decide)).trans A,by rw[N];exact hC.dok,S.mod C (by decide),fun _=>X.mod C (by decide),V.mod C (by decide),D,E⟩,H.mod C (by decide) (by decide) (by decide)⟩
def PSt.passed (s:PSt):PSt:=({ s with frm:=s.state }).begun 3
theorem zcj {G:Nat→Prop} {u:Bool} {T:Nat→Nat} {p o:Nat} {w:World} {s:PSt} {acts:List VAct} (h:zaF G u T p o w s acts) :
  Calls prog 181 #[.pointer (some ⟨p,0,none⟩)] w fun e w'=>e=.returned (.tuple #[])∧zh G w w'∧zaF G true T p o w' s.passed acts:=by
 have M:=Qh (h.set 9 (.int .i64 s.state) { s with frm:=s.state } (fun _ _ _ _ _=>rfl) rfl rfl rfl rfl);have I:=Qh (zdg h.inG w 9 (.int .i64 s.state));obtain⟨d,O,Y,S,U,L,H,F,C,J⟩:=h;have V:w.cell? ⟨p,0,none⟩=some (.int .i64 s.state):=Zd C 0;have R:w.cell? ⟨p,9,none⟩=some (.int .i64 s.frm):=Zd C 9;have X:=zA C.blk;clear H F C J;go_enter func181,ntmps181;go_wp2_with fail;refine(Zl 3 M).mono ?_;rintro e N ⟨rfl,B,A⟩;have D:=Qh (I.trans B);have E:=Qh A;clear B A;go_wp2_with fail;go_end0;exact⟨rfl,D,E⟩
end
section
open Go.RowKit
def PSt.started (s:PSt):PSt:=if s.any then s else { s with any:=true,params:=[-1] }
def zbW (x d:Int):Int:=min (10*max x 0+d) 9999
def zaY (l:List Int) (d:Int):List Int:=l.set (l.length-1) (zbW (l.getD (l.length-1) 0) d)
def PSt.digit (s:PSt) (d:Int):PSt :=
 if 0≤d then { s.started with params:=zaY s.started.params d }
 else if s.started.params.length≤32 then { s.started with params:=s.started.params++[-1] } else s.started
theorem zcU {P:Program} {t e:TypeId} {w:World} {base size:Nat} {v:Value} {n:Nat} {xs:List Value} (ht:P.underlying t=some (.slice e)) (h:zp w base size v n xs) (ty:TypeId) (wx:World):(Builtin.len_ #[t] ty #[v]).run P wx=.ok (.int .i64 n) wx:=by
 rcases h.2 with ⟨rfl,rfl⟩ | ⟨b,off,c,rfl,_⟩ <;> simp[Builtin.len_,run_underlying ht,goInt]
theorem zar:zdQ prog 22 3 1 8 (.int .i64 0):=⟨underlying22,by kernel_rfl,rfl,by decide⟩
theorem zeD {P:Program} {t e:TypeId} {w:World} {v:Value} {n:Nat} {xs:List Value} (ht:P.underlying t=some (.slice e)) (hs:(P.info? e).map (·.size)=some 1) (h:zp w 0 1 v n xs) (j:Nat) (hj:j<n) :
  ∃ b off c,v=.slice (some ⟨b,off,none⟩) n c∧(∀ wx,(Instr.indexAt t v (.int .i64 j)).run P wx=.ok (.pointer (some ⟨b,off+j,none⟩)) wx)∧(∃ x,xs[j]?=some x∧w.cell? ⟨b,off+j,none⟩=some x)∧w.frozen? ⟨b,off+j,none⟩=false ∧
   ∀ y,zp (w.setCell ⟨b,off+j,none⟩ y) 0 1 v n (xs.set j y):=by
 obtain⟨G,h2⟩:=id h;rcases h2 with ⟨_,h0⟩ | ⟨b,off,c,rfl,hb,hbs,hnc,hcm,hcells,hxs⟩
 ·omega
 ·obtain⟨i,F,D⟩:=Option.map_eq_some_iff.1 hs;have E:(0:Int)≤(j:Int)∧(j:Int)<(n:Int):=(by omega);have C:j<xs.length:=(by omega);refine⟨b,off,c,rfl,fun wx=>?_,⟨xs[j],by rw[List.getElem?_eq_getElem C],hxs j _ (by rw[List.getElem?_eq_getElem C])⟩,(hcells j (by omega)).2,fun y=>?_⟩
  ·simp[Instr.indexAt,asIntOf,run_underlying ht,E,sizeOf,typeInfo,F,D,zbb];omega
  ·have A:∀ k,k≠j→(w.setCell ⟨b,off+j,none⟩ y).cell? ⟨b,off+k,none⟩=w.cell? ⟨b,off+k,none⟩:=fun k hk=>World.cell?_setCell_other w _ _ y (by intro e;injection e with _ e;omega);have B:(w.setCell ⟨b,off+j,none⟩ y).cell? ⟨b,off+j,none⟩=some y:=World.cell?_setCell_same' w _ y (hcells j (by omega)).1;refine⟨by rw[List.length_set];exact G,.inr ⟨b,off,c,rfl,hb,by simpa using hbs,hnc,hcm,fun k hk=>⟨?_,?_⟩,fun k u hu=>?_⟩⟩
   ·by_cases e:k=j
    ·subst e;rw[B];rfl
    ·rw[A k e];exact(hcells k hk).1
   ·rw[World.frozen?_setCell];exact(hcells k hk).2
   ·by_cases e:k=j
    ·subst e;rw[B];rw[List.getElem?_set_self (by omega)]at hu;exact hu
    ·rw[A k e];rw[List.getElem?_set_ne (fun e'=>e e'.symm)]at hu;exact hxs k u hu
theorem zgA (l:List Int) (j:Nat) (x:Int):(l.map (Value.int .i64)).set j (.int .i64 x)=(l.set j x).map (Value.int .i64):=by rw[List.map_set]
theorem zg1 {G:Nat→Prop} {T:Nat→Nat} {p o:Nat} {w:World} {s:PSt} {acts:List VAct} (dg:Int) (h:zaF G true T p o w s acts) (hd0:-1≤dg) (hd1:dg≤9) (hp:s.any=true→s.params≠[]) (hl:s.params.length≤40) (hr:∀ x∈s.params,-1≤x∧x≤9999) :
  Calls prog 182 #[.pointer (some ⟨p,0,none⟩),.int .i64 dg] w fun e w'=>e=.returned (.tuple #[])∧zh G w w'∧zhB G true p o w' (s.digit dg) acts:=by
 have HR:=Qh (show(s.started.params≠[]∧s.started.params.length≤40∧(∀ x∈s.started.params,-1≤x∧x≤9999))∧s.started.any=true by
  unfold PSt.started;cases ha:s.any
  ·exact⟨⟨by simp,by simp,by simp⟩,rfl⟩
  ·exact⟨⟨hp ha,hl,hr⟩,ha⟩)
 clear hp hl hr;have H:=Qh h;have HS:=Qh (show s.started=if s.any then s else { s with any:=true,params:=[-1] } from rfl);obtain⟨d,vi,vp,vt,vo,L,hL,hA,F,hT⟩:=h;have c5:w.cell? ⟨p,5,none⟩=some (.bool s.any):=Zd F 5;have c4:w.cell? ⟨p,4,none⟩=some vp:=Zd F 4;have fz:=zA F.blk;have C0:=zq F.blk;have E:=zI F.blk (.cells #[.int .i64 (-1)] 3);have a5:(w.alloc (.cells #[.int .i64 (-1)] 3)).cell? ⟨p,5,none⟩=some (.bool s.any):=za E 5;have a4:(w.alloc (.cells #[.int .i64 (-1)] 3)).cell? ⟨p,4,none⟩=some vp:=za E 4;have C1:∀ i,(w.alloc (.cells #[.int .i64 (-1)] 3)).frozen? ⟨p,i,none⟩=false:=zA E;have M:=Qh F;have HA:=Qh hA;have HT:=Qh hT;have HL:=Qh hL;clear F hA hT hL E;go_enter func182,ntmps182;go_upto_if 9 with fail
 go_cut [10] (fun _ wx=>zh G w wx∧zhB G true p o wx s.started acts)
 case first =>
  cases hany:s.any
  ·rw[hany]at HS c5 a5;go_wp2_with fail;go_meet;have hg:=zx (zx (zo (w.alloc (.cells #[.int .i64 (-1)] 3)) (some p)) 5 (.bool true)) 4 (.slice (some ⟨w.heap.size,0,none⟩) 1 1);have hb:=zz (zz (zI M.blk (.cells #[.int .i64 (-1)] 3)) 5 (.bool true)) 4 (.slice (some ⟨w.heap.size,0,none⟩) 1 1);have ho:zp (w.alloc (.cells #[.int .i64 (-1)] 3)) 0 1 (.slice (some ⟨w.heap.size,0,none⟩) 1 1) 1 [.int .i64 (-1)]:=zaj (Z6 (base:=0) #[.int .i64 (-1)] [.int .i64 (-1)] rfl (by omega) (by decide) rfl rfl);obtain⟨T',B0,I,A,X,C⟩:=zbO (t:=5) (v:=Z0) (n:=0) (xs:=[]) (w1:=w) (.inr (.inl rfl)) rfl HA M HT (zbG _ _ _ _) (zo _ _) (World.grownBy_alloc w (.cells #[.int .i64 (-1)] 3) none) ho (fun k hk=>by simp[Value.ownBlock]at hk;exact .inr (by omega));obtain⟨B,D⟩:=C _ { s with any:=true,params:=[-1] } vi (.slice (some ⟨w.heap.size,0,none⟩) 1 1) vt hg hb rfl (A 4 1 _ _ _ (by decide) M.ri) I (A 6 1 _ _ _ (by decide) M.rt);have E0:((w.alloc (.cells #[.int .i64 (-1)] 3)).setCell ⟨p,5,none⟩ (.bool true)).setCell ⟨p,4,none⟩ (.slice (some ⟨w.heap.size,0,none⟩) 1 1)=((w.setCell ⟨p,5,none⟩ (.bool true)).setCell ⟨p,4,none⟩ (.slice (some ⟨w.heap.size,0,none⟩) 1 1)).alloc (.cells #[.int .i64 (-1)] 3):=by
    rw[World.setCell_alloc_past _ p 5 _ C0,World.setCell_alloc_past _ p 4 _ (by simpa using C0)]
   rw[HS.out,← HL.out,← E0,if_neg (by decide)];exact⟨B,T',D⟩
  ·rw[hany]at HS c5 a5;go_wp2_with fail;go_meet;rw[HS.out];exact⟨zh.refl _ _,T,H⟩
 case rest =>
  obtain⟨hw,T2,hi⟩:=hcut;have HW:=Qh hw;have HI:=Qh hi;clear hw c5 c4 fz a5 a4 C1 C0;have HD:=Qh (show s.digit dg=if 0≤dg then { s.started with params:=zaY s.started.params dg } else if s.started.params.length≤32 then { s.started with params:=s.started.params++[-1] } else s.started from rfl);generalize O:s.digit dg=sd at *;replace O:=Qh O;generalize s.started=s1 at *;clear HS M HA HT HL H;obtain⟨d,vi,vp,vt,vo,L,hL,hA,F,hT⟩:=hi;have c4:wc.cell? ⟨p,4,none⟩=some vp:=Zd F 4;have fz:=zA F.blk;have D0:=F.rp rfl;have I1:=zcz underlying22 (zex D0.own);have N1:=List.length_pos_iff.2 HR.1.1;have J1:=HR.out.1.2.1;have M:=Qh F;have HA:=Qh hA;have HT:=Qh hT;have HL:=Qh hL;have R:=Qh D0;clear F hA hT hL D0;obtain⟨xp,mp,S,rfl⟩:=zR R.own;by_cases hdg:0≤dg
  ·rw[if_pos hdg]at HD;have M0:decide (0≤dg)=true:=Qt hdg;obtain⟨b,J,c,I0,E1,⟨x,A0,O0⟩,N0,Y⟩:=zeD underlying22 (by kernel_rfl) R.own (s1.params.length-1) (by omega);have D1:x=.int .i64 (s1.params.getD (s1.params.length-1) 0):=by
    rw[List.getElem?_map,zeg _ _ (by omega)]at A0;exact(Option.some.inj A0).symm
   subst D1;have F0:(((s1.params.length-1:Nat)):Int)=(s1.params.length:Int)-1:=(by omega);rw[F0]at E1;have M1:=HR.out.1.2.2 (s1.params.getD (s1.params.length-1) 0) (by rw[List.getD_eq_getElem?_getD,List.getElem?_eq_getElem (by omega)];exact List.getElem_mem _);have S0:=Qh (show zaY s1.params dg=s1.params.set (s1.params.length-1) (zbW (s1.params.getD (s1.params.length-1) 0) dg) from rfl);have R1:=Qh (show zbW (s1.params.getD (s1.params.length-1) 0) dg=min (10*max (s1.params.getD (s1.params.length-1) 0) 0+dg) 9999 from rfl);generalize s1.params.getD (s1.params.length-1) 0=x at *;have Z:=Qh (Y (.int .i64 (zbW x dg)));rw[zgA]at Z;have A1:=Qh I0;have S1:=Qh F0;clear Y A0 I0 F0;go_upto_region 4 with fail
   go_still_tail 18,(by kernel_rfl)
   change wpList _ _ _ _ _ wc.drew;have G1:wc.drew.frozen? ⟨b,J+(s1.params.length-1),none⟩=false:=N0;have H1:wc.drew.cell? ⟨b,J+(s1.params.length-1),none⟩=some (.int .i64 x):=O0;have G0:=Qh (zi (w:=wc.setCell ⟨b,J+(s1.params.length-1),none⟩ (.int .i64 (zbW x dg))) (w':=wc.drew.setCell ⟨b,J+(s1.params.length-1),none⟩ (.int .i64 (zbW x dg))) (row:=none) Z ⟨rfl,rfl,rfl,Nat.le_refl _,fun _ _ _=>rfl⟩ (by intro k _ e;simp at e));have HB:=Qh (show(Value.slice xp mp S).ownBlock=some b by rw[A1.out];rfl);clear N0 O0;generalize U:wc.drew=wd at *;go_wp2_with fail;go_end0;have N:zcm true T2 p d (za9 o) vi (.slice xp mp S) vt wd s1:=(by rw[← U];exact M.mod (zaW T2 wc) id id id id id);have B1:zdm G T2 o vo wd L:=(by rw[← U];exact HT.mod (zaW T2 wc) id id id);have Y0:zbi G T2 wd:=(by rw[← U];exact HA.mono (Nat.le_refl _));have F1:=N.rp rfl;have ho:=G0.out;have V0:s1.params.length=(s1.params.set (s1.params.length-1) (zbW x dg)).length:=(by rw[List.length_set]);obtain⟨T',B0,I,A,X,C⟩:=zbO (t:=5) (.inr (.inl rfl)) rfl Y0 N B1 F1 (zo wd none) (by rw[HB.out];exact zx (zo wd (some b)) (J+(s1.params.length-1)) (.int .i64 (zbW x dg))) ho (fun k hk=>.inl hk);have J0:Row T' 5 1 (.slice xp mp S) (s1.params.set (s1.params.length-1) (zbW x dg)).length ((s1.params.set (s1.params.length-1) (zbW x dg)).map (Value.int .i64)) (wd.setCell ⟨b,J+(s1.params.length-1),none⟩ (.int .i64 (zbW x dg))):=(by rw[← V0];exact I);obtain⟨B,D⟩:=C _ { s1 with params:=zaY s1.params dg } vi (.slice xp mp S) vt (zo _ _) (X.trans N.blk) rfl (A 4 1 _ _ _ (by decide) N.ri) (by rw[S0.out];exact J0) (A 6 1 _ _ _ (by decide) N.rt);rw[O.out,HD.out,← HL.out];exact⟨rfl,HW.trans ((U ▸ zh.drew G wc).trans B),T',D⟩
  ·rw[if_neg hdg]at HD;have M0:decide (0≤dg)=false:=Qf hdg;by_cases h32:s1.params.length≤32
   ·rw[if_pos h32]at HD;have H0:decide ((s1.params.length:Int)-1<32)=true:=Qt (by omega);have E:=zI M.blk (.cells #[.int .i64 (-1)] 3);have T0:=Qh E;clear E;go_wp2_with (at_builtin;refine zaQ ?_);unfold zaP;refine zS zar rfl rfl 0 (zG R.own _) rfl (Zi _ _ _) rfl (zaw _ _) (by unfold maxLen;omega) (by omega) (by omega) ?_;intro v6 w6 o6 g6 n6;obtain⟨x6,m6,c6,rfl⟩:=zR o6;have V:=zl T0 g6 (fun e=>by have h1:=R.out.tag p e.symm;have h2:=M.out.tp;omega);have O1:w6.cell? ⟨p,4,none⟩=some (.slice xp mp S):=za V 4;have L1:=zA V;have U0:=Qh V;have L0:zp w6 0 1 (.slice x6 m6 c6) (s1.params++[-1]).length ((s1.params++[-1]).map (Value.int .i64)):=by
     rw[List.length_append,List.map_append];exact o6
    obtain⟨T',B0,I,A,X,C⟩:=zbO (t:=5) (.inr (.inl rfl)) rfl HA M HT R (World.grownBy_alloc wc _ none) g6 L0 n6;obtain⟨B,D⟩:=C (w6.setCell ⟨p,4,none⟩ (.slice x6 m6 c6)) { s1 with params:=s1.params++[-1] } vi (.slice x6 m6 c6) vt (zx (zo _ _) _ _) (zz U0 4 _) rfl (A 4 1 _ _ _ (by decide) M.ri) I (A 6 1 _ _ _ (by decide) M.rt);have R0:=Qh (HW.trans B);have X0:=Qh D;clear o6 g6 n6 L0 B0 I A X C B D V;go_wp2_with fail;go_end0;rw[O.out,HD.out,← HL.out];exact⟨rfl,R0,T',X0⟩
   ·rw[if_neg h32]at HD;have H0:decide ((s1.params.length:Int)-1<32)=false:=Qf (by omega);go_wp2_with fail;go_end0;rw[O.out,HD.out];exact⟨rfl,HW,T2,HI⟩
end
section
open Go.RowKit
def PSt.esced (s:PSt) (b:UInt8):PSt × List VAct :=
 if ZL (b.toNat:Int) then (if s.inter.length=2 then (s.passed,[]) else ({ s with inter:=s.inter++[b] },[]))
 else if s.inter.length=0 then
  if (b.toNat:Int)=91 then (s.begun 2,[])
  else if (b.toNat:Int)=93 then (s.begun 4,[])
  else if (b.toNat:Int)=80 then (s.begun 5,[])
  else if (b.toNat:Int)=88∨(b.toNat:Int)=94∨(b.toNat:Int)=95 then (s.begun 7,[])
  else if (b.toNat:Int)=92∧s.ended=true then (s.begun 0,[])
  else (s.begun 0,[za1 b s.inter])
 else (s.begun 0,[za1 b s.inter])
theorem ZR {P:Program} {fn:Func} {R:Ending→World→Prop} {a:Act} {w:World} (h:fn.results=#[]) (hd:a.defers=[]) (hR:R (.returned (.tuple #[])) w) :
  bodyPost P fn R .ret a w:=bodyPost_ret (results_none h _ _ _) hd hR
theorem ziO {G:Nat→Prop} {T:Nat→Nat} {p o:Nat} {w:World} {s:PSt} {acts:List VAct} (b:UInt8) (h:zaF G true T p o w s acts) (hi3:s.inter.length≤10) (hn:acts.length≤1000000000) :
  Calls prog 139 #[.pointer (some ⟨p,0,none⟩),.int .u8 (b.toNat:Int)] w fun e w'=>e=.returned (.tuple #[])∧zh G w w'∧zhB G true p o w' (s.esced b).1 (acts++(s.esced b).2):=by
 have H:=Qh h;have F:=Qh (show s.esced b=if ZL (b.toNat:Int) then (if s.inter.length=2 then (s.passed,[]) else ({ s with inter:=s.inter++[b] },[]))
  else if s.inter.length=0 then
   if (b.toNat:Int)=91 then (s.begun 2,[])
   else if (b.toNat:Int)=93 then (s.begun 4,[])
   else if (b.toNat:Int)=80 then (s.begun 5,[])
   else if (b.toNat:Int)=88∨(b.toNat:Int)=94∨(b.toNat:Int)=95 then (s.begun 7,[])
   else if (b.toNat:Int)=92∧s.ended=true then (s.begun 0,[])
   else (s.begun 0,[za1 b s.inter])
  else (s.begun 0,[za1 b s.inter]) from rfl)
 obtain⟨d,vi,vp,vt,vo,L,hL,hA,V,hT⟩:=h;have c2:w.cell? ⟨p,2,none⟩=some (.func (.func 92) #[] #[.pointer (some ⟨o,0,none⟩)]):=Zd V 2;have c3:w.cell? ⟨p,3,none⟩=some vi:=Zd V 3;have c8:w.cell? ⟨p,8,none⟩=some (.bool s.ended):=Zd V 8;have fz:=zA V.blk;have C0:=V.ri;rw[zu]at C0;have Y0:∀ (ty:TypeId) (wx:World),(Builtin.len_ #[32] ty #[vi]).run prog wx=.ok (.int .i64 s.inter.length) wx:=zcU underlying32 V.ri.own;have U0:(convert 32 9 vi).run prog w.drew=.ok (.string ⟨s.inter.toArray⟩) w.drew:=Z5 (P:=prog) (w:=w.drew) underlying32 underlying5 underlying9 (zX V.ri.own);obtain⟨xi,mi,ci,rfl⟩:=zR V.ri.own;have HC:=Qh V;have HA:=Qh hA;have HT:=Qh hT;have HL:=Qh hL;clear hA V hT hL C0;have M0:=Qh (zI HC.blk (.cells #[.int .u8 (b.toNat:Int)] 5));cases hbt:ZL (b.toNat:Int);rotate_left
 ·rw[hbt,if_pos rfl]at F;by_cases h2:s.inter.length=2
  ·rw[if_pos h2]at F;have T0:((s.inter.length:Int) == 2)=true:=(by simp;omega);go_enter func139,ntmps139;go_wp2_with fail;refine(zQ (b.toNat:Int) _).mono ?_;rintro e I ⟨rfl,E⟩;rw[E];clear E;go_wp2_with fail;refine(zcj H).mono ?_;rintro e I ⟨rfl,B,A⟩;have C:=Qh B;have D:=Qh A;clear B A;go_wp2_with fail;refine ZR rfl rfl ?_;rw[F.out,List.append_nil];exact⟨rfl,C,T,D⟩
  ·rw[if_neg h2]at F;have T0:((s.inter.length:Int) == 2)=false:=(by simp;omega);go_enter func139,ntmps139;go_wp2_with fail;refine(zQ (b.toNat:Int) _).mono ?_;rintro e I ⟨rfl,E⟩;rw[E];clear E;go_wp2_with (at_builtin;refine zaQ ?_);unfold zaP;refine zS zay rfl rfl 0 (zG HC.ri.own _) rfl (Zi _ _ _) rfl (zaw _ _) (by unfold maxLen;omega) (by omega) (by omega) ?_;intro v6 w6 o6 g6 n6;obtain⟨x6,m6,c6,rfl⟩:=zR o6;have X:=zl M0 g6 (fun e=>by have h1:=HC.out.ri.tag p e.symm;have h2:=HC.out.tp;omega);have X0:w6.cell? ⟨p,3,none⟩=some (.slice xi mi ci):=za X 3;have V0:=zA X;have O0:=Qh X;have D0:zp w6 0 1 (.slice x6 m6 c6) (s.inter++[b]).length (zu (s.inter++[b])):=by
    rw[List.length_append,ZP];exact o6
   obtain⟨T',N0,G0,S,S0,Z⟩:=zbO (t:=4) (.inl rfl) rfl HA HC HT HC.ri (World.grownBy_alloc w _ none) g6 D0 n6;obtain⟨Y,A0⟩:=Z (w6.setCell ⟨p,3,none⟩ (.slice x6 m6 c6)) { s with inter:=s.inter++[b] } (.slice x6 m6 c6) vp vt (zx (zo _ _) _ _) (zz O0 3 _) rfl G0 (S 5 1 _ _ _ (by decide) (HC.rp rfl)) (S 6 1 _ _ _ (by decide) HC.rt);have C:=Qh Y;have D:=Qh A0;clear o6 g6 n6 D0 N0 G0 S S0 Z Y A0 X;go_wp2_with fail;refine ZR rfl rfl ?_;rw[F.out,← HL.out,List.append_nil];exact⟨rfl,C,T',D⟩
 rw[hbt,if_neg (by decide)]at F;by_cases h0:s.inter.length=0;rotate_left
 ·rw[if_neg h0]at F;have R0:((s.inter.length:Int) == 0)=false:=(by rw[beq_eq_false_iff_ne];omega);go_enter func139,ntmps139;go_wp2_with fail;refine(zQ (b.toNat:Int) _).mono ?_;rintro e I ⟨rfl,E⟩;rw[hbt,E];clear E;go_upto_region 19 with fail
  go_still_tail 11,(by kernel_rfl)
  change wpList _ _ _ _ _ w.drew;have R:=Qh (zci (za1 b s.inter) rfl H.drew hn);generalize N:w.drew=wd at *;go_wp2_with fail;refine R.mono ?_;rintro e I ⟨rfl,B,m2,T2,O,A⟩;have C:=Qh ((N ▸ zh.drew G w).trans B);have D:=Qh A;clear B m2 O A;go_wp2_with fail;refine(Zl 0 D).mono ?_;rintro e w3 ⟨rfl,J,hi3⟩;have U:=Qh (C.trans J);have M:=Qh hi3;clear J hi3;go_wp2_with fail;go_end0;rw[F.out];exact⟨rfl,U,T2,M⟩
 rw[if_pos h0]at F;have R0:((s.inter.length:Int) == 0)=true:=(by rw[beq_iff_eq];omega);clear h0;by_cases hb0:(b.toNat:Int)=91
 ·rw[if_pos hb0]at F;have I0:((b.toNat:Int) == 91)=true:=beq_iff_eq.2 hb0;clear hb0;go_enter func139,ntmps139;go_wp2_with fail;refine(zQ (b.toNat:Int) _).mono ?_;rintro e I ⟨rfl,E⟩;rw[hbt,E];clear E;go_wp2_with fail;refine(Zl 2 H).mono ?_;rintro e I ⟨rfl,B,A⟩;have C:=Qh B;have D:=Qh A;clear B A;go_wp2_with fail;refine ZR rfl rfl ?_;rw[F.out,List.append_nil];exact⟨rfl,C,T,D⟩
 rw[if_neg hb0]at F;have I0:((b.toNat:Int) == 91)=false:=Qb hb0;by_cases hb1:(b.toNat:Int)=93
 ·rw[if_pos hb1]at F;have H0:((b.toNat:Int) == 93)=true:=beq_iff_eq.2 hb1;clear hb1;go_enter func139,ntmps139;go_wp2_with fail;refine(zQ (b.toNat:Int) _).mono ?_;rintro e I ⟨rfl,E⟩;rw[hbt,E];clear E;go_wp2_with fail;refine(Zl 4 H).mono ?_;rintro e I ⟨rfl,B,A⟩;have C:=Qh B;have D:=Qh A;clear B A;go_wp2_with fail;refine ZR rfl rfl ?_;rw[F.out,List.append_nil];exact⟨rfl,C,T,D⟩
 rw[if_neg hb1]at F;have H0:((b.toNat:Int) == 93)=false:=Qb hb1;by_cases hb2:(b.toNat:Int)=80
 ·rw[if_pos hb2]at F;have E0:((b.toNat:Int) == 80)=true:=beq_iff_eq.2 hb2;clear hb2;go_enter func139,ntmps139;go_wp2_with fail;refine(zQ (b.toNat:Int) _).mono ?_;rintro e I ⟨rfl,E⟩;rw[hbt,E];clear E;go_wp2_with fail;refine(Zl 5 H).mono ?_;rintro e I ⟨rfl,B,A⟩;have C:=Qh B;have D:=Qh A;clear B A;go_wp2_with fail;refine ZR rfl rfl ?_;rw[F.out,List.append_nil];exact⟨rfl,C,T,D⟩
 rw[if_neg hb2]at F;have E0:((b.toNat:Int) == 80)=false:=Qb hb2;by_cases hx:(b.toNat:Int)=88∨(b.toNat:Int)=94∨(b.toNat:Int)=95
 ·rw[if_pos hx]at F;rcases hx with hx | hx | hx
  ·have B0:((b.toNat:Int) == 88)=true:=beq_iff_eq.2 hx;clear hx;go_enter func139,ntmps139;go_wp2_with fail;refine(zQ (b.toNat:Int) _).mono ?_;rintro e I ⟨rfl,E⟩;rw[hbt,E];clear E;go_wp2_with fail;refine(Zl 7 H).mono ?_;rintro e I ⟨rfl,B,A⟩;have C:=Qh B;have D:=Qh A;clear B A;go_wp2_with fail;refine ZR rfl rfl ?_;rw[F.out,List.append_nil];exact⟨rfl,C,T,D⟩
  ·have J0:((b.toNat:Int) == 88)=false:=(by rw[beq_eq_false_iff_ne];omega);have B0:((b.toNat:Int) == 94)=true:=beq_iff_eq.2 hx;clear hx;go_enter func139,ntmps139;go_wp2_with fail;refine(zQ (b.toNat:Int) _).mono ?_;rintro e I ⟨rfl,E⟩;rw[hbt,E];clear E;go_wp2_with fail;refine(Zl 7 H).mono ?_;rintro e I ⟨rfl,B,A⟩;have C:=Qh B;have D:=Qh A;clear B A;go_wp2_with fail;refine ZR rfl rfl ?_;rw[F.out,List.append_nil];exact⟨rfl,C,T,D⟩
  ·have J0:((b.toNat:Int) == 88)=false:=(by rw[beq_eq_false_iff_ne];omega);have L0:((b.toNat:Int) == 94)=false:=(by rw[beq_eq_false_iff_ne];omega);have B0:((b.toNat:Int) == 95)=true:=beq_iff_eq.2 hx;clear hx;go_enter func139,ntmps139;go_wp2_with fail;refine(zQ (b.toNat:Int) _).mono ?_;rintro e I ⟨rfl,E⟩;rw[hbt,E];clear E;go_wp2_with fail;refine(Zl 7 H).mono ?_;rintro e I ⟨rfl,B,A⟩;have C:=Qh B;have D:=Qh A;clear B A;go_wp2_with fail;refine ZR rfl rfl ?_;rw[F.out,List.append_nil];exact⟨rfl,C,T,D⟩
 rw[if_neg hx]at F;have J0:((b.toNat:Int) == 88)=false:=(by rw[beq_eq_false_iff_ne];omega);have L0:((b.toNat:Int) == 94)=false:=(by rw[beq_eq_false_iff_ne];omega);have Z0:((b.toNat:Int) == 95)=false:=(by rw[beq_eq_false_iff_ne];omega);clear hx hb0 hb1 hb2;by_cases h92:(b.toNat:Int)=92
 ·have F0:((b.toNat:Int) == 92)=true:=beq_iff_eq.2 h92;cases hen:s.ended
  ·rw[hen,if_neg (by simp)]at F;rw[hen]at c8;clear h92;go_enter func139,ntmps139;go_wp2_with fail;refine(zQ (b.toNat:Int) _).mono ?_;rintro e I ⟨rfl,E⟩;rw[hbt,E];clear E;go_upto_region 19 with fail
   go_still_tail 11,(by kernel_rfl)
   change wpList _ _ _ _ _ w.drew;have R:=Qh (zci (za1 b s.inter) rfl H.drew hn);generalize N:w.drew=wd at *;go_wp2_with fail;refine R.mono ?_;rintro e I ⟨rfl,B,m2,T2,O,A⟩;have C:=Qh ((N ▸ zh.drew G w).trans B);have D:=Qh A;clear B m2 O A;go_wp2_with fail;refine(Zl 0 D).mono ?_;rintro e w3 ⟨rfl,J,hi3⟩;have U:=Qh (C.trans J);have M:=Qh hi3;clear J hi3;go_wp2_with fail;go_end0;rw[F.out];exact⟨rfl,U,T2,M⟩
  ·rw[if_pos ⟨h92,hen⟩]at F;rw[hen]at c8;clear h92;go_enter func139,ntmps139;go_wp2_with fail;refine(zQ (b.toNat:Int) _).mono ?_;rintro e I ⟨rfl,E⟩;rw[hbt,E];clear E;go_wp2_with fail;refine(Zl 0 H).mono ?_;rintro e I ⟨rfl,B,A⟩;have C:=Qh B;have D:=Qh A;clear B A;go_wp2_with fail;refine ZR rfl rfl ?_;rw[F.out,List.append_nil];exact⟨rfl,C,T,D⟩
 ·rw[if_neg (fun h=>h92 h.1)]at F;have F0:((b.toNat:Int) == 92)=false:=Qb h92;clear h92;go_enter func139,ntmps139;go_wp2_with fail;refine(zQ (b.toNat:Int) _).mono ?_;rintro e I ⟨rfl,E⟩;rw[hbt,E];clear E;go_upto_region 19 with fail
  go_still_tail 11,(by kernel_rfl)
  change wpList _ _ _ _ _ w.drew;have R:=Qh (zci (za1 b s.inter) rfl H.drew hn);generalize N:w.drew=wd at *;go_wp2_with fail;refine R.mono ?_;rintro e I ⟨rfl,B,m2,T2,O,A⟩;have C:=Qh ((N ▸ zh.drew G w).trans B);have D:=Qh A;clear B m2 O A;go_wp2_with fail;refine(Zl 0 D).mono ?_;rintro e w3 ⟨rfl,J,hi3⟩;have U:=Qh (C.trans J);have M:=Qh hi3;clear J hi3;go_wp2_with fail;go_end0;rw[F.out];exact⟨rfl,U,T2,M⟩
end
end Go.Proofs.YthehkmopdeebmaaGreatDoor
