/- Part. -/
import Derived.Test.YthehkmopdeebmaaGreatDoorY12
import Derived.Test.YthehkmopdeebmaaGreatDoorY13
set_option linter.unusedVariables false
set_option linter.unusedSimpArgs false
set_option maxHeartbeats 1000000
namespace Go.Proofs.YthehkmopdeebmaaGreatDoor
open _root_.Go.Proofs.Tryz
section
open Go.RowKit
structure Rz (T:Nat→Nat) (p t u:Nat) (K:Array Value) (w:World) (vL vM:Value) (L M:List (Value × Rw)) (w':World):Prop where
 wi:zh (own T w) w w'
 blk:w'.heap[p]?=some (.cells K 114 (0,0))
 rl:Row T t 2 vL L.length (zf L) w'
 rm:Row T u 2 vM M.length (zf M) w'
 ca:∀ x∈L++M,zp w' 0 5 x.1 x.2.cells.length (zt x.2.cells)∧∃ q,x.1.ownBlock=some q∧((q<w.heap.size∧T q=10+q)∨w.heap.size≤q)
 nd:((L++M).map (·.1.ownBlock)).Nodup
theorem zjh {α β:Type} {f:α→β} {L M:List α} (h:((L++M).map f).Nodup):((M++L).map f).Nodup:=by
 rw[List.map_append,List.nodup_append]at h ⊢;exact⟨h.2.1,h.1,fun a ha b hb e=>h.2.2 b hb a ha e.symm⟩
theorem Rz.swap {T:Nat→Nat} {p t u:Nat} {K:Array Value} {w w':World} {vL vM:Value} {L M:List (Value × Rw)} (h:Rz T p t u K w vL vM L M w'):Rz T p u t K w vM vL M L w' :=
 ⟨h.wi,h.blk,h.rm,h.rl,fun x hx=>h.ca x (by
  rcases List.mem_append.1 hx with hx | hx
  ·exact List.mem_append_right _ hx
  ·exact List.mem_append_left _ hx),zjh h.nd⟩
theorem Rz.below {T:Nat→Nat} {p t u:Nat} {K:Array Value} {w w1 w2:World} {vL vM:Value} {L M:List (Value × Rw)} (h:Rz T p t u K w vL vM L M w1) (b:Below w1.heap.size w1 w2):Rz T p t u K w vL vM L M w2 :=
 ⟨h.wi.trans (zh.of_below b),zr h.blk b (zq h.blk),⟨zk h.rl.own b,h.rl.tag⟩,⟨zk h.rm.own b,h.rm.tag⟩,fun x hx=>⟨zk (h.ca x hx).1 b,(h.ca x hx).2⟩,h.nd⟩
theorem Rz.step {T:Nat→Nat} {p t u:Nat} {K:Array Value} {w w1 w2 w3:World} {vL vM v':Value} {A B M:List (Value × Rw)} {x:Value × Rw} {r':Rw} {b:Nat}
  (hlt:∀ k,T k≠0→k<w.heap.size) (hp:T p=1) (htu:(t=2∧u=3)∨(t=3∧u=2))
  (h:Rz T p t u K w vL vM (A++x::B) M w1) (hb:x.1.ownBlock=some b) (g2:w1.grownBy w2 (some b))
  (hn:(v'=x.1∧r'=x.2∧Below w1.heap.size w1 w2)∨zp w2 w1.heap.size 5 v' r'.cells.length (zt r'.cells)∧∃ q,v'.ownBlock=some q)
  (g3:w2.grownBy w3 vL.ownBlock) (ho:zp w3 0 2 vL (A++(v',r')::B).length (zf (A++(v',r')::B))):Rz T p t u K w vL vM (A++(v',r')::B) M w3:=by
 have A0:=hlt p (by rw[hp];decide);obtain⟨O,qx,H,hx3⟩:=h.ca x (List.mem_append_left _ (List.mem_append_right _ (List.mem_cons_self ..)));rw[hb]at H;injection H with H;subst H;have R:=h.wi.size;have X:=g2.size;have Z:t=2∨t=3:=(by omega);have U:u=2∨u=3:=(by omega);have F:∀ k,vL.ownBlock=some k→T k=t∧k<w.heap.size:=fun k C=>⟨h.rl.tag k C,hlt k (by rw[h.rl.tag k C];omega)⟩;have J:∀ k,vM.ownBlock=some k→T k=u∧k<w.heap.size:=fun k C=>⟨h.rm.tag k C,hlt k (by rw[h.rm.tag k C];omega)⟩;have E:=h.nd;have G:∀ y,y∈A++B++M→zp w3 0 5 y.1 y.2.cells.length (zt y.2.cells)∧∃ q,y.1.ownBlock=some q∧((q<w.heap.size∧T q=10+q)∨w.heap.size≤q):=fun y hy=>by
  have N:y∈A++x::B++M:=by
   rcases List.mem_append.1 hy with hy | hy
   ·rcases List.mem_append.1 hy with hy | hy
    ·exact List.mem_append_left _ (List.mem_append_left _ hy)
    ·exact List.mem_append_left _ (List.mem_append_right _ (List.mem_cons_of_mem _ hy))
   ·exact List.mem_append_right _ hy
  obtain⟨h1,q,h2,h3⟩:=h.ca y N;have S:q≠b:=fun e=>by
   subst e;have D:=E;rw[List.append_assoc,List.map_append,List.nodup_append,List.cons_append,List.map_cons,List.nodup_cons]at D;rcases List.mem_append.1 hy with hy | hy
   ·rcases List.mem_append.1 hy with hy | hy
    ·exact D.2.2 _ (List.mem_map_of_mem hy) _ (List.mem_cons_self ..) (by rw[h2,hb])
    ·exact D.2.1.1 (by rw[hb,← h2];exact List.mem_map_of_mem (f:=fun z:Value × Rw=>z.1.ownBlock) (List.mem_append_left _ hy))
   ·exact D.2.1.1 (by rw[hb,← h2];exact List.mem_map_of_mem (f:=fun z:Value × Rw=>z.1.ownBlock) (List.mem_append_right _ hy))
  refine⟨zi (zi h1 g2 (fun k C e=>?_)) g3 (fun k C e=>?_),q,h2,h3⟩
  ·rw[h2]at C;injection C with C;injection e with e;omega
  ·rw[h2]at C;injection C with C;have:=F k e;subst C;rcases h3 with h3 | h3
   ·omega
   ·omega
 have L:zp w3 0 5 v' r'.cells.length (zt r'.cells)∧∃ q,v'.ownBlock=some q∧((q<w.heap.size∧T q=10+q)∨w.heap.size≤q):=by
  rcases hn with ⟨rfl,rfl,hbel⟩ | ⟨h1,q,h2⟩
  ·refine⟨zi (zk O hbel) g3 (fun k C e=>?_),b,hb,hx3⟩;rw[hb]at C;injection C with C;have:=F k e;subst C;rcases hx3 with h3 | h3
   ·omega
   ·omega
  ·have V:=zg h1 q h2;refine⟨zP (zi h1 g3 (fun k C e=>?_)) (Nat.zero_le _),q,h2,.inr (by omega)⟩;rw[h2]at C;injection C with C;have:=F k e;omega
 refine⟨(h.wi.trans (zh.of_gb g2 (fun k C=>?_))).trans (zh.of_gb g3 (fun k C=>.inl (by rw[(F k C).1];omega))),?_,⟨ho,h.rl.tag⟩,⟨zi (zi h.rm.own g2 (fun k C e=>?_)) g3 (fun k C e=>?_),h.rm.tag⟩,fun y hy=>?_,?_⟩
 ·injection C with C;subst C;rcases hx3 with h3 | h3
  ·exact .inl (by omega)
  ·exact .inr h3
 ·refine zl (zl h.blk g2 (fun e=>?_)) g3 (fun e=>?_)
  ·injection e with e;subst e;rcases hx3 with h3 | h3
   ·omega
   ·omega
  ·have:=F p e.symm;omega
 ·have:=J k C;injection e with e;subst e;rcases hx3 with h3 | h3
  ·omega
  ·omega
 ·have h1:=J k C;have h2:=F k e;omega
 ·rcases List.mem_append.1 hy with hy | hy
  ·rcases List.mem_append.1 hy with hy | hy
   ·exact G y (List.mem_append_left _ (List.mem_append_left _ hy))
   ·rcases List.mem_cons.1 hy with hy | hy
    ·subst hy;exact L
    ·exact G y (List.mem_append_left _ (List.mem_append_right _ hy))
  ·exact G y (List.mem_append_right _ hy)
 ·rcases hn with ⟨rfl,rfl,hbel⟩ | ⟨h1,q,h2⟩
  ·exact E
  ·have V:=zg h1 q h2;have I:∀ y∈A++x::B++M,y.1.ownBlock≠some q:=fun y hy e=>by
    have h5:=zg (h.ca y hy).1 q e;omega
   rw[List.append_assoc,List.map_append,List.nodup_append,List.cons_append,List.map_cons,List.nodup_cons]at E ⊢;refine⟨E.1,⟨fun hm=>?_,E.2.1.2⟩,fun a ha c hc e=>?_⟩
   ·obtain⟨y,hy,e⟩:=List.mem_map.1 hm;refine I y ?_ (by rw[e];exact h2);rcases List.mem_append.1 hy with hy | hy
    ·exact List.mem_append_left _ (List.mem_append_right _ (List.mem_cons_of_mem _ hy))
    ·exact List.mem_append_right _ hy
   ·rcases List.mem_cons.1 hc with hc | hc
    ·obtain⟨y,hy,Y⟩:=List.mem_map.1 ha;exact I y (List.mem_append_left _ (List.mem_append_left _ hy)) (by rw[Y,e,hc];exact h2)
    ·exact E.2.2 a ha c (List.mem_cons_of_mem _ hc) e
theorem Rz.start {T:Nat→Nat} {p:Nat} {vr vo:Value} {Lr Lo:List (Value × Rw)} {w w1:World} {g:Gr} (h:GAt T p vr vo Lr Lo w g) (b:zh (own T w) w w1) (h1:GAt T p vr vo Lr Lo w1 g):Rz T p 2 3 #[.int .i64 g.cols,.int .i64 g.limit,vr,vo] w vr vo Lr Lo w1 :=
 ⟨b,h1.blk,h1.rr,h1.ro,fun x hx=>by
  obtain⟨q,e1,e2⟩:=(h.ca x hx).tag;exact⟨(h1.ca x hx).own,q,e1,.inl ⟨h.lt q (by omega),e2⟩⟩,h.nd⟩
structure Rs (T:Nat→Nat) (w:World) (vr vo:Value) (Lr Lo:List (Value × Rw)) (w':World):Prop where
 wi:zh (own T w) w w'
 rr:zp w' 0 2 vr Lr.length (zf Lr)
 ro:zp w' 0 2 vo Lo.length (zf Lo)
 tr:∀ k,vr.ownBlock=some k→T k=2∨(w.heap.size≤k∧vo.ownBlock≠some k)
 tv:∀ k,vo.ownBlock=some k→T k=3∨w.heap.size≤k
 ca:∀ x∈Lr++Lo,zp w' 0 5 x.1 x.2.cells.length (zt x.2.cells)∧∃ q,x.1.ownBlock=some q∧((q<w.heap.size∧T q=10+q)∨(w.heap.size≤q∧vo.ownBlock≠some q∧vr.ownBlock≠some q))
 nd:((Lr++Lo).map (·.1.ownBlock)).Nodup
theorem Rs.put {T:Nat→Nat} {p:Nat} {w w1 w2:World} {vr vo:Value} {Lr Lo:List (Value × Rw)} (h:Rs T w vr vo Lr Lo w1) (hp:T p=1) (hpl:p<w.heap.size) (g:w1.grownBy w2 (some p)):Rs T w vr vo Lr Lo w2:=by
 have C:∀ k,vr.ownBlock=some k→k≠p:=fun k hk e=>by
  subst e;rcases h.tr k hk with e | e
  ·omega
  ·omega
 have B:∀ k,vo.ownBlock=some k→k≠p:=fun k hk e=>by
  subst e;rcases h.tv k hk with e | e
  ·omega
  ·omega
 refine⟨h.wi.trans (zh.of_gb g (fun k hk=>.inl (by injection hk with hk;subst hk;omega))),zi h.rr g (fun k hk e=>C k hk (by injection e with e;exact e.symm)),zi h.ro g (fun k hk e=>B k hk (by injection e with e;exact e.symm)),h.tr,h.tv,fun x hx=>?_,h.nd⟩;obtain⟨D,q,A,h3⟩:=h.ca x hx;refine⟨zi D g (fun k hk e=>?_),q,A,h3⟩;rw[A]at hk;injection hk with hk;injection e with e;subst hk e;rcases h3 with h3 | h3
 ·omega
 ·omega
theorem Rz.tags {T:Nat→Nat} {p:Nat} {K:Array Value} {w w1:World} {vL vM:Value} {L M:List (Value × Rw)} (hlt:∀ k,T k≠0→k<w.heap.size) (h:Rz T p 2 3 K w vL vM L M w1) :
  ∀ x∈L++M,zp w1 0 5 x.1 x.2.cells.length (zt x.2.cells)∧∃ q,x.1.ownBlock=some q∧((q<w.heap.size∧T q=10+q)∨(w.heap.size≤q∧vM.ownBlock≠some q∧vL.ownBlock≠some q)):=fun x hx=>by
 obtain⟨h1,q,h2,h3⟩:=h.ca x hx;refine⟨h1,q,h2,?_⟩;rcases h3 with h3 | h3
 ·exact .inl h3
 ·refine .inr ⟨h3,fun e=>?_,fun e=>?_⟩
  ·have:=hlt q (by rw[h.rm.tag q e];decide);omega
  ·have:=hlt q (by rw[h.rl.tag q e];decide);omega
theorem Rz.cut {T:Nat→Nat} {p:Nat} {K:Array Value} {w w1:World} {b off n c:Nat} {vM:Value} {L M:List (Value × Rw)} (hlt:∀ k,T k≠0→k<w.heap.size) (h:Rz T p 2 3 K w (.slice (some ⟨b,off,none⟩) n c) vM L M w1) (hn:L.length=n) (y:Nat) (hy:y≤n) :
  Rs T w (.slice (some ⟨b,off,none⟩) y c) vM (L.take y) M w1:=by
 subst hn;have A:((L.take y++M).map (·.1.ownBlock)).Sublist ((L++M).map (·.1.ownBlock)):=(List.Sublist.append (List.take_sublist y L) (List.Sublist.refl M)).map _;refine⟨h.wi,?_,h.rm.own,fun k hk=>.inl (h.rl.tag k hk),fun k hk=>.inl (h.rm.tag k hk),fun x hx=>?_,h.nd.sublist A⟩
 ·rw[List.length_take,Nat.min_eq_left hy,← Zm];exact zek h.rl.own y hy
 ·refine h.tags hlt x ?_;rcases List.mem_append.1 hx with hx | hx
  ·exact List.mem_append_left _ (List.mem_of_mem_take hx)
  ·exact List.mem_append_right _ hx
theorem Rz.grow {T:Nat→Nat} {p:Nat} {K:Array Value} {w w1 w2 w3:World} {vL vM v4 v7:Value} {L M L4:List (Value × Rw)} (hlt:∀ k,T k≠0→k<w.heap.size) (h:Rz T p 2 3 K w vL vM L M w1)
  (b:Below w1.heap.size w1 w2) (r4:Zj w1.heap.size w2 v4 L4) (o7:zp w3 0 2 v7 (L.length+L4.length) (zf L++zf L4)) (g:w2.grownBy w3 vL.ownBlock) (hn:∀ k,v7.ownBlock=some k→vL.ownBlock=some k∨w2.heap.size≤k) :
  Rs T w v7 vM (L++L4) M w3:=by
 have S:=h.wi.size;have R:=b.size;have N:=h.below b;have C:∀ k,vL.ownBlock=some k→T k=2∧k<w.heap.size:=fun k hk=>⟨h.rl.tag k hk,hlt k (by rw[h.rl.tag k hk];decide)⟩;have H:∀ k,vM.ownBlock=some k→T k=3∧k<w.heap.size:=fun k hk=>⟨h.rm.tag k hk,hlt k (by rw[h.rm.tag k hk];decide)⟩;have E:∀ x∈L++M,zp w3 0 5 x.1 x.2.cells.length (zt x.2.cells)∧∃ q,x.1.ownBlock=some q∧q<w1.heap.size∧((q<w.heap.size∧T q=10+q)∨(w.heap.size≤q∧vM.ownBlock≠some q∧v7.ownBlock≠some q)):=fun x hx=>by
  obtain⟨F,q,A,h3⟩:=N.tags hlt x hx;have G:=(zg (h.ca x hx).1 q A).2;refine⟨zi F g (fun k hk e=>?_),q,A,G,?_⟩
  ·rw[A]at hk;injection hk with hk;subst hk;have:=C _ e;rcases h3 with h3 | h3
   ·omega
   ·exact h3.2.2 e
  ·rcases h3 with h3 | h3
   ·exact .inl h3
   ·refine .inr ⟨h3.1,h3.2.1,fun e=>?_⟩;rcases hn q e with e2 | e2
    ·exact h3.2.2 e2
    ·omega
 have G:∀ x∈L4,zp w3 0 5 x.1 x.2.cells.length (zt x.2.cells)∧∃ q,x.1.ownBlock=some q∧w1.heap.size≤q∧q<w2.heap.size:=fun x hx=>by
  obtain⟨q,J,_⟩:=r4.ap x hx;have I:=r4.cells x hx;have O:=zg I q J;refine⟨zP (zi I g (fun k hk e=>?_)) (Nat.zero_le _),q,J,O⟩;have:=C k e;have:=(zg I k hk).1;omega
 refine⟨(h.wi.trans (zh.of_below b)).trans (zh.of_gb g (fun k hk=>.inl (by rw[(C k hk).1];decide))),?_,zi N.rm.own g (fun k hk e=>by have:=C k e;have:=H k hk;omega),fun k hk=>?_,fun k hk=>.inl (H k hk).1,fun x hx=>?_,?_⟩
 ·rw[List.length_append,zO];exact o7
 ·rcases hn k hk with e | e
  ·exact .inl (C k e).1
  ·exact .inr ⟨by omega,fun e2=>by have:=H k e2;omega⟩
 ·have hcase:x∈L++M∨x∈L4:=by
   rcases List.mem_append.1 hx with hx | hx
   ·rcases List.mem_append.1 hx with hx | hx
    ·exact .inl (List.mem_append_left _ hx)
    ·exact .inr hx
   ·exact .inl (List.mem_append_right _ hx)
  rcases hcase with hx | hx
  ·obtain⟨F,q,A,_,h3⟩:=E x hx;exact⟨F,q,A,h3⟩
  ·obtain⟨F,q,A,h3⟩:=G x hx;refine⟨F,q,A,.inr ⟨by omega,fun e=>by have:=H q e;omega,fun e=>?_⟩⟩;rcases hn q e with e2 | e2
   ·have:=C q e2;omega
   ·omega
 ·have B:=h.nd;have D:∀ x∈L++M,∀ y∈L4,x.1.ownBlock≠y.1.ownBlock:=fun x hx y hy e=>by
   obtain⟨_,q,A,h3,_⟩:=E x hx;obtain⟨_,V,U,X⟩:=G y hy;rw[A,U]at e;injection e with e;omega
  rw[List.append_assoc];rw[List.map_append,List.nodup_append]at B;refine zaX B.1 (zaX r4.nd B.2.1 fun x hx y hy e=>D y (List.mem_append_right _ hy) x hx e.symm) fun x hx y hy e=>?_;rcases List.mem_append.1 hy with hy | hy
  ·exact D x (List.mem_append_left _ hx) y hy e
  ·exact B.2.2 _ (List.mem_map_of_mem hx) _ (List.mem_map_of_mem hy) e
end
section
open Go.ChangeShapes Go.WideShapes Go.ChangeAt Go.RowKit Go.ChangeMaps
theorem zji {H:Type} {enc:TypeId × Value→H} {W:World} {fuel:Nat} {a:Option Addr} {len cap:Nat} {x:DataW H × List MemPlace}
  (h:DataW.trod enc prog W 0 (fun _=>true) true fuel 70 (Value.slice a len cap).cells.toList=some x) :
  ∃ l:List ByteArray,zhd W (.slice a len cap) (l.map Value.string)∧(∀ s∈l,s.size≤maxLen)∧l.length≤9223372036854775807:=by
 rcases DataW.trod_slice underlying70 h with ⟨hcs,hx⟩ | ⟨ad,l,c,elems,rest,n,hfu,hcs,hx,_,hlc,hcm,hel,hat,_,_⟩
 ·simp[Value.cells]at hcs;obtain⟨rfl,rfl,rfl⟩:=hcs;exact⟨[],.inl ⟨rfl,rfl⟩,fun _ h=>by simp at h,Nat.zero_le _⟩
 ·simp[Value.cells]at hcs;obtain⟨rfl,rfl,rfl⟩:=hcs;have A:∀ i,i<len→∃ s:ByteArray,W.cell? (ad.add i)=some (.string s)∧s.size≤maxLen:=by
   intro i C;have E:=hat i C;rw[zhf,List.getElem?_eq_getElem (by omega)]at E;obtain⟨M,D,L⟩:=Option.bind_eq_some_iff.1 E;obtain⟨s,e,N,I⟩:=DataW.trod_string underlying9 L;unfold World.cells? at D;rw[if_pos (Nat.zero_le _)]at D;obtain⟨O,J,G⟩:=zhP D;rw[J]at e;rw[zkL]at G;exact⟨s,by rw[G];simpa using e,I⟩
  obtain⟨l,B,F⟩:=zhQ A len (Nat.le_refl _);refine⟨l,.inr ⟨ad,cap,by rw[List.length_map,B],by rw[List.length_map,B];exact hlc,by unfold maxLen at hcm;exact hcm,fun j hj=>?_⟩,fun s hs=>?_,?_⟩
  ·rw[List.length_map]at hj;rw[(F j hj).1,List.getD_eq_getElem?_getD,List.getElem?_map,List.getElem?_eq_getElem hj];rfl
  ·obtain⟨i,C,rfl⟩:=List.getElem_of_mem hs;exact(F i C).2
  ·rw[B];unfold maxLen at hcm;omega
end
end Go.Proofs.YthehkmopdeebmaaGreatDoor
