/- Part. -/
import Derived.Test.YthehkmopdeebmaaGreatDoorY22
import Derived.Test.YthehkmopdeebmaaGreatDoorY29
import Derived.Test.YthehkmopdeebmaaGreatDoorY34
set_option linter.unusedVariables false
set_option linter.unusedSimpArgs false
set_option maxRecDepth 100000
set_option maxHeartbeats 8000000
namespace Go.Proofs.YthehkmopdeebmaaGreatDoor
open _root_.Go.Proofs.Tryz
section
open Go.RowKit
def Scr.quiet (s:Scr):Scr:={ s with out:=[] }
theorem Scr.Ok.quiet {c r:Nat} {s:Scr} (h:s.Ok c r):s.quiet.Ok c r:=⟨h.main,h.other,h.now,h.k0,h.k1,h.t0,h.tb,h.b1,h.tl,h.md⟩
def VAct.behind (a:VAct) (ps:PSt):PSt:=if a.ris then s0 else ps
theorem zn8 (a:VAct) (ps:PSt) (hk:a.kind=3):za0 a.byte a.inter.data.toList ps=a.behind ps:=by
 unfold za0 zaa VAct.behind VAct.ris;rw[hk];by_cases hi:a.inter.data.toList=[]
 ·rw[if_pos hi,hi];by_cases hb:a.byte=99
  ·rw[hb];rfl
  ·have e:¬ (a.byte.toNat:Int)=99:=fun e=>hb (by
    apply UInt8.toNat.inj;show a.byte.toNat=99;omega)
   rw[if_neg e,Qb hb];rfl
 ·rw[if_neg hi,Qb hi];simp
theorem zeV (a:VAct) (ps:PSt) (hk:¬ a.kind=3):a.behind ps=ps:=by
 unfold VAct.behind VAct.ris;rw[Qb hk];rfl
def zpw (B:World) (C:Nat→Nat) (p:Nat) (w:World) (s:Scr) (ps:PSt) (e:Ending) (w':World):Prop :=
 ∃ vo C',e=.returned vo∧SR B C' p w' s ps∧Pre C w C' w'∧zp w' 0 1 vo s.out.length (zu s.out)∧∀ k,vo.ownBlock=some k→C' k≠0
theorem zn9 {B:World} {C:Nat→Nat} {p c r:Nat} {w:World} {s:Scr} {ps:PSt} (h:SR B C p w s ps) (hok:s.Ok c r) (a:VAct) (v:Value) (hv:za7 C w v a.params) (hr:-2147483648≤a.rune∧a.rune≤2147483647) (ht:a.text.size≤1000000) (hlast:-2147483648≤s.last∧s.last≤2147483647) :
  Calls prog 44 #[.pointer (some ⟨p,0,none⟩),a.val v] w (zpw B C p w (s.act a) (a.behind ps)):=by
 have G0:=zbm h hv;have X:=(Below.refl w.heap.size w).alloc (Nat.le_refl _) (.cells (a.cells v).toArray 93);unfold VAct.cells at X;have C0:=Qh (h.below X);have D0:=Qh ((Pre.refl C w).below X);have A0:=Qh G0;have U:=Qh hok.quiet;have H0:=Qh hr;have I0:=Qh ht;have J0:=Qh (show -2147483648≤s.quiet.last∧s.quiet.last≤2147483647 from hlast);clear G0 X hv h hok hr ht hlast;unfold VAct.val;obtain⟨A,hA⟩:∃ A,A=w.heap.size:=⟨_,rfl⟩;rw[← hA]at A0;have F0:=Qh (show za8 a v A C (w.alloc (.cells #[.int .i64 a.kind,.int .i32 a.rune,.int .u8 (a.byte.toNat:Int),v,.string a.inter,.string a.text] 93)) from A0.out);clear A0;have N0:=C0.out.outs;obtain⟨vo,J,_,_,Z⟩:=N0;have L0:=C0.out.fz 40;obtain⟨C1,h1,p1⟩:=Z _ _ (.slice none 0 0) [] (zo _ none) (zo _ _) (Zy _ _ _) (fun k e=>by simp[Value.ownBlock]at e);have HR:=Qh (show SR B C1 p _ s.quiet ps from h1);have HP:=Qh (D0.trans p1);have HB:=Qh (F0.next p1);clear Z h1 p1 C0 D0;go_enter func44,ntmps44;go_upto_region 2 with fail;rw[← hA]at *;clear hA J L0;generalize World.setCell (w.alloc (.cells #[.int .i64 a.kind,.int .i32 a.rune,.int .u8 (a.byte.toNat:Int),v,.string a.inter,.string a.text] 93)) ⟨p,40,none⟩ (.slice none 0 0)=w1 at *;have a0:w1.cell? ⟨A,0,none⟩=some (.int .i64 a.kind):=za HB.blk 0;have a1:w1.cell? ⟨A,1,none⟩=some (.int .i32 a.rune):=za HB.blk 1;have a2:w1.cell? ⟨A,2,none⟩=some (.int .u8 (a.byte.toNat:Int)):=za HB.blk 2;have a3:w1.cell? ⟨A,3,none⟩=some (v):=za HB.blk 3;have a4:w1.cell? ⟨A,4,none⟩=some (.string a.inter):=za HB.blk 4;have a5:w1.cell? ⟨A,5,none⟩=some (.string a.text):=za HB.blk 5;by_cases hk:a.kind=1
 ·have e1:(a.kind == 1)=true:=beq_iff_eq.2 hk;have O:=Qh (show s.act a=s.quiet.print a.rune by
   unfold Scr.act;dsimp only;rw[if_pos hk];rfl)
  have E:=Qh (zeV a ps (by omega));clear hk;go_wp2_with fail;refine(zfX HR U a.rune H0).mono ?_;rintro e w7 ⟨rfl,T,D,L⟩;rw[← O.out]at D;rw[← E.out]at D;have H:=Qh D;have S:=Qh (HP.trans L);clear D L a0 a1 a2 a3 a4 a5;obtain⟨M,J,G,F,_⟩:=H.out.outs;have R:=Qh G;have N:=Qh F;clear G F;go_wp2_with fail;exact Ze rfl rfl rfl ⟨_,T,rfl,H,S,R,fun k e=>by rw[(N.out k e).1];decide⟩
 have V:=Qh hk;have n1:=hk;clear hk;by_cases hk:a.kind=2
 ·have e1:(a.kind == 1)=false:=Qb (by omega);have e2:(a.kind == 2)=true:=beq_iff_eq.2 hk;have O:=Qh (show s.act a=s.quiet.control a.byte by
   unfold Scr.act;dsimp only;rw[if_neg V.out,if_pos hk];rfl)
  have E:=Qh (zeV a ps (by omega));clear hk;go_wp2_with fail;refine(zht HR U a.byte).mono ?_;rintro e w7 ⟨rfl,T,D,L⟩;rw[← O.out]at D;rw[← E.out]at D;have H:=Qh D;have S:=Qh (HP.trans L);clear D L a0 a1 a2 a3 a4 a5;obtain⟨M,J,G,F,_⟩:=H.out.outs;have R:=Qh G;have N:=Qh F;clear G F;go_wp2_with fail;exact Ze rfl rfl rfl ⟨_,T,rfl,H,S,R,fun k e=>by rw[(N.out k e).1];decide⟩
 have Y:=Qh hk;have n2:=hk;clear hk;by_cases hk:a.kind=3
 ·have e1:(a.kind == 1)=false:=Qb (by omega);have e2:(a.kind == 2)=false:=Qb (by omega);have e3:(a.kind == 3)=true:=beq_iff_eq.2 hk;have O:=Qh (show s.act a=s.quiet.escape a.byte a.inter.data.toList by
   unfold Scr.act;dsimp only;rw[if_neg V.out,if_neg Y.out,if_pos hk];rfl)
  have E:=Qh (zn8 a ps hk);have I:=Qh (ziv HR U a v (show s.quiet.out.length≤100000 from Nat.zero_le _));unfold VAct.val at I;clear hk;go_wp2_with fail;refine(I).mono ?_;rintro e w7 ⟨rfl,T,D,L⟩;rw[← O.out]at D;rw[E.out]at D;have H:=Qh D;have S:=Qh (HP.trans L);clear D L a0 a1 a2 a3 a4 a5;obtain⟨M,J,G,F,_⟩:=H.out.outs;have R:=Qh G;have N:=Qh F;clear G F;go_wp2_with fail;exact Ze rfl rfl rfl ⟨_,T,rfl,H,S,R,fun k e=>by rw[(N.out k e).1];decide⟩
 have B0:=Qh hk;have n3:=hk;clear hk;by_cases hk:a.kind=4
 ·have e1:(a.kind == 1)=false:=Qb (by omega);have e2:(a.kind == 2)=false:=Qb (by omega);have e3:(a.kind == 3)=false:=Qb (by omega);have e4:(a.kind == 4)=true:=beq_iff_eq.2 hk;have O:=Qh (show s.act a=s.quiet.csi a.byte a.params a.inter.data.toList by
   unfold Scr.act;dsimp only;rw[if_neg V.out,if_neg Y.out,if_neg B0.out,if_pos hk];rfl)
  have E:=Qh (zeV a ps (by omega));have I:=Qh (zmX HR U a v HB.ap (show s.quiet.out.length≤100000 from Nat.zero_le _) J0);unfold VAct.val at I;clear hk;go_wp2_with fail;refine(I).mono ?_;rintro e w7 ⟨rfl,T,D,L⟩;rw[← O.out]at D;rw[← E.out]at D;have H:=Qh D;have S:=Qh (HP.trans L);clear D L a0 a1 a2 a3 a4 a5;obtain⟨M,J,G,F,_⟩:=H.out.outs;have R:=Qh G;have N:=Qh F;clear G F;go_wp2_with fail;exact Ze rfl rfl rfl ⟨_,T,rfl,H,S,R,fun k e=>by rw[(N.out k e).1];decide⟩
 have E0:=Qh hk;have n4:=hk;clear hk;by_cases hk:a.kind=5
 ·have e1:(a.kind == 1)=false:=Qb (by omega);have e2:(a.kind == 2)=false:=Qb (by omega);have e3:(a.kind == 3)=false:=Qb (by omega);have e4:(a.kind == 4)=false:=Qb (by omega);have e5:(a.kind == 5)=true:=beq_iff_eq.2 hk;have O:=Qh (show s.act a=s.quiet.named a.text.data.toList by
   unfold Scr.act;dsimp only;rw[if_neg V.out,if_neg Y.out,if_neg B0.out,if_neg E0.out,if_pos hk];rfl)
  have E:=Qh (zeV a ps (by omega));clear hk;go_wp2_with fail;refine(zjF HR a.text I0).mono ?_;rintro e w7 ⟨rfl,T,D,L⟩;rw[← O.out]at D;rw[← E.out]at D;have H:=Qh D;have S:=Qh (HP.trans L);clear D L a0 a1 a2 a3 a4 a5;obtain⟨M,J,G,F,_⟩:=H.out.outs;have R:=Qh G;have N:=Qh F;clear G F;go_wp2_with fail;exact Ze rfl rfl rfl ⟨_,T,rfl,H,S,R,fun k e=>by rw[(N.out k e).1];decide⟩
 have M0:=Qh hk;have n5:=hk;clear hk;by_cases hk:a.kind=6
 ·have e1:(a.kind == 1)=false:=Qb (by omega);have e2:(a.kind == 2)=false:=Qb (by omega);have e3:(a.kind == 3)=false:=Qb (by omega);have e4:(a.kind == 4)=false:=Qb (by omega);have e5:(a.kind == 5)=false:=Qb (by omega);have e6:(a.kind == 6)=true:=beq_iff_eq.2 hk;have O:=Qh (show s.act a=s.quiet.asked a.byte a.inter.data.toList a.text.data.toList by
   unfold Scr.act;dsimp only;rw[if_neg V.out,if_neg Y.out,if_neg B0.out,if_neg E0.out,if_neg M0.out,if_pos hk];rfl)
  have E:=Qh (zeV a ps (by omega));have I:=Qh (zjN HR U a v HB.ap (show s.quiet.out.length≤100000 from Nat.zero_le _));unfold VAct.val at I;clear hk;go_wp2_with fail;refine(I).mono ?_;rintro e w7 ⟨rfl,T,D,L⟩;rw[← O.out]at D;rw[← E.out]at D;have H:=Qh D;have S:=Qh (HP.trans L);clear D L a0 a1 a2 a3 a4 a5;obtain⟨M,J,G,F,_⟩:=H.out.outs;have R:=Qh G;have N:=Qh F;clear G F;go_wp2_with fail;exact Ze rfl rfl rfl ⟨_,T,rfl,H,S,R,fun k e=>by rw[(N.out k e).1];decide⟩
 have O0:=Qh hk;have n6:=hk;clear hk;have e1:(a.kind == 1)=false:=Qb n1;have e2:(a.kind == 2)=false:=Qb n2;have e3:(a.kind == 3)=false:=Qb n3;have e4:(a.kind == 4)=false:=Qb n4;have e5:(a.kind == 5)=false:=Qb n5;have e6:(a.kind == 6)=false:=Qb n6;have O:=Qh (show s.act a=s.quiet by
  unfold Scr.act;dsimp only;rw[if_neg n1,if_neg n2,if_neg n3,if_neg n4,if_neg n5,if_neg n6];rfl)
 have E:=Qh (zeV a ps n3);clear n1 n2 n3 n4 n5 n6;have D:=HR.out;rw[← O.out]at D;rw[← E.out]at D;have H:=Qh D;clear D;obtain⟨M,J,G,F,_⟩:=H.out.outs;have R:=Qh G;have N:=Qh F;clear G F;go_wp2_with fail;exact Ze rfl rfl rfl ⟨_,C1,rfl,H,HP,R,fun k e=>by rw[(N.out k e).1];decide⟩
end
section
open Go.RowKit
structure zbU (C:Nat→Nat) (w:World) (size:Nat) (v:Value) (n:Nat) (xs:List Value) (base:Nat):Prop where
 own:zp w base size v n xs
 zero:∀ k,v.ownBlock=some k→C k=0
theorem zbU.next {C C':Nat→Nat} {w w':World} {size:Nat} {v:Value} {n:Nat} {xs:List Value} {base:Nat} (h:zbU C w size v n xs base) (g:Pre C w C' w'):zbU C' w' size v n xs base:=by
 have A:∀ k,v.ownBlock=some k→¬ Go.Proofs.YthehkmopdeebmaaGreatDoor.own C w k:=fun k hk e=>by
  rcases e with e | e
  ·exact e (h.zero k hk)
  ·have:=(zg h.own k hk).2;omega
 refine⟨Zu h.own g.wi.size fun k hk=>g.wi.block k (zg h.own k hk).2 (A k hk),fun k hk=>?_⟩;by_cases e:C' k=0
 ·exact e
 ·exact absurd (g.n k e) (A k hk)
theorem zbU.below {C:Nat→Nat} {w w':World} {size:Nat} {v:Value} {n:Nat} {xs:List Value} {base:Nat} (h:zbU C w size v n xs base) (b:Below w.heap.size w w'):zbU C w' size v n xs base:=h.next ((Pre.refl C w).below b)
structure zfr (C:Nat→Nat) (w:World) (v:Value) (L:List (VAct × Value)):Prop where
 arr:zbU C w 6 v L.length (zaq L) 0
 par:∀ x∈L,za7 C w x.2 x.1.params
theorem zfr.next {C C':Nat→Nat} {w w':World} {v:Value} {L:List (VAct × Value)} (h:zfr C w v L) (g:Pre C w C' w'):zfr C' w' v L:=⟨h.arr.next g,fun x hx=>(h.par x hx).next g⟩
theorem zmY {w:World} {base b off n c:Nat} {L:List (VAct × Value)} (h:zp w base 6 (.slice (some ⟨b,off,none⟩) n c) n (zaq L)) (k:Nat) (hk:k<L.length) :
  w.cell? ⟨b,off+k*6,none⟩=some (.int .i64 L[k].1.kind)∧w.cell? ⟨b,off+k*6+1,none⟩=some (.int .i32 L[k].1.rune)∧w.cell? ⟨b,off+k*6+2,none⟩=some (.int .u8 (L[k].1.byte.toNat:Int)) ∧
  w.cell? ⟨b,off+k*6+3,none⟩=some L[k].2∧w.cell? ⟨b,off+k*6+4,none⟩=some (.string L[k].1.inter)∧w.cell? ⟨b,off+k*6+5,none⟩=some (.string L[k].1.text):=by
 obtain⟨D,h2⟩:=h;rcases h2 with ⟨e,_⟩ | ⟨C,B,E,e,hb,hbs,hnc,hcm,hcells,hxs⟩
 ·simp at e
 ·simp only[Value.slice.injEq,Option.some.injEq,Addr.mk.injEq]at e;obtain⟨⟨rfl,rfl,_⟩,_,rfl⟩:=e;have A:∀ i u,i<6→(L[k].1.cells L[k].2)[i]?=some u→w.cell? ⟨b,off+(k*6+i),none⟩=some u:=fun i u hi hu=>hxs _ u (by rw[zfd L k hk i hi];exact hu);exact⟨A 0 _ (by decide) rfl,A 1 _ (by decide) rfl,A 2 _ (by decide) rfl,A 3 _ (by decide) rfl,A 4 _ (by decide) rfl,A 5 _ (by decide) rfl⟩
theorem zlK {w:World} {base b off n c:Nat} {l:List UInt8} (h:zp w base 1 (.slice (some ⟨b,off,none⟩) n c) l.length (zu l)) (k:Nat) (hk:k<l.length) :
  zp w base 1 (.slice (some ⟨b,off+k,none⟩) 1 (c-k)) 1 (zu [l.getD k 0]):=by
 obtain⟨C,h2⟩:=h;refine⟨rfl,?_⟩;rcases h2 with ⟨e,_⟩ | ⟨B,A,D,e,hb,hbs,hnc,hcm,hcells,hxs⟩
 ·simp at e
 ·simp only[Value.slice.injEq,Option.some.injEq,Addr.mk.injEq]at e;obtain⟨⟨rfl,rfl,_⟩,_,rfl⟩:=e;refine .inr ⟨b,off+k,c-k,rfl,hb,hbs,by omega,by omega,fun j hj=>?_,fun j u hu=>?_⟩
  ·have:=hcells (k+j) (by omega);rw[← Nat.add_assoc]at this;exact this
  ·match j,hu with
   | 0,hu =>
    refine hxs k u ?_;rw[← hu];unfold zu;rw[List.getElem?_map,List.getElem?_eq_getElem hk,List.getD_eq_getElem?_getD,List.getElem?_eq_getElem hk];rfl
   | j+1,hu=>simp[zu]at hu
theorem SR.grow {B:World} {C:Nat→Nat} {p:Nat} {w w':World} {s:Scr} {ps:PSt} {row:Option Nat} (h:SR B C p w s ps) (g:w.grownBy w' row) (h0:∀ k,row=some k→C k=0) (hB:∀ k,row=some k→B.heap.size≤k):SR B C p w' s ps:=by
 refine h.other (C1:=fun k=>if row=some k then 1 else 0) (zh.of_gb g fun k A=>.inl (by show(if row=some k then 1 else 0)≠0;rw[if_pos A];decide)) (fun k A=>?_) (fun k A=>?_)
 ·show(if row=some k then 1 else 0)=0;by_cases e:row=some k
  ·exact absurd (h0 k e) A
  ·rw[if_neg e]
 ·have A:(if row=some k then 1 else 0)≠0:=A;by_cases e:row=some k
  ·exact hB k e
  ·rw[if_neg e]at A;exact absurd rfl A
theorem Pre.grow {C C':Nat→Nat} {w w1 w2:World} {row:Option Nat} (g:Pre C w C' w1) (g2:w1.grownBy w2 row) (h:∀ k,row=some k→w.heap.size≤k):Pre C w C' w2:=⟨g.wi.trans (zh.of_gb g2 fun k hk=>.inr (h k hk)),g.n⟩
def Apt (ov v:Value) (L:List (VAct × Value)):Prop:=∀ k,ov.ownBlock=some k→v.ownBlock≠some k∧∀ x∈L,x.2.ownBlock≠some k
theorem za7.grow {C:Nat→Nat} {w w':World} {v:Value} {l:List Int} {row:Option Nat} (h:za7 C w v l) (g:w.grownBy w' row) (hn:∀ k,v.ownBlock=some k→row≠some k):za7 C w' v l:=by
 refine⟨?_,h.own⟩;rcases h.rd with h1 | ⟨a,c,rfl,h1,h2,h3⟩
 ·exact .inl h1
 ·refine .inr ⟨a,c,rfl,h1,h2,fun j hj=>(zgP ?_).trans (h3 j hj)⟩;have A:=zaO (h3 j hj);rw[zdc]at A ⊢;exact g.block _ A (fun e=>hn a.block rfl e.symm)
theorem zfr.grow {C:Nat→Nat} {w w':World} {v ov:Value} {L:List (VAct × Value)} (h:zfr C w v L) (g:w.grownBy w' ov.ownBlock) (ha:Apt ov v L):zfr C w' v L :=
 ⟨⟨zi h.arr.own g fun k hk e=>(ha k e).1 hk,h.arr.zero⟩,fun x hx=>(h.par x hx).grow g fun k hk e=>(ha k e).2 x hx hk⟩
theorem zkq (s:PSt) (b:UInt8):s.run [b]=s.step b:=by
 unfold PSt.run PSt.run;simp
theorem zmZ:(prog.info? 93).map (·.size)=some 6:=by kernel_rfl
theorem zoa {t1:Trm} {l:List UInt8} {k:Nat} (hk:k<l.length):t1.feed (l.drop k)=(((t1.byte (l.getD k 0)).1.feed (l.drop (k+1))).1,(t1.byte (l.getD k 0)).2++((t1.byte (l.getD k 0)).1.feed (l.drop (k+1))).2):=by
 rw[List.drop_eq_getElem_cons hk,List.getD_eq_getElem?_getD,List.getElem?_eq_getElem hk];rfl
theorem zob {t1:Trm} {L:List (VAct × Value)} {j:Nat} (hj:j<L.length):t1.acts ((L.drop j).map (·.1))=(((t1.act L[j].1).acts ((L.drop (j+1)).map (·.1))).1,(t1.act L[j].1).scr.out++((t1.act L[j].1).acts ((L.drop (j+1)).map (·.1))).2):=by
 rw[List.drop_eq_getElem_cons hj];rfl
def zpm (B:World) (C:Nat→Nat) (p c r:Nat) (w:World) (t:Trm) (l:List UInt8) (e:Ending) (w':World):Prop :=
 ∃ vo C',e=.returned vo∧SR B C' p w' (t.feed l).1.scr (t.feed l).1.par∧Pre C w C' w'∧zbU C' w' 1 vo (t.feed l).2.length (zu (t.feed l).2) w.heap.size∧(t.feed l).1.Ok c r
theorem zeW {B:World} {C:Nat→Nat} {p c r:Nat} {w:World} {t:Trm} (h:SR B C p w t.scr t.par) (hok:t.Ok c r) (vb:Value) (l:List UInt8) (hb:zbU C w 1 vb l.length (zu l) 0) (hl:l.length≤10000000) :
  Calls prog 10 #[.pointer (some ⟨p,0,none⟩),vb] w (zpm B C p c r w t l):=by
 have N:=h.nums hok.scr;obtain⟨ec,er⟩:=N.ok hok.scr;have B0:1≤c:=(by have:=N.c1;omega);have F0:1≤r:=(by have:=N.r1;omega);have D0:c≤1000:=(by have:=N.c2;omega);have C0:r≤1000:=(by have:=N.r2;omega);have Y2:=Qh (Trm.Ok.feed B0 F0 D0 C0 l hok);have L3:=Qh (fun (t1:Trm) (h1:t1.Ok c r) (b:UInt8)=>Trm.Ok.byte B0 F0 D0 C0 h1 b);have G1:=Qh (fun (t1:Trm) (h1:t1.Ok c r) (a:VAct) (ha:AOk a)=>h1.act B0 F0 D0 C0 ha);have H:=Qh h;have HB:=Qh hb;have L2:=Qh hok;have M3:=Zf underlying32 hb.own;clear N ec er B0 F0 D0 C0 h hb hok;go_enter func10,ntmps10;go_wp2_with fail
 go_loopw [5,11] (fun vv iv wr=>∃ (k:Nat) (C1:Nat→Nat) (t1:Trm) (o:List UInt8) (ov:Value),ov=vv∧k≤l.length∧iv=.int .i64 k∧Hid (SR B C1 p wr t1.scr t1.par)∧Hid (Pre C w C1 wr)∧Hid (t1.Ok c r)∧Hid (zbU C1 wr 1 ov o.length (zu o) w.heap.size)∧o.length≤2400*k∧Hid ((t.feed l).1=(t1.feed (l.drop k)).1∧(t.feed l).2=o++(t1.feed (l.drop k)).2)) (fun _ iv _=>l.length-(intOf iv).toNat)
 case atStart=>exact⟨0,C,t,[],.slice none 0 0,rfl,Nat.zero_le _,rfl,H,Pre.refl _ _,L2,⟨Zy _ _ _,fun k hk=>by simp[Value.ownBlock]at hk⟩,Nat.le_refl _,rfl,rfl⟩
 case round =>
  obtain⟨k,C1,t1,o,ov,rfl,hk,rfl,H1,P1,O1,A1,ho,HQ⟩:=hrel;obtain⟨wo,rfl⟩:∃ wo,wo=wr:=⟨wr,rfl⟩;by_cases hlt:k<l.length;rotate_left
  ·have d1:decide ((k:Int)<(l.length:Int))=false:=Qf (by omega);have M2:decide (k<l.length)=false:=Qf hlt;have hq:=HQ.out;rw[List.drop_eq_nil_of_le (by omega),show t1.feed []=(t1,[]) from rfl,List.append_nil]at hq;have R:=Qh hq;clear hq;go_wp2_with fail;refine Ze rfl rfl rfl ⟨_,C1,rfl,?_,P1,?_,Y2.1⟩
   ·rw[R.out.1];exact H1
   ·rw[R.out.2];exact A1
  have d1:decide ((k:Int)<(l.length:Int))=true:=Qt (by omega);have M2:decide (k<l.length)=true:=Qt hlt;have I3:IntKind.i64.wrap ((k:Int)+1)=(k:Int)+1:=zd _ (by omega) (by omega);have Y:=HB.out.next P1;obtain⟨bb,fb,cb,e1,R3,J3⟩:=zE Y.own (by omega);subst e1;have M1:=Qh (zlK Y.own k hlt);have S1:=Qh (Y.zero bb rfl);obtain⟨T,q,hr,E,A0,E1⟩:=H1.out.parser;have Y1:=Qh (show T bb=0 from by
   by_cases e:T bb=0
   ·exact e
   ·have:=A0 bb e;rw[S1.out]at this;cases this)
  have X:=(Below.refl wo.heap.size wo).drew;have B1:=Qh (zkY (.slice (some ⟨bb,fb+k,none⟩) 1 (cb-k)) [l.getD k 0] (hr.below X) ⟨zk M1 X,fun j hj=>by
   have:bb=j:=(by simpa [Value.ownBlock] using hj);rw[← this];exact Y1⟩ (by show 1≤100000000;decide))
  have V0:=Qh E1;have Z1:=Qh X;have X1:=Qh (show T p=0 from by
   by_cases e:T p=0
   ·exact e
   ·have e6:=A0 p e;obtain⟨_,_,_,_,_,_,_,_,hs⟩:=H1.out.sm;rw[hs.cp]at e6;cases e6)
  have R0:=Qh H1.pl;have Z2:=Qh (zoa (t1:=t1) hlt);clear hr E1 X Y;go_upto_region 5 with fail;refine zJ (c:=9) (S:=(fun bb w'=>(w'.cell? ⟨p,39,none⟩=some (.pointer (some ⟨q,0,none⟩)))∧(bb=false→True))) (by kernel_rfl) (⟨E,fun _=>trivial⟩) (fun _=>?_);refine zb false 0 (⟨E,fun _=>trivial⟩) ?_;refine zb false 1 (⟨E,fun _=>trivial⟩) ?_;refine zb false 2 (⟨E,fun _=>trivial⟩) ?_;refine zb false 3 (⟨E,fun _=>trivial⟩) ?_;refine zb false 4 (⟨E,fun _=>trivial⟩) ?_;refine zb false 5 (⟨E,fun _=>trivial⟩) ?_;refine zb false 6 (⟨E,fun _=>trivial⟩) ?_;refine zb false 7 (⟨E,fun _=>trivial⟩) ?_;refine zb false 11 (⟨E,fun _=>trivial⟩) ?_;refine zj false 8 fun K hK=>?_;refine ze rfl ?_;go_wp2_with fail;refine hK.out _ _ (⟨E,fun _=>trivial⟩) (fun _=>?_);clear hK K
  try simp only[Act.put,List.setIfInBounds_toArray,List.set_cons_zero,List.set_cons_succ]
  refine zj true 9 fun K hK=>?_;refine ze rfl ?_;go_wp2_with fail;refine B1.mono ?_;rintro e w3 ⟨v1,T2,L,rfl,ha,S0,E2,D1,L0,U1,X0⟩;have N0:=(zw (S0.block p (by exact R0) (fun e=>by
   rcases e with e | e
   ·exact e X1
   ·have:=R0.out;have e':wo.heap.size≤p:=e;omega)) 39).trans E
  have E3:=Zf underlying90 L0.1.own;have B2:=Qh ha;have I1:=Qh S0;have L1:=Qh E2;have F1:=Qh D1;have O:=Qh L0;have H0:=Qh U1;have T0:=Qh X0;refine hK.out _ _ (⟨N0,fun e=>by cases e⟩) (fun _=>?_);clear hK K ha S0 E2 D1 L0 U1 X0
  try simp only[Act.put,List.setIfInBounds_toArray,List.set_cons_zero,List.set_cons_succ]
  refine zb true 10 (⟨N0,fun e=>by cases e⟩) ?_;refine zD (by kernel_rfl) ?_ _;go_wp2_with fail;obtain⟨C3,h3,p3,z3⟩:=V0.out w3 T2 _ ((zh.of_below Z1).trans (I1.mono fun k hk=>hk)) F1 (fun k hk=>L1 k hk);rw[zkq]at h3;have hL:L.map (·.1)=(t1.par.step (l.getD k 0)).2:=(by rw[← zkq];exact B2);obtain⟨g1,g2,_⟩:=zeN (l.getD k 0) O1.par;have S3:L.length≤4:=by
   have e1:=congrArg List.length hL;rw[List.length_map]at e1;have:=zfL t1.par (l.getD k 0);omega
  have V2:=Qh (show ∀ x∈L,AOk x.1 from fun x hx=>g2 _ (by rw[← hL];exact List.mem_map_of_mem hx));have A3:=Qh ((A1).next p3);have T3:=Qh (show zfr C3 w3 v1 L from⟨⟨O.1.own,fun j hj=>z3 j (H0 j hj) (O.1.tag j hj)⟩,fun x hx=>⟨zex (O.2 x hx).own,fun _ a n cc e=>z3 _ (T0 x hx _ (by rw[e];rfl)) ((O.2 x hx).tag _ (by rw[e];rfl))⟩⟩);have P3:=Qh (P1.trans p3);have B3:=Qh (show Apt ov v1 L from fun j hj=>by
   have h0:=A1.out.zero j hj;have hlt:=(zg A1.own j hj).2;have Y0:¬ Go.Proofs.YthehkmopdeebmaaGreatDoor.own T wo j:=fun e=>by
    rcases e with e | e
    ·have:=A0 j e;rw[h0]at this;cases this
    ·omega
   exact⟨fun e=>Y0 (H0 j e),fun x hx e=>Y0 (T0 x hx j e)⟩)
  have R2:=Qh (show ∀ n,w3.heap.size≤n→∀ x∈L,∀ k,x.2.ownBlock=some k→k<n from fun n hn x hx k hk=>Nat.lt_of_lt_of_le (zg (O.2 x hx).own k hk).2 hn);have O3:=Qh (show(⟨t1.scr,(t1.par.step (l.getD k 0)).1⟩:Trm).Ok c r from⟨O1.scr,O1.last,g1⟩);have X2:=Qh (show t1.byte (l.getD k 0)=(⟨t1.scr,(t1.par.step (l.getD k 0)).1⟩:Trm).acts (L.map (·.1)) by rw[hL];rfl);have H3:=Qh h3;clear h3 p3 z3 hL g1 g2 N0 E B1 V0 Z1 X1 R0 M1 S1 Y1 B2 I1 L1 F1 O H0 T0 H1 P1 A1 A0;generalize l.getD k 0=b at *;generalize hT:(⟨t1.scr,(t1.par.step b).1⟩:Trm)=ta at *;have J2:=Qh (show SR B C3 p w3 ta.scr ta.par by rw[← hT];exact H3);clear H3 hT O1
  go_loopw [5,25] (fun vv jv U=>∃ (j:Nat) (C2:Nat→Nat) (M:Trm) (o2:List UInt8) (G0:Value),G0=vv∧j≤L.length∧jv=.int .i64 j∧Hid (SR B C2 p U M.scr M.par)∧Hid (Pre C w C2 U)∧Hid (M.Ok c r)∧Hid (zbU C2 U 1 G0 o2.length (zu o2) w.heap.size)∧Hid (zfr C2 U v1 L)∧Hid (Apt G0 v1 L)∧Hid (w3.heap.size≤U.heap.size)∧o2.length≤2400*k+600*j∧Hid ((t1.byte b).1=(M.acts ((L.drop j).map (·.1))).1∧o++(t1.byte b).2=o2++(M.acts ((L.drop j).map (·.1))).2)) (fun _ jv _=>L.length-(intOf jv).toNat)
  case atStart=>exact⟨0,C3,ta,o,_,rfl,Nat.zero_le _,rfl,J2,P3,O3,A3,T3,B3,Nat.le_refl _,by omega,by rw[X2.out];exact⟨rfl,rfl⟩⟩
  case round =>
   obtain⟨j,C2,M,o2,G0,rfl,hj,rfl,H2,P2,O2,A2,T2,R1,U0,D3,R⟩:=hrel;obtain⟨U,rfl⟩:∃ U,U=wr:=⟨wr,rfl⟩;by_cases hjl:j<L.length;rotate_left
   ·have d2:decide ((j:Int)<(L.length:Int))=false:=Qf (by omega);have U2:decide (j<L.length)=false:=Qf hjl;have J0:=R.out;rw[List.drop_eq_nil_of_le (by omega),List.map_nil,show M.acts []=(M,[]) from rfl,List.append_nil]at J0;have V1:=Qh J0;clear J0;go_wp2_with fail;go_roundw
    case rel =>
     refine⟨k+1,C2,M,o2,_,rfl,by omega,by go_num,H2,P2,O2,A2,by omega,?_⟩;have hq:=HQ.out;rw[Z2.out,← List.append_assoc,V1.out.1,V1.out.2]at hq;exact hq
    case measure=>simp[intOf];omega
   have d2:decide ((j:Int)<(L.length:Int))=true:=Qt (by omega);have U2:decide (j<L.length)=true:=Qt hjl;have G3:IntKind.i64.wrap ((j:Int)+1)=(j:Int)+1:=zd _ (by omega) (by omega);obtain⟨va,fa,ca,e2,_,_⟩:=zE T2.arr.own (by omega);subst e2;obtain⟨q0,q1,q2,q3,q4,q5⟩:=zmY T2.arr.own j hjl;have G2:=Zw (P:=prog) (size:=6) underlying90 zmZ va fa L.length ca j hjl;have hap:=T2.out.par _ (List.getElem_mem hjl);have Z:=V2.out _ (List.getElem_mem hjl);have N1:=Qh (zob (t1:=M) hjl);generalize L[j]=x at *;obtain⟨⟨F,G,J,A,D,I⟩,vp⟩:=x;dsimp only at q0 q1 q2 q3 q4 q5 hap Z N1;have I0:=zh2 Z;obtain⟨T1,vn,vc,rfl⟩:∃ a n c,vp=Value.slice a n c:=by
    rcases hap.rd with ⟨h,_⟩ | ⟨a',c',h,_⟩
    ·exact⟨_,_,_,h⟩
    ·exact⟨_,_,_,h⟩
   have E0:=(Below.refl U.heap.size U).alloc (Nat.le_refl _) (.cells #[.int .i64 F,.int .i32 G,.int .u8 (J.toNat:Int),.slice T1 vn vc,.string D,.string I] 93);have HD:=Qh (zn9 (H2.below E0) O2.scr ⟨F,G,J,A,D,I⟩ (.slice T1 vn vc) (hap.below E0) I0.1 I0.2 O2.last);unfold VAct.val at HD;dsimp only at HD;have D2:=Qh E0;have M0:=Qh (G1 M O2 ⟨F,G,J,A,D,I⟩ Z);clear hap Z I0 E0;go_wp2_with fail;refine HD.mono ?_;rintro e w5 ⟨vo,C5,rfl,h5,p5,J1,z5⟩;have H5:=Qh (show SR B C5 p w5 (M.act ⟨F,G,J,A,D,I⟩).scr (M.act ⟨F,G,J,A,D,I⟩).par from h5);have V:=Qh ((Pre.refl C2 U).below D2 |>.trans p5);have F2:=Qh (show zp w5 0 1 vo (M.act ⟨F,G,J,A,D,I⟩).scr.out.length (zu (M.act ⟨F,G,J,A,D,I⟩).scr.out) from J1);have O5:=Qh M0.1;have N3:=M0.out.2;clear h5 p5 J1 z5 q0 q1 q2 q3 q4 q5 G2 HD M0 D2;have P5:=Qh (P2.trans V);have A5:=Qh (A2.next V);have T5:=Qh (T2.next V);have Z0:=V.out.wi.size;have F3:=P2.out.wi.size;have N2:=Qh (show ∀ x∈L,∀ k,x.2.ownBlock=some k→k<w5.heap.size from R2.out _ (Nat.le_trans U0 Z0));clear V O2 H2 P2 A2 T2;generalize M.act ⟨F,G,J,A,D,I⟩=t3 at *;go_wp2_with (at_builtin;refine zaQ ?_);unfold zaP;refine zfp zay rfl rfl w.heap.size A5.own rfl (Z4 underlying32 (zX F2) (zlV _)) rfl (by unfold maxLen;omega) (by omega) (by omega) ?_;intro v6 w6 o6 g6 n6;have O0:=zg A5.own;have H6:=Qh (H5.grow g6 A5.zero (fun q hq=>Nat.le_trans H.bl.size (O0 q hq).1));have P6:=Qh (P5.grow g6 (fun q hq=>(O0 q hq).1));have T6:=Qh (T5.grow g6 R1);have I2:=Qh (show Apt v6 (.slice (some ⟨va,fa,none⟩) L.length ca) L from fun q hq=>by
    rcases n6 q hq with e | e
    ·exact R1 q e
    ·refine⟨fun e2=>?_,fun x hx e2=>?_⟩
     ·have:=(zg T5.arr.own q e2).2;omega
     ·have:=N2.out x hx q e2;omega)
   have A6:=Qh (show zbU C5 w6 1 v6 (o2++t3.scr.out).length (zu (o2++t3.scr.out)) w.heap.size from⟨by rw[List.length_append,ZP];exact o6,fun q hq=>by
    rcases n6 q hq with e | e
    ·exact A5.zero q e
    ·exact H5.free e⟩)
   have S2:=Qh (show w3.heap.size≤w6.heap.size from Nat.le_trans (Nat.le_trans U0 Z0) g6.size);clear o6 g6 n6 O0;go_wp2_with fail;go_roundw
   case rel =>
    refine⟨j+1,C5,t3,o2++t3.scr.out,_,rfl,by omega,by go_num,H6,P6,O5,A6,T6,I2,S2,by rw[List.length_append];omega,?_⟩;have hq:=R.out;rw[N1.out,← List.append_assoc]at hq;exact hq
   case measure=>simp[intOf];omega
end
section
open Go.RowKit
attribute [local go_sem ↓] Go.wp_at_zero Go.wp_at_succ
theorem zgU {B:World} {C:Nat→Nat} {p:Nat} {w:World} {s:Scr} {ps:PSt} (h:SR B C p w s ps) (e:TypeId) (l:List UInt8) (A:Array Value) (hA:A.toList=zu l) (hm:l.length≤1000000) :
  zbU C (w.alloc (.cells A e (A.size,A.size+1))) 1 (.slice (some ⟨w.heap.size,0,none⟩) l.length l.length) l.length (zu l) 0 :=
 ⟨zP (zjW w e l A hA (by unfold maxLen;omega)) (Nat.zero_le _),fun k hk=>by
  simp[Value.ownBlock]at hk;exact h.free (by omega)⟩
theorem Pre.blk {C C':Nat→Nat} {w w':World} {k:Nat} {o:Obj} (g:Pre C w C' w') (h:w.heap[k]?=some o) (h0:C k=0):w'.heap[k]?=some o :=
 (g.wi.block k (zq h) (fun e=>by
  have:=zq h;rcases e with e | e
  ·exact e h0
  ·omega)).trans h
theorem zlL {B:World} {C:Nat→Nat} {p:Nat} {w w2:World} {s:Scr} {ps:PSt} {size:Nat} {v:Value} {n:Nat} {xs:List Value} (h:SR B C p w s ps) (o:zp w2 w.heap.size size v n xs):zbU C w2 size v n xs w.heap.size:=⟨o,fun _ hk=>h.free (zg o _ hk).1⟩
theorem zlM:zds.1.scr.texts=[[97,98,99,100],[101]]:=by kernel_rfl
theorem zm0:zlp.1.scr.now.pen=⟨1,-1,1⟩:=by kernel_rfl
theorem zpx {w:World} {base b off c:Nat} {t0 t1:List UInt8} (h:zp w base 1 (.slice (some ⟨b,off,none⟩) 2 c) 2 (zdb [t0,t1])):w.cell? ⟨b,off,none⟩=some (.string ⟨t0.toArray⟩)∧w.cell? ⟨b,off+1,none⟩=some (.string ⟨t1.toArray⟩):=by
 have A:=(zae h 0 (by decide)).1;have B:=(zae h 1 (by decide)).1;exact⟨A,B⟩
theorem zjO (w:World) (ht:zdz w) :
  Calls prog 27 #[] w fun e w'=>e=.returned (.bool true)∧Below w.heap.size w w':=by
 have HN:=Qh (zf6 4 2 10 w (by decide) (by decide) (by decide) (by decide) (by decide) ht);have B0:=Qh (zjq (c:=4) (r:=2) (l:=10) (by decide) (by decide));clear ht;go_enter func27,ntmps27;go_wp2_with fail;refine HN.mono ?_;rintro e w1 ⟨p,C1,rfl,h1⟩;have H:=znf w1 #[.int .u8 97,.int .u8 98,.int .u8 99,.int .u8 100,.int .u8 101] 5 5;have D:=zgU h1 5 zoX #[.int .u8 97,.int .u8 98,.int .u8 99,.int .u8 100,.int .u8 101] rfl (by decide);have Z:=Qh (zeW (t:=⟨zdR 4 2 10,s0⟩) (h1.below (zbK w1 (.cells #[.int .u8 97,.int .u8 98,.int .u8 99,.int .u8 100,.int .u8 101] 5 (5,6)))) B0 _ zoX D (by decide));clear h1 D HN B0;go_wp2_with fail;refine Z.mono ?_;rintro e w2 ⟨vo,C2,rfl,h2,_,a2,o2⟩;have T:=Qh (show SR w C2 p w2 zds.1.scr zds.1.par from h2);have O2:=Qh (show zds.1.Ok 4 2 from o2);have J:zbU C2 w2 1 vo zds.2.length (zu zds.2) _:=a2;rw[zpi]at J;have I0:=Zf underlying32 J.own;clear h2 a2 o2 J H Z;go_wp2_with fail;refine(zjH T O2.scr).mono ?_;rintro e w3 ⟨rv,rfl,X,b3⟩;rw[zlM]at X;have H3:=Qh (T.below b3);obtain⟨rb,ro,rc,rfl,_,_⟩:=zE X (by decide);have R3:=Qh (zlL T X);have G0:=fun k=>(T.below b3).free (k:=k);have H0:=Zf underlying70 X;clear X b3 T;go_wp2_with fail;refine(zgQ H3 O2.scr).mono ?_;rintro e Y ⟨vv,L,U,_,N,b4⟩;obtain⟨R,vn,M,rfl⟩:=zR N.row;have O:zds.1.scr.viewV (.slice R vn M)=.agg #[.slice R vn M,.int .i64 1,.int .i64 1,.bool true,.bool false,.int .i64 9,.string ⟨zds.1.scr.title.toArray⟩]:=by
  unfold Scr.viewV;rw[zet.1,zet.2.1,zet.2.2.1,zet.2.2.2.1,zet.2.2.2.2]
 rw[O]at U;subst U;generalize zds.1.scr.title.toArray=ti at *;have H4:=Qh (H3.below b4);have R4:=Qh (R3.below b4);have A:=zbK Y (.cells #[.slice R vn M,.int .i64 1,.int .i64 1,.bool true,.bool false,.int .i64 9,.string ⟨ti⟩] 38);have C:=Qh (zH Y (.cells #[.slice R vn M,.int .i64 1,.int .i64 1,.bool true,.bool false,.int .i64 9,.string ⟨ti⟩] 38));have H5:=Qh (H4.below A);have R5:=Qh (R4.below A);have HZ:=Qh (H4.free (Nat.le_refl Y.heap.size));clear O N b4 A G0 H3 R3 H4 R4;obtain⟨V,hV⟩:∃ V,V=Y.heap.size:=⟨_,rfl⟩;have HV:=Qh hV;go_upto_region 7 with fail;rw[← hV]at C HZ;rw[← hV];clear hV;obtain⟨w5,G⟩:∃ w5,w5=Y.alloc (.cells #[.slice R vn M,.int .i64 1,.int .i64 1,.bool true,.bool false,.int .i64 9,.string ⟨ti⟩] 38):=⟨_,rfl⟩;rw[← G]at C H5 R5;rw[← G];clear G HV;have H:=znf w5 #[.int .u8 27,.int .u8 91,.int .u8 50,.int .u8 59,.int .u8 51,.int .u8 72,.int .u8 27,.int .u8 91,.int .u8 54,.int .u8 110,.int .u8 27,.int .u8 91,.int .u8 49,.int .u8 59,.int .u8 51,.int .u8 49,.int .u8 109] 17 17;have D:=zgU H5 5 zoY #[.int .u8 27,.int .u8 91,.int .u8 50,.int .u8 59,.int .u8 51,.int .u8 72,.int .u8 27,.int .u8 91,.int .u8 54,.int .u8 110,.int .u8 27,.int .u8 91,.int .u8 49,.int .u8 59,.int .u8 51,.int .u8 49,.int .u8 109] rfl (by decide);have A:=zbK w5 (.cells #[.int .u8 27,.int .u8 91,.int .u8 50,.int .u8 59,.int .u8 51,.int .u8 72,.int .u8 27,.int .u8 91,.int .u8 54,.int .u8 110,.int .u8 27,.int .u8 91,.int .u8 49,.int .u8 59,.int .u8 51,.int .u8 49,.int .u8 109] 5 (17,18));have A0:=Qh (zeW (t:=zds.1) (H5.below A) O2 _ zoY D (by decide));have R6:=Qh (R5.below A);have S:=Qh (zr C A (zq C));clear H5 R5 C D A O2;go_wp2_with fail;refine A0.mono ?_;rintro e F ⟨C0,C7,rfl,h7,p7,a7,_⟩;have H7:=Qh (show SR w C7 p F zlp.1.scr zlp.1.par from h7);have I:zp F _ 1 C0 zlp.2.length (zu zlp.2):=a7.own;rw[zpj]at I;have N0:=Z5 (P:=prog) (l:=[27,91,50,59,51,82]) underlying32 underlying5 underlying9 (zX I);have B:=p7.blk S HZ;obtain⟨J0,L0⟩:=zpx (R6.next p7).own;have k1:F.cell? ⟨V,1,none⟩=some (.int .i64 1):=za B 1;have k2:F.cell? ⟨V,2,none⟩=some (.int .i64 1):=za B 2;have k3:F.cell? ⟨V,3,none⟩=some (.bool true):=za B 3;have k4:F.cell? ⟨V,4,none⟩=some (.bool false):=za B 4;have k5:F.cell? ⟨V,5,none⟩=some (.int .i64 9):=za B 5;have E:=zf8 H7;rw[zm0]at E;have D0:=Qh E;have hq:=fun wx=>zn5 1 1 1 1 true false true false wx;have M0:=fun (x y:Operand) u v wx=>zlF .eql x y u v wx;have F0:=fun wx=>zks ⟨1,-1,1⟩ ⟨1,-1,1⟩ wx;have E0:=fun (x y:Operand) wx=>ze0 .eql x y ⟨1,-1,1⟩ ⟨1,-1,1⟩ wx;unfold Sty.val at F0 E0;clear h7 p7 a7 I B A0 R6 S HZ H E;go_wp2_with fail;refine D0.mono ?_;rintro e w8 ⟨rfl,b8⟩;have HB:=Qh (H7.below b8).bl;unfold Sty.val;go_wp2_with fail;go_ret;exact⟨rfl,HB⟩
end
end Go.Proofs.YthehkmopdeebmaaGreatDoor
