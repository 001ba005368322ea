/- Part. -/
import Derived.Test.YthehkmopdeebmaaGreatDoorY17
import Derived.Test.YthehkmopdeebmaaGreatDoorY18
import Derived.Test.YthehkmopdeebmaaGreatDoorY19
set_option linter.unusedVariables false
set_option linter.unusedSimpArgs false
set_option maxRecDepth 100000
set_option maxHeartbeats 2000000
namespace Go.Proofs.YthehkmopdeebmaaGreatDoor
open _root_.Go.Proofs.Tryz
section
open Go.RowKit
def zcl (v:Value):Nat→Nat:=fun k=>if v.ownBlock=some k then 1 else 0
theorem zcr {v:Value} {k:Nat} (h:zcl v k≠0):v.ownBlock=some k:=by
 unfold zcl at h;by_cases e:v.ownBlock=some k
 ·exact e
 ·rw[if_neg e]at h;exact absurd rfl h
theorem zdJ {v:Value} {k:Nat} (h:v.ownBlock=some k):zcl v k≠0:=by unfold zcl;rw[if_pos h];decide
theorem SAt.outs {C Tm To Tp:Nat→Nat} {p pm:Nat} {po:Option Nat} {pp:Nat} {vt vo vo':Value} {w w1 w2:World} {s:Scr} {ps:PSt} {x:List UInt8} (h:SAt C Tm To Tp p pm po pp vt vo w s ps) (g1:w.grownBy w1 none) (g:w1.grownBy w2 vo.ownBlock)
  (ho:zp w2 0 1 vo' x.length (zu x)) (hn:∀ k,vo'.ownBlock=some k→vo.ownBlock=some k∨w1.heap.size≤k) :
  SAt (reC C 3 (zcl vo')) Tm To Tp p pm po pp vt vo' (w2.setCell ⟨p,40,none⟩ vo') { s with out:=x } ps∧Pre C w (reC C 3 (zcl vo')) (w2.setCell ⟨p,40,none⟩ vo'):=by
 have G:w.heap.size≤w2.heap.size:=Nat.le_trans g1.size g.size;have K:zaT C 3 w w2:=⟨⟨g.os.trans g1.os,g.tape.trans g1.tape,g.output.trans g1.output,G,fun k hk hg=>(g.block k (Nat.lt_of_lt_of_le hk g1.size) (fun e=>hg (.inl (h.t3 k e.symm)))).trans (g1.block k hk (by simp))⟩⟩;have B:∀ k,zcl vo' k≠0→own (zcl vo) w k:=fun k hk=>by
  rcases hn k (zcr hk) with e | e
  ·exact .inl (zdJ e)
  ·exact .inr (Nat.le_trans g1.size e)
 have hk:∀ {d k:Nat},C k=d→d≠0→d≠3→reC C 3 (zcl vo') k=d:=fun e h0 hd=>zcK h.lt (fun k hk=>h.t3 k (zcr hk)) B e h0 hd;have H:reC C 3 (zcl vo') p=1:=hk h.cp (by decide) (by decide);have D:=K.blk h.blk h.cp (by decide);have A:zaT (reC C 3 (zcl vo')) 1 w2 (w2.setCell ⟨p,40,none⟩ vo'):=.of_gb (zx (zo _ (some p)) 40 vo') (fun k hk=>by injection hk with hk;subst hk;exact .inl H);have E:∀ k,reC C 3 (zcl vo') k≠0→k<w2.heap.size:=fun k hk2=>by
  rcases zaE hk2 with e | e
  ·exact(zg ho k (zcr e)).2
  ·exact Nat.lt_of_lt_of_le (h.lt k e) G
 have F:∀ k,reC C 3 (zcl vo') k≠0→own C w k:=fun k hk2=>by
  rcases zaE hk2 with e | e
  ·rcases B k e with e2 | e2
   ·exact .inl (by rw[h.t3 k (zcr e2)];decide)
   ·exact .inr e2
  ·exact .inl e
 refine⟨⟨fun k hk2=>Nat.lt_of_lt_of_le (E k hk2) A.wi.size,H,zz D 40 vo',A.gm (K.gm h.gm h.t4 (by decide)) (fun k e=>hk (h.t4 k e) (by decide) (by decide)) (by decide),A.oth (K.oth h.go h.t5 (by decide)) (fun k e=>hk (h.t5 k e) (by decide) (by decide)) (by decide),A.rest (K.rest h.rp h.t6 (by decide)) (fun k e=>hk (h.t6 k e) (by decide) (by decide)) (by decide),A.row (K.row h.ta h.t2 (by decide)) (fun k e=>hk (h.t2 k e) (by decide) (by decide)) (by decide),A.row ho (fun k e=>zbZ (zdJ e)) (by decide),fun k e=>hk (h.t2 k e) (by decide) (by decide),fun k e=>zbZ (zdJ e),fun k e=>hk (h.t4 k e) (by decide) (by decide),fun k e=>hk (h.t5 k e) (by decide) (by decide),fun k e=>hk (h.t6 k e) (by decide) (by decide)⟩,?_,F⟩;exact zdG (K.own (by decide)) F (A.own (by decide))
theorem SAt.stops' {C Tm To Tp:Nat→Nat} {p pm:Nat} {po:Option Nat} {pp:Nat} {vt vo vt':Value} {w w1 w2:World} {s:Scr} {ps:PSt} {x:List Bool} (h:SAt C Tm To Tp p pm po pp vt vo w s ps) (g1:w.grownBy w1 none) (g:w1.grownBy w2 vt.ownBlock)
  (ho:zp w2 0 1 vt' x.length (x.map Value.bool)) (hn:∀ k,vt'.ownBlock=some k→vt.ownBlock=some k∨w1.heap.size≤k) :
  SAt (reC C 2 (zcl vt')) Tm To Tp p pm po pp vt' vo (w2.setCell ⟨p,35,none⟩ vt') { s with tabs:=x } ps∧Pre C w (reC C 2 (zcl vt')) (w2.setCell ⟨p,35,none⟩ vt'):=by
 have G:w.heap.size≤w2.heap.size:=Nat.le_trans g1.size g.size;have K:zaT C 2 w w2:=⟨⟨g.os.trans g1.os,g.tape.trans g1.tape,g.output.trans g1.output,G,fun k hk hg=>(g.block k (Nat.lt_of_lt_of_le hk g1.size) (fun e=>hg (.inl (h.t2 k e.symm)))).trans (g1.block k hk (by simp))⟩⟩;have B:∀ k,zcl vt' k≠0→own (zcl vt) w k:=fun k hk=>by
  rcases hn k (zcr hk) with e | e
  ·exact .inl (zdJ e)
  ·exact .inr (Nat.le_trans g1.size e)
 have hk:∀ {d k:Nat},C k=d→d≠0→d≠2→reC C 2 (zcl vt') k=d:=fun e h0 hd=>zcK h.lt (fun k hk=>h.t2 k (zcr hk)) B e h0 hd;have H:reC C 2 (zcl vt') p=1:=hk h.cp (by decide) (by decide);have D:=K.blk h.blk h.cp (by decide);have A:zaT (reC C 2 (zcl vt')) 1 w2 (w2.setCell ⟨p,35,none⟩ vt'):=.of_gb (zx (zo _ (some p)) 35 vt') (fun k hk=>by injection hk with hk;subst hk;exact .inl H);have E:∀ k,reC C 2 (zcl vt') k≠0→k<w2.heap.size:=fun k hk2=>by
  rcases zaE hk2 with e | e
  ·exact(zg ho k (zcr e)).2
  ·exact Nat.lt_of_lt_of_le (h.lt k e) G
 have F:∀ k,reC C 2 (zcl vt') k≠0→own C w k:=fun k hk2=>by
  rcases zaE hk2 with e | e
  ·rcases B k e with e2 | e2
   ·exact .inl (by rw[h.t2 k (zcr e2)];decide)
   ·exact .inr e2
  ·exact .inl e
 refine⟨⟨fun k hk2=>Nat.lt_of_lt_of_le (E k hk2) A.wi.size,H,zz D 35 vt',A.gm (K.gm h.gm h.t4 (by decide)) (fun k e=>hk (h.t4 k e) (by decide) (by decide)) (by decide),A.oth (K.oth h.go h.t5 (by decide)) (fun k e=>hk (h.t5 k e) (by decide) (by decide)) (by decide),A.rest (K.rest h.rp h.t6 (by decide)) (fun k e=>hk (h.t6 k e) (by decide) (by decide)) (by decide),A.row ho (fun k e=>zbZ (zdJ e)) (by decide),A.row (K.row h.ou h.t3 (by decide)) (fun k e=>hk (h.t3 k e) (by decide) (by decide)) (by decide),fun k e=>zbZ (zdJ e),fun k e=>hk (h.t3 k e) (by decide) (by decide),fun k e=>hk (h.t4 k e) (by decide) (by decide),fun k e=>hk (h.t5 k e) (by decide) (by decide),fun k e=>hk (h.t6 k e) (by decide) (by decide)⟩,?_,F⟩;exact zdG (K.own (by decide)) F (A.own (by decide))
section
variable {B:World} {C:Nat→Nat} {p:Nat} {w w':World} {s:Scr} {ps:PSt}
theorem SR.outs (h:SR B C p w s ps):∃ vo,w.cell? ⟨p,40,none⟩=some vo∧zp w 0 1 vo s.out.length (zu s.out)∧(∀ k,vo.ownBlock=some k→C k=3∧k≠p) ∧
  ∀ w1 w2 vo' (x:List UInt8),w.grownBy w1 none→w1.grownBy w2 vo.ownBlock→zp w2 0 1 vo' x.length (zu x)→(∀ k,vo'.ownBlock=some k→vo.ownBlock=some k∨w1.heap.size≤k)→zy B C p w (w2.setCell ⟨p,40,none⟩ vo') { s with out:=x } ps:=by
 obtain⟨G,L,M,J,N,H,I,vo,A⟩:=h.sm;refine⟨vo,za A.blk 40,A.ou,fun k e=>⟨A.t3 k e,fun e2=>?_⟩,fun w1 w2 vo' x g1 g ho hn=>?_⟩
 ·have E:=A.t3 k e;rw[e2,A.cp]at E;exact absurd E (by decide)
 ·obtain⟨F,D⟩:=A.outs g1 g ho hn;exact⟨_,h.step D ⟨_,_,_,_,_,_,_,_,F⟩,D⟩
theorem SR.tabs (h:SR B C p w s ps):∃ vt,w.cell? ⟨p,35,none⟩=some vt∧zp w 0 1 vt s.tabs.length (s.tabs.map Value.bool)∧(∀ k,vt.ownBlock=some k→C k=2∧k≠p) ∧
  ∀ w1 w2 vt' (x:List Bool),w.grownBy w1 none→w1.grownBy w2 vt.ownBlock→zp w2 0 1 vt' x.length (x.map Value.bool)→(∀ k,vt'.ownBlock=some k→vt.ownBlock=some k∨w1.heap.size≤k)→zy B C p w (w2.setCell ⟨p,35,none⟩ vt') { s with tabs:=x } ps:=by
 obtain⟨G,J,M,I,N,H,vt,L,A⟩:=h.sm;refine⟨vt,za A.blk 35,A.ta,fun k e=>⟨A.t2 k e,fun e2=>?_⟩,fun w1 w2 vt' x g1 g ho hn=>?_⟩
 ·have E:=A.t2 k e;rw[e2,A.cp]at E;exact absurd E (by decide)
 ·obtain⟨F,D⟩:=A.stops' g1 g ho hn;exact⟨_,h.step D ⟨_,_,_,_,_,_,_,_,F⟩,D⟩
theorem SR.tabsIn (h:SR B C p w s ps) {vt:Value} (hc:w.cell? ⟨p,35,none⟩=some vt) {x:List Bool} (hl:x.length=s.tabs.length) (g:w.grownBy w' vt.ownBlock) (ho:zp w' 0 1 vt s.tabs.length (x.map Value.bool)):zy B C p w w' { s with tabs:=x } ps:=by
 obtain⟨F,I,L,H,M,G,D,J,A⟩:=h.sm;have e:w.cell? ⟨p,35,none⟩=some D:=za A.blk 35;obtain rfl:vt=D:=(by rw[e]at hc;injection hc with hc;exact hc.symm);have K:zaT C 2 w w':=.of_gb g (fun k e=>.inl (A.t2 k e));have E:Pre C w C w':=⟨K.own (by decide),fun _ hk=>.inl hk⟩;exact⟨C,h.step E ⟨F,I,L,H,M,G,vt,J,⟨fun k hk=>Nat.lt_of_lt_of_le (A.lt k hk) g.size,A.cp,K.blk A.blk A.cp (by decide),K.gm A.gm A.t4 (by decide),K.oth A.go A.t5 (by decide),K.rest A.rp A.t6 (by decide),by show zp w' 0 1 vt x.length _;rw[hl];exact ho,K.row A.ou A.t3 (by decide),A.t2,A.t3,A.t4,A.t5,A.t6⟩⟩,E⟩
theorem SR.parser (h:SR B C p w s ps):∃ T q,zcJ T q w ps∧w.cell? ⟨p,39,none⟩=some (.pointer (some ⟨q,0,none⟩))∧(∀ k,T k≠0→C k=6) ∧
  ∀ w' T' ps',zh (own T w) w w'→zcJ T' q w' ps'→(∀ k,T' k≠0→own T w k)→∃ C',SR B C' p w' s ps'∧Pre C w C' w'∧∀ k,own T w k→T' k=0→C' k=0:=by
 obtain⟨I,M,H,L,O,E,J,N,A⟩:=h.sm;refine⟨H,E,A.rp,za A.blk 39,A.t6,fun w' T' ps' hw hg hn=>?_⟩;obtain⟨F,G⟩:=A.parser' hw hg hn;have K:=zaT.of_own hw A.t6;have D:Pre C w (reC C 6 T') w':=⟨K.own (by decide),G⟩;refine⟨_,h.step D ⟨_,_,_,_,_,_,_,_,F⟩,D,fun k hk h0=>?_⟩;unfold reC;rw[if_neg (by rw[h0];decide)];by_cases e:C k=6
 ·rw[if_pos e]
 ·rw[if_neg e];rcases hk with hk | hk
  ·exact absurd (A.t6 k hk) e
  ·by_cases h1:C k=0
   ·exact h1
   ·have:=A.lt k h1;omega
end
end
section
open Go.RowKit
def zcN (p:Nat) (vo:Value) (T1 Tp:Nat→Nat):Nat→Nat:=fun k=>if k=p then 1 else if vo.ownBlock=some k then 3 else if T1 k≠0 then 4 else if Tp k≠0 then 6 else 0
theorem zmB {B:World} {C T1 Tp:Nat→Nat} {p q1 pp:Nat} {w w1 w2:World} {s:Scr} {ps:PSt} {vo:Value} (hlt:∀ k,C k≠0→k<w.heap.size) (cp:C p=1) (hi:∀ k,C k≠0→B.heap.size≤k) (tb:zdz B) (bl:Below B.heap.size B w)
  (ou:zp w 0 1 vo s.out.length (zu s.out)) (t3:∀ k,vo.ownBlock=some k→C k=3) (hb:Below w.heap.size w w1) (hg:GM T1 q1 w1 s.main) (n1:∀ k,T1 k≠0→w.heap.size≤k) (hp:zcJ Tp pp w1 ps) (np:∀ k,Tp k≠0→w.heap.size≤k) (nd:∀ k,Tp k≠0→T1 k=0)
  (g2:w1.grownBy w2 (some p)) (hblk:w2.heap[p]?=some (.cells (s.cells q1 none pp Z0 vo) 89 (0,0))) (ho:s.other=none) (ht:s.tabs=[]):zy B C p w w2 s ps:=by
 have L:p<w.heap.size:=hlt p (by rw[cp];decide);have D:∀ k,vo.ownBlock=some k→k<w.heap.size:=fun k e=>(zg ou k e).2;have E:vo.ownBlock≠some p:=fun e=>(by have:=t3 p e;rw[cp]at this;exact absurd this (by decide));have H:zcN p vo T1 Tp p=1:=(by unfold zcN;rw[if_pos rfl]);have F:∀ k,vo.ownBlock=some k→zcN p vo T1 Tp k=3:=fun k e=>by
  unfold zcN;rw[if_neg (fun e2=>E (by rw[e,e2])),if_pos e]
 have G:∀ k,T1 k≠0→zcN p vo T1 Tp k=4:=fun k e=>by
  have:=n1 k e;unfold zcN;rw[if_neg (by omega),if_neg (fun e2=>by have:=D k e2;omega),if_pos e]
 have I:∀ k,Tp k≠0→zcN p vo T1 Tp k=6:=fun k e=>by
  have:=np k e;unfold zcN;rw[if_neg (by omega),if_neg (fun e2=>by have:=D k e2;omega),if_neg (fun e2=>e2 (nd k e)),if_pos e]
 have A:∀ k,zcN p vo T1 Tp k≠0→k=p∨vo.ownBlock=some k∨T1 k≠0∨Tp k≠0:=fun k hk=>by
  unfold zcN at hk;by_cases h1:k=p
  ·exact .inl h1
  ·rw[if_neg h1]at hk;by_cases h2:vo.ownBlock=some k
   ·exact .inr (.inl h2)
   ·rw[if_neg h2]at hk;by_cases h3:T1 k≠0
    ·exact .inr (.inr (.inl h3))
    ·rw[if_neg h3]at hk;by_cases h4:Tp k≠0
     ·exact .inr (.inr (.inr h4))
     ·rw[if_neg h4]at hk;exact absurd rfl hk
 have M:w.heap.size≤w2.heap.size:=Nat.le_trans hb.size g2.size;have K:zaT (zcN p vo T1 Tp) 1 w1 w2:=.of_gb g2 (fun k e=>by injection e with e;subst e;exact .inl H);have J:SAt (zcN p vo T1 Tp) T1 (fun _=>0) Tp p q1 none pp Z0 vo w2 s ps:=by
  refine⟨fun k hk=>?_,H,hblk,K.gm hg G (by decide),.inl ⟨rfl,ho,fun _=>rfl⟩,K.rest hp I (by decide),?_,K.row (zk ou hb) F (by decide),fun k e=>?_,F,G,fun k e=>absurd rfl e,I⟩
  ·rcases A k hk with e | e | e | e
   ·omega
   ·have:=D k e;omega
   ·exact Nat.lt_of_lt_of_le (hg.lt k e) g2.size
   ·exact Nat.lt_of_lt_of_le (hp.1 k e) g2.size
  ·rw[ht];exact Zy _ _ _
  ·simp[Z0,Value.ownBlock]at e
 have g:Pre C w (zcN p vo T1 Tp) w2:=⟨(zh.of_below hb).trans (zh.of_gb g2 (fun k e=>by injection e with e;subst e;exact .inl (by rw[cp];decide))),fun k hk=>by
  rcases A k hk with e | e | e | e
  ·exact .inl (by rw[e,cp];decide)
  ·exact .inl (by rw[t3 k e];decide)
  ·exact .inr (n1 k e)
  ·exact .inr (np k e)⟩
 exact⟨_,⟨⟨_,_,_,_,_,_,_,_,J⟩,tb,bl.trans (zeI g.wi bl.size hi),zhK g.n bl.size hi⟩,g⟩
end
section
open Go.RowKit
def zdS (f t:Sty):List UInt8:=if f.fg=t.fg∧f.bg=t.bg∧f.attr=t.attr then [] else [27,91]++zaf false (zhi f t)++[109]
def Scr.asked (s:Scr) (b:UInt8) (inter text:List UInt8):Scr :=
 if (b.toNat:Int)=113∧inter=[36] then
  if text=[109] then s.say ([27,80,49,36,114]++(if zdS plainS s.now.pen=[] then [27,91,48,109] else zdS plainS s.now.pen).drop 2++[27,92])
  else if text=[114] then s.say ([27,80,49,36,114]++Lib.itoa (s.top+1)++[59]++Lib.itoa (s.bottom+1)++[114,27,92])
  else s.say [27,80,48,36,114,27,92]
 else s
def Scr.act (s0:Scr) (a:VAct):Scr :=
 let s:Scr:={ s0 with out:=[] }
 if a.kind=1 then s.print a.rune
 else if a.kind=2 then s.control a.byte
 else if a.kind=3 then s.escape a.byte a.inter.data.toList
 else if a.kind=4 then s.csi a.byte a.params a.inter.data.toList
 else if a.kind=5 then s.named a.text.data.toList
 else if a.kind=6 then s.asked a.byte a.inter.data.toList a.text.data.toList else s
def VAct.ris (a:VAct):Bool:=a.kind == 3 && (a.byte == 99 && a.inter.data.toList == [])
structure Trm where
 scr:Scr
 par:PSt
def Trm.act (t:Trm) (a:VAct):Trm:=⟨t.scr.act a,if a.ris then s0 else t.par⟩
def Trm.acts:Trm→List VAct→Trm × List UInt8
 | t,[]=>(t,[])
 | t,a::l=>(((t.act a).acts l).1,(t.act a).scr.out++((t.act a).acts l).2)
def Trm.byte (t:Trm) (b:UInt8):Trm × List UInt8:=(⟨t.scr,(t.par.step b).1⟩:Trm).acts (t.par.step b).2
def Trm.feed:Trm→List UInt8→Trm × List UInt8
 | t,[]=>(t,[])
 | t,b::l=>(((t.byte b).1.feed l).1,(t.byte b).2++((t.byte b).1.feed l).2)
end
section
open Go.RowKit
theorem zkf {c d:Int} (h:ZB c=true) (hd:d=0∨d=10):(zan c d).length≤5∧∀ x∈zan c d,0≤x∧x≤9999:=by
 have A:=zhX h;unfold zan
 repeat' split
 all_goals
  refine⟨by simp,fun x hx=>?_⟩;simp only[List.mem_cons,List.not_mem_nil,or_false]at hx;omega
theorem znT {f t:Sty} (ht:okS t=true):(zhi f t).length≤19∧∀ x∈zhi f t,0≤x∧x≤9999:=by
 obtain⟨_,_,_,F,G⟩:=znI ht;have A:=zkf F (.inl rfl);have B:=zkf G (.inr rfl);have C:∀ a b:Int,(znH a b).length≤8∧∀ x∈znH a b,0≤x∧x≤9999:=fun a b=>by
  unfold znH;refine⟨by rw[List.length_map];exact List.length_filter_le _ _,fun x hx=>?_⟩;obtain⟨J,D,rfl⟩:=List.mem_map.1 hx;have:=(zkW plainS (List.mem_filter.1 D).1).2;omega
 have C:=C (zep f t).attr t.attr;have H:(if ZD f.attr t.attr≠0 then [0] else []:List Int).length≤1∧∀ x∈(if ZD f.attr t.attr≠0 then [0] else []:List Int),0≤x∧x≤9999:=by
  split <;> simp
 have E:(if t.fg≠(zep f t).fg then zan t.fg 0 else []).length≤5∧∀ x∈(if t.fg≠(zep f t).fg then zan t.fg 0 else []),0≤x∧x≤9999:=by
  split
  ·exact A
  ·simp
 have I:(if t.bg≠(zep f t).bg then zan t.bg 10 else []).length≤5∧∀ x∈(if t.bg≠(zep f t).bg then zan t.bg 10 else []),0≤x∧x≤9999:=by
  split
  ·exact B
  ·simp
 unfold zhi;refine⟨?_,fun x hx=>?_⟩
 ·simp only[List.length_append];omega
 ·simp only[List.mem_append]at hx;rcases hx with ((hx | hx) | hx) | hx
  ·exact H.2 x hx
  ·exact C.2 x hx
  ·exact E.2 x hx
  ·exact I.2 x hx
end
section
open Go.RowKit
def R32 (n:Int):Prop:=-2147483648≤n∧n≤2147483647
def Lv (o:List UInt8) (s:Scr):Prop:=s.out=o∧R32 s.last
section
variable {o:List UInt8} {s:Scr}
theorem Lv.turn (h:Lv o s) (f:Gr→Gr):Lv o (s.turn f):=by
 unfold Scr.turn;cases ho:s.other with
 | none=>exact h
 | some g=>exact h
theorem Lv.index (h:Lv o s):Lv o s.index:=by
 unfold Scr.index;split
 ·exact h.turn _
 ·split
  ·exact h
  ·exact h
theorem Lv.reverse (h:Lv o s):Lv o s.reverse:=by
 unfold Scr.reverse;split
 ·exact h.turn _
 ·split
  ·exact h
  ·exact h
theorem Lv.toX (h:Lv o s) (x:Int):Lv o (s.toX x):=h
theorem Lv.calm (h:Lv o s):Lv o s.calm:=h
theorem Lv.on (h:Lv o s):Lv o s.on:=((h.turn _).toX 0).index
theorem Lv.fit (h:Lv o s) (w:Int):Lv o (s.fit w):=by
 unfold Scr.fit;have A:Lv o (if s.now.wait && s.has 1 then s.on else s):=by
  split
  ·exact h.on
  ·exact h
 generalize (if s.now.wait && s.has 1 then s.on else s)=t at A;dsimp only;split
 ·split
  ·exact A.calm.on
  ·exact A
 ·exact A
theorem Lv.lay (h:Lv o s) (c w:Int):Lv o (s.lay c w):=by
 unfold Scr.lay;have A:Lv o (if s.has 2 then s.turn (fun g=>g.ins s.now.x s.now.y w s.blank) else s):=by
  split
  ·exact h.turn _
  ·exact h
 generalize (if s.has 2 then s.turn (fun g=>g.ins s.now.x s.now.y w s.blank) else s)=t at A;dsimp only;have B:Lv o (t.turn (fun g=>g.put t.now.x t.now.y ⟨c,w,t.now.pen⟩)):=A.turn _;split
 ·exact B
 ·exact B
theorem Lv.print (h:Lv o s) {r:Int} (hr:R32 r):Lv o (s.print r):=by
 unfold Scr.print;dsimp only;split
 ·exact h
 ·exact⟨((h.fit _).lay _ _).1,hr⟩
theorem Lv.control (h:Lv o s) (b:UInt8):Lv o (s.control b):=by
 unfold Scr.control;have A:Lv o (if 8≤(b.toNat:Int)∧(b.toNat:Int)≤13 then s.calm else s):=by
  split
  ·exact h
  ·exact h
 dsimp only;generalize (if 8≤(b.toNat:Int)∧(b.toNat:Int)≤13 then s.calm else s)=t at A ⊢;have B:=A.index;split
 ·exact A
 split
 ·exact A
 split
 ·exact A
 split
 ·split
  ·exact B
  ·exact B
 split
 ·exact A
 split
 ·exact A
 ·exact A
theorem Lv.setSlot (h:Lv o s) (v:Sav):Lv o (s.setSlot v):=by
 unfold Scr.setSlot;split
 ·exact h
 ·exact h
theorem Lv.save (h:Lv o s):Lv o s.save:=by
 have A:Lv o { s with now:={ s.now with origin:=s.has 4 } }:=h;exact A.setSlot _
theorem Lv.keep (h:Lv o s) (on:Bool):Lv o (s.keep on):=by
 unfold Scr.keep;split
 ·exact h.save
 ·exact h
theorem Lv.swap (h:Lv o s) (on:Bool):Lv o (s.swap on):=by
 unfold Scr.swap;split
 ·exact h
 ·exact h
theorem Lv.fill (h:Lv o s):Lv o s.fill:=by
 have A:Lv o ((s.whole).place 0 0):=h;exact A.turn _
theorem Lv.reset (h:Lv o s):Lv o s.reset:=⟨h.1,by show R32 0;unfold R32;decide⟩
def Lb (s:Scr):Prop:=s.out.length≤600∧R32 s.last
theorem Lv.lb (h:Lv [] s):Lb s:=⟨by rw[h.1];exact Nat.zero_le _,h.2⟩
theorem Lv.say (h:Lv [] s) {t:List UInt8} (ht:t.length≤600):Lb (s.say t):=⟨by show(s.out++t).length≤600;rw[h.1];exact ht,h.2⟩
theorem Lv.bare (h:Lv [] s) (b:UInt8):Lb (s.bare b):=by
 have A:Lv [] (s.toX 0):=h;unfold Scr.bare;dsimp only;split
 ·exact h.save.lb
 split
 ·exact h.lb
 split
 ·exact A.index.calm.lb
 split
 ·exact h.index.calm.lb
 split
 ·exact h.reverse.calm.lb
 split
 ·exact h.lb
 split
 ·exact h.reset.lb
 split
 ·exact h.lb
 split
 ·exact h.say (by decide)
 ·exact h.lb
theorem Lv.escape (h:Lv [] s) (b:UInt8) (i:List UInt8):Lb (s.escape b i):=by
 unfold Scr.escape;dsimp only
 repeat' split
 all_goals first | exact h.lb | exact h.fill.lb | exact h.bare b
theorem zhn {f:Scr→Scr} (hf:∀ t:Scr,Lv o t→Lv o (f t)):∀ (n:Nat) (t:Scr),Lv o t→Lv o (itF f n t)
 | 0,_,h=>h
 | n+1,t,h=>zhn hf n (f t) (hf t h)
theorem zfR {f:Scr→Nat→Scr} (hf:∀ (t:Scr) i,Lv o t→Lv o (f t i)):∀ (l:List Nat) (t:Scr),Lv o t→Lv o (l.foldl f t)
 | [],_,h=>h
 | i::l,t,h=>zfR hf l (f t i) (hf t i h)
theorem Lv.move (h:Lv o s) (k n:Int):∀ t,s.move k n=some t→Lv o t:=by
 intro t ht;unfold Scr.move at ht
 repeat' split at ht
 all_goals first
  | (cases ht;exact h)
  | (injection ht with ht;subst ht;exact zhn (f:=Scr.tab) (fun _ hu=>hu) _ _ h)
  | (injection ht with ht;subst ht;exact zhn (f:=Scr.back) (fun _ hu=>hu) _ _ h)
  | cases ht
theorem Lv.edit (h:Lv o s) (k n:Int):∀ t,s.edit k n=some t→Lv o t:=by
 intro t ht;unfold Scr.edit at ht;split at ht
 ·cases ht;exact h.turn _
 split at ht
 ·cases ht;exact h.turn _
 split at ht
 ·cases ht;exact h.turn _
 split at ht
 ·cases ht;split
  ·have A:Lv o ((s.toX 0).calm):=h;exact A.turn _
  ·exact h
 split at ht
 ·cases ht;split
  ·have A:Lv o ((s.toX 0).calm):=h;exact A.turn _
  ·exact h
 split at ht
 ·cases ht;exact h.turn _
 split at ht
 ·cases ht;exact h.turn _
 split at ht
 ·cases ht;refine zhn (fun u hu=>?_) _ _ h;split
  ·exact hu.print hu.2
  ·exact hu
 ·cases ht
theorem Lv.clean (h:Lv o s) (y z:Int):Lv o (s.clean y z):=h.turn _
theorem Lv.inRow (h:Lv o s) (k:Int):Lv o (s.inRow k):=by
 have A:Lv o s.calm:=h;unfold Scr.inRow;split
 ·exact A.turn _
 split
 ·exact A.turn _
 split
 ·exact A.clean _ _
 ·exact A
theorem Lv.inAll (h:Lv o s) (k:Int):Lv o (s.inAll k):=by
 have A:Lv o s.calm:=h;unfold Scr.inAll;split
 ·exact(h.inRow 0).clean _ _
 split
 ·exact(h.inRow 1).clean _ _
 split
 ·exact A.clean _ _
 split
 ·exact A
 ·exact A
theorem Lv.region (h:Lv o s) (ps:List Int):Lv o (s.region ps):=by
 unfold Scr.region;dsimp only
 repeat' split
 all_goals exact h
theorem Lv.setMode1 (h:Lv o s) (k:Int) (on:Bool):Lv o (s.setMode1 k on):=by
 unfold Scr.setMode1
 repeat' split
 all_goals exact h
theorem Lv.private (h:Lv o s) (k:Int) (on:Bool):Lv o (s.private k on):=by
 unfold Scr.private;dsimp only;split
 ·exact h
 split
 ·exact h
 split
 ·exact h
 split
 ·exact h
 split
 ·exact h.swap _
 split
 ·exact h.keep _
 split
 ·split
  ·exact h.save.swap _
  ·exact h.swap _
 split
 ·exact h
 split
 ·exact h
 ·exact h
theorem Lv.soft (h:Lv o s):Lv o s.soft:=by
 unfold Scr.soft;dsimp only;refine Lv.setSlot (o:=o) ?_ _;exact h
variable {c r:Nat}
theorem zc6 {n:Int} (h:-1000000≤n∧n≤1000000):(Lib.itoa n).length≤21:=Lib.itoa_length_le n (by omega) (by omega)
theorem Lv.report (h:Lv [] s) (hok:s.Ok c r) (hc:c≤1000) (hr:r≤1000) (k:Int):Lb (s.report k):=by
 unfold Scr.report;split
 ·exact h.say (by decide)
 split
 ·have n:=hok.now;have A:(Lib.itoa ((if s.has 4 then max 0 (s.now.y-s.top) else s.now.y)+1)).length≤21:=zc6 (by
   have:=n.y0;have:=n.y1;have:=hok.t0;have:=hok.tb;have:=hok.b1;split <;> omega)
  have B:(Lib.itoa (s.now.x+1)).length≤21:=zc6 (by
   have:=n.x0;have:=n.x1;omega)
  refine h.say ?_;simp only[List.length_append,List.length_cons,List.length_nil];omega
 ·exact h.lb
theorem Lv.others (h:Lv [] s) (hok:s.Ok c r) (hc:c≤1000) (hr:r≤1000) (k:Int) (ps:List Int):Lb (s.others k ps):=by
 unfold Scr.others;dsimp only;split
 ·exact h.lb
 split
 ·exact(h.inAll _).lb
 split
 ·exact(h.inRow _).lb
 split
 ·split
  ·exact h.say (by decide)
  ·exact h.lb
 split
 ·exact h.report hok hc hr _
 split
 ·split
  ·exact h.lb
  ·split
   ·exact h.lb
   ·exact h.lb
 split
 ·exact(zfR (fun t i ht=>ht.setMode1 _ _) _ _ h).lb
 split
 ·exact h.lb
 split
 ·exact(h.region _).lb
 split
 ·exact(h.keep _).lb
 ·exact h.lb
theorem Lv.csi (h:Lv [] s) (hok:s.Ok c r) (hc:c≤1000) (hr:r≤1000) (b:UInt8) (ps:List Int) (i:List UInt8):Lb (s.csi b ps i):=by
 unfold Scr.csi;dsimp only;split
 ·cases hm:s.move (b.toNat:Int) (max 1 (par ps 0 1)) with
  | some t=>exact(h.move _ _ t hm).lb
  | none =>
   cases he:s.edit (b.toNat:Int) (max 1 (par ps 0 1)) with
   | some t=>exact(h.edit _ _ t he).lb
   | none=>exact h.others hok hc hr _ _
 split
 ·split
  ·exact(zfR (fun t i ht=>ht.private _ _) _ _ h).lb
  ·exact h.lb
 split
 ·split
  ·exact h.soft.lb
  ·exact h.lb
 split
 ·split
  ·exact h.say (by decide)
  ·exact h.lb
 ·exact h.lb
theorem Lv.named (h:Lv o s) (t:List UInt8):Lv o (s.named t):=by
 unfold Scr.named;split
 ·exact h
 ·exact h
theorem zmC {f t:Sty} (ht:okS t=true):(zdS f t).length≤430:=by
 have B:=znT (f:=f) ht;have C:=zg0 (zhi f t) false (by
  rw[List.all_eq_true];intro x A;have:=B.2 x A;unfold zgT;rw[Bool.and_eq_true,decide_eq_true_eq,decide_eq_true_eq];omega)
 unfold zdS;split
 ·exact Nat.zero_le _
 ·simp only[List.length_append,List.length_cons,List.length_nil];omega
theorem Lv.asked (h:Lv [] s) (hok:s.Ok c r) (hr:r≤1000) (b:UInt8) (i t:List UInt8):Lb (s.asked b i t):=by
 unfold Scr.asked;split
 ·split
  ·refine h.say ?_;have C:=zmC (f:=plainS) hok.now.pen;simp only[List.length_append,List.length_cons,List.length_nil,List.length_drop];split
   ·simp
   ·omega
  split
  ·have A:(Lib.itoa (s.top+1)).length≤21:=zc6 (by
    have:=hok.t0;have:=hok.tb;have:=hok.b1;omega)
   have B:(Lib.itoa (s.bottom+1)).length≤21:=zc6 (by
    have:=hok.t0;have:=hok.tb;have:=hok.b1;omega)
   refine h.say ?_;simp only[List.length_append,List.length_cons,List.length_nil];omega
  ·exact h.say (by decide)
 ·exact h.lb
theorem zoT {a:VAct} (hok:s.Ok c r) (hl:R32 s.last) (hc:c≤1000) (hr:r≤1000) (ha:R32 a.rune):Lb (s.act a):=by
 have h:Lv [] { s with out:=[] }:=⟨rfl,hl⟩;have A:({ s with out:=[] }:Scr).Ok c r:=⟨hok.main,hok.other,hok.now,hok.k0,hok.k1,hok.t0,hok.tb,hok.b1,hok.tl,hok.md⟩;unfold Scr.act;dsimp only;split
 ·exact(h.print ha).lb
 split
 ·exact(h.control _).lb
 split
 ·exact h.escape _ _
 split
 ·exact h.csi A hc hr _ _ _
 split
 ·exact(h.named _).lb
 split
 ·exact h.asked A hr _ _ _
 ·exact h.lb
theorem zoU {a:VAct} (hok:s.Ok c r) (hc:1≤c) (hr:1≤r):(s.act a).Ok c r:=by
 have A:({ s with out:=[] }:Scr).Ok c r:=⟨hok.main,hok.other,hok.now,hok.k0,hok.k1,hok.t0,hok.tb,hok.b1,hok.tl,hok.md⟩;unfold Scr.act;dsimp only;split
 ·exact A.print hc _
 split
 ·exact A.control hc hr _
 split
 ·exact A.escape hc hr _ _
 split
 ·exact A.csi hc hr _ _ _
 split
 ·exact A.named _
 split
 ·unfold Scr.asked;split
  ·split
   ·exact A.say _
   split
   ·exact A.say _
   ·exact A.say _
  ·exact A
 ·exact A
end
structure Trm.Ok (c r:Nat) (t:Trm):Prop where
 scr:t.scr.Ok c r
 last:R32 t.scr.last
 par:t.par.Good
section
variable {c r:Nat}
theorem zh2 {a:VAct} (h:AOk a):R32 a.rune∧a.text.size≤1000000:=by
 have:=h.bnd;have A:=this.rn;have B:=this.tl;exact⟨⟨by omega,by omega⟩,by omega⟩
theorem Trm.Ok.act {t:Trm} (h:t.Ok c r) (hc:1≤c) (hr:1≤r) (hc2:c≤1000) (hr2:r≤1000) {a:VAct} (ha:AOk a):(t.act a).Ok c r∧(t.act a).scr.out.length≤600:=by
 have A:=zoT (a:=a) h.scr h.last hc2 hr2 (zh2 ha).1;refine⟨⟨zoU h.scr hc hr,A.2,?_⟩,A.1⟩;show(if a.ris then s0 else t.par).Good;split
 ·exact zkb
 ·exact h.par
theorem Trm.Ok.acts (hc:1≤c) (hr:1≤r) (hc2:c≤1000) (hr2:r≤1000):∀ (l:List VAct) {t:Trm},t.Ok c r→(∀ a∈l,AOk a)→(t.acts l).1.Ok c r∧(t.acts l).2.length≤600*l.length
 | [],_,h,_=>⟨h,Nat.le_refl _⟩
 | a::l,t,h,ha=>by
  obtain⟨k1,k2⟩:=h.act hc hr hc2 hr2 (ha a (List.mem_cons_self ..));obtain⟨i1,i2⟩:=Trm.Ok.acts hc hr hc2 hr2 l k1 (fun x hx=>ha x (List.mem_cons_of_mem _ hx));refine⟨i1,?_⟩;show((t.act a).scr.out++((t.act a).acts l).2).length≤_;rw[List.length_append,List.length_cons];omega
theorem Trm.Ok.byte (hc:1≤c) (hr:1≤r) (hc2:c≤1000) (hr2:r≤1000) {t:Trm} (h:t.Ok c r) (b:UInt8):(t.byte b).1.Ok c r∧(t.byte b).2.length≤2400:=by
 obtain⟨B,A,_⟩:=zeN b h.par;have D:(⟨t.scr,(t.par.step b).1⟩:Trm).Ok c r:=⟨h.scr,h.last,B⟩;obtain⟨C,E⟩:=Trm.Ok.acts hc hr hc2 hr2 (t.par.step b).2 D A;have:=zfL t.par b;exact⟨C,by show((⟨t.scr,(t.par.step b).1⟩:Trm).acts (t.par.step b).2).2.length≤2400;omega⟩
theorem Trm.Ok.feed (hc:1≤c) (hr:1≤r) (hc2:c≤1000) (hr2:r≤1000):∀ (l:List UInt8) {t:Trm},t.Ok c r→(t.feed l).1.Ok c r∧(t.feed l).2.length≤2400*l.length
 | [],_,h=>⟨h,Nat.le_refl _⟩
 | b::l,t,h=>by
  obtain⟨k1,k2⟩:=h.byte hc hr hc2 hr2 b;obtain⟨i1,i2⟩:=Trm.Ok.feed hc hr hc2 hr2 l k1;refine⟨i1,?_⟩;show((t.byte b).2++((t.byte b).1.feed l).2).length≤_;rw[List.length_append,List.length_cons];omega
theorem zjq {l:Nat} (hc:1≤c) (hr:1≤r):(⟨zdR c r l,s0⟩:Trm).Ok c r:=by
 have B:zaR c r (Z1 c r l):=zdq;have C:=B.1;have D:=B.2;have A:zaR c r (Z1 (Z1 c r l).cols (Z1 c r l).rows.length (Z1 c r l).limit):=(by rw[C,D];exact zdq);have h:(zdR c r l).Ok c r:=by
  refine⟨A,fun g hg=>(by cases hg),zc0 hc hr,zc0 hc hr,zc0 hc hr,Int.le_refl 0,?_,?_,?_,(show M10 9 from⟨by decide,by decide⟩)⟩
  ·show(0:Int)≤((Z1 (Z1 c r l).cols (Z1 c r l).rows.length (Z1 c r l).limit).rows.length:Int)-1;rw[A.2];omega
  ·show((Z1 (Z1 c r l).cols (Z1 c r l).rows.length (Z1 c r l).limit).rows.length:Int)-1<r;rw[A.2];omega
  ·show(zcc [] (Z1 (Z1 c r l).cols (Z1 c r l).rows.length (Z1 c r l).limit).cols).length=c;rw[zc2,A.1]
 exact⟨h,by show R32 0;unfold R32;decide,zkb⟩
end
end
section
open Go.RowKit
theorem zmD (f:Fn) (a b:Array Value) (d:Nat) (wx:World):(Op.equalIn (d+1) 185 (.func f a b) .nilFunc).run prog wx=.ok false wx:=by
 have A:=underlying185;simp[Op.equalIn,run_underlying A]
theorem zmE (d:Nat) (wx:World):(Op.equalIn (d+1) 185 .nilFunc .nilFunc).run prog wx=.ok true wx:=by
 have A:=underlying185;simp[Op.equalIn,run_underlying A]
theorem za5 (f:Fn) (a b:Array Value) (wx:World):(binOp .neq 185 (.func f a b) .nilFunc).run prog wx=.ok (.bool true) wx:=by
 have h:=zmD f a b 9999 wx;simp only[binOp,Op.equal,Sem.run_bind,show Op.maxDepth=9999+1 from rfl,h];rfl
theorem zpf (wx:World):(binOp .neq 185 .nilFunc .nilFunc).run prog wx=.ok (.bool false) wx:=by
 have h:=zmE 9999 wx;simp only[binOp,Op.equal,Sem.run_bind,show Op.maxDepth=9999+1 from rfl,h];rfl
def ZZ (p:Nat) (k:Int):Value:=if k=65 then .func (.func 191) #[.pointer (some ⟨p,0,none⟩)] #[] else if k=66∨k=101 then .func (.func 192) #[.pointer (some ⟨p,0,none⟩)] #[] else if k=67∨k=97 then .func (.func 193) #[.pointer (some ⟨p,0,none⟩)] #[] else if k=68 then .func (.func 194) #[.pointer (some ⟨p,0,none⟩)] #[] else if k=69 then .func (.func 195) #[.pointer (some ⟨p,0,none⟩)] #[] else if k=70 then .func (.func 196) #[.pointer (some ⟨p,0,none⟩)] #[] else if k=71∨k=96 then .func (.func 197) #[.pointer (some ⟨p,0,none⟩)] #[] else if k=100 then .func (.func 198) #[.pointer (some ⟨p,0,none⟩)] #[] else if k=73 then .func (.func 199) #[.pointer (some ⟨p,0,none⟩)] #[] else if k=90 then .func (.func 200) #[.pointer (some ⟨p,0,none⟩)] #[] else .nilFunc
theorem zlb (p:Nat) (b:UInt8) (w:World):Calls prog 150 #[.pointer (some ⟨p,0,none⟩),.int .u8 (b.toNat:Int)] w fun e w'=>e=.returned (ZZ p (b.toNat:Int))∧w'=w:=by
 have I:∀ (fn:Fn) (first cap:Array Value) (w:World),(Instr.makeFunc fn first cap).run prog w=.ok (.func fn first cap) w:=fun _ _ _ _=>rfl;obtain⟨k,B⟩:∃ k:Int,k=(b.toNat:Int):=⟨_,rfl⟩;rw[← B];clear B;by_cases h65:k=65
 ·subst h65;have A:=Qh (show ZZ p 65=.func (.func 191) #[.pointer (some ⟨p,0,none⟩)] #[] from rfl);go_enter func150,ntmps150;go_wp2_with fail;go_ret;rw[A.out];exact⟨rfl,rfl⟩
 by_cases h66:k=66
 ·subst h66;have A:=Qh (show ZZ p 66=.func (.func 192) #[.pointer (some ⟨p,0,none⟩)] #[] from rfl);go_enter func150,ntmps150;go_wp2_with fail;go_ret;rw[A.out];exact⟨rfl,rfl⟩
 by_cases h101:k=101
 ·subst h101;have A:=Qh (show ZZ p 101=.func (.func 192) #[.pointer (some ⟨p,0,none⟩)] #[] from rfl);go_enter func150,ntmps150;go_wp2_with fail;go_ret;rw[A.out];exact⟨rfl,rfl⟩
 by_cases h67:k=67
 ·subst h67;have A:=Qh (show ZZ p 67=.func (.func 193) #[.pointer (some ⟨p,0,none⟩)] #[] from rfl);go_enter func150,ntmps150;go_wp2_with fail;go_ret;rw[A.out];exact⟨rfl,rfl⟩
 by_cases h97:k=97
 ·subst h97;have A:=Qh (show ZZ p 97=.func (.func 193) #[.pointer (some ⟨p,0,none⟩)] #[] from rfl);go_enter func150,ntmps150;go_wp2_with fail;go_ret;rw[A.out];exact⟨rfl,rfl⟩
 by_cases h68:k=68
 ·subst h68;have A:=Qh (show ZZ p 68=.func (.func 194) #[.pointer (some ⟨p,0,none⟩)] #[] from rfl);go_enter func150,ntmps150;go_wp2_with fail;go_ret;rw[A.out];exact⟨rfl,rfl⟩
 by_cases h69:k=69
 ·subst h69;have A:=Qh (show ZZ p 69=.func (.func 195) #[.pointer (some ⟨p,0,none⟩)] #[] from rfl);go_enter func150,ntmps150;go_wp2_with fail;go_ret;rw[A.out];exact⟨rfl,rfl⟩
 by_cases h70:k=70
 ·subst h70;have A:=Qh (show ZZ p 70=.func (.func 196) #[.pointer (some ⟨p,0,none⟩)] #[] from rfl);go_enter func150,ntmps150;go_wp2_with fail;go_ret;rw[A.out];exact⟨rfl,rfl⟩
 by_cases h71:k=71
 ·subst h71;have A:=Qh (show ZZ p 71=.func (.func 197) #[.pointer (some ⟨p,0,none⟩)] #[] from rfl);go_enter func150,ntmps150;go_wp2_with fail;go_ret;rw[A.out];exact⟨rfl,rfl⟩
 by_cases h96:k=96
 ·subst h96;have A:=Qh (show ZZ p 96=.func (.func 197) #[.pointer (some ⟨p,0,none⟩)] #[] from rfl);go_enter func150,ntmps150;go_wp2_with fail;go_ret;rw[A.out];exact⟨rfl,rfl⟩
 by_cases h100:k=100
 ·subst h100;have A:=Qh (show ZZ p 100=.func (.func 198) #[.pointer (some ⟨p,0,none⟩)] #[] from rfl);go_enter func150,ntmps150;go_wp2_with fail;go_ret;rw[A.out];exact⟨rfl,rfl⟩
 by_cases h73:k=73
 ·subst h73;have A:=Qh (show ZZ p 73=.func (.func 199) #[.pointer (some ⟨p,0,none⟩)] #[] from rfl);go_enter func150,ntmps150;go_wp2_with fail;go_ret;rw[A.out];exact⟨rfl,rfl⟩
 by_cases h90:k=90
 ·subst h90;have A:=Qh (show ZZ p 90=.func (.func 200) #[.pointer (some ⟨p,0,none⟩)] #[] from rfl);go_enter func150,ntmps150;go_wp2_with fail;go_ret;rw[A.out];exact⟨rfl,rfl⟩
 have A:=Qh (show ZZ p k=.nilFunc by unfold ZZ;rw[if_neg (show ¬ (k=65) by omega),if_neg (show ¬ (k=66∨k=101) by omega),if_neg (show ¬ (k=67∨k=97) by omega),if_neg (show ¬ (k=68) by omega),if_neg (show ¬ (k=69) by omega),if_neg (show ¬ (k=70) by omega),if_neg (show ¬ (k=71∨k=96) by omega),if_neg (show ¬ (k=100) by omega),if_neg (show ¬ (k=73) by omega),if_neg (show ¬ (k=90) by omega)]);have G:(k == 65)=false:=Qb h65;have S:(k == 66)=false:=Qb h66;have C:(k == 101)=false:=Qb h101;have F:(k == 67)=false:=Qb h67;have N:(k == 97)=false:=Qb h97;have L:(k == 68)=false:=Qb h68;have R:(k == 69)=false:=Qb h69;have J:(k == 70)=false:=Qb h70;have O:(k == 71)=false:=Qb h71;have E:(k == 96)=false:=Qb h96;have D:(k == 100)=false:=Qb h100;have H:(k == 73)=false:=Qb h73;have M:(k == 90)=false:=Qb h90;clear h65 h66 h101 h67 h97 h68 h69 h70 h71 h96 h100 h73 h90;go_enter func150,ntmps150;go_wp2_with fail;go_ret;rw[A.out];exact⟨rfl,rfl⟩
def za6 (p:Nat) (k:Int):Value:=if k=64 then .func (.func 201) #[.pointer (some ⟨p,0,none⟩)] #[] else if k=80 then .func (.func 202) #[.pointer (some ⟨p,0,none⟩)] #[] else if k=88 then .func (.func 203) #[.pointer (some ⟨p,0,none⟩)] #[] else if k=76 then .func (.func 204) #[.pointer (some ⟨p,0,none⟩)] #[] else if k=77 then .func (.func 205) #[.pointer (some ⟨p,0,none⟩)] #[] else if k=83 then .func (.func 206) #[.pointer (some ⟨p,0,none⟩)] #[] else if k=84 then .func (.func 207) #[.pointer (some ⟨p,0,none⟩)] #[] else if k=98 then .func (.func 208) #[.pointer (some ⟨p,0,none⟩)] #[] else .nilFunc
theorem zlc (p:Nat) (b:UInt8) (w:World):Calls prog 152 #[.pointer (some ⟨p,0,none⟩),.int .u8 (b.toNat:Int)] w fun e w'=>e=.returned (za6 p (b.toNat:Int))∧w'=w:=by
 have F:∀ (fn:Fn) (first cap:Array Value) (w:World),(Instr.makeFunc fn first cap).run prog w=.ok (.func fn first cap) w:=fun _ _ _ _=>rfl;obtain⟨k,B⟩:∃ k:Int,k=(b.toNat:Int):=⟨_,rfl⟩;rw[← B];clear B;by_cases h64:k=64
 ·subst h64;have A:=Qh (show za6 p 64=.func (.func 201) #[.pointer (some ⟨p,0,none⟩)] #[] from rfl);go_enter func152,ntmps152;go_wp2_with fail;go_ret;rw[A.out];exact⟨rfl,rfl⟩
 by_cases h80:k=80
 ·subst h80;have A:=Qh (show za6 p 80=.func (.func 202) #[.pointer (some ⟨p,0,none⟩)] #[] from rfl);go_enter func152,ntmps152;go_wp2_with fail;go_ret;rw[A.out];exact⟨rfl,rfl⟩
 by_cases h88:k=88
 ·subst h88;have A:=Qh (show za6 p 88=.func (.func 203) #[.pointer (some ⟨p,0,none⟩)] #[] from rfl);go_enter func152,ntmps152;go_wp2_with fail;go_ret;rw[A.out];exact⟨rfl,rfl⟩
 by_cases h76:k=76
 ·subst h76;have A:=Qh (show za6 p 76=.func (.func 204) #[.pointer (some ⟨p,0,none⟩)] #[] from rfl);go_enter func152,ntmps152;go_wp2_with fail;go_ret;rw[A.out];exact⟨rfl,rfl⟩
 by_cases h77:k=77
 ·subst h77;have A:=Qh (show za6 p 77=.func (.func 205) #[.pointer (some ⟨p,0,none⟩)] #[] from rfl);go_enter func152,ntmps152;go_wp2_with fail;go_ret;rw[A.out];exact⟨rfl,rfl⟩
 by_cases h83:k=83
 ·subst h83;have A:=Qh (show za6 p 83=.func (.func 206) #[.pointer (some ⟨p,0,none⟩)] #[] from rfl);go_enter func152,ntmps152;go_wp2_with fail;go_ret;rw[A.out];exact⟨rfl,rfl⟩
 by_cases h84:k=84
 ·subst h84;have A:=Qh (show za6 p 84=.func (.func 207) #[.pointer (some ⟨p,0,none⟩)] #[] from rfl);go_enter func152,ntmps152;go_wp2_with fail;go_ret;rw[A.out];exact⟨rfl,rfl⟩
 by_cases h98:k=98
 ·subst h98;have A:=Qh (show za6 p 98=.func (.func 208) #[.pointer (some ⟨p,0,none⟩)] #[] from rfl);go_enter func152,ntmps152;go_wp2_with fail;go_ret;rw[A.out];exact⟨rfl,rfl⟩
 have A:=Qh (show za6 p k=.nilFunc by unfold za6;rw[if_neg (show ¬ (k=64) by omega),if_neg (show ¬ (k=80) by omega),if_neg (show ¬ (k=88) by omega),if_neg (show ¬ (k=76) by omega),if_neg (show ¬ (k=77) by omega),if_neg (show ¬ (k=83) by omega),if_neg (show ¬ (k=84) by omega),if_neg (show ¬ (k=98) by omega)]);have H:(k == 64)=false:=Qb h64;have J:(k == 80)=false:=Qb h80;have E:(k == 88)=false:=Qb h88;have G:(k == 76)=false:=Qb h76;have D:(k == 77)=false:=Qb h77;have I:(k == 83)=false:=Qb h83;have L:(k == 84)=false:=Qb h84;have C:(k == 98)=false:=Qb h98;clear h64 h80 h88 h76 h77 h83 h84 h98;go_enter func152,ntmps152;go_wp2_with fail;go_ret;rw[A.out];exact⟨rfl,rfl⟩
end
section
open Go.RowKit
theorem zmF (n:Nat) (h:n<33554432):zhR (n:Int) 255=(n:Int) % 256:=by
 have e:n &&& 255=n % 256:=Nat.and_two_pow_sub_one_eq_mod n 8;unfold zhR;rw[show(255:Int)=((255:Nat):Int) from rfl,BitVec.ofInt_natCast,BitVec.ofInt_natCast,BitVec.toNat_and,BitVec.toNat_ofNat,BitVec.toNat_ofNat,Nat.mod_eq_of_lt (by omega),Nat.mod_eq_of_lt (by omega),e];rw[zd _ (by omega) (by omega)];omega
theorem zfS (x:Int) (h0:0≤x) (h1:x<33554432):bits BinOp.and IntKind.i64 x 255=x % 256:=by
 obtain⟨n,rfl⟩:=Int.eq_ofNat_of_zero_le h0;exact zmF n (by omega)
theorem zfi (c d:Int) (w:World) (hc:-1≤c∧c<33554432) (hd:d=0∨d=10) :
  Calls prog 160 #[.int .i64 c,.int .i64 d] w fun e w'=>∃ v,e=.returned v∧Below w.heap.size w w'∧zaB w' 1 v (zan c d).length ((zan c d).map (Value.int .i64)):=by
 have C:0≤d∧d≤10:=(by omega);clear hd;by_cases h0:c<0
 ·have A:zan c d=[39+d]:=(by unfold zan;rw[if_pos h0]);have B:=Qh A;have J:decide (c<0)=true:=Qt h0;have F:IntKind.i64.wrap (39+d)=39+d:=zd _ (by omega) (by omega);clear A h0 hc C;go_enter func160,ntmps160;go_wp2_with fail;refine Ze rfl rfl rfl ⟨_,rfl,?_⟩;rw[B.out];exact⟨(Below.refl _ _).alloc (Nat.le_refl _) _,Zi _ _ _⟩
 by_cases h8:c<8
 ·have A:zan c d=[30+d+c]:=(by unfold zan;rw[if_neg h0,if_pos h8]);have B:=Qh A;have H:decide (c<0)=false:=Qf h0;have I:decide (c<8)=true:=Qt h8;have F:IntKind.i64.wrap (30+d)=30+d:=zd _ (by omega) (by omega);have G:IntKind.i64.wrap (30+d+c)=30+d+c:=zd _ (by omega) (by omega);clear A h0 h8 hc C;go_enter func160,ntmps160;go_wp2_with fail;refine Ze rfl rfl rfl ⟨_,rfl,?_⟩;rw[B.out];exact⟨(Below.refl _ _).alloc (Nat.le_refl _) _,Zi _ _ _⟩
 by_cases h16:c<16
 ·have A:zan c d=[82+d+c]:=(by unfold zan;rw[if_neg h0,if_neg h8,if_pos h16]);have B:=Qh A;have H:decide (c<0)=false:=Qf h0;have I:decide (c<8)=false:=Qf h8;have E:decide (c<16)=true:=Qt h16;have F:IntKind.i64.wrap (82+d)=82+d:=zd _ (by omega) (by omega);have G:IntKind.i64.wrap (82+d+c)=82+d+c:=zd _ (by omega) (by omega);clear A h0 h8 h16 hc C;go_enter func160,ntmps160;go_wp2_with fail;refine Ze rfl rfl rfl ⟨_,rfl,?_⟩;rw[B.out];exact⟨(Below.refl _ _).alloc (Nat.le_refl _) _,Zi _ _ _⟩
 by_cases h256:c<256
 ·have A:zan c d=[38+d,5,c]:=(by unfold zan;rw[if_neg h0,if_neg h8,if_neg h16,if_pos h256]);have B:=Qh A;have H:decide (c<0)=false:=Qf h0;have I:decide (c<8)=false:=Qf h8;have E:decide (c<16)=false:=Qf h16;have D:decide (c<256)=true:=Qt h256;have F:IntKind.i64.wrap (38+d)=38+d:=zd _ (by omega) (by omega);clear A h0 h8 h16 h256 hc C;go_enter func160,ntmps160;go_wp2_with fail;refine Ze rfl rfl rfl ⟨_,rfl,?_⟩;rw[B.out];exact⟨(Below.refl _ _).alloc (Nat.le_refl _) _,zX (zaj (Z6 (base:=0) _ _ rfl (by omega) (by decide) rfl rfl))⟩
 have H:decide (c<0)=false:=Qf h0;have I:decide (c<8)=false:=Qf h8;have E:decide (c<16)=false:=Qf h16;have D:decide (c<256)=false:=Qf h256;have F:IntKind.i64.wrap (38+d)=38+d:=zd _ (by omega) (by omega);have B:=Qh (show zan c d=[38+d,2,c / 65536 % 256,c / 256 % 256,c % 256] by unfold zan;rw[if_neg h0,if_neg h8,if_neg h16,if_neg h256]);go_enter func160,ntmps160;go_wp2_with fail;refine Ze rfl rfl rfl ⟨_,rfl,?_⟩;rw[B.out,zfS _ (by omega) (by omega),zfS _ (by omega) (by omega),zfS _ (by omega) (by omega)];exact⟨(Below.refl _ _).alloc (Nat.le_refl _) _,zX (zaj (Z6 (base:=0) _ _ rfl (by omega) (by decide) rfl rfl))⟩
end
end Go.Proofs.YthehkmopdeebmaaGreatDoor
