/- Part. -/
import Derived.Test.YthehkmopdeebmaaGreatDoorY13
import Derived.Test.YthehkmopdeebmaaGreatDoorY15
set_option linter.unusedVariables false
set_option linter.unusedSimpArgs false
namespace Go.Proofs.YthehkmopdeebmaaGreatDoor
open _root_.Go.Proofs.Tryz
section
open Go.RowKit
theorem zbK (w:World) (o:Obj):Below w.heap.size w (w.alloc o):=(Below.refl _ _).alloc (Nat.le_refl _) o
theorem zkX {w w':World} (g:w.grownBy w' none):Below w.heap.size w w':=⟨g.os,g.tape,g.output,g.size,fun k hk=>g.block k hk (by simp)⟩
theorem zkY {T:Nat→Nat} {p:Nat} {w:World} {s:PSt} (vb:Value) (l:List UInt8) (h:zcJ T p w s) (hv:Row T 0 1 vb l.length (zu l) w) (hl:l.length≤100000000) :
  Calls prog 43 #[.pointer (some ⟨p,0,none⟩),vb] w fun e w'=>∃ vo T' L,e=.returned vo∧L.map (·.1)=(s.run l).2∧zh (own T w) w w'∧(∀ k,T' k≠0→own T w k)∧zcJ T' p w' (s.run l).1∧zpt T' w' vo L ∧
   (∀ k,vo.ownBlock=some k→own T w k)∧∀ x∈L,∀ k,x.2.ownBlock=some k→own T w k:=by
 refine(zjg vb l h hv hl).mono ?_;rintro e w' ⟨vo,T',L,rfl,F,E,C,G,B,D,A⟩;exact⟨vo,T',L,rfl,F,E,G,C,⟨B,fun x hx=>(A x hx).1⟩,D,fun x hx=>(A x hx).2⟩
end
section
open Go.RowKit
def zff (d:Dec):Prop:=d.hav≠0→128≤d.lo∧d.hi≤191 ∧
 ((d.more=1∧2≤d.r∧d.r≤17407∧(d.r<864∨895<d.r))∨(d.more=2∧0≤d.r∧d.r≤271∧(d.r=0→160≤d.lo)∧(d.r=13→d.hi≤159)) ∨
  (d.more=3∧0≤d.r∧d.r≤4∧(d.r=0→144≤d.lo)∧(d.r=4→d.hi≤143)))
theorem zhj {r:Int} (h1:32≤r) (h2:r≠127) (h3:(0≤r∧r<55296)∨(57343<r∧r≤1114111)):zgh r=true:=by
 unfold zgh Lib.validRune;rw[Qt h1,Qb h2,Qt (show(0≤r∧r<0xD800)∨(0xDFFF<r∧r≤0x10FFFF) from h3)];rfl
theorem zfO:zgh 65533=true:=zhj (by decide) (by decide) (by omega)
theorem zfP (d:Dec) (b:Int) (hd:d.hav=0) (h0:0≤b) (h1:b≤255) :
  zff (Zk d b).1∧(32≤b→b≠127→∀ r∈(Zk d b).2,zgh r=true)∧(Zk d b).2.length+(if (Zk d b).1.hav=0 then 0 else 1)=1:=by
 unfold Zk;split
 ·rename_i hb;refine⟨fun h=>absurd hd h,fun h2 h3 r hr=>?_,by simp⟩;simp at hr;subst hr;exact zhj h2 h3 (by omega)
 split
 ·exact⟨fun _=>⟨by simp,by simp,.inl ⟨rfl,by simp only[];omega,by simp only[];omega,by simp only[];omega⟩⟩,fun _ _ r hr=>by simp at hr,by simp⟩
 split
 ·refine⟨fun _=>⟨?_,?_,.inr (.inl ⟨rfl,?_,?_,?_,?_⟩)⟩,fun _ _ r hr=>by simp at hr,by simp⟩
  ·simp only[];split <;> omega
  ·simp only[];split <;> omega
  ·simp only[];omega
  ·simp only[];omega
  ·simp only[];intro h;rw[if_pos (by omega)];omega
  ·simp only[];intro h;rw[if_pos (by omega)];omega
 split
 ·refine⟨fun _=>⟨?_,?_,.inr (.inr ⟨rfl,?_,?_,?_,?_⟩)⟩,fun _ _ r hr=>by simp at hr,by simp⟩
  ·simp only[];split <;> omega
  ·simp only[];split <;> omega
  ·simp only[];omega
  ·simp only[];omega
  ·simp only[];intro h;rw[if_pos (by omega)];omega
  ·simp only[];intro h;rw[if_pos (by omega)];omega
 ·refine⟨fun h=>absurd hd h,fun _ _ r hr=>?_,by simp⟩;simp at hr;subst hr;exact zfO
theorem zkZ (d:Dec) (b:Int) (hd:zff d) (h0:0≤b) (h1:b≤255) :
  zff (Zv d b).1∧(32≤b→b≠127→∀ r∈(Zv d b).2,zgh r=true)∧(Zv d b).2.length+(if (Zv d b).1.hav=0 then 0 else 1)≤1+(if d.hav=0 then 0 else 1):=by
 unfold Zv;by_cases hh:d.hav=0
 ·rw[if_pos hh,if_pos hh];obtain⟨B,C,F⟩:=zfP d b hh h0 h1;exact⟨B,C,by omega⟩
 rw[if_neg hh,if_neg hh];by_cases hb:b<d.lo∨d.hi<b
 ·rw[if_pos hb];obtain⟨B,C,F⟩:=zfP { d with hav:=0 } b rfl h0 h1;refine⟨B,fun E D r hr=>?_,?_⟩
  ·rcases List.mem_cons.1 hr with rfl | hr
   ·exact zfO
   ·exact C E D r hr
  ·simp only[List.length_cons];omega
 rw[if_neg hb];obtain⟨E,D,k3⟩:=hd hh;by_cases hm:1<d.more
 ·rw[if_pos hm];refine⟨fun _=>⟨by simp,by simp,?_⟩,fun _ _ r hr=>by simp at hr,by simp only[List.length_nil];split <;> omega⟩;simp only[];rcases k3 with ⟨m1,_⟩ | ⟨m2,r0,r1,r2,r3⟩ | ⟨m3,r0,r1,r2,r3⟩
  ·omega
  ·left;refine⟨by omega,?_,?_,?_⟩
   ·by_cases h:d.r=0
    ·have:=r2 h;omega
    ·omega
   ·omega
   ·by_cases h:d.r=13
    ·have:=r3 h;omega
    ·omega
  ·right;left;refine⟨by omega,?_,?_,?_,?_⟩
   ·omega
   ·by_cases h:d.r=4
    ·have:=r3 h;omega
    ·omega
   ·intro h;by_cases A:d.r=0
    ·have:=r2 A;omega
    ·omega
   ·intro h;by_cases A:d.r=0
    ·have:=r2 A;omega
    ·omega
 ·rw[if_neg hm];refine⟨fun h=>absurd rfl h,fun _ _ r hr=>?_,by simp⟩;simp at hr;subst hr;rcases k3 with ⟨m1,r0,r1,r2⟩ | ⟨m2,_⟩ | ⟨m3,_⟩
  ·exact zhj (by omega) (by omega) (by omega)
  ·omega
  ·omega
theorem zmn (d:Dec) (hd:zff d):zff (zbf d).1∧(∀ r∈(zbf d).2,zgh r=true)∧(zbf d).1.hav=0∧(zbf d).2.length=(if d.hav=0 then 0 else 1):=by
 unfold zbf;by_cases h:d.hav=0
 ·rw[if_pos h,if_pos h];exact⟨hd,fun r hr=>by simp at hr,h,rfl⟩
 ·rw[if_neg h,if_neg h];exact⟨fun h=>absurd rfl h,fun r hr=>by simp at hr;subst hr;exact zfO,rfl,rfl⟩
structure zjl (a:VAct):Prop where
 k:1≤a.kind∧a.kind≤6
 pl:a.params.length≤32
 tl:a.text.size≤1024
 il:a.inter.size≤3
 pr:∀ x∈a.params,-1≤x∧x≤9999
 wr:0<(wrL a).length
 rn:0≤a.rune∧a.rune≤1114111
structure PSt.Good (s:PSt):Prop where
 fine:s.Fine
 np:s.params≠[-1]
 tx:∀ b∈s.text,32≤(b.toNat:Int)
 i1:s.state=1→zev s.inter 32 47=true
 i2:s.state=2∨s.state=5∨s.state=6→ZN (zbT s.inter).2=true
 f6:s.state=6→64≤(s.final.toNat:Int)∧(s.final.toNat:Int)≤126∧s.params.length≤32
 dg:zff s.dec
 dh:s.dec.hav≠0→s.state=0
theorem zkb:s0.Good:=⟨zj7,by decide,fun b hb=>by simp[s0]at hb,fun h=>absurd h (by decide),fun h=>absurd h (by decide),fun h=>absurd h (by decide),fun h=>absurd rfl h,fun h=>absurd rfl h⟩
theorem zad {s:PSt} {n:Int} (hn:0≤n∧n≤7) (h6:n≠6) (hd:zff s.dec) (hh:s.dec.hav≠0→n=0):(s.begun n).Good :=
 ⟨zac hn,by simp[PSt.begun],fun b hb=>by simp[PSt.begun]at hb,fun _=>rfl,fun _=>rfl,fun h=>absurd h h6,hd,hh⟩
theorem zoJ {r:Int} (h:zgh r=true):zjl (zbV r) :=
 ⟨by show 1≤(1:Int)∧(1:Int)≤6;decide,by show 0≤32;decide,by show 0≤1024;decide,by show 0≤3;decide,fun x hx=>by simp[zbV]at hx,by
  have e:wrL (zbV r)=zhl r:=(by unfold wrL;simp[zbV,h]);rw[e];exact(zmv r).1,by
  unfold zgh Lib.validRune at h;simp only[Bool.and_eq_true,decide_eq_true_eq]at h;show 0≤r∧r≤1114111;omega⟩
theorem znJ {b:UInt8} (h:ziL b=true):zjl (zcB b) :=
 ⟨by show 1≤(2:Int)∧(2:Int)≤6;decide,by show 0≤32;decide,by show 0≤1024;decide,by show 0≤3;decide,fun x hx=>by simp[zcB]at hx,by
  have e:wrL (zcB b)=[b]:=(by unfold wrL;simp[zcB,h]);rw[e];simp,by show 0≤(0:Int)∧(0:Int)≤1114111;decide⟩
theorem znK {b:UInt8} {inter:List UInt8} (hi:inter.length≤2) (h:ziM inter b=true):zjl (za1 b inter) :=
 ⟨by show 1≤(3:Int)∧(3:Int)≤6;decide,by show 0≤32;decide,by show 0≤1024;decide,by show inter.length≤3;omega,fun x hx=>by simp[za1]at hx,by
  have e:wrL (za1 b inter)=27::inter++[b]:=(by unfold wrL;simp[za1,h]);rw[e];simp,by show 0≤(0:Int)∧(0:Int)≤1114111;decide⟩
theorem znL {b:UInt8} {params:List Int} {inter:List UInt8} (hp:params.length≤32) (hi:inter.length≤3) (hr:∀ x∈params,-1≤x∧x≤9999) (h:zcA (zbR b params inter)=true):zjl (zbR b params inter) :=
 ⟨by show 1≤(4:Int)∧(4:Int)≤6;decide,hp,by show 0≤1024;decide,hi,hr,by
  have e:wrL (zbR b params inter)=[27,91]++zkp (zbR b params inter):=(by unfold wrL;rw[h];simp[zbR]);rw[e];simp,by show 0≤(0:Int)∧(0:Int)≤1114111;decide⟩
theorem zmo {t:List UInt8} (hl:t.length≤1024) (h:∀ b∈t,32≤(b.toNat:Int)):zkz t=true:=by
 unfold zkz zev;rw[Qt hl,Bool.and_true,List.all_eq_true];intro b A;rw[Qt (h b A),Qt (zdO b)];rfl
theorem znM {t:List UInt8} (hl:t.length≤1024) (h:∀ b∈t,32≤(b.toNat:Int)):zjl (zdf t) :=
 ⟨by show 1≤(5:Int)∧(5:Int)≤6;decide,by show 0≤32;decide,hl,by show 0≤3;decide,fun x hx=>by simp[zdf]at hx,by
  have e:wrL (zdf t)=[27,93]++t++[7]:=(by unfold wrL;simp[zdf,zmo hl h]);rw[e];simp,by show 0≤(0:Int)∧(0:Int)≤1114111;decide⟩
theorem znN {b:UInt8} {params:List Int} {inter t:List UInt8} (hp:params.length≤32) (hi:inter.length≤3) (hr:∀ x∈params,-1≤x∧x≤9999) (hl:t.length≤1024) (ht:∀ b∈t,32≤(b.toNat:Int)) (h:zcA (zbS b params inter t)=true):zjl (zbS b params inter t) :=
 ⟨by show 1≤(6:Int)∧(6:Int)≤6;decide,hp,hl,hi,hr,by
  have e:wrL (zbS b params inter t)=[27,80]++zkp (zbS b params inter t)++t++[27,92]:=(by unfold wrL;rw[h];simp[zbS,zmo hl ht]);rw[e];simp,by show 0≤(0:Int)∧(0:Int)≤1114111;decide⟩
theorem zgJ {b:UInt8} {params:List Int} {inter:List UInt8} (hb:64≤(b.toNat:Int)∧(b.toNat:Int)≤126) (hp:params.length≤32) (hn:params≠[-1]) (hr:∀ x∈params,-1≤x∧x≤9999) (hi:ZN (zbT inter).2=true) (k r:Int) (t:ByteArray) :
  zcA ⟨k,r,b,params,⟨inter.toArray⟩,t⟩=true:=by
 unfold zcA zoA;show((ZN (zbT inter).2 && (decide (64≤(b.toNat:Int)) && (decide ((b.toNat:Int)≤126) && (decide (params.length≤32) && !(decide (params=[-1])))))) && params.all zgT)=true;rw[hi,Qt hb.1,Qt hb.2,Qt hp,Qf hn];simp only[Bool.not_false,Bool.and_self,Bool.true_and,List.all_eq_true];intro x A;have:=hr x A;unfold zgT;rw[Qt this.1,Qt this.2];rfl
inductive AOk:VAct→Prop
 | pr {r:Int}:zgh r=true→AOk (zbV r)
 | ctl {b:UInt8}:ziL b=true→AOk (zcB b)
 | esc {b:UInt8} {inter:List UInt8}:inter.length≤2→ziM inter b=true→AOk (za1 b inter)
 | csi {b:UInt8} {params:List Int} {inter:List UInt8}:params.length≤32→inter.length≤3→(∀ x∈params,-1≤x∧x≤9999)→zcA (zbR b params inter)=true→AOk (zbR b params inter)
 | osc {t:List UInt8}:t.length≤1024→(∀ b∈t,32≤(b.toNat:Int))→AOk (zdf t)
 | dcs {b:UInt8} {params:List Int} {inter t:List UInt8}:params.length≤32→inter.length≤3→(∀ x∈params,-1≤x∧x≤9999)→t.length≤1024→(∀ b∈t,32≤(b.toNat:Int))→zcA (zbS b params inter t)=true→AOk (zbS b params inter t)
theorem AOk.bnd {a:VAct} (h:AOk a):zjl a:=by
 cases h with
 | pr h=>exact zoJ h
 | ctl h=>exact znJ h
 | esc h1 h2=>exact znK h1 h2
 | csi h1 h2 h3 h4=>exact znL h1 h2 h3 h4
 | osc h1 h2=>exact znM h1 h2
 | dcs h1 h2 h3 h4 h5 h6=>exact znN h1 h2 h3 h4 h5 h6
theorem zmp {r:Int} (h:zgh r=true):AOk (zbV r):=.pr h
theorem zoK {b:UInt8} (h:ziL b=true):AOk (zcB b):=.ctl h
theorem zoL {b:UInt8} {inter:List UInt8} (hi:inter.length≤2) (h:ziM inter b=true):AOk (za1 b inter):=.esc hi h
theorem zoM {b:UInt8} {params:List Int} {inter:List UInt8} (hp:params.length≤32) (hi:inter.length≤3) (hr:∀ x∈params,-1≤x∧x≤9999) (h:zcA (zbR b params inter)=true):AOk (zbR b params inter):=.csi hp hi hr h
theorem zoN {t:List UInt8} (hl:t.length≤1024) (h:∀ b∈t,32≤(b.toNat:Int)):AOk (zdf t):=.osc hl h
theorem zoO {b:UInt8} {params:List Int} {inter t:List UInt8} (hp:params.length≤32) (hi:inter.length≤3) (hr:∀ x∈params,-1≤x∧x≤9999) (hl:t.length≤1024) (ht:∀ b∈t,32≤(b.toNat:Int)) (h:zcA (zbS b params inter t)=true):AOk (zbS b params inter t):=.dcs hp hi hr hl ht h
theorem zk0 {s:PSt} (h:s.Good):∀ a∈s.endActs,AOk a:=by
 intro a A;unfold PSt.endActs at A;split at A
 ·simp at A;subst A;exact zoN h.fine.tl h.tx
 split at A
 ·rename_i h6;simp at A;subst A;have B:=h.f6 h6;exact zoO B.2.2 h.fine.il h.fine.pr h.fine.tl h.tx (zgJ ⟨B.1,B.2.1⟩ B.2.2 h.np h.fine.pr (h.i2 (.inr (.inr h6))) 6 0 _)
 ·simp at A
theorem zmq (s:PSt):s.endActs.length=if s.state=4∨s.state=6 then 1 else 0:=by
 unfold PSt.endActs;by_cases h4:s.state=4
 ·rw[if_pos h4,if_pos (.inl h4)];rfl
 ·by_cases h6:s.state=6
  ·rw[if_neg h4,if_pos h6,if_pos (.inr h6)];rfl
  ·rw[if_neg h4,if_neg h6,if_neg (fun h=>h.elim h4 h6)];rfl
end
section
open Go.RowKit
def PSt.owes (s:PSt):Nat:=(if s.dec.hav=0 then 0 else 1)+(if s.state=4∨s.state=6 then 1 else 0)
theorem zgK (s:PSt):s.texts=true↔s.state=4∨s.state=6∨s.state=7:=by
 unfold PSt.texts;simp[or_assoc]
theorem zmr {s:PSt} (h:s.texts=false):¬ s.state=4∧¬ s.state=6∧¬ s.state=7:=by
 have:¬ (s.state=4∨s.state=6∨s.state=7):=fun e=>(by rw[(zgK s).2 e]at h;simp at h);exact⟨fun e=>this (.inl e),fun e=>this (.inr (.inl e)),fun e=>this (.inr (.inr e))⟩
theorem zhY {s:PSt} (h:s.Good) (D:Dec) (hd:zff D) (hh:D.hav≠0→s.state=0):({ s with dec:=D }:PSt).Good :=
 ⟨⟨h.fine.il,h.fine.pne,h.fine.pl,h.fine.pr,h.fine.tl,h.fine.st,h.fine.e1⟩,h.np,h.tx,h.i1,h.i2,h.f6,hd,hh⟩
theorem zk1 {s:PSt} (b:UInt8) (h:s.Good) :
  (s.any1 b).2.1.Good∧(∀ a∈(s.any1 b).2.2,AOk a)∧((s.any1 b).1=true→(s.any1 b).2.2.length+(s.any1 b).2.1.owes≤1+s.owes) ∧
   ((s.any1 b).1=false→(s.any1 b).2.2=[]∧(s.any1 b).2.1.owes≤s.owes∧32≤(b.toNat:Int)∧((s.any1 b).2.1.texts=false→(b.toNat:Int)≠127∧(127<(b.toNat:Int)→(s.any1 b).2.1.state=0))):=by
 obtain⟨G,H,D,J⟩:=zmn s.dec h.dg;have A:=zk0 h;have C:=zmq s;unfold PSt.any1;split
 ·refine⟨zad (s:={ s with dec:=dec0 }) (by decide) (by decide) (fun h=>absurd rfl h) (fun _=>rfl),fun a ha=>by simp at ha,fun _=>?_,fun h=>by simp at h⟩;show 0+(0+0)≤_;omega
 split
 ·have g:=zad (s:={ s with dec:=(zbf s.dec).1 }) (n:=1) (by decide) (by decide) G (fun h=>absurd D h);refine⟨⟨⟨g.fine.il,g.fine.pne,g.fine.pl,g.fine.pr,g.fine.tl,g.fine.st,g.fine.e1⟩,g.np,g.tx,g.i1,g.i2,g.f6,g.dg,g.dh⟩,fun a ha=>?_,fun _=>?_,fun h=>by simp at h⟩
  ·rcases List.mem_append.1 ha with ha | ha
   ·obtain⟨r,E,rfl⟩:=List.mem_map.1 ha;exact zmp (H r E)
   ·exact A a ha
  ·simp only[List.length_append,List.length_map,J,C,PSt.owes];show _+((if (zbf s.dec).1.hav=0 then 0 else 1)+0)≤_;rw[if_pos D];omega
 split
 ·rename_i h7;refine⟨zad (by decide) (by decide) h.dg (fun _=>rfl),A,fun _=>?_,fun h=>by simp at h⟩;have I:s.dec.hav=0:=by
   by_cases h0:s.dec.hav=0
   ·exact h0
   ·have:=h.dh h0;omega
  simp only[C,PSt.owes];show _+((if s.dec.hav=0 then 0 else 1)+0)≤_;rw[if_pos I,if_pos (show s.state=4∨s.state=6 from .inl h7.2)];omega
 split
 ·exact⟨h,fun a ha=>by simp at ha,fun _=>by simp,fun h=>by simp at h⟩
 rename_i n24 n27 n7 nq;split
 ·rename_i h32;have F:s.texts=false:=by
   cases ht:s.texts
   ·rfl
   ·exact absurd (.inr ⟨h32,ht⟩) nq
  obtain⟨L,N,M⟩:=zmr F;refine⟨zhY h _ G (fun h=>absurd D h),fun a ha=>?_,fun _=>?_,fun h=>by simp at h⟩
  ·rcases List.mem_append.1 ha with ha | ha
   ·obtain⟨r,E,rfl⟩:=List.mem_map.1 ha;exact zmp (H r E)
   ·simp at ha;subst ha;refine zoK ?_;unfold ziL;rw[Qt h32,Qb (fun e=>n24 (.inl e)),Qb (fun e=>n24 (.inr e)),Qb n27];rfl
  ·simp only[List.length_append,List.length_map,List.length_singleton,J,PSt.owes];rw[if_pos D];omega
 rename_i n32;split
 ·rename_i h127;by_cases h0:s.state=0
  ·rw[if_pos h0];exact⟨h,fun a ha=>by simp at ha,fun h=>by simp at h,fun _=>⟨rfl,Nat.le_refl _,by omega,fun _=>⟨by omega,fun _=>h0⟩⟩⟩
  ·rw[if_neg h0];have I:s.dec.hav=0:=by
    by_cases hv:s.dec.hav=0
    ·exact hv
    ·exact absurd (h.dh hv) h0
   refine⟨zad (by decide) (by decide) h.dg (fun _=>rfl),fun a ha=>by simp at ha,fun h=>by simp at h,fun _=>⟨rfl,?_,by omega,fun _=>⟨by omega,fun _=>rfl⟩⟩⟩;simp only[PSt.owes];show(if s.dec.hav=0 then 0 else 1)+0≤_;omega
 ·rename_i n127;refine⟨h,fun a ha=>by simp at ha,fun h=>by simp at h,fun _=>⟨rfl,Nat.le_refl _,by omega,fun ht=>?_⟩⟩;have B:s.texts=false:=ht;refine⟨fun e=>nq (.inl ⟨e,B⟩),fun hg=>absurd ⟨hg,B⟩ n127⟩
theorem zgL (l:List UInt8) (b:UInt8) (lo hi:Int):zev (l++[b]) lo hi=(zev l lo hi && (decide (lo≤(b.toNat:Int)) && decide ((b.toNat:Int)≤hi))):=by
 unfold zev;simp
theorem zjm {s:PSt} (b:UInt8) (h:s.Good) (h1:s.state=1) (hb:32≤(b.toNat:Int)∧(b.toNat:Int)≤126) :
  (s.esced b).1.Good∧(∀ a∈(s.esced b).2,AOk a)∧(s.esced b).2.length+(s.esced b).1.owes≤1+s.owes:=by
 have I:=h.fine.e1 h1;have E:=h.i1 h1;have G:s.dec.hav=0:=by
  by_cases h0:s.dec.hav=0
  ·exact h0
  ·have:=h.dh h0;omega
 have H:∀ n,(s.begun n).owes=if n=4∨n=6 then 1 else 0:=fun n=>by
  unfold PSt.owes;show(if s.dec.hav=0 then 0 else 1)+_=_;rw[if_pos G,Nat.zero_add];rfl
 have F:∀ n,0≤n∧n≤7→n≠6→(s.begun n).Good:=fun n hn h6=>zad hn h6 h.dg (fun e=>absurd G e);unfold PSt.esced;split
 ·rename_i hbt;split
  ·refine⟨?_,fun a ha=>by simp at ha,?_⟩
   ·exact zad (s:={ s with frm:=s.state }) (by decide) (by decide) h.dg (fun e=>absurd G e)
   ·show 0+((if s.dec.hav=0 then 0 else 1)+0)≤_;rw[if_pos G];omega
  ·rename_i h2;have J:(s.inter++[b]).length≤2:=(by rw[List.length_append,List.length_singleton];omega);refine⟨⟨⟨by show(s.inter++[b]).length≤3;omega,h.fine.pne,h.fine.pl,h.fine.pr,h.fine.tl,h.fine.st,fun _=>J⟩,h.np,h.tx,fun _=>?_,fun e=>?_,h.f6,h.dg,h.dh⟩,fun a ha=>by simp at ha,?_⟩
   ·show zev (s.inter++[b]) 32 47=true;rw[zgL,E];unfold ZL at hbt;rw[hbt];rfl
   ·have L:s.state=2∨s.state=5∨s.state=6:=e;omega
   ·simp only[List.length_nil,PSt.owes];omega
 rename_i hbt;have D:48≤(b.toNat:Int):=by
  unfold ZL at hbt;rw[Bool.and_eq_true,decide_eq_true_eq,decide_eq_true_eq]at hbt;omega
 have C:∀ (hc:s.inter.length≠0∨zfB b.toNat=false),AOk (za1 b s.inter):=fun hc=>by
  refine zoL I ?_;unfold ziM ZN;rw[Qt I,E,Qt D,Qt hb.2];rcases hc with hc | hc
  ·have:s.inter.isEmpty=false:=by cases hs:s.inter with
    | nil=>rw[hs]at hc;simp at hc
    | cons c r=>rfl
   rw[this];rfl
  ·rw[hc];simp
 have A:∀ (hc:s.inter.length≠0∨zfB b.toNat=false),(s.begun 0).Good∧(∀ a∈[za1 b s.inter],AOk a)∧[za1 b s.inter].length+(s.begun 0).owes≤1+s.owes:=fun hc=>by
  refine⟨F 0 (by decide) (by decide),fun a ha=>?_,?_⟩
  ·rw[List.mem_singleton]at ha;subst ha;exact C hc
  ·rw[H 0];simp
 have B:∀ n,0≤n∧n≤7→n≠6→(s.begun n).Good∧(∀ a∈([]:List VAct),AOk a)∧([]:List VAct).length+(s.begun n).owes≤1+s.owes:=fun n hn h6=>by
  refine⟨F n hn h6,fun a ha=>by simp at ha,?_⟩;rw[H n];simp only[List.length_nil];split <;> omega
 split
 ·rename_i h0;split
  ·exact B 2 (by decide) (by decide)
  split
  ·exact B 4 (by decide) (by decide)
  split
  ·exact B 5 (by decide) (by decide)
  split
  ·exact B 7 (by decide) (by decide)
  rename_i n1 n2 n3 n4;split
  ·exact B 0 (by decide) (by decide)
  ·refine A (.inr ?_);unfold zfB;simp only[Bool.or_eq_false_iff,beq_eq_false_iff_ne];omega
 ·rename_i h0;exact A (.inl h0)
end
section
open Go.RowKit
theorem zb6 (c:UInt8) (r:List UInt8):zbT (c::r)=if 60≤(c.toNat:Int)∧(c.toNat:Int)≤63 then ([c],r) else ([],c::r):=rfl
theorem zms {s:PSt} {c:UInt8} {r:List UInt8} (hs:s.inter=c::r):s.btw=if 60≤(c.toNat:Int) then r.length else r.length+1:=by
 unfold PSt.btw PSt.marked;rw[hs];by_cases h:60≤(c.toNat:Int)
 ·simp[h]
 ·simp[h]
theorem zoP {s:PSt} (h:ZN (zbT s.inter).2=true):s.btw=(zbT s.inter).2.length:=by
 cases hs:s.inter with
 | nil=>unfold PSt.btw PSt.marked;rw[hs];rfl
 | cons c r =>
  rw[hs,zb6]at h;rw[zms hs,zb6];by_cases hc:60≤(c.toNat:Int)∧(c.toNat:Int)≤63
  ·rw[if_pos hc,if_pos hc.1]
  ·rw[if_neg hc]at h ⊢;have A:¬ 60≤(c.toNat:Int):=fun h60=>by
    unfold ZN zev at h;simp only[Bool.and_eq_true,List.all_cons,decide_eq_true_eq]at h;omega
   rw[if_neg A];rfl
theorem zk2 (l:List UInt8) (b:UInt8) (hb:(b.toNat:Int)≤47):(zbT (l++[b])).2=(zbT l).2++[b]:=by
 cases l with
 | nil =>
  show(zbT [b]).2=[b];rw[zb6,if_neg (by omega)]
 | cons c r =>
  show(zbT (c::(r++[b]))).2=_;rw[zb6,zb6];split <;> rfl
theorem zgu (l:List UInt8) (b:UInt8) (h:ZN l=true) (hl:l.length<2) (hb:ZL (b.toNat:Int)=true):ZN (l++[b])=true:=by
 unfold ZN at h ⊢;rw[Bool.and_eq_true,decide_eq_true_eq]at h;unfold ZL at hb;rw[zgL,h.2,hb,Qt (by rw[List.length_append,List.length_singleton];omega)];rfl
theorem zmt {s:PSt} (d:Int) (h:s.Good):(s.digit d).params≠[-1]:=by
 have C:s.started.params≠[]∧(s.any=true→s.started.params=s.params)∧(s.any=false→s.started.params=[-1]):=by
  unfold PSt.started;cases ha:s.any
  ·exact⟨by simp,by simp,by simp⟩
  ·exact⟨h.fine.pne ha,fun _=>rfl,by simp⟩
 unfold PSt.digit;split
 ·rename_i hd;show zaY s.started.params d≠[-1];intro e;have D:=zfc (s.started.params.getD (s.started.params.length-1) 0) d hd;have A:s.started.params.length=1:=by
   have:=congrArg List.length e;unfold zaY at this;simpa using this
  have B:zbW (s.started.params.getD (s.started.params.length-1) 0) d=-1:=by
   have:=congrArg (fun l=>l.getD 0 0) e;unfold zaY at this;rw[A]at this ⊢;cases hp:s.started.params with
   | nil=>rw[hp]at A;simp at A
   | cons x r=>rw[hp]at this;simpa using this
  unfold zbW at B;omega
 ·split
  ·show s.started.params++[-1]≠[-1];intro e;have:=congrArg List.length e;simp at this;exact C.1 this
  ·rename_i hl;show s.started.params≠[-1];intro e;rw[e]at hl;simp at hl
theorem zfQ {s:PSt} (d:Int) (h:s.Good) (h1:s.state=2∨s.state=5):(s.digit d).Good∧(s.digit d).owes=s.owes:=by
 have e:(s.digit d).inter=s.inter∧(s.digit d).text=s.text∧(s.digit d).state=s.state∧(s.digit d).dec=s.dec:=by
  have B:s.started.inter=s.inter∧s.started.text=s.text∧s.started.state=s.state∧s.started.dec=s.dec:=by
   unfold PSt.started;split <;> exact⟨rfl,rfl,rfl,rfl⟩
  unfold PSt.digit;split
  ·exact B
  split
  ·exact B
  ·exact B
 obtain⟨D,E,A,C⟩:=e;refine⟨⟨zd1 d h.fine,zmt d h,by rw[E];exact h.tx,by rw[A,D];exact h.i1,by rw[A,D];exact h.i2,fun h6=>by rw[A]at h6;omega,by rw[C];exact h.dg,by rw[A,C];exact h.dh⟩,?_⟩;unfold PSt.owes;rw[A,C]
theorem zk3 {s:PSt} (b:UInt8) (h:s.Good) (h1:s.state=2∨s.state=5) (hb:32≤(b.toNat:Int)∧(b.toNat:Int)≤126) :
  (s.seqd b).1.Good∧(∀ a∈(s.seqd b).2,AOk a)∧(s.seqd b).2.length+(s.seqd b).1.owes≤1+s.owes:=by
 have F:=h.i2 (h1.elim .inl (fun e=>.inr (.inl e)));have N:=zoP F;have G:s.dec.hav=0:=by
  by_cases h0:s.dec.hav=0
  ·exact h0
  ·have:=h.dh h0;omega
 have C:¬ s.state=1:=(by omega);have B:=zgE b h.fine C;have A:∀ a∈([]:List VAct),AOk a:=fun a ha=>(by simp at ha);have H:(s.params.take 32)≠[-1]:=by
  intro e;have O:=congrArg List.length e;rw[List.length_take,List.length_singleton]at O;rw[List.take_of_length_le (by omega)]at e;exact h.np e
 have D:∀ x∈s.params.take 32,-1≤x∧x≤9999:=fun x hx=>h.fine.pr x (List.mem_of_mem_take hx);have E:(s.params.take 32).length≤32:=(by rw[List.length_take];omega);revert B;unfold PSt.seqd;split
 ·rename_i h64;split
  ·intro B;refine⟨zad (s:=s.cut) (by decide) (by decide) h.dg (fun e=>absurd G e),fun a ha=>?_,?_⟩
   ·rw[List.mem_singleton]at ha;subst ha;exact zoM E h.fine.il D (zgJ ⟨h64,hb.2⟩ E H D F 4 0 _)
   ·show 1+((if s.dec.hav=0 then 0 else 1)+0)≤_;rw[if_pos G];omega
  ·intro B;refine⟨⟨B,H,h.tx,fun e=>?_,fun _=>F,fun _=>⟨h64,hb.2,E⟩,h.dg,fun e=>absurd G e⟩,A,?_⟩
   ·have M:(6:Int)=1:=e;omega
   ·show 0+((if s.dec.hav=0 then 0 else 1)+1)≤_;rw[if_pos G];omega
 rename_i n64;split
 ·rename_i hbe;intro B;have I:(b.toNat:Int)≤47:=by
   have:=hbe.1;unfold ZL at this;rw[Bool.and_eq_true,decide_eq_true_eq,decide_eq_true_eq]at this;omega
  refine⟨⟨B,h.np,h.tx,fun e=>absurd e C,fun _=>?_,fun e=>?_,h.dg,h.dh⟩,A,?_⟩
  ·show ZN (zbT (s.inter++[b])).2=true;rw[zk2 _ _ I];exact zgu _ _ F (by omega) hbe.1
  ·have M:s.state=6:=e;omega
  ·show 0+s.owes≤_;omega
 split
 ·intro _;obtain⟨J,L⟩:=zfQ ((b.toNat:Int)-48) h h1;exact⟨J,A,by rw[L];simp only[List.length_nil];omega⟩
 split
 ·intro _;obtain⟨J,L⟩:=zfQ (-1) h h1;exact⟨J,A,by rw[L];simp only[List.length_nil];omega⟩
 split
 ·rename_i hm;intro B;refine⟨⟨B,h.np,h.tx,fun e=>absurd e C,fun _=>?_,fun e=>?_,h.dg,h.dh⟩,A,?_⟩
  ·show ZN (zbT (s.inter++[b])).2=true;rw[List.length_eq_zero_iff.1 hm.2.1];show ZN (zbT [b]).2=true;rw[zb6,if_pos ⟨hm.1,by omega⟩];rfl
  ·have M:s.state=6:=e;omega
  ·show 0+s.owes≤_;omega
 ·intro _;refine⟨zad (s:={ s with frm:=s.state }) (by decide) (by decide) h.dg (fun e=>absurd G e),A,?_⟩;show 0+((if s.dec.hav=0 then 0 else 1)+0)≤_;rw[if_pos G];omega
theorem zk4 {s:PSt} (b:UInt8) (h:s.Good) (h32:32≤(b.toNat:Int)) (hb:s.texts=false→(b.toNat:Int)≠127∧(127<(b.toNat:Int)→s.state=0)) :
  (s.took b).1.Good∧(∀ a∈(s.took b).2,AOk a)∧(s.took b).2.length+(s.took b).1.owes≤1+s.owes:=by
 have A:∀ a∈([]:List VAct),AOk a:=fun a ha=>(by simp at ha);have C:¬ s.state=4→¬ s.state=6→¬ s.state=7→s.texts=false:=fun a1 a2 a3=>by
  cases ht:s.texts
  ·rfl
  ·have:=(zgK s).1 ht;omega
 have E:¬ s.state=0→s.dec.hav=0:=fun e=>by
  by_cases h0:s.dec.hav=0
  ·exact h0
  ·exact absurd (h.dh h0) e
 unfold PSt.took;split
 ·rename_i h1;have B:=hb (C (by omega) (by omega) (by omega));refine zjm b h h1 ⟨h32,?_⟩;by_cases hc:127<(b.toNat:Int)
  ·have:=B.2 hc;omega
  ·have:=B.1;omega
 rename_i n1;split
 ·rename_i h1;have B:=hb (C (by omega) (by omega) (by omega));refine zk3 b h h1 ⟨h32,?_⟩;by_cases hc:127<(b.toNat:Int)
  ·have:=B.2 hc;omega
  ·have:=B.1;omega
 rename_i n2;split
 ·rename_i h3;have D:=E (by omega);split
  ·refine⟨?_,A,?_⟩
   ·split
    ·exact zad (by decide) (by decide) h.dg (fun e=>absurd D e)
    ·exact zad (by decide) (by decide) h.dg (fun e=>absurd D e)
   ·split
    ·show 0+((if s.dec.hav=0 then 0 else 1)+0)≤_;rw[if_pos D];omega
    ·show 0+((if s.dec.hav=0 then 0 else 1)+0)≤_;rw[if_pos D];omega
  ·exact⟨h,A,by simp only[List.length_nil];omega⟩
 rename_i n3;split
 ·rename_i h4;split
  ·rename_i hl;refine⟨⟨⟨h.fine.il,h.fine.pne,h.fine.pl,h.fine.pr,by show(s.text++[b]).length≤1024;rw[List.length_append,List.length_singleton];omega,h.fine.st,h.fine.e1⟩,h.np,fun c hc=>?_,h.i1,h.i2,h.f6,h.dg,h.dh⟩,A,?_⟩
   ·have F:c∈s.text++[b]:=hc;rcases List.mem_append.1 F with hc | hc
    ·exact h.tx c hc
    ·rw[List.mem_singleton]at hc;subst hc;exact h32
   ·show 0+s.owes≤_;omega
  ·exact⟨h,A,by simp only[List.length_nil];omega⟩
 rename_i n4;split
 ·exact⟨h,A,by simp only[List.length_nil];omega⟩
 rename_i n7;have h0:s.state=0:=(by have:=h.fine.st;omega);have B:=hb (C (by omega) (by omega) (by omega));obtain⟨G,H,J⟩:=zkZ s.dec (b.toNat:Int) h.dg (by omega) (zdO b);unfold PSt.fed;refine⟨zhY h _ G (fun _=>h0),fun a ha=>?_,?_⟩
 ·obtain⟨r,I,rfl⟩:=List.mem_map.1 ha;exact zmp (H h32 B.1 r I)
 ·simp only[List.length_map,PSt.owes];rw[if_neg (show ¬ (s.state=4∨s.state=6) by omega)];omega
theorem zeN {s:PSt} (b:UInt8) (h:s.Good):(s.step b).1.Good∧(∀ a∈(s.step b).2,AOk a)∧(s.step b).2.length+(s.step b).1.owes≤1+s.owes:=by
 obtain⟨A,E,H,G⟩:=zk1 b h;unfold PSt.step;split
 ·rename_i ht;exact⟨A,E,H ht⟩
 ·rename_i hf;obtain⟨D,L,C,F⟩:=G (by simpa using hf);obtain⟨B,I,J⟩:=zk4 b A C F;rw[D,List.nil_append];exact⟨B,I,by dsimp only;omega⟩
end
section
open Go.RowKit
def Sav.cut (v:Sav) (cols rows:Nat):Sav:={ v with x:=min v.x ((cols:Int)-1),y:=min v.y ((rows:Int)-1),wait:=false }
def Scr.sized (s:Scr) (cols rows:Nat):Scr:=match s.other with
 | none=>{ s with main:=(s.main.resize cols rows s.now.x s.now.y true).1,now:={ s.now with x:=(s.main.resize cols rows s.now.x s.now.y true).2.1,y:=(s.main.resize cols rows s.now.x s.now.y true).2.2 } }
 | some g=>{ s with main:=(s.main.resize cols rows s.k0.x s.k0.y true).1,k0:={ s.k0 with x:=(s.main.resize cols rows s.k0.x s.k0.y true).2.1,y:=(s.main.resize cols rows s.k0.x s.k0.y true).2.2 },other:=some (g.resize cols rows s.now.x s.now.y false).1,now:={ s.now with x:=(g.resize cols rows s.now.x s.now.y false).2.1,y:=(g.resize cols rows s.now.x s.now.y false).2.2 } }
def Scr.fin (s:Scr) (cols rows:Nat):Scr:=(Scr.stops { s with now:={ s.now with wait:=false },k0:=s.k0.cut cols rows,k1:=s.k1.cut cols rows }).whole
def Scr.resize (s:Scr) (cols rows:Nat):Scr:=(s.sized cols rows).fin cols rows
theorem znO {l:List Cel} (h:Wh l):zjR l:=fun c m e=>by
 have:=zg4 h 0 (by rw[e];exact Nat.succ_pos _);subst e;have e0:(List.getD (c::m) 0 noC)=c:=rfl;rw[e0]at this;omega
theorem zav (g:Gr) (cols rows:Nat) (ax ay:Int) (f:Bool):zaR cols rows (g.resize cols rows ax ay f).1:=by
 cases f with
 | false=>rw[zbB];exact⟨rfl,zd0 _ _ _⟩
 | true =>
  refine⟨rfl,?_⟩;unfold Gr.resize;rw[if_pos rfl];unfold Gr.flow;dsimp only;rw[List.length_append,List.length_take];unfold zW;rw[List.length_replicate];omega
theorem zeO {g:Gr} (hg:g.All WhR) (hne:g.rows≠[]) {cols rows:Nat} (h1:1≤cols) (h2:1≤rows) (ax ay:Int) (f:Bool) :
  0≤(g.resize cols rows ax ay f).2.1∧(g.resize cols rows ax ay f).2.1<cols∧0≤(g.resize cols rows ax ay f).2.2∧(g.resize cols rows ax ay f).2.2<rows:=by
 cases f with
 | false =>
  have A:0<g.rows.length:=List.length_pos_iff.2 hne;rw[zbB];dsimp only;unfold zfD;omega
 | true =>
  unfold Gr.resize;rw[if_pos rfl];exact zoj (fun r hr=>znO (hg r hr)) hne h1 h2 _ _
theorem Scr.Ok.fin {a b c r cols rows:Nat} {s:Scr} (h1:1≤cols) (h2:1≤rows) (hm:zaR cols rows s.main) (ho:∀ g,s.other=some g→zaR cols rows g)
  (hx:0≤s.now.x∧s.now.x<cols∧0≤s.now.y∧s.now.y<rows) (hp:okS s.now.pen=true) (hs:s.now.second=0∨s.now.second=1) (k0:s.k0.In a b) (k1:s.k1.In c r) (md:M10 s.modes) :
  (s.fin cols rows).Ok cols rows:=by
 have A:(s.main.rows.length:Int)=rows:=(by rw[hm.2]);have hcut:∀ (v:Sav) (a b:Nat),v.In a b→(v.cut cols rows).In cols rows:=fun v a b hv =>
  ⟨by show 0≤min v.x ((cols:Int)-1);have:=hv.x0;omega,by show min v.x ((cols:Int)-1)<cols;omega,by show 0≤min v.y ((rows:Int)-1);have:=hv.y0;omega,by show min v.y ((rows:Int)-1)<rows;omega,hv.pen,hv.sec⟩
 exact⟨hm,ho,⟨hx.1,hx.2.1,hx.2.2.1,hx.2.2.2,hp,hs⟩,hcut _ _ _ k0,hcut _ _ _ k1,Int.le_refl _,by show(0:Int)≤(s.main.rows.length:Int)-1;omega,by show(s.main.rows.length:Int)-1<rows;omega,
  by show(zcc s.tabs s.main.cols).length=cols;rw[zc2,hm.1],md⟩
theorem Scr.Ok.resize {c r cols rows:Nat} {s:Scr} (h:s.Ok c r) (hr:1≤r) (hw:s.main.All WhR) (hwo:∀ g,s.other=some g→g.All WhR) (h1:1≤cols) (h2:1≤rows):(s.resize cols rows).Ok cols rows:=by
 have hne:s.main.rows≠[]:=fun e=>(by have:=h.main.2;rw[e]at this;simp at this;omega);unfold Scr.resize Scr.sized;cases ho:s.other with
 | none =>
  exact Scr.Ok.fin h1 h2 (zav _ _ _ _ _ _) (fun g hg=>by cases hg) (zeO hw hne h1 h2 _ _ _) h.now.pen h.now.sec h.k0 h.k1 h.md
 | some g =>
  have A:g.rows≠[]:=fun e=>(by have:=(h.other g ho).2;rw[e]at this;simp at this;omega);have B:=zeO hw hne h1 h2 s.k0.x s.k0.y true;exact Scr.Ok.fin (a:=cols) (b:=rows) h1 h2 (zav _ _ _ _ _ _) (fun q hq=>by injection hq with hq;rw[← hq];exact zav _ _ _ _ _ _) (zeO (hwo g ho) A h1 h2 _ _ _) h.now.pen h.now.sec
   ⟨B.1,B.2.1,B.2.2.1,B.2.2.2,h.k0.pen,h.k0.sec⟩ h.k1 h.md
end
section
open Go.RowKit
structure Clo (P:Gr→Prop):Prop where
 up:∀ {g:Gr},P g→∀ t b n s k,P (g.up t b n s k)
 down:∀ {g:Gr},P g→∀ t b n s,P (g.down t b n s)
 put:∀ {g:Gr},P g→∀ x y q,P (g.put x y q)
 wrap:∀ {g:Gr},P g→∀ y is,P (g.setWrap y is)
 ins:∀ {g:Gr},P g→∀ x y n s,P (g.ins x y n s)
 del:∀ {g:Gr},P g→∀ x y n s,P (g.del x y n s)
 erase:∀ {g:Gr},P g→∀ x y n s,P (g.erase x y n s)
 clear:∀ {g:Gr},P g→P { g with old:=[] }
 new:∀ {g:Gr},P g→∀ l,l=g.limit∨l=0→P (Z1 g.cols g.rows.length l)
def Scr.Has (P:Gr→Prop) (s:Scr):Prop:=P s.main∧∀ g,s.other=some g→P g
section
variable {P:Gr→Prop} {s:Scr}
theorem Scr.Has.turn (h:s.Has P) (f:Gr→Gr) (hf:∀ g,P g→P (f g)):(s.turn f).Has P:=by
 unfold Scr.turn;cases ho:s.other with
 | none=>exact⟨hf _ h.1,fun g hg=>by cases hg⟩
 | some g=>exact⟨h.1,fun q hq=>by injection hq with hq;rw[← hq];exact hf g (h.2 g ho)⟩
variable (C:Clo P)
include C
theorem Scr.Has.index (h:s.Has P):s.index.Has P:=by
 unfold Scr.index;split
 ·exact h.turn _ fun g hg=>C.up hg _ _ _ _ _
 ·split
  ·exact h
  ·exact h
theorem Scr.Has.reverse (h:s.Has P):s.reverse.Has P:=by
 unfold Scr.reverse;split
 ·exact h.turn _ fun g hg=>C.down hg _ _ _ _
 ·split
  ·exact h
  ·exact h
theorem Scr.Has.on (h:s.Has P):s.on.Has P:=by
 have B:(s.turn (fun g=>g.setWrap s.now.y true)).Has P:=h.turn _ fun g hg=>C.wrap hg _ _;have A:((s.turn (fun g=>g.setWrap s.now.y true)).toX 0).Has P:=B;exact A.index C
theorem Scr.Has.fit (h:s.Has P) (w:Int):(s.fit w).Has P:=by
 unfold Scr.fit;have B:(if s.now.wait && s.has 1 then s.on else s).Has P:=by
  split
  ·exact h.on C
  ·exact h
 generalize (if s.now.wait && s.has 1 then s.on else s)=t at B;have A:t.calm.Has P:=B;dsimp only;split
 ·split
  ·exact A.on C
  ·exact A
 ·exact A
theorem Scr.Has.lay (h:s.Has P) (c w:Int):(s.lay c w).Has P:=by
 unfold Scr.lay;have B:(if s.has 2 then s.turn (fun g=>g.ins s.now.x s.now.y w s.blank) else s).Has P:=by
  split
  ·exact h.turn _ fun g hg=>C.ins hg _ _ _ _
  ·exact h
 generalize (if s.has 2 then s.turn (fun g=>g.ins s.now.x s.now.y w s.blank) else s)=t at B;dsimp only;have A:(t.turn (fun g=>g.put t.now.x t.now.y ⟨c,w,t.now.pen⟩)).Has P:=B.turn _ fun g hg=>C.put hg _ _ _;split
 ·exact A
 ·exact A
theorem Scr.Has.print (h:s.Has P) (r:Int):(s.print r).Has P:=by
 unfold Scr.print;dsimp only;split
 ·exact h
 ·exact(h.fit C _).lay C _ _
theorem Scr.Has.control (h:s.Has P) (b:UInt8):(s.control b).Has P:=by
 unfold Scr.control;have A:(if 8≤(b.toNat:Int)∧(b.toNat:Int)≤13 then s.calm else s).Has P:=by
  split
  ·exact h
  ·exact h
 dsimp only;generalize (if 8≤(b.toNat:Int)∧(b.toNat:Int)≤13 then s.calm else s)=t at A ⊢;have B:=A.index C;split
 ·exact A
 split
 ·exact A
 split
 ·exact A
 split
 ·split
  ·exact B
  ·exact B
 split
 ·exact A
 split
 ·exact A
 ·exact A
omit C in
theorem Scr.Has.setSlot (h:s.Has P) (v:Sav):(s.setSlot v).Has P:=by
 unfold Scr.setSlot;split
 ·exact h
 ·exact h
omit C in
theorem Scr.Has.save (h:s.Has P):s.save.Has P:=by
 have A:({ s with now:={ s.now with origin:=s.has 4 } }:Scr).Has P:=h;exact A.setSlot _
omit C in
theorem Scr.Has.keep (h:s.Has P) (on:Bool):(s.keep on).Has P:=by
 unfold Scr.keep;split
 ·exact h.save
 ·exact h
theorem Scr.Has.swap (h:s.Has P) (on:Bool):(s.swap on).Has P:=by
 unfold Scr.swap;split
 ·exact h
 ·refine⟨h.1,fun g hg=>?_⟩;have A:(if on then some (Z1 s.main.cols s.main.rows.length 0) else none)=some g:=hg;split at A
  ·injection A with A;rw[← A];exact C.new h.1 0 (.inr rfl)
  ·cases A
theorem zgM {g:Gr} (h:P g) (y:Nat):∀ x,P (zhS g y x)
 | 0=>h
 | x+1=>C.put (zgM h y x) _ _ _
theorem zfg {g:Gr} (h:P g) (m:Nat):∀ y,P (zbY g m y)
 | 0=>h
 | y+1=>C.wrap (zgM C (zfg h m y) y m) _ _
theorem Scr.Has.fill (h:s.Has P):s.fill.Has P:=by
 have A:((s.whole).place 0 0).Has P:=h;exact A.turn _ fun g hg=>zfg C hg _ _
theorem Scr.Has.reset (h:s.Has P):s.reset.Has P:=⟨C.new h.1 s.main.limit (.inl rfl),fun g hg=>by
 have hg':(none:Option Gr)=some g:=hg;cases hg'⟩
theorem Scr.Has.bare (h:s.Has P) (b:UInt8):(s.bare b).Has P:=by
 have A:(s.toX 0).Has P:=h;unfold Scr.bare;dsimp only;split
 ·exact h.save
 split
 ·exact h
 split
 ·exact A.index C
 split
 ·exact h.index C
 split
 ·exact h.reverse C
 split
 ·exact h
 split
 ·exact h.reset C
 split
 ·exact h
 split
 ·exact h
 ·exact h
theorem Scr.Has.escape (h:s.Has P) (b:UInt8) (i:List UInt8):(s.escape b i).Has P:=by
 unfold Scr.escape;dsimp only
 repeat' split
 all_goals first | exact h | exact h.fill C | exact h.bare C b
end
end
end Go.Proofs.YthehkmopdeebmaaGreatDoor
