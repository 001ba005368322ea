/- Part. -/
import Derived.Test.YthehkmopdeebmaaGreatDoorY0
set_option linter.unusedVariables false
set_option linter.unusedSimpArgs false
namespace Go.Proofs.YthehkmopdeebmaaGreatDoor
open _root_.Go.Proofs.Tryz
section
open Go.ChangeShapes Go.WideShapes Go.ChangeAt Go.RowKit Go.ChangeMaps
def I64 (x:Int):Prop:=-9223372036854775808≤x∧x≤9223372036854775807
end
section
open Go.RowKit
def zbt (c:Int) (n:Nat):Nat:=((if c<0 then -(c+1) else c).tmod (n:Int)).toNat
theorem zcg (c:Int) (n:Nat) (hn:0<n):zbt c n<n:=by
 unfold zbt;split
 ·have A:0≤(-(c+1)).tmod (n:Int)∧(-(c+1)).tmod (n:Int)<n:=⟨Int.tmod_nonneg _ (by omega),Int.tmod_lt_of_pos _ (by omega)⟩;omega
 ·have A:0≤c.tmod (n:Int)∧c.tmod (n:Int)<n:=⟨Int.tmod_nonneg _ (by omega),Int.tmod_lt_of_pos _ (by omega)⟩;omega
end
section
structure Dec where
 r:Int
 hav:Int
 more:Int
 lo:Int
 hi:Int
def Zk (d:Dec) (b:Int):Dec × List Int :=
 if b<128 then ({ d with lo:=128,hi:=191 },[b])
 else if 194≤b∧b≤223 then (⟨b % 32,1,1,128,191⟩,[])
 else if 224≤b∧b≤239 then (⟨b % 16,1,2,if b=224 then 160 else 128,if b=237 then 159 else 191⟩,[])
 else if 240≤b∧b≤244 then (⟨b % 8,1,3,if b=240 then 144 else 128,if b=244 then 143 else 191⟩,[])
 else ({ d with lo:=128,hi:=191 },[65533])
def Zv (d:Dec) (b:Int):Dec × List Int :=
 if d.hav=0 then Zk d b
 else if b<d.lo∨d.hi<b then ((Zk { d with hav:=0 } b).1,65533::(Zk { d with hav:=0 } b).2)
 else if 1<d.more then (⟨d.r*64+b % 64,d.hav+1,d.more-1,128,191⟩,[])
 else (⟨d.r*64+b % 64,0,d.more-1,128,191⟩,[d.r*64+b % 64])
def zbf (d:Dec):Dec × List Int:=if d.hav=0 then (d,[]) else ({ d with hav:=0 },[65533])
def dec0:Dec:=⟨0,0,0,0,0⟩
def ZE:Dec→List UInt8→Dec × List Int
 | d,[]=>(d,[])
 | d,b::l=>((ZE (Zv d b.toNat).1 l).1,(Zv d b.toNat).2++(ZE (Zv d b.toNat).1 l).2)
theorem zfh:∀ (l m:List UInt8) (d:Dec),ZE d (l++m)=((ZE (ZE d l).1 m).1,(ZE d l).2++(ZE (ZE d l).1 m).2)
 | [],m,d=>by simp[ZE]
 | b::l,m,d=>by simp[ZE,zfh l m]
theorem zk5 (l:List UInt8) (b:UInt8) (d:Dec):ZE d (l++[b])=((Zv (ZE d l).1 b.toNat).1,(ZE d l).2++(Zv (ZE d l).1 b.toNat).2):=by
 rw[zfh];simp[ZE]
def zdj (l:List UInt8):List Int:=(ZE dec0 l).2++(zbf (ZE dec0 l).1).2
def zag (b:Int):Int × Int × Int :=
 if 194≤b∧b≤223 then (128,191,0)
 else if b=224 then (160,191,1)
 else if b=237 then (128,159,1)
 else if 225≤b∧b≤239 then (128,191,1)
 else if b=240 then (144,191,2)
 else if 241≤b∧b≤243 then (128,191,2)
 else if b=244 then (128,143,2)
 else (0,0,-1)
def goT:Nat→Int→Int→Int→List UInt8→Nat→Int × Nat
 | 0,r,_,_,_,i=>(r,i)
 | _+1,_,_,_,[],_=>(0,0)
 | k+1,r,lo,hi,b::t,i=>if (b.toNat:Int)<lo∨hi<(b.toNat:Int) then (65533,i) else goT k (r*64+(b.toNat:Int) % 64) 128 191 t (i+1)
def zhk (b more:Int):Int:=if more=2 then b % 8 else if more=1 then b % 16 else b % 32
def zbu:List UInt8→Int × Nat
 | []=>(0,0)
 | b::t =>
  if (b.toNat:Int)<128 then (b.toNat,1)
  else if (zag b.toNat).2.2<0 then (65533,1)
  else goT ((zag b.toNat).2.2.toNat+1) (zhk b.toNat (zag b.toNat).2.2) (zag b.toNat).1 (zag b.toNat).2.1 t 1
theorem zc5 (b:UInt8) (t:List UInt8):zbu (b::t)=if (b.toNat:Int)<128 then ((b.toNat:Int),1)
  else if (zag b.toNat).2.2<0 then (65533,1)
  else goT ((zag b.toNat).2.2.toNat+1) (zhk b.toNat (zag b.toNat).2.2) (zag b.toNat).1 (zag b.toNat).2.1 t 1:=rfl
theorem zkc:∀ (k:Nat) (d:Dec) (t:List UInt8) (i:Nat),0<i→1≤d.hav→d.more=k+1 →
  ((goT (k+1) d.r d.lo d.hi t i).2=0→(ZE d t).2=[]∧(ZE d t).1.hav=d.hav+t.length) ∧
  ((goT (k+1) d.r d.lo d.hi t i).2≠0→∃ d1:Dec,d1.hav=0∧i≤(goT (k+1) d.r d.lo d.hi t i).2 ∧
   ZE d t=((ZE d1 (t.drop ((goT (k+1) d.r d.lo d.hi t i).2-i))).1,(goT (k+1) d.r d.lo d.hi t i).1::(ZE d1 (t.drop ((goT (k+1) d.r d.lo d.hi t i).2-i))).2))
 | k,d,[],i,hi,hh,hm=>by simp[goT,ZE]
 | k,d,b::t,i,hi,hh,hm=>by
  have h0:¬ d.hav=0:=(by omega);by_cases hb:(b.toNat:Int)<d.lo∨d.hi<(b.toNat:Int)
  ·have e:goT (k+1) d.r d.lo d.hi (b::t) i=(65533,i):=(by unfold goT;rw[if_pos hb]);rw[e];refine⟨fun h=>by simp at h;omega,fun _=>⟨{ d with hav:=0 },rfl,Nat.le_refl _,?_⟩⟩;have ef:Zv d b.toNat=((Zv { d with hav:=0 } b.toNat).1,65533::(Zv { d with hav:=0 } b.toNat).2):=by
    unfold Zv;rw[if_neg h0,if_pos hb];simp
   simp[ZE,ef]
  ·have e:goT (k+1) d.r d.lo d.hi (b::t) i=goT k (d.r*64+(b.toNat:Int) % 64) 128 191 t (i+1):=(by rw[goT];rw[if_neg hb]);rw[e];cases k with
   | zero =>
    have ef:Zv d b.toNat=(⟨d.r*64+(b.toNat:Int) % 64,0,d.more-1,128,191⟩,[d.r*64+(b.toNat:Int) % 64]):=by
     unfold Zv;rw[if_neg h0,if_neg hb,if_neg (by omega)]
    simp only[goT];refine⟨fun h=>by omega,fun _=>⟨⟨d.r*64+(b.toNat:Int) % 64,0,d.more-1,128,191⟩,rfl,by omega,?_⟩⟩;rw[show i+1-i=1 from by omega];simp only[ZE,ef];rfl
   | succ k =>
    have ef:Zv d b.toNat=(⟨d.r*64+(b.toNat:Int) % 64,d.hav+1,d.more-1,128,191⟩,[]):=by
     unfold Zv;rw[if_neg h0,if_neg hb,if_pos (by omega)]
    have A:=zkc k ⟨d.r*64+(b.toNat:Int) % 64,d.hav+1,d.more-1,128,191⟩ t (i+1) (by omega) (by simp only[];omega) (by simp only[];omega);dsimp only at A;have E:ZE d (b::t)=ZE ⟨d.r*64+(b.toNat:Int) % 64,d.hav+1,d.more-1,128,191⟩ t:=(by simp[ZE,ef]);rw[E];refine⟨fun h=>?_,fun h=>?_⟩
    ·obtain⟨B,C⟩:=A.1 h;exact⟨B,by rw[C];simp;omega⟩
    ·obtain⟨d1,B,C,D⟩:=A.2 h;refine⟨d1,B,by omega,?_⟩;rw[D];have:(goT (k+1) (d.r*64+(b.toNat:Int) % 64) 128 191 t (i+1)).2-i=((goT (k+1) (d.r*64+(b.toNat:Int) % 64) 128 191 t (i+1)).2-(i+1))+1:=(by omega);rw[this,List.drop_succ_cons]
theorem zjn (d:Dec) (b:Int) (h1:¬ b<128) (h2:¬ (zag b).2.2<0) :
  Zk d b=(⟨zhk b (zag b).2.2,1,(zag b).2.2+1,(zag b).1,(zag b).2.1⟩,[]):=by
 by_cases c1:194≤b∧b≤223
 ·simp only[zag,Zk,if_neg h1,if_pos c1];rfl
 by_cases c2:b=224
 ·subst c2;rfl
 by_cases c3:b=237
 ·subst c3;rfl
 by_cases c4:225≤b∧b≤239
 ·simp only[zag,Zk,if_neg h1,if_neg c1,if_neg c2,if_neg c3,if_pos c4,if_pos (show 224≤b∧b≤239 by omega)];rfl
 by_cases c5:b=240
 ·subst c5;rfl
 by_cases c6:241≤b∧b≤243
 ·simp only[zag,Zk,if_neg h1,if_neg c1,if_neg c2,if_neg c3,if_neg c4,if_neg c5,if_pos c6,if_neg (show ¬ (224≤b∧b≤239) by omega),if_pos (show 240≤b∧b≤244 by omega),if_neg (show ¬ b=244 by omega)];rfl
 by_cases c7:b=244
 ·subst c7;rfl
 ·exfalso;apply h2;simp only[zag,if_neg c1,if_neg c2,if_neg c3,if_neg c4,if_neg c5,if_neg c6,if_neg c7];decide
theorem znP (b:Int) (h2:(zag b).2.2<0):¬ (194≤b∧b≤223)∧¬ (224≤b∧b≤239)∧¬ (240≤b∧b≤244):=by
 unfold zag at h2
 repeat' split at h2
 all_goals first | (exact absurd h2 (by decide)) | omega
theorem zk6 (d:Dec) (b:UInt8) (t:List UInt8) (hd:d.hav=0) :
  ((zbu (b::t)).2=0→(ZE d (b::t)).2=[]∧(ZE d (b::t)).1.hav=(b::t).length) ∧
  ((zbu (b::t)).2≠0→∃ d1:Dec,d1.hav=0∧ZE d (b::t)=((ZE d1 ((b::t).drop (zbu (b::t)).2)).1,(zbu (b::t)).1::(ZE d1 ((b::t).drop (zbu (b::t)).2)).2)):=by
 have E:Zv d b.toNat=Zk d b.toNat:=(by unfold Zv;rw[if_pos hd]);have H:=b.toNat_lt;by_cases h1:(b.toNat:Int)<128
 ·have A:zbu (b::t)=((b.toNat:Int),1):=(by rw[zc5,if_pos h1]);have B:Zk d b.toNat=({ d with lo:=128,hi:=191 },[(b.toNat:Int)]):=(by unfold Zk;rw[if_pos h1]);rw[A];exact⟨fun h=>absurd h (Nat.succ_ne_zero 0),fun _=>⟨{ d with lo:=128,hi:=191 },hd,by simp only[ZE,E,B];rfl⟩⟩
 by_cases h2:(zag b.toNat).2.2<0
 ·have A:zbu (b::t)=(65533,1):=(by rw[zc5,if_neg h1,if_pos h2]);have B:Zk d b.toNat=({ d with lo:=128,hi:=191 },[65533]):=by
   obtain⟨M,J,I⟩:=znP _ h2;unfold Zk;rw[if_neg h1,if_neg M,if_neg J,if_neg I]
  rw[A];exact⟨fun h=>absurd h (Nat.succ_ne_zero 0),fun _=>⟨{ d with lo:=128,hi:=191 },hd,by simp only[ZE,E,B];rfl⟩⟩
 ·have B:=zjn d b.toNat h1 h2;have A:zbu (b::t)=goT ((zag b.toNat).2.2.toNat+1) (zhk b.toNat (zag b.toNat).2.2) (zag b.toNat).1 (zag b.toNat).2.1 t 1:=by
   rw[zc5,if_neg h1,if_neg h2]
  have C:=zkc (zag b.toNat).2.2.toNat ⟨zhk b.toNat (zag b.toNat).2.2,1,(zag b.toNat).2.2+1,(zag b.toNat).1,(zag b.toNat).2.1⟩ t 1 (by omega) (by simp) (by simp only[];omega);dsimp only at C;rw[← A]at C;have L:ZE d (b::t)=ZE ⟨zhk b.toNat (zag b.toNat).2.2,1,(zag b.toNat).2.2+1,(zag b.toNat).1,(zag b.toNat).2.1⟩ t:=(by simp[ZE,E,B]);rw[L];refine⟨fun h=>?_,fun h=>?_⟩
  ·obtain⟨D,F⟩:=C.1 h;exact⟨D,by rw[F];simp;omega⟩
  ·obtain⟨d1,D,F,G⟩:=C.2 h;refine⟨d1,D,?_⟩;rw[G];have:(zbu (b::t)).2=((zbu (b::t)).2-1)+1:=(by omega);rw[this,List.drop_succ_cons];simp
def zbP:Nat→List UInt8→List Int × Nat
 | 0,_=>([],0)
 | _+1,[]=>([],0)
 | n+1,b::t=>if (zbu (b::t)).2=0 then ([],(b::t).length) else
   ((zbu (b::t)).1::(zbP n ((b::t).drop (zbu (b::t)).2)).1,(zbP n ((b::t).drop (zbu (b::t)).2)).2)
theorem zgN:∀ (n:Nat) (l:List UInt8) (d:Dec),l.length≤n→d.hav=0→(ZE d l).2=(zbP n l).1∧(ZE d l).1.hav=(zbP n l).2
 | n,[],d,_,hd=>by cases n <;> simp[ZE,zbP,hd]
 | 0,_::_,_,h,_=>by simp at h
 | n+1,b::t,d,h,hd=>by
  obtain⟨r1,r2⟩:=zk6 d b t hd;by_cases h0:(zbu (b::t)).2=0
  ·obtain⟨a1,a2⟩:=r1 h0;rw[zbP,if_pos h0];exact⟨a1,a2⟩
  ·obtain⟨d1,a1,a2⟩:=r2 h0;rw[zbP,if_neg h0,a2];have ih:=zgN n ((b::t).drop (zbu (b::t)).2) d1 (by simp only[List.length_drop];simp only[List.length_cons]at h ⊢;omega) a1;dsimp only;exact⟨by rw[ih.1],ih.2⟩
def whole (l:List UInt8):List Int × Nat:=zbP l.length l
theorem zjo (l:List UInt8) (d:Dec) (hd:d.hav=0):(ZE d l).2=(whole l).1∧(ZE d l).1.hav=(whole l).2:=zgN _ l d (Nat.le_refl _) hd
def zjp (l:List UInt8):List Int:=(whole l).1++if (whole l).2=0 then [] else [65533]
theorem zmu (l:List UInt8):zdj l=zjp l:=by
 obtain⟨B,A⟩:=zjo l dec0 rfl;unfold zdj zjp zbf;rw[B,A];congr 1;by_cases h:(whole l).2=0
 ·simp[h]
 ·rw[if_neg (by omega),if_neg h]
end
section
def cp (r:Int):Nat:=if Utf8.valid r then r.toNat else 65533
def zhl (r:Int):List UInt8:=(Utf8.encode r).data.toList
theorem zk7 (r:Int):Utf8.valid r=true↔(0≤r∧r<55296)∨(57344≤r∧r≤1114111):=by
 unfold Utf8.valid;simp
theorem znQ (r:Int):zhl r =
  if cp r<128 then [UInt8.ofNat (cp r)]
  else if cp r<2048 then [UInt8.ofNat (192+cp r / 64),UInt8.ofNat (128+cp r % 64)]
  else if cp r<65536 then [UInt8.ofNat (224+cp r / 4096),UInt8.ofNat (128+cp r / 64 % 64),UInt8.ofNat (128+cp r % 64)]
  else [UInt8.ofNat (240+cp r / 262144),UInt8.ofNat (128+cp r / 4096 % 64),UInt8.ofNat (128+cp r / 64 % 64),UInt8.ofNat (128+cp r % 64)]:=by
 unfold zhl Utf8.encode;have e:(if Utf8.valid r=true then r.toNat else Utf8.runeError)=cp r:=rfl;simp only[e];by_cases h1:cp r<128
 ·rw[if_pos h1,if_pos h1]
 by_cases h2:cp r<2048
 ·rw[if_neg h1,if_neg h1,if_pos h2,if_pos h2]
 by_cases h3:cp r<65536
 ·rw[if_neg h1,if_neg h1,if_neg h2,if_neg h2,if_pos h3,if_pos h3]
 ·rw[if_neg h1,if_neg h1,if_neg h2,if_neg h2,if_neg h3,if_neg h3]
theorem zoQ (b:Int) (h:194≤b∧b≤223):zag b=(128,191,0):=by unfold zag;rw[if_pos h]
theorem zoR (b:Int) (h:224≤b∧b≤239):zag b=(if b=224 then 160 else 128,if b=237 then 159 else 191,1):=by
 unfold zag;rw[if_neg (by omega)];by_cases c2:b=224
 ·subst c2;rfl
 by_cases c3:b=237
 ·subst c3;rfl
 rw[if_neg c2,if_neg c3,if_pos (by omega),if_neg c2,if_neg c3]
theorem zoS (b:Int) (h:240≤b∧b≤244):zag b=(if b=240 then 144 else 128,if b=244 then 143 else 191,2):=by
 unfold zag;rw[if_neg (by omega),if_neg (by omega),if_neg (by omega),if_neg (by omega)];by_cases c2:b=240
 ·subst c2;rfl
 by_cases c3:b=244
 ·subst c3;rfl
 rw[if_neg c2,if_pos (by omega),if_neg c2,if_neg c3]
theorem zpb (b:Int):zhk b 0=b % 32:=rfl
theorem zpc (b:Int):zhk b 1=b % 16:=rfl
theorem zpd (b:Int):zhk b 2=b % 8:=rfl
theorem zmv (r:Int):1≤(zhl r).length∧(zhl r).length≤4:=by
 rw[znQ];repeat' split
 all_goals simp
def zbg (l:List Int):List UInt8:=l.flatMap zhl
theorem zgO:∀ (k:Nat) (r lo hi:Int) (t:List UInt8) (i:Nat),0≤r→0≤lo →
  (goT k r lo hi t i).1=65533∨(0≤(goT k r lo hi t i).1∧(goT k r lo hi t i).1≤r*64 ^ k+(64 ^ k-1)∧r*64 ^ k≤(goT k r lo hi t i).1)∨(goT k r lo hi t i).1=0
 | 0,r,_,_,_,_,h,_=>.inr (.inl ⟨h,by simp[goT],by simp[goT]⟩)
 | _+1,_,_,_,[],_,_,_=>.inr (.inr rfl)
 | k+1,r,lo,hi,b::t,i,h,h'=>by
  rw[goT];split
  ·exact .inl rfl
  ·rcases zgO k (r*64+(b.toNat:Int) % 64) 128 191 t (i+1) (by omega) (by omega) with e | ⟨e1,e2,e3⟩ | e
   ·exact .inl e
   ·refine .inr (.inl ⟨e1,?_,?_⟩)
    ·rw[Int.pow_succ];have hp:(0:Int)<64 ^ k:=Int.pow_pos (by decide);generalize (64:Int) ^ k=q at *;have hm:(b.toNat:Int) % 64≤63:=(by omega);have:=Int.mul_le_mul_of_nonneg_right hm (Int.le_of_lt hp);rw[Int.add_mul]at e2;have e4:r*64*q=r*(q*64):=(by rw[Int.mul_assoc,Int.mul_comm 64 q]);omega
    ·rw[Int.pow_succ];have hp:(0:Int)<64 ^ k:=Int.pow_pos (by decide);generalize (64:Int) ^ k=q at *;have hm:(0:Int)≤(b.toNat:Int) % 64:=(by omega);have:=Int.mul_le_mul_of_nonneg_right hm (Int.le_of_lt hp);rw[Int.add_mul]at e3;have e4:r*64*q=r*(q*64):=(by rw[Int.mul_assoc,Int.mul_comm 64 q]);omega
   ·exact .inr (.inr e)
theorem zd2 (k:Nat) (r lo hi:Int) (t:List UInt8) (i:Nat) (h:0≤r) (hlo:128≤lo) (hhi:hi≤191) :
  (goT (k+1) r lo hi t i).1=65533∨(goT (k+1) r lo hi t i).1=0∨((r*64+(lo-128))*64 ^ k≤(goT (k+1) r lo hi t i).1∧(goT (k+1) r lo hi t i).1≤(r*64+(hi-128))*64 ^ k+(64 ^ k-1)):=by
 cases t with
 | nil=>exact .inr (.inl rfl)
 | cons b t =>
  rw[goT];split
  ·exact .inl rfl
  ·have A:(0:Int)<64 ^ k:=Int.pow_pos (by decide);rcases zgO k (r*64+(b.toNat:Int) % 64) 128 191 t (i+1) (by omega) (by omega) with e | ⟨e1,e2,e3⟩ | e
   ·exact .inl e
   ·right;right;generalize (64:Int) ^ k=q at *;have B:r*64+(lo-128)≤r*64+(b.toNat:Int) % 64:=(by omega);have C:r*64+(b.toNat:Int) % 64≤r*64+(hi-128):=(by omega);have E:=Int.mul_le_mul_of_nonneg_right B (Int.le_of_lt A);have D:=Int.mul_le_mul_of_nonneg_right C (Int.le_of_lt A);omega
   ·exact .inr (.inl e)
theorem zhZ (l:List UInt8):Utf8.valid (zbu l).1=true:=by
 rw[zk7];cases l with
 | nil=>left;exact⟨Int.le_refl _,by decide⟩
 | cons b t =>
  rw[zc5];split
  ·left;dsimp only;omega
  rename_i h1;split
  ·right;dsimp only;omega
  rename_i h2;have B:=b.toNat_lt;have hc:(194≤(b.toNat:Int)∧(b.toNat:Int)≤223)∨(224≤(b.toNat:Int)∧(b.toNat:Int)≤239)∨(240≤(b.toNat:Int)∧(b.toNat:Int)≤244):=by
   by_cases c1:(194≤(b.toNat:Int)∧(b.toNat:Int)≤223)
   ·exact .inl c1
   by_cases c2:(224≤(b.toNat:Int)∧(b.toNat:Int)≤239)
   ·exact .inr (.inl c2)
   by_cases c3:(240≤(b.toNat:Int)∧(b.toNat:Int)≤244)
   ·exact .inr (.inr c3)
   ·exfalso;apply h2;unfold zag;rw[if_neg c1,if_neg (by omega),if_neg (by omega),if_neg (by omega),if_neg (by omega),if_neg (by omega),if_neg (by omega)];decide
  rcases hc with hc | hc | hc
  ·rw[zoQ _ hc];dsimp only;rw[show(0:Int).toNat+1=0+1 from rfl,zpb];have A:=zd2 0 ((b.toNat:Int) % 32) 128 191 t 1 (by omega) (by omega) (by omega);generalize (goT (0+1) ((b.toNat:Int) % 32) 128 191 t 1).1=G at *;omega
  ·rw[zoR _ hc];dsimp only;rw[show(1:Int).toNat+1=1+1 from rfl,zpc];have A:=zd2 1 ((b.toNat:Int) % 16) (if (b.toNat:Int)=224 then 160 else 128) (if (b.toNat:Int)=237 then 159 else 191) t 1 (by omega) (by split <;> omega) (by split <;> omega);generalize (goT (1+1) ((b.toNat:Int) % 16) (if (b.toNat:Int)=224 then 160 else 128) (if (b.toNat:Int)=237 then 159 else 191) t 1).1=G at *;by_cases c3:(b.toNat:Int)=237
   ·rw[if_pos c3]at A;split at A <;> omega
   ·rw[if_neg c3]at A;split at A <;> omega
  ·rw[zoS _ hc];dsimp only;rw[show(2:Int).toNat+1=2+1 from rfl,zpd];have A:=zd2 2 ((b.toNat:Int) % 8) (if (b.toNat:Int)=240 then 144 else 128) (if (b.toNat:Int)=244 then 143 else 191) t 1 (by omega) (by split <;> omega) (by split <;> omega);generalize (goT (2+1) ((b.toNat:Int) % 8) (if (b.toNat:Int)=240 then 144 else 128) (if (b.toNat:Int)=244 then 143 else 191) t 1).1=G at *;by_cases c3:(b.toNat:Int)=240
   ·rw[if_pos c3]at A;split at A <;> omega
   ·rw[if_neg c3]at A;split at A <;> omega
theorem zeq:∀ (n:Nat) (l:List UInt8),∀ r∈(zbP n l).1,Utf8.valid r=true
 | 0,_,r,h=>by simp[zbP]at h
 | _+1,[],r,h=>by simp[zbP]at h
 | n+1,b::t,r,h=>by
  rw[zbP]at h;split at h
  ·simp at h
  ·rcases List.mem_cons.1 h with h | h
   ·rw[h];exact zhZ _
   ·exact zeq n _ r h
theorem zh0 (l:List UInt8):∀ r∈zdj l,Utf8.valid r=true:=by
 intro r h;rw[zmu,zjp]at h;rcases List.mem_append.1 h with h | h
 ·exact zeq _ _ r h
 ·split at h
  ·simp at h
  ·simp at h;rw[h];decide
end
section
theorem zh1 (r:Int) (l:List Int):zbg (r::l)=zhl r++zbg l:=by simp[zbg]
theorem zgv (l:List Int):runesBytes l=⟨(zbg l).toArray⟩:=by
 have:∀ (l:List Int) (s:ByteArray),l.foldl (fun r n=>r++Utf8.encode n) s=⟨(s.data.toList++zbg l).toArray⟩:=by
  intro l
  induction l with
  | nil=>intro s;simp[zbg]
  | cons r l ih =>
   intro s;rw[List.foldl_cons,ih];congr 1;rw[zh1];simp[zhl]
 rw[runesBytes,this];rfl
end
section
open Go.RowKit
theorem zmw (s:ByteArray):s.data.toList.length=s.size:=by rw[Array.length_toList];rfl
end
section
open Go.RowKit
attribute [local go_sem ↓] Go.wp_at_zero Go.wp_at_succ
theorem zpu (a b:Int) (h:a≠b):(a == b)=false:=Qb h
end
section
open Go.RowKit
attribute [local go_sem ↓] Go.wp_at_zero Go.wp_at_succ
theorem zU {ops:Array Oper} {o:Oper} {a:Act} {X E:Prop} (hg:Region.wanted o (yielded ops a.tmps)=true) (h:X):if Region.wanted o (yielded ops a.tmps)=true then X else E:=by
 rw[if_pos hg];exact h
end
section
open Go.ChangeShapes Go.WideShapes Go.ChangeAt Go.RowKit
def zkd:DataW Unit→Value
 | .lit (.int k z)=>.int k z
 | _=>undef
def zk8:DataW Unit→Array Value
 | .agg l=>(l.map zkd).toArray
 | _=>#[]
def zk9:DataW Unit→List Value
 | .agg l=>l.map zkd
 | _=>[]
def zeP:DataW Unit→Array Value
 | .ptr (.agg (.slice l _::_))=>(l.flatMap zk9).toArray
 | _=>#[]
def zfz (heap:Array Obj) (g:Nat) (d:DataW Unit):Array Obj:=heap.modify g fun
 | .cells _ t frozen=>.cells (zk8 d) t frozen
 | o=>o
def zmx (heap:Array Obj) (g:Nat) (d:DataW Unit):Array Obj :=
 ((heap.modify g fun
  | .cells _ t frozen=>.cells #[.pointer (some ⟨heap.size,0,none⟩)] t frozen
  | o=>o).push (.cells #[.slice (some ⟨heap.size+1,0,none⟩) ((zeP d).size / 3) ((zeP d).size / 3),.slice none 0 0,.int .i64 2] 253 (0,0))).push (.cells (zeP d) 256 (0,0))
noncomputable def zd3 (os:Os) (args:Array Value):World :=
 { World.holding prog os ⟨#[],args,[]⟩ with heap:=zmx (zfz (zfz (zfz (zfz (World.holding prog os ⟨#[],args,[]⟩).heap 2 Rows.laid_internal_strconv_uint64pow10) 3 Rows.laid_math_bits_deBruijn32tab) 4 Rows.laid_math_bits_deBruijn64tab) 0 Rows.laid_strings_asciiSpace) 1 Rows.laid_unicode_White_Space }
end
end Go.Proofs.YthehkmopdeebmaaGreatDoor
