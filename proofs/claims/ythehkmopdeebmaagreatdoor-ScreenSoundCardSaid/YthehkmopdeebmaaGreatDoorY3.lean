/- Part. -/
import Derived.Test.YthehkmopdeebmaaGreatDoorY1
import Derived.Test.YthehkmopdeebmaaGreatDoorY2
set_option linter.unusedVariables false
set_option linter.unusedSimpArgs false
set_option maxRecDepth 100000
set_option maxHeartbeats 2000000
namespace Go.Proofs.YthehkmopdeebmaaGreatDoor
open _root_.Go.Proofs.Tryz
section
open Go.RowKit
section
variable {P:Program} {w:World} {ops:Array Oper} {rest:List Oper} {o:Oper} {a:Act} {Q:Exit→Act→World→Prop}
theorem zS {t e:TypeId} {size bytes:Nat} {z:Value} (EI:zdQ P t e size bytes z) (hgd:o.guard=none) {s x:Operand}
  (ho:o.op=.call { callee:=.builtin .append,args:=#[s,x],argTypes:=#[t,t] })
  (base:Nat) {v:Value} {n:Nat} {xs:List Value} (hown:zp w base size v n xs) (hs:a.eval s=v)
  {y:Value} {m:Nat} {news:List Value} (hr:zaB w size y m news) (hx:a.eval x=y) (h1:∀ u∈news,u.oneCell'=true)
  (h63:n+m≤maxLen) (hbytes:(n+m)*bytes≤140737488355328) (hbase:base≤w.heap.size)
  (h:∀ v' w',zp w' base size v' (n+m) (xs++news)→w.grownBy w' v.ownBlock→(∀ k,v'.ownBlock=some k→v.ownBlock=some k∨w.heap.size≤k)→wpList P ops Q rest (a.put o.dst v') w'):wpList P ops Q (o::rest) a w:=by
 obtain⟨i,G,S,O,J⟩:=info_parts EI.info;rcases hown.2 with ⟨hv,hn⟩ | ⟨b,off,cap,hv,hb,hbs,hnc,hcm,hcells,hxs⟩
 ·subst hn;have F:xs=[]:=List.eq_nil_of_length_eq_zero (by simpa using hown.1);subst hv F;refine zb9 EI hgd ho w.heap.size (World.ownsRow_nil w w.heap.size e size) hs hr hx h1 h63 hbytes (Nat.le_refl _) fun v' w' C B=>h v' w' (zP (zaj C) hbase) B (fun k hk=>.inr (C.lt k hk).1)
 ·rcases hr with ⟨rfl,rfl,rfl⟩ | ⟨ad,c,rfl,hl,hc⟩
  ·subst hv;refine wpList_plain hgd fun K hK=>?_;have N:(Builtin.append_ #[t,t] o.type #[.slice (some ⟨b,off,none⟩) n cap,.slice none 0 0]).run P w=.ok (.slice (some ⟨b,off,none⟩) n cap) w:=by
    simp[Builtin.append_,run_underlying EI.und,sizeOf,typeInfo,G,Builtin.lenOf,Builtin.firstCells,hnc,storeCells]
   unfold Oper.wp execOp;simp only[ho,resolve,invoke,builtin,Sem.run_bind,Sem.run_pure,Result.andThen_ok,List.map_toArray,List.map_cons,List.map_nil,hs,hx,N];exact hK _ _ (h _ _ (by simpa using hown) ⟨rfl,rfl,rfl,Nat.le_refl _,fun _ _ _=>rfl⟩ (fun k hk=>.inl hk))
  ·have M:=hown;subst hv;refine wpList_append_arg w hgd s x t ho e i z size bytes EI.und G S O J EI.zs EI.pos b off n cap xs hs hown.1 hxs ad m c news hx hl hc h1 ?_ h63 hbytes ?_ ?_
   ·intro A j L;have T:n*size+j<cap*size:=by
     have:(n+m)*size≤cap*size:=Nat.mul_le_mul_right _ A;rw[Nat.add_mul]at this;omega
    rw[Nat.add_assoc];exact hcells _ T
   ·intro A;have D:(xs++news).length=(n+m)*size:=(by rw[List.length_append,hown.1,hl,Nat.add_mul]);have I:(n+m)*size≤cap*size:=Nat.mul_le_mul_right _ A;have H:(n+m)*size=n*size+m*size:=Nat.add_mul _ _ _;refine h _ _ ⟨D,.inr ⟨b,off,cap,rfl,hb,?_,A,hcm,fun j L=>⟨?_,?_⟩,fun j u hu=>?_⟩⟩ (zV w b _ news) (fun k hk=>.inl hk)
    ·exact Nat.lt_of_lt_of_le hbs (zV w b (off+n*size) news).size
    ·by_cases hin:n*size≤j∧j<n*size+news.length
     ·have:=World.cell?_setCells_in b news (off+n*size) w (fun i G=>by rw[Nat.add_assoc];exact(hcells _ (by omega)).1) (j-n*size) (by omega);rw[show off+n*size+(j-n*size)=off+j from by omega]at this;rw[this];rfl
     ·rw[World.cell?_setCells_out b news (off+n*size) w ⟨b,off+j,none⟩ (fun _ _=>by show off+j<_∨_≤off+j;omega)];exact(hcells j L).1
    ·rw[World.frozen?_setCells];exact(hcells j L).2
    ·have U:j<(xs++news).length:=(List.getElem?_eq_some_iff.1 hu).1;by_cases hjx:j<xs.length
     ·rw[List.getElem?_append_left hjx]at hu;rw[World.cell?_setCells_out b news (off+n*size) w ⟨b,off+j,none⟩ (fun _ _=>by show off+j<_∨_≤off+j;have:=hown.1;omega)];exact hxs j u hu
     ·rw[List.getElem?_append_right (by omega)]at hu;have F:=hown.1;have E:j-xs.length<news.length:=(List.getElem?_eq_some_iff.1 hu).1;have:=World.cell?_setCells_in b news (off+n*size) w (fun i G=>by rw[Nat.add_assoc];exact(hcells _ (by omega)).1) (j-xs.length) E;rw[show off+n*size+(j-xs.length)=off+j from by omega]at this;rw[this,← hu,List.getElem?_eq_getElem E]
   ·intro R v' w' C B;exact h v' w' (zP (zaj C) hbase) ⟨B.os,B.tape,B.output,B.size,fun k hk _=>B.block k hk (by simp)⟩ (fun k hk=>.inr (C.lt k hk).1)
end
end
section
open Go.RowKit
theorem Z4 {P:Program} {w:World} {t e:TypeId} {size:Nat} {y:Value} {m:Nat} {news:List Value} (ht:P.underlying t=some (.slice e)) (h:zaB w size y m news) (h1:∀ u∈news,u.oneCell'=true):Src P size t y m news w:=by
 rcases h with ⟨rfl,rfl,rfl⟩ | ⟨a,c,rfl,hl,hc⟩
 ·exact Src.ofNil w ht 0
 ·exact Src.ofSlice w ht a m c news hl hc h1
theorem zin {P:Program} (w:World) {t tx ty e:TypeId} {size bytes:Nat} {z:Value} (EI:zdQ P t e size bytes z)
  (base:Nat) {v:Value} {n:Nat} {xs:List Value} (hown:zp w base size v n xs)
  {y:Value} {m:Nat} {news:List Value} (hs:Src P size tx y m news w)
  (h63:n+m≤maxLen) (hbytes:(n+m)*bytes≤140737488355328) (hbase:base≤w.heap.size) :
  ∃ v' w',(Builtin.append_ #[t,tx] ty #[v,y]).run P w=.ok v' w'∧zp w' base size v' (n+m) (xs++news)∧w.grownBy w' v.ownBlock∧(∀ k,v'.ownBlock=some k→v.ownBlock=some k∨w.heap.size≤k):=by
 obtain⟨i,F,L,U,S⟩:=info_parts EI.info;have Z:=EI.zs;have X:=EI.pos;have E:=EI.und;clear EI;subst U S;have C:(xs++news).length=(n+m)*i.size:=(by rw[List.length_append,hown.1,hs.newsLen,Nat.add_mul]);have D:∀ B:Nat,B<n+m →
   zp (w.drew.alloc (.cells ((xs++news).toArray++Builtin.zeroCells z.cells (grownCap w (n+m) B e-(n+m))) e)) base i.size
    (.slice (some ⟨w.heap.size,0,none⟩) (n+m) (grownCap w (n+m) B e)) (n+m) (xs++news):=by
  intro B ho;have T:=grownCap_ge w (n+m) B e;have hcm:grownCap w (n+m) B e≤maxLen:=grownCap_le_maxLen w (n+m) B e h63;refine zaj (e:=e) ⟨C,.inr ⟨w.heap.size,_,_,rfl,hbase,heap_alloc_new w.drew _,T,hcm,?_,?_⟩⟩
  ·simp only[Array.size_append,List.size_toArray,size_zeroCells,Z,C,← Nat.add_mul];congr 1;omega
  ·simp only[Array.toList_append,List.append_assoc];rw[← List.append_assoc,← C];exact List.take_left
 have H:∀ (o:Obj) (row:Option Nat),w.grownBy (w.drew.alloc o) row:=fun o row=>⟨rfl,rfl,rfl,by simp,fun k hk _=>heap_alloc_old w.drew _ hk⟩;by_cases hm:m=0
 ·subst hm;have hn:news=[]:=List.eq_nil_of_length_eq_zero (by simpa using hs.newsLen);subst hn;have hv:∃ a c,v=.slice a n c∧n≤c:=by
   rcases hown.2 with ⟨rfl,rfl⟩ | ⟨b,off,cap,rfl,_,_,h,_⟩
   ·exact⟨none,0,rfl,Nat.le_refl _⟩
   ·exact⟨_,_,rfl,h⟩
  obtain⟨a,c,rfl,Y⟩:=hv;exact⟨_,_,run_append_nothing w t tx ty e i E F a n c Y y hs,by simpa using hown,zo _ _,fun k hk=>.inl hk⟩
 rcases hown.2 with ⟨hv,hn⟩ | ⟨b,off,cap,hv,hb,hbs,hnc,hcm,hcells,hxs⟩
 ·subst hn;have N:xs=[]:=List.eq_nil_of_length_eq_zero (by simpa using hown.1);subst hv N;have J:=run_append_grow_src w t tx ty e i z E F L none 0 0 [] (by simp[Builtin.firstCells]) y m news hs (by omega) (by simp only[maxLen]at h63;omega) (growslice_fits (by omega) hbytes);exact⟨_,_,J,D 0 (by omega),H _ _,fun k hk=>.inr (by simp[Value.ownBlock]at hk;omega)⟩
 ·subst hv;by_cases hroom:n+m≤cap
  ·have R:(n+m)*i.size≤cap*i.size:=Nat.mul_le_mul_right _ hroom;have O:(n+m)*i.size=n*i.size+m*i.size:=Nat.add_mul _ _ _;have hl:=hs.newsLen;have A:∀ j,j<news.length→(w.cell? ⟨b,off+n*i.size+j,none⟩).isSome=true∧w.frozen? ⟨b,off+n*i.size+j,none⟩=false:=by
    intro j G;rw[Nat.add_assoc];exact hcells _ (by omega)
   have J:=run_append_room_src w t tx ty e i E F b off n cap y m news hs hroom (fun j G=>(A j G).1) (fun j G=>(A j G).2);refine⟨_,_,J,⟨C,.inr ⟨b,off,cap,rfl,hb,?_,hroom,hcm,fun j G=>⟨?_,?_⟩,fun j u hu=>?_⟩⟩,zV w b _ news,fun k hk=>.inl hk⟩
   ·exact Nat.lt_of_lt_of_le hbs (zV w b (off+n*i.size) news).size
   ·by_cases hin:n*i.size≤j∧j<n*i.size+news.length
    ·have:=World.cell?_setCells_in b news (off+n*i.size) w (fun i F=>(A i F).1) (j-n*i.size) (by omega);rw[show off+n*i.size+(j-n*i.size)=off+j from by omega]at this;rw[this];rfl
    ·rw[World.cell?_setCells_out b news (off+n*i.size) w ⟨b,off+j,none⟩ (fun _ _=>by show off+j<_∨_≤off+j;omega)];exact(hcells j G).1
   ·rw[World.frozen?_setCells];exact(hcells j G).2
   ·have V:j<(xs++news).length:=(List.getElem?_eq_some_iff.1 hu).1;have N:=hown.1;by_cases hjx:j<xs.length
    ·rw[List.getElem?_append_left hjx]at hu;rw[World.cell?_setCells_out b news (off+n*i.size) w ⟨b,off+j,none⟩ (fun _ _=>by show off+j<_∨_≤off+j;omega)];exact hxs j u hu
    ·rw[List.getElem?_append_right (by omega)]at hu;have I:j-xs.length<news.length:=(List.getElem?_eq_some_iff.1 hu).1;have:=World.cell?_setCells_in b news (off+n*i.size) w (fun i F=>(A i F).1) (j-xs.length) I;rw[show off+n*i.size+(j-xs.length)=off+j from by omega]at this;rw[this,← hu,List.getElem?_eq_getElem I]
  ·have M:(Builtin.firstCells i.size n (.slice (some ⟨b,off,none⟩) n cap)).run P w.drew=.ok xs.toArray w.drew :=
    run_firstCells_some w.drew i.size n ⟨b,off,none⟩ n cap xs hown.1 (fun j u hu=>by rw[zbb];simpa using hxs j u hu)
   have J:=run_append_grow_src w t tx ty e i z E F L (some ⟨b,off,none⟩) n cap xs M y m news hs (by omega) (by simp only[maxLen]at h63;omega) (growslice_fits (by omega) hbytes);exact⟨_,_,J,D cap (by omega),H _ _,fun k hk=>.inr (by simp[Value.ownBlock]at hk;omega)⟩
section
variable {P:Program} {w:World} {ops:Array Oper} {rest:List Oper} {o:Oper} {a:Act} {Q:Exit→Act→World→Prop}
theorem zfp {t tx e:TypeId} {size bytes:Nat} {z:Value} (EI:zdQ P t e size bytes z) (hgd:o.guard=none) {s x:Operand}
  (ho:o.op=.call { callee:=.builtin .append,args:=#[s,x],argTypes:=#[t,tx] })
  (base:Nat) {v:Value} {n:Nat} {xs:List Value} (hown:zp w base size v n xs) (hs:a.eval s=v)
  {y:Value} {m:Nat} {news:List Value} (hr:Src P size tx y m news w) (hx:a.eval x=y)
  (h63:n+m≤maxLen) (hbytes:(n+m)*bytes≤140737488355328) (hbase:base≤w.heap.size)
  (h:∀ v' w',zp w' base size v' (n+m) (xs++news)→w.grownBy w' v.ownBlock→(∀ k,v'.ownBlock=some k→v.ownBlock=some k∨w.heap.size≤k)→wpList P ops Q rest (a.put o.dst v') w'):wpList P ops Q (o::rest) a w:=by
 refine wpList_plain hgd fun K hK=>?_;obtain⟨v',w',A,C,B,D⟩:=zin w (ty:=o.type) EI base hown hr h63 hbytes hbase;unfold Oper.wp execOp;simp only[ho,resolve,invoke,builtin,Sem.run_bind,Sem.run_pure,Result.andThen_ok,List.map_toArray,List.map_cons,List.map_nil,hs,hx,A];exact hK _ _ (h _ _ C B D)
end
def zu (l:List UInt8):List Value:=l.map fun b=>Value.int .u8 (b.toNat:Int)
theorem zdk (l:List UInt8):(zu l).length=l.length:=by unfold zu;simp
theorem ZP (l m:List UInt8):zu (l++m)=zu l++zu m:=by unfold zu;simp
theorem Z5 {P:Program} {w:World} {src dst e:TypeId} (h1:P.underlying src=some (.slice e)) (h2:P.underlying e=some (.int .u8)) (h3:P.underlying dst=some .string) {v:Value} {l:List UInt8} (h:zaB w 1 v l.length (zu l)) :
  (convert src dst v).run P w=.ok (.string ⟨l.toArray⟩) w:=by
 rcases h with ⟨rfl,hn,_⟩ | ⟨a,c,rfl,_,hc⟩
 ·have:l=[]:=List.eq_nil_of_length_eq_zero hn;subst this;rw[run_convert_bytes_string w src dst e none 0 0 h1 h2 h3];rfl
 ·exact run_convert_bytes_back w src dst e a c l h1 h2 h3 (fun j hj=>hc j _ (by unfold zu;rw[List.getElem?_map,List.getElem?_eq_getElem hj];rfl))
end
section
open Go.RowKit
def zfx (k:IntKind) (w:World) (v:Value) (l:List Int):Prop :=
 (v=.slice none 0 0∧l=[])∨∃ (a:Addr) (c:Nat),v=.slice (some a) l.length c∧l.length≤c∧c≤9223372036854775807 ∧
  ∀ j,j<l.length→w.cell? (a.add j)=some (.int k (l.getD j 0))
theorem zlA {k:IntKind} {w:World} {v:Value} {l:List Int} (h:zl5 k w v l):zfx k w v l:=by
 rcases h with h | ⟨b,off,c,h1,h2,h3,h4,h5⟩
 ·exact .inl h
 ·exact .inr ⟨⟨b,off,none⟩,c,h1,h3,h4,fun j hj=>by rw[zbb];exact h5 j hj⟩
theorem zio {k:IntKind} {w:World} {v:Value} {l:List Int} (h:zj2 k w v l):zfx k w v l:=by
 rcases h with h | ⟨a,c,h1,h2,h3,h4,_⟩
 ·exact .inl h
 ·exact .inr ⟨a,c,h1,h2,h3,h4⟩
theorem zdc (a:Addr) (j:Nat):(a.add j).block=a.block:=by
 unfold Addr.add;split <;> rfl
theorem zaO {w:World} {a:Addr} {v:Value} (h:w.cell? a=some v):a.block<w.heap.size:=World.block_lt_of_cell? w a h
theorem zc {w w':World} (hb:Below w.heap.size w w') {a:Addr} {v:Value} (h:w.cell? a=some v):w'.cell? a=some v:=by
 rw[hb.cell (p:=a) (zaO h)];exact h
theorem zd6 {k:IntKind} {w w':World} {v:Value} {l:List Int} (h:zfx k w v l) (hb:Below w.heap.size w w'):zfx k w' v l:=by
 rcases h with h | ⟨a,c,h1,h2,h3,h4⟩
 ·exact .inl h
 ·exact .inr ⟨a,c,h1,h2,h3,fun j hj=>zc hb (h4 j hj)⟩
section
variable {P:Program} {t e:TypeId}
theorem zcz {k:IntKind} {w:World} {v:Value} {l:List Int} (ht:P.underlying t=some (.slice e)) (h:zfx k w v l) (ty:TypeId) (wx:World):(Builtin.len_ #[t] ty #[v]).run P wx=.ok (.int .i64 l.length) wx:=by
 rcases h with ⟨rfl,rfl⟩ | ⟨a,c,rfl,_⟩ <;> simp[Builtin.len_,run_underlying ht,goInt]
theorem zip {k:IntKind} {w:World} {v:Value} {l:List Int} (ht:P.underlying t=some (.slice e)) (hs:(P.info? e).map (·.size)=some 1) (h:zfx k w v l) (j:Nat) (hj:j<l.length) :
  ∃ a:Addr,(∀ wx,(Instr.indexAt t v (.int .i64 j)).run P wx=.ok (.pointer (some a)) wx)∧w.cell? a=some (.int k (l.getD j 0)):=by
 rcases h with ⟨rfl,rfl⟩ | ⟨a,c,rfl,h1,h2,h3⟩
 ·simp at hj
 ·refine⟨a.add j,fun wx=>?_,h3 j hj⟩;obtain⟨i,C,A⟩:=Option.map_eq_some_iff.1 hs;have B:(0:Int)≤(j:Int)∧(j:Int)<(l.length:Int):=(by omega);simp[Instr.indexAt,asIntOf,run_underlying ht,B,sizeOf,typeInfo,C,A];omega
end
def Tab (P:Program) (w:World):Prop:=Lib.TabBelow P w.heap.size w "internal/strconv.uint64pow10" .u64 Lib.pow10Tab
theorem zlB {P:Program} {w w':World} {B:Nat} (h:Lib.TabBelow P B w "internal/strconv.uint64pow10" .u64 Lib.pow10Tab) (hb:Below B w w'):Lib.TabBelow P B w' "internal/strconv.uint64pow10" .u64 Lib.pow10Tab :=
 fun w2 h2=>h w2 (hb.trans h2)
theorem zo1 {P:Program} {w:World} {B B':Nat} (h:Lib.TabBelow P B w "internal/strconv.uint64pow10" .u64 Lib.pow10Tab) (hb:B≤B'):Lib.TabBelow P B' w "internal/strconv.uint64pow10" .u64 Lib.pow10Tab :=
 fun w2 h2=>h w2 (h2.mono hb)
theorem zo2 {P:Program} {w w':World} (h:Tab P w) (hb:Below w.heap.size w w'):Tab P w':=zo1 (zlB h hb) hb.size
end
section
open Go.RowKit
theorem zap {P:Program} {ops:Array Oper} {o:Oper} {a:Act} {w:World} {K:Act→World→Prop} {Q:Exit→Act→World→Prop} {E:Prop}
  {t tx e:TypeId} {size bytes:Nat} {z:Value} (EI:zdQ P t e size bytes z) (hgd:o.guard=none) (s x:Operand)
  (ho:o.op=.call { callee:=.builtin .append,args:=#[s,x],argTypes:=#[t,tx] })
  (base:Nat) {v:Value} {n:Nat} {xs:List Value} (hown:zp w base size v n xs) (hs:a.eval s=v)
  {y:Value} {m:Nat} {news:List Value} (hr:Src P size tx y m news w) (hx:a.eval x=y)
  (h63:n+m≤maxLen) (hbytes:(n+m)*bytes≤140737488355328) (hbase:base≤w.heap.size)
  (h:∀ v' w',zp w' base size v' (n+m) (xs++news)→w.grownBy w' v.ownBlock→(∀ k,v'.ownBlock=some k→v.ownBlock=some k∨w.heap.size≤k)→K (a.put o.dst v') w') :
  if Region.wanted o (yielded ops a.tmps)=true then Oper.wp P o a w K Q else E:=by
 have C:Region.wanted o (yielded ops a.tmps)=true:=(by simp[Region.wanted,hgd]);rw[if_pos C];obtain⟨v',w',A,D,F,B⟩:=zin (P:=P) w (ty:=o.type) EI base hown hr h63 hbytes hbase;unfold Oper.wp execOp;simp only[ho,resolve,invoke,builtin,Sem.run_bind,Sem.run_pure,Result.andThen_ok,List.map_toArray,List.map_cons,List.map_nil,hs,hx,A];exact h _ _ D F B
theorem zn2 {P:Program} (w:World) {tx:TypeId} (hk:P.underlying tx=some .string) (s:ByteArray):Src P 1 tx (.string s) s.data.toList.length (zu s.data.toList) w:=by
 rw[Array.length_toList];exact Src.ofString w hk s
section
variable {P:Program} {w:World} {ops:Array Oper} {rest:List Oper} {o:Oper} {a:Act} {Q:Exit→Act→World→Prop}
end
theorem zd7 {w w':World} {row:Option Nat} {size:Nat} {y:Value} {m:Nat} {news:List Value} (h:zaB w size y m news) (g:w.grownBy w' row) (hne:∀ k,y.ownBlock=some k→row≠some k):zaB w' size y m news:=by
 rcases h with h | ⟨a,c,rfl,h1,h2⟩
 ·exact .inl h
 ·exact .inr ⟨a,c,rfl,h1,fun j u hu=>g.cell (h2 j u hu) (by rw[zdc];exact fun e=>hne a.block rfl e.symm)⟩
theorem zay:zdQ prog 32 5 1 1 (.int .u8 0):=⟨underlying32,by kernel_rfl,rfl,by decide⟩
end
section
open Go.RowKit
theorem zd (n:Int) (h1:-9223372036854775808≤n) (h2:n≤9223372036854775807):IntKind.i64.wrap n=n:=by
 unfold IntKind.wrap;simp[IntKind.bits,IntKind.signed];omega
theorem zbL {w:World} {base b off n c:Nat} {l:List Cel} (h:zp w base 5 (.slice (some ⟨b,off,none⟩) n c) n (zt l)) (k:Nat) (hk:k<n) (hl:l.length=n) :
  w.cell? ⟨b,off+k*5,none⟩=some (.int .i32 (l.getD k noC).rune)∧w.cell? ⟨b,off+k*5+1,none⟩=some (.int .i64 (l.getD k noC).width)∧w.cell? ⟨b,off+k*5+2,none⟩=some (.int .i64 (l.getD k noC).sty.fg) ∧
  w.cell? ⟨b,off+k*5+3,none⟩=some (.int .i64 (l.getD k noC).sty.bg)∧w.cell? ⟨b,off+k*5+4,none⟩=some (.int .i64 (l.getD k noC).sty.attr):=by
 obtain⟨E,h2⟩:=h;rcases h2 with ⟨e,_⟩ | ⟨D,B,C,e,hb,hbs,hnc,hcm,hcells,hxs⟩
 ·simp at e
 ·simp only[Value.slice.injEq,Option.some.injEq,Addr.mk.injEq]at e;obtain⟨⟨rfl,rfl,_⟩,_,rfl⟩:=e;have A:∀ i u,i<5→(l.getD k noC).vals[i]?=some u→w.cell? ⟨b,off+(k*5+i),none⟩=some u:=fun i u hi hu=>hxs _ u (by rw[zfC l k (by omega) i hi];exact hu);exact⟨A 0 _ (by decide) rfl,A 1 _ (by decide) rfl,A 2 _ (by decide) rfl,A 3 _ (by decide) rfl,A 4 _ (by decide) rfl⟩
theorem zb1 (l:List Cel) (x:Int) (b off n c:Nat) (w:World) (h:zp w 0 5 (.slice (some ⟨b,off,none⟩) n c) n (zt l)) (hn:l.length=n) (hm:n≤1000000) (hx:-4611686018427387904≤x∧x≤4611686018427387904) :
  Calls prog 175 #[.slice (some ⟨b,off,none⟩) n c,.int .i64 x] w fun e w'=>e=.returned (.tuple #[])∧w.grownBy w' (some b)∧zp w' 0 5 (.slice (some ⟨b,off,none⟩) n c) n (zt (zB l x)):=by
 have D:=Qh h;have hnc:n≤c:=by
  rcases h.2 with ⟨e,_⟩ | ⟨b',X,c',e,_,_,hnc,_⟩
  ·simp at e
  ·simp only[Value.slice.injEq]at e;omega
 clear h;by_cases h0:0<x∧x<(n:Int);rotate_left
 ·have A:=Qh (show zB l x=l by unfold zB;rw[if_neg (by rw[hn];omega)]);by_cases h1:0<x
  ·have C:decide (0<x)=true:=Qt h1;have I:decide (x<(n:Int))=false:=Qf (by omega);go_enter func175,ntmps175;go_wp2_with fail;go_end0;refine⟨rfl,zo _ _,?_⟩;rw[A.out];exact D
  ·have C:decide (0<x)=false:=Qf h1;go_enter func175,ntmps175;go_wp2_with fail;go_end0;refine⟨rfl,zo _ _,?_⟩;rw[A.out];exact D
 obtain⟨k,rfl⟩:∃ k:Nat,x=(k:Int):=⟨x.toNat,by omega⟩;have C:decide (0<(k:Int))=true:=Qt h0.1;have I:decide ((k:Int)<(n:Int))=true:=Qt h0.2;have U:decide (0<k)=true:=Qt (by omega);have O:decide (k<n)=true:=Qt (by omega);obtain⟨V,c1,R,S,Z⟩:=zbL D k (by omega) hn;have A0:=Zw (P:=prog) (size:=5) underlying56 zT b off n c k (by omega);by_cases hw:(l.getD k noC).width=0
 ·have A:=Qh (show zB l k=zat l (k-1) 2 (l.getD k noC).sty by unfold zB;rw[if_pos ⟨h0.1,by rw[hn];exact h0.2,by rw[Int.toNat_natCast];exact hw⟩,Int.toNat_natCast]);have B:((l.getD k noC).width == 0)=true:=(by rw[hw];rfl);have L:=zca (P:=prog) (size:=5) underlying56 zT b off n c (k-1) (k+1) (by omega) (by omega) (by omega);rw[show((k-1:Nat):Int)=(k:Int)-1 by omega,show((k+1:Nat):Int)=(k:Int)+1 by omega,show k+1-(k-1)=2 by omega]at L;have B0:IntKind.i64.wrap ((k:Int)-1)=(k:Int)-1:=zd _ (by omega) (by omega);have C0:IntKind.i64.wrap ((k:Int)+1)=(k:Int)+1:=zd _ (by omega) (by omega);generalize l.getD k noC=G at *;obtain⟨cr,cw,T⟩:=G;dsimp only at V c1 R S Z hw B A;have N:=Qh (fun wx (ho:zp wx 0 5 (.slice (some ⟨b,off,none⟩) n c) n (zt l))=>zcE l T b off n c (k-1) 2 (c-(k-1)) wx ho hn (by omega) (by unfold maxLen;omega));unfold Sty.val at N;go_enter func175,ntmps175;go_upto_region 1 with fail
  go_still_tail 11,(by kernel_rfl)
  change wpList _ _ _ _ _ w.drew;have H:=Qh (show zp w.drew 0 5 (.slice (some ⟨b,off,none⟩) n c) n (zt l) from D.out);generalize J:w.drew=wd at *;go_wp2_with fail;refine(N _ H).mono ?_;rintro e w2 ⟨rfl,Y,M⟩;have E:=Qh (Zc (show w.grownBy wd (some b) by rw[← J];exact zaM (zo _ _)) Y);have F:=Qh M;clear Y M;go_wp2_with fail;go_end0;refine⟨rfl,E,?_⟩;rw[A.out];exact F
 ·have A:=Qh (show zB l k=l by unfold zB;rw[if_neg (by rw[Int.toNat_natCast];intro hh;exact hw hh.2.2)]);have B:((l.getD k noC).width == 0)=false:=Qb hw;generalize l.getD k noC=G at *;obtain⟨cr,cw,T⟩:=G;dsimp only at V c1 R S Z hw B;go_enter func175,ntmps175;go_wp2_with fail;go_end0;refine⟨rfl,zo _ _,?_⟩;rw[A.out];exact D
theorem zhu (x y:Int) (w:World):Calls prog 88 #[.int .i64 x,.int .i64 y] w fun e w'=>e=.returned (.bool (zfw x y))∧w'=w:=by
 by_cases h1:1≤x;rotate_left
 ·have e:decide (1≤x)=false:=Qf h1;go_enter func88,ntmps88;go_wp2_with fail;go_ret;exact⟨ZQ (by unfold zfw;rw[e];rfl),rfl⟩
 have A:decide (1≤x)=true:=Qt h1;by_cases h2:x≤250;rotate_left
 ·have e:decide (x≤250)=false:=Qf h2;go_enter func88,ntmps88;go_wp2_with fail;go_ret;exact⟨ZQ (by unfold zfw;rw[e,A];rfl),rfl⟩
 have B:decide (x≤250)=true:=Qt h2;by_cases h3:1≤y;rotate_left
 ·have e:decide (1≤y)=false:=Qf h3;go_enter func88,ntmps88;go_wp2_with fail;go_ret;exact⟨ZQ (by unfold zfw;rw[e,A,B];rfl),rfl⟩
 have C:decide (1≤y)=true:=Qt h3;cases h4:decide (y≤120)
 ·go_enter func88,ntmps88;go_wp2_with fail;go_ret;exact⟨ZQ (by unfold zfw;rw[A,B,C,h4];rfl),rfl⟩
 ·go_enter func88,ntmps88;go_wp2_with fail;go_ret;exact⟨ZQ (by unfold zfw;rw[A,B,C,h4];rfl),rfl⟩
end
section
open Go.RowKit
def Cel.Ok (c:Cel):Prop:=-2147483648≤c.rune∧c.rune≤2147483647
structure Gr.WF (g:Gr):Prop where
 c1:1≤g.cols
 c2:g.cols≤250
 r1:1≤g.rows.length
 r2:g.rows.length≤120
 li:g.limit≤2000
 ol:g.old.length≤g.limit
 ce:∀ r∈g.rows++g.old,r.cells.length=g.cols∧∀ c∈r.cells,c.Ok
structure CAt (T:Nat→Nat) (w:World) (x:Value × Rw):Prop where
 own:zp w 0 5 x.1 x.2.cells.length (zt x.2.cells)
 tag:∃ q,x.1.ownBlock=some q∧T q=10+q
structure GAt (T:Nat→Nat) (p:Nat) (vr vo:Value) (Lr Lo:List (Value × Rw)) (w:World) (g:Gr):Prop where
 lt:∀ k,T k≠0→k<w.heap.size
 blk:w.heap[p]?=some (.cells #[.int .i64 g.cols,.int .i64 g.limit,vr,vo] 114 (0,0))
 tp:T p=1
 rr:Row T 2 2 vr Lr.length (zf Lr) w
 ro:Row T 3 2 vo Lo.length (zf Lo) w
 er:Lr.map (·.2)=g.rows
 eo:Lo.map (·.2)=g.old
 ca:∀ x∈Lr++Lo,CAt T w x
 nd:((Lr++Lo).map (·.1.ownBlock)).Nodup
 wf:g.WF
def GM (T:Nat→Nat) (p:Nat) (w:World) (g:Gr):Prop:=∃ vr vo Lr Lo,GAt T p vr vo Lr Lo w g
theorem CAt.mod {T:Nat→Nat} {w w':World} {x:Value × Rw} {q:Nat→Prop} (h:CAt T w x) (m:Mod T q w w') (hq:∀ k,x.1.ownBlock=some k→¬ q (10+k)):CAt T w' x :=
 ⟨Zu h.own m.size fun k hk=>m.block k (zg h.own k hk).2 (by
  obtain⟨b,e1,e2⟩:=h.tag;have:b=k:=(by rw[e1]at hk;injection hk);subst this;rw[e2];exact hq b hk),h.tag⟩
theorem GAt.mod {T:Nat→Nat} {p:Nat} {vr vo:Value} {Lr Lo:List (Value × Rw)} {w w':World} {g:Gr} {q:Nat→Prop} (h:GAt T p vr vo Lr Lo w g) (m:Mod T q w w') (h1:¬ q 1) (h2:¬ q 2) (h3:¬ q 3) (h4:∀ k,¬ q (10+k)):GAt T p vr vo Lr Lo w' g :=
 ⟨fun k hk=>Nat.lt_of_lt_of_le (h.lt k hk) m.size,(m.block p (zq h.blk) (by rw[h.tp];exact h1)).trans h.blk,h.tp,h.rr.mod m h2,h.ro.mod m h3,h.er,h.eo,fun x hx=>(h.ca x hx).mod m (fun k _=>h4 k),h.nd,h.wf⟩
theorem GM.below {T:Nat→Nat} {p:Nat} {w w':World} {g:Gr} (h:GM T p w g) (b:Below w.heap.size w w'):GM T p w' g:=by
 obtain⟨C,A,D,B,h⟩:=h;exact⟨C,A,D,B,h.mod (.of_below b) id id id (fun _=>id)⟩
theorem GM.wf {T:Nat→Nat} {p:Nat} {w:World} {g:Gr} (h:GM T p w g):g.WF:=by
 obtain⟨_,_,_,_,h⟩:=h;exact h.wf
theorem GM.lt {T:Nat→Nat} {p:Nat} {w:World} {g:Gr} (h:GM T p w g):∀ k,T k≠0→k<w.heap.size:=by
 obtain⟨_,_,_,_,h⟩:=h;exact h.lt
theorem GM.own0 {T:Nat→Nat} {p:Nat} {w:World} {g:Gr} (h:GM T p w g) {k:Nat} (hk:w.heap.size≤k):T k=0:=by
 by_cases h0:T k=0
 ·exact h0
 ·have:=h.lt k h0;omega
theorem GM.other {Tp Tq:Nat→Nat} {q:Nat} {w w':World} {g:Gr} (h:GM Tq q w g) (hw:zh (own Tp w) w w') (hd:∀ k,Tq k≠0→Tp k=0):GM Tq q w' g:=by
 obtain⟨C,A,D,B,h⟩:=h;have m:Mod Tq (fun x=>x=0) w w':=⟨hw.os,hw.tape,hw.output,hw.size,fun k hk h0=>hw.block k hk (fun e=>by
  rcases e with e | e
  ·exact e (hd k h0)
  ·omega)⟩
 exact⟨C,A,D,B,h.mod m (by decide) (by decide) (by decide) (fun k=>by omega)⟩
theorem Zg {T:Nat→Nat} {p:Nat} {vr vo:Value} {Lr Lo:List (Value × Rw)} {w:World} {g:Gr} (h:GAt T p vr vo Lr Lo w g):Lr.length=g.rows.length∧Lo.length=g.old.length:=by
 rw[← h.er,← h.eo,List.length_map,List.length_map];exact⟨rfl,rfl⟩
theorem zn3 {cols rows limit:Nat} (h1:1≤cols) (h2:cols≤250) (h3:1≤rows) (h4:rows≤120) (h5:limit≤2000):(Z1 cols rows limit).WF:=by
 refine⟨h1,h2,?_,?_,h5,Nat.zero_le _,fun r hr=>?_⟩
 ·show 1≤(zW rows cols plainS).length;unfold zW;rw[List.length_replicate];exact h3
 ·show(zW rows cols plainS).length≤120;unfold zW;rw[List.length_replicate];exact h4
 ·have:r∈zW rows cols plainS:=(by simpa [Z1] using hr);unfold zW at this;rw[List.eq_of_mem_replicate this];refine⟨by rw[List.length_replicate];rfl,fun c hc=>?_⟩;rw[List.eq_of_mem_replicate hc];exact⟨by decide,by decide⟩
def zf9 (p:Nat) (v:Value) (a b:Nat):Nat→Nat:=fun k=>if k=p then 1 else if v.ownBlock=some k then 2 else if a≤k∧k<b then 10+k else 0
theorem zn4 {p B:Nat} {v:Value} {L:List (Value × Rw)} {w:World} {g:Gr} (hr:Zj B w v L) (hb:w.heap[p]?=some (.cells #[.int .i64 g.cols,.int .i64 g.limit,v,.slice none 0 0] 114 (0,0)))
  (hv:v.ownBlock≠some p) (hp:∀ x∈L,x.1.ownBlock≠some p) (_hB:B≤p) (he:L.map (·.2)=g.rows) (ho:g.old=[]) (hwf:g.WF):GM (zf9 p v B w.heap.size) p w g:=by
 have E:=zq hb;refine⟨v,.slice none 0 0,L,[],⟨fun k hk=>?_,hb,?_,⟨zP hr.own (Nat.zero_le _),fun k hk=>?_⟩,zbG _ _ _ _,he,by rw[ho];rfl,fun x hx=>?_,?_,hwf⟩⟩
 ·unfold zf9 at hk;by_cases h1:k=p
  ·omega
  ·rw[if_neg h1]at hk;by_cases h2:v.ownBlock=some k
   ·exact(zg hr.own k h2).2
   ·rw[if_neg h2]at hk;by_cases h3:B≤k∧k<w.heap.size
    ·exact h3.2
    ·rw[if_neg h3]at hk;exact absurd rfl hk
 ·unfold zf9;rw[if_pos rfl]
 ·unfold zf9;rw[if_neg (fun e=>hv (by rw[hk,e])),if_pos hk]
 ·rw[List.append_nil]at hx;obtain⟨q,A,D⟩:=hr.ap x hx;have C:=hr.cells x hx;refine⟨zP C (Nat.zero_le _),q,A,?_⟩;unfold zf9;rw[if_neg (fun e=>hp x hx (by rw[A,e])),if_neg D,if_pos (zg C q A)]
 ·rw[List.append_nil];exact hr.nd
theorem zjL {p B b:Nat} {v:Value} {n:Nat} {xs:List Value} {w:World} (hB:B≤p) (hv:zp w B 2 v n xs):∀ k,zf9 p v B b k≠0→B≤k:=fun k hk=>by
 unfold zf9 at hk;by_cases h1:k=p
 ·omega
 ·rw[if_neg h1]at hk;by_cases h2:v.ownBlock=some k
  ·exact(zg hv k h2).1
  ·rw[if_neg h2]at hk;by_cases h3:B≤k∧k<b
   ·exact h3.1
   ·rw[if_neg h3]at hk;exact absurd rfl hk
end
section
open Go.RowKit
theorem zdv (cols rows hist:Nat) (w:World) (h1:1≤cols) (h2:cols≤250) (h3:1≤rows) (h4:rows≤120) (h5:hist≤2000) :
  Calls prog 41 #[.int .i64 cols,.int .i64 rows,.int .i64 hist] w fun e w'=>∃ p T,e=.returned (.tuple #[.pointer (some ⟨p,0,none⟩),.int .i64 0])∧Below w.heap.size w w'∧GM T p w' (Z1 cols rows hist)∧∀ k,T k≠0→w.heap.size≤k:=by
 have Z:zfw cols rows=true:=by
  unfold zfw;rw[Qt (by omega),Qt (by omega),Qt (by omega),Qt (by omega)];rfl
 have U:=Qh (zhu cols rows w);rw[Z]at U;have e0:decide ((hist:Int)<0)=false:=Qf (by omega);have e1:decide (2000<(hist:Int))=false:=Qf (by omega);have A0:decide (2000<hist)=false:=Qf (by omega);go_enter func41,ntmps41;go_wp2_with fail;refine U.mono ?_;rintro e w2 ⟨rfl,rfl⟩;go_wp2_with fail;refine(ZW _).mono ?_;rintro e O ⟨rfl,R⟩;have B:=Qh R;clear R;go_wp2_with fail;refine(zcF rows cols plainS O (by omega) (by omega)).mono ?_;rintro e D ⟨v,L,rfl,N,S,M⟩;obtain⟨G,F,rfl⟩:=zK M.own;have H:=Qh (B.trans (N.mono B.size));have A:=Qh M;have V:=Qh S;have Y:=B.out.size;have X:=N.size;clear N M S;go_wp2_with fail;have I:=zH D (.cells #[.int .i64 cols,.int .i64 hist,.slice G L.length F,.slice none 0 0] 114);have C:=Below.alloc (Below.refl D.heap.size D) (Nat.le_refl _) (.cells #[.int .i64 cols,.int .i64 hist,.slice G L.length F,.slice none 0 0] 114);have E:Zj O.heap.size (D.alloc (.cells #[.int .i64 cols,.int .i64 hist,.slice G L.length F,.slice none 0 0] 114)) (.slice G L.length F) L :=
  ⟨zk A.own C,fun x J=>zk (A.cells x J) C,A.nd,A.ap⟩
 refine zcD rfl rfl rfl rfl ⟨D.heap.size,_,rfl,H.trans (C.mono (by omega)),zn4 (g:=Z1 cols rows hist) E I ?_ ?_ (by omega) V rfl (zn3 h1 h2 h3 h4 h5),fun k hk=>?_⟩
 ·intro e;have:=(zg A.own _ e).2;omega
 ·intro x J e;have:=(zg (A.cells x J) _ e).2;omega
 ·have:=zjL (by omega) E.own k hk;omega
theorem zY {T:Nat→Nat} {p:Nat} {vr vo:Value} {Lr Lo:List (Value × Rw)} {w:World} {g:Gr} (h:GAt T p vr vo Lr Lo w g) :
  w.cell? ⟨p,0,none⟩=some (.int .i64 g.cols)∧w.cell? ⟨p,1,none⟩=some (.int .i64 g.limit)∧w.cell? ⟨p,2,none⟩=some vr∧w.cell? ⟨p,3,none⟩=some vo :=
 ⟨za h.blk 0,za h.blk 1,za h.blk 2,za h.blk 3⟩
theorem zga {T:Nat→Nat} {p:Nat} {w:World} {g:Gr} (h:GM T p w g) :
  Calls prog 31 #[.pointer (some ⟨p,0,none⟩)] w fun e w'=>e=.returned (.int .i64 g.cols)∧w'=w:=by
 obtain⟨F,B,H,D,h⟩:=h;obtain⟨E,G,A,C⟩:=zY h;clear h;go_enter func31,ntmps31;go_wp2_with fail;go_ret;exact⟨rfl,rfl⟩
theorem zgR {T:Nat→Nat} {p:Nat} {w:World} {g:Gr} (h:GM T p w g) :
  Calls prog 33 #[.pointer (some ⟨p,0,none⟩)] w fun e w'=>e=.returned (.int .i64 g.limit)∧w'=w:=by
 obtain⟨F,B,H,D,h⟩:=h;obtain⟨E,G,A,C⟩:=zY h;clear h;go_enter func33,ntmps33;go_wp2_with fail;go_ret;exact⟨rfl,rfl⟩
theorem zdN {T:Nat→Nat} {p:Nat} {w:World} {g:Gr} (h:GM T p w g) :
  Calls prog 32 #[.pointer (some ⟨p,0,none⟩)] w fun e w'=>e=.returned (.int .i64 g.rows.length)∧w'=w:=by
 obtain⟨G,C,I,D,h⟩:=h;obtain⟨F,H,B,E⟩:=zY h;have A:=Zf underlying112 h.rr.own;rw[(Zg h).1]at A;clear h;go_enter func32,ntmps32;go_wp2_with fail;go_ret;exact⟨rfl,rfl⟩
theorem zfq {T:Nat→Nat} {p:Nat} {w:World} {g:Gr} (h:GM T p w g) :
  Calls prog 21 #[.pointer (some ⟨p,0,none⟩)] w fun e w'=>e=.returned (.int .i64 g.old.length)∧w'=w:=by
 obtain⟨G,C,I,D,h⟩:=h;obtain⟨F,H,B,E⟩:=zY h;have A:=Zf underlying112 h.ro.own;rw[(Zg h).2]at A;clear h;go_enter func21,ntmps21;go_wp2_with fail;go_ret;exact⟨rfl,rfl⟩
end
section
open Go.RowKit
def Dec.cells (d:Dec):Array Value:=#[.int .i32 d.r,.int .i64 d.hav,.int .i64 d.more,.int .u8 d.lo,.int .u8 d.hi]
def zcs (w:World) (p:Nat) (d:Dec):Prop:=w.heap[p]?=some (.cells d.cells 210 (0,0))
theorem zdw {w:World} {p:Nat} {c:Array Value} {d:Dec} (h:w.heap[p]?=some (.cells c 210 (0,0))) (e:c=d.cells):zcs w p d:=by subst e;exact h
theorem zmM (d:Dec) (b:Int) (h:b<128):Zk d b=({ d with lo:=128,hi:=191 },[b]):=by unfold Zk;rw[if_pos h]
theorem zmN (d:Dec) (b:Int) (h:194≤b∧b≤223):Zk d b=(⟨b % 32,1,1,128,191⟩,[]):=by unfold Zk;rw[if_neg (by omega),if_pos h]
theorem zmO (d:Dec) (b:Int) (h:224≤b∧b≤239):Zk d b=(⟨b % 16,1,2,if b=224 then 160 else 128,if b=237 then 159 else 191⟩,[]):=by
 unfold Zk;rw[if_neg (by omega),if_neg (by omega),if_pos h]
theorem zmP (d:Dec) (b:Int) (h:240≤b∧b≤244):Zk d b=(⟨b % 8,1,3,if b=240 then 144 else 128,if b=244 then 143 else 191⟩,[]):=by
 unfold Zk;rw[if_neg (by omega),if_neg (by omega),if_neg (by omega),if_pos h]
theorem zmQ (d:Dec) (b:Int) (h:128≤b) (h2:¬ (194≤b∧b≤223)) (h3:¬ (224≤b∧b≤239)) (h4:¬ (240≤b∧b≤244)):Zk d b=({ d with lo:=128,hi:=191 },[65533]):=by
 unfold Zk;rw[if_neg (by omega),if_neg h2,if_neg h3,if_neg h4]
theorem zd8 (d:Dec) (b:Int):(Zk d b).2.length≤1:=by
 unfold Zk;repeat' split
 all_goals simp
theorem zgS (p:Nat) (d:Dec) (b:Int) (w:World) (hd:zcs w p d) (h0:0≤b) (h1:b≤255) :
  Calls prog 167 #[.pointer (some ⟨p,0,none⟩),.int .u8 b] w fun e w'=>∃ v,e=.returned v ∧
   w'.ownsRow w.heap.size 21 1 v (Zk d b).2.length ((Zk d b).2.map (Value.int .i32))∧w.grownBy w' (some p)∧zcs w' p (Zk d b).1:=by
 have D:w.cell? ⟨p,0,none⟩=some (.int .i32 d.r):=za hd 0;have G:w.cell? ⟨p,1,none⟩=some (.int .i64 d.hav):=za hd 1;have B:w.cell? ⟨p,2,none⟩=some (.int .i64 d.more):=za hd 2;have C:w.cell? ⟨p,3,none⟩=some (.int .u8 d.lo):=za hd 3;have F:w.cell? ⟨p,4,none⟩=some (.int .u8 d.hi):=za hd 4;have E:=zA hd;have A:w.heap[p]?=some (.cells d.cells 210 (0,0)):=hd;replace A:=Qh A;clear hd;go_enter func167,ntmps167
 go_wp2
 all_goals
  apply Ze rfl rfl
  ·simp only[Array.getD_eq_getD_getElem?,List.getElem?_toArray,List.getElem?_cons_succ,List.getElem?_cons_zero,Option.getD_some];rfl
  refine⟨_,rfl,?own,?gb,?dec⟩
  case gb=>repeat (with_reducible first | refine zx ?_ _ _ | refine zbI ?_ _ | exact zo _ _)
  all_goals first | rw[zmM d b (by omega)] | rw[zmN d b (by omega)] | rw[zmO d b (by omega)] | rw[zmP d b (by omega)] | rw[zmQ d b (by omega) (by omega) (by omega) (by omega)] | skip
  case dec =>
   apply zdw
   ·repeat (with_reducible first | apply zz | apply zI | exact A.out)
   ·first | rfl | (simp only[beq_iff_eq,beq_eq_false_iff_ne,ne_eq]at *;simp[Dec.cells, *];done)
  case own =>
   simp only[List.length_cons,List.length_nil,List.map_cons,List.map_nil,Nat.zero_add]
   with_reducible first | exact World.ownsRow_nil _ _ _ _ | apply Z6
   all_goals first | rfl | simp | decide
end
section
open Go.RowKit
theorem zdd:zdQ prog 131 21 1 4 (.int .i32 0):=⟨underlying131,by kernel_rfl,rfl,by decide⟩
structure Dec.ok (d:Dec):Prop where
 h0:0≤d.hav
 h1:d.hav+d.more≤4
 m0:0≤d.more
 r0:0≤d.r
 r1:d.hav≠0→d.r*64 ^ d.more.toNat<2097152
 m1:d.hav≠0→1≤d.more
 lo:d.hav≠0→128≤d.lo
 hi:d.hav≠0→d.hi≤191
theorem ziq (p:Nat) (d:Dec) (b:Int) (w:World) (hd:zcs w p d) (h0:0≤b) (h1:b≤255) (hok:d.ok) :
  Calls prog 122 #[.pointer (some ⟨p,0,none⟩),.int .u8 b] w fun e w'=>∃ v,e=.returned v ∧
   w'.ownsRow w.heap.size 21 1 v (Zv d b).2.length ((Zv d b).2.map (Value.int .i32))∧w.grownBy w' (some p)∧zcs w' p (Zv d b).1:=by
 have c0:w.cell? ⟨p,0,none⟩=some (.int .i32 d.r):=za hd 0;have c1:w.cell? ⟨p,1,none⟩=some (.int .i64 d.hav):=za hd 1;have c2:w.cell? ⟨p,2,none⟩=some (.int .i64 d.more):=za hd 2;have c3:w.cell? ⟨p,3,none⟩=some (.int .u8 d.lo):=za hd 3;have c4:w.cell? ⟨p,4,none⟩=some (.int .u8 d.hi):=za hd 4;have fz:=zA hd;have E:w.heap[p]?=some (.cells d.cells 210 (0,0)):=hd;replace E:=Qh E;by_cases hh:d.hav=0
 ·have A:=Qh (show Zv d b=Zk d b by unfold Zv;rw[if_pos hh]);have hb:(d.hav == 0)=true:=(by simpa using hh);clear hh hok;go_enter func122,ntmps122;go_wp2_with fail;refine(zgS p d b _ hd h0 h1).mono ?_;rintro e T ⟨v,rfl,hq⟩;go_wp2_with fail;go_ret;rw[A.out];exact⟨v,rfl,hq⟩
 by_cases hb:b<d.lo∨d.hi<b
 ·have A:=Qh (show Zv d b=((Zk { d with hav:=0 } b).1,65533::(Zk { d with hav:=0 } b).2) by unfold Zv;rw[if_neg hh,if_pos hb]);have N:(d.hav == 0)=false:=(by simpa using hh);clear hh hok;have I:∀ W:World,W=(w.setCell ⟨p,1,none⟩ (.int .i64 0)).alloc (.cells #[.int .i32 65533] 21)→zcs W p { d with hav:=0 }:=by
   intro W hW;subst hW;exact zdw (zI (zz E _ _) _) rfl
  have Z:=Qh I;clear I;have hb:b<d.lo∨(¬ b<d.lo∧d.hi<b):=(by omega);rcases hb with hb | ⟨hb0,hb⟩
  all_goals
   go_enter func122,ntmps122;go_wp2_with fail;refine(zgS p _ b _ (Z _ rfl) h0 h1).mono ?_;rintro e T ⟨v,rfl,B,H,C⟩;have F:=Qh B;have D:=Qh H;have L:=Qh C;clear B H C;have M:=E.out;replace M:=zq M;have G:Hid (T.ownsRow w.heap.size 21 1 (.slice (some ⟨w.heap.size,0,none⟩) 1 1) 1 [.int .i32 65533]) :=
    (Z6 (w:=w.setCell ⟨p,1,none⟩ (.int .i64 0)) (n:=1) #[.int .i32 65533] _ (by simp) (by simp) (by decide) rfl rfl).kept D (.inr (by simp[Value.ownBlock];omega))
   go_wp2_with (at_builtin;refine zaQ ?_);unfold zaP;have J:(Zk { d with hav:=0 } b).2.length≤1:=zd8 _ _;have R:=D.out.size;refine zb9 zdd rfl rfl w.heap.size G rfl (zdA F) rfl (ints_oneCell _ _) (by unfold maxLen;omega) (by omega) (by simp at R;omega) ?_;intro Y w' U S;have X:=Qh U;have O:=Qh S;clear U S J R;go_wp2_with fail;go_ret;refine⟨Y,rfl,?_,?_,?_⟩
   ·rw[A.out];have:=X.out;simp only[List.length_cons,List.map_cons];rw[Nat.add_comm];exact this
   ·exact Zs (Zc (zbI (zx (zo _ _) _ _) _) D) O (by intro q hq;simp[Value.ownBlock]at hq;omega)
   ·rw[A.out];exact zl (o:=.cells _ 210 (0,0)) L O (by simp[Value.ownBlock];omega)
 have m1:=hok.m1 hh;have r1:=hok.r1 hh;have V:=hok.r0;have hr:d.r*64<2097152:=by
  have e:(64:Int) ^ d.more.toNat=64*64 ^ (d.more.toNat-1):=by
   obtain⟨k,hk⟩:∃ k,d.more.toNat=k+1:=⟨d.more.toNat-1,by omega⟩;rw[hk,Int.pow_succ,Int.mul_comm];rfl
  have hp:(1:Int)≤64 ^ (d.more.toNat-1):=by
   have:(0:Int)<64 ^ (d.more.toNat-1):=Int.pow_pos (by decide);omega
  have:=Int.mul_le_mul_of_nonneg_left (show(64:Int)≤64 ^ d.more.toNat by rw[e];omega) V;omega
 have N:(d.hav == 0)=false:=(by simpa using hh);have B0:¬ b<d.lo:=(by omega);have A0:¬ d.hi<b:=(by omega);have k1:=hok.h0;have k2:=hok.h1;by_cases hm:1<d.more
 ·have A:=Qh (show Zv d b=(⟨d.r*64+b % 64,d.hav+1,d.more-1,128,191⟩,[]) by unfold Zv;rw[if_neg hh,if_neg hb,if_pos hm]);clear hh hok;go_enter func122,ntmps122;go_wp2_with fail;refine Ze (v:=.slice none 0 0) rfl rfl rfl ⟨_,rfl,?qown,?qgb,?qdec⟩
  all_goals try rw[A.out]
  case qown=>exact World.ownsRow_nil _ _ _ _
  case qgb=>repeat (with_reducible first | refine zx ?_ _ _ | exact zo _ _)
  case qdec =>
   apply zdw
   ·repeat (with_reducible first | apply zz | exact E.out)
   ·rfl
 ·have A:=Qh (show Zv d b=(⟨d.r*64+b % 64,0,d.more-1,128,191⟩,[d.r*64+b % 64]) by unfold Zv;rw[if_neg hh,if_neg hb,if_neg hm]);clear hh hok;go_enter func122,ntmps122;go_wp2_with fail;refine Ze (v:=.slice (some ⟨w.heap.size,0,none⟩) 1 1) rfl rfl rfl ⟨_,rfl,?qown2,?qgb2,?qdec2⟩
  all_goals try rw[A.out]
  case qown2=>exact Z6 #[.int .i32 (d.r*64+b % 64)] _ (by simp) (by simp) (by decide) rfl rfl
  case qgb2=>repeat (with_reducible first | refine zx ?_ _ _ | refine zbI ?_ _ | exact zo _ _)
  case qdec2 =>
   apply zdw
   ·repeat (with_reducible first | apply zz | apply zI | exact E.out)
   ·rfl
theorem zhv:dec0.ok:=⟨by decide,by decide,by decide,by decide,fun h=>absurd rfl h,fun h=>absurd rfl h,fun h=>absurd rfl h,fun h=>absurd rfl h⟩
theorem zde (w:World) :
  Calls prog 121 #[] w fun e w'=>e=.returned (.pointer (some ⟨w.heap.size,0,none⟩))∧w'=w.alloc (.cells dec0.cells 210):=by
 go_enter func121,ntmps121
 go_wp2
 go_ret;exact⟨rfl,rfl⟩
theorem zko (p:Nat) (d:Dec) (w:World) (hd:zcs w p d) :
  Calls prog 123 #[.pointer (some ⟨p,0,none⟩)] w fun e w'=>∃ v,e=.returned v ∧
   w'.ownsRow w.heap.size 21 1 v (zbf d).2.length ((zbf d).2.map (Value.int .i32))∧w.grownBy w' (some p)∧zcs w' p (zbf d).1:=by
 have E:w.cell? ⟨p,1,none⟩=some (.int .i64 d.hav):=za hd 1;have D:=zA hd;have B:w.heap[p]?=some (.cells d.cells 210 (0,0)):=hd;replace B:=Qh B;by_cases hh:d.hav=0
 ·have A:=Qh (show zbf d=(d,[]) by unfold zbf;rw[if_pos hh]);have C:(d.hav == 0)=true:=(by simpa using hh);clear hh;go_enter func123,ntmps123
  go_wp2
  refine Ze (v:=.slice none 0 0) rfl rfl rfl ⟨_,rfl,?_,?_,?_⟩
  ·rw[A.out];exact World.ownsRow_nil _ _ _ _
  ·exact zo _ _
  ·rw[A.out];exact B
 ·have A:=Qh (show zbf d=({ d with hav:=0 },[65533]) by unfold zbf;rw[if_neg hh]);have C:(d.hav == 0)=false:=(by simpa using hh);clear hh;go_enter func123,ntmps123
  go_wp2
  refine Ze (v:=.slice (some ⟨w.heap.size,0,none⟩) 1 1) rfl rfl rfl ⟨_,rfl,?_,?_,?_⟩
  ·rw[A.out];exact Z6 #[.int .i32 65533] _ (by simp) (by simp) (by decide) rfl rfl
  ·exact zbI (zx (zo _ _) _ _) _
  ·rw[A.out];exact zdw (zI (zz B _ _) _) rfl
end
section
open Go.RowKit
def zev (l:List UInt8) (lo hi:Int):Bool:=l.all fun b=>decide (lo≤(b.toNat:Int)) && decide ((b.toNat:Int)≤hi)
def ZL (b:Int):Bool:=decide (32≤b) && decide (b≤47)
def zfB (b:Int):Bool:=b == 91 || b == 93 || b == 80 || b == 88 || b == 94 || b == 95
def ZN (l:List UInt8):Bool:=decide (l.length≤2) && zev l 32 47
theorem zQ (b:Int) (w:World) :
  Calls prog 180 #[.int .u8 b] w fun e w'=>e=.returned (.bool (ZL b))∧w'=w:=by
 have A:=Qh (show ZL b=(decide (32≤b) && decide (b≤47)) from rfl);by_cases h:32≤b
 all_goals
  go_enter func180,ntmps180;go_wp2_with fail;go_ret;exact⟨ZQ (by rw[A.out];simp[h] <;> omega),by trivial⟩
theorem zir (b:Bool) (w:World) :
  Calls prog 141 #[.bool b] w fun e w'=>e=.returned (.int .i64 (if b then 1 else 0))∧w'=w:=by
 cases b
 all_goals
  go_enter func141,ntmps141;go_wp2_with fail;go_ret;exact⟨rfl,by trivial⟩
end
section
open Go.RowKit
structure VAct where
 kind:Int
 rune:Int
 byte:UInt8
 params:List Int
 inter:ByteArray
 text:ByteArray
def VAct.val (a:VAct) (vp:Value):Value:=.agg #[.int .i64 a.kind,.int .i32 a.rune,.int .u8 (a.byte.toNat:Int),vp,.string a.inter,.string a.text]
def zbT:List UInt8→List UInt8 × List UInt8
 | []=>([],[])
 | c::r=>if 60≤(c.toNat:Int)∧(c.toNat:Int)≤63 then ([c],r) else ([],c::r)
def zis (f:Bool) (x:Int):List UInt8:=(if f then [59] else [])++(if 0≤x then Lib.itoa x else [])
def zaf:Bool→List Int→List UInt8
 | _,[]=>[]
 | f,x::r=>zis f x++zaf true r
theorem zgb:∀ (l:List Int) (f:Bool) (x:Int),zaf f (l++[x])=zaf f l++zis (f || !l.isEmpty) x
 | [],f,x=>by simp[zaf]
 | y::l,f,x=>by simp[zaf,zgb l true x]
def zgT (x:Int):Bool:=decide (-1≤x) && decide (x≤9999)
def zoA (rest:List UInt8) (byte:UInt8) (params:List Int):Bool :=
 ZN rest && (decide (64≤(byte.toNat:Int)) && (decide ((byte.toNat:Int)≤126) && (decide (params.length≤32) && !(decide (params=[-1])))))
def zcA (a:VAct):Bool:=zoA (zbT a.inter.data.toList).2 a.byte a.params && a.params.all zgT
def zkp (a:VAct):List UInt8:=(zbT a.inter.data.toList).1++zaf false a.params++(zbT a.inter.data.toList).2++[a.byte]
end
section
open Go.RowKit
structure PSt where
 state:Int
 dec:Dec
 inter:List UInt8
 params:List Int
 any:Bool
 text:List UInt8
 final:UInt8
 ended:Bool
 frm:Int
def PSt.cells (s:PSt) (d:Nat) (tell vi vp vt:Value):Array Value :=
 #[.int .i64 s.state,.pointer (some ⟨d,0,none⟩),tell,vi,vp,.bool s.any,vt,.int .u8 (s.final.toNat:Int),.bool s.ended,.int .i64 s.frm]
def PSt.begun (s:PSt) (st:Int):PSt:={ s with state:=st,inter:=[],params:=[],any:=false,text:=[],ended:=false }
def Z0:Value:=.slice none 0 0
def za9 (o:Nat):Value:=.func (.func 92) #[] #[.pointer (some ⟨o,0,none⟩)]
def VAct.cells (a:VAct) (v:Value):List Value:=[.int .i64 a.kind,.int .i32 a.rune,.int .u8 (a.byte.toNat:Int),v,.string a.inter,.string a.text]
def zaq (l:List (VAct × Value)):List Value:=l.flatMap fun x=>x.1.cells x.2
theorem zgx (l:List (VAct × Value)) (a:VAct) (v:Value):zaq (l++[(a,v)])=zaq l++a.cells v:=by simp[zaq]
theorem zhw (p d:Nat) (s:PSt) (tell vi vp vt:Value) (st:Int) (w:World) (hb:w.heap[p]?=some (.cells (s.cells d tell vi vp vt) 153 (0,0))) :
  Calls prog 136 #[.pointer (some ⟨p,0,none⟩),.int .i64 st] w fun e w'=>e=.returned (.tuple #[])∧w.grownBy w' (some p) ∧
   w'.heap[p]?=some (.cells ((s.begun st).cells d tell Z0 Z0 Z0) 153 (0,0)):=by
 have E:=zA hb;have D:w.cell? ⟨p,0,none⟩=some (.int .i64 s.state):=za hb 0;have C:w.cell? ⟨p,3,none⟩=some vi:=za hb 3;have G:w.cell? ⟨p,4,none⟩=some vp:=za hb 4;have H:w.cell? ⟨p,5,none⟩=some (.bool s.any):=za hb 5;have F:w.cell? ⟨p,6,none⟩=some vt:=za hb 6;have B:w.cell? ⟨p,8,none⟩=some (.bool s.ended):=za hb 8;have A:=Qh hb;clear hb;go_enter func136,ntmps136;go_wp2_with fail;go_end0;refine⟨rfl,?_,?_⟩
 ·repeat (with_reducible first | refine zx ?_ _ _ | exact zo _ _)
 ·have h:=zz (zz (zz (zz (zz (zz A 0 (.int .i64 st)) 3 Z0) 4 Z0) 5 (.bool false)) 6 Z0) 8 (.bool false);exact h
theorem zR {w:World} {base size:Nat} {v:Value} {n:Nat} {xs:List Value} (h:zp w base size v n xs):∃ x m c,v=Value.slice x m c:=by
 rcases h.2 with ⟨h,_⟩ | ⟨b,off,cap,h,_⟩
 ·exact⟨_,_,_,h⟩
 ·exact⟨_,_,_,h⟩
theorem zmR:zdQ prog 90 93 6 72 (.agg #[.int .i64 0,.int .i32 0,.int .u8 0,.slice none 0 0,.string ⟨#[]⟩,.string ⟨#[]⟩]):=⟨underlying90,by kernel_rfl,rfl,by decide⟩
theorem zlC (a:VAct) (v:Value) (o:Nat) (vo:Value) (n:Nat) (xs:List Value) (w:World) (hv:∃ x m c,v=.slice x m c) (hb:w.heap[o]?=some (.cells #[vo] 90 (0,0))) (hr:zp w 0 6 vo n xs) (hne:vo.ownBlock≠some o) (hn:n≤1000000000) :
  Calls prog 92 #[a.val v,.pointer (some ⟨o,0,none⟩)] w fun e w'=>e=.returned (.tuple #[])∧∃ vo',w'.heap[o]?=some (.cells #[vo'] 90 (0,0))∧zp w' 0 6 vo' (n+1) (xs++a.cells v) ∧
   (∀ k,vo'.ownBlock=some k→vo.ownBlock=some k∨w.heap.size≤k)∧w'.os=w.os∧w'.tape=w.tape∧w'.output=w.output∧w.heap.size≤w'.heap.size∧∀ k,k<w.heap.size→k≠o→vo.ownBlock≠some k→w'.heap[k]?=w.heap[k]?:=by
 obtain⟨C,E,B,L,A,D⟩:=a;obtain⟨x,m,c,rfl⟩:=hv;unfold VAct.val VAct.cells;dsimp only;have S:=zq hb;have G:=zI hb (.cells #[.int .i64 C,.int .i32 E,.int .u8 (B.toNat:Int),.slice x m c,.string A,.string D] 93);have N:=za G 0;have H:=zI G (.cells #[.int .i64 C,.int .i32 E,.int .u8 (B.toNat:Int),.slice x m c,.string A,.string D] 93);replace N:(w.alloc (.cells #[.int .i64 C,.int .i32 E,.int .u8 (B.toNat:Int),.slice x m c,.string A,.string D] 93)).cell? ⟨o,0,none⟩=some vo:=N;have V:=Qh H;have X:=Qh hr;clear hb hr G H;go_enter func92,ntmps92;go_wp2_with (at_builtin;refine zaQ ?_);unfold zaP;have J:zp ((w.alloc (.cells #[.int .i64 C,.int .i32 E,.int .u8 (B.toNat:Int),.slice x m c,.string A,.string D] 93)).alloc (.cells #[.int .i64 C,.int .i32 E,.int .u8 (B.toNat:Int),.slice x m c,.string A,.string D] 93)) 0 6 vo n xs:=zG (zG X _) _;refine zS zmR rfl rfl 0 J rfl (zdA (Z6 (w:=w.alloc (.cells #[.int .i64 C,.int .i32 E,.int .u8 (B.toNat:Int),.slice x m c,.string A,.string D] 93)) (base:=0) (g:=w.heap.size+1) (n:=1) (e:=93) (size:=6) #[.int .i64 C,.int .i32 E,.int .u8 (B.toNat:Int),.slice x m c,.string A,.string D] [.int .i64 C,.int .i32 E,.int .u8 (B.toNat:Int),.slice x m c,.string A,.string D] (by simp) (by omega) (by decide) rfl rfl)) rfl (by intro u hu;simp at hu;rcases hu with rfl | rfl | rfl | rfl | rfl | rfl <;> rfl) (by unfold maxLen;omega) (by omega) (by omega) ?_;intro v6 w6 o6 g6 n6;obtain⟨x6,m6,c6,rfl⟩:=zR o6;have F:=zl V g6 (fun e=>hne e.symm);have U:w6.cell? ⟨o,0,none⟩=some vo:=za F 0;have O:=zA F;have R:=Qh F;have T:=Qh o6;have I:=Qh g6;have N6:=Qh n6;clear F o6 g6 n6 J;go_wp2_with fail;go_end0;have M:=I.out.size;simp at M;refine⟨rfl,_,zz R 0 _,?_,fun k hk=>?_,I.os,I.tape,I.out.output,by simp;omega,fun k h1 h2 h3=>?_⟩
 ·refine zi T (zx (zo w6 (some o)) 0 _) (fun k hk e=>?_);injection e with e;subst e;rcases N6.out _ hk with h | h
  ·exact hne h
  ·simp at h;omega
 ·rcases N6.out k hk with h | h
  ·exact .inl h
  ·simp at h;exact .inr (by omega)
 ·rw[heap_setCell_other w6 ⟨o,0,none⟩ k _ h2,I.out.block k (by simp;omega) (fun e=>h3 e.symm)];rw[heap_alloc_old _ _ (by simp;omega),heap_alloc_old _ _ h1]
end
end Go.Proofs.YthehkmopdeebmaaGreatDoor
