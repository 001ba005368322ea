/- Part. -/
import Derived.Test.YthehkmopdeebmaaGreatDoorY0
set_option linter.unusedVariables false
set_option linter.unusedSimpArgs false
set_option maxRecDepth 100000
set_option maxHeartbeats 4000000
namespace Go.Proofs.YthehkmopdeebmaaGreatDoor
open _root_.Go.Proofs.Tryz
section
open Go.RowKit
theorem zah {k:IntKind} {a b:Int} (h:a=b):Ending.returned (.int k a)=.returned (.int k b):=by rw[h]
theorem ZQ {a b:Bool} (h:a=b):Ending.returned (.bool a)=.returned (.bool b):=by rw[h]
theorem ZJ {α:Type} (l:List α) (d:α) (k:Nat) (h:k<l.length):l.take (k+1)=l.take k++[l.getD k d]:=by
 rw[List.take_succ_eq_append_getElem h,List.getD_eq_getElem?_getD,List.getElem?_eq_getElem h];rfl
theorem Ze {P:Program} {fn:Func} {R:Ending→World→Prop} {a:Act} {w:World} {t:Tmp} {v:Value} (h:fn.results=#[.tmp t]) (hd:a.defers=[]) (hv:a.tmps.getD t undef=v) (hR:R (.returned v) w) :
  bodyPost P fn R .ret a w:=by
 subst hv;exact bodyPost_ret (results_tmp h _ _ _) hd hR
theorem zq {w:World} {p:Nat} {o:Obj} (h:w.heap[p]?=some o):p<w.heap.size:=(Array.getElem?_eq_some_iff.1 h).1
theorem za {w:World} {p:Nat} {c:Array Value} {T:TypeId} {fr:Nat × Nat} (h:w.heap[p]?=some (.cells c T fr)) (i:Nat):w.cell? ⟨p,i,none⟩=c[i]?:=by
 simp[World.cell?,h]
theorem zA {w:World} {p:Nat} {c:Array Value} {T:TypeId} (h:w.heap[p]?=some (.cells c T (0,0))) (i:Nat):w.frozen? ⟨p,i,none⟩=false:=by
 simp[World.frozen?,h]
theorem zz {w:World} {p:Nat} {c:Array Value} {T:TypeId} (h:w.heap[p]?=some (.cells c T (0,0))) (i:Nat) (v:Value):(w.setCell ⟨p,i,none⟩ v).heap[p]?=some (.cells (c.setIfInBounds i v) T (0,0)) :=
 heap_setCell_same w p i c T v h
theorem Zp {w:World} {p q:Nat} {o:Obj} (h:w.heap[p]?=some o) (hq:p≠q) (i:Nat) (v:Value):(w.setCell ⟨q,i,none⟩ v).heap[p]?=some o:=by
 rw[heap_setCell_other w ⟨q,i,none⟩ p v hq];exact h
theorem zI {w:World} {p:Nat} {o:Obj} (h:w.heap[p]?=some o) (o':Obj):(w.alloc o').heap[p]?=some o:=by
 rw[_root_.Go.heap_alloc_old w o' (zq h)];exact h
theorem Zb {w:World} {p:Nat} {o:Obj} (h:w.heap[p]?=some o):w.drew.heap[p]?=some o:=h
theorem zl {w w':World} {p:Nat} {o:Obj} {row:Option Nat} (h:w.heap[p]?=some o) (g:w.grownBy w' row) (hne:some p≠row):w'.heap[p]?=some o:=by
 rw[g.block p (zq h) hne];exact h
theorem zr {w w':World} {p B:Nat} {o:Obj} (h:w.heap[p]?=some o) (g:Below B w w') (hB:p<B):w'.heap[p]?=some o:=by
 rw[g.block p hB];exact h
theorem zo (w:World) (row:Option Nat):w.grownBy w row:=⟨rfl,rfl,rfl,Nat.le_refl _,fun _ _ _=>rfl⟩
theorem Zc {a b c:World} {row:Option Nat} (h:a.grownBy b row) (g:b.grownBy c row):a.grownBy c row :=
 ⟨g.os.trans h.os,g.tape.trans h.tape,g.output.trans h.output,Nat.le_trans h.size g.size,fun k hk hr=>(g.block k (Nat.lt_of_lt_of_le hk h.size) hr).trans (h.block k hk hr)⟩
theorem zbI {a b:World} {row:Option Nat} (h:a.grownBy b row) (o:Obj):a.grownBy (b.alloc o) row:=Zc h (World.grownBy_alloc b o row)
theorem zaM {a b:World} {row:Option Nat} (h:a.grownBy b row):a.grownBy b.drew row:=Zc h ⟨rfl,rfl,rfl,Nat.le_refl _,fun _ _ _=>rfl⟩
theorem zx {a b:World} {p:Nat} (h:a.grownBy b (some p)) (i:Nat) (v:Value):a.grownBy (b.setCell ⟨p,i,none⟩ v) (some p) :=
 Zc h ⟨rfl,rfl,rfl,by simp,fun k _ hr=>heap_setCell_other b ⟨p,i,none⟩ k v (fun e=>hr (by rw[e]))⟩
theorem zb8 {a b:World} {row:Option Nat} (h:a.grownBy b row) {q:Nat} (hq:a.heap.size≤q) (i:Nat) (v:Value):a.grownBy (b.setCell ⟨q,i,none⟩ v) row :=
 ⟨h.os,h.tape,h.output,Nat.le_trans h.size (by simp),fun k hk hr=>(heap_setCell_other b ⟨q,i,none⟩ k v (by show k≠q;omega)).trans (h.block k hk hr)⟩
theorem zaA {a b c:World} {row:Option Nat} (h:a.grownBy b row) {B:Nat} (g:Below B b c) (hB:a.heap.size≤B):a.grownBy c row :=
 ⟨g.os.trans h.os,g.tape.trans h.tape,g.output.trans h.output,Nat.le_trans h.size g.size,fun k hk hr=>(g.block k (Nat.lt_of_lt_of_le hk hB)).trans (h.block k hk hr)⟩
theorem zcn {b c:World} (row:Option Nat) (g:Below b.heap.size b c):b.grownBy c row:=zaA (zo b row) g (Nat.le_refl _)
theorem Zs {a b c:World} {row row':Option Nat} (h:a.grownBy b row) (g:b.grownBy c row') (hn:∀ q,row'=some q→a.heap.size≤q):a.grownBy c row :=
 ⟨g.os.trans h.os,g.tape.trans h.tape,g.output.trans h.output,Nat.le_trans h.size g.size,fun k hk hr=>(g.block k (Nat.lt_of_lt_of_le hk h.size) (fun e=>by have:=hn k e.symm;omega)).trans (h.block k hk hr)⟩
theorem Z6 {w:World} {base g n:Nat} {e:TypeId} {size:Nat} (cs:Array Value) (xs:List Value) (hg:g=w.heap.size) (hb:base≤w.heap.size) (hm:n≤maxLen) (hs:cs.size=n*size) (hx:cs.toList=xs) :
  (w.alloc (.cells cs e)).ownsRow base e size (.slice (some ⟨g,0,none⟩) n n) n xs:=by
 subst hg hx;exact World.ownsRow_lit w cs n hb hm hs
theorem Zn {a b:World} {row:Option Nat} {B:Nat} (h:a.grownBy b row) (hB:B≤a.heap.size) (hn:∀ q,row=some q→B≤q):Below B a b :=
 ⟨h.os,h.tape,h.output,h.size,fun k hk=>h.block k (Nat.lt_of_lt_of_le hk hB) (fun e=>by have:=hn k e.symm;omega)⟩
def zaP (p:Prop):Prop:=p
theorem zaQ {p:Prop} (h:zaP p):p:=h
structure zdQ (P:Program) (t e:TypeId) (size bytes:Nat) (z:Value):Prop where
 und:P.underlying t=some (.slice e)
 info:(P.info? e).map (fun i=>(i.zero,i.size,i.bytes))=some (some z,size,bytes)
 zs:z.cells.size=size
 pos:0<size
def zaB (w:World) (size:Nat) (x:Value) (m:Nat) (news:List Value):Prop :=
 (x=.slice none 0 0∧m=0∧news=[])∨∃ a c,x=.slice (some a) m c∧news.length=m*size∧∀ j u,news[j]?=some u→w.cell? (a.add j)=some u
theorem zdA {w:World} {base:Nat} {e:TypeId} {size:Nat} {v:Value} {n:Nat} {xs:List Value} (h:w.ownsRow base e size v n xs):zaB w size v n xs:=by
 obtain⟨A,h2⟩:=id h;rcases h2 with ⟨hv,hn⟩ | ⟨g,cap,cur,hv,_⟩
 ·subst hn;exact .inl ⟨hv,rfl,List.eq_nil_of_length_eq_zero (by simpa using A)⟩
 ·exact .inr ⟨⟨g,0,none⟩,cap,hv,A,h.cells (by rw[hv];rfl)⟩
section
variable {P:Program} {w:World} {ops:Array Oper} {rest:List Oper} {o:Oper} {a:Act} {Q:Exit→Act→World→Prop}
theorem zb9 {t e:TypeId} {size bytes:Nat} {z:Value} (EI:zdQ P t e size bytes z) (hgd:o.guard=none) {s x:Operand}
  (ho:o.op=.call { callee:=.builtin .append,args:=#[s,x],argTypes:=#[t,t] })
  (base:Nat) {v:Value} {n:Nat} {xs:List Value} (hown:w.ownsRow base e size v n xs) (hs:a.eval s=v)
  {y:Value} {m:Nat} {news:List Value} (hr:zaB w size y m news) (hx:a.eval x=y) (h1:∀ u∈news,u.oneCell'=true)
  (h63:n+m≤maxLen) (hbytes:(n+m)*bytes≤140737488355328) (hbase:base≤w.heap.size)
  (h:∀ v' w',w'.ownsRow base e size v' (n+m) (xs++news)→w.grownBy w' v.ownBlock→wpList P ops Q rest (a.put o.dst v') w'):wpList P ops Q (o::rest) a w:=by
 obtain⟨i,D,C,A,B⟩:=info_parts EI.info;rcases hr with ⟨rfl,rfl,rfl⟩ | ⟨ad,c,rfl,hl,hc⟩
 ·refine wpList_plain hgd fun K hK=>?_;have hr:=run_append_owned_none (P:=P) w base t o.type e i size EI.und D v n xs hown;unfold Oper.wp execOp;simp only[ho,resolve,invoke,builtin,Sem.run_bind,Sem.run_pure,Result.andThen_ok,List.map_toArray,List.map_cons,List.map_nil,hs,hx,hr];exact hK _ _ (h _ _ (by simpa using hown) ⟨rfl,rfl,rfl,Nat.le_refl _,fun _ _ _=>rfl⟩)
 ·exact wpList_append_own w hgd s x t ho base e i z size bytes EI.und D C A B EI.zs EI.pos v n xs hs hown ad m c news hx hl hc h1 h63 hbytes hbase (fun v' w' a b _=>h v' w' a b)
end
theorem zhJ {w:World} {base base':Nat} {e:TypeId} {size:Nat} {v:Value} {n:Nat} {xs:List Value} (h:w.ownsRow base e size v n xs) (hb:base'≤base):w.ownsRow base' e size v n xs:=by
 refine⟨h.1,?_⟩;rcases h.2 with h | ⟨g,cap,cur,h1,h2,h3⟩
 ·exact .inl h
 ·exact .inr ⟨g,cap,cur,h1,by omega,h3⟩
def zl5 (k:IntKind) (w:World) (v:Value) (l:List Int):Prop :=
 (v=.slice none 0 0∧l=[])∨∃ b off c,v=.slice (some ⟨b,off,none⟩) l.length c∧b<w.heap.size∧l.length≤c∧c≤9223372036854775807 ∧
  ∀ j,j<l.length→w.cell? ⟨b,off+j,none⟩=some (.int k (l.getD j 0))
theorem zbb (b off j:Nat):(⟨b,off,none⟩:Addr).add j=⟨b,off+j,none⟩:=by
 unfold Addr.add;split
 ·rename_i h;subst h;rfl
 ·rfl
theorem zeg (l:List Int) (j:Nat) (h:j<l.length):l[j]?=some (l.getD j 0):=by
 rw[List.getD_eq_getElem?_getD,List.getElem?_eq_getElem h];rfl
theorem zm {B:Nat} {a w:World} (h:Below B a w) (n:Nat):Below B a (w.drewN n):=h.trans ⟨rfl,rfl,rfl,Nat.le_refl _,fun _ _=>rfl⟩
def zj2 (k:IntKind) (w:World) (v:Value) (l:List Int):Prop :=
 (v=.slice none 0 0∧l=[])∨∃ (a:Addr) (c:Nat),v=.slice (some a) l.length c∧l.length≤c∧c≤9223372036854775807 ∧
  (∀ j,j<l.length→w.cell? (a.add j)=some (.int k (l.getD j 0)))∧∀ n∈l,(Lit.int k n).wf=true
end
section
open Go.RowKit
section
variable {P:Program} {t e:TypeId}
end
theorem Zi (w:World) (v:Value) (T:TypeId):zaB (w.alloc (.cells #[v] T)) 1 (.slice (some ⟨w.heap.size,0,none⟩) 1 1) 1 [v]:=by
 refine .inr ⟨⟨w.heap.size,0,none⟩,1,rfl,rfl,fun j u hu=>?_⟩;rw[zbb,World.cell?_alloc_new,Nat.zero_add];simpa using hu
theorem zaw (k:IntKind) (x:Int):∀ u∈[Value.int k x],u.oneCell'=true:=ints_oneCell k [x]
section
variable {P:Program} {t e:TypeId}
end
section
variable {P:Program} {t e:TypeId}
theorem zcV (ht:P.underlying t=some (.slice e)):P.underlying t=some (.slice (P.elem t)):=by rw[ht];simp[Program.elem,ht]
theorem zdn (hs:(P.info? e).map (·.size)=some 1) (wx:World):(sizeOf e).run P wx=.ok 1 wx:=by
 obtain⟨i,B,A⟩:=Option.map_eq_some_iff.1 hs;simp[sizeOf,typeInfo,B,A]
end
end
section
open Go.RowKit
def zp (w:World) (base size:Nat) (v:Value) (n:Nat) (xs:List Value):Prop :=
 xs.length=n*size∧((v=.slice none 0 0∧n=0)∨∃ b off cap,v=.slice (some ⟨b,off,none⟩) n cap∧base≤b∧b<w.heap.size∧n≤cap∧cap≤maxLen ∧
  (∀ j,j<cap*size→(w.cell? ⟨b,off+j,none⟩).isSome=true∧w.frozen? ⟨b,off+j,none⟩=false)∧∀ j u,xs[j]?=some u→w.cell? ⟨b,off+j,none⟩=some u)
theorem Zy (w:World) (base size:Nat):zp w base size (.slice none 0 0) 0 []:=⟨by simp,.inl ⟨rfl,rfl⟩⟩
theorem zaj {w:World} {base:Nat} {e:TypeId} {size:Nat} {v:Value} {n:Nat} {xs:List Value} (h:w.ownsRow base e size v n xs):zp w base size v n xs:=by
 obtain⟨A,h2⟩:=id h;refine⟨A,?_⟩;rcases h2 with h2 | ⟨g,cap,cur,hv,hb,hg,h3,h4,h5,h6⟩
 ·exact .inl h2
 ·refine .inr ⟨g,0,cap,hv,hb,zq hg,h3,h4,fun j hj=>⟨?_,?_⟩,fun j u hu=>?_⟩
  ·rw[Nat.zero_add,za hg];rw[Array.getElem?_eq_getElem (by omega)];rfl
  ·rw[Nat.zero_add,zA hg]
  ·rw[← zbb];exact h.cells (g:=g) (by rw[hv];rfl) j u hu
theorem zg {w:World} {base size:Nat} {v:Value} {n:Nat} {xs:List Value} (h:zp w base size v n xs):∀ k,v.ownBlock=some k→base≤k∧k<w.heap.size:=by
 intro k A;rcases h.2 with ⟨rfl,_⟩ | ⟨b,off,cap,rfl,h1,h2,_⟩
 ·simp[Value.ownBlock]at A
 ·simp[Value.ownBlock]at A;omega
theorem Zu {w w':World} {base size:Nat} {v:Value} {n:Nat} {xs:List Value} (h:zp w base size v n xs) (hs:w.heap.size≤w'.heap.size) (hk:∀ k,v.ownBlock=some k→w'.heap[k]?=w.heap[k]?):zp w' base size v n xs:=by
 refine⟨h.1,?_⟩;rcases h.2 with h2 | ⟨b,off,cap,rfl,h1,h2,h3,h4,h5,h6⟩
 ·exact .inl h2
 ·have A:=hk b rfl;refine .inr ⟨b,off,cap,rfl,h1,by omega,h3,h4,fun j hj=>?_,fun j u hu=>?_⟩
  ·rw[World.cell?_of_block (a:=⟨b,off+j,none⟩) A,World.frozen?_of_block (a:=⟨b,off+j,none⟩) A];exact h5 j hj
  ·rw[World.cell?_of_block (a:=⟨b,off+j,none⟩) A];exact h6 j u hu
theorem zi {w w':World} {base size:Nat} {v:Value} {n:Nat} {xs:List Value} {row:Option Nat} (h:zp w base size v n xs) (g:w.grownBy w' row) (hr:∀ k,v.ownBlock=some k→row≠some k):zp w' base size v n xs :=
 Zu h g.size fun k hk=>g.block k (zg h k hk).2 (fun e=>hr k hk e.symm)
theorem zk {w w':World} {base size:Nat} {v:Value} {n:Nat} {xs:List Value} (h:zp w base size v n xs) (g:Below w.heap.size w w'):zp w' base size v n xs :=
 Zu h g.size fun k hk=>g.block k (zg h k hk).2
theorem zP {w:World} {base base' size:Nat} {v:Value} {n:Nat} {xs:List Value} (h:zp w base size v n xs) (hb:base'≤base):zp w base' size v n xs:=by
 refine⟨h.1,?_⟩;rcases h.2 with h2 | ⟨b,off,cap,hv,h1,h2⟩
 ·exact .inl h2
 ·exact .inr ⟨b,off,cap,hv,by omega,h2⟩
theorem zG {w:World} {base size:Nat} {v:Value} {n:Nat} {xs:List Value} (h:zp w base size v n xs) (o:Obj):zp (w.alloc o) base size v n xs :=
 zi h (World.grownBy_alloc w o none) (by intro k _ e;simp at e)
theorem zX {w:World} {base size:Nat} {v:Value} {n:Nat} {xs:List Value} (h:zp w base size v n xs):zaB w size v n xs:=by
 obtain⟨A,h2⟩:=h;rcases h2 with ⟨hv,hn⟩ | ⟨b,off,cap,hv,_,_,_,_,_,h6⟩
 ·subst hn;exact .inl ⟨hv,rfl,List.eq_nil_of_length_eq_zero (by simpa using A)⟩
 ·exact .inr ⟨⟨b,off,none⟩,cap,hv,A,fun j u hu=>by rw[zbb];exact h6 j u hu⟩
theorem zkE {w:World} {base:Nat} {k:IntKind} {v:Value} {l:List Int} (h:zp w base 1 v l.length (l.map (Value.int k))):zl5 k w v l:=by
 rcases h.2 with ⟨hv,hn⟩ | ⟨b,off,cap,hv,_,h2,h3,h4,_,h6⟩
 ·exact .inl ⟨hv,List.eq_nil_of_length_eq_zero hn⟩
 ·exact .inr ⟨b,off,cap,hv,h2,h3,by unfold maxLen at h4;exact h4,fun j hj=>h6 j _ (by rw[List.getElem?_map,zeg l j hj];rfl)⟩
theorem zV (w:World) (b o:Nat) (vs:List Value):w.grownBy (w.setCells b o vs) (some b):=by
 have A:∀ (vs:List Value) (o:Nat) (w:World),(w.setCells b o vs).heap.size=w.heap.size:=by
  intro vs
  induction vs with
  | nil=>intro o w;rfl
  | cons x vs ih=>intro o w;simp only[World.setCells];rw[ih];simp
 have B:∀ (vs:List Value) (o:Nat) (w:World),(w.setCells b o vs).tape=w.tape:=by
  intro vs
  induction vs with
  | nil=>intro o w;rfl
  | cons x vs ih=>intro o w;simp only[World.setCells];rw[ih];rfl
 exact⟨World.os_setCells w b o vs,B vs o w,World.output_setCells w b o vs,by rw[A];exact Nat.le_refl _,fun k hk hr=>World.heap_setCells_other w b o vs hk (fun e=>hr (by rw[e]))⟩
section
variable {P:Program} {w:World} {ops:Array Oper} {rest:List Oper} {o:Oper} {a:Act} {Q:Exit→Act→World→Prop}
theorem zco {t e:TypeId} {size bytes:Nat} {z:Value} (EI:zdQ P t e size bytes z) (hgd:o.guard=none) {s x:Operand}
  (ho:o.op=.call { callee:=.builtin .append,args:=#[s,x],argTypes:=#[t,t] })
  (base:Nat) {v:Value} {n:Nat} {xs:List Value} (hown:zp w base size v n xs) (hs:a.eval s=v)
  {y:Value} {m:Nat} {news:List Value} (hr:zaB w size y m news) (hx:a.eval x=y) (h1:∀ u∈news,u.oneCell'=true)
  (h63:n+m≤maxLen) (hbytes:(n+m)*bytes≤140737488355328) (hbase:base≤w.heap.size)
  (h:∀ v' w',zp w' base size v' (n+m) (xs++news)→w.grownBy w' v.ownBlock→wpList P ops Q rest (a.put o.dst v') w'):wpList P ops Q (o::rest) a w:=by
 obtain⟨i,F,S,O,I⟩:=info_parts EI.info;rcases hown.2 with ⟨hv,hn⟩ | ⟨b,off,cap,hv,hb,hbs,hnc,hcm,hcells,hxs⟩
 ·subst hn;have E:xs=[]:=List.eq_nil_of_length_eq_zero (by simpa using hown.1);subst hv E;refine zb9 EI hgd ho base (World.ownsRow_nil w base e size) hs hr hx h1 h63 hbytes hbase fun v' w' M B=>h v' w' (zaj M) B
 ·rcases hr with ⟨rfl,rfl,rfl⟩ | ⟨ad,c,rfl,hl,hc⟩
  ·subst hv;refine wpList_plain hgd fun K hK=>?_;have N:(Builtin.append_ #[t,t] o.type #[.slice (some ⟨b,off,none⟩) n cap,.slice none 0 0]).run P w=.ok (.slice (some ⟨b,off,none⟩) n cap) w:=by
    simp[Builtin.append_,run_underlying EI.und,sizeOf,typeInfo,F,Builtin.lenOf,Builtin.firstCells,hnc,storeCells]
   unfold Oper.wp execOp;simp only[ho,resolve,invoke,builtin,Sem.run_bind,Sem.run_pure,Result.andThen_ok,List.map_toArray,List.map_cons,List.map_nil,hs,hx,N];exact hK _ _ (h _ _ (by simpa using hown) ⟨rfl,rfl,rfl,Nat.le_refl _,fun _ _ _=>rfl⟩)
  ·have L:=hown;subst hv;refine wpList_append_arg w hgd s x t ho e i z size bytes EI.und F S O I EI.zs EI.pos b off n cap xs hs hown.1 hxs ad m c news hx hl hc h1 ?_ h63 hbytes ?_ ?_
   ·intro A j J;have T:n*size+j<cap*size:=by
     have:(n+m)*size≤cap*size:=Nat.mul_le_mul_right _ A;rw[Nat.add_mul]at this;omega
    rw[Nat.add_assoc];exact hcells _ T
   ·intro A;have C:(xs++news).length=(n+m)*size:=(by rw[List.length_append,hown.1,hl,Nat.add_mul]);have H:(n+m)*size≤cap*size:=Nat.mul_le_mul_right _ A;have G:(n+m)*size=n*size+m*size:=Nat.add_mul _ _ _;refine h _ _ ⟨C,.inr ⟨b,off,cap,rfl,hb,?_,A,hcm,fun j J=>⟨?_,?_⟩,fun j u hu=>?_⟩⟩ (zV w b _ news)
    ·exact Nat.lt_of_lt_of_le hbs (zV w b (off+n*size) news).size
    ·by_cases hin:n*size≤j∧j<n*size+news.length
     ·have:=World.cell?_setCells_in b news (off+n*size) w (fun i F=>by rw[Nat.add_assoc];exact(hcells _ (by omega)).1) (j-n*size) (by omega);rw[show off+n*size+(j-n*size)=off+j from by omega]at this;rw[this];rfl
     ·rw[World.cell?_setCells_out b news (off+n*size) w ⟨b,off+j,none⟩ (fun _ _=>by show off+j<_∨_≤off+j;omega)];exact(hcells j J).1
    ·rw[World.frozen?_setCells];exact(hcells j J).2
    ·have U:j<(xs++news).length:=(List.getElem?_eq_some_iff.1 hu).1;by_cases hjx:j<xs.length
     ·rw[List.getElem?_append_left hjx]at hu;rw[World.cell?_setCells_out b news (off+n*size) w ⟨b,off+j,none⟩ (fun _ _=>by show off+j<_∨_≤off+j;have:=hown.1;omega)];exact hxs j u hu
     ·rw[List.getElem?_append_right (by omega)]at hu;have E:=hown.1;have D:j-xs.length<news.length:=(List.getElem?_eq_some_iff.1 hu).1;have:=World.cell?_setCells_in b news (off+n*size) w (fun i F=>by rw[Nat.add_assoc];exact(hcells _ (by omega)).1) (j-xs.length) D;rw[show off+n*size+(j-xs.length)=off+j from by omega]at this;rw[this,← hu,List.getElem?_eq_getElem D]
   ·intro R v' w' M B;exact h v' w' (zP (zaj M) hbase) ⟨B.os,B.tape,B.output,B.size,fun k hk _=>B.block k hk (by simp)⟩
end
theorem ziZ {P:Program} (w:World) (src dst e:TypeId) (s:ByteArray) (hs:P.underlying src=some .string) (hd:P.underlying dst=some (.slice e)) (he:P.underlying e=some (.int .u8)) (hm:s.size≤maxLen) :
  ∃ v w',(convert src dst (.string s)).run P w=.ok v w'∧zp w' w.heap.size 1 v s.size (s.data.toList.map fun b=>Value.int .u8 (b.toNat:Int))∧w.grownBy w' none:=by
 have A:=grownCap_ge w s.size 0 e;have D:=grownCap_le_maxLen w s.size 0 e hm;refine⟨_,_,run_bytes_of_string w src dst e s hs hd he,⟨by rw[List.length_map,Array.length_toList,Nat.mul_one];rfl,.inr ⟨w.heap.size,0,_,rfl,Nat.le_refl _,by simp,A,D,?_,?_⟩⟩,⟨rfl,rfl,rfl,by simp,fun k hk _=>heap_alloc_old w.drew _ hk⟩⟩
 ·intro j B;have C:(bytesRow s (grownCap w s.size 0 e)).size=grownCap w s.size 0 e:=by
   simp only[bytesRow,Array.size_append,Array.size_map,Array.size_replicate];have:s.data.size=s.size:=rfl;omega
  rw[Nat.zero_add];have E:=World.cell?_alloc_mark w.drew (bytesRow s (grownCap w s.size 0 e)) e ((bytesRow s (grownCap w s.size 0 e)).size,(bytesRow s (grownCap w s.size 0 e)).size+1) j;have G:=World.frozen?_alloc_mark w.drew (bytesRow s (grownCap w s.size 0 e)) e (bytesRow s (grownCap w s.size 0 e)).size ((bytesRow s (grownCap w s.size 0 e)).size+1) j;refine⟨?_,?_⟩
  ·rw[show w.heap.size=w.drew.heap.size from rfl,E,Array.getElem?_eq_getElem (by omega)];rfl
  ·rw[show w.heap.size=w.drew.heap.size from rfl,G,C];simp;omega
 ·intro j u F;rw[Nat.zero_add];have E:=World.cell?_alloc_mark w.drew (bytesRow s (grownCap w s.size 0 e)) e ((bytesRow s (grownCap w s.size 0 e)).size,(bytesRow s (grownCap w s.size 0 e)).size+1) j;have B:j<s.data.size:=(by have:=(List.getElem?_eq_some_iff.1 F).1;simpa using this);rw[show w.heap.size=w.drew.heap.size from rfl,E,bytesRow_at s _ j B,← F,List.getElem?_map,List.getElem?_eq_getElem (by simpa using B)];simp
end
section
open Go.RowKit
structure zh (G:Nat→Prop) (w w':World):Prop where
 os:w'.os=w.os
 tape:w'.tape=w.tape
 output:w'.output=w.output
 size:w.heap.size≤w'.heap.size
 block:∀ k,k<w.heap.size→¬ G k→w'.heap[k]?=w.heap[k]?
theorem zh.refl (G:Nat→Prop) (w:World):zh G w w:=⟨rfl,rfl,rfl,Nat.le_refl _,fun _ _ _=>rfl⟩
theorem zh.trans {G:Nat→Prop} {a b c:World} (h:zh G a b) (g:zh G b c):zh G a c :=
 ⟨g.os.trans h.os,g.tape.trans h.tape,g.output.trans h.output,Nat.le_trans h.size g.size,fun k hk hg=>(g.block k (Nat.lt_of_lt_of_le hk h.size) hg).trans (h.block k hk hg)⟩
structure Mod (T:Nat→Nat) (t:Nat→Prop) (w w':World):Prop where
 os:w'.os=w.os
 tape:w'.tape=w.tape
 output:w'.output=w.output
 size:w.heap.size≤w'.heap.size
 block:∀ k,k<w.heap.size→¬ t (T k)→w'.heap[k]?=w.heap[k]?
theorem Mod.of_gb {T:Nat→Nat} {t:Nat→Prop} {w w':World} {row:Option Nat} (g:w.grownBy w' row) (h:∀ k,row=some k→t (T k)):Mod T t w w' :=
 ⟨g.os,g.tape,g.output,g.size,fun k hk ht=>g.block k hk (fun e=>ht (h k e.symm))⟩
theorem Mod.trans {T:Nat→Nat} {t:Nat→Prop} {a b c:World} (h:Mod T t a b) (g:Mod T t b c):Mod T t a c :=
 ⟨g.os.trans h.os,g.tape.trans h.tape,g.output.trans h.output,Nat.le_trans h.size g.size,fun k hk ht=>(g.block k (Nat.lt_of_lt_of_le hk h.size) ht).trans (h.block k hk ht)⟩
theorem Mod.retag {T T':Nat→Nat} {t:Nat→Prop} {w w':World} (h:Mod T t w w') (e:∀ k,k<w.heap.size→T' k=T k):Mod T' t w w' :=
 ⟨h.os,h.tape,h.output,h.size,fun k hk ht=>h.block k hk (by rw[← e k hk];exact ht)⟩
structure zbi (G:Nat→Prop) (T:Nat→Nat) (w:World):Prop where
 tl:∀ k,T k≠0→k<w.heap.size∧G k
 gn:∀ k,w.heap.size≤k→G k
theorem zbi.mono {G:Nat→Prop} {T:Nat→Nat} {w w':World} (h:zbi G T w) (hs:w.heap.size≤w'.heap.size):zbi G T w' :=
 ⟨fun k hk=>⟨Nat.lt_of_lt_of_le (h.tl k hk).1 hs,(h.tl k hk).2⟩,fun k hk=>h.gn k (Nat.le_trans hs hk)⟩
theorem Mod.within {G:Nat→Prop} {T:Nat→Nat} {t:Nat→Prop} {w w':World} (h:Mod T t w w') (hA:zbi G T w) (ht:¬ t 0):zh G w w' :=
 ⟨h.os,h.tape,h.output,h.size,fun k hk hg=>h.block k hk (fun e=>by
  by_cases h0:T k=0
  ·rw[h0]at e;exact ht e
  ·exact hg (hA.tl k h0).2)⟩
def adopt (T:Nat→Nat) (a b t:Nat):Nat→Nat:=fun k=>if a≤k∧k<b then t else T k
theorem zdB {T:Nat→Nat} {a b t k:Nat} (h:k<a):adopt T a b t k=T k:=by unfold adopt;rw[if_neg (by omega)]
theorem zdC {T:Nat→Nat} {a b t k:Nat} (h:a≤k) (h2:k<b):adopt T a b t k=t:=by unfold adopt;rw[if_pos ⟨h,h2⟩]
theorem zbi.adopt {G:Nat→Prop} {T:Nat→Nat} {w w':World} (h:zbi G T w) (hs:w.heap.size≤w'.heap.size) (t:Nat):zbi G (adopt T w.heap.size w'.heap.size t) w':=by
 refine⟨fun k hk=>?_,fun k hk=>h.gn k (Nat.le_trans hs hk)⟩;by_cases hn:w.heap.size≤k∧k<w'.heap.size
 ·exact⟨hn.2,h.gn k hn.1⟩
 ·unfold _root_.Go.Proofs.YthehkmopdeebmaaGreatDoor.adopt at hk;rw[if_neg hn]at hk;exact(h.mono hs).tl k hk
structure Row (T:Nat→Nat) (t size:Nat) (v:Value) (n:Nat) (xs:List Value) (w:World):Prop where
 own:zp w 0 size v n xs
 tag:∀ k,v.ownBlock=some k→T k=t
theorem Row.mod {T:Nat→Nat} {t size:Nat} {v:Value} {n:Nat} {xs:List Value} {w w':World} {q:Nat→Prop} (h:Row T t size v n xs w) (m:Mod T q w w') (hq:¬ q t):Row T t size v n xs w' :=
 ⟨Zu h.own m.size fun k hk=>m.block k (zg h.own k hk).2 (by rw[h.tag k hk];exact hq),h.tag⟩
theorem Row.retag {T T':Nat→Nat} {t t' size:Nat} {v:Value} {n:Nat} {xs:List Value} {w:World} (h:Row T t size v n xs w) (e:∀ k,k<w.heap.size→T k=t→T' k=t'):Row T' t' size v n xs w :=
 ⟨h.own,fun k hk=>e k (zg h.own k hk).2 (h.tag k hk)⟩
theorem zbG (T:Nat→Nat) (t size:Nat) (w:World):Row T t size (.slice none 0 0) 0 [] w:=⟨Zy _ _ _,fun k hk=>by simp[Value.ownBlock]at hk⟩
def own (T:Nat→Nat) (w:World):Nat→Prop:=fun k=>T k≠0∨w.heap.size≤k
theorem zha {G:Nat→Prop} {B:Nat} {w w':World} (h:zh G w w') (hB:B≤w.heap.size) (hG:∀ k,k<B→¬ G k):Below B w w' :=
 ⟨h.os,h.tape,h.output,h.size,fun k hk=>h.block k (by omega) (hG k hk)⟩
theorem zeI {T:Nat→Nat} {B:Nat} {w w':World} (h:zh (own T w) w w') (hB:B≤w.heap.size) (hT:∀ k,T k≠0→B≤k):Below B w w' :=
 zha h hB fun k hk hg=>by
  rcases hg with hg | hg
  ·have:=hT k hg;omega
  ·omega
theorem zhK {T T':Nat→Nat} {B:Nat} {w:World} (ht:∀ k,T' k≠0→own T w k) (hB:B≤w.heap.size) (hT:∀ k,T k≠0→B≤k):∀ k,T' k≠0→B≤k:=fun k hk=>by
 rcases ht k hk with h | h
 ·exact hT k h
 ·omega
theorem Mod.of_below {T:Nat→Nat} {w w':World} (h:Below w.heap.size w w'):Mod T (fun _=>False) w w':=⟨h.os,h.tape,h.output,h.size,fun k hk _=>h.block k hk⟩
theorem zh.of_below {G:Nat→Prop} {w w':World} (h:Below w.heap.size w w'):zh G w w':=⟨h.os,h.tape,h.output,h.size,fun k hk _=>h.block k hk⟩
theorem zh.of_gb {G:Nat→Prop} {w w':World} {row:Option Nat} (h:w.grownBy w' row) (hg:∀ k,row=some k→G k):zh G w w':=⟨h.os,h.tape,h.output,h.size,fun k hk hn=>h.block k hk (fun e=>hn (hg k e.symm))⟩
theorem zh.mono {G G':Nat→Prop} {w w':World} (h:zh G w w') (hg:∀ k,G k→G' k):zh G' w w':=⟨h.os,h.tape,h.output,h.size,fun k hk hn=>h.block k hk (fun e=>hn (hg k e))⟩
end
section
open Go.RowKit
structure Sty where
 fg:Int
 bg:Int
 attr:Int
structure Cel where
 rune:Int
 width:Int
 sty:Sty
def Sty.val (s:Sty):Value:=.agg #[.int .i64 s.fg,.int .i64 s.bg,.int .i64 s.attr]
def Cel.vals (c:Cel):List Value:=[.int .i32 c.rune,.int .i64 c.width,.int .i64 c.sty.fg,.int .i64 c.sty.bg,.int .i64 c.sty.attr]
def Cel.val (c:Cel):Value:=.agg #[.int .i32 c.rune,.int .i64 c.width,.int .i64 c.sty.fg,.int .i64 c.sty.bg,.int .i64 c.sty.attr]
def zt (l:List Cel):List Value:=l.flatMap Cel.vals
structure Rw where
 cells:List Cel
 wrap:Bool
structure Gr where
 cols:Nat
 limit:Nat
 rows:List Rw
 old:List Rw
def plainS:Sty:=⟨-1,-1,0⟩
def zM (s:Sty):Cel:=⟨32,1,s⟩
def noC:Cel:=⟨0,0,⟨0,0,0⟩⟩
def noR:Rw:=⟨[],false⟩
def Za {α:Type} (l:List α) (x:Nat) (m:List α):List α:=l.take x++m++l.drop (x+m.length)
theorem ZV {α:Type} (l:List α) (x:Nat) (m:List α) (h:x+m.length≤l.length):(Za l x m).length=l.length:=by
 unfold Za;rw[List.length_append,List.length_append,List.length_take,List.length_drop];omega
def zat (l:List Cel) (x n:Nat) (s:Sty):List Cel:=Za l x (List.replicate n (zM s))
def zB (l:List Cel) (x:Int):List Cel :=
 if 0<x∧x<(l.length:Int)∧(l.getD x.toNat noC).width=0 then zat l (x.toNat-1) 2 (l.getD x.toNat noC).sty else l
theorem zdD (l:List Cel) (x n:Nat) (s:Sty) (h:x+n≤l.length):(zat l x n s).length=l.length :=
 ZV _ _ _ (by rw[List.length_replicate];exact h)
theorem zN (l:List Cel) (x:Int):(zB l x).length=l.length:=by
 unfold zB;split
 ·exact zdD _ _ _ _ (by omega)
 ·rfl
theorem zbj (l:List Cel):(zt l).length=l.length*5:=by
 induction l with
 | nil=>rfl
 | cons x l ih =>
  simp only[zt,List.flatMap_cons,List.length_append,Cel.vals,List.length_cons,List.length_nil]at ih ⊢;omega
theorem zbX (l m:List Cel):zt (l++m)=zt l++zt m:=by simp[zt]
theorem zbc (l:List Cel) (x:Nat):(zt l).take (x*5)=zt (l.take x):=by
 induction l generalizing x with
 | nil=>simp[zt]
 | cons c l ih =>
  cases x with
  | zero=>simp[zt]
  | succ x =>
   have e:zt (c::l)=c.vals++zt l:=rfl;have B:zt ((c::l).take (x+1))=c.vals++zt (l.take x):=rfl;rw[e,B,List.take_append,← ih x];have A:c.vals.length=5:=rfl;rw[List.take_of_length_le (by rw[A];omega),A,show(x+1)*5-5=x*5 by omega]
theorem zdY (l:List Cel) (x:Nat):(zt l).drop (x*5)=zt (l.drop x):=by
 induction l generalizing x with
 | nil=>simp[zt]
 | cons c l ih =>
  cases x with
  | zero=>simp[zt]
  | succ x =>
   have e:zt (c::l)=c.vals++zt l:=rfl;rw[e,List.drop_append,show(c::l).drop (x+1)=l.drop x from rfl,← ih x];have A:c.vals.length=5:=rfl;rw[List.drop_eq_nil_of_le (by rw[A];omega),A,show(x+1)*5-5=x*5 by omega,List.nil_append]
theorem zb4 (l:List Cel) (x:Nat) (m:List Cel):zt (Za l x m)=Za (zt l) (x*5) (zt m):=by
 unfold Za;rw[zbX,zbX,← zbc,← zdY,zbj,Nat.add_mul]
theorem zfC (l:List Cel) (x:Nat) (h:x<l.length) (i:Nat) (hi:i<5):(zt l)[x*5+i]?=(l.getD x noC).vals[i]?:=by
 induction l generalizing x with
 | nil=>simp at h
 | cons c l ih =>
  have e:zt (c::l)=c.vals++zt l:=rfl;have A:c.vals.length=5:=rfl;cases x with
  | zero=>rw[e,List.getElem?_append_left (by omega)];simp
  | succ x =>
   rw[e,List.getElem?_append_right (by omega),A,show(x+1)*5+i-5=x*5+i by omega,ih x (by simpa using h)];rfl
theorem zbw (l:List Cel):∀ u∈zt l,u.oneCell'=true:=by
 intro u hu;obtain⟨c,_,hu⟩:=List.mem_flatMap.1 hu;simp only[Cel.vals,List.mem_cons,List.not_mem_nil,or_false]at hu;rcases hu with rfl | rfl | rfl | rfl | rfl <;> rfl
end
section
open Go.RowKit
theorem zbx {P:Program} {e:TypeId} {n:Nat} (hs:(P.info? e).map (·.size)=some n) (wx:World):(sizeOf e).run P wx=.ok n wx:=by
 obtain⟨i,B,A⟩:=Option.map_eq_some_iff.1 hs;simp[sizeOf,typeInfo,B,A]
theorem Zw {P:Program} {t e:TypeId} {size:Nat} (ht:P.underlying t=some (.slice e)) (hs:(P.info? e).map (·.size)=some size) (b off n c j:Nat) (hj:j<n) (wx:World) :
  (Instr.indexAt t (.slice (some ⟨b,off,none⟩) n c) (.int .i64 j)).run P wx=.ok (.pointer (some ⟨b,off+j*size,none⟩)) wx:=by
 obtain⟨i,C,A⟩:=Option.map_eq_some_iff.1 hs;have B:(0:Int)≤(j:Int)∧(j:Int)<(n:Int):=(by omega);simp[Instr.indexAt,asIntOf,run_underlying ht,B,sizeOf,typeInfo,C,A,zbb];omega
theorem zca {P:Program} {t e:TypeId} {size:Nat} (ht:P.underlying t=some (.slice e)) (hs:(P.info? e).map (·.size)=some size) (b off n c x y:Nat) (h1:x≤y) (h2:y≤c) (hx:x<c) (wx:World) :
  (Instr.slice t (.slice (some ⟨b,off,none⟩) n c) (some (.int .i64 (x:Int))) (some (.int .i64 (y:Int))) none).run P wx=.ok (.slice (some ⟨b,off+x*size,none⟩) (y-x) (c-x)) wx:=by
 have A:P.elem t=e:=(by simp[Program.elem,ht]);rw[run_slice_lh wx t _ _ c (zcV ht) .i64 .i64 _ _ (by omega) (by omega) (by omega),A,zbx hs,Int.toNat_natCast,Int.toNat_natCast];show Result.ok (sliced _ x y c size) wx=_;unfold sliced;rw[if_neg (by omega)];show Result.ok (Value.slice (some ((⟨b,off,none⟩:Addr).add (x*size))) _ _) wx=_;rw[zbb]
theorem zcW {P:Program} {t e:TypeId} {size:Nat} (ht:P.underlying t=some (.slice e)) (hs:(P.info? e).map (·.size)=some size) (b off n c x:Nat) (h1:x≤n) (hx:x<c) (wx:World) :
  (Instr.slice t (.slice (some ⟨b,off,none⟩) n c) (some (.int .i64 (x:Int))) none none).run P wx=.ok (.slice (some ⟨b,off+x*size,none⟩) (n-x) (c-x)) wx:=by
 have A:P.elem t=e:=(by simp[Program.elem,ht]);rw[run_slice_l wx t _ _ c (zcV ht) .i64 _ (by omega) (by omega),A,zbx hs,Int.toNat_natCast];show Result.ok (sliced _ x n c size) wx=_;unfold sliced;rw[if_neg (by omega)];show Result.ok (Value.slice (some ((⟨b,off,none⟩:Addr).add (x*size))) _ _) wx=_;rw[zbb]
theorem zcX {P:Program} {t e:TypeId} {size:Nat} (ht:P.underlying t=some (.slice e)) (hs:(P.info? e).map (·.size)=some size) (a:Option Addr) (n c y:Nat) (h2:y≤c) (wx:World) :
  (Instr.slice t (.slice a n c) none (some (.int .i64 (y:Int))) none).run P wx=.ok (.slice a y c) wx:=by
 have A:P.elem t=e:=(by simp[Program.elem,ht]);rw[run_slice_h wx t _ _ c (zcV ht) .i64 _ (by omega) (by omega),A,zbx hs,Int.toNat_natCast];show Result.ok (sliced _ 0 y c size) wx=_;unfold sliced;cases a with
 | none=>simp
 | some a =>
  split
  ·rfl
  ·rw[Nat.zero_mul];show Result.ok (Value.slice (some (a.add 0)) _ _) wx=_;rw[show a.add 0=a by simp[Addr.add]];rfl
theorem zeh {w:World} {base size b off n c:Nat} {xs:List Value} (h:zp w base size (.slice (some ⟨b,off,none⟩) n c) n xs) (x y:Nat) (h1:x≤y) (h2:y≤n) :
  zp w base size (.slice (some ⟨b,off+x*size,none⟩) (y-x) (c-x)) (y-x) ((xs.drop (x*size)).take ((y-x)*size)):=by
 obtain⟨D,A⟩:=h;rcases A with ⟨e,_⟩ | ⟨F,B,E,e,hb,hbs,hnc,hcm,hcells,hxs⟩
 ·simp at e
 ·simp only[Value.slice.injEq,Option.some.injEq,Addr.mk.injEq]at e;obtain⟨⟨rfl,rfl,_⟩,_,rfl⟩:=e;have C:x*size+(y-x)*size≤xs.length:=by
   rw[D,← Nat.add_mul];exact Nat.mul_le_mul_right _ (by omega)
  refine⟨by rw[List.length_take,List.length_drop];omega,.inr ⟨b,off+x*size,c-x,rfl,hb,hbs,by omega,by omega,fun j hj=>?_,fun j u hu=>?_⟩⟩
  ·have:x*size+j<c*size:=by
    have G:x*size+(c-x)*size=c*size:=(by rw[← Nat.add_mul];congr 1;omega);omega
   have:=hcells (x*size+j) this
   rwa [← Nat.add_assoc]at this
  ·rw[List.getElem?_take]at hu;split at hu
   ·rw[List.getElem?_drop]at hu;have:=hxs _ u hu
    rwa [← Nat.add_assoc]at this
   ·simp at hu
theorem zby {α:Type} (l:List α) (x:Nat) (m:List α) (h:x+m.length≤l.length) (j:Nat):(Za l x m)[j]?=if j<x then l[j]? else if j<x+m.length then m[j-x]? else l[j]?:=by
 unfold Za;have A:(l.take x).length=x:=(by rw[List.length_take];omega);by_cases c1:j<x
 ·rw[if_pos c1,List.getElem?_append_left (by rw[List.length_append];omega),List.getElem?_append_left (by omega),List.getElem?_take,if_pos c1]
 rw[if_neg c1];by_cases c2:j<x+m.length
 ·rw[if_pos c2,List.getElem?_append_left (by rw[List.length_append];omega),List.getElem?_append_right (by omega),A]
 ·rw[if_neg c2,List.getElem?_append_right (by rw[List.length_append];omega),List.length_append,A,List.getElem?_drop];congr 1;omega
theorem zeJ (b:Nat) (vs:List Value) (o:Nat) (w:World) (h:∀ j,j<vs.length→(w.cell? ⟨b,o+j,none⟩).isSome=true) (j:Nat) (hj:j<vs.length):(w.setCells b o vs).cell? ⟨b,o+j,none⟩=vs[j]?:=by
 rw[World.cell?_setCells_in b vs o w (fun i hi=>h i hi) j hj,List.getElem?_eq_getElem hj]
theorem zaG (w:World) (b o:Nat) (vs:List Value):(w.setCells b o vs).heap.size=w.heap.size:=by
 induction vs generalizing o w with
 | nil=>rfl
 | cons x vs ih=>simp only[World.setCells];rw[ih];simp
theorem zak {w:World} {base size b off n c:Nat} {xs:List Value} (h:zp w base size (.slice (some ⟨b,off,none⟩) n c) n xs) (j:Nat) (vs:List Value) (hj:j+vs.length≤n*size) :
  zp (w.setCells b (off+j) vs) base size (.slice (some ⟨b,off,none⟩) n c) n (Za xs j vs):=by
 obtain⟨E,h2⟩:=h;rcases h2 with ⟨e,_⟩ | ⟨G,C,F,e,hb,hbs,hnc,hcm,hcells,hxs⟩
 ·simp at e
 ·simp only[Value.slice.injEq,Option.some.injEq,Addr.mk.injEq]at e;obtain⟨⟨rfl,rfl,_⟩,_,rfl⟩:=e;have D:n*size≤c*size:=Nat.mul_le_mul_right _ hnc;have B:=zeJ b vs (off+j) w (fun i hi=>by
   have:=(hcells (j+i) (by omega)).1
   rwa [← Nat.add_assoc]at this)
  have A:∀ k,k<j∨j+vs.length≤k→(w.setCells b (off+j) vs).cell? ⟨b,off+k,none⟩=w.cell? ⟨b,off+k,none⟩:=fun k hk =>
   World.cell?_setCells_out b vs (off+j) w _ (fun _ _=>by show off+k<off+j∨off+j+vs.length≤off+k;omega)
  refine⟨by rw[ZV _ _ _ (by omega)];exact E,.inr ⟨b,off,c,rfl,hb,by rw[zaG];exact hbs,hnc,hcm,fun k hk=>⟨?_,by rw[World.frozen?_setCells];exact(hcells k hk).2⟩,fun k u hu=>?_⟩⟩
  ·by_cases hk2:k<j∨j+vs.length≤k
   ·rw[A k hk2];exact(hcells k hk).1
   ·have:=B (k-j) (by omega);rw[show off+j+(k-j)=off+k by omega]at this;rw[this,List.getElem?_eq_getElem (by omega)];rfl
  ·rw[zby _ _ _ (by omega)]at hu;by_cases hk1:k<j
   ·rw[if_pos hk1]at hu;rw[A k (.inl hk1)];exact hxs k u hu
   ·rw[if_neg hk1]at hu;by_cases hk2:k<j+vs.length
    ·rw[if_pos hk2]at hu;have:=B (k-j) (by omega);rw[show off+j+(k-j)=off+k by omega]at this;rw[this];exact hu
    ·rw[if_neg hk2]at hu;rw[A k (.inr (by omega))];exact hxs k u hu
theorem zcC {P:Program} {w:World} {e:TypeId} {base size b off n c:Nat} {xs:List Value} (hs:(P.info? e).map (·.size)=some size) (h:zp w base size (.slice (some ⟨b,off,none⟩) n c) n xs) (j:Nat) (hj:j<n) (vs:Array Value) (hv:vs.size=size)
  (h1:∀ u∈vs.toList,u.oneCell'=true):(storeVar e ⟨b,off+j*size,none⟩ (.agg vs)).run P w=.ok () (w.setCells b (off+j*size) vs.toList):=by
 obtain⟨G,h2⟩:=h;rcases h2 with ⟨e,_⟩ | ⟨F,B,E,e,hb,hbs,hnc,hcm,hcells,hxs⟩
 ·simp at e
 ·simp only[Value.slice.injEq,Option.some.injEq,Addr.mk.injEq]at e;obtain⟨⟨rfl,rfl,_⟩,_,rfl⟩:=e;have A:(j+1)*size≤c*size:=Nat.mul_le_mul_right _ (by omega);rw[Nat.add_mul,Nat.one_mul]at A;have D:vs.toList.length=size:=(by rw[Array.length_toList];exact hv);have C:=run_storeCells_cells (P:=P) b (off+j*size) vs.toList 0 w (fun i hi=>by
    have:=(hcells (j*size+i) (by omega)).1
    rwa [← Nat.add_assoc]at this) (fun i hi=>by
    have:=(hcells (j*size+i) (by omega)).2
    rwa [← Nat.add_assoc]at this) h1
  unfold storeVar;simp only[Sem.run_bind,zbx hs,Result.andThen,Value.cells,hv,ne_eq,not_true_eq_false,if_false,Nat.add_zero]at C ⊢;exact C
theorem zK {w:World} {base size:Nat} {v:Value} {n:Nat} {xs:List Value} (h:zp w base size v n xs):∃ x c,v=Value.slice x n c:=by
 rcases h.2 with ⟨hv,rfl⟩ | ⟨b,off,cap,hv,_⟩
 ·exact⟨_,_,hv⟩
 ·exact⟨_,_,hv⟩
theorem Zf {P:Program} {t e:TypeId} {w:World} {base size:Nat} {v:Value} {n:Nat} {xs:List Value} (ht:P.underlying t=some (.slice e)) (h:zp w base size v n xs) (ty:TypeId) (wx:World):(Builtin.len_ #[t] ty #[v]).run P wx=.ok (.int .i64 n) wx:=by
 rcases h.2 with ⟨rfl,rfl⟩ | ⟨b,off,c,rfl,_⟩ <;> simp[Builtin.len_,run_underlying ht,goInt]
theorem zdh {P:Program} {fn:Func} {R:Ending→World→Prop} {a:Act} {w:World} (h:fn.results=#[]) (hd:a.defers=[]) (hR:R (.returned (.tuple #[])) w) :
  bodyPost P fn R .ret a w:=bodyPost_ret (results_none h _ _ _) hd hR
theorem zcD {P:Program} {fn:Func} {R:Ending→World→Prop} {a:Act} {w:World} {t u:Tmp} {v1 v2:Value} (h:fn.results=#[.tmp t,.tmp u]) (hd:a.defers=[]) (h1:a.tmps.getD t undef=v1) (h2:a.tmps.getD u undef=v2) (hR:R (.returned (.tuple #[v1,v2])) w) :
  bodyPost P fn R .ret a w:=by
 subst h1 h2;exact bodyPost_ret (results_tmp2 h _ _ _) hd hR
section
variable {P:Program}
theorem zal {o:Oper} {a:Act} {w w':World} {K:Act→World→Prop} {Q:Exit→Act→World→Prop} (ty:TypeId) (x y:Operand) (ho:o.op=.store ty x y)
  {ad:Addr} {v:Value} (hst:(storeVar ty ad v).run P w=.ok () w') (hx:a.eval x=.pointer (some ad)) (hy:a.eval y=v) (h:K (a.put o.dst undef) w'):o.wp P a w K Q:=by
 unfold Oper.wp execOp;simp only[ho,hx,hy,Instr.storeAt,Instr.sureAddr,Sem.run_bind,Sem.run_pure,Result.andThen_ok,hst];exact h
theorem zF {ops:Array Oper} {rest:List Oper} {o:Oper} {a:Act} {w w':World} {Q:Exit→Act→World→Prop} (hgd:o.guard=none) (ty:TypeId) (x y:Operand) (ho:o.op=.store ty x y)
  {ad:Addr} {v:Value} (hst:(storeVar ty ad v).run P w=.ok () w') (hx:a.eval x=.pointer (some ad)) (hy:a.eval y=v) (h:wpList P ops Q rest (a.put o.dst undef) w'):wpList P ops Q (o::rest) a w :=
 wpList_plain hgd fun _ hK=>zal ty x y ho hst hx hy (hK _ _ h)
theorem zbz {fn:Func} {R:Ending→World→Prop} {a:Act} {w:World} {p:Tmp} {ty t:TypeId} {g:Nat} {cs:Array Value} {fr:Nat × Nat} {d:TypeDesc} (h:fn.results=#[.cell p ty]) (hdf:a.defers=[])
  (hp:a.tmps.getD p undef=.pointer (some ⟨g,0,none⟩)) (hg:w.heap[g]?=some (.cells cs t fr)) (hu:P.underlying ty=some d) (hd:(match d with | .struct _ | .array _ _=>true | _=>false)=true) (hi:(P.info? ty).map (·.size)=some cs.size)
  (hR:R (.returned (.agg cs)) w):bodyPost P fn R .ret a w :=
 bodyPost_ret (results_cell_row h _ w g t cs fr d hp hg hu hd hi) hdf hR
end
end
section
open Go.RowKit
def ZB (c:Int):Bool:=decide (-1≤c∧c≤255) || decide (16777216≤c∧c<33554432)
def okS (s:Sty):Bool:=ZB s.fg && (ZB s.bg && (decide (0≤s.attr) && decide (s.attr≤255)))
def zW (n cols:Nat) (s:Sty):List Rw:=List.replicate n ⟨List.replicate cols (zM s),false⟩
def zfw (cols rows:Int):Bool:=decide (1≤cols) && (decide (cols≤250) && (decide (1≤rows) && decide (rows≤120)))
def Z1 (cols rows limit:Nat):Gr:=⟨cols,limit,zW rows cols plainS,[]⟩
def Gr.row (g:Gr) (y:Int):Rw :=
 if 0≤y∧y<(g.rows.length:Int) then g.rows.getD y.toNat noR
 else if y<0∧-(g.old.length:Int)≤y then g.old.getD ((g.old.length:Int)+y).toNat noR
 else noR
def ze8 (l:List Cel):List Cel:=(l.reverse.dropWhile fun c=>c.rune == 32).reverse
def Gr.setWrap (g:Gr) (y:Int) (is:Bool):Gr :=
 if 0≤y∧y<(g.rows.length:Int) then { g with rows:=g.rows.set y.toNat { g.rows.getD y.toNat noR with wrap:=is } } else g
def Gr.turn (g:Gr) (y:Nat) (f:List Cel→List Cel):Gr:={ g with rows:=g.rows.set y { g.rows.getD y noR with cells:=f (g.rows.getD y noR).cells } }
def Gr.onIt (g:Gr) (x y:Int) (s:Sty):Bool:=decide (0≤y) && (decide (y<(g.rows.length:Int)) && (decide (0≤x) && (decide (x<(g.cols:Int)) && okS s)))
def zcY (l:List Cel) (x:Nat) (c:Cel):List Cel:=Za (zB (zB l x) ((x:Int)+c.width)) x (if c.width=2 then [c,⟨0,0,c.sty⟩] else [c])
def zaC (limit:Nat) (l:List Rw):List Rw:=l.drop (l.length-limit)
def zZ (g:Gr) (top bottom n:Int) (s:Sty):Nat :=
 if top<0∨bottom<top∨(g.rows.length:Int)≤bottom∨okS s=false then 0 else (max 0 (min n (bottom-top+1))).toNat
def zbd (rows:List Rw) (top bottom n cols:Nat) (s:Sty):List Rw :=
 rows.take top++(rows.drop (top+n)).take (bottom+1-top-n)++zW n cols s++rows.drop (bottom+1)
def Z7 (rows:List Rw) (top bottom n cols:Nat) (s:Sty):List Rw :=
 rows.take top++zW n cols s++(rows.drop top).take (bottom+1-top-n)++rows.drop (bottom+1)
def Gr.up (g:Gr) (top bottom n:Int) (s:Sty) (keep:Bool):Gr :=
 if zZ g top bottom n s=0 then g
 else { g with rows:=zbd g.rows top.toNat bottom.toNat (zZ g top bottom n s) g.cols s,old:=if keep=true∧top=0 then zaC g.limit (g.old++(g.rows.drop top.toNat).take (zZ g top bottom n s)) else g.old }
def Gr.down (g:Gr) (top bottom n:Int) (s:Sty):Gr :=
 if zZ g top bottom n s=0 then g else { g with rows:=Z7 g.rows top.toNat bottom.toNat (zZ g top bottom n s) g.cols s }
def ZI (c:Cel):Bool:=c.rune == 32 && (c.width == 1 && (c.sty.fg == -1 && (c.sty.bg == -1 && c.sty.attr == 0)))
structure Sp where
 done:List Rw
 cur:List Cel
 told:Option (Int × Int)
def za2 (cols:Nat) (mark:Int) (st:Sp) (i:Nat) (c:Cel):Sp :=
 let cur1:=if c.width=2∧st.cur.length=cols-1 then st.cur++[zM plainS] else st.cur
 let done2:=if cur1.length=cols then st.done++[⟨cur1,true⟩] else st.done
 let cur2:=if cur1.length=cols then [] else cur1
 ⟨done2,cur2++[c],if (i:Int)=mark then some ((cur2.length:Int),(done2.length:Int)) else st.told⟩
def ZC (cols:Nat) (mark:Int) (st:Sp) (i:Nat) (c:Cel):Sp :=
 if cols=1∧c.width≠1 then
  if c.width=0 then { st with told:=if (i:Int)=mark then some ((st.cur.length:Int)-1,(st.done.length:Int)) else st.told }
  else za2 cols mark st i (zM c.sty)
 else za2 cols mark st i c
def zbk (cols:Nat) (mark:Int):Sp→Nat→List Cel→Sp
 | st,_,[]=>st
 | st,i,c::l=>zbk cols mark (ZC cols mark st i c) (i+1) l
def zaN (cols:Nat) (st:Sp):List Rw:=st.done++[⟨st.cur++List.replicate (cols-st.cur.length) (zM plainS),false⟩]
def Z2 (l:List Cel) (cols:Nat) (mark:Int):Sp:=zbk cols mark ⟨[],[],none⟩ 0 l
def ze9:Nat→List Cel→Int→List Cel
 | 0,l,_=>l
 | n+1,l,mark=>if mark<(l.length:Int)-1∧l≠[]∧ZI (l.getD (l.length-1) noC)=true then ze9 n (l.take (l.length-1)) mark else l
def zau (l:List Cel) (mark:Int):List Cel:=ze9 l.length l mark
def ZK (l:List Rw) (is:Bool):List Rw:=l.set (l.length-1) { l.getD (l.length-1) noR with wrap:=is }
structure Fl where
 out:List Rw
 px:Int
 py:Int
def zaD (cols:Nat) (line:List Cel) (mark:Int) (wrap:Bool) (st:Fl):Fl :=
 let sp:=Z2 (zau line mark) cols mark
 ⟨st.out++ZK (zaN cols sp) wrap,match sp.told with | some q=>q.1 | none=>st.px,match sp.told with | some q=>(st.out.length:Int)+q.2 | none=>st.py⟩
def Z8 (cols:Nat) (place atx:Int):List Rw→Nat→List Cel→Int→Fl→Fl
 | [],_,_,_,st=>st
 | r::rest,i,line,mark,st =>
  let mark2:=if (i:Int)=place then (line.length:Int)+atx else mark
  if r.wrap=false∨rest=[] then Z8 cols place atx rest (i+1) [] (-1) (zaD cols (line++r.cells) mark2 r.wrap st)
  else Z8 cols place atx rest (i+1) (line++r.cells) mark2 st
def zbs:Nat→List Rw→Int→List Rw
 | 0,l,_=>l
 | n+1,l,py=>if py<(l.length:Int)-1∧(l.getD (l.length-1) noR).wrap=false∧(l.getD (l.length-1) noR).cells.all ZI=true then zbs n (l.take (l.length-1)) py else l
def Gr.flow (g:Gr) (cols rows:Nat) (ax ay:Int):Gr × Int × Int :=
 let st:=Z8 cols ((g.old.length:Int)+ay) ax (g.old++g.rows) 0 [] (-1) ⟨[],0,0⟩
 let out:=zbs st.out.length st.out st.py
 let first:=(min (max 0 ((out.length:Int)-rows)) st.py).toNat
 let now:=(out.drop first).take rows
 (⟨cols,g.limit,now++zW (rows-now.length) cols plainS,zaC g.limit (out.take first)⟩,st.px,st.py-first)
def ZO (r:Rw) (cols:Nat):Rw :=
 if cols=r.cells.length then r else ⟨(zB r.cells cols).take cols++List.replicate (cols-r.cells.length) (zM plainS),false⟩
def zfD (n most:Int):Int:=max 0 (min n most)
def Gr.resize (g:Gr) (cols rows:Nat) (ax ay:Int) (reflow:Bool):Gr × Int × Int :=
 if reflow then g.flow cols rows (zfD ax (g.cols-1)) (zfD ay ((g.rows.length:Int)-1))
 else
  let fit:=g.rows.map fun r=>ZO r cols
  (⟨cols,g.limit,if rows<fit.length then fit.take rows else fit++zW (rows-fit.length) cols plainS,g.old.map fun r=>ZO r cols⟩,
   min (zfD ax (g.cols-1)) (cols-1),min (zfD ay ((g.rows.length:Int)-1)) (rows-1))
end
section
open Go.RowKit
theorem zT:(prog.info? 96).map (·.size)=some 5:=by kernel_rfl
theorem zdo:(prog.info? 49).map (·.size)=some 3:=by kernel_rfl
theorem zC:(prog.info? 144).map (·.size)=some 2:=by kernel_rfl
theorem zH (w:World) (o:Obj):(w.alloc o).heap[w.heap.size]?=some o:=heap_alloc_new w o
theorem zbJ (w:World) (o o':Obj):((w.alloc o).alloc o').heap[w.heap.size+1]?=some o':=by
 have:=heap_alloc_new (w.alloc o) o';simpa using this
theorem zbA {B g:Nat} {w0 w:World} (hb:Below B w0 w) (hBg:B≤g) (cs:Array Value):Below B w0 (w.setRow g cs) :=
 hb.trans ⟨rfl,rfl,rfl,by simp[World.setRow],fun k hk=>setRow_other w g k cs (by omega)⟩
theorem zdE (s:Sty) (w:World):Calls prog 179 #[s.val] w fun e w'=>e=.returned (zM s).val∧Below w.heap.size w w':=by
 obtain⟨f,b,a⟩:=s;unfold Sty.val Cel.val zM;have A:=Qh (((Below.refl w.heap.size w).alloc (Nat.le_refl _) (.cells #[.int .i64 f,.int .i64 b,.int .i64 a] 49)).alloc (by simp) (.cells #[.int .i32 32,.int .i64 1,.int .i64 f,.int .i64 b,.int .i64 a] 96));go_enter func179,ntmps179;go_wp2_with fail;exact zbz rfl rfl rfl (zbJ _ _ _) underlying96 rfl (by exact zT) ⟨rfl,A⟩
theorem ZW (w:World):Calls prog 19 #[] w fun e w'=>e=.returned plainS.val∧Below w.heap.size w w':=by
 unfold Sty.val plainS;go_enter func19,ntmps19;go_wp2_with fail;exact zbz rfl rfl rfl (zH _ _) underlying49 rfl (by exact zdo) ⟨rfl,(Below.refl w.heap.size w).alloc (Nat.le_refl _) _⟩
theorem Zz {w:World} {g:Nat} {old cells:Array Value} {t:TypeId} (h:w.heap[g]?=some (.cells old t (0,0))):(w.setRow g cells).heap[g]?=some (.cells cells t (0,0)):=setRow_heap w g old cells t (0,0) h
theorem zkF (l:List Cel) (x:Nat) (s:Sty):zat l x 0 s=l:=by
 unfold zat Za;simp
theorem zkG (l:List Cel) (x k:Nat) (s:Sty) (h:x+k<l.length):Za (zat l x k s) (x+k) [zM s]=zat l x (k+1) s:=by
 apply List.ext_getElem?;intro j;have A:(zat l x k s).length=l.length:=zdD _ _ _ _ (by omega);rw[zby _ _ _ (by rw[A];simp;omega)];unfold zat;rw[zby _ _ _ (by rw[List.length_replicate];omega),zby _ _ _ (by rw[List.length_replicate];omega)];simp only[List.length_replicate,List.length_singleton,List.getElem?_replicate];by_cases c1:j<x
 ·rw[if_pos (show j<x+k by omega),if_pos c1,if_pos c1]
 rw[if_neg c1,if_neg c1];by_cases c2:j<x+k
 ·rw[if_pos c2,if_pos c2,if_pos (show j-x<k by omega),if_pos (show j<x+(k+1) by omega),if_pos (show j-x<k+1 by omega)]
 rw[if_neg c2,if_neg c2];by_cases c3:j<x+k+1
 ·rw[if_pos c3,if_pos (show j<x+(k+1) by omega),if_pos (show j-x<k+1 by omega),show j-(x+k)=0 by omega];rfl
 ·rw[if_neg c3,if_neg (show ¬ j<x+(k+1) by omega)]
theorem zcZ (c:Cel):∀ u∈(#[Value.int .i32 c.rune,.int .i64 c.width,.int .i64 c.sty.fg,.int .i64 c.sty.bg,.int .i64 c.sty.attr]:Array Value).toList,u.oneCell'=true:=zbw [c]
theorem zcE (l:List Cel) (s:Sty) (b off n c x m c':Nat) (w:World) (h:zp w 0 5 (.slice (some ⟨b,off,none⟩) n c) n (zt l)) (hn:l.length=n) (hx:x+m≤n) (hm:n≤maxLen) :
  Calls prog 134 #[.slice (some ⟨b,off+x*5,none⟩) m c',s.val] w fun e w'=>e=.returned (.tuple #[])∧w.grownBy w' (some b)∧zp w' 0 5 (.slice (some ⟨b,off,none⟩) n c) n (zt (zat l x m s)):=by
 have A0:=(zg h b rfl).2;have G:=Qh (zG h (.cells #[.int .i64 s.fg,.int .i64 s.bg,.int .i64 s.attr] 49));have I:=zH w (.cells #[.int .i64 s.fg,.int .i64 s.bg,.int .i64 s.attr] 49);clear h;unfold maxLen at hm;go_enter func134,ntmps134;unfold Sty.val;go_wp2_with fail
 go_loopw [4,7] (fun _ iv wr=>∃ k:Nat,k≤m∧iv=.int .i64 k∧w.grownBy wr (some b)∧wr.heap[w.heap.size]?=some (.cells #[.int .i64 s.fg,.int .i64 s.bg,.int .i64 s.attr] 49 (0,0))∧w.heap.size<wr.heap.size ∧
  zp wr 0 5 (.slice (some ⟨b,off,none⟩) n c) n (zt (zat l x k s))) (fun _ iv _=>m-(intOf iv).toNat)
 case atStart =>
  refine⟨0,Nat.zero_le _,rfl,World.grownBy_alloc w _ _,I,by simp,?_⟩;rw[zkF];exact G
 case round =>
  obtain⟨k,hk,rfl,g,D,O,V⟩:=hrel;have U:=Qh g;have R:=Qh V;have T:=za D 0;have X:=za D 1;have S:=za D 2;replace T:wr.cell? ⟨w.heap.size,0,none⟩=some (.int .i64 s.fg):=T;replace X:wr.cell? ⟨w.heap.size,1,none⟩=some (.int .i64 s.bg):=X;replace S:wr.cell? ⟨w.heap.size,2,none⟩=some (.int .i64 s.attr):=S;have N:=Qh D;clear g V D;by_cases hlt2:k<m
  ·have Y:=Zw (P:=prog) (size:=5) underlying56 zT b (off+x*5) m c' k hlt2;have J:=Qh (zdE s wr);go_wp2_with fail;refine J.mono ?_;rintro e B ⟨rfl,E⟩;have hl:(zat l x k s).length=n:=(by rw[zdD _ _ _ _ (by omega)];exact hn);have C:=Qh (zk R E);have A:=zcC (P:=prog) zT C (x+k) (by omega) #[.int .i32 32,.int .i64 1,.int .i64 s.fg,.int .i64 s.bg,.int .i64 s.attr] rfl (zcZ (zM s));rw[show off+(x+k)*5=off+x*5+k*5 by omega]at A;have L:=zak C ((x+k)*5) (zt [zM s]) (by rw[zbj];simp;omega);rw[← zb4,zkG _ _ _ _ (by omega),show off+(x+k)*5=off+x*5+k*5 by omega]at L;have M:=Qh L;have F:=Qh (Zc (zaA U E (by omega)) (zV B b (off+x*5+k*5) (zt [zM s])));have H:=Qh (zl (zr N E O) (zV B b (off+x*5+k*5) (zt [zM s])) (by intro e;injection e with e;omega));have Z:=E.size;have B0:=zaG B b (off+x*5+k*5) (zt [zM s]);unfold Cel.val zM;dsimp only;replace A:(storeVar 96 ⟨b,off+x*5+k*5,none⟩ (.agg #[.int .i32 32,.int .i64 1,.int .i64 s.fg,.int .i64 s.bg,.int .i64 s.attr])).run prog B=.ok () (B.setCells b (off+x*5+k*5) (zt [zM s])):=A;generalize B.setCells b (off+x*5+k*5) (zt [zM s])=w3 at *;clear L E;go_wp2_with (refine zF rfl _ _ _ rfl A rfl rfl ?_);go_roundw
   case rel=>exact⟨k+1,by omega,by go_num,F,H,by omega,M⟩
   case measure=>simp[intOf];omega
  ·have:k=m:=(by omega);subst this;go_wp2_with fail;go_end0;exact⟨rfl,U,R⟩
end
section
open Go.RowKit
def zf (L:List (Value × Rw)):List Value:=L.flatMap fun x=>[x.1,.bool x.2.wrap]
theorem zL (L:List (Value × Rw)):(zf L).length=L.length*2:=by
 induction L with
 | nil=>rfl
 | cons x L ih =>
  simp only[zf,List.flatMap_cons,List.length_append,List.length_cons,List.length_nil]at ih ⊢;omega
theorem zO (L M:List (Value × Rw)):zf (L++M)=zf L++zf M:=by simp[zf]
theorem Zm (l:List (Value × Rw)) (x:Nat):(zf l).take (x*2)=zf (l.take x):=by
 induction l generalizing x with
 | nil=>simp[zf]
 | cons c l ih =>
  cases x with
  | zero=>simp[zf]
  | succ x =>
   have e:zf (c::l)=[c.1,.bool c.2.wrap]++zf l:=rfl;have A:zf ((c::l).take (x+1))=[c.1,.bool c.2.wrap]++zf (l.take x):=rfl;rw[e,A,List.take_append,← ih x];rw[List.take_of_length_le (by simp;omega),show(x+1)*2-[c.1,Value.bool c.2.wrap].length=x*2 by simp;omega]
theorem ZA (l:List (Value × Rw)) (x:Nat):(zf l).drop (x*2)=zf (l.drop x):=by
 induction l generalizing x with
 | nil=>simp[zf]
 | cons c l ih =>
  cases x with
  | zero=>simp[zf]
  | succ x =>
   have e:zf (c::l)=[c.1,.bool c.2.wrap]++zf l:=rfl;rw[e,List.drop_append,show(c::l).drop (x+1)=l.drop x from rfl,← ih x];rw[List.drop_eq_nil_of_le (by simp;omega),show(x+1)*2-[c.1,Value.bool c.2.wrap].length=x*2 by simp;omega,List.nil_append]
theorem zbl (l:List (Value × Rw)) (x:Nat) (m:List (Value × Rw)):zf (Za l x m)=Za (zf l) (x*2) (zf m):=by
 unfold Za;rw[zO,zO,← Zm,← ZA,zL,Nat.add_mul]
theorem zb5 {α:Type} (A B:List α) (x y:α) (n:Nat) (hn:n=A.length):Za (A++x::B) n [y]=A++y::B:=by
 subst hn;unfold Za;simp
structure Zj (base:Nat) (w:World) (v:Value) (L:List (Value × Rw)):Prop where
 own:zp w base 2 v L.length (zf L)
 cells:∀ x∈L,zp w base 5 x.1 x.2.cells.length (zt x.2.cells)
 nd:(L.map (·.1.ownBlock)).Nodup
 ap:∀ x∈L,∃ q,x.1.ownBlock=some q∧v.ownBlock≠some q
theorem zeK {P:Program} {t e:TypeId} {size bytes:Nat} {z:Value} (EI:zdQ P t e size bytes z) (n:Nat) (hn:n≤100000) (hs:size≤100) (hb:bytes≤1000) (w:World) :
  ∃ w',(Instr.makeSlice t (.int .i64 (n:Int)) (.int .i64 (n:Int))).run P w=.ok (.slice (some ⟨w.heap.size,0,none⟩) n n) w' ∧
   zp w' w.heap.size size (.slice (some ⟨w.heap.size,0,none⟩) n n) n (madeCells z.cells (n*size)).toList∧Below w.heap.size w w'∧w.heap.size<w'.heap.size:=by
 obtain⟨J,I,N⟩:=EI;obtain⟨i,F,E⟩:=Option.map_eq_some_iff.1 I;simp only[Prod.mk.injEq]at E;obtain⟨H,B,G⟩:=E;have C:i.bytes*n≤281474976710656:=by
  have h:i.bytes*n≤1000*100000:=Nat.mul_le_mul (by omega) hn;omega
 have A:n*size≤16777216:=by
  have h:n*size≤100000*100:=Nat.mul_le_mul hn hs;omega
 obtain⟨w',L,D,M⟩:=run_makeSlice_full (P:=P) w w.heap.size t e i z size J F H B .i64 .i64 n A C (by unfold maxLen;omega) (Nat.le_refl _);refine⟨w',L,zaj D,Zn M (Nat.le_refl _) (fun q hq=>by simp at hq),?_⟩;have:=zg (zaj D) w.heap.size rfl;omega
theorem zab:zdQ prog 56 96 5 40 (.agg #[.int .i32 0,.int .i64 0,.int .i64 0,.int .i64 0,.int .i64 0]):=⟨underlying56,by kernel_rfl,rfl,by decide⟩
theorem zaH:zdQ prog 112 144 2 32 (.agg #[.slice none 0 0,.bool false]):=⟨underlying112,by kernel_rfl,rfl,by decide⟩
theorem zfE (n:Nat):(madeCells (Value.agg #[.int .i32 0,.int .i64 0,.int .i64 0,.int .i64 0,.int .i64 0]).cells (n*5)).toList=zt (List.replicate n noC):=by
 apply List.ext_getElem?;intro j;by_cases hj:j<n*5
 ·have e:j=(j / 5)*5+j % 5:=(by omega);have A:j % 5<5:=Nat.mod_lt _ (by decide);have B:(madeCells (Value.agg #[.int .i32 0,.int .i64 0,.int .i64 0,.int .i64 0,.int .i64 0]).cells (n*5)).toList[j]?=some ((#[.int .i32 0,.int .i64 0,.int .i64 0,.int .i64 0,.int .i64 0]:Array Value)[j % 5]!):=by
   unfold madeCells;rw[Array.getElem?_toList,Array.getElem?_map,Array.getElem?_eq_getElem (by simpa using hj),Array.getElem_range];rfl
  rw[B]
  conv=>rhs;rw[e]
  rw[zfC _ _ (by rw[List.length_replicate];omega) _ A,List.getD_eq_getElem?_getD,List.getElem?_replicate,if_pos (by omega)];have hc:j % 5=0∨j % 5=1∨j % 5=2∨j % 5=3∨j % 5=4:=(by omega);rcases hc with h | h | h | h | h <;> rw[h] <;> rfl
 ·rw[List.getElem?_eq_none (by rw[Array.length_toList,size_madeCells];omega),List.getElem?_eq_none (by rw[zbj,List.length_replicate];omega)]
theorem zdZ (l:List (Value × Rw)) (x:Nat) (h:x<l.length) (i:Nat) (hi:i<2):(zf l)[x*2+i]?=[(l[x]).1,.bool (l[x]).2.wrap][i]?:=by
 induction l generalizing x with
 | nil=>simp at h
 | cons c l ih =>
  have e:zf (c::l)=[c.1,.bool c.2.wrap]++zf l:=rfl;cases x with
  | zero=>rw[e,List.getElem?_append_left (by simp;omega)];simp
  | succ x =>
   rw[e,List.getElem?_append_right (by simp;omega),show(x+1)*2+i-[c.1,Value.bool c.2.wrap].length=x*2+i by simp;omega,ih x (by simpa using h)];rfl
theorem zkH (n:Nat):(madeCells (Value.agg #[.slice none 0 0,.bool false]).cells (n*2)).toList=zf (List.replicate n (.slice none 0 0,noR)):=by
 apply List.ext_getElem?;intro j;by_cases hj:j<n*2
 ·have e:j=(j / 2)*2+j % 2:=(by omega);have A:j % 2<2:=Nat.mod_lt _ (by decide);have B:(madeCells (Value.agg #[.slice none 0 0,.bool false]).cells (n*2)).toList[j]?=some ((#[.slice none 0 0,.bool false]:Array Value)[j % 2]!):=by
   unfold madeCells;rw[Array.getElem?_toList,Array.getElem?_map,Array.getElem?_eq_getElem (by simpa using hj),Array.getElem_range];rfl
  rw[B]
  conv=>rhs;rw[e]
  rw[zdZ _ _ (by rw[List.length_replicate];omega) _ A,List.getElem_replicate];have hc:j % 2=0∨j % 2=1:=(by omega);rcases hc with h | h <;> rw[h] <;> rfl
 ·rw[List.getElem?_eq_none (by rw[Array.length_toList,size_madeCells];omega),List.getElem?_eq_none (by rw[zL,List.length_replicate];omega)]
theorem zhL (cols:Nat) (s:Sty) (c:Cel):zat (List.replicate cols c) 0 cols s=List.replicate cols (zM s):=by
 unfold zat Za;simp
theorem zcF (n cols:Nat) (s:Sty) (w:World) (hn:n≤10000) (hc:cols≤1000) :
  Calls prog 89 #[.int .i64 n,.int .i64 cols,s.val] w fun e w'=>∃ v L,e=.returned v∧Below w.heap.size w w'∧L.map (·.2)=zW n cols s∧Zj w.heap.size w' v L:=by
 have Y:=zH w (.cells #[.int .i64 s.fg,.int .i64 s.bg,.int .i64 s.attr] 49);have L0:=(Below.refl w.heap.size w).alloc (Nat.le_refl _) (.cells #[.int .i64 s.fg,.int .i64 s.bg,.int .i64 s.attr] 49);obtain⟨w1,M0,H,b1,A0⟩:=zeK zaH n (by omega) (by omega) (by omega) (w.alloc (.cells #[.int .i64 s.fg,.int .i64 s.bg,.int .i64 s.attr] 49));rw[zkH]at H;have D:(w.alloc (.cells #[.int .i64 s.fg,.int .i64 s.bg,.int .i64 s.attr] 49)).heap.size=w.heap.size+1:=(by simp);rw[D]at M0 H A0;have O0:=Qh (zP H (show w.heap.size≤w.heap.size+1 by omega));have S0:=Qh (zr Y b1 (by rw[D];omega));have R0:=Qh (L0.trans (b1.mono (by rw[D];omega)));clear H b1 Y L0;go_enter func89,ntmps89;unfold Sty.val;go_wp2_with fail
 go_loopw [8,13] (fun _ iv wr=>∃ (k:Nat) (L:List (Value × Rw)),k≤n∧iv=.int .i64 k∧L.length=k∧Below w.heap.size w wr∧wr.heap[w.heap.size]?=some (.cells #[.int .i64 s.fg,.int .i64 s.bg,.int .i64 s.attr] 49 (0,0))∧w.heap.size+1<wr.heap.size ∧
  zp wr w.heap.size 2 (.slice (some ⟨w.heap.size+1,0,none⟩) n n) n (zf (L++List.replicate (n-k) (.slice none 0 0,noR))) ∧
  Hid ((∀ x∈L,x.2=⟨List.replicate cols (zM s),false⟩∧zp wr w.heap.size 5 x.1 cols (zt (List.replicate cols (zM s)))∧∃ q,x.1.ownBlock=some q∧w.heap.size+1<q)∧(L.map (·.1.ownBlock)).Nodup)) (fun _ iv _=>n-(intOf iv).toNat)
 case atStart =>
  exact⟨0,[],Nat.zero_le _,rfl,rfl,R0,S0,A0,O0,fun x hx=>by simp at hx,by simp⟩
 case round =>
  obtain⟨k,L,hk,rfl,hL,hb,J,L1,ho,G0⟩:=hrel;have HB:=Qh hb;have HO:=Qh ho;have B:=Qh G0;have HK:=Qh J;clear hb ho J G0;by_cases hlt:k<n
  ·obtain⟨C,D1,R,U,J1⟩:=zeK zab cols (by omega) (by omega) (by omega) wr;rw[zfE]at R;have T0:=Zw (P:=prog) (size:=2) underlying112 zC (w.heap.size+1) 0 n n k hlt;simp only[Nat.zero_add]at T0;have HO2:=zk HO U;have D0:zf (L++List.replicate (n-k) (.slice none 0 0,noR))=zf L++.slice none 0 0::(.bool false::zf (List.replicate (n-(k+1)) (.slice none 0 0,noR))):=by
    rw[zO,show n-k=(n-(k+1))+1 by omega,List.replicate_succ];rfl
   have O:C.cell? ⟨w.heap.size+1,k*2,none⟩=some (.slice none 0 0)∧C.frozen? ⟨w.heap.size+1,k*2,none⟩=false:=by
    rcases HO2.2 with ⟨e,_⟩ | ⟨b',M,c',e,_,_,hnc,_,hcells,hxs⟩
    ·simp at e
    ·simp only[Value.slice.injEq,Option.some.injEq,Addr.mk.injEq]at e;obtain⟨⟨rfl,rfl,_⟩,_,rfl⟩:=e;have a1:=hxs (k*2) _ (by rw[D0,List.getElem?_append_right (by rw[zL,hL];omega),zL,hL,Nat.sub_self];rfl);have a2:=(hcells (k*2) (by omega)).2;rw[Nat.zero_add]at a1 a2;exact⟨a1,a2⟩
   obtain⟨A1,N1⟩:=O;have HP:=zak HO2 (k*2) [.slice (some ⟨wr.heap.size,0,none⟩) cols cols] (by simp;omega);rw[D0,zb5 _ _ _ _ _ (by rw[zL,hL]),Nat.zero_add]at HP;change zp (C.setCell ⟨w.heap.size+1,k*2,none⟩ (.slice (some ⟨wr.heap.size,0,none⟩) cols cols)) _ _ _ _ _ at HP;have C1:(C.setCell ⟨w.heap.size+1,k*2,none⟩ (.slice (some ⟨wr.heap.size,0,none⟩) cols cols)).heap.size=C.heap.size:=(by simp);have Z:C.grownBy (C.setCell ⟨w.heap.size+1,k*2,none⟩ (.slice (some ⟨wr.heap.size,0,none⟩) cols cols)) (some (w.heap.size+1)):=zx (zo _ _) _ _;have M1:(C.setCell ⟨w.heap.size+1,k*2,none⟩ (.slice (some ⟨wr.heap.size,0,none⟩) cols cols)).cell? ⟨w.heap.size+1,k*2,none⟩=some (.slice (some ⟨wr.heap.size,0,none⟩) cols cols) :=
    World.cell?_setCell_same' C _ _ (by rw[A1];rfl)
   have Z0:=Qh HP;have U0:=Qh (zi R Z (by intro q hq e;simp[Value.ownBlock]at hq;injection e with e;omega));have F:=zl (zr HK U (by omega)) Z (by intro e;injection e with e;omega);have Y0:=Qh ((HB.trans (U.mono HB.size)).grown Z (by have:=HB.out.size;have:=U.size;omega) (by intro q hq;injection hq with hq;omega));have B0:=Qh (show(∀ x∈L,x.2=⟨List.replicate cols (zM s),false⟩∧zp (C.setCell ⟨w.heap.size+1,k*2,none⟩ (.slice (some ⟨wr.heap.size,0,none⟩) cols cols)) w.heap.size 5 x.1 cols (zt (List.replicate cols (zM s)))∧∃ q,x.1.ownBlock=some q∧w.heap.size+1<q∧q<wr.heap.size)∧(L.map (·.1.ownBlock)).Nodup from
    ⟨fun x hx=>by
     obtain⟨e1,T,q,E,e4⟩:=B.out.1 x hx;exact⟨e1,zi (zk T U) Z (by intro q' A e;rw[E]at A;injection A with A;injection e with e;omega),q,E,e4,(zg T q E).2⟩,B.2⟩)
   clear HP R HO2 Z;have E1:=U.size;go_upto_region 6 with fail;generalize H1:C.setCell ⟨w.heap.size+1,k*2,none⟩ (.slice (some ⟨wr.heap.size,0,none⟩) cols cols)=I at *;have c0:=za F 0;have c1:=za F 1;have c2:=za F 2;replace c0:I.cell? ⟨w.heap.size,0,none⟩=some (.int .i64 s.fg):=c0;replace c1:I.cell? ⟨w.heap.size,1,none⟩=some (.int .i64 s.bg):=c1;replace c2:I.cell? ⟨w.heap.size,2,none⟩=some (.int .i64 s.attr):=c2
   go_still_tail 6,(by kernel_rfl)
   change wpList _ _ _ _ _ I.drew;have C0:=zP (show zp I.drew wr.heap.size 5 (.slice (some ⟨wr.heap.size,0,none⟩) cols cols) cols (zt (List.replicate cols noC)) from U0.out) (Nat.zero_le _);have E0:=show zp I.drew w.heap.size 2 (.slice (some ⟨w.heap.size+1,0,none⟩) n n) n _ from Z0.out;have F0:=Zb F;have N:=Y0.out.drew;have G:=show(∀ x∈L,x.2=⟨List.replicate cols (zM s),false⟩∧zp I.drew w.heap.size 5 x.1 cols (zt (List.replicate cols (zM s)))∧∃ q,x.1.ownBlock=some q∧w.heap.size+1<q∧q<wr.heap.size)∧(L.map (·.1.ownBlock)).Nodup from B0.out;have I1:I.drew.heap.size=C.heap.size:=C1;generalize G1:I.drew=wd at *;have S:=Qh (zcE (List.replicate cols noC) s wr.heap.size 0 cols cols 0 cols cols wd C0 (by rw[List.length_replicate]) (by omega) (by unfold maxLen;omega));simp only[Nat.zero_mul,Nat.add_zero,zhL]at S;unfold Sty.val at S;go_wp2_with fail;refine S.mono ?_;rintro e w4 ⟨rfl,V,o4⟩;have H0:=Qh (zi E0 V (by intro q hq e;simp[Value.ownBlock]at hq;injection e with e;omega));have V0:=Qh (zl F0 V (by intro e;injection e with e;omega));have B1:=Qh (N.grown V (by have:=N.size;omega) (by intro q hq;injection hq with hq;omega));have F1:=V.size;have N0:∀ q,(Value.slice (some ⟨wr.heap.size,0,none⟩) cols cols).ownBlock=some q→wr.heap.size≤q:=fun q hq=>by
    simp[Value.ownBlock]at hq;omega
   have J0:zp w4 w.heap.size 5 (.slice (some ⟨wr.heap.size,0,none⟩) cols cols) cols (zt (List.replicate cols (zM s))):=by
    refine⟨o4.1,?_⟩;rcases o4.2 with h | ⟨b',M,c',e,h1,h2⟩
    ·exact .inl h
    ·refine .inr ⟨b',M,c',e,?_,h2⟩;have:=N0 b' (by rw[e];rfl);omega
   have X:=Qh (show(∀ x∈L++[((Value.slice (some ⟨wr.heap.size,0,none⟩) cols cols),(⟨List.replicate cols (zM s),false⟩:Rw))],x.2=⟨List.replicate cols (zM s),false⟩∧zp w4 w.heap.size 5 x.1 cols (zt (List.replicate cols (zM s)))∧∃ q,x.1.ownBlock=some q∧w.heap.size+1<q)∧((L++[((Value.slice (some ⟨wr.heap.size,0,none⟩) cols cols),(⟨List.replicate cols (zM s),false⟩:Rw))]).map (·.1.ownBlock)).Nodup from by
    refine⟨fun x hx=>?_,?_⟩
    ·rcases List.mem_append.1 hx with hx | hx
     ·obtain⟨e1,T,q,E,e4,e5⟩:=G.1 x hx;exact⟨e1,zi T V (by intro q' A e;rw[E]at A;injection A with A;injection e with e;omega),q,E,e4⟩
     ·rw[List.mem_singleton]at hx;subst hx;exact⟨rfl,J0,wr.heap.size,rfl,by omega⟩
    ·rw[List.map_append,List.nodup_append];refine⟨G.2,by simp,fun a ha b hb=>?_⟩;obtain⟨x,hx,rfl⟩:=List.mem_map.1 ha;obtain⟨_,_,q,E,_,e5⟩:=G.1 x hx;simp only[List.map_cons,List.map_nil,List.mem_singleton]at hb;subst hb;rw[E];intro e;simp[Value.ownBlock]at e;omega)
   clear V o4 J0 G E0 F0 N C0;have I0:zf L++Value.slice (some ⟨wr.heap.size,0,none⟩) cols cols::(.bool false::zf (List.replicate (n-(k+1)) (.slice none 0 0,noR)))=zf ((L++[((Value.slice (some ⟨wr.heap.size,0,none⟩) cols cols),(⟨List.replicate cols (zM s),false⟩:Rw))])++List.replicate (n-(k+1)) (.slice none 0 0,noR)):=by
    rw[zO,zO];simp[zf]
   rw[I0]at H0;go_wp2_with fail;go_roundw
   case rel=>exact⟨k+1,_,by omega,by go_num,by rw[List.length_append,hL];rfl,B1,V0,by omega,H0,X⟩
   case measure=>simp[intOf];omega
  ·have X0:k=n:=(by omega);subst X0;go_wp2_with fail;rw[Nat.sub_self,List.replicate_zero,List.append_nil]at HO;refine Ze rfl rfl rfl ⟨_,L,rfl,HB,?_,?_⟩
   ·apply List.ext_getElem?;intro j;unfold zW;rw[List.getElem?_map,List.getElem?_replicate];by_cases hj:j<L.length
    ·rw[List.getElem?_eq_getElem hj,if_pos (by omega),Option.map_some,(B.out.1 _ (List.getElem_mem hj)).1]
    ·rw[List.getElem?_eq_none (by omega),if_neg (by omega)];rfl
   ·refine⟨by rw[hL];exact HO,fun x hx=>?_,B.2,fun x hx=>?_⟩
    ·obtain⟨e1,T,_⟩:=B.out.1 x hx;rw[e1];simp only[List.length_replicate];exact T
    ·obtain⟨_,_,q,E,e4⟩:=B.out.1 x hx;refine⟨q,E,fun e=>?_⟩;simp[Value.ownBlock]at e;omega
end
end Go.Proofs.YthehkmopdeebmaaGreatDoor
