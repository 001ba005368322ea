/- Part. -/
import Derived.Test.YthehkmopdeebmaaGreatDoorY1
import Derived.Test.YthehkmopdeebmaaGreatDoorY2
set_option linter.unusedVariables false
set_option linter.unusedSimpArgs false
set_option maxHeartbeats 1000000
namespace Go.Proofs.YthehkmopdeebmaaGreatDoor
open _root_.Go.Proofs.Tryz
section
open Go.RowKit
def blankR (cols:Nat) (s:Sty):Rw:=⟨List.replicate cols (zM s),false⟩
theorem zjQ {rows:List Rw} {t b n c:Nat} {s:Sty} (h1:t≤b) (h2:b<rows.length) (h3:n≤b+1-t):(zbd rows t b n c s).length=rows.length:=by
 unfold zbd zW;simp only[List.length_append,List.length_take,List.length_drop,List.length_replicate];omega
theorem zge {rows:List Rw} {t b n c:Nat} {s:Sty} (h1:t≤b) (h2:b<rows.length) (h3:n≤b+1-t):(Z7 rows t b n c s).length=rows.length:=by
 unfold Z7 zW;simp only[List.length_append,List.length_take,List.length_drop,List.length_replicate];omega
end
section
open Go.RowKit
def inR (r:Int) (l:List (Int × Int)):Bool:=l.any fun x=>decide (x.1≤r) && decide (r≤x.2)
theorem zm2 (r:Int) (l:List (Int × Int)) (k:Nat) (h:k<l.length) :
  inR r (l.take (k+1))=(inR r (l.take k) || (decide ((l.getD k (0,0)).1≤r) && decide (r≤(l.getD k (0,0)).2))):=by
 rw[ZJ l (0,0) k h];simp[inR,List.any_append]
theorem zoc (r:Int) (l:List (Int × Int)) (k:Nat) (h:k<l.length) (h1:(l.getD k (0,0)).1≤r) (h2:r≤(l.getD k (0,0)).2):inR r l=true:=by
 rw[inR,List.any_eq_true];refine⟨l.getD k (0,0),?_,by rw[Qt h1,Qt h2];rfl⟩;rw[List.getD_eq_getElem?_getD,List.getElem?_eq_getElem h];exact List.getElem_mem h
theorem zeb (r:Int) (b n:Nat) (l:List (Int × Int)) (w:World) (hn:n≤100) (hl:l.length=n)
  (hc:∀ i,i<n→w.cell? ⟨b,i*2,none⟩=some (.int .i32 (l.getD i (0,0)).1)∧w.cell? ⟨b,i*2+1,none⟩=some (.int .i32 (l.getD i (0,0)).2)) :
  Calls prog 124 #[.int .i32 r,.slice (some ⟨b,0,none⟩) n n] w fun e w'=>e=.returned (.bool (inR r l))∧Below w.heap.size w w':=by
 have G:=Qh hl;have N:=Qh hc;clear hl hc;go_enter func124,ntmps124
 go_wp2
 go_loopw [9] (fun i wr=>∃ k:Nat,k≤n∧i=.int .i64 k∧Below w.heap.size w wr∧inR r (l.take k)=false) (fun i _=>n-(intOf i).toNat)
 case atStart=>exact⟨0,by omega,rfl,Below.refl _ _,rfl⟩
 case round =>
  obtain⟨k,O,rfl,M,D⟩:=hrel;have A:=Qh M;have B:=Qh D;clear M D;by_cases hlt:k<n
  ·obtain⟨F,E⟩:=N.out k hlt;generalize L:(l.getD k (0,0)).1=x at F;generalize H:(l.getD k (0,0)).2=y at E;have J:=Qh L;have I:=Qh H;clear L H;rw[← A.out.cell (p:=⟨b,k*2,none⟩) (World.block_lt_of_cell? w _ F)]at F;rw[← A.out.cell (p:=⟨b,k*2+1,none⟩) (World.block_lt_of_cell? w _ E)]at E;have C:k<l.length:=by rw[G.out];exact hlt
   go_wp2
   ·go_ret;exact⟨ZQ (zoc r l k C (by rw[J.out];assumption) (by rw[I.out];assumption)).symm,A.alloc A.size _⟩
   all_goals
    refine⟨⟨k+1,by omega,by go_num,A.alloc A.size _,?_⟩,by simp[intOf];omega⟩;rw[zm2 r l k C,B.out,J.out,I.out];simp;omega
  ·go_wp2
   go_ret;refine⟨ZQ ?_,A⟩;have:=B.out;rw[List.take_of_length_le (by have:=G.out;omega)]at this;exact this.symm
def zgV:List (Int × Int)→List Value
 | []=>[]
 | x::l=>.int .i32 x.1::.int .i32 x.2::zgV l
theorem zgW:∀ (l:List (Int × Int)) (i:Nat),i<l.length→(zgV l)[i*2]?=some (.int .i32 (l.getD i (0,0)).1)∧(zgV l)[i*2+1]?=some (.int .i32 (l.getD i (0,0)).2)
 | x::l,0,_=>by simp[zgV]
 | x::l,i+1,h=>by
  have:=zgW l i (by simpa using h);rw[show(i+1)*2=(i*2)+1+1 from by omega];simpa [zgV] using this
theorem zec (w:World) (T n:Nat) (l:List (Int × Int)) (A:Array Value) (hA:A=(zgV l).toArray) (hn:n=l.length):∀ i,i<n →
  (w.alloc (.cells A T)).cell? ⟨w.heap.size,i*2,none⟩=some (.int .i32 (l.getD i (0,0)).1)∧(w.alloc (.cells A T)).cell? ⟨w.heap.size,i*2+1,none⟩=some (.int .i32 (l.getD i (0,0)).2):=by
 intro i B;subst hA hn;have:=zgW l i B;rw[World.cell?_alloc_new,World.cell?_alloc_new];simpa using this
def ctl:List (Int × Int):=[(127,159)]
def zpn:List (Int × Int):=[(768,879),(8203,8207),(65024,65039)]
def zpo:List (Int × Int):=[(4352,4447),(11904,12350),(12353,19903),(19968,42191),(44032,55203),(63744,64255),(65072,65135),(65280,65376),(65504,65510),(127744,128591),(129280,129535),(131072,262141)]
def wid (r:Int):Int:=if r<32∨1114111<r∨inR r ctl=true then -1 else if inR r zpn=true then 0 else if inR r zpo=true then 2 else 1
theorem zb7 (r:Int) (w:World) :
  Calls prog 76 #[.int .i32 r] w fun e w'=>e=.returned (.int .i64 (wid r))∧Below w.heap.size w w':=by
 by_cases h1:r<32
 ·go_enter func76,ntmps76
  go_wp2
  go_ret;exact⟨zah (by simp[wid,h1]),Below.refl _ _⟩
 by_cases h2:1114111<r
 ·go_enter func76,ntmps76
  go_wp2
  go_ret;exact⟨zah (by simp[wid,h2]),Below.refl _ _⟩
 go_enter func76,ntmps76;go_wp2_with fail;refine(zeb r _ _ ctl _ (by decide) rfl (zec _ _ _ _ _ rfl rfl)).mono ?_;rintro e F ⟨rfl,A⟩;have C:=Qh (((Below.refl w.heap.size w).alloc (Nat.le_refl _) _).trans (A.mono (by simp)));clear A;go_wp2_with fail
 ·go_ret;exact⟨zah (by simp[wid, *]),C⟩
 refine(zeb r _ _ zpn _ (by decide) rfl (zec _ _ _ _ _ rfl rfl)).mono ?_;rintro e E ⟨rfl,A⟩;have B:=Qh ((C.alloc C.size _).trans (A.mono (by have:=C.out.size;simp;omega)));clear A;go_wp2_with fail
 ·go_ret;exact⟨zah (by simp[wid, *]),B⟩
 refine(zeb r _ _ zpo _ (by decide) rfl (zec _ _ _ _ _ rfl rfl)).mono ?_;rintro e G ⟨rfl,A⟩;have D:=Qh ((B.alloc B.size _).trans (A.mono (by have:=B.out.size;simp;omega)));clear A;go_wp2_with fail
 all_goals
  go_ret;exact⟨zah (by simp[wid, *]),D⟩
def zpp (r:Int):Int:=max (wid r) 0
end
section
open Go.RowKit
theorem zbN {P:Program} {t e:TypeId} {size:Nat} (ht:P.underlying t=some (.slice e)) (hs:(P.info? e).map (·.size)=some size) {w:World} {base b off n c:Nat} {xs:List Value} (h:zp w base size (.slice (some ⟨b,off,none⟩) n c) n xs)
  (x m c1:Nat) (d:Addr) (hd:0<m→d=⟨b,off+x*size,none⟩) (hx:x+m≤n) {y:Value} {k:Nat} {ys:List Value} (hr:zaB w size y k ys) (h1:∀ u∈ys,u.oneCell'=true) (ty:TypeId) :
  (Builtin.copy_ #[t,t] ty #[.slice (some d) m c1,y]).run P w=.ok (goInt (Nat.min k m)) (w.setCells b (off+x*size) (ys.take (Nat.min k m*size))):=by
 obtain⟨i,G,E⟩:=Option.map_eq_some_iff.1 hs;obtain⟨J,h2⟩:=h;rcases h2 with ⟨e,_⟩ | ⟨M,H,N,e,hb,hbs,hnc,hcm,hcells,hxs⟩
 ·simp at e
 simp only[Value.slice.injEq,Option.some.injEq,Addr.mk.injEq]at e;obtain⟨⟨rfl,rfl,_⟩,_,rfl⟩:=e;have A:(storeCells d (ys.take (Nat.min k m*size))).run P w=.ok () (w.setCells b (off+x*size) (ys.take (Nat.min k m*size))):=by
  rcases Nat.eq_zero_or_pos m with h0 | h0
  ·have:ys.take (Nat.min k m*size)=[]:=(by rw[h0,show Nat.min k 0=0 from Nat.min_zero k,Nat.zero_mul];simp);rw[this];rfl
  ·rw[hd h0];have F:(ys.take (Nat.min k m*size)).length≤m*size:=by
    rw[List.length_take];exact Nat.le_trans (Nat.min_le_left _ _) (Nat.mul_le_mul_right _ (Nat.min_le_right k m))
   have C:∀ j,j<(ys.take (Nat.min k m*size)).length→x*size+j<c*size:=fun j hj=>by
    have L:x*size+m*size≤c*size:=(by rw[← Nat.add_mul];exact Nat.mul_le_mul_right _ (by omega));omega
   have:=run_storeCells_cells (P:=P) b (off+x*size) (ys.take (Nat.min k m*size)) 0 w (fun j hj=>by
     have:=(hcells _ (C j hj)).1
     rwa [← Nat.add_assoc]at this) (fun j hj=>by
     have:=(hcells _ (C j hj)).2
     rwa [← Nat.add_assoc]at this) (fun v hv=>h1 v (List.mem_of_mem_take hv))
   rwa [Nat.add_zero]at this
 rcases hr with ⟨rfl,rfl,rfl⟩ | ⟨a,c2,rfl,hl,hc⟩
 ·have I:Nat.min 0 m=0:=Nat.zero_min m;rw[I]at A ⊢;simp only[List.take_nil]at A ⊢;simp[Builtin.copy_,run_underlying ht,Builtin.lenOf,Builtin.firstCells,sizeOf,typeInfo,G,storeCells,World.setCells]
 ·have D:(ys.take (Nat.min k m*size)).length=Nat.min k m*size:=by
   rw[List.length_take,hl];exact Nat.min_eq_left (Nat.mul_le_mul_right _ (Nat.min_le_left k m))
  have B:=run_loadCells_list (P:=P) w a (ys.take (Nat.min k m*size)) (fun j v hv=>by
   rw[List.getElem?_take]at hv;split at hv
   ·exact hc j v hv
   ·simp at hv)
  rw[D]at B;simp[Builtin.copy_,run_underlying ht,Builtin.lenOf,Builtin.firstCells,sizeOf,typeInfo,G,E,B,A]
theorem zaz {w:World} {base size b off n c:Nat} {xs:List Value} (h:zp w base size (.slice (some ⟨b,off,none⟩) n c) n xs) (x:Nat) (vs:List Value) (hx:x*size+vs.length≤n*size) :
  zp (w.setCells b (off+x*size) vs) base size (.slice (some ⟨b,off,none⟩) n c) n (Za xs (x*size) vs):=zak h (x*size) vs hx
theorem zeY {P:Program} {t e:TypeId} {size:Nat} (ht:P.underlying t=some (.slice e)) (hs:(P.info? e).map (·.size)=some size) (b off n c x y:Nat) (h1:x≤y) (h2:y≤c) :
  ∃ a:Addr,(∀ wx,(Instr.slice t (.slice (some ⟨b,off,none⟩) n c) (some (.int .i64 (x:Int))) (some (.int .i64 (y:Int))) none).run P wx=.ok (.slice (some a) (y-x) (c-x)) wx)∧(x<y→a=⟨b,off+x*size,none⟩):=by
 by_cases hx:x<c
 ·exact⟨_,zca ht hs b off n c x y h1 h2 hx,fun _=>rfl⟩
 ·have B:x=c:=(by omega);have A:y=c:=(by omega);subst B A;refine⟨⟨b,off,none⟩,fun wx=>?_,fun h=>by omega⟩;have C:P.elem t=e:=(by simp[Program.elem,ht]);rw[run_slice_lh wx t _ _ y (zcV ht) .i64 .i64 _ _ (by omega) (by omega) (by omega),C,zbx hs,Int.toNat_natCast];show Result.ok (sliced _ y y y size) wx=_;unfold sliced;rw[if_pos rfl]
theorem zgf {P:Program} {t e:TypeId} {size:Nat} (ht:P.underlying t=some (.slice e)) (hs:(P.info? e).map (·.size)=some size) (b off n c x:Nat) (h1:x≤n) (h2:n≤c) :
  ∃ a:Addr,(∀ wx,(Instr.slice t (.slice (some ⟨b,off,none⟩) n c) (some (.int .i64 (x:Int))) none none).run P wx=.ok (.slice (some a) (n-x) (c-x)) wx)∧(x<n→a=⟨b,off+x*size,none⟩):=by
 by_cases hx:x<c
 ·exact⟨_,zcW ht hs b off n c x h1 hx,fun _=>rfl⟩
 ·have B:x=c:=(by omega);have A:n=c:=(by omega);subst B A;refine⟨⟨b,off,none⟩,fun wx=>?_,fun h=>by omega⟩;have C:P.elem t=e:=(by simp[Program.elem,ht]);rw[run_slice_l wx t _ _ n (zcV ht) .i64 _ (by omega) (by omega),C,zbx hs,Int.toNat_natCast];show Result.ok (sliced _ n n n size) wx=_;unfold sliced;rw[if_pos rfl]
theorem zcR {w:World} {base size b off n c:Nat} {xs:List Value} (h:zp w base size (.slice (some ⟨b,off,none⟩) n c) n xs) (x y c1:Nat) (a:Addr) (ha:x<y→a=⟨b,off+x*size,none⟩) (h1:x≤y) (h2:y≤n) :
  zaB w size (.slice (some a) (y-x) c1) (y-x) ((xs.drop (x*size)).take ((y-x)*size)):=by
 obtain⟨F,A⟩:=h;rcases A with ⟨e,_⟩ | ⟨H,C,G,e,hb,hbs,hnc,hcm,hcells,hxs⟩
 ·simp at e
 simp only[Value.slice.injEq,Option.some.injEq,Addr.mk.injEq]at e;obtain⟨⟨rfl,rfl,_⟩,_,rfl⟩:=e;have E:x*size+(y-x)*size≤xs.length:=by
  rw[F,← Nat.add_mul];exact Nat.mul_le_mul_right _ (by omega)
 refine .inr ⟨a,c1,rfl,by rw[List.length_take,List.length_drop];omega,fun j u hu=>?_⟩;rw[List.getElem?_take]at hu;split at hu
 ·rename_i hj;have B:x<y:=by
   rcases Nat.lt_or_ge x y with D | D
   ·exact D
   ·rw[show y-x=0 by omega,Nat.zero_mul]at hj;omega
  rw[ha B,zbb];rw[List.getElem?_drop]at hu;have:=hxs _ u hu
  rwa [← Nat.add_assoc]at this
 ·simp at hu
theorem zcu (L:List (Value × Rw)) (h:∀ x∈L,∃ a n c,x.1=Value.slice a n c):∀ u∈zf L,u.oneCell'=true:=by
 intro u hu;obtain⟨x,A,hu⟩:=List.mem_flatMap.1 hu;obtain⟨a,n,c,e⟩:=h x A;rw[e]at hu;simp only[List.mem_cons,List.not_mem_nil,or_false]at hu;rcases hu with rfl | rfl <;> rfl
end
section
open Go
section
variable {P:Program} {ops:Array Oper} {Q:Exit→Act→World→Prop} {md:Region.Mode} {c:Nat} {S:Bool→World→Prop}
def upC (c:Nat) (listed:Array Bool):Bool:=listed.getD c false
def wpL (P:Program) (md:Region.Mode) (ops:Array Oper) (Q:Exit→Act→World→Prop) (c:Nat) (S:Bool→World→Prop):Nat→Array Bool→Act→World→Prop
 | 0,listed,a,w=>Region.ready md ops listed=[]∧Q .normal a w
 | n+1,listed,a,w=>(Region.ready md ops listed=[]→Q .normal a w) ∧
  (∀ i∈Region.ready md ops listed,wpOp P ops Q i (fun a2 w2=>S (upC c (listed.setIfInBounds i true)) w2∧wpL P md ops Q c S n (listed.setIfInBounds i true) a2 w2) a w)
theorem zkr:∀ (n:Nat) (listed:Array Bool) (a:Act) (w:World),wpL P md ops Q c S n listed a w→wpAny P md ops Q n listed a w
 | 0,_,_,_,h=>h
 | n+1,_,_,_,h=>⟨h.1,fun i hi=>wpOp_mono (fun a2 w2 h2=>zkr n _ a2 w2 h2.2) (h.2 i hi)⟩
theorem zJ {id:Nat} {a:Act} {w:World} (hm:P.follows .mixedOrders=true) (hS:S false w.drew) (h:RowKit.Hid (S false w.drew)→wpL P .any ops Q c S ops.size (Array.replicate ops.size false) a w.drew):(Code.region id ops true).wp P Q a w :=
 wp_region_any hm (zkr _ _ _ _ (h hS))
theorem zD {listed:Array Bool} {a:Act} {w:World} (hr:Region.ready md ops listed=[]) (h:Q .normal a w):∀ n,wpL P md ops Q c S n listed a w
 | 0=>⟨hr,h⟩
 | _+1=>⟨fun _=>h,by rw[hr];simp⟩
theorem zgX {i:Nat} {oi:Oper} {v:Value} {dep:Bool} (hi:ops[i]?=some oi) (hsel:∀ (j:Nat) (o:Oper) cs b,ops[j]?=some o→o.op≠.select cs b)
  (hQ:∀ k a w,Q (.panic k) (a.put oi.dst v) w→Q (.panic k) a w) (hic:i≠c)
  (hdep:dep=true→∃ oc,ops[c]?=some oc∧∃ e∈oc.after,Region.binds md e=true∧e.on=i) :
  ∀ (n:Nat) (listed:Array Bool) (a:Act) (w:World),
   (∀ j oj,ops[j]?=some oj→j≠i→listed.getD j true=false→(∀ e∈oj.after,Region.binds md e=true→e.on≠i)→oi.apart ops oj=true) →
   i∈Region.ready md ops listed→(dep=true→upC c listed=false)→YieldsIf P ops (fun w=>∃ b,S b w∧(dep=true→b=false)) oi v a→S (upC c listed) w →
   wpL P md ops Q c S n (listed.setIfInBounds i true) (a.put oi.dst v) w→wpL P md ops Q c S (n+1) listed a w:=by
 have B:∀ listed:Array Bool,upC c (listed.setIfInBounds i true)=upC c listed:=fun listed=>getD_set_ne false hic;intro n
 induction n with
 | zero =>
  intro listed a w _ hr N O J H;refine⟨fun h=>(by rw[h]at hr;cases hr),fun j hj=>?_⟩;by_cases hji:j=i
  ·subst hji;exact O.wpOp hi ⟨_,J,N⟩ ⟨by rw[B];exact J,H⟩
  ·have:=ready_mono hj hji;rw[H.1]at this;cases this
 | succ n ih =>
  intro listed a w A hr N O J H;refine⟨fun h=>(by rw[h]at hr;cases hr),fun j hj=>?_⟩;by_cases hji:j=i
  ·subst hji;exact O.wpOp hi ⟨_,J,N⟩ ⟨by rw[B];exact J,H⟩
  ·have h1:=H.2 j (ready_mono hj hji);obtain⟨F,oj,D,L⟩:=mem_ready.1 hj;have E:∀ e∈oj.after,Region.binds md e=true→e.on≠i:=fun e he hb heq=>by
    have h1:=L e he hb;have T:=(mem_ready.1 hr).1;rw[heq]at h1;rcases Nat.lt_or_ge i listed.size with h2 | h2
    ·simp[h2]at T h1;rw[T]at h1;cases h1
    ·simp[Array.getElem?_eq_none h2]at h1
   have h2:=wpOp_putIf D (A j oj D hji F E) (fun cs b=>hsel i oi cs b hi) (fun cs b=>hsel j oj cs b D) hQ O h1;have C:∀ k ok,ops[k]?=some ok→k≠i→(listed.setIfInBounds j true).getD k true=false →
     (∀ e∈ok.after,Region.binds md e=true→e.on≠i)→oi.apart ops ok=true:=fun k ok hk hki hun hno=>by
    refine A k ok hk hki ?_ hno;by_cases hjk:j=k
    ·subst hjk;exact F
    ·rw[getD_set_ne true hjk]at hun;exact hun
   have R:dep=true→upC c (listed.setIfInBounds j true)=false:=fun e=>by
    have I:j≠c:=fun I=>by
     subst I;obtain⟨oc,G,U,V,X,Y⟩:=hdep e;rw[D]at G;injection G with G;subst G;exact E U V X Y
    unfold upC;rw[getD_set_ne false I];exact N e
   refine wpOp_mono (fun a2 w2 G=>?_) h2;have M:S (upC c (listed.setIfInBounds j true)) w2:=by
    have:=G.2.1;rw[Array.setIfInBounds_comm _ _ (Ne.symm hji),B]at this;exact this
   refine⟨M,ih (listed.setIfInBounds j true) a2 w2 C (ready_mono hr (Ne.symm hji)) R G.1 M ?_⟩;rw[Array.setIfInBounds_comm _ _ hji];exact G.2.2
theorem ziz {i:Nat} {oi:Oper} {v:Value} {n:Nat} {listed:Array Bool} {a:Act} {w:World} {b:Bool} (hi:ops[i]?=some oi)
  (hs:Region.noSelect ops=true) (hf:Region.free md ops listed i=true) (hr:(Region.ready md ops listed).contains i=true) (hic:(i == c)=false)
  (hQ:∀ k a w,Q (.panic k) (a.put oi.dst v) w→Q (.panic k) a w) (hb:upC c listed=b) (hS:S b w) (hy:YieldsIf P ops (fun w=>∃ b,S b w) oi v a)
  (h:wpL P md ops Q c S n (listed.setIfInBounds i true) (a.put oi.dst v) w):wpL P md ops Q c S (n+1) listed a w :=
 zgX (dep:=false) hi (Region.noSelect_spec hs) hQ (by simpa using hic) (fun e=>by cases e) n listed a w (Region.free_spec hi hf) (by simpa using hr) (fun e=>by cases e)
  (hy.imp (fun ⟨hw,hv⟩=>⟨hw,fun w ⟨b,hb,_⟩=>hv w ⟨b,hb⟩⟩) id) (by rw[hb];exact hS) h
theorem zlO {i:Nat} {oi oc:Oper} {v:Value} {n:Nat} {listed:Array Bool} {a:Act} {w:World} (hi:ops[i]?=some oi) (hc:ops[c]?=some oc)
  (hd:(oc.after.any fun e=>Region.binds md e && e.on == i)=true)
  (hs:Region.noSelect ops=true) (hf:Region.free md ops listed i=true) (hr:(Region.ready md ops listed).contains i=true) (hic:(i == c)=false)
  (hQ:∀ k a w,Q (.panic k) (a.put oi.dst v) w→Q (.panic k) a w) (hb:upC c listed=false) (hS:S false w) (hy:YieldsIf P ops (S false) oi v a)
  (h:wpL P md ops Q c S n (listed.setIfInBounds i true) (a.put oi.dst v) w):wpL P md ops Q c S (n+1) listed a w :=
 zgX (dep:=true) hi (Region.noSelect_spec hs) hQ (by simpa using hic) (fun _=>by
   rw[Array.any_eq_true']at hd;obtain⟨e,he,h2⟩:=hd;rw[Bool.and_eq_true]at h2;exact⟨oc,hc,e,he,h2.1,by simpa using h2.2⟩) n listed a w (Region.free_spec hi hf) (by simpa using hr) (fun _=>hb)
  (hy.imp (fun ⟨hw,hv⟩=>⟨hw,fun w ⟨b,h1,h2⟩=>hv w (by have:=h2 rfl;subst this;exact h1)⟩) id) (by rw[hb];exact hS) h
theorem zod {i:Nat} {o:Oper} {n:Nat} {listed:Array Bool} {a:Act} {w:World} {b:Bool} (hr:Region.ready md ops listed=[i]) (ho:ops[i]?=some o) (hb:upC c (listed.setIfInBounds i true)=b)
  (h:∀ K:Act→World→Prop,Shut (∀ a w,S b w→(RowKit.Hid (S b w)→wpL P md ops Q c S n (listed.setIfInBounds i true) a w)→K a w)→if Region.wanted o (yielded ops a.tmps)=true then Oper.wp P o a w K Q else K (a.put o.dst undef) w) :
  wpL P md ops Q c S (n+1) listed a w :=
 ⟨fun h0=>(by rw[hr]at h0;cases h0),fun j hj=>by
  rw[hr,List.mem_singleton]at hj;subst hj;refine wpOp_step ho (fun K hK=>h K (fun a w hS hW=>hK a w ⟨?_,hW hS⟩));rw[hb];exact hS⟩
theorem zoe {i j:Nat} {oi oj:Oper} {n:Nat} {listed:Array Bool} {a:Act} {w:World} {b1 b2:Bool} (hr:Region.ready md ops listed=[i,j]) (hi:ops[i]?=some oi) (hj:ops[j]?=some oj)
  (hb1:upC c (listed.setIfInBounds i true)=b1) (hb2:upC c (listed.setIfInBounds j true)=b2)
  (h1:∀ K:Act→World→Prop,Shut (∀ a w,S b1 w→(RowKit.Hid (S b1 w)→wpL P md ops Q c S n (listed.setIfInBounds i true) a w)→K a w)→if Region.wanted oi (yielded ops a.tmps)=true then Oper.wp P oi a w K Q else K (a.put oi.dst undef) w)
  (h2:∀ K:Act→World→Prop,Shut (∀ a w,S b2 w→(RowKit.Hid (S b2 w)→wpL P md ops Q c S n (listed.setIfInBounds j true) a w)→K a w)→if Region.wanted oj (yielded ops a.tmps)=true then Oper.wp P oj a w K Q else K (a.put oj.dst undef) w) :
  wpL P md ops Q c S (n+1) listed a w :=
 ⟨fun h0=>(by rw[hr]at h0;cases h0),fun k hk=>by
  rw[hr,List.mem_cons,List.mem_singleton]at hk;rcases hk with rfl | rfl
  ·refine wpOp_step hi (fun K hK=>h1 K (fun a w hS hW=>hK a w ⟨?_,hW hS⟩));rw[hb1];exact hS
  ·refine wpOp_step hj (fun K hK=>h2 K (fun a w hS hW=>hK a w ⟨?_,hW hS⟩));rw[hb2];exact hS⟩
theorem zb (b:Bool) (i:Nat) {oi:Oper} {v:Value} {n:Nat} {listed l':Array Bool} {a a':Act} {w:World} (hS:S b w) (h:wpL P md ops Q c S n l' a' w)
  (hi:ops[i]?=some oi:=by (simp only[List.getElem?_toArray,List.getElem?_cons_succ,List.getElem?_cons_zero];rfl))
  (hs:Region.noSelect ops=true:=by kernel_rfl) (hf:Region.free md ops listed i=true:=by kernel_rfl) (hr:(Region.ready md ops listed).contains i=true:=by kernel_rfl)
  (hic:(i == c)=false:=by rfl) (hb:upC c listed=b:=by rfl) (hw:Region.wanted oi (yielded ops a.tmps)=true:=by rfl)
  (hy:∀ B,(∃ b,S b B)→(execOp a.eval oi).run P B=.ok (.value v) B:=by (intro B A;obtain⟨D,A,C⟩:=A;clear C;go_simp;(try (with_reducible rfl))))
  (hQ:∀ k a w,Q (.panic k) (a.put oi.dst v) w→Q (.panic k) a w:=by exact fun _ _ _ h=>h)
  (ha:a.put oi.dst v=a':=by ((try simp only[Act.put,List.setIfInBounds_toArray,List.set_cons_zero,List.set_cons_succ]) <;> rfl))
  (hl:listed.setIfInBounds i true=l':=by ((try simp only[List.setIfInBounds_toArray,List.set_cons_zero,List.set_cons_succ]) <;> rfl)) :
  wpL P md ops Q c S (n+1) listed a w:=by
 subst ha hl;exact ziz hi hs hf hr hic hQ hb hS (Or.inl ⟨hw,hy⟩) h
theorem zaL (b:Bool) (i:Nat) {oi:Oper} {n:Nat} {listed l':Array Bool} {a a':Act} {w:World} (hS:S b w) (h:wpL P md ops Q c S n l' a' w)
  (hi:ops[i]?=some oi:=by (simp only[List.getElem?_toArray,List.getElem?_cons_succ,List.getElem?_cons_zero];rfl))
  (hs:Region.noSelect ops=true:=by kernel_rfl) (hf:Region.free md ops listed i=true:=by kernel_rfl) (hr:(Region.ready md ops listed).contains i=true:=by kernel_rfl)
  (hic:(i == c)=false:=by rfl) (hb:upC c listed=b:=by rfl) (hw:Region.wanted oi (yielded ops a.tmps)=false:=by rfl)
  (hQ:∀ k a w,Q (.panic k) (a.put oi.dst undef) w→Q (.panic k) a w:=by exact fun _ _ _ h=>h)
  (ha:a.put oi.dst undef=a':=by ((try simp only[Act.put,List.setIfInBounds_toArray,List.set_cons_zero,List.set_cons_succ]) <;> rfl))
  (hl:listed.setIfInBounds i true=l':=by ((try simp only[List.setIfInBounds_toArray,List.set_cons_zero,List.set_cons_succ]) <;> rfl)) :
  wpL P md ops Q c S (n+1) listed a w:=by
 subst ha hl;exact ziz hi hs hf hr hic hQ hb hS (Or.inr ⟨hw,rfl⟩) h
theorem Zh (i:Nat) {oi oc:Oper} {v:Value} {n:Nat} {listed l':Array Bool} {a a':Act} {w:World} (hS:S false w) (h:wpL P md ops Q c S n l' a' w)
  (hi:ops[i]?=some oi:=by (simp only[List.getElem?_toArray,List.getElem?_cons_succ,List.getElem?_cons_zero];rfl))
  (hc:ops[c]?=some oc:=by (simp only[List.getElem?_toArray,List.getElem?_cons_succ,List.getElem?_cons_zero];rfl))
  (hd:(oc.after.any fun e=>Region.binds md e && e.on == i)=true:=by kernel_rfl)
  (hs:Region.noSelect ops=true:=by kernel_rfl) (hf:Region.free md ops listed i=true:=by kernel_rfl) (hr:(Region.ready md ops listed).contains i=true:=by kernel_rfl)
  (hic:(i == c)=false:=by rfl) (hb:upC c listed=false:=by rfl) (hw:Region.wanted oi (yielded ops a.tmps)=true:=by rfl)
  (hy:∀ C,S false C→(execOp a.eval oi).run P C=.ok (.value v) C:=by (intro C B;obtain⟨B,A⟩:=B;have A:=A rfl;go_simp;(try (with_reducible rfl))))
  (hQ:∀ k a w,Q (.panic k) (a.put oi.dst v) w→Q (.panic k) a w:=by exact fun _ _ _ h=>h)
  (ha:a.put oi.dst v=a':=by ((try simp only[Act.put,List.setIfInBounds_toArray,List.set_cons_zero,List.set_cons_succ]) <;> rfl))
  (hl:listed.setIfInBounds i true=l':=by ((try simp only[List.setIfInBounds_toArray,List.set_cons_zero,List.set_cons_succ]) <;> rfl)) :
  wpL P md ops Q c S (n+1) listed a w:=by
 subst ha hl;exact zlO hi hc hd hs hf hr hic hQ hb hS (Or.inl ⟨hw,hy⟩) h
theorem zj (b:Bool) (i:Nat) {o:Oper} {n:Nat} {listed l':Array Bool} {a:Act} {w:World}
  (h:∀ K:Act→World→Prop,Shut (∀ a w,S b w→(RowKit.Hid (S b w)→wpL P md ops Q c S n l' a w)→K a w)→if Region.wanted o (yielded ops a.tmps)=true then Oper.wp P o a w K Q else K (a.put o.dst undef) w)
  (hr:Region.ready md ops listed=[i]:=by kernel_rfl)
  (ho:ops[i]?=some o:=by (simp only[List.getElem?_toArray,List.getElem?_cons_succ,List.getElem?_cons_zero];rfl))
  (hl:listed.setIfInBounds i true=l':=by ((try simp only[List.setIfInBounds_toArray,List.set_cons_zero,List.set_cons_succ]) <;> rfl))
  (hb:upC c l'=b:=by rfl):wpL P md ops Q c S (n+1) listed a w:=by
 subst hl;exact zod hr ho hb h
theorem zdx (b1 b2:Bool) (i j:Nat) {oi oj:Oper} {n:Nat} {listed l1 l2:Array Bool} {a:Act} {w:World}
  (h1:∀ K:Act→World→Prop,Shut (∀ a w,S b1 w→(RowKit.Hid (S b1 w)→wpL P md ops Q c S n l1 a w)→K a w)→if Region.wanted oi (yielded ops a.tmps)=true then Oper.wp P oi a w K Q else K (a.put oi.dst undef) w)
  (h2:∀ K:Act→World→Prop,Shut (∀ a w,S b2 w→(RowKit.Hid (S b2 w)→wpL P md ops Q c S n l2 a w)→K a w)→if Region.wanted oj (yielded ops a.tmps)=true then Oper.wp P oj a w K Q else K (a.put oj.dst undef) w)
  (hr:Region.ready md ops listed=[i,j]:=by kernel_rfl)
  (hi:ops[i]?=some oi:=by (simp only[List.getElem?_toArray,List.getElem?_cons_succ,List.getElem?_cons_zero];rfl))
  (hj:ops[j]?=some oj:=by (simp only[List.getElem?_toArray,List.getElem?_cons_succ,List.getElem?_cons_zero];rfl))
  (hl1:listed.setIfInBounds i true=l1:=by ((try simp only[List.setIfInBounds_toArray,List.set_cons_zero,List.set_cons_succ]) <;> rfl))
  (hl2:listed.setIfInBounds j true=l2:=by ((try simp only[List.setIfInBounds_toArray,List.set_cons_zero,List.set_cons_succ]) <;> rfl))
  (hb1:upC c l1=b1:=by rfl) (hb2:upC c l2=b2:=by rfl):wpL P md ops Q c S (n+1) listed a w:=by
 subst hl1 hl2;exact zoe hr hi hj hb1 hb2 h1 h2
theorem ze {ops:Array Oper} {o:Oper} {a:Act} {X E:Prop} (hg:o.guard=none) (h:X):if Region.wanted o (yielded ops a.tmps)=true then X else E:=by
 rw[if_pos (by simp[Region.wanted,hg])];exact h
end
end
section
open Go.RowKit
attribute [local go_sem ↓] Go.wp_at_zero Go.wp_at_succ
def Sty.eqb (a b:Sty):Bool:=a.fg == b.fg && (a.bg == b.bg && a.attr == b.attr)
def Cel.eqb (a b:Cel):Bool:=a.rune == b.rune && (a.width == b.width && (a.sty.fg == b.sty.fg && (a.sty.bg == b.sty.bg && a.sty.attr == b.sty.attr)))
theorem Sty.eqb_iff (a b:Sty):a.eqb b=true↔a=b:=by
 obtain⟨f,g,t⟩:=a;obtain⟨C,B,A⟩:=b;simp[Sty.eqb]
theorem zeZ (a b:Sty) (d:Nat) (w:World):(Op.equalIn (d+2) 49 a.val b.val).run prog w=.ok (a.eqb b) w:=by
 have A:prog.underlying 49=some (.struct (prog.fieldsOf 49)):=(by kernel_rfl);have B:prog.stoodInHeld 49=false:=(by kernel_rfl);unfold Sty.val;rw[run_equalIn_agg w (d+1) 49 _ _ A B];simp only[Program.fieldsOf,underlying49]
 go_simp
 unfold Sty.eqb;by_cases h1:a.fg=b.fg <;> by_cases h2:a.bg=b.bg <;> by_cases h3:a.attr=b.attr <;> simp[h1,h2,h3]
theorem zlP (a b:Cel) (d:Nat) (w:World):(Op.equalIn (d+3) 96 a.val b.val).run prog w=.ok (a.eqb b) w:=by
 have A:prog.underlying 96=some (.struct (prog.fieldsOf 96)):=(by kernel_rfl);have B:prog.stoodInHeld 96=false:=(by kernel_rfl);unfold Cel.val;rw[run_equalIn_agg w (d+2) 96 _ _ A B];simp only[Program.fieldsOf,underlying96]
 go_simp
 unfold Cel.eqb;by_cases h1:a.rune=b.rune <;> by_cases h2:a.width=b.width <;> by_cases h3:a.sty.fg=b.sty.fg <;> by_cases h4:a.sty.bg=b.sty.bg <;> by_cases h5:a.sty.attr=b.sty.attr <;> simp[h1,h2,h3,h4,h5]
theorem zof (a b:Cel) (w:World):(binOp .neq 96 a.val b.val).run prog w=.ok (.bool (!a.eqb b)) w:=by
 have:=zlP a b 9997 w;unfold Cel.val at *;rw[run_neq_struct,show(10000:Nat)=9997+3 from rfl,this];rfl
theorem zks (a b:Sty) (w:World):(binOp .eql 49 a.val b.val).run prog w=.ok (.bool (a.eqb b)) w:=by
 have:=zeZ a b 9998 w;unfold Sty.val at *;rw[run_eql_struct,show(10000:Nat)=9998+2 from rfl,this];rfl
theorem zog (a b:Sty) (w:World):(binOp .neq 49 a.val b.val).run prog w=.ok (.bool (!a.eqb b)) w:=by
 have:=zeZ a b 9998 w;unfold Sty.val at *;rw[run_neq_struct,show(10000:Nat)=9998+2 from rfl,this];rfl
theorem zlQ (op:BinOp) (x y:Operand) (a b:Cel) (w:World):(eqGuard op 96 x y a.val b.val).run prog w=.ok () w:=run_eqGuard_agg w op 96 x y _ _ (by kernel_rfl)
theorem ze0 (op:BinOp) (x y:Operand) (a b:Sty) (w:World):(eqGuard op 49 x y a.val b.val).run prog w=.ok () w:=run_eqGuard_agg w op 49 x y _ _ (by kernel_rfl)
end
section
open Go.RowKit
theorem zoh (g:Gr) (k:Nat) (hk:k<g.old.length+g.rows.length):g.row ((k:Int)-(g.old.length:Int))=(g.old++g.rows).getD k noR:=by
 unfold Gr.row;by_cases h:k<g.old.length
 ·rw[if_neg (by omega),if_pos (by omega),List.getD_eq_getElem?_getD (l:=g.old++g.rows),List.getElem?_append_left h,show((g.old.length:Int)+((k:Int)-(g.old.length:Int))).toNat=k by omega,List.getD_eq_getElem?_getD]
 ·rw[if_pos (by omega),List.getD_eq_getElem?_getD (l:=g.old++g.rows),List.getElem?_append_right (by omega),show((k:Int)-(g.old.length:Int)).toNat=k-g.old.length by omega,List.getD_eq_getElem?_getD]
end
section
open Go.ChangeShapes Go.WideShapes Go.ChangeAt Go.RowKit Go.ChangeMaps
theorem zm3 {H:Type} (d:DataW H):1≤Rows.uptoBulk d:=by
 cases d with
 | lit l=>cases l <;> simp[Rows.uptoBulk]
 | nil=>simp[Rows.uptoBulk]
 | ptr d=>simp[Rows.uptoBulk]
 | slice elems spare=>simp[Rows.uptoBulk]
 | agg parts=>simp[Rows.uptoBulk]
 | iface t d=>simp[Rows.uptoBulk]
 | map entries=>simp[Rows.uptoBulk]
 | held h=>simp[Rows.uptoBulk]
theorem zm4 {H:Type} (l:List (DataW H)):l.length≤Rows.uptoBulkAll l:=by
 induction l with
 | nil=>simp[Rows.uptoBulkAll]
 | cons x r ih=>have:=zm3 x;simp only[Rows.uptoBulkAll,List.length_cons];omega
theorem zm5 {H:Type} {enc:TypeId × Value→H} {P:Program} {W:World} {t e:TypeId} {k:IntKind} {fuel:Nat} {a:Option Addr} {len cap:Nat} {x:DataW H × List MemPlace}
  (ht:P.underlying t=some (.slice e)) (he:P.underlying e=some (.int k)) (hc:P.cellsOf e=1)
  (h:DataW.trod enc P W 0 (fun _=>true) true fuel t (Value.slice a len cap).cells.toList=some x) :
  ∃ zs,zj2 k W (.slice a len cap) zs∧zs.length+1≤Rows.uptoBulk x.1:=by
 rcases open_ints ht he hc h with ⟨hcs,hx⟩ | ⟨ad,l,c,zs,hcs,_,hl,hm,hz,hx,hcell,hwz⟩
 ·simp[Value.cells]at hcs;obtain⟨rfl,rfl,rfl⟩:=hcs;exact⟨[],.inl ⟨rfl,rfl⟩,by rw[hx];simp[Rows.uptoBulk]⟩
 ·simp[Value.cells]at hcs;obtain⟨rfl,rfl,rfl⟩:=hcs;simp at hz;have A:(zs.take len).length=len:=(by rw[List.length_take];omega);refine⟨zs.take len,.inr ⟨ad,cap,by rw[A],by rw[A];exact hl,by unfold maxLen at hm;exact hm,fun j hj=>?_,fun n hn=>hwz n (List.mem_of_mem_take hn)⟩,?_⟩
  ·rw[hcell j (by omega)];congr 2;rw[List.getD_eq_getElem?_getD,List.getD_eq_getElem?_getD,List.getElem?_take,if_pos (by omega)]
  ·rw[hx];simp only[Rows.uptoBulk];have C:=zm4 (H:=H) (lits k (zs.take len));have B:(lits (H:=H) k (zs.take len)).length=(zs.take len).length:=(by simp[lits]);omega
end
section
open Go.RowKit
def SpP (cols:Nat) (st:Sp):Prop:=st.cur.length≤cols∧∀ q,st.told=some q→0≤q.1∧q.1<cols∧0≤q.2∧q.2≤(st.done.length:Int)
theorem zkt {cols:Nat} {mark:Int} {st:Sp} (h:SpP cols st) (h1:1≤cols) (i:Nat) (c:Cel):SpP cols (za2 cols mark st i c)∧(za2 cols mark st i c).cur≠[]:=by
 obtain⟨H,F⟩:=h;unfold za2;have C:(if c.width=2∧st.cur.length=cols-1 then st.cur++[zM plainS] else st.cur).length≤cols:=by
  split
  ·rw[List.length_append,List.length_singleton];omega
  ·exact H
 generalize (if c.width=2∧st.cur.length=cols-1 then st.cur++[zM plainS] else st.cur)=A at C;dsimp only;have G:st.done.length≤(if A.length=cols then st.done++[⟨A,true⟩] else st.done).length:=by
  split
  ·rw[List.length_append];omega
  ·exact Nat.le_refl _
 have E:(if A.length=cols then [] else A).length<cols:=by
  split
  ·exact h1
  ·omega
 generalize (if A.length=cols then st.done++[⟨A,true⟩] else st.done)=B at G ⊢;generalize (if A.length=cols then [] else A)=D at E ⊢;refine⟨⟨by rw[List.length_append,List.length_singleton];exact E,fun q hq=>?_⟩,by simp⟩;dsimp only at hq ⊢;split at hq
 ·injection hq with hq;subst hq;dsimp only;omega
 ·have:=F q hq;omega
theorem zm6 {cols:Nat} {mark:Int} {st:Sp} (h:SpP cols st) (h1:1≤cols) (i:Nat) (c:Cel) (hw:c.width=0→st.cur≠[]):SpP cols (ZC cols mark st i c)∧(ZC cols mark st i c).cur≠[]:=by
 unfold ZC;split
 ·split
  ·next h0 =>
   have A:=hw h0;have B:0<st.cur.length:=List.length_pos_iff.2 A;refine⟨⟨h.1,fun q hq=>?_⟩,A⟩;dsimp only at hq ⊢;split at hq
   ·injection hq with hq;subst hq;have:=h.1;dsimp only;omega
   ·exact h.2 q hq
  ·exact zkt h h1 _ _
 ·exact zkt h h1 _ _
theorem zku {cols:Nat} {mark:Int} (h1:1≤cols):∀ (l:List Cel) (st:Sp) (i:Nat),SpP cols st→(∀ c m,l=c::m→c.width=0→st.cur≠[])→SpP cols (zbk cols mark st i l)
 | [],_,_,h,_=>h
 | c::l,st,i,h,hw=>by
  obtain⟨k1,k2⟩:=zm6 (mark:=mark) h h1 i c (hw c l rfl);exact zku h1 l _ _ k1 fun _ _ _ _=>k2
theorem zfs:∀ (n:Nat) (l:List Cel) (mark:Int),∃ k,ze9 n l mark=l.take k
 | 0,l,_=>⟨l.length,by rw[List.take_length];rfl⟩
 | n+1,l,mark=>by
  unfold ze9;split
  ·obtain⟨k,e⟩:=zfs n (l.take (l.length-1)) mark;exact⟨min k (l.length-1),by rw[e,List.take_take]⟩
  ·exact⟨l.length,by rw[List.take_length]⟩
theorem ziA {py:Int}:∀ (n:Nat) (l:List Rw),py<(l.length:Int)→py<((zbs n l py).length:Int)
 | 0,_,h=>h
 | n+1,l,h=>by
  unfold zbs;split
  ·next hc=>exact ziA n _ (by rw[List.length_take];omega)
  ·exact h
def zjR (r:List Cel):Prop:=∀ c m,r=c::m→c.width≠0
def FlP (cols:Nat) (st:Fl):Prop:=0≤st.px∧st.px<cols∧0≤st.py∧(st.py<(st.out.length:Int)∨(st.out=[]∧st.py=0))
theorem zoi {cols:Nat} (h1:1≤cols) {line:List Cel} (hl:zjR line) (mark:Int) (wrap:Bool) {st:Fl} (h:FlP cols st):FlP cols (zaD cols line mark wrap st)∧(zaD cols line mark wrap st).out≠[]:=by
 obtain⟨G,E,D,a4⟩:=h;have B:SpP cols (Z2 (zau line mark) cols mark):=by
  refine zku h1 _ _ _ ⟨Nat.zero_le _,fun q hq=>by cases hq⟩ fun c m e hc=>?_;obtain⟨k,F⟩:=zfs line.length line mark;have A:line.take k=c::m:=F.symm.trans e;cases hL:line with
  | nil=>rw[hL,List.take_nil]at A;cases A
  | cons x l2 =>
   cases k with
   | zero=>rw[hL,List.take_zero]at A;cases A
   | succ k =>
    rw[hL,List.take_succ_cons]at A;injection A with H _;subst H;exact absurd hc (hl x l2 hL)
 unfold zaD;generalize Z2 (zau line mark) cols mark=sp at B;have C:(st.out++ZK (zaN cols sp) wrap).length=st.out.length+(sp.done.length+1):=by
  unfold ZK zaN;simp
 dsimp only;refine⟨?_,fun e=>by have:=congrArg List.length e;rw[C]at this;simp at this⟩;unfold FlP;dsimp only;rw[C];cases ht:sp.told with
 | none =>
  refine⟨G,E,D,.inl ?_⟩;rcases a4 with a4 | ⟨e,a4⟩
  ·dsimp only;omega
  ·dsimp only;omega
 | some q =>
  have:=B.2 q ht;refine⟨this.1,this.2.1,?_,.inl ?_⟩
  ·dsimp only;omega
  ·dsimp only;omega
theorem zhz {cols:Nat} (h1:1≤cols) (place atx:Int):∀ (l:List Rw) (i:Nat) (line:List Cel) (mark:Int) (st:Fl),(∀ r∈l,zjR r.cells)→zjR line→FlP cols st→(l≠[]∨st.out≠[]) →
  FlP cols (Z8 cols place atx l i line mark st)∧(Z8 cols place atx l i line mark st).out≠[]
 | [],_,_,_,st,_,_,h,hne=>⟨h,by rcases hne with e | e;exact absurd rfl e;exact e⟩
 | r::rest,i,line,mark,st,hr,hl,h,_=>by
  have hh:zjR (line++r.cells):=fun c m e=>by
   cases hL:line with
   | nil=>rw[hL,List.nil_append]at e;exact hr r (List.mem_cons_self ..) c m e
   | cons x l2 =>
    rw[hL,List.cons_append]at e;injection e with e1 _;subst e1;exact hl x l2 hL
  have hr2:∀ r∈rest,zjR r.cells:=fun x hx=>hr x (List.mem_cons_of_mem _ hx);unfold Z8;dsimp only;split
  ·obtain⟨k1,k2⟩:=zoi h1 hh (if (i:Int)=place then (line.length:Int)+atx else mark) r.wrap h;exact zhz h1 place atx rest _ _ _ _ hr2 (fun c m e=>by cases e) k1 (.inr k2)
  ·next hc =>
   have hn:rest≠[]:=fun e=>hc (.inr e);exact zhz h1 place atx rest _ _ _ _ hr2 hh h (.inl hn)
theorem zoj {g:Gr} (hg:∀ r∈g.old++g.rows,zjR r.cells) (hne:g.rows≠[]) {cols rows:Nat} (h1:1≤cols) (h2:1≤rows) (ax ay:Int) :
  0≤(g.flow cols rows ax ay).2.1∧(g.flow cols rows ax ay).2.1<cols∧0≤(g.flow cols rows ax ay).2.2∧(g.flow cols rows ax ay).2.2<rows:=by
 obtain⟨⟨E,C,F,a4⟩,D⟩:=zhz (cols:=cols) h1 ((g.old.length:Int)+ay) ax (g.old++g.rows) 0 [] (-1) ⟨[],0,0⟩ hg (fun c m e=>by cases e) ⟨Int.le_refl _,by show(0:Int)<cols;omega,Int.le_refl _,.inr ⟨rfl,rfl⟩⟩
  (.inl (by simp[hne]))
 unfold Gr.flow;dsimp only;generalize Z8 cols ((g.old.length:Int)+ay) ax (g.old++g.rows) 0 [] (-1) ⟨[],0,0⟩=A at E C F a4 D ⊢;have B:A.py<(A.out.length:Int):=by
  rcases a4 with h | ⟨h,_⟩
  ·exact h
  ·exact absurd h D
 have G:=ziA A.out.length A.out B;generalize zbs A.out.length A.out A.py=H at G ⊢;exact⟨E,C,by omega,by omega⟩
end
section
open Go.RowKit
def cols (l:List Int):Int:=(l.map zpp).sum
theorem zlR (r:Int):-1≤wid r∧wid r≤2:=by
 unfold wid;repeat' split
 all_goals omega
theorem ziB (l:List Int) (k:Nat) (hk:k<l.length):l.getD k 0∈l:=by
 rw[List.getD_eq_getElem?_getD,List.getElem?_eq_getElem hk];exact List.getElem_mem hk
end
end Go.Proofs.YthehkmopdeebmaaGreatDoor
