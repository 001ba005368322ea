/- Part. -/
import Derived.Test.YthehkmopdeebmaaGreatDoorY10
set_option linter.unusedVariables false
set_option linter.unusedSimpArgs false
set_option maxRecDepth 100000
set_option maxHeartbeats 4000000
namespace Go.Proofs.YthehkmopdeebmaaGreatDoor
open _root_.Go.Proofs.Tryz
section
open Go.RowKit
attribute [local go_sem ↓] Go.wp_at_zero Go.wp_at_succ
def zj3 (t:Option (Int × Int)) (px:Int):Int:=match t with | some q=>q.1 | none=>px
def zj4 (t:Option (Int × Int)) (py was:Int):Int:=match t with | some q=>was+q.2 | none=>py
structure SpS (w:World) (pb:Nat) (px py was:Int) (wr:World) (v:Value) (D:List (Value × Rw)) (lv:Value) (done:List Rw) (r:Rw) (told:Option (Int × Int)):Prop where
 gb:w.grownBy wr (some pb)
 pk:wr.heap[pb]?=some (.cells #[.int .i64 (zj3 told px),.int .i64 (zj4 told py was)] 139 (0,0))
 sp:zck w.heap.size (w.heap.size+1) wr v D lv done r
theorem SpS.below {w:World} {pb:Nat} {px py was:Int} {wr w':World} {v lv:Value} {D:List (Value × Rw)} {done:List Rw} {r:Rw} {told:Option (Int × Int)} (h:SpS w pb px py was wr v D lv done r told) (b:Below wr.heap.size wr w'):SpS w pb px py was w' v D lv done r told :=
 ⟨zaA h.gb b h.gb.size,zr h.pk b (zq h.pk),h.sp.below b⟩
theorem SpS.tell {w:World} {pb:Nat} {px py was:Int} {wr w':World} {v lv:Value} {D:List (Value × Rw)} {done:List Rw} {r:Rw} {told:Option (Int × Int)} (h:SpS w pb px py was wr v D lv done r told) (hpb:pb<w.heap.size) (x y:Int) (g:wr.grownBy w' (some pb)) (hk:w'.heap[pb]?=some (.cells #[.int .i64 x,.int .i64 (was+y)] 139 (0,0))) :
  SpS w pb px py was w' v D lv done r (some (x,y)) :=
 ⟨Zc h.gb g,hk,h.sp.grown g (fun k hk=>by injection hk with hk;omega) (by omega)⟩
theorem zn {w w':World} {row:Option Nat} (g:w.grownBy w' row) {b o:Nat} {v:Value} (h:w.cell? ⟨b,o,none⟩=some v) (hne:row≠some b):w'.cell? ⟨b,o,none⟩=some v:=by
 have A:=zaO h;have e:=g.block b A (fun e=>hne e.symm);unfold World.cell? at h ⊢;dsimp only at h ⊢;rw[e];exact h
theorem ZS {w w':World} {row:Option Nat} (g:w.grownBy w' row) {b o:Nat} (h:w.frozen? ⟨b,o,none⟩=false) (hb:b<w.heap.size) (hne:row≠some b):w'.frozen? ⟨b,o,none⟩=false:=by
 have e:=g.block b hb (fun e=>hne e.symm);unfold World.frozen? at h ⊢;dsimp only at h ⊢;rw[e];exact h
theorem Z9 {w w':World} (g:Below w.heap.size w w') {b o:Nat} {v:Value} (hc:w.cell? ⟨b,o,none⟩=some v) (h:w.frozen? ⟨b,o,none⟩=false):w'.frozen? ⟨b,o,none⟩=false:=by
 have e:=g.block b (zaO hc);unfold World.frozen? at h ⊢;dsimp only at h ⊢;rw[e];exact h
structure SpC (w:World) (pb:Nat) (px py was:Int) (cb:Nat) (c':Cel) (wr:World) (v:Value) (D:List (Value × Rw)) (lv:Value) (done:List Rw) (r:Rw) (told:Option (Int × Int)):Prop where
 s:SpS w pb px py was wr v D lv done r told
 ck:wr.heap[cb]?=some (.cells #[.int .i32 c'.rune,.int .i64 c'.width,.int .i64 c'.sty.fg,.int .i64 c'.sty.bg,.int .i64 c'.sty.attr] 96 (0,0))
 v1:v.ownBlock≠some cb
 x1:lv.ownBlock≠some cb
 hcb:w.heap.size+1<cb
 hpb:pb<w.heap.size
theorem SpC.cellc {w:World} {pb:Nat} {px py was:Int} {cb:Nat} {c':Cel} {wr:World} {v lv:Value} {D:List (Value × Rw)} {done:List Rw} {r:Rw} {told:Option (Int × Int)} (h:SpC w pb px py was cb c' wr v D lv done r told) :
  wr.cell? ⟨cb,0,none⟩=some (.int .i32 c'.rune)∧wr.cell? ⟨cb,1,none⟩=some (.int .i64 c'.width)∧wr.cell? ⟨cb,2,none⟩=some (.int .i64 c'.sty.fg)∧wr.cell? ⟨cb,3,none⟩=some (.int .i64 c'.sty.bg)∧wr.cell? ⟨cb,4,none⟩=some (.int .i64 c'.sty.attr) :=
 ⟨za h.ck 0,za h.ck 1,za h.ck 2,za h.ck 3,za h.ck 4⟩
theorem SpC.tell {w:World} {pb:Nat} {px py was:Int} {cb:Nat} {c':Cel} {wr w':World} {v lv:Value} {D:List (Value × Rw)} {done:List Rw} {r:Rw} {told:Option (Int × Int)} (h:SpC w pb px py was cb c' wr v D lv done r told) (x y:Int) (g:wr.grownBy w' (some pb)) (hk:w'.heap[pb]?=some (.cells #[.int .i64 x,.int .i64 (was+y)] 139 (0,0))) :
  SpC w pb px py was cb c' w' v D lv done r (some (x,y)) :=
 ⟨h.s.tell h.hpb x y g hk,zl h.ck g (fun e=>by injection e with e;have:=h.hcb;have:=h.hpb;omega),h.v1,h.x1,h.hcb,h.hpb⟩
theorem SpC.push {w:World} {pb:Nat} {px py was:Int} {cb:Nat} {c':Cel} {wr w2 w3:World} {v lv lv':Value} {D:List (Value × Rw)} {done:List Rw} {r:Rw} {told:Option (Int × Int)} (h:SpC w pb px py was cb c' wr v D lv done r told) {b off c:Nat} (hv:v=.slice (some ⟨b,off,none⟩) (D.length+1) c) (bl:Below wr.heap.size wr w2) {x:Cel}
  (o3:zp w3 (w.heap.size+1+1) 5 lv' (r.cells.length+1) (zt r.cells++x.vals)) (g:w2.grownBy w3 lv.ownBlock) (hn:∀ k,lv'.ownBlock=some k→lv.ownBlock=some k∨w2.heap.size≤k) :
  SpC w pb px py was cb c' (w3.setCell ⟨b,off+D.length*2,none⟩ lv') v D lv' done ⟨r.cells++[x],r.wrap⟩ told:=by
 have C:=h.hpb;have B:v.ownBlock=some b:=(by rw[hv];rfl);have E:=zg h.s.sp.own b B;have A:∀ q,lv.ownBlock=some q→w.heap.size+1+1≤q:=fun q hq=>(zg h.s.sp.last q hq).1;refine⟨⟨zb8 (Zs (zaA h.s.gb bl h.s.gb.size) g (fun q hq=>by have:=A q hq;omega)) E.1 _ _,?_,h.s.sp.push hv bl o3 g hn⟩,?_,h.v1,fun e=>?_,h.hcb,C⟩
 ·exact Zp (zl (zr h.s.pk bl (zq h.s.pk)) g (fun e=>by have:=A pb e.symm;omega)) (by omega) _ _
 ·exact Zp (zl (zr h.ck bl (zq h.ck)) g (fun e=>h.x1 e.symm)) (fun e=>h.v1 (by rw[B,e])) _ _
 ·rcases hn cb e with h1 | h1
  ·exact h.x1 h1
  ·have:=zq h.ck;have:=bl.size;omega
theorem SpC.mark {w:World} {pb:Nat} {px py was:Int} {cb:Nat} {c':Cel} {wr:World} {v lv:Value} {D:List (Value × Rw)} {done:List Rw} {l:List Cel} {b0:Bool} {told:Option (Int × Int)} (h:SpC w pb px py was cb c' wr v D lv done ⟨l,b0⟩ told) {b off c:Nat} (hv:v=.slice (some ⟨b,off,none⟩) (D.length+1) c) (is:Bool) :
  SpC w pb px py was cb c' (wr.setCell ⟨b,off+D.length*2+1,none⟩ (.bool is)) v D lv done ⟨l,is⟩ told:=by
 have B:=h.hpb;have A:v.ownBlock=some b:=(by rw[hv];rfl);have C:=zg h.s.sp.own b A;exact⟨⟨zb8 h.s.gb C.1 _ _,Zp h.s.pk (by omega) _ _,h.s.sp.mark hv is⟩,Zp h.ck (fun e=>h.v1 (by rw[A,e])) _ _,h.v1,h.x1,h.hcb,B⟩
theorem SpC.snoc {w:World} {pb:Nat} {px py was:Int} {cb q0:Nat} {c':Cel} {wr w2 w3:World} {v lv v':Value} {D:List (Value × Rw)} {done:List Rw} {r:Rw} {told:Option (Int × Int)} (h:SpC w pb px py was cb c' wr v D lv done r told) (hq0:lv.ownBlock=some q0) (bl:Below wr.heap.size wr w2)
  (o3:zp w3 w.heap.size 2 v' (D.length+1+1) (zf (D++[(lv,r)])++[.slice none 0 0,.bool false])) (g:w2.grownBy w3 v.ownBlock) (hn:∀ k,v'.ownBlock=some k→v.ownBlock=some k∨w2.heap.size≤k) :
  SpC w pb px py was cb c' (w3.setCell ⟨w.heap.size+1,0,none⟩ v') v' (D++[(lv,r)]) (.slice none 0 0) (done++[r]) noR told:=by
 have C:=h.hpb;have B:=h.hcb;have A:∀ q,v.ownBlock=some q→w.heap.size≤q:=fun q hq=>(zg h.s.sp.own q hq).1;refine⟨⟨zb8 (Zs (zaA h.s.gb bl h.s.gb.size) g A) (by omega) _ _,?_,h.s.sp.snoc hq0 bl o3 g hn⟩,?_,fun e=>?_,by simp[Value.ownBlock],B,C⟩
 ·exact Zp (zl (zr h.s.pk bl (zq h.s.pk)) g (fun e=>by have:=A pb e.symm;omega)) (by omega) _ _
 ·exact Zp (zl (zr h.ck bl (zq h.ck)) g (fun e=>h.v1 e.symm)) (by omega) _ _
 ·rcases hn cb e with h1 | h1
  ·exact h.v1 h1
  ·have:=zq h.ck;have:=bl.size;omega
theorem zi3 (cols:Nat) (mark:Int) (l:List Cel) (c:Cel) (st:Sp) (i:Nat):zbk cols mark st i (l++[c])=ZC cols mark (zbk cols mark st i l) (i+l.length) c:=by
 induction l generalizing st i with
 | nil=>rfl
 | cons x l ih =>
  show zbk cols mark (ZC cols mark st i x) (i+1) (l++[c])=_;rw[ih,List.length_cons];show _=ZC cols mark (zbk cols mark (ZC cols mark st i x) (i+1) l) _ _;congr 1;omega
end
section
open Go.RowKit
theorem zek {w:World} {base size b off n c:Nat} {xs:List Value} (h:zp w base size (.slice (some ⟨b,off,none⟩) n c) n xs) (y:Nat) (h2:y≤n):zp w base size (.slice (some ⟨b,off,none⟩) y c) y (xs.take (y*size)):=by
 have:=zeh h 0 y (Nat.zero_le _) h2;simpa using this
theorem Zj.pre {B:Nat} {w:World} {b off n c:Nat} {L:List (Value × Rw)} (h:Zj B w (.slice (some ⟨b,off,none⟩) n c) L) (hn:L.length=n) (y:Nat) (hy:y≤n):Zj B w (.slice (some ⟨b,off,none⟩) y c) (L.take y):=by
 subst hn;refine⟨?_,fun x hx=>h.cells x (List.mem_of_mem_take hx),?_,fun x hx=>h.ap x (List.mem_of_mem_take hx)⟩
 ·rw[List.length_take,Nat.min_eq_left hy,← Zm];exact zek h.own y hy
 ·rw[List.map_take];exact h.nd.sublist (List.take_sublist _ _)
theorem Zj.append {B pb:Nat} {w6 w7 w8:World} {v v2 v3:Value} {L L2:List (Value × Rw)} (h:Zj B w6 v L) (g:w6.grownBy w7 (some pb)) (hpb:pb<B) (h2:Zj w6.heap.size w7 v2 L2) (hB:B≤w6.heap.size)
  (o3:zp w8 B 2 v3 (L.length+L2.length) (zf L++zf L2)) (g3:w7.grownBy w8 v.ownBlock) (hn:∀ k,v3.ownBlock=some k→v.ownBlock=some k∨w7.heap.size≤k):Zj B w8 v3 (L++L2):=by
 have H:Zj B w7 v L:=h.grown g (fun k C=>by injection C with C;omega);have I:=g.size;refine⟨?_,fun x hx=>?_,?_,fun x hx=>?_⟩
 ·rw[List.length_append,zO];exact o3
 ·rcases List.mem_append.1 hx with hx | hx
  ·refine zi (H.cells x hx) g3 (fun k C e=>?_);obtain⟨q,A,D⟩:=h.ap x hx;rw[A]at C;injection C with C;exact D (by rw[e,C])
  ·refine zP (zi (h2.cells x hx) g3 (fun k C e=>?_)) hB;have E:=(zg (h2.cells x hx) k C).1;have G:=(zg h.own k e).2;omega
 ·rw[List.map_append,List.nodup_append];refine⟨h.nd,h2.nd,fun a ha c hc e=>?_⟩;obtain⟨x,hx,rfl⟩:=List.mem_map.1 ha;obtain⟨y,F,rfl⟩:=List.mem_map.1 hc;obtain⟨q,A,D⟩:=h.ap x hx;have E:=(zg (h.cells x hx) q A).2;have G:=(zg (h2.cells y F) q (by rw[← e];exact A)).1;omega
 ·rcases List.mem_append.1 hx with hx | hx
  ·obtain⟨q,A,D⟩:=h.ap x hx;refine⟨q,A,fun e=>?_⟩;have E:=(zg (h.cells x hx) q A).2;rcases hn q e with h5 | h5
   ·exact D h5
   ·omega
  ·obtain⟨q,A,D⟩:=h2.ap x hx;refine⟨q,A,fun e=>?_⟩;have E:=zg (h2.cells x hx) q A;rcases hn q e with h5 | h5
   ·have:=(zg h.own q h5).2;omega
   ·omega
theorem Zj.relast {B:Nat} {w:World} {b off n c:Nat} {D:List (Value × Rw)} {xv:Value} {r:Rw} (h:Zj B w (.slice (some ⟨b,off,none⟩) n c) (D++[(xv,r)])) (hn:n=D.length+1) (is:Bool) :
  Zj B (w.setCell ⟨b,off+D.length*2+1,none⟩ (.bool is)) (.slice (some ⟨b,off,none⟩) n c) (D++[(xv,⟨r.cells,is⟩)]):=by
 subst hn;have L:w.grownBy (w.setCell ⟨b,off+D.length*2+1,none⟩ (.bool is)) (some b):=zx (zo _ _) _ _;have I:(D++[(xv,r)]).length=D.length+1:=(by simp);have F:(D++[(xv,(⟨r.cells,is⟩:Rw))]).length=D.length+1:=(by simp);have C:∀ x∈D++[(xv,r)],zp (w.setCell ⟨b,off+D.length*2+1,none⟩ (.bool is)) B 5 x.1 x.2.cells.length (zt x.2.cells):=fun x hx =>
  zi (h.cells x hx) L (fun k E e=>by
   obtain⟨q,M,J⟩:=h.ap x hx;rw[M]at E;injection E with E;injection e with e;exact J (by rw[e,E];rfl))
 have A:(xv,r)∈D++[(xv,r)]:=List.mem_append_right _ (List.mem_singleton.2 rfl);refine⟨?_,fun x hx=>?_,?_,fun x hx=>?_⟩
 ·rw[F];have G:=h.own;rw[I]at G;have H:=zak G (D.length*2+1) [.bool is] (by simp;omega);obtain⟨O,N⟩:=r;rw[zei]at H;exact H
 ·rcases List.mem_append.1 hx with hx | hx
  ·exact C x (List.mem_append_left _ hx)
  ·rw[List.mem_singleton]at hx;subst hx;exact C (xv,r) A
 ·have:=h.nd;rw[List.map_append]at this ⊢;exact this
 ·rcases List.mem_append.1 hx with hx | hx
  ·exact h.ap x (List.mem_append_left _ hx)
  ·rw[List.mem_singleton]at hx;subst hx;exact h.ap (xv,r) A
theorem zgs (l:List Rw) (r:Rw) (is:Bool):ZK (l++[r]) is=l++[⟨r.cells,is⟩]:=by
 unfold ZK;have A:(l++[r]).length-1=l.length:=(by simp);rw[A,List.set_append_right _ _ (Nat.le_refl _),Nat.sub_self,List.getD_eq_getElem?_getD,List.getElem?_append_right (Nat.le_refl _),Nat.sub_self];rfl
structure FlS (w5:World) (pb:Nat) (wr:World) (vO:Value) (L:List (Value × Rw)) (st:Fl):Prop where
 gb:w5.grownBy wr (some pb)
 pk:wr.heap[pb]?=some (.cells #[.int .i64 st.px,.int .i64 st.py] 139 (0,0))
 ro:Zj w5.heap.size wr vO L
 er:L.map (·.2)=st.out
theorem FlS.below {w5:World} {pb:Nat} {wr w':World} {vO:Value} {L:List (Value × Rw)} {st:Fl} (h:FlS w5 pb wr vO L st) (b:Below wr.heap.size wr w'):FlS w5 pb w' vO L st :=
 ⟨zaA h.gb b h.gb.size,zr h.pk b (zq h.pk),h.ro.below b,h.er⟩
theorem FlS.line {w5:World} {pb:Nat} {w6 w7 w8:World} {vO v2:Value} {L D:List (Value × Rw)} {xv:Value} {r:Rw} {st:Fl} {b off n c:Nat} (h:FlS w5 pb w6 vO L st) (hpb:pb<w5.heap.size) (g:w6.grownBy w7 (some pb)) (h2:Zj w6.heap.size w7 v2 (D++[(xv,r)]))
  (cols:Nat) (line:List Cel) (mark:Int) (e2:(D++[(xv,r)]).map (·.2)=zaN cols (Z2 (zau line mark) cols mark))
  (hk:w7.heap[pb]?=some (.cells #[.int .i64 (zj3 (Z2 (zau line mark) cols mark).told st.px),.int .i64 (zj4 (Z2 (zau line mark) cols mark).told st.py st.out.length)] 139 (0,0)))
  (o3:zp w8 w5.heap.size 2 (.slice (some ⟨b,off,none⟩) n c) (L.length+(D++[(xv,r)]).length) (zf L++zf (D++[(xv,r)]))) (g3:w7.grownBy w8 vO.ownBlock) (hn:∀ k,(Value.slice (some ⟨b,off,none⟩) n c).ownBlock=some k→vO.ownBlock=some k∨w7.heap.size≤k) (is:Bool) :
  FlS w5 pb (w8.setCell ⟨b,off+(L++D).length*2+1,none⟩ (.bool is)) (.slice (some ⟨b,off,none⟩) n c) (L++D++[(xv,⟨r.cells,is⟩)]) (zaD cols line mark is st):=by
 have H:=h.gb.size;have F:=zg o3 b rfl;have E:∀ q,vO.ownBlock=some q→w5.heap.size≤q:=fun q hq=>(zg h.ro.own q hq).1;have B:=h.ro.append g hpb h2 H o3 g3 hn;rw[← List.append_assoc]at B;have A:n=(L++D).length+1:=by
  rcases o3.2 with ⟨e,_⟩ | ⟨b2,off2,c2,e,_⟩
  ·simp at e
  ·simp only[Value.slice.injEq]at e;rw[e.2.1];simp;omega
 refine⟨zb8 (Zs (Zc h.gb g) g3 E) F.1 _ _,?_,B.relast A is,?_⟩
 ·have C:zj3 (Z2 (zau line mark) cols mark).told st.px=(zaD cols line mark is st).px∧zj4 (Z2 (zau line mark) cols mark).told st.py st.out.length=(zaD cols line mark is st).py:=⟨rfl,rfl⟩;rw[← C.1,← C.2];exact Zp (zl hk g3 (fun e=>by have:=E pb e.symm;omega)) (by omega) _ _
 ·have G:(zaD cols line mark is st).out=st.out++ZK (zaN cols (Z2 (zau line mark) cols mark)) is:=rfl;rw[G,← e2,List.map_append,List.map_append,List.map_append,h.er];show _=st.out++ZK (D.map _++[r]) is;rw[zgs,List.append_assoc];rfl
theorem zaX {L M:List (Value × Rw)} (h1:(L.map (·.1.ownBlock)).Nodup) (h2:(M.map (·.1.ownBlock)).Nodup) (h:∀ x∈L,∀ y∈M,x.1.ownBlock≠y.1.ownBlock):((L++M).map (·.1.ownBlock)).Nodup:=by
 rw[List.map_append,List.nodup_append];refine⟨h1,h2,fun a ha c hc e=>?_⟩;obtain⟨x,B,rfl⟩:=List.mem_map.1 ha;obtain⟨y,A,rfl⟩:=List.mem_map.1 hc;exact h x B y A e
theorem zi4 {T:Nat→Nat} {p:Nat} {w:World} {g:Gr} {vr0 vo0:Value} {Lr0 Lo0:List (Value × Rw)} (h0:GAt T p vr0 vo0 Lr0 Lo0 w g) {wz:World} {v9 vo2:Value} {L L4:List (Value × Rw)} {f d cols rows C C2:Nat} {out:List Rw}
  (hsz:w.heap.size≤C) (hC:C≤C2) (hz:C2≤wz.heap.size)
  (blk:wz.heap[p]?=some (.cells #[.int .i64 cols,.int .i64 g.limit,v9,vo2] 114 (0,0)))
  (cl:∀ x∈L,zp wz 0 5 x.1 x.2.cells.length (zt x.2.cells)∧∃ q,x.1.ownBlock=some q∧w.heap.size≤q∧q<C) (nd:(L.map (·.1.ownBlock)).Nodup)
  (ro:zp wz 0 2 vo2 (zas g.limit (L.take f)).length (zf (zas g.limit (L.take f)))) (no:∀ k,vo2.ownBlock=some k→C≤k∧k<C2)
  (rr:zp wz 0 2 v9 ((L.drop f).take d++L4).length (zf ((L.drop f).take d++L4))) (nr:∀ k,v9.ownBlock=some k→C2≤k)
  (c4:∀ x∈L4,zp wz 0 5 x.1 x.2.cells.length (zt x.2.cells)∧∃ q,x.1.ownBlock=some q∧C2≤q∧v9.ownBlock≠some q) (nd4:(L4.map (·.1.ownBlock)).Nodup)
  (hout:L.map (·.2)=out) (hl4:L4.map (·.2)=zW (rows-((out.drop f).take rows).length) cols plainS) (hd:(out.drop f).take rows=(out.drop f).take d)
  (wf:(⟨cols,g.limit,(out.drop f).take rows++zW (rows-((out.drop f).take rows).length) cols plainS,zaC g.limit (out.take f)⟩:Gr).WF) :
  ∃ T',GM T' p wz ⟨cols,g.limit,(out.drop f).take rows++zW (rows-((out.drop f).take rows).length) cols plainS,zaC g.limit (out.take f)⟩∧∀ k,T' k≠0→own T w k:=by
 have M:∀ x∈(L.drop f).take d,x∈L:=fun x hx=>List.mem_of_mem_drop (List.mem_of_mem_take hx);have hK:∀ x∈zas g.limit (L.take f),x∈L.take f:=fun x hx=>List.mem_of_mem_drop hx;have E:∀ x∈zas g.limit (L.take f),x∈L:=fun x hx=>List.mem_of_mem_take (hK x hx);have B:∀ x∈L,zp wz 0 5 x.1 x.2.cells.length (zt x.2.cells)∧∃ q,x.1.ownBlock=some q∧((q<w.heap.size∧T q=10+q)∨(w.heap.size≤q∧vo2.ownBlock≠some q∧v9.ownBlock≠some q)):=fun x hx=>by
  obtain⟨D,q,A,N,F⟩:=cl x hx;exact⟨D,q,A,.inr ⟨N,fun e=>by have:=(no q e).1;omega,fun e=>by have:=nr q e;omega⟩⟩
 have G:(((L.drop f).take d).map (·.1.ownBlock)).Nodup:=(nd.sublist ((List.drop_sublist f L).map _)).sublist ((List.take_sublist d _).map _);have I:((zas g.limit (L.take f)).map (·.1.ownBlock)).Nodup:=(nd.sublist ((List.take_sublist f L).map _)).sublist ((List.drop_sublist _ _).map _);refine zcS (g':=⟨cols,g.limit,(out.drop f).take rows++zW (rows-((out.drop f).take rows).length) cols plainS,zaC g.limit (out.take f)⟩) (Lr:=(L.drop f).take d++L4) (Lo:=zas g.limit (L.take f)) h0.lt h0.tp (by omega) blk rr ro (fun k hk=>?_) (fun k hk=>?_) (fun x hx=>?_) ?_ ?_ ?_ wf
 ·have D:=nr k hk;exact .inr ⟨by omega,fun e=>by have:=(no k e).2;omega⟩
 ·have D:=(no k hk).1;exact .inr (by omega)
 ·rcases List.mem_append.1 hx with hx | hx
  ·rcases List.mem_append.1 hx with hx | hx
   ·exact B x (M x hx)
   ·obtain⟨D,q,A,N,F⟩:=c4 x hx;exact⟨D,q,A,.inr ⟨by omega,fun e=>by have:=(no q e).2;omega,F⟩⟩
  ·exact B x (E x hx)
 ·have H:∀ x∈(L.drop f).take d++L4,∀ y∈zas g.limit (L.take f),x.1.ownBlock≠y.1.ownBlock:=fun x hx y hy e=>by
   obtain⟨_,S,A,_,F⟩:=cl y (E y hy);rcases List.mem_append.1 hx with hx | hx
   ·have O:=nd;rw[← List.take_append_drop f L,List.map_append,List.nodup_append]at O;exact O.2.2 _ (List.mem_map_of_mem (hK y hy)) _ (List.mem_map_of_mem (List.mem_of_mem_take hx)) e.symm
   ·obtain⟨_,q,J,R,_⟩:=c4 x hx;rw[J,A]at e;injection e with e;omega
  refine zaX (zaX G nd4 fun x hx y hy e=>?_) I H;obtain⟨_,U,A,_,F⟩:=cl x (M x hx);obtain⟨_,q,J,R,_⟩:=c4 y hy;rw[J,A]at e;injection e with e;omega
 ·rw[List.map_append,hl4,List.map_take,List.map_drop,hout];show(out.drop f).take d++_=(out.drop f).take rows++_;rw[hd]
 ·show(zas g.limit (L.take f)).map (·.2)=zaC g.limit (out.take f);unfold zas zaC;rw[List.map_drop,List.map_take,hout,List.length_take,List.length_take,← hout,List.length_map]
theorem zi5 (w:World):Calls prog 170 #[.slice none 0 0] w fun e w'=>e=.returned (.slice none 0 0)∧Below w.heap.size w w':=by
 have hq:=fun (wx:World)=>Lib.run_eql_slice_nil (P:=prog) wx 112 144 none 0 0 0 0 underlying112;go_enter func170,ntmps170;go_wp2_with fail;exact Ze rfl rfl rfl ⟨rfl,Below.refl _ _⟩
end
section
open Go.RowKit
attribute [local go_sem ↓] Go.wp_at_zero Go.wp_at_succ
def zhd (w:World) (v:Value) (l:List Value):Prop :=
 (v=.slice none 0 0∧l=[])∨∃ (a:Addr) (c:Nat),v=.slice (some a) l.length c∧l.length≤c∧c≤9223372036854775807∧∀ j,j<l.length→w.cell? (a.add j)=some (l.getD j undef)
theorem znv {P:Program} {t e:TypeId} (ht:P.underlying t=some (.slice e)) (hs:(P.info? e).map (·.size)=some 1) (a:Addr) (n c j:Nat) (hj:j<n) (wx:World) :
  (Instr.indexAt t (.slice (some a) n c) (.int .i64 j)).run P wx=.ok (.pointer (some (a.add j))) wx:=by
 obtain⟨i,C,A⟩:=Option.map_eq_some_iff.1 hs;have B:(0:Int)≤(j:Int)∧(j:Int)<(n:Int):=(by omega);simp[Instr.indexAt,asIntOf,run_underlying ht,B,sizeOf,typeInfo,C,A];omega
def Dim (g:Gr) (c r l:Nat):Prop:=g.cols=c∧g.rows.length=r∧g.limit=l
theorem Dim.up {g:Gr} {c r l:Nat} (h:Dim g c r l) (t b n:Int) (s:Sty) (k:Bool):Dim (g.up t b n s k) c r l:=by
 unfold Gr.up;split
 ·exact h
 ·rename_i h0;refine⟨h.1,?_,h.2.2⟩;have A:zZ g t b n s≠0:=h0;unfold zZ at A;by_cases hc:t<0∨b<t∨(g.rows.length:Int)≤b∨okS s=false
  ·rw[if_pos hc]at A;exact absurd rfl A
  ·rw[if_neg hc]at A;have B:zZ g t b n s=(max 0 (min n (b-t+1))).toNat:=(by unfold zZ;rw[if_neg hc]);show(zbd g.rows t.toNat b.toNat (zZ g t b n s) g.cols s).length=r;rw[zjQ (by omega) (by omega) (by rw[B];omega)];exact h.2.1
theorem Dim.down {g:Gr} {c r l:Nat} (h:Dim g c r l) (t b n:Int) (s:Sty):Dim (g.down t b n s) c r l:=by
 unfold Gr.down;split
 ·exact h
 ·rename_i h0;refine⟨h.1,?_,h.2.2⟩;have A:zZ g t b n s≠0:=h0;unfold zZ at A;by_cases hc:t<0∨b<t∨(g.rows.length:Int)≤b∨okS s=false
  ·rw[if_pos hc]at A;exact absurd rfl A
  ·rw[if_neg hc]at A;have B:zZ g t b n s=(max 0 (min n (b-t+1))).toNat:=(by unfold zZ;rw[if_neg hc]);show(Z7 g.rows t.toNat b.toNat (zZ g t b n s) g.cols s).length=r;rw[zge (by omega) (by omega) (by rw[B];omega)];exact h.2.1
theorem Dim.put {g:Gr} {c r l:Nat} (h:Dim g c r l) (x y:Int) (q:Cel):Dim (g.put x y q) c r l:=by
 unfold Gr.put;split
 ·refine⟨h.1,?_,h.2.2⟩;unfold Gr.turn;show(g.rows.set _ _).length=r;rw[List.length_set];exact h.2.1
 ·exact h
theorem Dim.setWrap {g:Gr} {c r l:Nat} (h:Dim g c r l) (y:Int) (is:Bool):Dim (g.setWrap y is) c r l:=by
 unfold Gr.setWrap;split
 ·refine⟨h.1,?_,h.2.2⟩;show(g.rows.set _ _).length=r;rw[List.length_set];exact h.2.1
 ·exact h
theorem Dim.new (c r l:Nat):Dim (Z1 c r l) c r l:=⟨rfl,by show(zW r c plainS).length=r;unfold zW;rw[List.length_replicate],rfl⟩
end
section
open Go.RowKit
def PSt.any1 (s:PSt) (b:UInt8):Bool × PSt × List VAct :=
 if (b.toNat:Int)=24∨(b.toNat:Int)=26 then (true,({ s with dec:=dec0 }:PSt).begun 0,[])
 else if (b.toNat:Int)=27 then (true,{ ({ s with dec:=(zbf s.dec).1 }:PSt).begun 1 with ended:=s.texts },(zbf s.dec).2.map zbV++s.endActs)
 else if (b.toNat:Int)=7∧s.state=4 then (true,s.begun 0,s.endActs)
 else if ((b.toNat:Int)=127∧s.texts=false)∨((b.toNat:Int)<32∧s.texts=true) then (true,s,[])
 else if (b.toNat:Int)<32 then (true,{ s with dec:=(zbf s.dec).1 },(zbf s.dec).2.map zbV++[zcB b])
 else if 127<(b.toNat:Int)∧s.texts=false then (false,(if s.state=0 then s else s.begun 0),[])
 else (false,s,[])
theorem znw (d:Dec) (h:d.ok):(zbf d).1.ok:=by
 unfold zbf;split
 ·exact h
 ·have A:=h.h1;have B:=h.h0;have C:=h.m0;exact⟨by simp,by simp only[];omega,h.m0,h.r0,fun e=>absurd rfl e,fun e=>absurd rfl e,fun e=>absurd rfl e,fun e=>absurd rfl e⟩
theorem zi6 {G:Nat→Prop} {u:Bool} {T:Nat→Nat} {p o d:Nat} {vi vp vt vo:Value} {w:World} {s:PSt} {L:List (VAct × Value)} (hA:zbi G T w) (hC:zcm u T p d (za9 o) vi vp vt w s) (hT:zdm G T o vo w L) :
  zh G w ((w.setCell ⟨p,1,none⟩ (.pointer (some ⟨w.heap.size,0,none⟩))).alloc (.cells dec0.cells 210)) ∧
   zaF G u (adopt T w.heap.size (w.heap.size+1) 2) p o ((w.setCell ⟨p,1,none⟩ (.pointer (some ⟨w.heap.size,0,none⟩))).alloc (.cells dec0.cells 210)) { s with dec:=dec0 } (L.map (·.1)):=by
 have D:((w.setCell ⟨p,1,none⟩ (.pointer (some ⟨w.heap.size,0,none⟩))).alloc (.cells dec0.cells 210)).heap.size=w.heap.size+1:=(by simp);have g:=zbI (zx (zo w (some p)) 1 (.pointer (some ⟨w.heap.size,0,none⟩))) (.cells dec0.cells 210);have m:Mod T (fun x=>x=1) w _:=Mod.of_gb g (fun k A=>by injection A with A;subst A;exact hC.tp);have B:∀ k,k<w.heap.size→adopt T w.heap.size (w.heap.size+1) 2 k=T k:=fun k A=>zdB A;have C:=hA.adopt m.size 2;rw[D]at C;have F:=zI (zz hC.blk 1 (.pointer (some ⟨w.heap.size,0,none⟩))) (.cells dec0.cells 210);have E:zcs ((w.setCell ⟨p,1,none⟩ (.pointer (some ⟨w.heap.size,0,none⟩))).alloc (.cells dec0.cells 210)) w.heap.size dec0:=by
  have:=heap_alloc_new (w.setCell ⟨p,1,none⟩ (.pointer (some ⟨w.heap.size,0,none⟩))) (.cells dec0.cells 210);rw[show(w.setCell ⟨p,1,none⟩ (.pointer (some ⟨w.heap.size,0,none⟩))).heap.size=w.heap.size by simp]at this;exact this
 refine⟨m.within hA (by decide),w.heap.size,vi,vp,vt,vo,L,rfl,C,⟨F,E,zhv,?_,fun hu=>?_,?_,?_,?_⟩,(hT.retag B).mod (m.retag B) (by decide) (by decide) (by decide)⟩
 ·exact(hC.ri.retag fun k A ht=>(B k A).trans ht).mod (m.retag B) (by decide)
 ·exact((hC.rp hu).retag fun k A ht=>(B k A).trans ht).mod (m.retag B) (by decide)
 ·exact(hC.rt.retag fun k A ht=>(B k A).trans ht).mod (m.retag B) (by decide)
 ·exact(B p (zq hC.blk)).trans hC.tp
 ·exact zdC (Nat.le_refl _) (by omega)
theorem zoD {G:Nat→Prop} {u:Bool} {T:Nat→Nat} {p o:Nat} {w:World} {s:PSt} {acts:List VAct} (h:zaF G u T p o w s acts):w.cell? ⟨p,8,none⟩=some (.bool s.ended)∧∀ i,w.frozen? ⟨p,i,none⟩=false:=by
 obtain⟨d,C,B,H,D,L,I,F,A,E⟩:=h;exact⟨Zd A 8,zA A.blk⟩
theorem zhe {G:Nat→Prop} {T:Nat→Nat} {p o:Nat} {w:World} {s:PSt} {acts:List VAct} (b:UInt8) (h:zaF G true T p o w s acts) (hn:acts.length+10≤1000000000) :
  Calls prog 93 #[.pointer (some ⟨p,0,none⟩),.int .u8 (b.toNat:Int)] w fun e w'=>e=.returned (.bool (s.any1 b).1)∧zh G w w'∧zhB G true p o w' (s.any1 b).2.1 (acts++(s.any1 b).2.2):=by
 have H:=Qh h;have HE:=Qh (show s.any1 b=if (b.toNat:Int)=24∨(b.toNat:Int)=26 then (true,({ s with dec:=dec0 }:PSt).begun 0,[])
  else if (b.toNat:Int)=27 then (true,{ ({ s with dec:=(zbf s.dec).1 }:PSt).begun 1 with ended:=s.texts },(zbf s.dec).2.map zbV++s.endActs)
  else if (b.toNat:Int)=7∧s.state=4 then (true,s.begun 0,s.endActs)
  else if ((b.toNat:Int)=127∧s.texts=false)∨((b.toNat:Int)<32∧s.texts=true) then (true,s,[])
  else if (b.toNat:Int)<32 then (true,{ s with dec:=(zbf s.dec).1 },(zbf s.dec).2.map zbV++[zcB b])
  else if 127<(b.toNat:Int)∧s.texts=false then (false,(if s.state=0 then s else s.begun 0),[])
  else (false,s,[]) from rfl)
 obtain⟨d,vi,vp,vt,vo,L,hL,hA,hC,hT⟩:=h;have c0:w.cell? ⟨p,0,none⟩=some (.int .i64 s.state):=Zd hC 0;have c1:w.cell? ⟨p,1,none⟩=some (.pointer (some ⟨d,0,none⟩)):=Zd hC 1;have fz:=zA hC.blk;have D1:=zq hC.blk;have L0:=zI hC.blk (.cells dec0.cells 210);have a1:(w.alloc (.cells dec0.cells 210)).cell? ⟨p,1,none⟩=some (.pointer (some ⟨d,0,none⟩)):=za L0 1;have X0:∀ i,(w.alloc (.cells dec0.cells 210)).frozen? ⟨p,i,none⟩=false:=zA L0;have B:=Qh (zlT p d s (za9 o) vi vp vt w hC.blk);have A0:=Qh (zi6 hA hC hT);rw[hL]at A0;have HL:=Qh hL;have E1:acts.length=L.length:=(by rw[← hL,List.length_map]);have I0:=Qh (zko d s.dec w hC.dec);have J0:=Qh (znw s.dec hC.dok);have U0:=zeB s.dec;generalize adopt T w.heap.size (w.heap.size+1) 2=TN at *;generalize zbf s.dec=D at *;obtain⟨D,l⟩:=D;dsimp only at HE I0 J0 U0;have HC:=Qh hC;have HA:=Qh hA;have HT:=Qh hT;clear hA hC hT hL L0;by_cases hc:(b.toNat:Int)=24∨(b.toNat:Int)=26
 ·rw[if_pos hc]at HE;rcases hc with hc | hc
  ·have V0:((b.toNat:Int) == 24)=true:=beq_iff_eq.2 hc;clear hc;go_enter func93,ntmps93;go_wp2_with fail;refine B.mono ?_;rintro e O ⟨rfl,A⟩;rw[A];clear A;go_wp2_with fail;refine(zde _).mono ?_;rintro e O ⟨rfl,rfl⟩;go_wp2_with fail;refine(Zl 0 A0.2).mono ?_;rintro e w3 ⟨rfl,C,E⟩;have N:=Qh (A0.1.trans C);have I:=Qh E;clear C E;go_wp2_with fail;go_ret;rw[HE.out,List.append_nil];exact⟨rfl,N,TN,I⟩
  ·have T0:((b.toNat:Int) == 24)=false:=(by rw[beq_eq_false_iff_ne];omega);have V0:((b.toNat:Int) == 26)=true:=beq_iff_eq.2 hc;clear hc;go_enter func93,ntmps93;go_wp2_with fail;refine B.mono ?_;rintro e O ⟨rfl,A⟩;rw[A];clear A;go_wp2_with fail;refine(zde _).mono ?_;rintro e O ⟨rfl,rfl⟩;go_wp2_with fail;refine(Zl 0 A0.2).mono ?_;rintro e w3 ⟨rfl,C,E⟩;have N:=Qh (A0.1.trans C);have I:=Qh E;clear C E;go_wp2_with fail;go_ret;rw[HE.out,List.append_nil];exact⟨rfl,N,TN,I⟩
 clear a1 X0 A0;rw[if_neg hc]at HE;have T0:((b.toNat:Int) == 24)=false:=(by rw[beq_eq_false_iff_ne];omega);have C1:((b.toNat:Int) == 26)=false:=(by rw[beq_eq_false_iff_ne];omega);by_cases h27:(b.toNat:Int)=27
 ·rw[if_pos h27]at HE;have O0:((b.toNat:Int) == 27)=true:=beq_iff_eq.2 h27;clear hc h27;go_enter func93,ntmps93;go_wp2_with fail;refine B.mono ?_;rintro e O ⟨rfl,A⟩;rw[A];clear A;go_wp2_with fail;refine I0.mono ?_;rintro e O ⟨v,rfl,o2,g2,d2⟩;obtain⟨V,R,S⟩:=zfy HA HC HT g2 d2 J0 o2;have E0:=Qh V;have G0:=Qh R;have F0:=Qh S;clear o2 g2 d2 V R S;go_wp2_with fail;refine(zb3 v l G0 F0 (by rw[List.length_map];omega)).mono ?_;rintro e w3 ⟨rfl,C,T3,E⟩;have N:=Qh (E0.trans C);have I:=Qh E;clear C E;go_wp2_with fail;refine(ziF I (by rw[List.length_append,List.length_map,List.length_map];omega)).mono ?_;rintro e w4 ⟨rfl,J,T4,F⟩;have Z:=Qh (N.trans J);have X:=Qh F;clear J F;go_wp2_with fail;refine(Zl 1 X).mono ?_;rintro e w5 ⟨rfl,U,M⟩;have C0:=Qh (Z.trans U);have B0:=Qh M;have k8:=zoD M;clear U M;obtain⟨k8,A1⟩:=k8;have Z0:=Qh (B0.set 8 (.bool s.texts) { ({ s with dec:=D }:PSt).begun 1 with ended:=s.texts } (fun _ _ _ _ _=>rfl) rfl rfl rfl rfl);have S0:=Qh (C0.trans (zdg B0.inG w5 8 (.bool s.texts)));go_wp2_with fail;go_ret;rw[HE.out];refine⟨rfl,S0,T4,?_⟩;have:=Z0.out;rw[HL.out,List.append_assoc]at this;exact this
 rw[if_neg h27]at HE;have O0:((b.toNat:Int) == 27)=false:=Qb h27;clear hc h27;by_cases h7:(b.toNat:Int)=7∧s.state=4
 ·rw[if_pos h7]at HE;have Y:((b.toNat:Int) == 7)=true:=beq_iff_eq.2 h7.1;have R0:(s.state == 4)=true:=beq_iff_eq.2 h7.2;clear h7;go_enter func93,ntmps93;go_wp2_with fail;refine B.mono ?_;rintro e O ⟨rfl,A⟩;rw[A];clear A;go_wp2_with fail;refine(ziF H (by omega)).mono ?_;rintro e w4 ⟨rfl,J,T4,F⟩;have Z:=Qh J;have X:=Qh F;clear J F;go_wp2_with fail;refine(Zl 0 X).mono ?_;rintro e w5 ⟨rfl,U,M⟩;have C0:=Qh (Z.trans U);have B0:=Qh M;clear U M;go_wp2_with fail;go_ret;rw[HE.out];exact⟨rfl,C0,T4,B0⟩
 rw[if_neg h7]at HE;have h7s:((b.toNat:Int) == 7)=false∨(((b.toNat:Int) == 7)=true∧(s.state == 4)=false):=by
  by_cases h:(b.toNat:Int)=7
  ·exact .inr ⟨beq_iff_eq.2 h,Qb (fun h'=>h7 ⟨h,h'⟩)⟩
  ·exact .inl (Qb h)
 clear h7;cases htx:s.texts
 ·rw[htx]at HE B;by_cases h127:(b.toNat:Int)=127
  ·rw[if_pos (.inl ⟨h127,rfl⟩)]at HE;have H0:((b.toNat:Int) == 127)=true:=beq_iff_eq.2 h127;have Y:((b.toNat:Int) == 7)=false:=(by rw[beq_eq_false_iff_ne];omega);clear h127 h7s;go_enter func93,ntmps93;go_wp2_with fail;refine B.mono ?_;rintro e O ⟨rfl,A⟩;rw[A];clear A;go_wp2_with fail;go_ret;rw[HE.out,List.append_nil];exact⟨rfl,zh.refl _ _,T,H⟩
  have H0:((b.toNat:Int) == 127)=false:=Qb h127;rw[if_neg (fun h=>by rcases h with ⟨h,_⟩ | ⟨_,h⟩;exact h127 h;simp at h)]at HE;by_cases h32:(b.toNat:Int)<32
  ·rw[if_pos h32]at HE;have D0:decide ((b.toNat:Int)<32)=true:=Qt h32;clear h127 h32;rcases h7s with Y | ⟨Y,R0⟩
   ·skip
    go_enter func93,ntmps93;go_wp2_with fail;refine B.mono ?_;rintro e O ⟨rfl,A⟩;rw[A];clear A;go_wp2_with fail;refine I0.mono ?_;rintro e O ⟨v,rfl,o2,g2,d2⟩;obtain⟨V,R,S⟩:=zfy HA HC HT g2 d2 J0 o2;have E0:=Qh V;have G0:=Qh R;have F0:=Qh S;clear o2 g2 d2 V R S;go_wp2_with fail;refine(zb3 v l G0 F0 (by rw[List.length_map];omega)).mono ?_;rintro e w3 ⟨rfl,C,T3,E⟩;have N:=Qh (E0.trans C);have I:=Qh E;clear C E;have k2:=zhC I;go_wp2_with fail;refine(zci (zcB b) rfl I (by rw[List.length_append,List.length_map,List.length_map];omega)).mono ?_;rintro e w4 ⟨rfl,J,m4,T4,M0,F⟩;have Z:=Qh (N.trans J);have X:=Qh F;clear J F m4 M0;go_wp2_with fail;go_ret;rw[HE.out];refine⟨rfl,Z,T4,?_⟩;have:=X.out;rw[HL.out,List.append_assoc]at this;exact this
   ·skip
    go_enter func93,ntmps93;go_wp2_with fail;refine B.mono ?_;rintro e O ⟨rfl,A⟩;rw[A];clear A;go_wp2_with fail;refine I0.mono ?_;rintro e O ⟨v,rfl,o2,g2,d2⟩;obtain⟨V,R,S⟩:=zfy HA HC HT g2 d2 J0 o2;have E0:=Qh V;have G0:=Qh R;have F0:=Qh S;clear o2 g2 d2 V R S;go_wp2_with fail;refine(zb3 v l G0 F0 (by rw[List.length_map];omega)).mono ?_;rintro e w3 ⟨rfl,C,T3,E⟩;have N:=Qh (E0.trans C);have I:=Qh E;clear C E;have k2:=zhC I;go_wp2_with fail;refine(zci (zcB b) rfl I (by rw[List.length_append,List.length_map,List.length_map];omega)).mono ?_;rintro e w4 ⟨rfl,J,m4,T4,M0,F⟩;have Z:=Qh (N.trans J);have X:=Qh F;clear J F m4 M0;go_wp2_with fail;go_ret;rw[HE.out];refine⟨rfl,Z,T4,?_⟩;have:=X.out;rw[HL.out,List.append_assoc]at this;exact this
  rw[if_neg h32]at HE;have D0:decide ((b.toNat:Int)<32)=false:=Qf h32;have Y:((b.toNat:Int) == 7)=false:=(by rw[beq_eq_false_iff_ne];omega);clear h7s;by_cases hgt:127<(b.toNat:Int)
  ·rw[if_pos ⟨hgt,rfl⟩]at HE;have N0:decide (127<(b.toNat:Int))=true:=Qt hgt;clear h127 h32 hgt;by_cases h0:s.state=0
   ·rw[if_pos h0]at HE;have Y0:(s.state != 0)=false:=(by rw[h0];rfl);clear h0;go_enter func93,ntmps93;go_wp2_with fail;refine B.mono ?_;rintro e O ⟨rfl,A⟩;rw[A];clear A;go_wp2_with fail;refine Ze rfl rfl rfl ?_;rw[HE.out,List.append_nil];exact⟨rfl,zh.refl _ _,T,H⟩
   ·rw[if_neg h0]at HE;have Y0:(s.state != 0)=true:=(by simpa using h0);clear h0;go_enter func93,ntmps93;go_wp2_with fail;refine B.mono ?_;rintro e O ⟨rfl,A⟩;rw[A];clear A;go_wp2_with fail;refine(Zl 0 H).mono ?_;rintro e w5 ⟨rfl,U,M⟩;have C0:=Qh U;have B0:=Qh M;clear U M;go_wp2_with fail;refine Ze rfl rfl rfl ?_;rw[HE.out,List.append_nil];exact⟨rfl,C0,T,B0⟩
  ·rw[if_neg (fun h=>hgt h.1)]at HE;have N0:decide (127<(b.toNat:Int))=false:=Qf hgt;clear h127 h32 hgt;go_enter func93,ntmps93;go_wp2_with fail;refine B.mono ?_;rintro e O ⟨rfl,A⟩;rw[A];clear A;go_wp2_with fail;refine Ze rfl rfl rfl ?_;rw[HE.out,List.append_nil];exact⟨rfl,zh.refl _ _,T,H⟩
 ·rw[htx]at HE B;by_cases h32:(b.toNat:Int)<32
  ·rw[if_pos (.inr ⟨h32,rfl⟩)]at HE;have D0:decide ((b.toNat:Int)<32)=true:=Qt h32;have H0:((b.toNat:Int) == 127)=false:=(by rw[beq_eq_false_iff_ne];omega);clear h32;rcases h7s with Y | ⟨Y,R0⟩
   ·skip
    go_enter func93,ntmps93;go_wp2_with fail;refine B.mono ?_;rintro e O ⟨rfl,A⟩;rw[A];clear A;go_wp2_with fail;go_ret;rw[HE.out,List.append_nil];exact⟨rfl,zh.refl _ _,T,H⟩
   ·skip
    go_enter func93,ntmps93;go_wp2_with fail;refine B.mono ?_;rintro e O ⟨rfl,A⟩;rw[A];clear A;go_wp2_with fail;go_ret;rw[HE.out,List.append_nil];exact⟨rfl,zh.refl _ _,T,H⟩
  rw[if_neg (fun h=>by rcases h with ⟨_,h⟩ | ⟨h,_⟩;simp at h;exact h32 h),if_neg h32,if_neg (fun h=>by simp at h)]at HE;have D0:decide ((b.toNat:Int)<32)=false:=Qf h32;have Y:((b.toNat:Int) == 7)=false:=(by rw[beq_eq_false_iff_ne];omega);clear h7s;generalize hq:((b.toNat:Int) == 127)=q at *;generalize B1:decide (127<(b.toNat:Int))=q2 at *;clear h32;cases q <;> cases q2
  all_goals
   go_enter func93,ntmps93;go_wp2_with fail;refine B.mono ?_;rintro e O ⟨rfl,A⟩;rw[A];clear A;go_wp2_with fail;refine Ze rfl rfl rfl ?_;rw[HE.out,List.append_nil];exact⟨rfl,zh.refl _ _,T,H⟩
end
end Go.Proofs.YthehkmopdeebmaaGreatDoor
