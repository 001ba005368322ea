/- Part. -/
import Derived.Test.YthehkmopdeebmaaGreatDoorY10
set_option linter.unusedVariables false
set_option linter.unusedSimpArgs false
set_option maxRecDepth 100000
set_option maxHeartbeats 2000000
namespace Go.Proofs.YthehkmopdeebmaaGreatDoor
open _root_.Go.Proofs.Tryz
section
open Go.RowKit
theorem znx {r:Rw} (h:∀ c∈r.cells,c.Ok) (cols:Nat):∀ c∈(ZO r cols).cells,c.Ok:=by
 unfold ZO;split
 ·exact h
 ·intro c hc;rcases List.mem_append.1 hc with hc | hc
  ·exact zb2 h c (List.mem_of_mem_take hc)
  ·rw[List.eq_of_mem_replicate hc];exact zaV _
def zcb (l:List Rw) (cols rows:Nat):List Rw:=if rows<l.length then l.take rows else l++zW (rows-l.length) cols plainS
theorem zd0 (l:List Rw) (cols rows:Nat):(zcb l cols rows).length=rows:=by
 unfold zcb;split
 ·rw[List.length_take];omega
 ·rw[List.length_append];unfold zW;rw[List.length_replicate];omega
theorem zfF {l:List Rw} {cols rows:Nat} {r:Rw} (h:r∈zcb l cols rows):r∈l∨r=⟨List.replicate cols (zM plainS),false⟩:=by
 unfold zcb at h;split at h
 ·exact .inl (List.mem_of_mem_take h)
 ·rcases List.mem_append.1 h with h | h
  ·exact .inl h
  ·unfold zW at h;exact .inr (List.eq_of_mem_replicate h)
theorem zbB (g:Gr) (cols rows:Nat) (ax ay:Int):g.resize cols rows ax ay false=(⟨cols,g.limit,zcb (g.rows.map fun r=>ZO r cols) cols rows,g.old.map fun r=>ZO r cols⟩,
   min (zfD ax (g.cols-1)) (cols-1),min (zfD ay ((g.rows.length:Int)-1)) (rows-1)):=by
 unfold Gr.resize;rw[if_neg (by decide)];rfl
theorem zi7 {g:Gr} (h:g.WF) (cols rows:Nat) (ax ay:Int) (c1:1≤cols) (c2:cols≤250) (r1:1≤rows) (r2:rows≤120):(g.resize cols rows ax ay false).1.WF:=by
 rw[zbB];refine⟨c1,c2,?_,?_,h.li,?_,fun r hr=>?_⟩
 ·show 1≤(zcb _ _ _).length;rw[zd0];exact r1
 ·show(zcb _ _ _).length≤120;rw[zd0];exact r2
 ·show(g.old.map _).length≤g.limit;rw[List.length_map];exact h.ol
 ·have A:∀ x∈g.rows++g.old,(ZO x cols).cells.length=cols∧∀ c∈(ZO x cols).cells,c.Ok:=fun x B=>⟨zgm _ _,znx (h.ce x B).2 cols⟩;rcases List.mem_append.1 hr with hr | hr
  ·rcases zfF hr with hr | hr
   ·obtain⟨x,B,rfl⟩:=List.mem_map.1 hr;exact A x (List.mem_append_left _ B)
   ·rw[hr];refine⟨by rw[List.length_replicate],fun c hc=>?_⟩;rw[List.eq_of_mem_replicate hc];exact zaV _
  ·obtain⟨x,B,rfl⟩:=List.mem_map.1 hr;exact A x (List.mem_append_right _ B)
end
section
open Go.RowKit
attribute [local go_sem ↓] Go.wp_at_zero Go.wp_at_succ
def Gr.clear (g:Gr):Gr:={ g with old:=[] }
theorem zma {g:Gr} (h:g.WF):g.clear.WF:=⟨h.c1,h.c2,h.r1,h.r2,h.li,Nat.zero_le _,fun r hr=>h.ce r (by
 rcases List.mem_append.1 hr with hr | hr
 ·exact List.mem_append_left _ hr
 ·exact absurd hr (by simp[Gr.clear]))⟩
theorem zj5 {a:Option Addr} {n m c c2:Nat} {o:Option Nat} (h:(Value.slice a n c).ownBlock=o):(Value.slice a m c2).ownBlock=o:=by cases a <;> exact h
theorem zi8 {P:Program} {t e:TypeId} (ht:P.underlying t=some (.slice e)) (a:Option Addr) (c:Nat) (ty:TypeId) (w:World):(Builtin.clear_ #[t] ty #[.slice a 0 c]).run P w=.ok (.tuple #[]) w:=by
 cases a <;> simp[Builtin.clear_,run_underlying ht]
theorem zfG {P:Program} {t e:TypeId} {size:Nat} {z:Value} (ht:P.underlying t=some (.slice e)) (hz:∀ w,(zeroValue e).run P w=.ok z w) (hzs:z.cells.size=size) (hz1:∀ u∈z.cells.toList,u.oneCell'=true) {w:World} {base b off n c:Nat} {xs:List Value} (h:zp w base size (.slice (some ⟨b,off,none⟩) n c) n xs)
  (x m c1:Nat) (hm:0<m) (hx:x+m≤n) (ty:TypeId) :
  (Builtin.clear_ #[t] ty #[.slice (some ⟨b,off+x*size,none⟩) m c1]).run P w=.ok (.tuple #[]) (w.setCells b (off+x*size) (Builtin.zeroCells z.cells m).toList):=by
 obtain⟨J,h2⟩:=h;rcases h2 with ⟨e,_⟩ | ⟨M,G,N,e,hb,hbs,hnc,hcm,hcells,hxs⟩
 ·simp at e
 simp only[Value.slice.injEq,Option.some.injEq,Addr.mk.injEq]at e;obtain⟨⟨rfl,rfl,_⟩,_,rfl⟩:=e;have I:(Builtin.zeroCells z.cells m).toList.length=m*size:=(by simp[Builtin.zeroCells,hzs]);have D:∀ j,j<(Builtin.zeroCells z.cells m).toList.length→x*size+j<c*size:=fun j hj=>by
  have L:x*size+m*size≤c*size:=(by rw[← Nat.add_mul];exact Nat.mul_le_mul_right _ (by omega));omega
 have C:∀ u∈(Builtin.zeroCells z.cells m).toList,u.oneCell'=true:=fun u hu=>by
  unfold Builtin.zeroCells at hu;simp only[Array.toList_map,List.mem_map,Array.mem_toList_iff,Array.mem_range]at hu;obtain⟨i,F,rfl⟩:=hu;have A:0<z.cells.size:=by
   rcases Nat.eq_zero_or_pos z.cells.size with h0 | h0
   ·rw[h0]at F;simp at F
   ·exact h0
  have E:=Nat.mod_lt i A;rw[getElem!_pos z.cells _ E];exact hz1 _ (by simp)
 have B:=run_storeCells_cells (P:=P) b (off+x*size) (Builtin.zeroCells z.cells m).toList 0 w (fun j hj=>by
   have:=(hcells _ (D j hj)).1
   rwa [← Nat.add_assoc]at this) (fun j hj=>by
   have:=(hcells _ (D j hj)).2
   rwa [← Nat.add_assoc]at this) C
 rw[Nat.add_zero]at B;obtain⟨H,rfl⟩:∃ H,m=H+1:=⟨m-1,by omega⟩;simp[Builtin.clear_,run_underlying ht,hz,B]
theorem zi9 {T:Nat→Nat} {p:Nat} {w:World} {g:Gr} (h:GM T p w g) :
  Calls prog 245 #[.pointer (some ⟨p,0,none⟩)] w fun e w'=>e=.returned (.tuple #[])∧zh (own T w) w w'∧GM T p w' g.clear:=by
 obtain⟨vr,L,Lr,Lo,A⟩:=h;obtain⟨R,Y,O,c3⟩:=zY A;have Z:=zq A.blk;have C:=Qh A;obtain⟨B,S,G,E⟩:∃ B,(∀ ty,(Builtin.clear_ #[112] ty #[L]).run prog w=.ok (.tuple #[]) B)∧w.grownBy B L.ownBlock∧∃ N,zp B 0 2 L Lo.length N:=by
  rcases Nat.eq_zero_or_pos Lo.length with hz | hz
  ·obtain⟨a,c,rfl⟩:=zK A.ro.own;have U:=List.eq_nil_of_length_eq_zero hz;subst U;exact⟨w,fun ty=>zi8 underlying112 a c ty w,zo _ _,_,A.ro.own⟩
  ·obtain⟨b,off,c,rfl,_,_⟩:=zE A.ro.own hz;obtain⟨zs,X,_⟩:=zg2 (P:=prog) (size:=2) underlying112 zgi rfl zgj A.ro.own 0 Lo.length c hz (by omega) 0;refine⟨w.setCells b (off+0*2) (Builtin.zeroCells (Value.agg #[.slice none 0 0,.bool false]).cells Lo.length).toList,fun ty=>?_,zV _ _ _ _,Za (zf Lo) (0*2) (Builtin.zeroCells (Value.agg #[.slice none 0 0,.bool false]).cells Lo.length).toList,?_⟩
   ·have:=zfG (P:=prog) (size:=2) underlying112 zgi rfl zgj A.ro.own 0 Lo.length c hz (by omega) ty;simpa using this
   ·exact zak A.ro.own (0*2) _ (by simp[Builtin.zeroCells,Value.cells])
 obtain⟨N,E⟩:=E;obtain⟨va,vc,rfl⟩:=zK A.ro.own;have F:(Value.slice va Lo.length vc).ownBlock≠some p:=fun e=>(by have h1:=A.ro.tag p e;rw[A.tp]at h1;omega);have D:=zl A.blk G (fun e=>F e.symm);have e3:B.cell? ⟨p,3,none⟩=some (.slice va Lo.length vc):=za D 3;have f3:B.frozen? ⟨p,3,none⟩=false:=zA D 3;have V:∀ wx,(Instr.slice 112 (.slice va Lo.length vc) none (some (.int .i64 0)) none).run prog wx=.ok (.slice va 0 vc) wx:=fun wx=>zcX (P:=prog) (size:=2) underlying112 zC va Lo.length vc 0 (Nat.zero_le _) wx;have I:=Qh D;have HO2:=Qh E;have H:=Qh G;have J:=Qh F;clear A D E G F R Y O;go_enter func245,ntmps245;go_wp2_with fail;go_end0;have M:B.grownBy (B.setCell ⟨p,3,none⟩ (.slice va 0 vc)) (some p):=zx (zo _ _) _ _;have m:Mod T (fun t=>t=3∨t=1) w (B.setCell ⟨p,3,none⟩ (.slice va 0 vc)):=(Mod.of_gb H (fun k hk=>.inl (C.ro.tag k hk))).trans (Mod.of_gb M (fun k hk=>by injection hk with hk;subst hk;exact .inr C.tp));refine⟨rfl,⟨m.os,m.tape,m.output,m.size,fun k hk hn=>m.block k hk (fun e=>hn (.inl (by rcases e with e | e <;> rw[e] <;> decide)))⟩,vr,.slice va 0 vc,Lr,[],⟨fun k hk=>Nat.lt_of_lt_of_le (C.lt k hk) m.size,?_,C.tp,C.rr.mod m (by decide),⟨?_,fun k hk=>C.ro.tag k (zj5 hk)⟩,C.er,rfl,fun x hx=>?_,?_,zma C.wf⟩⟩
 ·exact zz I 3 _
 ·have h4:zp B 0 2 (.slice va 0 vc) 0 []:=by
   rcases HO2.out.2 with ⟨e,_⟩ | ⟨b,off,cap,e,h1,h2,h3,h4,h5,h6⟩
   ·simp only[Value.slice.injEq]at e;obtain⟨rfl,_,rfl⟩:=e;exact Zy _ _ _
   ·simp only[Value.slice.injEq]at e;obtain⟨rfl,_,rfl⟩:=e;exact⟨rfl,.inr ⟨b,off,_,rfl,h1,h2,Nat.zero_le _,h4,h5,fun j u hu=>by simp at hu⟩⟩
  exact zi h4 M (fun k hk e=>J (by rw[e];exact zj5 hk))
 ·rw[List.append_nil]at hx;exact(C.ca x (List.mem_append_left _ hx)).mod m (fun k _=>by omega)
 ·have:=C.out.nd;rw[List.map_append,List.nodup_append]at this;rw[List.append_nil];exact this.1
end
section
open Go.ChangeShapes Go.WideShapes Go.ChangeAt Go.RowKit Go.ChangeMaps
theorem zhP {f:Nat→Option Value} {cs:List Value} (h:(List.range 1).mapM f=some cs):∃ c0,cs=[c0]∧f 0=some c0:=by
 rw[show List.range 1=[0] from rfl]at h;simp only[List.mapM_cons,List.mapM_nil,Option.pure_def,Option.bind_eq_bind,Option.bind_eq_some_iff,Option.some.injEq]at h;obtain⟨c0,A,_,rfl,rfl⟩:=h;exact⟨c0,rfl,A⟩
theorem zhf:prog.cellsOf 9=1:=by kernel_rfl
theorem zkL (a:Addr) (i:Nat):(a.add (i*1)).add 0=a.add i:=by simp[Addr.add]
theorem zoE {n:Int} (h:(Lit.int .i64 n).wf=true):-9223372036854775808≤n∧n≤9223372036854775807:=by
 simp only[Lit.wf,Bool.and_eq_true,decide_eq_true_eq]at h;exact h
theorem zhQ {α:Type} {p:Nat→α→Prop} {len:Nat} (h:∀ i,i<len→∃ y,p i y):∀ m,m≤len→∃ l:List α,l.length=m∧∀ i (hi:i<l.length),p i l[i]:=by
 intro m
 induction m with
 | zero=>intro _;exact⟨[],rfl,fun i hi=>absurd hi (by simp)⟩
 | succ m ih =>
  intro E;obtain⟨l,B,D⟩:=ih (by omega);obtain⟨y,C⟩:=h m (by omega);refine⟨l++[y],by simp[B],fun i hi=>?_⟩;by_cases hlt:i<l.length
  ·rw[List.getElem_append_left hlt];exact D i hlt
  ·have A:i=m:=(by rw[List.length_append,B]at hi;simp at hi;omega);subst A;rw[List.getElem_append_right (by omega)];simp only[B,Nat.sub_self,List.getElem_singleton];exact C
end
end Go.Proofs.YthehkmopdeebmaaGreatDoor
