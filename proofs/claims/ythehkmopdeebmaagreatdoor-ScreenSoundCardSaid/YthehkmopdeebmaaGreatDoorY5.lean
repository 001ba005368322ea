/- Part. -/
import Derived.Test.YthehkmopdeebmaaGreatDoorY3
import Derived.Test.YthehkmopdeebmaaGreatDoorY4
set_option linter.unusedVariables false
set_option linter.unusedSimpArgs false
set_option maxRecDepth 100000
set_option maxHeartbeats 8000000
namespace Go.Proofs.YthehkmopdeebmaaGreatDoor
open _root_.Go.Proofs.Tryz
section
open Go.RowKit
theorem zgg (x y:Value) (wx:World):(Instr.field 144 (.agg #[x,y]) 0).run prog wx=.ok x wx:=by kernel_rfl
theorem zaJ {w:World} {base b off n c:Nat} {L:List (Value × Rw)} (h:zp w base 2 (.slice (some ⟨b,off,none⟩) n c) n (zf L)) (k:Nat) (hk:k<L.length) :
  w.cell? ⟨b,off+k*2,none⟩=some L[k].1∧w.cell? ⟨b,off+k*2+1,none⟩=some (.bool L[k].2.wrap):=by
 obtain⟨E,h2⟩:=h;rcases h2 with ⟨e,_⟩ | ⟨D,B,C,e,hb,hbs,hnc,hcm,hcells,hxs⟩
 ·simp at e
 ·simp only[Value.slice.injEq,Option.some.injEq,Addr.mk.injEq]at e;obtain⟨⟨rfl,rfl,_⟩,_,rfl⟩:=e;have A:∀ i u,i<2→[L[k].1,Value.bool L[k].2.wrap][i]?=some u→w.cell? ⟨b,off+(k*2+i),none⟩=some u:=fun i u hi hu=>hxs _ u (by rw[zdZ L k hk i hi];exact hu);exact⟨A 0 _ (by decide) rfl,A 1 _ (by decide) rfl⟩
theorem zE {w:World} {base size:Nat} {v:Value} {n:Nat} {xs:List Value} (h:zp w base size v n xs) (hn:0<n):∃ b off c,v=.slice (some ⟨b,off,none⟩) n c∧n≤c∧c≤maxLen:=by
 rcases h.2 with ⟨_,h0⟩ | ⟨b,off,c,hv,_,_,h1,h2,_⟩
 ·omega
 ·exact⟨b,off,c,hv,h1,h2⟩
theorem zm7 {T:Nat→Nat} {p:Nat} {w:World} {g:Gr} (h:GM T p w g) (y:Int) (hy:¬ (0≤y∧y<(g.rows.length:Int))∧¬ (y<0∧-(g.old.length:Int)≤y)) :
  Calls prog 87 #[.pointer (some ⟨p,0,none⟩),.int .i64 y] w fun e w'=>e=.returned (.agg #[.slice none 0 0,.bool false])∧Below w.heap.size w w':=by
 obtain⟨N,S,X,M,h0⟩:=h;have A:=Below.alloc (Below.refl w.heap.size w) (Nat.le_refl _) (.cells #[.slice none 0 0,.bool false] 144);have h:=h0.mod (.of_below A) id id id (fun _=>id);obtain⟨U,V,J,L⟩:=zY h;have C:=Zf underlying112 h.rr.own;have F:=Zf underlying112 h.ro.own;rw[(Zg h).1]at C;rw[(Zg h).2]at F;have R:=h.wf.r2;have I:=h.wf.ol;have G:=h.wf.li;clear h h0;have B:=Below.alloc (Below.refl w.heap.size w) (Nat.le_refl _) (.cells #[.slice none 0 0,.bool false] 144);by_cases h0:0≤y
 ·have D:decide (0≤y)=true:=Qt h0;have O:decide (y<(g.rows.length:Int))=false:=Qf (by omega);have E:decide (y<0)=false:=Qf (by omega);go_enter func87,ntmps87;go_wp2_with fail;(try simp only[Exit.inBlock,Exit.then]);exact zbz rfl rfl rfl (zH _ _) underlying144 rfl (by exact zC) ⟨rfl,B⟩
 ·have D:decide (0≤y)=false:=Qf h0;have E:decide (y<0)=true:=Qt (by omega);have H:decide (-(g.old.length:Int)≤y)=false:=Qf (by omega);go_enter func87,ntmps87;go_wp2_with fail;(try simp only[Exit.inBlock,Exit.then]);exact zbz rfl rfl rfl (zH _ _) underlying144 rfl (by exact zC) ⟨rfl,B⟩
theorem zm8 {T:Nat→Nat} {p:Nat} {w:World} {g:Gr} (h:GM T p w g) (k:Nat) (hk:k<g.rows.length) :
  Calls prog 87 #[.pointer (some ⟨p,0,none⟩),.int .i64 k] w fun e w'=>∃ v,e=.returned (.agg #[v,.bool (g.rows.getD k noR).wrap])∧Below w.heap.size w w'∧zp w 0 5 v (g.rows.getD k noR).cells.length (zt (g.rows.getD k noR).cells):=by
 obtain⟨vr,vo,C,Lo,E⟩:=h;have D:=Below.alloc (Below.refl w.heap.size w) (Nat.le_refl _) (.cells #[.slice none 0 0,.bool false] 144);have h:=E.mod (.of_below D) id id id (fun _=>id);obtain⟨c0,c1,Z,c3⟩:=zY h;have G:=(Zg h).1;have w1:=h.wf.r2;obtain⟨b,F,c,rfl,U,L⟩:=zE h.rr.own (by omega);have B:k<C.length:=(by omega);obtain⟨J,S⟩:=zaJ h.rr.own k B;have H:(g.rows.getD k noR)=C[k].2:=by
  rw[← h.er,List.getD_eq_getElem?_getD,List.getElem?_map,List.getElem?_eq_getElem B];rfl
 have A:=(E.ca C[k] (List.mem_append_left _ (List.getElem_mem B))).own;rw[H];generalize C[k]=x at *;obtain⟨xv,I⟩:=x;dsimp only at J S A H ⊢;have N:=Qh A;obtain⟨X,R,rfl⟩:=zK A;have Y:=Zf underlying112 h.rr.own;have O:=Zw (P:=prog) (size:=2) underlying112 zC b F C.length c k B;clear h E A;have d1:decide (0≤(k:Int))=true:=Qt (by omega);have d2:decide ((k:Int)<(C.length:Int))=true:=Qt (by omega);have V:decide (k<C.length)=true:=Qt B;have M:=Below.alloc (Below.refl w.heap.size w) (Nat.le_refl _) (.cells #[.slice X I.cells.length R,.bool I.wrap] 144);go_enter func87,ntmps87;go_wp2_with fail;(try simp only[Exit.inBlock,Exit.then]);exact zbz rfl rfl rfl (zH _ _) underlying144 rfl (by exact zC) ⟨_,rfl,M,N⟩
theorem zok {T:Nat→Nat} {p:Nat} {w:World} {g:Gr} (h:GM T p w g) (k:Nat) (hk:k<g.old.length) :
  Calls prog 87 #[.pointer (some ⟨p,0,none⟩),.int .i64 ((k:Int)-g.old.length)] w fun e w'=>∃ v,e=.returned (.agg #[v,.bool (g.old.getD k noR).wrap])∧Below w.heap.size w w'∧zp w 0 5 v (g.old.getD k noR).cells.length (zt (g.old.getD k noR).cells):=by
 obtain⟨vr,vo,Lr,C,M⟩:=h;have I:=Below.alloc (Below.refl w.heap.size w) (Nat.le_refl _) (.cells #[.slice none 0 0,.bool false] 144);have h:=M.mod (.of_below I) id id id (fun _=>id);obtain⟨c0,c1,c2,c3⟩:=zY h;have B:=(Zg h).2;have w1:=h.wf.r2;have w2:=h.wf.ol;have Z:=h.wf.li;obtain⟨b,S,c,rfl,E0,A0⟩:=zE h.ro.own (by omega);have E:k<C.length:=(by omega);obtain⟨Y,r1⟩:=zaJ h.ro.own k E;have U:(g.old.getD k noR)=C[k].2:=by
  rw[← h.eo,List.getD_eq_getElem?_getD,List.getElem?_map,List.getElem?_eq_getElem E];rfl
 have A:=(M.ca C[k] (List.mem_append_right _ (List.getElem_mem E))).own;rw[U];generalize C[k]=x at *;obtain⟨xv,D⟩:=x;dsimp only at Y r1 A U ⊢;have HO:=Qh A;obtain⟨J,H,rfl⟩:=zK A;have hl:=Zf underlying112 h.ro.own;have B0:=Zw (P:=prog) (size:=2) underlying112 zC b S C.length c k E;rw[← B];rw[← B]at w2;clear h M A B;have hy:(C.length:Int)+((k:Int)-(C.length:Int))=(k:Int):=(by omega);have d1:decide (0≤(k:Int)-(C.length:Int))=false:=Qf (by omega);have d3:decide ((k:Int)-(C.length:Int)<0)=true:=Qt (by omega);have d4:decide (-(C.length:Int)≤(k:Int)-(C.length:Int))=true:=Qt (by omega);have C0:IntKind.i64.wrap (k:Int)=(k:Int):=zd _ (by omega) (by omega);have hB:=Qh (Below.alloc (Below.refl w.heap.size w) (Nat.le_refl _) (.cells #[.slice J D.cells.length H,.bool D.wrap] 144));go_enter func87,ntmps87;go_upto_region 4 with fail;have F:=zH w (.cells #[.slice none 0 0,.bool false] 144);generalize w.alloc (.cells #[.slice none 0 0,.bool false] 144)=V at *
 go_still_tail 13,(by kernel_rfl)
 change wpList _ _ _ _ _ V.drew;have G:=Zb F;have O:=I.drew;generalize D0:V.drew=X at *;have R:=run_storeVar_row (P:=prog) X w.heap.size 144 144 _ #[.slice J D.cells.length H,.bool D.wrap] G zC rfl (by simp[Value.oneCell']);have N:=Zz (cells:=#[.slice J D.cells.length H,.bool D.wrap]) G;have L:=Qh (zbA O (g:=w.heap.size) (Nat.le_refl _) #[.slice J D.cells.length H,.bool D.wrap]);generalize X.setRow w.heap.size #[.slice J D.cells.length H,.bool D.wrap]=Z at *;go_wp2_with (refine zF rfl _ _ _ rfl R rfl rfl ?_);(try simp only[Exit.inBlock,Exit.then]);exact zbz rfl rfl rfl N underlying144 rfl (by exact zC) ⟨_,rfl,L.out,HO⟩
theorem zkv {T:Nat→Nat} {p:Nat} {w:World} {g:Gr} (h:GM T p w g) (y:Int) :
  Calls prog 87 #[.pointer (some ⟨p,0,none⟩),.int .i64 y] w fun e w'=>∃ v,e=.returned (.agg #[v,.bool (g.row y).wrap])∧Below w.heap.size w w'∧zp w 0 5 v (g.row y).cells.length (zt (g.row y).cells):=by
 by_cases h1:0≤y∧y<(g.rows.length:Int)
 ·obtain⟨k,rfl⟩:∃ k:Nat,y=(k:Int):=⟨y.toNat,by omega⟩;have e:g.row k=g.rows.getD k noR:=(by unfold Gr.row;rw[if_pos h1,Int.toNat_natCast]);rw[e];exact zm8 h k (by omega)
 ·by_cases h2:y<0∧-(g.old.length:Int)≤y
  ·obtain⟨k,A⟩:∃ k:Nat,(g.old.length:Int)+y=(k:Int):=⟨((g.old.length:Int)+y).toNat,by omega⟩;have e:g.row y=g.old.getD k noR:=(by unfold Gr.row;rw[if_neg h1,if_pos h2,A,Int.toNat_natCast]);rw[e,show y=(k:Int)-g.old.length by omega];exact zok h k (by omega)
  ·have e:g.row y=noR:=(by unfold Gr.row;rw[if_neg h1,if_neg h2]);rw[e];refine(zm7 h y ⟨h1,h2⟩).mono ?_;rintro e w' ⟨rfl,b⟩;exact⟨_,rfl,b,Zy _ _ _⟩
theorem ze1 (w:World) (e:TypeId) (size:Nat):zp (w.alloc (.cells #[] e)) w.heap.size size (.slice (some ⟨w.heap.size,0,none⟩) 0 0) 0 [] :=
 ⟨by simp,.inr ⟨w.heap.size,0,0,rfl,Nat.le_refl _,by simp,Nat.le_refl _,Nat.zero_le _,fun j hj=>by omega,fun j u hu=>by simp at hu⟩⟩
theorem zed (l:List Cel) (v:Value) (w:World) (h:zp w 0 5 v l.length (zt l)) (hl:l.length≤100000) :
  Calls prog 68 #[v] w fun e w'=>∃ v',e=.returned v'∧Below w.heap.size w w'∧zp w' w.heap.size 5 v' l.length (zt l):=by
 rcases Nat.eq_zero_or_pos l.length with h0 | h0
 ·have E:l=[]:=List.eq_nil_of_length_eq_zero h0;subst E;obtain⟨va,I,rfl⟩:=zK h;rw[List.length_nil]at h ⊢;have hq:=fun (wx:World)=>Lib.run_eql_slice_nil (P:=prog) wx 56 96 va 0 I 0 0 underlying56;cases va with
  | none =>
   clear h;go_enter func68,ntmps68;go_wp2_with fail;exact Ze rfl rfl rfl ⟨_,rfl,Below.refl _ _,Zy _ _ _⟩
  | some a =>
   have G:=Qh (zX h);clear h;go_enter func68,ntmps68;go_wp2_with (at_builtin;refine zaQ ?_);unfold zaP;refine zco zab rfl rfl w.heap.size (ze1 w 96 5) rfl (zd7 G (World.grownBy_alloc w _ none) (by intro _ _ e;simp at e)) rfl (zbw []) (by decide) (by decide) (by simp) ?_;intro M J C D;have B:=Qh ((Below.alloc (Below.refl w.heap.size w) (Nat.le_refl _) (.cells #[] 96)).grown D (by simp) (by intro q hq;simp[Value.ownBlock]at hq;omega));have A:=Qh C;clear C D;go_wp2_with fail;exact Ze rfl rfl rfl ⟨_,rfl,B,A⟩
 ·obtain⟨b,F,c,rfl,L,H⟩:=zE h h0;have hq:=fun (wx:World)=>Lib.run_eql_slice_nil (P:=prog) wx 56 96 (some ⟨b,F,none⟩) l.length c 0 0 underlying56;have G:=Qh (zX h);clear h;go_enter func68,ntmps68;go_wp2_with (at_builtin;refine zaQ ?_);unfold zaP;refine zco zab rfl rfl w.heap.size (ze1 w 96 5) rfl (zd7 G (World.grownBy_alloc w _ none) (by intro _ _ e;simp at e)) rfl (zbw l) (by unfold maxLen;omega) (by omega) (by simp) ?_;intro M J C D;rw[Nat.zero_add,List.nil_append]at C;have B:=Qh ((Below.alloc (Below.refl w.heap.size w) (Nat.le_refl _) (.cells #[] 96)).grown D (by simp) (by intro q hq;simp[Value.ownBlock]at hq;omega));have A:=Qh C;clear C D;go_wp2_with fail;exact Ze rfl rfl rfl ⟨_,rfl,B,A⟩
theorem ziC {T:Nat→Nat} {p:Nat} {w:World} {g:Gr} (h:GM T p w g) (y:Int) (hl:(g.row y).cells.length≤1000) :
  Calls prog 36 #[.pointer (some ⟨p,0,none⟩),.int .i64 y] w fun e w'=>∃ v,e=.returned v∧Below w.heap.size w w'∧zp w' w.heap.size 5 v (g.row y).cells.length (zt (g.row y).cells):=by
 have M:=Qh (zkv h y);go_enter func36,ntmps36;go_wp2_with fail;refine M.mono ?_;rintro e H ⟨v,rfl,C,B⟩;have D:=Qh C;have I:=Qh (zed (g.row y).cells v H (zk B C) (by omega));clear C;obtain⟨L,J,rfl⟩:=zK B;clear B;have N:=zgg (.slice L (g.row y).cells.length J) (.bool (g.row y).wrap);go_wp2_with fail;refine I.mono ?_;rintro e R ⟨O,rfl,F,G⟩;have A:=Qh (D.trans (F.mono D.size));have E:=Qh (zP G D.size);clear F G;go_wp2_with fail;exact Ze rfl rfl rfl ⟨_,rfl,A,E⟩
theorem zm9 {g:Gr} (h:g.WF) (y:Int):(g.row y).cells.length≤250∧∀ c∈(g.row y).cells,c.Ok:=by
 have B:∀ r,r∈g.rows++g.old→r.cells.length≤250∧∀ c∈r.cells,c.Ok:=fun r hr=>by
  obtain⟨D,C⟩:=h.ce r hr;have:=h.c2;exact⟨by omega,C⟩
 have A:∀ (l:List Rw) (k:Nat),k<l.length→l.getD k noR∈l:=fun l k hk=>by
  rw[List.getD_eq_getElem?_getD,List.getElem?_eq_getElem hk];exact List.getElem_mem hk
 unfold Gr.row;split
 ·exact B _ (List.mem_append_left _ (A _ _ (by omega)))
 ·split
  ·exact B _ (List.mem_append_right _ (A _ _ (by omega)))
  ·exact⟨by show 0≤250;omega,fun c hc=>by simp[noR]at hc⟩
end
section
open Go.RowKit
def ZU (w0:World) (s:Sty):Prop:=∀ w,Below w0.heap.size w0 w→Calls prog 34 #[s.val] w fun e w'=>e=.returned (.bool (okS s))∧Below w.heap.size w w'
theorem ZU.below {w0 w1:World} {s:Sty} (h:ZU w0 s) (b:Below w0.heap.size w0 w1):ZU w1 s:=fun w hb=>h w (b.trans (hb.mono b.size))
theorem zee (w:World):Calls prog 86 #[.int .i64 (-1)] w fun e w'=>e=.returned (.string ⟨#[100,101,102,97,117,108,116]⟩)∧w'=w:=by
 go_enter func86,ntmps86;go_wp2_with fail;go_ret;exact⟨rfl,rfl⟩
theorem ziD {w0:World}:ZU w0 plainS:=by
 intro w _;have B:=Qh ((Below.refl w.heap.size w).alloc (Nat.le_refl _) (.cells #[.int .i64 (-1),.int .i64 (-1),.int .i64 0] 49));unfold Sty.val plainS;go_enter func34,ntmps34;go_wp2_with fail;refine(zee _).mono ?_;rintro e A ⟨rfl,rfl⟩;go_wp2_with fail;refine(zee _).mono ?_;rintro e A ⟨rfl,rfl⟩;go_wp2_with fail;go_ret;exact⟨rfl,B⟩
theorem zkw {T:Nat→Nat} {p:Nat} {w:World} {g:Gr} (h:GM T p w g) (x y:Int) (s:Sty) (hs:ZU w s) (hn:g.onIt x y s=false) :
  Calls prog 184 #[.pointer (some ⟨p,0,none⟩),.int .i64 x,.int .i64 y,s.val] w fun e w'=>e=.returned (.slice none 0 0)∧Below w.heap.size w w':=by
 have B:=Below.alloc (Below.refl w.heap.size w) (Nat.le_refl _) (.cells #[.int .i64 s.fg,.int .i64 s.bg,.int .i64 s.attr] 49);have A:=Qh B;have J:=h.below B;have C:=h.wf;clear h;obtain⟨Y,vo,Lr,X,h⟩:=J;obtain⟨c0,c1,U,V⟩:=zY h;have H:=Zf underlying112 h.rr.own;rw[(Zg h).1]at H;clear h;have G:=Qh hn;have Z:=C.r2;have S:=C.c2;clear hn C;unfold Gr.onIt at G;unfold Sty.val;by_cases h0:0≤y;rotate_left
 ·have I:decide (y<0)=true:=Qt (by omega);go_enter func184,ntmps184;go_wp2_with fail;go_ret;exact⟨rfl,A⟩
 have I:decide (y<0)=false:=Qf (by omega);by_cases h1:y<(g.rows.length:Int);rotate_left
 ·have M:decide ((g.rows.length:Int)≤y)=true:=Qt (by omega);go_enter func184,ntmps184;go_wp2_with fail;go_ret;exact⟨rfl,A⟩
 have M:decide ((g.rows.length:Int)≤y)=false:=Qf (by omega);by_cases h2:0≤x;rotate_left
 ·have L:decide (x<0)=true:=Qt (by omega);go_enter func184,ntmps184;go_wp2_with fail;go_ret;exact⟨rfl,A⟩
 have L:decide (x<0)=false:=Qf (by omega);by_cases h3:x<(g.cols:Int);rotate_left
 ·have N:decide ((g.cols:Int)≤x)=true:=Qt (by omega);go_enter func184,ntmps184;go_wp2_with fail;go_ret;exact⟨rfl,A⟩
 have N:decide ((g.cols:Int)≤x)=false:=Qf (by omega);have E:okS s=false:=by
  have:=G.out;rw[Qt h0,Qt h1,Qt h2,Qt h3]at this;simpa using this
 have O:=Qh hs;clear hs;go_enter func184,ntmps184;go_wp2_with fail;refine(O _ A).mono ?_;rintro e R ⟨rfl,F⟩;rw[E];have D:=Qh (A.trans (F.mono (by simp)));clear F;go_wp2_with fail;go_ret;exact⟨rfl,D⟩
theorem zhA {T:Nat→Nat} {p:Nat} {vr vo:Value} {Lr Lo:List (Value × Rw)} {w:World} {g:Gr} (h0:GAt T p vr vo Lr Lo w g) (x y:Nat) (s:Sty) (hs:ZU w s) (hx:x<g.cols) (hy:y<Lr.length) (hok:okS s=true) :
  Calls prog 184 #[.pointer (some ⟨p,0,none⟩),.int .i64 x,.int .i64 y,s.val] w fun e w'=>e=.returned Lr[y].1∧Below w.heap.size w w':=by
 have A:=Below.alloc (Below.refl w.heap.size w) (Nat.le_refl _) (.cells #[.int .i64 s.fg,.int .i64 s.bg,.int .i64 s.attr] 49);have O:=Qh A;have H:=Qh (h0.mod (.of_below A) id id id (fun _=>id));have D:=h0.wf;have w1:=D.r2;have w2:=D.c2;have C:=(Zg h0).1;clear h0 D;obtain⟨N,R,L,M⟩:=zY H;have Z:=Zf underlying112 H.rr.own;have d0:decide ((y:Int)<0)=false:=Qf (by omega);have d1:decide ((Lr.length:Int)≤(y:Int))=false:=Qf (by omega);have V:decide (Lr.length≤y)=false:=Qf (by omega);have d2:decide ((x:Int)<0)=false:=Qf (by omega);have d3:decide ((g.cols:Int)≤(x:Int))=false:=Qf (by omega);have S:decide (g.cols≤x)=false:=Qf (by omega);clear C;have X:=Qh hs;clear hs A;unfold Sty.val;go_enter func184,ntmps184;go_wp2_with fail;refine(X _ O).mono ?_;rintro e w3 ⟨rfl,F⟩;rw[hok];have E:=Qh (O.trans (F.mono (by simp)));have B:=H.out.mod (.of_below F) id id id (fun _=>id);clear F N R L M;obtain⟨N,R,L,M⟩:=zY B;obtain⟨b,J,c,rfl,_,_⟩:=zE B.rr.own (by omega);obtain⟨Y,r1⟩:=zaJ B.rr.own y hy;have U:=Zw (P:=prog) (size:=2) underlying112 zC b J Lr.length c y hy;have G:=zK (B.ca Lr[y] (List.mem_append_left _ (List.getElem_mem hy))).own;generalize I:Lr[y].1=xv at *;obtain⟨xa,xc,rfl⟩:=G;clear B;go_wp2_with fail;exact Ze rfl rfl rfl ⟨by rw[I];rfl,E⟩
theorem GAt.turned {T:Nat→Nat} {p:Nat} {vr vo:Value} {Lr Lo:List (Value × Rw)} {w w':World} {g:Gr} (h:GAt T p vr vo Lr Lo w g) (k:Nat) (hk:k<Lr.length) {b:Nat} (hb:Lr[k].1.ownBlock=some b)
  (m:Mod T (fun t=>t=10+b) w w') (f:List Cel→List Cel) (ho:zp w' 0 5 Lr[k].1 (f Lr[k].2.cells).length (zt (f Lr[k].2.cells))) (hl:(f Lr[k].2.cells).length=g.cols) (hok:∀ c∈f Lr[k].2.cells,c.Ok) :
  GM T p w' (g.turn k f):=by
 have L:=(Zg h).1;have M:g.rows.getD k noR=Lr[k].2:=by
  rw[← h.er,List.getD_eq_getElem?_getD,List.getElem?_map,List.getElem?_eq_getElem hk];rfl
 have O:∀ k',Lr[k].1.ownBlock=some k'→k'=b:=fun k' e=>(by rw[hb]at e;injection e with e;exact e.symm);have R:∀ x∈Lr++Lo,x.1.ownBlock=some b→x∈Lr++Lo:=fun x hx _=>hx;have E:(Lr.set k (Lr[k].1,{ Lr[k].2 with cells:=f Lr[k].2.cells })).map (·.1.ownBlock)=Lr.map (·.1.ownBlock):=by
  rw[List.map_set];apply List.ext_getElem?;intro j;by_cases hj:j=k
  ·subst hj;rw[List.getElem?_set_self (by simpa using hk),List.getElem?_map,List.getElem?_eq_getElem hk];rfl
  ·rw[List.getElem?_set_ne (fun e=>hj e.symm)]
 have J:zf (Lr.set k (Lr[k].1,{ Lr[k].2 with cells:=f Lr[k].2.cells }))=zf Lr:=by
  unfold zf;rw[List.flatMap_def,List.flatMap_def,List.map_set];congr 1;apply List.ext_getElem?;intro j;by_cases hj:j=k
  ·subst hj;rw[List.getElem?_set_self (by simpa using hk),List.getElem?_map,List.getElem?_eq_getElem hk];rfl
  ·rw[List.getElem?_set_ne (fun e=>hj e.symm)]
 refine⟨vr,vo,Lr.set k (Lr[k].1,{ Lr[k].2 with cells:=f Lr[k].2.cells }),Lo,⟨fun k' hk'=>Nat.lt_of_lt_of_le (h.lt k' hk') m.size,?_,h.tp,?_,h.ro.mod m (by omega),?_,h.eo,fun x hx=>?_,?_,?_⟩⟩
 ·exact(m.block p (zq h.blk) (by rw[h.tp];omega)).trans h.blk
 ·rw[List.length_set,J];exact h.rr.mod m (by omega)
 ·rw[List.map_set,h.er];unfold Gr.turn;rw[M]
 ·rcases List.mem_append.1 hx with hx | hx
  ·obtain⟨j,hj⟩:=List.mem_iff_getElem?.1 hx;by_cases hjk:j=k
   ·subst hjk;rw[List.getElem?_set_self hk]at hj;injection hj with hj;subst hj;exact⟨ho,(h.ca _ (List.mem_append_left _ (List.getElem_mem hk))).tag⟩
   ·rw[List.getElem?_set_ne (fun e=>hjk e.symm)]at hj;have B:j<Lr.length:=(List.getElem?_eq_some_iff.1 hj).1;have F:Lr[j]=x:=(List.getElem?_eq_some_iff.1 hj).2;have D:x∈Lr++Lo:=List.mem_append_left _ (List.mem_of_getElem? hj);refine(h.ca x D).mod m (fun q hq e=>?_);have I:q=b:=(by omega);subst I;have A:=h.nd;rw[List.map_append,List.nodup_append]at A;have H:=A.1;have N:=List.pairwise_iff_getElem.1 H;have G:∀ i (hi:i<Lr.length),(Lr.map (·.1.ownBlock))[i]'(by simpa using hi)=Lr[i].1.ownBlock:=fun i hi=>(by rw[List.getElem_map]);rcases Nat.lt_trichotomy j k with hlt | heq | hgt
    ·refine N j k (by simpa using B) (by simpa using hk) hlt ?_;rw[G j B,G k hk,F,hq,hb]
    ·exact hjk heq
    ·refine N k j (by simpa using hk) (by simpa using B) hgt ?_;rw[G j B,G k hk,F,hq,hb]
  ·have D:x∈Lr++Lo:=List.mem_append_right _ hx;refine(h.ca x D).mod m (fun q hq e=>?_);have I:q=b:=(by omega);subst I;have A:=h.nd;rw[List.map_append,List.nodup_append]at A;exact A.2.2 _ (List.mem_map_of_mem (List.getElem_mem hk)) _ (List.mem_map_of_mem hx) (by rw[hb,hq])
 ·rw[List.map_append,E,← List.map_append];exact h.nd
 ·have C:=h.wf;refine⟨C.c1,C.c2,?_,?_,C.li,C.ol,fun r hr'=>?_⟩
  ·show 1≤(g.rows.set k _).length;rw[List.length_set];exact C.r1
  ·show(g.rows.set k _).length≤120;rw[List.length_set];exact C.r2
  ·have hr2:r∈g.rows.set k { g.rows.getD k noR with cells:=f (g.rows.getD k noR).cells }++g.old:=hr';rcases List.mem_append.1 hr2 with hm | hm
   ·rcases List.mem_or_eq_of_mem_set hm with hm | rfl
    ·exact C.ce r (List.mem_append_left _ hm)
    ·rw[M];exact⟨hl,hok⟩
   ·exact C.ce r (List.mem_append_right _ hm)
end
section
open Go.RowKit
def Gr.putOk (g:Gr) (x y:Int) (c:Cel):Bool:=g.onIt x y c.sty && (decide (1≤c.width) && (c.width == wid c.rune && decide (x+c.width≤(g.cols:Int))))
def Gr.put (g:Gr) (x y:Int) (c:Cel):Gr:=if g.putOk x y c=true then g.turn y.toNat (fun l=>zcY l x.toNat c) else g
theorem zjS (r:Int):wid r≤2:=by
 unfold wid
 repeat' split
 all_goals decide
theorem zbn {α:Type} {l m:List α} {i:Nat} {x:α} (h:x∈Za l i m):x∈l∨x∈m:=by
 unfold Za at h;rcases List.mem_append.1 h with h | h
 ·rcases List.mem_append.1 h with h | h
  ·exact .inl (List.mem_of_mem_take h)
  ·exact .inr h
 ·exact .inl (List.mem_of_mem_drop h)
theorem zaV (s:Sty):(zM s).Ok:=⟨by show(-2147483648:Int)≤32;decide,by show(32:Int)≤2147483647;decide⟩
theorem ziE {l:List Cel} {x n:Nat} {s:Sty} (h:∀ c∈l,c.Ok):∀ c∈zat l x n s,c.Ok:=fun c hc=>by
 rcases zbn hc with hc | hc
 ·exact h c hc
 ·rw[List.eq_of_mem_replicate hc];exact zaV s
theorem zb2 {l:List Cel} {x:Int} (h:∀ c∈l,c.Ok):∀ c∈zB l x,c.Ok:=by
 unfold zB;split
 ·exact ziE h
 ·exact h
theorem zlS {α:Type} (l:List α) (x:Nat) (a b:α) (h:x+2≤l.length):Za (Za l x [a]) (x+1) [b]=Za l x [a,b]:=by
 apply List.ext_getElem?;intro j;rw[zby _ _ _ (by rw[ZV _ _ _ (by simp;omega)];simp;omega),zby _ _ _ (by simp;omega),zby _ _ _ (by simp;omega)];simp only[List.length_cons,List.length_nil];by_cases c1:j<x
 ·rw[if_pos (by omega),if_pos c1,if_pos c1]
 rw[if_neg c1,if_neg c1];by_cases c2:j<x+1
 ·rw[if_pos c2,if_pos c2,if_pos (by omega),show j-x=0 by omega];rfl
 rw[if_neg c2];by_cases c3:j<x+1+1
 ·rw[if_pos c3,if_pos (by omega),show j-(x+1)=0 by omega,show j-x=1 by omega];rfl
 ·rw[if_neg c3,if_neg c2,if_neg (by omega)]
theorem zna {l:List Cel} {x:Nat} {c:Cel} (h:x+(if c.width=2 then 2 else 1)≤l.length):(zcY l x c).length=l.length:=by
 unfold zcY;rw[ZV _ _ _ (by
  rw[zN,zN];split
  ·rename_i h2;rw[if_pos h2]at h;exact h
  ·rename_i h2;rw[if_neg h2]at h;exact h),zN,zN]
theorem zol {l:List Cel} {x:Nat} {c:Cel} (h:∀ c∈l,c.Ok) (hc:c.Ok):∀ d∈zcY l x c,d.Ok:=fun d hd=>by
 unfold zcY at hd;rcases zbn hd with hd | hd
 ·exact zb2 (zb2 h) d hd
 ·split at hd
  ·rcases List.mem_cons.1 hd with rfl | hd
   ·exact hc
   ·rw[List.mem_singleton]at hd;subst hd;exact⟨by show(-2147483648:Int)≤0;decide,by show(0:Int)≤2147483647;decide⟩
  ·rw[List.mem_singleton]at hd;subst hd;exact hc
theorem zkx {T:Nat→Nat} {p:Nat} {w:World} {g:Gr} (h:GM T p w g) (x y:Int) (c:Cel) (hs:ZU w c.sty) (hck:c.Ok) :
  Calls prog 145 #[.pointer (some ⟨p,0,none⟩),.int .i64 x,.int .i64 y,c.val] w fun e w'=>e=.returned (.tuple #[])∧zh (own T w) w w'∧GM T p w' (g.put x y c):=by
 obtain⟨C,cw,cs⟩:=c;dsimp only at hs;have D0:=Below.alloc (Below.refl w.heap.size w) (Nat.le_refl _) (.cells #[.int .i32 C,.int .i64 cw,.int .i64 cs.fg,.int .i64 cs.bg,.int .i64 cs.attr] 96);have H0:=zH w (.cells #[.int .i32 C,.int .i64 cw,.int .i64 cs.fg,.int .i64 cs.bg,.int .i64 cs.attr] 96);have F0:=Qh (h.below D0);have G1:=Qh h.lt;clear h;cases hon:g.onIt x y cs
 ·have HE:=Qh (show g.put x y ⟨C,cw,cs⟩=g by unfold Gr.put Gr.putOk;rw[hon];rfl);have H:=Qh (zkw F0 x y cs (hs.below D0) hon);have hq:=fun (wx:World)=>Lib.run_eql_slice_nil (P:=prog) wx 56 96 none 0 0 0 0 underlying56;unfold Sty.val at H;unfold Cel.val;go_enter func145,ntmps145;go_wp2_with fail;refine H.mono ?_;rintro e w2 ⟨rfl,b2⟩;have J0:=Qh (F0.below b2);have E0:=Qh (D0.trans (b2.mono (by simp)));clear b2 H;go_wp2_with fail;go_quiet (fail);go_wp2_with fail;refine zdh rfl rfl ⟨rfl,zh.of_below (zm E0 nq),?_⟩;rw[HE.out];exact J0.below (zm (Below.refl _ _) nq)
 ·have Z:=hon;unfold Gr.onIt at Z;simp only[Bool.and_eq_true,decide_eq_true_eq]at Z;obtain⟨n1,n2,n3,n4,n5⟩:=Z;obtain⟨xn,rfl⟩:∃ k:Nat,x=(k:Int):=⟨x.toNat,by omega⟩;obtain⟨I,rfl⟩:∃ k:Nat,y=(k:Int):=⟨y.toNat,by omega⟩;obtain⟨vr,vo,Lr,Lo,Y⟩:=F0.out;have U1:=(Zg Y).1;have L:I<Lr.length:=(by omega);have O1:=Y.wf.c2;have R:Lr[I].2.cells.length=g.cols:=(Y.wf.ce _ (List.mem_append_left _ (by rw[← Y.er];exact List.mem_map_of_mem (List.getElem_mem L)))).1;have T0:∀ c∈Lr[I].2.cells,c.Ok:=(Y.wf.ce _ (List.mem_append_left _ (by rw[← Y.er];exact List.mem_map_of_mem (List.getElem_mem L)))).2;have V1:g.rows.getD I noR=Lr[I].2:=by
   rw[← Y.er,List.getD_eq_getElem?_getD,List.getElem?_map,List.getElem?_eq_getElem L];rfl
  have H:=Qh (zhA Y xn I cs (hs.below D0) (by omega) L n5);have N0:=Y.ca Lr[I] (List.mem_append_left _ (List.getElem_mem L));have HC:=Qh N0;obtain⟨b,E,vc,V,R1,A2⟩:=zE N0.own (by omega);rw[R]at V R1;have HA:=Qh Y;clear Y N0;rw[V]at H;have hq:=fun (wx:World)=>Lib.run_eql_slice_nil (P:=prog) wx 56 96 (some ⟨b,E,none⟩) g.cols vc 0 0 underlying56;unfold Sty.val at H;unfold Cel.val;go_enter func145,ntmps145;go_wp2_with fail;refine H.mono ?_;rintro e w2 ⟨rfl,b2⟩;have J0:=Qh (F0.below b2);have X0:=Qh (HA.mod (.of_below b2) id id id (fun _=>id));have E0:=Qh (D0.trans (b2.mono (by simp)));have D:=zr H0 b2 (by simp);have c0:w2.cell? ⟨w.heap.size,0,none⟩=some (.int .i32 C):=za D 0;have c1:w2.cell? ⟨w.heap.size,1,none⟩=some (.int .i64 cw):=za D 1;have c2:w2.cell? ⟨w.heap.size,2,none⟩=some (.int .i64 cs.fg):=za D 2;have c3:w2.cell? ⟨w.heap.size,3,none⟩=some (.int .i64 cs.bg):=za D 3;have c4:w2.cell? ⟨w.heap.size,4,none⟩=some (.int .i64 cs.attr):=za D 4;clear b2 H H0;by_cases hw1:1≤cw;rotate_left
  ·have d1:decide (cw<1)=true:=Qt (by omega);have HE:=Qh (show g.put xn I ⟨C,cw,cs⟩=g by unfold Gr.put Gr.putOk;rw[Qf hw1];simp);go_wp2_with fail;go_quiet (fail);go_wp2_with fail;refine zdh rfl rfl ⟨rfl,zh.of_below (zm E0 nq),?_⟩;rw[HE.out];exact J0.below (zm (Below.refl _ _) nq)
  have d1:decide (cw<1)=false:=Qf (by omega);have N1:=zjS C;have B0:w.heap.size<w2.heap.size:=zq D;have g0:=(zY X0).1;have X1:=Below.refl w2.heap.size w2;have M0:=Qh (X0.mod (.of_below (Below.refl _ _).drew) id id id (fun _=>id));have U:=Qh E0.drew;by_cases hw2:cw=wid C;rotate_left
  ·have d2:(cw != wid C)=true:=(by simp[bne,Qb hw2]);have HE:=Qh (show g.put xn I ⟨C,cw,cs⟩=g by unfold Gr.put Gr.putOk;rw[Qb hw2];simp);go_upto_region 2 with fail;refine wp_region_held_drew (S:=(fun w'=>w'.cell? ⟨w.heap.size,0,none⟩=some (.int .i32 C)∧w'.cell? ⟨w.heap.size,1,none⟩=some (.int .i64 cw)∧w'.cell? ⟨p,0,none⟩=some (.int .i64 g.cols))) (by kernel_rfl) ⟨c0,c1,g0⟩ (fun hHeld=>?_);refine wpAnyH_take (i:=0) (oi:=?o201) (v:=?v0) ?h201 (by kernel_rfl) (by kernel_rfl) (by kernel_rfl) ?q201 (Or.inl ⟨?w201,?y0⟩) hHeld ?r0
   case h201=>(simp only[List.getElem?_toArray,List.getElem?_cons_zero];rfl)
   case q201=>exact fun _ _ _ h=>h
   case w201=>rfl
   case y0 =>
    intro J A;(try dsimp only at A)
    go_simp
    (try (with_reducible rfl))
   try simp only[Act.put,List.setIfInBounds_toArray,List.set_cons_zero,List.set_cons_succ]
   refine wpAnyH_take (i:=1) (oi:=?o202) (v:=?v1) ?h202 (by kernel_rfl) (by kernel_rfl) (by kernel_rfl) ?q202 (Or.inl ⟨?w202,?y1⟩) hHeld ?r1
   case h202=>(simp only[List.getElem?_toArray,List.getElem?_cons_succ,List.getElem?_cons_zero];rfl)
   case q202=>exact fun _ _ _ h=>h
   case w202=>rfl
   case y1 =>
    intro J A;(try dsimp only at A)
    go_simp
    (try (with_reducible rfl))
   try simp only[Act.put,List.setIfInBounds_toArray,List.set_cons_zero,List.set_cons_succ]
   refine wpAnyH_take (i:=2) (oi:=?o203) (v:=?v2) ?h203 (by kernel_rfl) (by kernel_rfl) (by kernel_rfl) ?q203 (Or.inl ⟨?w203,?y2⟩) hHeld ?r2
   case h203=>(simp only[List.getElem?_toArray,List.getElem?_cons_succ,List.getElem?_cons_zero];rfl)
   case q203=>exact fun _ _ _ h=>h
   case w203=>rfl
   case y2 =>
    intro J A;(try dsimp only at A)
    go_simp
    (try (with_reducible rfl))
   try simp only[Act.put,List.setIfInBounds_toArray,List.set_cons_zero,List.set_cons_succ]
   refine wpAnyH_take (i:=3) (oi:=?o204) (v:=?v3) ?h204 (by kernel_rfl) (by kernel_rfl) (by kernel_rfl) ?q204 (Or.inl ⟨?w204,?y3⟩) hHeld ?r3
   case h204=>(simp only[List.getElem?_toArray,List.getElem?_cons_succ,List.getElem?_cons_zero];rfl)
   case q204=>exact fun _ _ _ h=>h
   case w204=>rfl
   case y3 =>
    intro J A;(try dsimp only at A)
    go_simp
    (try (with_reducible rfl))
   try simp only[Act.put,List.setIfInBounds_toArray,List.set_cons_zero,List.set_cons_succ]
   refine wpAnyH_take (i:=4) (oi:=?o205) (v:=?v4) ?h205 (by kernel_rfl) (by kernel_rfl) (by kernel_rfl) ?q205 (Or.inl ⟨?w205,?y4⟩) hHeld ?r4
   case h205=>(simp only[List.getElem?_toArray,List.getElem?_cons_succ,List.getElem?_cons_zero];rfl)
   case q205=>exact fun _ _ _ h=>h
   case w205=>rfl
   case y4 =>
    intro J A;(try dsimp only at A)
    go_simp
    (try (with_reducible rfl))
   try simp only[Act.put,List.setIfInBounds_toArray,List.set_cons_zero,List.set_cons_succ]
   refine wpAnyH_take (i:=5) (oi:=?o206) (v:=?v5) ?h206 (by kernel_rfl) (by kernel_rfl) (by kernel_rfl) ?q206 (Or.inl ⟨?w206,?y5⟩) hHeld ?r5
   case h206=>(simp only[List.getElem?_toArray,List.getElem?_cons_succ,List.getElem?_cons_zero];rfl)
   case q206=>exact fun _ _ _ h=>h
   case w206=>rfl
   case y5 =>
    intro J A;(try dsimp only at A)
    go_simp
    (try (with_reducible rfl))
   try simp only[Act.put,List.setIfInBounds_toArray,List.set_cons_zero,List.set_cons_succ]
   refine wpAnyH_take (i:=6) (oi:=?o207) (v:=?v6) ?h207 (by kernel_rfl) (by kernel_rfl) (by kernel_rfl) ?q207 (Or.inl ⟨?w207,?y6⟩) hHeld ?r6
   case h207=>(simp only[List.getElem?_toArray,List.getElem?_cons_succ,List.getElem?_cons_zero];rfl)
   case q207=>exact fun _ _ _ h=>h
   case w207=>rfl
   case y6 =>
    intro J A;(try dsimp only at A)
    go_simp
    (try (with_reducible rfl))
   try simp only[Act.put,List.setIfInBounds_toArray,List.set_cons_zero,List.set_cons_succ]
   refine wpAnyH_take (i:=7) (oi:=?o208) (v:=?v7) ?h208 (by kernel_rfl) (by kernel_rfl) (by kernel_rfl) ?q208 (Or.inl ⟨?w208,?y7⟩) hHeld ?r7
   case h208=>(simp only[List.getElem?_toArray,List.getElem?_cons_succ,List.getElem?_cons_zero];rfl)
   case q208=>exact fun _ _ _ h=>h
   case w208=>rfl
   case y7 =>
    intro J A;(try dsimp only at A)
    go_simp
    (try (with_reducible rfl))
   try simp only[Act.put,List.setIfInBounds_toArray,List.set_cons_zero,List.set_cons_succ]
   refine wpAnyH_take (i:=8) (oi:=?o209) (v:=?v8) ?h209 (by kernel_rfl) (by kernel_rfl) (by kernel_rfl) ?q209 (Or.inl ⟨?w209,?y8⟩) hHeld ?r8
   case h209=>(simp only[List.getElem?_toArray,List.getElem?_cons_succ,List.getElem?_cons_zero];rfl)
   case q209=>exact fun _ _ _ h=>h
   case w209=>rfl
   case y8 =>
    intro J A;(try dsimp only at A)
    go_simp
    (try (with_reducible rfl))
   try simp only[Act.put,List.setIfInBounds_toArray,List.set_cons_zero,List.set_cons_succ]
   refine wpAnyH_take (i:=9) (oi:=?o210) (v:=?v9) ?h210 (by kernel_rfl) (by kernel_rfl) (by kernel_rfl) ?q210 (Or.inl ⟨?w210,?y9⟩) hHeld ?r9
   case h210=>(simp only[List.getElem?_toArray,List.getElem?_cons_succ,List.getElem?_cons_zero];rfl)
   case q210=>exact fun _ _ _ h=>h
   case w210=>rfl
   case y9 =>
    intro J A;(try dsimp only at A)
    go_simp
    (try (with_reducible rfl))
   try simp only[Act.put,List.setIfInBounds_toArray,List.set_cons_zero,List.set_cons_succ]
   refine wpAnyH_take (i:=10) (oi:=?o211) (v:=?v10) ?h211 (by kernel_rfl) (by kernel_rfl) (by kernel_rfl) ?q211 (Or.inl ⟨?w211,?y10⟩) hHeld ?r10
   case h211=>(simp only[List.getElem?_toArray,List.getElem?_cons_succ,List.getElem?_cons_zero];rfl)
   case q211=>exact fun _ _ _ h=>h
   case w211=>rfl
   case y10 =>
    intro J A;(try dsimp only at A)
    go_simp
    (try (with_reducible rfl))
   try simp only[Act.put,List.setIfInBounds_toArray,List.set_cons_zero,List.set_cons_succ]
   refine wpAnyH_take (i:=11) (oi:=?o212) (v:=?v11) ?h212 (by kernel_rfl) (by kernel_rfl) (by kernel_rfl) ?q212 (Or.inl ⟨?w212,?y11⟩) hHeld ?r11
   case h212=>(simp only[List.getElem?_toArray,List.getElem?_cons_succ,List.getElem?_cons_zero];rfl)
   case q212=>exact fun _ _ _ h=>h
   case w212=>rfl
   case y11 =>
    intro J A;(try dsimp only at A)
    go_simp
    (try (with_reducible rfl))
   try simp only[Act.put,List.setIfInBounds_toArray,List.set_cons_zero,List.set_cons_succ]
   refine wpAnyH_ready (rs:=[12]) (by kernel_rfl) (by simp) ?_;refine AllReadyH.cons (o:=?o213) ?h213 ?k213 AllReadyH.nil
   case h213=>(simp only[List.getElem?_toArray,List.getElem?_cons_succ,List.getElem?_cons_zero];rfl)
   intro K hK;rw[if_pos (by rfl)];go_wp2_with fail;refine(zb7 C _).mono ?_;rintro e w4 ⟨rfl,M⟩;have G:=Qh (M0.mod (.of_below M) id id id (fun _=>id));have C0:=Qh (U.trans (M.mono U.size));have B:=zr (Zb D) M B0;refine hK.out _ _ ⟨za B 0,za B 1,(zY G).1⟩ (fun hHeld2=>?_);clear hK K hHeld B M
   try simp only[Act.put,List.setIfInBounds_toArray,List.set_cons_zero,List.set_cons_succ]
   refine wpAnyH_take (i:=13) (oi:=?o214) (v:=?v13) ?h214 (by kernel_rfl) (by kernel_rfl) (by kernel_rfl) ?q214 (Or.inl ⟨?w214,?y13⟩) hHeld2 ?r13
   case h214=>(simp only[List.getElem?_toArray,List.getElem?_cons_succ,List.getElem?_cons_zero];rfl)
   case q214=>exact fun _ _ _ h=>h
   case w214=>rfl
   case y13 =>
    intro J A;(try dsimp only at A)
    go_simp
    (try (with_reducible rfl))
   try simp only[Act.put,List.setIfInBounds_toArray,List.set_cons_zero,List.set_cons_succ]
   refine wpAnyH_take (i:=14) (oi:=?o215) (v:=?v14) ?h215 (by kernel_rfl) (by kernel_rfl) (by kernel_rfl) ?q215 (Or.inl ⟨?w215,?y14⟩) hHeld2 ?r14
   case h215=>(simp only[List.getElem?_toArray,List.getElem?_cons_succ,List.getElem?_cons_zero];rfl)
   case q215=>exact fun _ _ _ h=>h
   case w215=>rfl
   case y14 =>
    intro J A;(try dsimp only at A)
    go_simp
    (try (with_reducible rfl))
   try simp only[Act.put,List.setIfInBounds_toArray,List.set_cons_zero,List.set_cons_succ]
   refine wpAnyH_take (i:=15) (oi:=?o216) (v:=?v15) ?h216 (by kernel_rfl) (by kernel_rfl) (by kernel_rfl) ?q216 (Or.inl ⟨?w216,?y15⟩) hHeld2 ?r15
   case h216=>(simp only[List.getElem?_toArray,List.getElem?_cons_succ,List.getElem?_cons_zero];rfl)
   case q216=>exact fun _ _ _ h=>h
   case w216=>rfl
   case y15 =>
    intro J A;(try dsimp only at A)
    go_simp
    (try (with_reducible rfl))
   try simp only[Act.put,List.setIfInBounds_toArray,List.set_cons_zero,List.set_cons_succ]
   refine wpAnyH_take (i:=16) (oi:=?o217) (v:=undef) ?h217 (by kernel_rfl) (by kernel_rfl) (by kernel_rfl) ?q217 (Or.inr ⟨?w217,rfl⟩) hHeld2 ?s217
   case h217=>(simp only[List.getElem?_toArray,List.getElem?_cons_succ,List.getElem?_cons_zero];rfl)
   case q217=>exact fun _ _ _ h=>h
   case w217=>rfl
   try simp only[Act.put,List.setIfInBounds_toArray,List.set_cons_zero,List.set_cons_succ]
   refine wpAnyH_take (i:=17) (oi:=?o218) (v:=undef) ?h218 (by kernel_rfl) (by kernel_rfl) (by kernel_rfl) ?q218 (Or.inr ⟨?w218,rfl⟩) hHeld2 ?s218
   case h218=>(simp only[List.getElem?_toArray,List.getElem?_cons_succ,List.getElem?_cons_zero];rfl)
   case q218=>exact fun _ _ _ h=>h
   case w218=>rfl
   try simp only[Act.put,List.setIfInBounds_toArray,List.set_cons_zero,List.set_cons_succ]
   refine wpAnyH_take (i:=18) (oi:=?o219) (v:=undef) ?h219 (by kernel_rfl) (by kernel_rfl) (by kernel_rfl) ?q219 (Or.inr ⟨?w219,rfl⟩) hHeld2 ?s219
   case h219=>(simp only[List.getElem?_toArray,List.getElem?_cons_succ,List.getElem?_cons_zero];rfl)
   case q219=>exact fun _ _ _ h=>h
   case w219=>rfl
   try simp only[Act.put,List.setIfInBounds_toArray,List.set_cons_zero,List.set_cons_succ]
   refine wpAnyH_take (i:=19) (oi:=?o220) (v:=undef) ?h220 (by kernel_rfl) (by kernel_rfl) (by kernel_rfl) ?q220 (Or.inr ⟨?w220,rfl⟩) hHeld2 ?s220
   case h220=>(simp only[List.getElem?_toArray,List.getElem?_cons_succ,List.getElem?_cons_zero];rfl)
   case q220=>exact fun _ _ _ h=>h
   case w220=>rfl
   try simp only[Act.put,List.setIfInBounds_toArray,List.set_cons_zero,List.set_cons_succ]
   refine wpAnyH_take (i:=20) (oi:=?o221) (v:=undef) ?h221 (by kernel_rfl) (by kernel_rfl) (by kernel_rfl) ?q221 (Or.inr ⟨?w221,rfl⟩) hHeld2 ?s221
   case h221=>(simp only[List.getElem?_toArray,List.getElem?_cons_succ,List.getElem?_cons_zero];rfl)
   case q221=>exact fun _ _ _ h=>h
   case w221=>rfl
   try simp only[Act.put,List.setIfInBounds_toArray,List.set_cons_zero,List.set_cons_succ]
   refine wpAnyH_take (i:=21) (oi:=?o222) (v:=undef) ?h222 (by kernel_rfl) (by kernel_rfl) (by kernel_rfl) ?q222 (Or.inr ⟨?w222,rfl⟩) hHeld2 ?s222
   case h222=>(simp only[List.getElem?_toArray,List.getElem?_cons_succ,List.getElem?_cons_zero];rfl)
   case q222=>exact fun _ _ _ h=>h
   case w222=>rfl
   try simp only[Act.put,List.setIfInBounds_toArray,List.set_cons_zero,List.set_cons_succ]
   refine wpAnyH_take (i:=22) (oi:=?o223) (v:=undef) ?h223 (by kernel_rfl) (by kernel_rfl) (by kernel_rfl) ?q223 (Or.inr ⟨?w223,rfl⟩) hHeld2 ?s223
   case h223=>(simp only[List.getElem?_toArray,List.getElem?_cons_succ,List.getElem?_cons_zero];rfl)
   case q223=>exact fun _ _ _ h=>h
   case w223=>rfl
   try simp only[Act.put,List.setIfInBounds_toArray,List.set_cons_zero,List.set_cons_succ]
   refine wpAnyH_take (i:=23) (oi:=?o224) (v:=undef) ?h224 (by kernel_rfl) (by kernel_rfl) (by kernel_rfl) ?q224 (Or.inr ⟨?w224,rfl⟩) hHeld2 ?s224
   case h224=>(simp only[List.getElem?_toArray,List.getElem?_cons_succ,List.getElem?_cons_zero];rfl)
   case q224=>exact fun _ _ _ h=>h
   case w224=>rfl
   try simp only[Act.put,List.setIfInBounds_toArray,List.set_cons_zero,List.set_cons_succ]
   refine wpAnyH_take (i:=24) (oi:=?o225) (v:=undef) ?h225 (by kernel_rfl) (by kernel_rfl) (by kernel_rfl) ?q225 (Or.inr ⟨?w225,rfl⟩) hHeld2 ?s225
   case h225=>(simp only[List.getElem?_toArray,List.getElem?_cons_succ,List.getElem?_cons_zero];rfl)
   case q225=>exact fun _ _ _ h=>h
   case w225=>rfl
   try simp only[Act.put,List.setIfInBounds_toArray,List.set_cons_zero,List.set_cons_succ]
   refine wpAnyH_take (i:=25) (oi:=?o226) (v:=?v25) ?h226 (by kernel_rfl) (by kernel_rfl) (by kernel_rfl) ?q226 (Or.inl ⟨?w226,?y25⟩) hHeld2 ?r25
   case h226=>(simp only[List.getElem?_toArray,List.getElem?_cons_succ,List.getElem?_cons_zero];rfl)
   case q226=>exact fun _ _ _ h=>h
   case w226=>rfl
   case y25 =>
    intro J A;(try dsimp only at A)
    go_simp
    (try (with_reducible rfl))
   try simp only[Act.put,List.setIfInBounds_toArray,List.set_cons_zero,List.set_cons_succ]
   refine wpAnyH_done (by kernel_rfl) ?_ _;go_wp2_with fail;refine zdh rfl rfl ⟨rfl,zh.of_below C0,?_⟩;rw[HE.out];exact⟨_,_,_,_,G⟩
  have d2:(cw != wid C)=false:=(by simp[bne,hw2]);have T1:cw≤2:=(by omega);have D1:=Qh hw2;clear hw2 N1;have B1:IntKind.i64.wrap ((xn:Int)+cw)=(xn:Int)+cw:=zd _ (by omega) (by omega);by_cases hw3:(xn:Int)+cw≤(g.cols:Int);rotate_left
  ·have d3:decide ((g.cols:Int)<(xn:Int)+cw)=true:=Qt (by omega);have HE:=Qh (show g.put xn I ⟨C,cw,cs⟩=g by unfold Gr.put Gr.putOk;rw[Qf hw3];simp);go_upto_region 2 with fail
   go_region_held3 (fun w'=>w'.cell? ⟨w.heap.size,0,none⟩=some (.int .i32 C)∧w'.cell? ⟨w.heap.size,1,none⟩=some (.int .i64 cw)∧w'.cell? ⟨p,0,none⟩=some (.int .i64 g.cols)) (go_keep)
    (first | (go_at_call 76;refine(zb7 C _).mono ?_;rintro e w4 ⟨rfl,M⟩;have G:=Qh (M0.mod (.of_below M) id id id (fun _=>id));have C0:=Qh (U.trans (M.mono U.size));have B:=zr (Zb D) M B0;have z0:w4.cell? ⟨w.heap.size,0,none⟩=some (.int .i32 C):=za B 0;have z1:w4.cell? ⟨w.heap.size,1,none⟩=some (.int .i64 cw):=za B 1;have z2:=(zY G).1;have X:=Qh B;clear M B))
   go_wp2_with fail;refine zdh rfl rfl ⟨rfl,zh.of_below C0,?_⟩;rw[HE.out];exact⟨_,_,_,_,G⟩
  have d3:decide ((g.cols:Int)<(xn:Int)+cw)=false:=Qf (by omega);have HE:=Qh (show g.put xn I ⟨C,cw,cs⟩=g.turn I (fun l=>zcY l xn ⟨C,cw,cs⟩) by
   unfold Gr.put Gr.putOk;rw[hon,Qt hw1,Qt hw3,beq_iff_eq.2 D1.out,Int.toNat_natCast,Int.toNat_natCast];rfl)
  go_upto_region 2 with fail
  go_region_held3 (fun w'=>w'.cell? ⟨w.heap.size,0,none⟩=some (.int .i32 C)∧w'.cell? ⟨w.heap.size,1,none⟩=some (.int .i64 cw)∧w'.cell? ⟨p,0,none⟩=some (.int .i64 g.cols)) (go_keep)
   (first | (go_at_call 76;refine(zb7 C _).mono ?_;rintro e w4 ⟨rfl,M⟩;have G:=Qh (M0.mod (.of_below M) id id id (fun _=>id));have C0:=Qh (U.trans (M.mono U.size));have B:=zr (Zb D) M B0;have z0:w4.cell? ⟨w.heap.size,0,none⟩=some (.int .i32 C):=za B 0;have z1:w4.cell? ⟨w.heap.size,1,none⟩=some (.int .i64 cw):=za B 1;have z2:=(zY G).1;have X:=Qh B;clear M B))
  go_wp2_with fail;have I1:T b=10+b:=by
   obtain⟨q,e1,e2⟩:=HC.out.tag;rw[V]at e1;simp only[Value.ownBlock]at e1;injection e1 with e1;subst e1;exact e2
  have Z1:b<w.heap.size:=G1.out b (by omega);have O4:=(G.ca Lr[I] (List.mem_append_left _ (List.getElem_mem L))).own;rw[V,R]at O4;generalize O0:Lr[I].2.cells=lx at *;have V0:g.cols≤1000000:=(by omega);refine(zb1 lx xn b E g.cols vc w4 O4 R V0 (by omega)).mono ?_;rintro e w5 ⟨rfl,g5,o5⟩;have B:=X.out;have O:=zl B g5 (by intro e;injection e with e;omega);have e0:w5.cell? ⟨w.heap.size,0,none⟩=some (.int .i32 C):=za O 0;have e1:w5.cell? ⟨w.heap.size,1,none⟩=some (.int .i64 cw):=za O 1;have J1:=Qh o5;have L1:=Qh O;have C1:=Qh g5;clear o5 O g5 O4 z0 z1 z2 B X c0 c1 c2 c3 c4 g0 D;go_wp2_with fail;refine(zb1 (zB lx xn) ((xn:Int)+cw) b E g.cols vc w5 J1 (by rw[zN];exact R) V0 (by omega)).mono ?_;rintro e w6 ⟨rfl,g6,o6⟩;have F:=zl L1 g6 (by intro e;injection e with e;omega);have H1:=Qh (Zc C1 g6);have F1:=Qh F;have f0:w6.cell? ⟨w.heap.size,0,none⟩=some (.int .i32 C):=za F 0;have f1:w6.cell? ⟨w.heap.size,1,none⟩=some (.int .i64 cw):=za F 1;have f2:w6.cell? ⟨w.heap.size,2,none⟩=some (.int .i64 cs.fg):=za F 2;have f3:w6.cell? ⟨w.heap.size,3,none⟩=some (.int .i64 cs.bg):=za F 3;have f4:w6.cell? ⟨w.heap.size,4,none⟩=some (.int .i64 cs.attr):=za F 4;have M1:(zB (zB lx xn) ((xn:Int)+cw)).length=g.cols:=(by rw[zN,zN];exact R);have Y1:=Zw (P:=prog) (size:=5) underlying56 zT b E g.cols vc xn (by omega);have G0:=zcC (P:=prog) zT o6 xn (by omega) #[.int .i32 C,.int .i64 cw,.int .i64 cs.fg,.int .i64 cs.bg,.int .i64 cs.attr] rfl (zcZ ⟨C,cw,cs⟩);have HP:=zak o6 (xn*5) (zt [(⟨C,cw,cs⟩:Cel)]) (by rw[zbj];simp;omega);rw[← zb4]at HP;have g7:=zV w6 b (E+xn*5) (zt [(⟨C,cw,cs⟩:Cel)]);replace G0:(storeVar 96 ⟨b,E+xn*5,none⟩ (.agg #[.int .i32 C,.int .i64 cw,.int .i64 cs.fg,.int .i64 cs.bg,.int .i64 cs.attr])).run prog w6=.ok () (w6.setCells b (E+xn*5) (zt [(⟨C,cw,cs⟩:Cel)])):=G0;have R0:=Qh (Zc H1 g7);have N:=zl F1 g7 (by intro e;injection e with e;omega);have L0:=Qh HP;clear HP g7 o6 g6 e0 e1;generalize w6.setCells b (E+xn*5) (zt [(⟨C,cw,cs⟩:Cel)])=w7 at *;have i1:w7.cell? ⟨w.heap.size,1,none⟩=some (.int .i64 cw):=za N 1;have i2:w7.cell? ⟨w.heap.size,2,none⟩=some (.int .i64 cs.fg):=za N 2;have i3:w7.cell? ⟨w.heap.size,3,none⟩=some (.int .i64 cs.bg):=za N 3;have i4:w7.cell? ⟨w.heap.size,4,none⟩=some (.int .i64 cs.attr):=za N 4;have U0:=Qh (show ∀ w',w4.grownBy w' (some b)→zh (own T w) w w' from fun w' g'=>(zh.of_below C0).trans (zh.of_gb g' (fun k hk=>.inl (by injection hk with hk;subst hk;omega))));have I0:=Qh (show ∀ w',w4.grownBy w' (some b)→zp w' 0 5 (.slice (some ⟨b,E,none⟩) g.cols vc) g.cols (zt (zcY lx xn ⟨C,cw,cs⟩))→GM T p w' (g.turn I (fun l=>zcY l xn ⟨C,cw,cs⟩)) from fun w' g' o'=>by
   have S0:(zcY lx xn ⟨C,cw,cs⟩).length=g.cols:=by
    rw[zna (by
     show xn+(if cw=2 then 2 else 1)≤lx.length;split <;> omega)]
    exact R
   refine G.turned I L (b:=b) (by rw[V];rfl) (Mod.of_gb g' (fun k hk=>by injection hk with hk;subst hk;exact I1)) _ ?_ ?_ ?_
   ·rw[O0,S0,V];exact o'
   ·rw[O0];exact S0
   ·rw[O0];exact zol T0 hck)
  by_cases h2:cw=2
  ·have d5:(cw == 2)=true:=beq_iff_eq.2 h2;have H2:=Qh h2;have S1:xn+2≤g.cols:=(by omega);clear h2;have A1:IntKind.i64.wrap ((xn:Int)+1)=(xn:Int)+1:=zd _ (by omega) (by omega);have Z0:=Zw (P:=prog) (size:=5) underlying56 zT b E g.cols vc (xn+1) (by omega);rw[show((xn+1:Nat):Int)=(xn:Int)+1 by omega]at Z0;have A0:=zcC (P:=prog) zT L0 (xn+1) (by omega) #[.int .i32 0,.int .i64 0,.int .i64 cs.fg,.int .i64 cs.bg,.int .i64 cs.attr] rfl (zcZ ⟨0,0,cs⟩);have HP:=zak L0 ((xn+1)*5) (zt [(⟨0,0,cs⟩:Cel)]) (by rw[zbj];simp;omega);rw[← zb4,zlS _ _ _ _ (by omega)]at HP;have g8:=zV w7 b (E+(xn+1)*5) (zt [(⟨0,0,cs⟩:Cel)]);replace A0:(storeVar 96 ⟨b,E+(xn+1)*5,none⟩ (.agg #[.int .i32 0,.int .i64 0,.int .i64 cs.fg,.int .i64 cs.bg,.int .i64 cs.attr])).run prog w7=.ok () (w7.setCells b (E+(xn+1)*5) (zt [(⟨0,0,cs⟩:Cel)])):=A0;have Y0:=Qh (Zc R0 g8);have E1:=Qh HP;clear HP g8;generalize w7.setCells b (E+(xn+1)*5) (zt [(⟨0,0,cs⟩:Cel)])=w8 at *;go_wp2_with (first | refine zF rfl _ _ _ rfl G0 rfl rfl ?_ | refine zF rfl _ _ _ rfl A0 rfl rfl ?_);go_end0;refine⟨rfl,U0 _ Y0,?_⟩;rw[HE.out];refine I0 _ Y0 ?_;unfold zcY;rw[if_pos H2.out];exact E1
  ·have d5:(cw == 2)=false:=Qb h2;go_wp2_with (refine zF rfl _ _ _ rfl G0 rfl rfl ?_);go_end0;refine⟨rfl,U0 _ R0,?_⟩;rw[HE.out];refine I0 _ R0 ?_;unfold zcY;rw[if_neg h2];exact L0
end
section
open Go.RowKit
structure zcm (u:Bool) (T:Nat→Nat) (p d:Nat) (tell vi vp vt:Value) (w:World) (s:PSt):Prop where
 blk:w.heap[p]?=some (.cells (s.cells d tell vi vp vt) 153 (0,0))
 dec:zcs w d s.dec
 dok:s.dec.ok
 ri:Row T 4 1 vi s.inter.length (zu s.inter) w
 rp:u=true→Row T 5 1 vp s.params.length (s.params.map (Value.int .i64)) w
 rt:Row T 6 1 vt s.text.length (zu s.text) w
 tp:T p=1
 td:T d=2
structure zdm (G:Nat→Prop) (T:Nat→Nat) (o:Nat) (vo:Value) (w:World) (L:List (VAct × Value)):Prop where
 blk:w.heap[o]?=some (.cells #[vo] 90 (0,0))
 ro:Row T 7 6 vo L.length (zaq L) w
 tg:T o=3
 told:∀ x∈L,Row T 0 1 x.2 x.1.params.length (x.1.params.map (Value.int .i64)) w∧∀ k,x.2.ownBlock=some k→G k
theorem zcm.mod {u:Bool} {T:Nat→Nat} {p d:Nat} {tell vi vp vt:Value} {w w':World} {s:PSt} {q:Nat→Prop} (h:zcm u T p d tell vi vp vt w s) (m:Mod T q w w')
  (h1:¬ q 1) (h2:¬ q 2) (h4:¬ q 4) (h5:¬ q 5) (h6:¬ q 6):zcm u T p d tell vi vp vt w' s :=
 ⟨(m.block p (zq h.blk) (by rw[h.tp];exact h1)).trans h.blk,(m.block d (zq h.dec) (by rw[h.td];exact h2)).trans h.dec,h.dok,h.ri.mod m h4,fun hu=>(h.rp hu).mod m h5,h.rt.mod m h6,h.tp,h.td⟩
theorem zcm.retag {u:Bool} {T T':Nat→Nat} {p d:Nat} {tell vi vp vt:Value} {w:World} {s:PSt} (h:zcm u T p d tell vi vp vt w s) (e:∀ k,k<w.heap.size→T' k=T k):zcm u T' p d tell vi vp vt w s :=
 ⟨h.blk,h.dec,h.dok,h.ri.retag fun k hk ht=>(e k hk).trans ht,fun hu=>(h.rp hu).retag fun k hk ht=>(e k hk).trans ht,h.rt.retag fun k hk ht=>(e k hk).trans ht,(e _ (zq h.blk)).trans h.tp,(e _ (zq h.dec)).trans h.td⟩
theorem zcm.put {u u':Bool} {T:Nat→Nat} {p d:Nat} {tell tell' vi vp vt vi' vp' vt':Value} {w w':World} {s s':PSt} (h:zcm u T p d tell vi vp vt w s) (g:w.grownBy w' (some p))
  (hb:w'.heap[p]?=some (.cells (s'.cells d tell' vi' vp' vt') 153 (0,0))) (hd:s'.dec=s.dec)
  (ri:Row T 4 1 vi' s'.inter.length (zu s'.inter) w) (rp:u'=true→Row T 5 1 vp' s'.params.length (s'.params.map (Value.int .i64)) w) (rt:Row T 6 1 vt' s'.text.length (zu s'.text) w):zcm u' T p d tell' vi' vp' vt' w' s':=by
 have m:Mod T (fun x=>x=1) w w':=Mod.of_gb g (fun k A=>by injection A with A;subst A;exact h.tp);exact⟨hb,by rw[hd];exact(m.block d (zq h.dec) (by rw[h.td];decide)).trans h.dec,by rw[hd];exact h.dok,ri.mod m (by decide),fun hu=>(rp hu).mod m (by decide),rt.mod m (by decide),h.tp,h.td⟩
theorem zdm.mod {G:Nat→Prop} {T:Nat→Nat} {o:Nat} {vo:Value} {w w':World} {L:List (VAct × Value)} {q:Nat→Prop} (h:zdm G T o vo w L) (m:Mod T q w w') (h3:¬ q 3) (h7:¬ q 7) (h0:¬ q 0):zdm G T o vo w' L :=
 ⟨(m.block o (zq h.blk) (by rw[h.tg];exact h3)).trans h.blk,h.ro.mod m h7,h.tg,fun x hx=>⟨(h.told x hx).1.mod m h0,(h.told x hx).2⟩⟩
theorem zdm.retag {G:Nat→Prop} {T T':Nat→Nat} {o:Nat} {vo:Value} {w:World} {L:List (VAct × Value)} (h:zdm G T o vo w L) (e:∀ k,k<w.heap.size→T' k=T k):zdm G T' o vo w L :=
 ⟨h.blk,h.ro.retag fun k hk ht=>(e k hk).trans ht,(e _ (zq h.blk)).trans h.tg,fun x hx=>⟨(h.told x hx).1.retag fun k hk ht=>(e k hk).trans ht,(h.told x hx).2⟩⟩
def zaF (G:Nat→Prop) (u:Bool) (T:Nat→Nat) (p o:Nat) (w:World) (s:PSt) (acts:List VAct):Prop :=
 ∃ d vi vp vt vo L,L.map (·.1)=acts∧zbi G T w∧zcm u T p d (za9 o) vi vp vt w s∧zdm G T o vo w L
def zhB (G:Nat→Prop) (u:Bool) (p o:Nat) (w:World) (s:PSt) (acts:List VAct):Prop:=∃ T,zaF G u T p o w s acts
theorem Zl {G:Nat→Prop} {u:Bool} {T:Nat→Nat} {p o:Nat} {w:World} {s:PSt} {acts:List VAct} (st:Int) (h:zaF G u T p o w s acts) :
  Calls prog 136 #[.pointer (some ⟨p,0,none⟩),.int .i64 st] w fun e w'=>e=.returned (.tuple #[])∧zh G w w'∧zaF G true T p o w' (s.begun st) acts:=by
 obtain⟨d,E,D,J,F,L,M,C,B,H⟩:=h;refine(zhw p d s (za9 o) E D J st w B.blk).mono ?_;rintro e w' ⟨rfl,g,I⟩;have m:Mod T (fun x=>x=1) w w':=Mod.of_gb g (fun k A=>by injection A with A;subst A;exact B.tp);exact⟨rfl,m.within C (by decide),d,Z0,Z0,Z0,F,L,M,C.mono g.size,B.put g I rfl (zbG _ _ _ _) (fun _=>zbG _ _ _ _) (zbG _ _ _ _),H.mod m (by decide) (by decide) (by decide)⟩
theorem zgY {G:Nat→Prop} {T:Nat→Nat} {p o:Nat} {vo:Value} {w:World} {L:List (VAct × Value)} {a:VAct} {v:Value} (hA:zbi G T w) (hT:zdm G T o vo w L) (hv:Row T 0 1 v a.params.length (a.params.map (Value.int .i64)) w) (hg:∀ k,v.ownBlock=some k→G k) (hn:L.length≤1000000000) :
  Calls prog 92 #[a.val v,.pointer (some ⟨o,0,none⟩)] w fun e w'=>e=.returned (.tuple #[])∧Mod T (fun x=>x=3∨x=7) w w'∧∃ T' vo',(∀ k,k<w.heap.size→T' k=T k)∧zbi G T' w'∧zdm G T' o vo' w' (L++[(a,v)]):=by
 have _:=p;have C:vo.ownBlock≠some o:=fun e=>(by have F:=hT.ro.tag o e;have D:=hT.tg;omega);refine(zlC a v o vo L.length (zaq L) w (zR hv.own) hT.blk hT.ro.own C hn).mono ?_;rintro e w' ⟨rfl,vo',J,H,hnew,F,D,M,E,N⟩;have m:Mod T (fun x=>x=3∨x=7) w w':=⟨F,D,M,E,fun k hk ht=>N k hk (fun e=>ht (by subst e;exact .inl hT.tg)) (fun e=>ht (.inr (hT.ro.tag k e)))⟩;have A:∀ k,k<w.heap.size→adopt T w.heap.size w'.heap.size 7 k=T k:=fun k hk=>zdB hk;have O:=hT.retag A;refine⟨rfl,m,adopt T w.heap.size w'.heap.size 7,vo',A,hA.adopt E 7,J,⟨?_,fun k hk=>?_⟩,?_,fun x hx=>?_⟩
 ·rw[List.length_append,zgx];exact H
 ·rcases hnew k hk with h | h
  ·rw[A k (zg hT.ro.own k h).2];exact hT.ro.tag k h
  ·exact zdC h (zg H k hk).2
 ·rw[A o (zq hT.blk)];exact hT.tg
 ·have B:∀ (x:VAct × Value),Row T 0 1 x.2 x.1.params.length (x.1.params.map (Value.int .i64)) w→Row (adopt T w.heap.size w'.heap.size 7) 0 1 x.2 x.1.params.length (x.1.params.map (Value.int .i64)) w':=fun x h=>by
   have I:=h.mod m (by decide);exact⟨I.own,fun k hk=>by rw[A k (zg h.own k hk).2];exact h.tag k hk⟩
  rw[List.mem_append,List.mem_singleton]at hx;rcases hx with hx | rfl
  ·exact⟨B x (hT.told x hx).1,(hT.told x hx).2⟩
  ·exact⟨B _ hv,hg⟩
theorem zci {G:Nat→Prop} {u:Bool} {T:Nat→Nat} {p o:Nat} {w:World} {s:PSt} {acts:List VAct} (a:VAct) (ha:a.params=[]) (h:zaF G u T p o w s acts) (hn:acts.length≤1000000000) :
  Calls prog 92 #[a.val Z0,.pointer (some ⟨o,0,none⟩)] w fun e w'=>e=.returned (.tuple #[])∧zh G w w'∧Mod T (fun x=>x=3∨x=7) w w'∧∃ T',(∀ k,k<w.heap.size→T' k=T k)∧zaF G u T' p o w' s (acts++[a]):=by
 obtain⟨d,H,M,I,R,L,F,E,O,N⟩:=h;have J:Row T 0 1 Z0 a.params.length (a.params.map (Value.int .i64)) w:=(by rw[ha];exact zbG _ _ _ _);refine(zgY (p:=p) E N J (fun k hk=>by simp[Z0,Value.ownBlock]at hk) (by rw[← F,List.length_map]at hn;exact hn)).mono ?_;rintro e w' ⟨rfl,m,T',C,D,A,B⟩;exact⟨rfl,m.within E (by decide),m,T',D,d,H,M,I,C,L++[(a,Z0)],by rw[List.map_append,F];rfl,A,(O.retag D).mod (m.retag D) (by decide) (by decide) (by decide) (by decide) (by decide),B⟩
end
section
open Go.RowKit
def PSt.texts (s:PSt):Bool:=s.state == 4 || s.state == 6 || s.state == 7
def emp:ByteArray:=⟨#[]⟩
def zbV (r:Int):VAct:=⟨1,r,0,[],emp,emp⟩
def zcB (b:UInt8):VAct:=⟨2,0,b,[],emp,emp⟩
def za1 (b:UInt8) (inter:List UInt8):VAct:=⟨3,0,b,[],⟨inter.toArray⟩,emp⟩
def zbR (b:UInt8) (params:List Int) (inter:List UInt8):VAct:=⟨4,0,b,params,⟨inter.toArray⟩,emp⟩
def zdf (text:List UInt8):VAct:=⟨5,0,0,[],emp,⟨text.toArray⟩⟩
def zbS (b:UInt8) (params:List Int) (inter text:List UInt8):VAct:=⟨6,0,b,params,⟨inter.toArray⟩,⟨text.toArray⟩⟩
def PSt.endActs (s:PSt):List VAct:=if s.state=4 then [zdf s.text] else if s.state=6 then [zbS s.final s.params s.inter s.text] else []
theorem zlT (p d:Nat) (s:PSt) (tell vi vp vt:Value) (w:World) (hb:w.heap[p]?=some (.cells (s.cells d tell vi vp vt) 153 (0,0))) :
  Calls prog 135 #[.pointer (some ⟨p,0,none⟩)] w fun e w'=>e=.returned (.bool s.texts)∧w'=w:=by
 have B:w.cell? ⟨p,0,none⟩=some (.int .i64 s.state):=za hb 0;clear hb;have A:=Qh (show s.texts=(s.state == 4 || s.state == 6 || s.state == 7) from rfl);generalize s.state=st at *;cases h1:(st == 4);rotate_left
 ·rw[h1]at A;go_enter func135,ntmps135;go_wp2_with fail;go_ret;exact⟨ZQ (by rw[A.out];rfl),by trivial⟩
 cases h2:(st == 6);rotate_left
 ·rw[h1,h2]at A;go_enter func135,ntmps135;go_wp2_with fail;go_ret;exact⟨ZQ (by rw[A.out];rfl),by trivial⟩
 rw[h1,h2]at A;go_enter func135,ntmps135;go_wp2_with fail;go_ret;exact⟨ZQ (by rw[A.out];rfl),by trivial⟩
theorem zex {k:IntKind} {w:World} {v:Value} {l:List Int} (h:zp w 0 1 v l.length (l.map (Value.int k))):zfx k w v l:=zlA (zkE h)
theorem Zd {u:Bool} {T:Nat→Nat} {p d:Nat} {tell vi vp vt:Value} {w:World} {s:PSt} (h:zcm u T p d tell vi vp vt w s) (i:Nat):w.cell? ⟨p,i,none⟩=(s.cells d tell vi vp vt)[i]?:=za h.blk i
theorem zhC {G:Nat→Prop} {u:Bool} {T:Nat→Nat} {p o:Nat} {w:World} {s:PSt} {acts:List VAct} (h:zaF G u T p o w s acts):w.cell? ⟨p,2,none⟩=some (.func (.func 92) #[] #[.pointer (some ⟨o,0,none⟩)]):=by
 obtain⟨d,C,B,H,D,L,I,F,A,E⟩:=h;exact Zd A 2
theorem zb3 {G:Nat→Prop} {u:Bool} {T:Nat→Nat} {p o:Nat} {w:World} {s:PSt} {acts:List VAct} (v:Value) (l:List Int) (h:zaF G u T p o w s acts) (hv:Row T 0 1 v l.length (l.map (Value.int .i32)) w) (hn:acts.length+l.length≤1000000000) :
  Calls prog 137 #[.pointer (some ⟨p,0,none⟩),v] w fun e w'=>e=.returned (.tuple #[])∧zh G w w'∧zhB G u p o w' s (acts++l.map zbV):=by
 have B:=zex hv.own;have X:=zcz underlying131 B;have H:=Qh h;have HV:=Qh hv;clear h hv B;go_enter func137,ntmps137;go_wp2_with fail
 go_loopw [8] (fun iv wr=>∃ k:Nat,k≤l.length∧iv=.int .i64 k∧zh G w wr∧∃ F,Row F 0 1 v l.length (l.map (Value.int .i32)) wr∧zaF G u F p o wr s (acts++(l.take k).map zbV)) (fun iv _=>l.length-(intOf iv).toNat)
 case atStart=>exact⟨0,by omega,rfl,zh.refl _ _,T,HV,by simpa using H.out⟩
 case round =>
  obtain⟨k,hk,rfl,Y,F,hv,V⟩:=hrel;have U:=Qh Y;have E:=Qh hv;have O:=Qh V;clear Y hv V;have c2:=zhC O;by_cases hlt:k<l.length
  ·obtain⟨ad,A0,M⟩:=zip underlying131 (by kernel_rfl) (zex E.own) k hlt;have R:=Qh (ZJ l 0 k hlt);have J:(acts++(l.take k).map zbV).length≤1000000000:=(by rw[List.length_append,List.length_map];have:=List.length_take_le k l;omega);generalize l.getD k 0=r at *;go_wp2_with fail;refine(zci (zbV r) rfl O J).mono ?_;rintro e w2 ⟨rfl,D,Z,T2,A,C⟩;have N:=Qh (U.trans D);have L:=Qh ((E.retag (t':=0) (fun k hk ht=>(A k hk).trans ht)).mod (Z.retag A) (by decide));have S:=Qh C;clear D Z A C;go_wp2_with fail;go_roundw
   case rel =>
    refine⟨k+1,by omega,by go_num,N,T2,L,?_⟩;have:=S.out;rw[R.out,List.map_append,← List.append_assoc];exact this
   case measure=>simp[intOf];omega
  ·have I:k=l.length:=(by omega);have HE:=Qh (show(l.take k)=l by rw[I,List.take_length]);go_wp2_with fail;go_end0;refine⟨rfl,U,F,?_⟩;have:=O.out;rw[HE.out]at this;exact this
def free (T:Nat→Nat):Nat→Nat:=fun k=>if T k=5 then 0 else T k
theorem zcv {T:Nat→Nat} {k t:Nat} (h:T k=t) (ht:t≠5):free T k=t:=by unfold free;rw[if_neg (by omega)];exact h
theorem zbi.free {G:Nat→Prop} {T:Nat→Nat} {w:World} (h:zbi G T w):zbi G (free T) w :=
 ⟨fun k hk=>h.tl k (fun e=>hk (zcv e (by decide))),h.gn⟩
theorem zcm.free {u:Bool} {T:Nat→Nat} {p d:Nat} {tell vi vp vt:Value} {w:World} {s:PSt} (h:zcm u T p d tell vi vp vt w s):zcm false (free T) p d tell vi vp vt w s :=
 ⟨h.blk,h.dec,h.dok,h.ri.retag fun _ _ ht=>zcv ht (by decide),fun hu=>by simp at hu,h.rt.retag fun _ _ ht=>zcv ht (by decide),zcv h.tp (by decide),zcv h.td (by decide)⟩
theorem zdm.free {G:Nat→Prop} {T:Nat→Nat} {o:Nat} {vo:Value} {w:World} {L:List (VAct × Value)} (h:zdm G T o vo w L):zdm G (free T) o vo w L :=
 ⟨h.blk,h.ro.retag fun _ _ ht=>zcv ht (by decide),zcv h.tg (by decide),fun x hx=>⟨(h.told x hx).1.retag fun _ _ ht=>zcv ht (by decide),(h.told x hx).2⟩⟩
theorem Row.free {T:Nat→Nat} {size:Nat} {v:Value} {n:Nat} {xs:List Value} {w:World} (h:Row T 5 size v n xs w):Row (free T) 0 size v n xs w :=
 h.retag fun _ _ ht=>by unfold _root_.Go.Proofs.YthehkmopdeebmaaGreatDoor.free;rw[if_pos ht]
theorem zft {G:Nat→Prop} {T:Nat→Nat} {p o d:Nat} {vi vp vt vo:Value} {w:World} {s:PSt} {L:List (VAct × Value)} (a:VAct) (ha:a.params=s.params) (hA:zbi G T w) (hC:zcm true T p d (za9 o) vi vp vt w s) (hT:zdm G T o vo w L) (hn:L.length≤1000000000) :
  Calls prog 92 #[a.val vp,.pointer (some ⟨o,0,none⟩)] w fun e w'=>e=.returned (.tuple #[])∧zh G w w'∧∃ T',zaF G false T' p o w' s (L.map (·.1)++[a]):=by
 have E:=(hC.rp rfl).free;rw[← ha]at E;refine(zgY (p:=p) hA.free hT.free E (fun k hk=>(hA.tl k (by rw[(hC.rp rfl).tag k hk];decide)).2) hn).mono ?_;rintro e w' ⟨rfl,m,T',B,D,A,C⟩;exact⟨rfl,m.within hA.free (by decide),T',d,vi,vp,vt,B,L++[(a,vp)],by rw[List.map_append];rfl,A,(hC.free.retag D).mod (m.retag D) (by decide) (by decide) (by decide) (by decide) (by decide),C⟩
theorem zaF.weak {G:Nat→Prop} {u:Bool} {T:Nat→Nat} {p o:Nat} {w:World} {s:PSt} {acts:List VAct} (h:zaF G u T p o w s acts):zaF G false T p o w s acts:=by
 obtain⟨d,C,B,H,D,L,I,F,A,E⟩:=h;exact⟨d,C,B,H,D,L,I,F,⟨A.blk,A.dec,A.dok,A.ri,fun hu=>by simp at hu,A.rt,A.tp,A.td⟩,E⟩
theorem zaW (T:Nat→Nat) (w:World):Mod T (fun _=>False) w w.drew:=Mod.of_gb (row:=none) (zaM (zo w none)) (by intro k hk;simp at hk)
theorem zaF.drew {G:Nat→Prop} {u:Bool} {T:Nat→Nat} {p o:Nat} {w:World} {s:PSt} {acts:List VAct} (h:zaF G u T p o w s acts):zaF G u T p o w.drew s acts:=by
 obtain⟨d,B,A,F,C,L,H,E,I,D⟩:=h;exact⟨d,B,A,F,C,L,H,E.mono (Nat.le_refl _),I.mod (zaW T w) id id id id id,D.mod (zaW T w) id id id⟩
theorem zh.drew (G:Nat→Prop) (w:World):zh G w w.drew:=⟨rfl,rfl,rfl,Nat.le_refl _,fun _ _ _=>rfl⟩
theorem ziF {G:Nat→Prop} {T:Nat→Nat} {p o:Nat} {w:World} {s:PSt} {acts:List VAct} (h:zaF G true T p o w s acts) (hn:acts.length≤1000000000) :
  Calls prog 138 #[.pointer (some ⟨p,0,none⟩)] w fun e w'=>e=.returned (.tuple #[])∧zh G w w'∧zhB G false p o w' s (acts++s.endActs):=by
 have H:=Qh h;obtain⟨d,U,vp,X,vo,L,R,V,A,hT⟩:=h;have c0:w.cell? ⟨p,0,none⟩=some (.int .i64 s.state):=Zd A 0;have c2:w.cell? ⟨p,2,none⟩=some (.func (.func 92) #[] #[.pointer (some ⟨o,0,none⟩)]):=Zd A 2;have c3:w.cell? ⟨p,3,none⟩=some U:=Zd A 3;have c4:w.cell? ⟨p,4,none⟩=some vp:=Zd A 4;have c6:w.cell? ⟨p,6,none⟩=some X:=Zd A 6;have c7:w.cell? ⟨p,7,none⟩=some (.int .u8 (s.final.toNat:Int)):=Zd A 7;have Z:(convert 32 9 U).run prog w.drew=.ok (.string ⟨s.inter.toArray⟩) w.drew:=Z5 (P:=prog) (w:=w.drew) underlying32 underlying5 underlying9 (zX A.ri.own);have Y:(convert 32 9 X).run prog w.drew=.ok (.string ⟨s.text.toArray⟩) w.drew:=Z5 (P:=prog) (w:=w.drew) underlying32 underlying5 underlying9 (zX A.rt.own);have M:L.length≤1000000000:=(by rw[← R,List.length_map]at hn;exact hn);have HA:=Qh V;have HC:=Qh A;have HT:=Qh hT;have S:=Qh R;obtain⟨xp,mp,B0,rfl⟩:=zR (A.rp rfl).own;obtain⟨xi,mi,ci,rfl⟩:=zR A.ri.own;obtain⟨xt,mt,ct,rfl⟩:=zR A.rt.own;clear V A hT R hn;have D:=Qh (show s.endActs=if s.state=4 then [zdf s.text] else if s.state=6 then [zbS s.final s.params s.inter s.text] else [] from rfl);by_cases h4:s.state=4
 ·rw[if_pos h4]at D;have H4:=Qh h4;rw[h4]at c0;clear h4;have ht:=zci (zdf s.text) rfl H.drew (by rw[← S.out,List.length_map];exact M);have I:=Qh ht;clear ht;go_enter func138,ntmps138;go_upto_region 2 with fail
  go_still_tail 10,(by kernel_rfl)
  change wpList _ _ _ _ _ w.drew;generalize F:w.drew=wd at *;go_wp2_with fail;refine I.mono ?_;rintro e w2 ⟨rfl,C,m2,O,N,B⟩;have E:=Qh ((F ▸ zh.drew G w).trans C);have J:=Qh B.weak;clear C m2 N B;go_wp2_with fail;go_end0;refine⟨rfl,E,O,?_⟩;rw[D.out];exact J
 rw[if_neg h4]at D;by_cases h6:s.state=6
 ·rw[if_pos h6]at D;have H6:=Qh h6;rw[h6]at c0;clear h4 h6;have I:=Qh (zft (zbS s.final s.params s.inter s.text) rfl (HA.mono (w':=w.drew) (Nat.le_refl _)) (HC.mod (zaW T w) id id id id id) (HT.mod (zaW T w) id id id) M);go_enter func138,ntmps138;go_upto_region 4 with fail
  go_still_tail 23,(by kernel_rfl)
  change wpList _ _ _ _ _ w.drew;generalize F:w.drew=wd at *;go_wp2_with fail;refine I.mono ?_;rintro e w2 ⟨rfl,C,O,B⟩;have E:=Qh ((F ▸ zh.drew G w).trans C);have J:=Qh B;clear C B;go_wp2_with fail;go_end0;refine⟨rfl,E,O,?_⟩;rw[D.out,← S.out];exact J
 ·rw[if_neg h6]at D;have A0:(s.state == 4)=false:=Qb h4;have C0:(s.state == 6)=false:=Qb h6;go_enter func138,ntmps138;go_wp2_with fail;go_end0;refine⟨rfl,zh.refl _ _,T,?_⟩;rw[D.out,List.append_nil];exact H.weak
end
end Go.Proofs.YthehkmopdeebmaaGreatDoor
