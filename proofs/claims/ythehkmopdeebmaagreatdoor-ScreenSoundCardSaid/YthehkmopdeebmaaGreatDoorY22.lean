/- Part. -/
import Derived.Test.YthehkmopdeebmaaGreatDoorY16
import Derived.Test.YthehkmopdeebmaaGreatDoorY17
import Derived.Test.YthehkmopdeebmaaGreatDoorY18
set_option linter.unusedVariables false
set_option linter.unusedSimpArgs false
set_option maxRecDepth 100000
set_option maxHeartbeats 8000000
namespace Go.Proofs.YthehkmopdeebmaaGreatDoor
open _root_.Go.Proofs.Tryz
section
open Go.RowKit
attribute [local go_sem ↓] Go.wp_at_zero Go.wp_at_succ
theorem zkg {P:Program} {fn:Func} {R:Ending→World→Prop} {a:Act} {w:World} {p u:Tmp} {ty t:TypeId} {g:Nat} {cs:Array Value} {fr:Nat × Nat} {d:TypeDesc} {x:Value} (h:fn.results=#[.cell p ty,.tmp u]) (hdf:a.defers=[])
  (hp:a.tmps.getD p undef=.pointer (some ⟨g,0,none⟩)) (hx:a.tmps.getD u undef=x) (hg:w.heap[g]?=some (.cells cs t fr)) (hu:P.underlying ty=some d) (hd:(match d with | .struct _ | .array _ _=>true | _=>false)=true) (hi:(P.info? ty).map (·.size)=some cs.size)
  (hR:R (.returned (.tuple #[.agg cs,x])) w):bodyPost P fn R .ret a w :=
 bodyPost_ret (by rw[results_cell_tmp h,hp,hx];simp[asAddr,run_loadVar_row w g t ty cs fr d hg hu hd hi,Result.andThen]) hdf hR
theorem zfj {T:Nat→Nat} {p:Nat} {w:World} {g:Gr} (h:GM T p w g) (cols rows:Nat) (ax ay:Int) (c1:1≤cols) (c2:cols≤250) (r1:1≤rows) (r2:rows≤120) :
  Calls prog 83 #[.pointer (some ⟨p,0,none⟩),.int .i64 cols,.int .i64 rows,.agg #[.int .i64 ax,.int .i64 ay],.bool true] w fun e w' =>
   e=.returned (.tuple #[.agg #[.int .i64 (g.resize cols rows ax ay true).2.1,.int .i64 (g.resize cols rows ax ay true).2.2],.int .i64 0])∧zh (own T w) w w'∧∃ T',GM T' p w' (g.resize cols rows ax ay true).1∧∀ k,T' k≠0→own T w k:=by
 have J1:zfw (cols:Int) (rows:Int)=true:=(by unfold zfw;simp;omega);obtain⟨vr,vo,O,Lo,h0⟩:=h;have H0:=(Zg h0).1;have wf:=h0.wf;have N1:O.length≤120:=(by have:=wf.r2;omega);have S1:1≤O.length:=(by have:=wf.r1;omega);have R1:=wf.c1;have L1:=wf.c2;have T1:=zq h0.blk;have C0:=Qh (show Below w.heap.size w ((w.alloc (.cells #[.int .i64 ax,.int .i64 ay] 139)).alloc (.cells #[.int .i64 0,.int .i64 0] 139)) from Below.alloc (Below.alloc (Below.refl w.heap.size w) (Nat.le_refl _) _) (by simp) _);have M:=Qh (zI (zH w (.cells #[.int .i64 ax,.int .i64 ay] 139)) (.cells #[.int .i64 0,.int .i64 0] 139));have J0:=Qh (zbJ w (.cells #[.int .i64 ax,.int .i64 ay] 139) (.cells #[.int .i64 0,.int .i64 0] 139));have N:=Qh h0;have E1:=Qh H0;have U1:((w.alloc (.cells #[.int .i64 ax,.int .i64 ay] 139)).alloc (.cells #[.int .i64 0,.int .i64 0] 139)).heap.size=w.heap.size+2:=(by simp);clear h0 wf H0;go_enter func83,ntmps83;go_upto_region 1 with fail;generalize (w.alloc (.cells #[.int .i64 ax,.int .i64 ay] 139)).alloc (.cells #[.int .i64 0,.int .i64 0] 139)=G at *;go_wp2_with fail;refine(zhu cols rows G).mono ?_;rintro e w2 ⟨rfl,F1⟩;subst F1;obtain⟨G,rfl⟩:∃ G,G=w2:=⟨w2,rfl⟩;have B:=Qh (N.mod (.of_below C0) id id id (fun _=>id));obtain⟨E,k1,C,k3⟩:=zY B;have D:G.cell? ⟨w.heap.size,0,none⟩=some (.int .i64 ax):=za M 0;have z0:G.frozen? ⟨w.heap.size,0,none⟩=false:=zA M 0;have E0:IntKind.i64.wrap ((g.cols:Int)-1)=(g.cols:Int)-1:=zd _ (by omega) (by omega);have L0:IntKind.i64.wrap ((O.length:Int)-1)=(O.length:Int)-1:=zd _ (by omega) (by omega);go_upto_region 3 with fail;refine zJ (c:=10) (S:=(fun bb w'=>w'.cell? ⟨p,0,none⟩=some (.int .i64 g.cols)∧(bb=false→w'.cell? ⟨w.heap.size,0,none⟩=some (.int .i64 ax)))) (by kernel_rfl) (⟨E,fun _=>D⟩) (fun _=>?_);refine zb false 0 (⟨E,fun _=>D⟩) ?_;refine Zh 1 (⟨E,fun _=>D⟩) ?_;refine zb false 2 (⟨E,fun _=>D⟩) ?_;refine zb false 3 (⟨E,fun _=>D⟩) ?_;refine zb false 4 (⟨E,fun _=>D⟩) ?_;refine zb false 5 (⟨E,fun _=>D⟩) ?_;refine zb false 6 (⟨E,fun _=>D⟩) ?_;refine zb false 7 (⟨E,fun _=>D⟩) ?_;refine zb false 8 (⟨E,fun _=>D⟩) ?_;refine zb false 9 (⟨E,fun _=>D⟩) ?_;refine zj true 10 fun K hK=>?_;refine ze rfl ?_;go_wp2_with fail;refine hK.out _ _ (⟨zn (zx (zo _ _) _ _) E (fun e=>by injection e with e;omega),fun e=>by cases e⟩) (fun _=>?_);clear hK K
 try simp only[Act.put]
 refine zD (by kernel_rfl) ?_ _;have B1:0≤max 0 (min ax ((g.cols:Int)-1))∧max 0 (min ax ((g.cols:Int)-1))≤250:=(by omega);have V0:=Qh (show zfD ax ((g.cols:Int)-1)=max 0 (min ax ((g.cols:Int)-1)) from rfl);generalize max 0 (min ax ((g.cols:Int)-1))=H at *;have M1:((G.setCell ⟨w.heap.size,0,none⟩ (.int .i64 H)).drew).heap.size=G.heap.size:=(by show(G.setCell _ _).heap.size=_;simp);have Y:=Qh (show G.grownBy ((G.setCell ⟨w.heap.size,0,none⟩ (.int .i64 H)).drew) (some w.heap.size) from zaM (zx (zo _ _) _ _));have A:=Qh (show((G.setCell ⟨w.heap.size,0,none⟩ (.int .i64 H)).drew).heap[w.heap.size]?=some (.cells #[.int .i64 H,.int .i64 ay] 139 (0,0)) from zz M 0 _);generalize (G.setCell ⟨w.heap.size,0,none⟩ (.int .i64 H)).drew=J at *;have A0:=Qh (C0.trans (Zn Y (by omega) (fun q hq=>by injection hq with hq;omega)));have X:=Qh (zl J0 Y (fun e=>by injection e with e;omega));clear M J0 C0 B Y E k1 C k3 D z0 E0;have B:=Qh (N.mod (.of_below A0) id id id (fun _=>id));obtain⟨E,k1,C,k3⟩:=zY B;have X0:=Zf underlying112 B.rr.own;have D:J.cell? ⟨w.heap.size,0,none⟩=some (.int .i64 H):=za A 0;have F:J.cell? ⟨w.heap.size,1,none⟩=some (.int .i64 ay):=za A 1;have z1:J.frozen? ⟨w.heap.size,1,none⟩=false:=zA A 1;go_upto_region 4 with fail;refine zJ (c:=11) (S:=(fun bb w'=>w'.cell? ⟨p,2,none⟩=some vr∧(bb=false→w'.cell? ⟨w.heap.size,1,none⟩=some (.int .i64 ay)))) (by kernel_rfl) (⟨C,fun _=>F⟩) (fun _=>?_);refine zb false 0 (⟨C,fun _=>F⟩) ?_;refine Zh 1 (⟨C,fun _=>F⟩) ?_;refine zb false 2 (⟨C,fun _=>F⟩) ?_;refine zb false 3 (⟨C,fun _=>F⟩) ?_;refine zb false 4 (⟨C,fun _=>F⟩) ?_;refine zb false 5 (⟨C,fun _=>F⟩) ?_;refine zb false 6 (⟨C,fun _=>F⟩) ?_;refine zb false 7 (⟨C,fun _=>F⟩) ?_;refine zb false 8 (⟨C,fun _=>F⟩) ?_;refine zb false 9 (⟨C,fun _=>F⟩) ?_;refine zb false 10 (⟨C,fun _=>F⟩) ?_;refine zj true 11 fun K hK=>?_;refine ze rfl ?_;go_wp2_with fail;refine hK.out _ _ (⟨zn (zx (zo _ _) _ _) C (fun e=>by injection e with e;omega),fun e=>by cases e⟩) (fun _=>?_);clear hK K
 try simp only[Act.put]
 refine zD (by kernel_rfl) ?_ _;have H1:0≤max 0 (min ay ((O.length:Int)-1))∧max 0 (min ay ((O.length:Int)-1))≤120:=(by omega);have Y0:=Qh (show zfD ay ((g.rows.length:Int)-1)=max 0 (min ay ((O.length:Int)-1)) by rw[E1.out];rfl);generalize max 0 (min ay ((O.length:Int)-1))=L at *;have O1:((J.setCell ⟨w.heap.size,1,none⟩ (.int .i64 L)).drew).heap.size=J.heap.size:=(by show(J.setCell _ _).heap.size=_;simp);have Z:=Qh (show J.grownBy ((J.setCell ⟨w.heap.size,1,none⟩ (.int .i64 L)).drew) (some w.heap.size) from zaM (zx (zo _ _) _ _));have R:=Qh (show((J.setCell ⟨w.heap.size,1,none⟩ (.int .i64 L)).drew).heap[w.heap.size]?=some (.cells #[.int .i64 H,.int .i64 L] 139 (0,0)) from zz A 1 _);generalize (J.setCell ⟨w.heap.size,1,none⟩ (.int .i64 L)).drew=wc at *;have R0:=Qh (A0.trans (Zn Z (by omega) (fun q hq=>by injection hq with hq;omega)));have I0:=Qh (zl X Z (fun e=>by injection e with e;omega));clear A X A0 B Z E k1 C k3 D F z1 L0 X0;have B:=Qh (show GM T p wc g from⟨vr,vo,O,Lo,N.mod (.of_below R0) id id id (fun _=>id)⟩);have D:wc.cell? ⟨w.heap.size,0,none⟩=some (.int .i64 H):=za R 0;have F:wc.cell? ⟨w.heap.size,1,none⟩=some (.int .i64 L):=za R 1;go_wp2_with fail;refine(zml B cols rows H L c1 c2 r1 r2 B1 H1).mono ?_;rintro e w9 ⟨rfl,B0,T',O0,T0⟩;have G1:T (w.heap.size+1)=0:=by
  by_cases h0:T (w.heap.size+1)=0
  ·exact h0
  ·have:=N.out.lt _ h0;omega
 have G0:¬ own T wc (w.heap.size+1):=fun e=>by
  rcases e with e | e
  ·exact e G1
  ·omega
 have I:w9.heap[w.heap.size+1]?=some (.cells #[.int .i64 0,.int .i64 0] 139 (0,0)):=(B0.block _ (by omega) G0).trans I0;have U:(g.flow cols rows H L)=g.resize cols rows ax ay true:=by
  unfold Gr.resize;rw[if_pos rfl,V0.out,Y0.out]
 have V:=Qh U;have Z0:=Qh O0;have HT9:=Qh T0;have C1:=Qh B0;clear U O0 T0 B0;generalize M0:(g.flow cols rows H L).2.1=qx at *;generalize D0:(g.flow cols rows H L).2.2=qy at *;have I1:=Qh M0;have A1:=Qh D0;clear M0 D0;have U0:=run_storeVar_row (P:=prog) w9 (w.heap.size+1) 139 139 _ #[.int .i64 qx,.int .i64 qy] I (by kernel_rfl) rfl (by simp[Value.oneCell']);have F0:=Zz (cells:=#[.int .i64 qx,.int .i64 qy]) I;have N0:=Qh (zbD w9 (w.heap.size+1) #[.int .i64 qx,.int .i64 qy]);have S0:=Qh (show GM T' p (w9.setRow (w.heap.size+1) #[.int .i64 qx,.int .i64 qy]) (g.resize cols rows ax ay true).1 by
  rw[← V.out];refine Z0.other (Tp:=fun k=>if k=w.heap.size+1 then 1 else 0) (zh.of_gb N0 (fun k hk=>?_)) (fun k hk=>?_)
  ·injection hk with hk;subst hk;exact .inl (by show(if _ then 1 else 0)≠0;rw[if_pos rfl];decide)
  ·show(if _ then 1 else 0)=0;rw[if_neg (fun e=>G0 (by rw[← e];exact HT9.out k hk))])
 have D1:=Qh (show zh (own T w) w (w9.setRow (w.heap.size+1) #[.int .i64 qx,.int .i64 qy]) from
  ((zh.of_below R0).trans (C1.mono (fun k hk=>by
   rcases hk with e | e
   ·exact .inl e
   ·exact .inr (by omega)))).trans (zh.of_gb N0 (fun k hk=>by injection hk with hk;subst hk;exact .inr (by omega))))
 clear I;go_wp2_with (refine zF rfl _ _ _ rfl U0 rfl rfl ?_);(try simp only[Exit.inBlock,Exit.then]);refine zkg (x:=.int .i64 0) rfl rfl rfl rfl F0 underlying139 rfl (by kernel_rfl) ⟨by rw[← V.out,I1.out,A1.out],D1,T',S0,fun k hk=>?_⟩;rcases HT9.out k hk with e | e
 ·exact .inl e
 ·exact .inr (by omega)
end
section
open Go.RowKit
theorem zld (l:List Cel) (cols:Nat):Za (List.replicate cols (zM plainS)) 0 ((zB l cols).take (min l.length cols))=(zB l cols).take cols++List.replicate (cols-l.length) (zM plainS):=by
 unfold Za;have A:=zN l (cols:Int);rw[List.take_zero,List.nil_append,List.length_take,A,Nat.zero_add,List.drop_replicate];by_cases h:cols≤l.length
 ·rw[Nat.min_eq_right h,Nat.min_eq_left h,show cols-cols=cols-l.length by omega]
 ·rw[Nat.min_eq_left (by omega),Nat.min_eq_left (Nat.le_refl _),List.take_of_length_le (by omega),List.take_of_length_le (by omega)]
theorem zle {w:World} {base B size q n c:Nat} {xs:List Value} (h:zp w base size (.slice (some ⟨q,0,none⟩) n c) n xs) (hq:B≤q):zp w B size (.slice (some ⟨q,0,none⟩) n c) n xs:=by
 refine⟨h.1,?_⟩;rcases h.2 with h2 | ⟨C,A,D,e,h1,h2⟩
 ·exact .inl h2
 ·refine .inr ⟨C,A,D,e,?_,h2⟩;simp only[Value.slice.injEq,Option.some.injEq,Addr.mk.injEq]at e;omega
theorem zfT (r:Rw) (b off c cols:Nat) (w:World) (h:zp w 0 5 (.slice (some ⟨b,off,none⟩) r.cells.length c) r.cells.length (zt r.cells)) (hl:1≤r.cells.length∧r.cells.length≤1000) (hc:1≤cols∧cols≤250) :
  Calls prog 130 #[.agg #[.slice (some ⟨b,off,none⟩) r.cells.length c,.bool r.wrap],.int .i64 cols] w fun e w'=>∃ v,e=.returned (.agg #[v,.bool (ZO r cols).wrap])∧w.grownBy w' (some b) ∧
   ((cols=r.cells.length∧v=.slice (some ⟨b,off,none⟩) r.cells.length c∧Below w.heap.size w w')∨(cols≠r.cells.length∧zp w' w.heap.size 5 v cols (zt (ZO r cols).cells))):=by
 obtain⟨A,wr⟩:=r;dsimp only at h hl ⊢;have A1:=(zg h b rfl).2;have G:=Qh (Below.alloc (Below.refl w.heap.size w) (Nat.le_refl _) (.cells #[.slice (some ⟨b,off,none⟩) A.length c,.bool wr] 144));have G0:=Qh (Below.alloc G (by simp) (.cells #[.slice none 0 0,.bool false] 144));by_cases he:cols=A.length
 ·subst he;have d1:((A.length:Int) == (A.length:Int))=true:=beq_self_eq_true _;have hB:Below w.heap.size w ((w.alloc (.cells #[.slice (some ⟨b,off,none⟩) A.length c,.bool wr] 144)).alloc (.cells #[.slice (some ⟨b,off,none⟩) A.length c,.bool wr] 144)):=Below.alloc G (by simp) _;go_enter func130,ntmps130;go_wp2_with fail;(try simp only[Exit.inBlock,Exit.then]);exact zbz rfl rfl rfl (zbJ _ _ _) underlying144 rfl (by exact zC) ⟨_,by unfold ZO;rw[if_pos rfl],zcn _ hB,.inl ⟨trivial,rfl,hB⟩⟩
 ·have d1:((cols:Int) == (A.length:Int))=false:=(by simp;omega);have HF:=Qh (show ZO ⟨A,wr⟩ cols=⟨(zB A cols).take cols++List.replicate (cols-A.length) (zM plainS),false⟩ by unfold ZO;rw[if_neg he]);have E:=Qh (zI (zH w (.cells #[.slice (some ⟨b,off,none⟩) A.length c,.bool wr] 144)) (.cells #[.slice none 0 0,.bool false] 144));have D0:=Qh (zbJ w (.cells #[.slice (some ⟨b,off,none⟩) A.length c,.bool wr] 144) (.cells #[.slice none 0 0,.bool false] 144));have J:=Qh (zG (zG h (.cells #[.slice (some ⟨b,off,none⟩) A.length c,.bool wr] 144)) (.cells #[.slice none 0 0,.bool false] 144));have Y0:((w.alloc (.cells #[.slice (some ⟨b,off,none⟩) A.length c,.bool wr] 144)).alloc (.cells #[.slice none 0 0,.bool false] 144)).heap.size=w.heap.size+2:=(by simp);clear h G;have N0:A.length≤1000000:=(by omega);go_enter func130,ntmps130;go_upto_region 1 with fail;generalize (w.alloc (.cells #[.slice (some ⟨b,off,none⟩) A.length c,.bool wr] 144)).alloc (.cells #[.slice none 0 0,.bool false] 144)=w1 at *;have k0:w1.cell? ⟨w.heap.size,0,none⟩=some (.slice (some ⟨b,off,none⟩) A.length c):=za E 0;go_wp2_with fail;refine(zb1 A cols b off A.length c w1 J rfl N0 (by omega)).mono ?_;rintro e w2 ⟨rfl,Y,o2⟩;have U:=Qh (zl E Y (by intro e;injection e with e;omega));have H0:=Qh (zl D0 Y (by intro e;injection e with e;omega));have B0:=Qh (Zc (zcn (some b) G0) Y);have C1:=Y.size;have R:=Qh o2;clear k0 Y o2 E D0 J G0;obtain⟨w3,T0,H,M,Z0⟩:=zeK zab cols (by omega) (by omega) (by omega) w2;rw[zfE]at H;generalize hq:w2.heap.size=q at *;have S:=Qh (zr U M (by omega));have E0:=Qh (zr H0 M (by omega));have C0:=Qh (zaA B0 M (by omega));have V:=Qh (zk R (by rw[hq];exact M));have I0:=Qh H;clear H M U H0 B0 R;go_wp2_with fail;clear T0;refine(ZW w3).mono ?_;rintro e w4 ⟨rfl,F⟩;have D1:=F.size;have Z:=Qh (zr S F (by omega));have O:=Qh (zr E0 F (by omega));have L:=Qh (zaA C0 F (by omega));have L0:=Qh (zk V F);have X:=Qh (zcE (List.replicate cols noC) plainS q 0 cols cols 0 cols cols w4 (zP (zk I0 F) (Nat.zero_le _)) (by rw[List.length_replicate]) (by omega) (by unfold maxLen;omega));simp only[Nat.zero_mul,Nat.add_zero,zhL]at X;clear F S E0 C0 V I0;go_wp2_with fail;refine X.mono ?_;rintro e w5 ⟨rfl,I,o5⟩;have E1:=I.size;have A0:=Qh (zl Z I (by intro e;injection e with e;omega));have J0:=Qh (zl O I (by intro e;injection e with e;omega));have T:=Qh (Zs L I (by intro k B;injection B with B;omega));have F0:=Qh (zi L0 I (by intro k B e;simp only[Value.ownBlock]at B;injection B with B;injection e with e;omega));have C:=zbN (P:=prog) underlying56 zT o5 0 cols cols ⟨q,0,none⟩ (fun _=>by simp) (by omega) (zX F0) (zbw _) 3;have D:=zaz o5 0 (zt ((zB A cols).take (Nat.min A.length cols))) (by rw[zbj,List.length_take,zN];have:Nat.min A.length cols=min A.length cols:=rfl;omega);rw[zbc]at C;rw[← zb4,show Nat.min A.length cols=min A.length cols from rfl,zld]at D;rw[show Nat.min A.length cols=min A.length cols from rfl]at C;simp only[Nat.zero_mul,Nat.add_zero]at C D;have g6:=zV w5 q 0 (zt ((zB A cols).take (min A.length cols)));have k5:w5.cell? ⟨w.heap.size,0,none⟩=some (.slice (some ⟨b,off,none⟩) A.length c):=za A0 0;have N:=Qh (zl J0 g6 (by intro e;injection e with e;omega));have U0:=Qh (Zs T g6 (by intro k B;injection B with B;omega));have R0:=Qh D;have B1:=g6.size;clear D g6 o5 I Z O L L0 A0 J0 T F0;go_upto_region 7 with fail;generalize w5.setCells q 0 (zt ((zB A cols).take (min A.length cols)))=w6 at *;have S0:=run_storeVar_row (P:=prog) w6 (w.heap.size+1) 144 144 _ #[.slice (some ⟨q,0,none⟩) cols cols,.bool false] N (by kernel_rfl) rfl (by simp[Value.oneCell']);have V0:=Zz (cells:=#[.slice (some ⟨q,0,none⟩) cols cols,.bool false]) N;have M0:=Qh (zbD w6 (w.heap.size+1) #[.slice (some ⟨q,0,none⟩) cols cols,.bool false]);have O0:=Qh (Zs U0 M0 (by intro k B;injection B with B;omega));have X0:=Qh (zi (zle R0 (show w.heap.size≤q by omega)) M0 (by intro k B e;simp only[Value.ownBlock]at B;injection B with B;injection e with e;omega));clear k5 C;go_wp2_with (refine zF rfl _ _ _ rfl S0 rfl rfl ?_);(try simp only[Exit.inBlock,Exit.then]);exact zbz rfl rfl rfl V0 underlying144 rfl (by exact zC) ⟨_,by rw[HF.out],O0,.inr ⟨he,by rw[HF.out];exact X0⟩⟩
end
section
open Go.RowKit
attribute [local go_sem ↓] Go.wp_at_zero Go.wp_at_succ
theorem zer {α β:Type} (f:α→β) (F:β→β) (A B:List α) (x y:α) (l:List β) (k:Nat) (hk:A.length=k) (hm:(A++x::B).map f=(l.take k).map F++l.drop k) (hy:f y=F (f x)) :
  f x∈l∧(A++y::B).map f=(l.take (k+1)).map F++l.drop (k+1):=by
 have L:l.length=A.length+1+B.length:=by
  have:=congrArg List.length hm;simp at this;omega
 have C:k<l.length:=(by omega);have J:l.drop k=l[k]::l.drop (k+1):=List.drop_eq_getElem_cons C;have G:l.take (k+1)=l.take k++[l[k]]:=List.take_succ_eq_append_getElem C;rw[List.map_append,List.map_cons,J]at hm;have D:(A.map f).length=((l.take k).map F).length:=by
  rw[List.length_map,List.length_map,List.length_take];omega
 obtain⟨H,E⟩:=List.append_inj hm D;injection E with E I;refine⟨by rw[E];exact List.getElem_mem C,?_⟩;rw[List.map_append,List.map_cons,G,List.map_append,H,hy,E,I];simp
theorem zkh (x y:Option Addr) (n c m d:Nat) (w:World):(Instr.index 181 (.agg #[.slice x n c,.slice y m d]) (.int .i64 0)).run prog w=.ok (.slice x n c) w∧(Instr.index 181 (.agg #[.slice x n c,.slice y m d]) (.int .i64 1)).run prog w=.ok (.slice y m d) w:=by
 have B:(prog.info? 112).map (·.size)=some 1:=(by kernel_rfl);have A:(sizeOf 112).run prog w=.ok 1 w:=zbx B w;constructor
 ·simp[Instr.index,run_underlying underlying181,asIntOf,go_sem,A]
 ·simp[Instr.index,run_underlying underlying181,asIntOf,go_sem,A]
theorem zh3 {T:Nat→Nat} {p:Nat} {w:World} {g:Gr} (h:GM T p w g) (cols rows:Nat) (ax ay:Int) (c1:1≤cols) (c2:cols≤250) (r1:1≤rows) (r2:rows≤120) :
  Calls prog 83 #[.pointer (some ⟨p,0,none⟩),.int .i64 cols,.int .i64 rows,.agg #[.int .i64 ax,.int .i64 ay],.bool false] w fun e w' =>
   e=.returned (.tuple #[.agg #[.int .i64 (g.resize cols rows ax ay false).2.1,.int .i64 (g.resize cols rows ax ay false).2.2],.int .i64 0])∧zh (own T w) w w'∧∃ T',GM T' p w' (g.resize cols rows ax ay false).1∧∀ k,T' k≠0→own T w k:=by
 have O4:zfw (cols:Int) (rows:Int)=true:=(by unfold zfw;simp;omega);obtain⟨vr,vo,Lr,Lo,h0⟩:=h;have A3:=(Zg h0).1;have wf:=h0.wf;have X4:Lr.length≤120:=(by have:=wf.r2;omega);have H4:1≤Lr.length:=(by have:=wf.r1;omega);have G5:=wf.c1;have S4:=wf.c2;have I5:=zq h0.blk;have R2:=Qh (show Below w.heap.size w ((w.alloc (.cells #[.int .i64 ax,.int .i64 ay] 139)).alloc (.cells #[.int .i64 0,.int .i64 0] 139)) from Below.alloc (Below.alloc (Below.refl w.heap.size w) (Nat.le_refl _) _) (by simp) _);have H1:=Qh (zI (zH w (.cells #[.int .i64 ax,.int .i64 ay] 139)) (.cells #[.int .i64 0,.int .i64 0] 139));have C3:=Qh (zbJ w (.cells #[.int .i64 ax,.int .i64 ay] 139) (.cells #[.int .i64 0,.int .i64 0] 139));have E:=Qh h0;have B4:=Qh A3;have O5:((w.alloc (.cells #[.int .i64 ax,.int .i64 ay] 139)).alloc (.cells #[.int .i64 0,.int .i64 0] 139)).heap.size=w.heap.size+2:=(by simp);clear h0 wf A3;go_enter func83,ntmps83;go_upto_region 1 with fail;generalize (w.alloc (.cells #[.int .i64 ax,.int .i64 ay] 139)).alloc (.cells #[.int .i64 0,.int .i64 0] 139)=wa at *;go_wp2_with fail;refine(zhu cols rows wa).mono ?_;rintro e w2 ⟨rfl,G4⟩;subst G4;obtain⟨wa,rfl⟩:∃ wa,wa=w2:=⟨w2,rfl⟩;have S0:=Qh (E.mod (.of_below R2) id id id (fun _=>id));obtain⟨k0,k1,C,k3⟩:=zY S0;have a0:wa.cell? ⟨w.heap.size,0,none⟩=some (.int .i64 ax):=za H1 0;have z0:wa.frozen? ⟨w.heap.size,0,none⟩=false:=zA H1 0;have T2:IntKind.i64.wrap ((g.cols:Int)-1)=(g.cols:Int)-1:=zd _ (by omega) (by omega);have D3:IntKind.i64.wrap ((Lr.length:Int)-1)=(Lr.length:Int)-1:=zd _ (by omega) (by omega);go_upto_region 3 with fail;refine zJ (c:=10) (S:=(fun bb w'=>w'.cell? ⟨p,0,none⟩=some (.int .i64 g.cols)∧(bb=false→w'.cell? ⟨w.heap.size,0,none⟩=some (.int .i64 ax)))) (by kernel_rfl) (⟨k0,fun _=>a0⟩) (fun _=>?_);refine zb false 0 (⟨k0,fun _=>a0⟩) ?_;refine Zh 1 (⟨k0,fun _=>a0⟩) ?_;refine zb false 2 (⟨k0,fun _=>a0⟩) ?_;refine zb false 3 (⟨k0,fun _=>a0⟩) ?_;refine zb false 4 (⟨k0,fun _=>a0⟩) ?_;refine zb false 5 (⟨k0,fun _=>a0⟩) ?_;refine zb false 6 (⟨k0,fun _=>a0⟩) ?_;refine zb false 7 (⟨k0,fun _=>a0⟩) ?_;refine zb false 8 (⟨k0,fun _=>a0⟩) ?_;refine zb false 9 (⟨k0,fun _=>a0⟩) ?_;refine zj true 10 fun K hK=>?_;refine ze rfl ?_;go_wp2_with fail;refine hK.out _ _ (⟨zn (zx (zo _ _) _ _) k0 (fun e=>by injection e with e;omega),fun e=>by cases e⟩) (fun _=>?_);clear hK K
 try simp only[Act.put]
 refine zD (by kernel_rfl) ?_ _;have B5:0≤max 0 (min ax ((g.cols:Int)-1))∧max 0 (min ax ((g.cols:Int)-1))≤250:=(by omega);have R3:=Qh (show zfD ax ((g.cols:Int)-1)=max 0 (min ax ((g.cols:Int)-1)) from rfl);generalize max 0 (min ax ((g.cols:Int)-1))=bx at *;have U4:((wa.setCell ⟨w.heap.size,0,none⟩ (.int .i64 bx)).drew).heap.size=wa.heap.size:=(by show(wa.setCell _ _).heap.size=_;simp);have D0:=Qh (show wa.grownBy ((wa.setCell ⟨w.heap.size,0,none⟩ (.int .i64 bx)).drew) (some w.heap.size) from zaM (zx (zo _ _) _ _));have G0:=Qh (show((wa.setCell ⟨w.heap.size,0,none⟩ (.int .i64 bx)).drew).heap[w.heap.size]?=some (.cells #[.int .i64 bx,.int .i64 ay] 139 (0,0)) from zz H1 0 _);generalize (wa.setCell ⟨w.heap.size,0,none⟩ (.int .i64 bx)).drew=wb at *;have J2:=Qh (R2.trans (Zn D0 (by omega) (fun q hq=>by injection hq with hq;omega)));have T1:=Qh (zl C3 D0 (fun e=>by injection e with e;omega));clear H1 C3 R2 S0 D0 k0 k1 C k3 a0 z0 T2;have S0:=Qh (E.mod (.of_below J2) id id id (fun _=>id));obtain⟨k0,k1,C,k3⟩:=zY S0;have S3:=Zf underlying112 S0.rr.own;have a0:wb.cell? ⟨w.heap.size,0,none⟩=some (.int .i64 bx):=za G0 0;have a1:wb.cell? ⟨w.heap.size,1,none⟩=some (.int .i64 ay):=za G0 1;have z1:wb.frozen? ⟨w.heap.size,1,none⟩=false:=zA G0 1;go_upto_region 4 with fail;refine zJ (c:=11) (S:=(fun bb w'=>w'.cell? ⟨p,2,none⟩=some vr∧(bb=false→w'.cell? ⟨w.heap.size,1,none⟩=some (.int .i64 ay)))) (by kernel_rfl) (⟨C,fun _=>a1⟩) (fun _=>?_);refine zb false 0 (⟨C,fun _=>a1⟩) ?_;refine Zh 1 (⟨C,fun _=>a1⟩) ?_;refine zb false 2 (⟨C,fun _=>a1⟩) ?_;refine zb false 3 (⟨C,fun _=>a1⟩) ?_;refine zb false 4 (⟨C,fun _=>a1⟩) ?_;refine zb false 5 (⟨C,fun _=>a1⟩) ?_;refine zb false 6 (⟨C,fun _=>a1⟩) ?_;refine zb false 7 (⟨C,fun _=>a1⟩) ?_;refine zb false 8 (⟨C,fun _=>a1⟩) ?_;refine zb false 9 (⟨C,fun _=>a1⟩) ?_;refine zb false 10 (⟨C,fun _=>a1⟩) ?_;refine zj true 11 fun K hK=>?_;refine ze rfl ?_;go_wp2_with fail;refine hK.out _ _ (⟨zn (zx (zo _ _) _ _) C (fun e=>by injection e with e;omega),fun e=>by cases e⟩) (fun _=>?_);clear hK K
 try simp only[Act.put]
 refine zD (by kernel_rfl) ?_ _;have S5:0≤max 0 (min ay ((Lr.length:Int)-1))∧max 0 (min ay ((Lr.length:Int)-1))≤120:=(by omega);have V3:=Qh (show zfD ay ((g.rows.length:Int)-1)=max 0 (min ay ((Lr.length:Int)-1)) by rw[B4.out];rfl);generalize max 0 (min ay ((Lr.length:Int)-1))=O at *;have F5:((wb.setCell ⟨w.heap.size,1,none⟩ (.int .i64 O)).drew).heap.size=wb.heap.size:=(by show(wb.setCell _ _).heap.size=_;simp);have C2:=Qh (show wb.grownBy ((wb.setCell ⟨w.heap.size,1,none⟩ (.int .i64 O)).drew) (some w.heap.size) from zaM (zx (zo _ _) _ _));have X0:=Qh (show((wb.setCell ⟨w.heap.size,1,none⟩ (.int .i64 O)).drew).heap[w.heap.size]?=some (.cells #[.int .i64 bx,.int .i64 O] 139 (0,0)) from zz G0 1 _);generalize (wb.setCell ⟨w.heap.size,1,none⟩ (.int .i64 O)).drew=wc at *;have O2:=Qh (J2.trans (Zn C2 (by omega) (fun q hq=>by injection hq with hq;omega)));have Z0:=Qh (zl T1 C2 (fun e=>by injection e with e;omega));clear G0 T1 J2 S0 C2 k0 k1 C k3 a0 a1 z1 D3 S3;obtain⟨G,I,X,U3,L5,A5⟩:=zE E.rr.own H4;obtain⟨ya,yc,M4⟩:=zK E.ro.own;subst U3 M4;have R4:Lo.length≤2000:=(by have:=(Zg E).2;have:=E.out.wf.ol;have:=E.out.wf.li;omega);have N1:=Qh (show Lr.length=g.rows.length from(Zg E).1);have D4:=Qh (show Lo.length=g.old.length from(Zg E).2);have S1:=Qh E.lt;have J0:=Qh E.tp;obtain⟨k0,k1,C,k3⟩:=zY (E.mod (.of_below O2) id id id (fun _=>id));go_upto_region 7 with fail;go_quiet (fail);have X2:=Qh (zm O2 nq);have L3:=Qh (zr X0 (zm (Below.refl wc.heap.size wc) nq) (zq X0));have O1:=Qh (zr Z0 (zm (Below.refl wc.heap.size wc) nq) (zq Z0));have C5:w.heap.size+2≤(wc.drewN nq).heap.size:=zq O1;clear O2 X0 Z0 k0 k1 C k3;generalize wc.drewN nq=wd at *;have G1:=Qh (E.mod (.of_below X2) id id id (fun _=>id));have H0:=Qh (show ∀ k,T k≠0→k<wd.heap.size from fun k hk=>by have:=S1.out k hk;omega);obtain⟨K,hK⟩:∃ K,K=#[Value.int .i64 g.cols,.int .i64 g.limit,.slice (some ⟨G,I,none⟩) Lr.length X,.slice ya Lo.length yc]:=⟨_,rfl⟩;have HK:=Qh hK;have E4:=Qh (show Rz T p 2 3 K wd (.slice (some ⟨G,I,none⟩) Lr.length X) (.slice ya Lo.length yc) Lr Lo wd by rw[HK.out];exact Rz.start G1 (zh.refl _ _) G1);clear hK;go_upto_block 0 with fail
 go_cut [] (fun wz=>∃ L1 L2:List (Value × Rw),Hid (Rz T p 2 3 K wd (.slice (some ⟨G,I,none⟩) Lr.length X) (.slice ya Lo.length yc) L1 L2 wz)∧Hid (L1.length=Lr.length∧L2.length=Lo.length∧L1.map (·.2)=g.rows.map (fun r=>ZO r cols)∧L2.map (·.2)=g.old.map (fun r=>ZO r cols)))
 case first =>
  go_upto_region 8 with fail
  go_loopw [56] (fun jv wr=>∃ (j:Nat) (L1 L2:List (Value × Rw)),j≤2∧jv=.int .i64 j∧Hid (Rz T p 2 3 K wd (.slice (some ⟨G,I,none⟩) Lr.length X) (.slice ya Lo.length yc) L1 L2 wr)∧Hid (L1.length=Lr.length∧L2.length=Lo.length∧L1.map (·.2)=(if 1≤j then g.rows.map (fun r=>ZO r cols) else g.rows)∧L2.map (·.2)=(if 2≤j then g.old.map (fun r=>ZO r cols) else g.old))) (fun jv _=>2-(intOf jv).toNat)
  case atStart=>exact⟨0,Lr,Lo,by decide,rfl,E4,⟨rfl,rfl,by rw[G1.out.er];rfl,by rw[G1.out.eo];rfl⟩⟩
  case round =>
   obtain⟨j,L1,L2,hj,rfl,HZ,HL⟩:=hrel;obtain⟨wj,rfl⟩:∃ wj,wj=wr:=⟨wr,rfl⟩;have R5:=fun wx=>(zkh (some ⟨G,I,none⟩) ya Lr.length X Lo.length yc wx).1;have N5:=fun wx=>(zkh (some ⟨G,I,none⟩) ya Lr.length X Lo.length yc wx).2
   match j,hj with
   | 0,_ =>
    go_upto_region 11 with fail
    go_loopw [61] (fun kv wi=>∃ (k:Nat) (L:List (Value × Rw)),k≤Lr.length∧kv=.int .i64 k∧Hid (Rz T p 2 3 K wd (.slice (some ⟨G,I,none⟩) Lr.length X) (.slice ya Lo.length yc) L L2 wi)∧Hid (L.length=Lr.length∧L.map (·.2)=(g.rows.take k).map (fun r=>ZO r cols)++g.rows.drop k)) (fun kv _=>Lr.length-(intOf kv).toNat)
    case atStart=>exact⟨0,L1,Nat.zero_le _,rfl,HZ,⟨HL.1,by rw[HL.out.2.2.1];simp⟩⟩
    case round =>
     obtain⟨k,L,hk,rfl,HR,HM⟩:=hrel;obtain⟨wi,rfl⟩:∃ wi,wi=wr:=⟨wr,rfl⟩;by_cases hlt:k<Lr.length
     ·have d1:decide ((k:Int)<(Lr.length:Int))=true:=Qt (by omega);have C1:decide (k<Lr.length)=true:=Qt hlt;have Y3:IntKind.i64.wrap ((k:Int)+1)=(k:Int)+1:=zd _ (by omega) (by omega);obtain⟨A,x,B,V0,G2⟩:∃ A x B,A.length=k∧L=A++x::B:=by
       have h1:=HM.out.1;refine⟨L.take k,L[k]'(by omega),L.drop (k+1),by rw[List.length_take];omega,?_⟩;rw[← List.drop_eq_getElem_cons,List.take_append_drop]
      subst G2;have J:=Qh V0;have H:=Qh HM.1;clear V0;have A1:(A++x::B)[k]'(by rw[H.out];exact hlt)=x:=by
       have:=J.out;subst this;simp
      have F4:=Qh (zer (fun z:Value × Rw=>z.2) (fun r=>ZO r cols) A B x x g.rows k J HM.2);have N0:x.2.cells.length=g.cols:=(E.wf.ce x.2 (by
       have h1:x.2∈g.rows:=by
        have h3:=HM.out.2;have h4:((A++x::B).map (fun z:Value × Rw=>z.2))[k]?=some x.2:=by
         have:=J.out;subst this;simp
        rw[h3,List.getElem?_append_right (by rw[List.length_map,List.length_take];exact Nat.min_le_left _ _)]at h4;exact List.mem_of_mem_drop (List.mem_of_getElem? h4)
       exact List.mem_append_left _ h1)).1
      obtain⟨B0,q,N,E1⟩:=HR.out.ca x (List.mem_append_left _ (List.mem_append_right _ (List.mem_cons_self ..)));obtain⟨C0,F⟩:=zaJ (n:=Lr.length) (by have:=HR.out.rl.own;rw[H.out]at this;exact this) k (by rw[H.out];exact hlt);rw[A1]at C0 F;obtain⟨xv,xr⟩:=x;dsimp only at B0 N N0 C0 F;obtain⟨cb,co,cc,e1,_,_⟩:=zE B0 (by omega);subst e1;have X1:cb=q:=(by simp only[Value.ownBlock]at N;injection N);subst X1;have O3:=Zw (P:=prog) (size:=2) underlying112 zC G I Lr.length X k hlt;have S2:=Qh B0;have I2:=Qh N;have HXT:=Qh E1;have M:1≤xr.cells.length∧xr.cells.length≤1000:=(by omega);clear B0 N E1 A1;obtain⟨D,R⟩:=xr;dsimp only at N0 C0 F M;generalize Y0:D.length=nl at *;have E0:=Qh Y0;clear Y0 N0;go_wp2_with fail;have O0:=Qh (zfT ⟨D,R⟩ cb co cc cols wi (by show zp wi 0 5 (.slice _ D.length cc) D.length (zt D);rw[E0.out];have:=S2.out;exact this) (by show 1≤D.length∧D.length≤1000;rw[E0.out];exact M) ⟨c1,c2⟩);dsimp only at O0;have M0:=O0.out;rw[E0.out]at M0;refine M0.mono ?_;clear M0 O0;rintro e w2 ⟨v',rfl,g2,hn2⟩;have V1:∃ a' n' c',v'=Value.slice a' n' c':=by
       rcases hn2 with ⟨_,e,_⟩ | ⟨_,e⟩
       ·exact⟨_,_,_,e⟩
       ·obtain⟨a',c',e⟩:=zK e;exact⟨_,_,_,e⟩
      obtain⟨V,Y,U,rfl⟩:=V1;have D0:=Qh g2;have HN2:=Qh hn2;clear g2 hn2;have Y1:∀ C,(Value.slice (some ⟨G,I,none⟩) Lr.length X).ownBlock=some C→T C=2:=fun C h2=>HR.rl.tag C h2;have E2:G≠cb:=fun e=>by
       have h1:=Y1 G rfl;rcases HXT.out with h2 | h2
       ·rw[e]at h1;omega
       ·have h3:=H0.out G (by omega);omega
      have F0:=zi HR.rl.own D0 (fun C h2 e=>E2 (by simp only[Value.ownBlock]at h2;injection h2 with h2;injection e with e;rw[h2,e]));rw[H.out]at F0;have A0:=zcC (P:=prog) zC F0 k hlt #[.slice V Y U,.bool (ZO ⟨D,R⟩ cols).wrap] rfl (zeC V Y U _);have I0:=zak F0 (k*2) (zf [((.slice V Y U:Value),ZO ⟨D,R⟩ cols)]) (by rw[zL];simp;omega);rw[← zbl,zb5 _ _ _ _ _ J.out.symm]at I0;have g3:=zV w2 G (I+k*2) (zf [((.slice V Y U:Value),ZO ⟨D,R⟩ cols)]);have D1:=Qh (HR.step (v':=.slice V Y U) (r':=ZO ⟨D,R⟩ cols) H0 J0 (by simp) I2 D0 (by
       rcases HN2.out with ⟨e1,e2,e3⟩ | ⟨e1,e2⟩
       ·refine .inl ⟨e2,?_,e3⟩;unfold ZO;rw[if_pos (by show cols=D.length;rw[E0.out];exact e1)]
       ·refine .inr ⟨by rw[zgm];exact e2,?_⟩;have h1:=zE e2 (by omega);obtain⟨b9,o9,c9,e9,_⟩:=h1;exact⟨b9,by rw[e9];rfl⟩) g3 (by
       have hl:(A++((.slice V Y U:Value),ZO ⟨D,R⟩ cols)::B).length=Lr.length:=by
        have:=H.out;simp only[List.length_append,List.length_cons]at this ⊢;exact this
       rw[hl];exact I0))
      have M2:=Qh (zer (fun z:Value × Rw=>z.2) (fun r=>ZO r cols) A B (.slice (some ⟨cb,co,none⟩) nl cc,⟨D,R⟩) (.slice V Y U,ZO ⟨D,R⟩ cols) g.rows k J HM.2 rfl);replace A0:(storeVar 144 ⟨G,I+k*2,none⟩ (.agg #[.slice V Y U,.bool (ZO ⟨D,R⟩ cols).wrap])).run prog w2=.ok () (w2.setCells G (I+k*2) (zf [((.slice V Y U:Value),ZO ⟨D,R⟩ cols)])):=A0;clear I0 g3 F0 C0 F;generalize w2.setCells G (I+k*2) (zf [((.slice V Y U:Value),ZO ⟨D,R⟩ cols)])=w3 at *;go_wp2_with (refine zF rfl _ _ _ rfl A0 rfl rfl ?_);go_roundw
      case rel=>exact⟨k+1,_,by omega,by go_num,D1,⟨by
       have:=H.out;simp only[List.length_append,List.length_cons]at this ⊢;exact this,M2.2⟩⟩
      case measure=>simp[intOf];omega
     ·have U1:k=Lr.length:=(by omega);have d1:decide ((k:Int)<(Lr.length:Int))=false:=Qf (by omega);have C1:decide (k<Lr.length)=false:=Qf hlt;go_wp2_with fail;go_roundw
      case rel=>exact⟨1,L,L2,by omega,rfl,HR,⟨HM.1,HL.2.1,by rw[HM.out.2,U1,N1.out,List.take_length,List.drop_length,List.append_nil];rfl,HL.2.2.2⟩⟩
      case measure=>decide
   | 1,_ =>
    go_upto_region 11 with fail
    go_loopw [61] (fun kv wi=>∃ (k:Nat) (L:List (Value × Rw)),k≤Lo.length∧kv=.int .i64 k∧Hid (Rz T p 3 2 K wd (.slice ya Lo.length yc) (.slice (some ⟨G,I,none⟩) Lr.length X) L L1 wi)∧Hid (L.length=Lo.length∧L.map (·.2)=(g.old.take k).map (fun r=>ZO r cols)++g.old.drop k)) (fun kv _=>Lo.length-(intOf kv).toNat)
    case atStart=>exact⟨0,L2,Nat.zero_le _,rfl,HZ.swap,⟨HL.2.1,by rw[HL.out.2.2.2];simp⟩⟩
    case round =>
     obtain⟨k,L,hk,rfl,HR,HM⟩:=hrel;obtain⟨wi,rfl⟩:∃ wi,wi=wr:=⟨wr,rfl⟩;by_cases hlt:k<Lo.length
     ·have d1:decide ((k:Int)<(Lo.length:Int))=true:=Qt (by omega);have C1:decide (k<Lo.length)=true:=Qt hlt;have Y3:IntKind.i64.wrap ((k:Int)+1)=(k:Int)+1:=zd _ (by omega) (by omega);have L0:=HR.out.rl.own;rw[HM.out.1]at L0;obtain⟨yb,yo,D5,Y2,H5,J5⟩:=zE L0 (by omega);simp only[Value.slice.injEq]at Y2;obtain⟨I4,_,I3⟩:=Y2;subst I4 I3;clear L0;obtain⟨A,x,B,V0,G2⟩:∃ A x B,A.length=k∧L=A++x::B:=by
       have h1:=HM.out.1;refine⟨L.take k,L[k]'(by omega),L.drop (k+1),by rw[List.length_take];omega,?_⟩;rw[← List.drop_eq_getElem_cons,List.take_append_drop]
      subst G2;have J:=Qh V0;have H:=Qh HM.1;clear V0;have A1:(A++x::B)[k]'(by rw[H.out];exact hlt)=x:=by
       have:=J.out;subst this;simp
      have F4:=Qh (zer (fun z:Value × Rw=>z.2) (fun r=>ZO r cols) A B x x g.old k J HM.2);have N0:x.2.cells.length=g.cols:=(E.wf.ce x.2 (by
       have h1:x.2∈g.old:=by
        have h3:=HM.out.2;have h4:((A++x::B).map (fun z:Value × Rw=>z.2))[k]?=some x.2:=by
         have:=J.out;subst this;simp
        rw[h3,List.getElem?_append_right (by rw[List.length_map,List.length_take];exact Nat.min_le_left _ _)]at h4;exact List.mem_of_mem_drop (List.mem_of_getElem? h4)
       exact List.mem_append_right _ h1)).1
      obtain⟨B0,q,N,E1⟩:=HR.out.ca x (List.mem_append_left _ (List.mem_append_right _ (List.mem_cons_self ..)));obtain⟨C0,F⟩:=zaJ (n:=Lo.length) (by have:=HR.out.rl.own;rw[H.out]at this;exact this) k (by rw[H.out];exact hlt);rw[A1]at C0 F;obtain⟨xv,xr⟩:=x;dsimp only at B0 N N0 C0 F;obtain⟨cb,co,cc,e1,_,_⟩:=zE B0 (by omega);subst e1;have X1:cb=q:=(by simp only[Value.ownBlock]at N;injection N);subst X1;have O3:=Zw (P:=prog) (size:=2) underlying112 zC yb yo Lo.length yc k hlt;have S2:=Qh B0;have I2:=Qh N;have HXT:=Qh E1;have M:1≤xr.cells.length∧xr.cells.length≤1000:=(by omega);clear B0 N E1 A1;obtain⟨D,R⟩:=xr;dsimp only at N0 C0 F M;generalize Y0:D.length=nl at *;have E0:=Qh Y0;clear Y0 N0;go_wp2_with fail;have O0:=Qh (zfT ⟨D,R⟩ cb co cc cols wi (by show zp wi 0 5 (.slice _ D.length cc) D.length (zt D);rw[E0.out];have:=S2.out;exact this) (by show 1≤D.length∧D.length≤1000;rw[E0.out];exact M) ⟨c1,c2⟩);dsimp only at O0;have M0:=O0.out;rw[E0.out]at M0;refine M0.mono ?_;clear M0 O0;rintro e w2 ⟨v',rfl,g2,hn2⟩;have V1:∃ a' n' c',v'=Value.slice a' n' c':=by
       rcases hn2 with ⟨_,e,_⟩ | ⟨_,e⟩
       ·exact⟨_,_,_,e⟩
       ·obtain⟨a',c',e⟩:=zK e;exact⟨_,_,_,e⟩
      obtain⟨V,Y,U,rfl⟩:=V1;have D0:=Qh g2;have HN2:=Qh hn2;clear g2 hn2;have Y1:∀ C,(Value.slice (some ⟨yb,yo,none⟩) Lo.length yc).ownBlock=some C→T C=3:=fun C h2=>HR.rl.tag C h2;have E2:yb≠cb:=fun e=>by
       have h1:=Y1 yb rfl;rcases HXT.out with h2 | h2
       ·rw[e]at h1;omega
       ·have h3:=H0.out yb (by omega);omega
      have F0:=zi HR.rl.own D0 (fun C h2 e=>E2 (by simp only[Value.ownBlock]at h2;injection h2 with h2;injection e with e;rw[h2,e]));rw[H.out]at F0;have A0:=zcC (P:=prog) zC F0 k hlt #[.slice V Y U,.bool (ZO ⟨D,R⟩ cols).wrap] rfl (zeC V Y U _);have I0:=zak F0 (k*2) (zf [((.slice V Y U:Value),ZO ⟨D,R⟩ cols)]) (by rw[zL];simp;omega);rw[← zbl,zb5 _ _ _ _ _ J.out.symm]at I0;have g3:=zV w2 yb (yo+k*2) (zf [((.slice V Y U:Value),ZO ⟨D,R⟩ cols)]);have D1:=Qh (HR.step (v':=.slice V Y U) (r':=ZO ⟨D,R⟩ cols) H0 J0 (by simp) I2 D0 (by
       rcases HN2.out with ⟨e1,e2,e3⟩ | ⟨e1,e2⟩
       ·refine .inl ⟨e2,?_,e3⟩;unfold ZO;rw[if_pos (by show cols=D.length;rw[E0.out];exact e1)]
       ·refine .inr ⟨by rw[zgm];exact e2,?_⟩;have h1:=zE e2 (by omega);obtain⟨b9,o9,c9,e9,_⟩:=h1;exact⟨b9,by rw[e9];rfl⟩) g3 (by
       have hl:(A++((.slice V Y U:Value),ZO ⟨D,R⟩ cols)::B).length=Lo.length:=by
        have:=H.out;simp only[List.length_append,List.length_cons]at this ⊢;exact this
       rw[hl];exact I0))
      have M2:=Qh (zer (fun z:Value × Rw=>z.2) (fun r=>ZO r cols) A B (.slice (some ⟨cb,co,none⟩) nl cc,⟨D,R⟩) (.slice V Y U,ZO ⟨D,R⟩ cols) g.old k J HM.2 rfl);replace A0:(storeVar 144 ⟨yb,yo+k*2,none⟩ (.agg #[.slice V Y U,.bool (ZO ⟨D,R⟩ cols).wrap])).run prog w2=.ok () (w2.setCells yb (yo+k*2) (zf [((.slice V Y U:Value),ZO ⟨D,R⟩ cols)])):=A0;clear I0 g3 F0 C0 F;generalize w2.setCells yb (yo+k*2) (zf [((.slice V Y U:Value),ZO ⟨D,R⟩ cols)])=w3 at *;go_wp2_with (refine zF rfl _ _ _ rfl A0 rfl rfl ?_);go_roundw
      case rel=>exact⟨k+1,_,by omega,by go_num,D1,⟨by
       have:=H.out;simp only[List.length_append,List.length_cons]at this ⊢;exact this,M2.2⟩⟩
      case measure=>simp[intOf];omega
     ·have U1:k=Lo.length:=(by omega);have d1:decide ((k:Int)<(Lo.length:Int))=false:=Qf (by omega);have C1:decide (k<Lo.length)=false:=Qf hlt;go_wp2_with fail;go_roundw
      case rel=>exact⟨2,L1,L,by omega,rfl,HR.swap,⟨HL.1,HM.1,HL.2.2.1,by rw[HM.out.2,U1,D4.out,List.take_length,List.drop_length,List.append_nil];rfl⟩⟩
      case measure=>decide
   | 2,_ =>
    go_wp2_with fail;go_meet;exact⟨L1,L2,HZ,HL⟩
 case rest =>
  obtain⟨L1,L2,HZ,HL⟩:=hcut;obtain⟨we,rfl⟩:∃ we,we=wc:=⟨wc,rfl⟩;have U0:=Qh (show we.heap[p]?=some (.cells #[.int .i64 g.cols,.int .i64 g.limit,.slice (some ⟨G,I,none⟩) Lr.length X,.slice ya Lo.length yc] 114 (0,0)) by rw[← HK.out];exact HZ.blk);have C:we.cell? ⟨p,2,none⟩=some (.slice (some ⟨G,I,none⟩) Lr.length X):=za U0 2;have g2:we.frozen? ⟨p,2,none⟩=false:=zA U0 2;have D2:p<wd.heap.size:=(by omega);go_upto_if 81 with fail
  go_cut [] (fun wz=>∃ (a9:Option Addr) (n9 c9:Nat) (L9:List (Value × Rw)),Hid (wz.heap[p]?=some (.cells #[.int .i64 g.cols,.int .i64 g.limit,.slice a9 n9 c9,.slice ya Lo.length yc] 114 (0,0)))∧Hid (Rs T wd (.slice a9 n9 c9) (.slice ya Lo.length yc) L9 L2 wz)∧Hid (L9.map (·.2)=zcb (g.rows.map fun r=>ZO r cols) cols rows))
  case first =>
   by_cases hrl:rows<Lr.length
   ·have d1:decide ((rows:Int)<(Lr.length:Int))=true:=Qt (by omega);have C1:decide (rows<Lr.length)=true:=Qt hrl;have M5:=fun wx=>zcX (P:=prog) underlying112 zC (some ⟨G,I,none⟩) Lr.length X rows (by omega) wx;go_wp2_with fail;go_meet;refine⟨_,rows,X,L1.take rows,zz U0 2 _,(HZ.cut H0 HL.1 rows (by omega)).put J0 D2 (zx (zo _ _) _ _),?_⟩;show _=_;rw[List.map_take,HL.out.2.2.1];unfold zcb;rw[if_pos (by rw[List.length_map,← N1.out];exact hrl)]
   ·have d1:decide ((rows:Int)<(Lr.length:Int))=false:=Qf (by omega);have C1:decide (rows<Lr.length)=false:=Qf hrl;obtain⟨rn,G3⟩:∃ rn:Nat,rn+Lr.length=rows:=⟨rows-Lr.length,by omega⟩;have E5:IntKind.i64.wrap ((rows:Int)-(Lr.length:Int))=(rn:Int):=(by rw[zd _ (by omega) (by omega)];omega);have N4:=Qh G3;have T4:rn≤120:=(by omega);clear G3;have B3:=Qh (show zp we 0 2 (.slice (some ⟨G,I,none⟩) Lr.length X) Lr.length (zf L1) by have:=HZ.out.rl.own;rw[HL.out.1]at this;exact this);have HXT:=Qh (show ∀ k,(Value.slice (some ⟨G,I,none⟩) Lr.length X).ownBlock=some k→T k=2 from fun k hk=>HZ.rl.tag k hk);have Y4:=Zf underlying112 B3;go_upto_region 18 with fail;refine zJ (c:=18) (S:=(fun bb w'=>True∧(bb=false→w'.cell? ⟨p,2,none⟩=some (.slice (some ⟨G,I,none⟩) Lr.length X)))) (by kernel_rfl) (⟨trivial,fun _=>C⟩) (fun _=>?_);refine zb false 0 (⟨trivial,fun _=>C⟩) ?_;refine zb false 1 (⟨trivial,fun _=>C⟩) ?_;refine zb false 2 (⟨trivial,fun _=>C⟩) ?_;refine zb false 3 (⟨trivial,fun _=>C⟩) ?_;refine Zh 4 (⟨trivial,fun _=>C⟩) ?_;refine zb false 5 (⟨trivial,fun _=>C⟩) ?_;refine zb false 6 (⟨trivial,fun _=>C⟩) ?_;refine zb false 7 (⟨trivial,fun _=>C⟩) ?_;refine zb false 8 (⟨trivial,fun _=>C⟩) ?_;refine Zh 9 (⟨trivial,fun _=>C⟩) ?_;refine zb false 10 (⟨trivial,fun _=>C⟩) ?_;refine zb false 11 (⟨trivial,fun _=>C⟩) ?_;refine zb false 12 (⟨trivial,fun _=>C⟩) ?_;refine zj false 13 fun K hK=>?_;refine ze rfl ?_;go_wp2_with fail;refine(ZW we.drew).mono ?_;rintro e wp ⟨rfl,bp⟩;have B2:wp.cell? ⟨p,2,none⟩=some (.slice (some ⟨G,I,none⟩) Lr.length X):=zc bp C;have F1:=Qh (show Below we.heap.size we wp from(Below.refl we.heap.size we).drew.trans bp);refine hK.out _ _ (⟨trivial,fun _=>B2⟩) (fun _=>?_);clear hK K bp
    try simp only[Act.put,List.setIfInBounds_toArray,List.set_cons_zero,List.set_cons_succ]
    refine zj false 14 fun K hK=>?_;refine ze rfl ?_;go_wp2_with fail;refine(zcF rn cols plainS wp (by omega) (by omega)).mono ?_;rintro e wq ⟨v4,L4,rfl,b4,e4,r4⟩;have J1:wq.cell? ⟨p,2,none⟩=some (.slice (some ⟨G,I,none⟩) Lr.length X):=zc b4 B2;have M1:=Qh (F1.trans (b4.mono F1.size));have F3:L4.length=rn:=by
     have h1:=congrArg List.length e4;unfold zW at h1;rw[List.length_map,List.length_replicate]at h1;exact h1
    have J3:=Qh F3;have T3:=Qh e4;have H2:=Qh (show Zj we.heap.size wq v4 L4 from⟨zP r4.own F1.size,fun x hx=>zP (r4.cells x hx) F1.size,r4.nd,r4.ap⟩);refine hK.out _ _ (⟨trivial,fun _=>J1⟩) (fun _=>?_);clear hK K b4 e4 r4 F3
    try simp only[Act.put,List.setIfInBounds_toArray,List.set_cons_zero,List.set_cons_succ]
    refine zj false 15 fun K hK=>?_;apply zap zaH
    case hgd=>rfl
    case ho=>rfl
    case hown=>exact zk B3 M1
    case hs=>rfl
    case hr=>exact Z4 underlying112 (zX H2.own) (zc4 H2)
    case hx=>rfl
    case h63=>(have:=J3.out;unfold maxLen;omega)
    case hbytes=>(have:=J3.out;omega)
    case hbase=>exact Nat.zero_le _
    intro v7 w7 o7 g7 n7;obtain⟨a7,c7,rfl⟩:=zK o7;have R0:(Value.slice (some ⟨G,I,none⟩) Lr.length X).ownBlock≠some p:=fun e=>(by have:=HXT.out p e;have:=J0.out;omega);have I1:w7.cell? ⟨p,2,none⟩=some (.slice (some ⟨G,I,none⟩) Lr.length X):=zn g7 J1 R0;have Z3:w7.frozen? ⟨p,2,none⟩=false:=ZS g7 (Z9 M1 C g2) (zaO J1) R0;have J4:=Qh o7;have Z2:=Qh g7;have C4:=Qh n7;have V2:=Qh R0;refine hK.out _ _ (⟨trivial,fun _=>I1⟩) (fun _=>?_);clear hK K o7 g7 n7 R0
    try simp only[Act.put,List.setIfInBounds_toArray,List.set_cons_zero,List.set_cons_succ]
    refine zb false 16 (⟨trivial,fun _=>I1⟩) ?_;refine zb false 17 (⟨trivial,fun _=>I1⟩) ?_;refine zj true 18 fun K hK=>?_;refine ze rfl ?_;go_wp2_with fail;refine hK.out _ _ (⟨trivial,fun e=>by cases e⟩) (fun _=>?_);clear hK K
    try simp only[Act.put]
    refine zD (by kernel_rfl) ?_ _;have g8:w7.grownBy (w7.setCell ⟨p,2,none⟩ (.slice a7 (Lr.length+L4.length) c7)) (some p):=zx (zo _ _) _ _;have B1:=Qh (show(w7.setCell ⟨p,2,none⟩ (.slice a7 (Lr.length+L4.length) c7)).heap[p]?=some (.cells #[.int .i64 g.cols,.int .i64 g.limit,.slice a7 (Lr.length+L4.length) c7,.slice ya Lo.length yc] 114 (0,0)) from
     zz (zl (zr U0 M1 (zq U0)) Z2 (fun e=>V2 e.symm)) 2 _)
    have T0:=Qh (show Rs T wd (.slice a7 (Lr.length+L4.length) c7) (.slice ya Lo.length yc) (L1++L4) L2 (w7.setCell ⟨p,2,none⟩ (.slice a7 (Lr.length+L4.length) c7)) from
     (HZ.grow H0 M1 H2 (by rw[HL.out.1];exact J4) Z2 C4).put J0 D2 g8)
    have F2:=Qh (show(L1++L4).map (·.2)=zcb (g.rows.map fun r=>ZO r cols) cols rows by
     rw[List.map_append,HL.out.2.2.1,T3.out];unfold zcb;rw[if_neg (by rw[List.length_map,← N1.out];exact hrl),List.length_map,← N1.out,show rows-Lr.length=rn by have:=N4.out;omega])
    clear g8 C B2 J1 I1 Z3 g2;go_wp2_with fail;go_meet;exact⟨_,_,_,L1++L4,B1,T0,F2⟩
  case rest =>
   obtain⟨a9,n9,c9,L9,B1,T0,F2⟩:=hcut;obtain⟨wz,rfl⟩:∃ wz,wz=wc:=⟨wc,rfl⟩;clear C g2;have j0:wz.cell? ⟨p,0,none⟩=some (.int .i64 g.cols):=za B1 0;have g0:wz.frozen? ⟨p,0,none⟩=false:=zA B1 0;have N3:=Qh (show(wz.setCell ⟨p,0,none⟩ (.int .i64 cols)).heap[p]?=some (.cells #[.int .i64 cols,.int .i64 g.limit,.slice a9 n9 c9,.slice ya Lo.length yc] 114 (0,0)) from zz B1 0 _);have Z:=Qh (T0.put J0 D2 (show wz.grownBy (wz.setCell ⟨p,0,none⟩ (.int .i64 cols)) (some p) from zx (zo _ _) _ _));go_upto_region 20 with fail;generalize wz.setCell ⟨p,0,none⟩ (.int .i64 cols)=wf at *;clear j0 g0;have A2:∀ k,w.heap.size≤k→k<wd.heap.size→¬ own T wd k:=fun k h1 h2 e=>by
    rcases e with e | e
    ·have:=S1.out k e;omega
    ·omega
   have N2:=(Z.wi.block w.heap.size (by omega) (A2 _ (Nat.le_refl _) (by omega))).trans L3;have Z1:=(Z.wi.block (w.heap.size+1) (by omega) (A2 _ (by omega) (by omega))).trans O1;have y0:wf.cell? ⟨w.heap.size,0,none⟩=some (.int .i64 bx):=za N2 0;have y1:wf.cell? ⟨w.heap.size,1,none⟩=some (.int .i64 O):=za N2 1;have V4:IntKind.i64.wrap ((cols:Int)-1)=(cols:Int)-1:=zd _ (by omega) (by omega);have X3:IntKind.i64.wrap ((rows:Int)-1)=(rows:Int)-1:=zd _ (by omega) (by omega);have A0:=run_storeVar_row (P:=prog) wf (w.heap.size+1) 139 139 _ #[.int .i64 (min bx ((cols:Int)-1)),.int .i64 (min O ((rows:Int)-1))] Z1 (by kernel_rfl) rfl (by simp[Value.oneCell']);have U2:=Zz (cells:=#[.int .i64 (min bx ((cols:Int)-1)),.int .i64 (min O ((rows:Int)-1))]) Z1;have E3:=Qh (zbD wf (w.heap.size+1) #[.int .i64 (min bx ((cols:Int)-1)),.int .i64 (min O ((rows:Int)-1))]);have H3:=Qh (zbB g cols rows ax ay);have M3:=Qh (show ∃ T',GM T' p (wf.setRow (w.heap.size+1) #[.int .i64 (min bx ((cols:Int)-1)),.int .i64 (min O ((rows:Int)-1))]) (g.resize cols rows ax ay false).1∧∀ k,T' k≠0→own T w k from by
    have R1:=zi7 E.wf cols rows ax ay c1 c2 r1 r2;rw[zbB]at R1 ⊢;obtain⟨T',h1,h2⟩:=zcS H0 J0 Z.wi.size N3.out Z.rr Z.ro Z.tr Z.tv Z.ca Z.nd F2.out HL.2.2.2 R1;refine⟨T',h1.other (Tp:=fun k=>if k=w.heap.size+1 then 1 else 0) (zh.of_gb E3 (fun k hk=>?_)) (fun k hk=>?_),fun k hk=>?_⟩
    ·injection hk with hk;subst hk;exact .inl (by show(if _ then 1 else 0)≠0;rw[if_pos rfl];decide)
    ·show(if _ then 1 else 0)=0;rw[if_neg (fun e=>A2 (w.heap.size+1) (by omega) (by omega) (by rw[← e];exact h2 k hk))]
    ·rcases h2 k hk with e | e
     ·exact .inl e
     ·exact .inr (by omega))
   have A4:=Qh (show zh (own T w) w (wf.setRow (w.heap.size+1) #[.int .i64 (min bx ((cols:Int)-1)),.int .i64 (min O ((rows:Int)-1))]) from
    ((zh.of_below X2).trans (Z.wi.mono (fun k hk=>by
     rcases hk with e | e
     ·exact .inl e
     ·exact .inr (by omega)))).trans (zh.of_gb E3 (fun k hk=>by injection hk with hk;subst hk;exact .inr (by omega))))
   clear N2 Z1;go_wp2_with (refine zF rfl _ _ _ rfl A0 rfl rfl ?_);(try simp only[Exit.inBlock,Exit.then]);exact zkg (x:=.int .i64 0) rfl rfl rfl rfl U2 underlying139 rfl (by kernel_rfl) ⟨by rw[H3.out,R3.out,V3.out],A4,M3⟩
end
section
open Go.RowKit
theorem SAt.other {C C1 Tm To Tp:Nat→Nat} {p pm:Nat} {po:Option Nat} {pp:Nat} {vt vo:Value} {w w':World} {s:Scr} {ps:PSt} (h:SAt C Tm To Tp p pm po pp vt vo w s ps) (hw:zh (own C1 w) w w') (hd:∀ k,C k≠0→C1 k=0):SAt C Tm To Tp p pm po pp vt vo w' s ps:=by
 have B:∀ k,C k≠0→¬ own C1 w k:=fun k hk e=>by
  rcases e with e | e
  ·exact e (hd k hk)
  ·have:=h.lt k hk;omega
 have A:∀ k,C k≠0→w'.heap[k]?=w.heap[k]?:=fun k hk=>hw.block k (h.lt k hk) (B k hk);refine⟨fun k hk=>Nat.lt_of_lt_of_le (h.lt k hk) hw.size,h.cp,(A p (by rw[h.cp];decide)).trans h.blk,h.gm.other hw (fun k hk=>hd k (by rw[h.t4 k hk];decide)),h.go.kept hw (fun k hk=>hd k (by rw[h.t5 k hk];decide)),zgF h.rp hw (fun k hk=>hd k (by rw[h.t6 k hk];decide)),
  Zu h.ta hw.size (fun k hk=>A k (by rw[h.t2 k hk];decide)),Zu h.ou hw.size (fun k hk=>A k (by rw[h.t3 k hk];decide)),h.t2,h.t3,h.t4,h.t5,h.t6⟩
theorem SR.other {B:World} {C C1:Nat→Nat} {p:Nat} {w w':World} {s:Scr} {ps:PSt} (h:SR B C p w s ps) (hw:zh (own C1 w) w w') (hd:∀ k,C k≠0→C1 k=0) (hB:∀ k,C1 k≠0→B.heap.size≤k):SR B C p w' s ps:=by
 obtain⟨A,G,I,F,J,D,E,H,L⟩:=h.sm;exact⟨⟨A,G,I,F,J,D,E,H,L.other hw hd⟩,h.tb,h.bl.trans (zeI hw h.bl.size hB),h.hi⟩
end
end Go.Proofs.YthehkmopdeebmaaGreatDoor
