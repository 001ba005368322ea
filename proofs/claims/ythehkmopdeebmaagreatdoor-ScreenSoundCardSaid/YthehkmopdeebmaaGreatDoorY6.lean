/- Part. -/
import Derived.Test.YthehkmopdeebmaaGreatDoorY3
import Derived.Test.YthehkmopdeebmaaGreatDoorY4
set_option linter.unusedVariables false
set_option linter.unusedSimpArgs false
set_option maxRecDepth 100000
set_option maxHeartbeats 4000000
namespace Go.Proofs.YthehkmopdeebmaaGreatDoor
open _root_.Go.Proofs.Tryz
section
open Go.RowKit
theorem ziG:(prog.info? 200).map (·.size)=some 2:=by kernel_rfl
theorem znb:liesAt prog prog.depth 200 (2 / prog.cellsOf 200) 0 200 1=true:=by kernel_rfl
theorem zjT (b:Nat) (w:World) (h0:w.cell? ⟨b,0,none⟩=some (.pointer (some ⟨b,0,none⟩))) :
  Calls prog 218 #[.pointer (some ⟨b,0,none⟩)] w fun e w'=>e=.returned (.tuple #[])∧w'=w:=by
 obtain⟨j,A,_⟩:=Option.map_eq_some_iff.1 ziG;have B:=fun (wx:World)=>Lib.run_neq_ptr_same (P:=prog) (w:=wx) ⟨b,0,none⟩ underlying198 A;go_enter func218,ntmps218;go_wp2_with fail;go_end0;exact⟨rfl,rfl⟩
theorem ziH (b:Nat) (w:World) (h0:w.cell? ⟨b,0,none⟩=some (.pointer none)) (hsh:w.shape? b=some (200,2)) (hfz:w.frozen? ⟨b,0,none⟩=false) :
  Calls prog 218 #[.pointer (some ⟨b,0,none⟩)] w fun e w'=>e=.returned (.tuple #[])∧w'=w.setCell ⟨b,0,none⟩ (.pointer (some ⟨b,0,none⟩)):=by
 obtain⟨j,B,A⟩:=Option.map_eq_some_iff.1 ziG;have D:=Lib.run_to_unsafe (P:=prog) w ⟨b,0,none⟩ underlying198 underlying248 B (by rw[A];decide) hsh (Nat.zero_lt_succ 1);have C:=Lib.run_from_unsafe (P:=prog) w ⟨b,0,none⟩ underlying248 underlying198 B hsh znb;go_enter func218,ntmps218;go_wp2_with fail;rw[run_callFunc_extern func237 (by kernel_rfl) (by kernel_rfl) (by kernel_rfl) (e:=Extern.AbiNoEscape.same) (by kernel_rfl)];rw[Lib.run_noEscape];simp only[Result.andThen];rw[Oper.upon_value];go_wp2_with fail;go_end0;exact⟨rfl,rfl⟩
theorem ze2 (B b:Nat) (bs:List Value) (w:World) (h:Lib.IsBuilderF 200 5 B b bs w) :
  Calls prog 218 #[.pointer (some ⟨b,0,none⟩)] w fun e w'=>e=.returned (.tuple #[])∧Lib.BuilderAtF 200 5 B b (.pointer (some ⟨b,0,none⟩)) bs w'∧Below B w w':=by
 rcases h with h | h
 ·refine(ziH b w h.cell0 h.shape h.frozen0).mono ?_;rintro e w' ⟨rfl,rfl⟩;exact⟨rfl,h.used _,(Below.refl B w).setCell (p:=⟨b,0,none⟩) h.1 _⟩
 ·refine(zjT b w h.cell0).mono ?_;rintro e w' ⟨rfl,rfl⟩;exact⟨rfl,h,Below.refl B _⟩
theorem zgy (B b:Nat) (bs:List Value) (r:Int) (hr0:-2147483648≤r) (hr1:r≤2147483647) (w:World) (h:Lib.IsBuilderF 200 5 B b bs w) (hlen:bs.length+4≤140737488355328) (hBw:B≤w.heap.size) :
  Calls prog 169 #[.pointer (some ⟨b,0,none⟩),.int .i32 r] w fun e w'=>(∃ n,e=.returned (.tuple #[.int .i64 n,.nilIface]))∧Lib.IsBuilderF 200 5 B b (bs++Lib.runeCells r) w'∧Below B w w':=by
 have V:=Lib.runeCells_le r;have R:=Qh (ze2 B b bs w h);clear h;go_enter func169,ntmps169;go_wp2_with fail;refine R.mono ?_;rintro e J ⟨rfl,h1,F⟩;obtain⟨O,v,E,hown,N⟩:=h1;obtain⟨I,cap,rfl⟩:∃ I cap,v=.slice I bs.length cap:=by
  rcases hown.2 with ⟨hv,h0⟩ | ⟨g,cap,cur,fz,hv,_⟩
  ·exact⟨none,0,by rw[hv,h0]⟩
  ·exact⟨_,_,hv⟩
 have c0:J.cell? ⟨b,0,none⟩=some (.pointer (some ⟨b,0,none⟩)):=za E 0;have c1:J.cell? ⟨b,1,none⟩=some (.slice I bs.length cap):=za E 1;have S:=Qh (Tryz.utf8_AppendRune_row B _ bs.length bs r hr0 hr1 J hown hlen (by have:=F.size;omega));go_wp2_with fail;refine S.mono ?_;rintro e H ⟨Y,rfl,C,o,D⟩;have M:=zq E;have G:H.heap[b]?=some (.cells #[.pointer (some ⟨b,0,none⟩),.slice I bs.length cap] 200 (0,0)):=by
  rw[D.block b (by simp;omega) (fun e=>N e.symm),heap_alloc_old J _ M];exact E
 have d0:H.cell? ⟨b,0,none⟩=some (.pointer (some ⟨b,0,none⟩)):=za G 0;have Z:H.cell? ⟨b,1,none⟩=some (.slice I bs.length cap):=za G 1;have f1:H.frozen? ⟨b,1,none⟩=false:=zA G 1;obtain⟨g,A,rfl⟩:∃ g A,Y=.slice (some ⟨g,0,none⟩) (bs.length+(Lib.runeCells r).length) A:=by
  rcases C.2 with ⟨_,h0⟩ | ⟨g,A,cur,fz,hv,_⟩
  ·omega
  ·exact⟨g,A,hv⟩
 have U:=Qh (Lib.BuilderAtF.put (T:=200) (e:=5) O G (bs':=bs++Lib.runeCells r) (by simpa using C) (by decide));have HB:=Qh (((F.alloc (by have:=F.size;omega) o).grown D (by have:=F.size;simp;omega) (fun k hk=>(hown.lt k hk).1)).setCell (p:=⟨b,1,none⟩) O (.slice (some ⟨g,0,none⟩) (bs.length+(Lib.runeCells r).length) A));clear R S hown C D F E;generalize L:H.setCell ⟨b,1,none⟩ (.slice (some ⟨g,0,none⟩) (bs.length+(Lib.runeCells r).length) A)=X at *;have e1:X.cell? ⟨b,1,none⟩=some (.slice (some ⟨g,0,none⟩) (bs.length+(Lib.runeCells r).length) A):=by
  rw[← L];exact World.cell?_setCell_same' H _ _ (by rw[Z];rfl)
 go_wp2_with fail;refine zcD rfl rfl rfl rfl ⟨⟨_,rfl⟩,.inr U,HB⟩
end
section
open Go.RowKit
theorem zfu {g:Gr} {top bottom n:Int} {s:Sty} (h:zZ g top bottom n s≠0):0≤top∧top≤bottom∧bottom<(g.rows.length:Int)∧okS s=true∧1≤zZ g top bottom n s∧(zZ g top bottom n s:Int)≤bottom-top+1:=by
 unfold zZ at h ⊢;split at h
 ·exact absurd rfl h
 ·rename_i hn;rw[if_neg hn];have A:okS s=true:=by
   cases ho:okS s
   ·exact absurd (.inr (.inr (.inr ho))) hn
   ·rfl
  refine⟨by omega,by omega,by omega,A,by omega,by omega⟩
theorem zey {T:Nat→Nat} {w:World} {L:List (Value × Rw)} (h:∀ x∈L,CAt T w x):∀ u∈zf L,u.oneCell'=true:=zcu L fun x hx=>by
 obtain⟨a,c,e⟩:=zK (h x hx).own;exact⟨a,_,c,e⟩
def upL {α:Type} (L:List α) (t b n:Nat) (F:List α):List α:=Za (Za L t ((L.drop (t+n)).take (b+1-(t+n)))) (b+1-n) F
theorem zo3 {α:Type} (L F:List α) (t b n:Nat) (h1:t≤b) (h2:b<L.length) (h3:1≤n) (h4:n≤b+1-t) (hF:F.length=n):upL L t b n F=L.take t++(L.drop (t+n)).take (b+1-t-n)++F++L.drop (b+1):=by
 unfold upL;have A:((L.drop (t+n)).take (b+1-(t+n))).length=b+1-t-n:=(by rw[List.length_take,List.length_drop];omega);have B:(L.take t).length=t:=(by rw[List.length_take];omega);have e:b+1-(t+n)=b+1-t-n:=(by omega);rw[e]at A ⊢;generalize (L.drop (t+n)).take (b+1-t-n)=M at *;unfold Za;rw[A,hF,show t+(b+1-t-n)=b+1-n by omega];rw[List.take_append_of_le_length (by rw[List.length_append,A,B];omega),List.take_of_length_le (by rw[List.length_append,A,B];omega)];congr 1;rw[List.drop_append,List.drop_eq_nil_of_le (by rw[List.length_append,A,B];omega),List.nil_append,List.drop_drop,List.length_append,A,B];congr 1;omega
theorem zcS {T:Nat→Nat} {p:Nat} {w w':World} {g':Gr} {vr vo:Value} {Lr Lo:List (Value × Rw)} (hlt:∀ k,T k≠0→k<w.heap.size) (tp:T p=1) (hsz:w.heap.size≤w'.heap.size)
  (blk:w'.heap[p]?=some (.cells #[.int .i64 g'.cols,.int .i64 g'.limit,vr,vo] 114 (0,0))) (rr:zp w' 0 2 vr Lr.length (zf Lr)) (ro:zp w' 0 2 vo Lo.length (zf Lo))
  (tr:∀ k,vr.ownBlock=some k→T k=2∨(w.heap.size≤k∧vo.ownBlock≠some k)) (tv:∀ k,vo.ownBlock=some k→T k=3∨w.heap.size≤k)
  (ca:∀ x∈Lr++Lo,zp w' 0 5 x.1 x.2.cells.length (zt x.2.cells)∧∃ q,x.1.ownBlock=some q∧((q<w.heap.size∧T q=10+q)∨(w.heap.size≤q∧vo.ownBlock≠some q∧vr.ownBlock≠some q)))
  (nd:((Lr++Lo).map (·.1.ownBlock)).Nodup) (er:Lr.map (·.2)=g'.rows) (eo:Lo.map (·.2)=g'.old) (wf:g'.WF) :
  ∃ T',GM T' p w' g'∧∀ k,T' k≠0→own T w k:=by
 have B:p<w.heap.size:=hlt p (by rw[tp];decide);refine⟨fun k=>if vr.ownBlock=some k then 2 else if vo.ownBlock=some k then 3 else if w.heap.size≤k∧k<w'.heap.size then 10+k else T k,⟨vr,vo,Lr,Lo,⟨fun k hk=>?_,blk,?_,⟨rr,fun k hk=>by show(if _ then _ else _)=2;rw[if_pos hk]⟩,⟨ro,fun k hk=>?_⟩,er,eo,fun x hx=>?_,nd,wf⟩⟩,fun k hk=>?_⟩
 ·show k<w'.heap.size;by_cases h1:vr.ownBlock=some k
  ·exact(zg rr k h1).2
  ·by_cases h2:vo.ownBlock=some k
   ·exact(zg ro k h2).2
   ·simp only[if_neg h1,if_neg h2]at hk;by_cases h3:w.heap.size≤k∧k<w'.heap.size
    ·exact h3.2
    ·rw[if_neg h3]at hk;exact Nat.lt_of_lt_of_le (hlt k hk) hsz
 ·show(if _ then _ else _)=1;rw[if_neg (fun e=>by rcases tr p e with h | h <;> omega),if_neg (fun e=>by rcases tv p e with h | h <;> omega),if_neg (by omega)];exact tp
 ·show(if _ then _ else _)=3;have h1:vr.ownBlock≠some k:=fun e=>by
   rcases tr k e with h | h
   ·rcases tv k hk with A | A
    ·omega
    ·have:=hlt k (by omega);omega
   ·exact h.2 hk
  rw[if_neg h1,if_pos hk]
 ·obtain⟨h1,q,hq,h2⟩:=ca x hx;refine⟨h1,q,hq,?_⟩;show(if _ then _ else _)=10+q;rcases h2 with ⟨hql,hqt⟩ | ⟨hql,hn1,hn2⟩
  ·rw[if_neg (fun e=>by rcases tr q e with h | h <;> omega),if_neg (fun e=>by rcases tv q e with h | h <;> omega),if_neg (by omega)];exact hqt
  ·rw[if_neg hn2,if_neg hn1,if_pos ⟨hql,(zg h1 q hq).2⟩]
 ·by_cases h1:vr.ownBlock=some k
  ·rcases tr k h1 with h | h
   ·exact .inl (by omega)
   ·exact .inr h.1
  ·by_cases h2:vo.ownBlock=some k
   ·rcases tv k h2 with h | h
    ·exact .inl (by omega)
    ·exact .inr h
   ·simp only[if_neg h1,if_neg h2]at hk;by_cases h3:w.heap.size≤k∧k<w'.heap.size
    ·exact .inr h3.1
    ·rw[if_neg h3]at hk;exact .inl hk
theorem znc (Lr Lo Lf Lo':List (Value × Rw)) (t b n B:Nat) (h1:t≤b) (_h2:b<Lr.length) (h4:n≤b+1-t) (hnd:((Lr++Lo).map (·.1.ownBlock)).Nodup) (hlt:∀ x∈Lr++Lo,∀ k,x.1.ownBlock=some k→k<B)
  (hf:(Lf.map (·.1.ownBlock)).Nodup) (hfB:∀ x∈Lf,∃ k,x.1.ownBlock=some k∧B≤k) (hs:Lo'.Sublist (Lo++(Lr.drop t).take n)) :
  (((Lr.take t++(Lr.drop (t+n)).take (b+1-t-n)++Lf++Lr.drop (b+1))++Lo').map (·.1.ownBlock)).Nodup:=by
 have R:Lr=Lr.take t++((Lr.drop t).take n++((Lr.drop (t+n)).take (b+1-t-n)++Lr.drop (b+1))):=by
  have H:Lr.drop (t+n)=(Lr.drop (t+n)).take (b+1-t-n)++Lr.drop (b+1):=by
   have:=(List.take_append_drop (b+1-t-n) (Lr.drop (t+n))).symm
   rwa [List.drop_drop,show t+n+(b+1-t-n)=b+1 by omega]at this
  have J:Lr.drop t=(Lr.drop t).take n++Lr.drop (t+n):=by
   have:=(List.take_append_drop n (Lr.drop t)).symm
   rwa [List.drop_drop]at this
  rw[← H,← J,List.take_append_drop]
 generalize V:Lr.take t=A at *;generalize Z:(Lr.drop t).take n=O at *;generalize Y:(Lr.drop (t+n)).take (b+1-t-n)=M at *;generalize X:Lr.drop (b+1)=D at *;have G:(Lr++Lo).Perm ((A++M++D)++(Lo++O)):=by
  rw[R];have E:(A++(O++(M++D))++Lo).Perm (A++((M++D)++O)++Lo):=List.Perm.append_right _ (List.Perm.append_left _ List.perm_append_comm);refine E.trans ?_;have F:(A++((M++D)++O)++Lo)=(A++M++D)++(O++Lo):=(by simp);rw[F];exact List.Perm.append_left _ List.perm_append_comm
 have U:(((A++M++D)++(Lo++O)).map (·.1.ownBlock)).Nodup:=(G.map _).nodup_iff.1 hnd;have N:(((A++M++D)++Lo').map (·.1.ownBlock)).Nodup:=U.sublist ((List.Sublist.append_left hs _).map _);have S:((A++M++Lf++D)++Lo').Perm (((A++M++D)++Lo')++Lf):=by
  have E:((A++M++Lf++D)++Lo')=(A++M)++(Lf++(D++Lo')):=(by simp);have F:(((A++M++D)++Lo')++Lf)=(A++M)++((D++Lo')++Lf):=(by simp);rw[E,F];exact List.Perm.append_left _ List.perm_append_comm
 refine(S.map _).nodup_iff.2 ?_;rw[List.map_append,List.nodup_append];refine⟨N,hf,fun a ha c hc e=>?_⟩;obtain⟨x,hx,rfl⟩:=List.mem_map.1 ha;obtain⟨y,I,rfl⟩:=List.mem_map.1 hc;obtain⟨k,T,L⟩:=hfB y I;have C:x∈(A++M++D)++(Lo++O):=by
  rcases List.mem_append.1 hx with h | h
  ·exact List.mem_append_left _ h
  ·exact List.mem_append_right _ (hs.subset h)
 have:=hlt x (G.mem_iff.2 C) k (by rw[e];exact T);omega
end
section
open Go.RowKit
theorem zai (o b off n c:Nat) (w:World) (h:w.cell? ⟨o,0,none⟩=some (.slice (some ⟨b,off,none⟩) (n+1) c)) (hn:n≤100000000) :
  Calls prog 221 #[.pointer (some ⟨o,0,none⟩)] w fun e w'=>e=.returned (.pointer (some ⟨b,off+n*2,none⟩))∧w'=w:=by
 have B:=Zw (P:=prog) (size:=2) underlying112 zC b off (n+1) c n (by omega);have C:IntKind.i64.wrap (((n+1:Nat):Int)-1)=(n:Int):=(by rw[zd _ (by omega) (by omega)];omega);have A:((n:Int)+1-1)=(n:Int):=(by omega);go_enter func221,ntmps221;go_wp2_with fail;exact Ze rfl rfl rfl ⟨rfl,rfl⟩
theorem ziI (wb pb:Nat) (x y was:Int) (a1 a2:Value) (w:World) (h:w.cell? ⟨wb,0,none⟩=some (.int .i64 was)) (hp:w.heap[pb]?=some (.cells #[a1,a2] 139 (0,0))) (h0:0≤was∧was≤100000000) (h1:-1≤y∧y≤100000000) :
  Calls prog 173 #[.int .i64 x,.int .i64 y,.pointer (some ⟨wb,0,none⟩),.pointer (some ⟨pb,0,none⟩)] w fun e w'=>e=.returned (.tuple #[])∧w.grownBy w' (some pb)∧w'.heap[pb]?=some (.cells #[.int .i64 x,.int .i64 (was+y)] 139 (0,0)):=by
 have B:=run_storeVar_row (P:=prog) w pb 139 139 _ #[.int .i64 x,.int .i64 (was+y)] hp (by kernel_rfl) rfl (by simp[Value.oneCell']);have A:=Zz (cells:=#[.int .i64 x,.int .i64 (was+y)]) hp;have C:Hid (w.grownBy (w.setRow pb #[.int .i64 x,.int .i64 (was+y)]) (some pb)):=by
  refine⟨rfl,rfl,rfl,?_,fun k hk hne=>?_⟩
  ·simp[World.setRow]
  ·show(w.heap.modify pb _)[k]?=_;rw[Array.getElem?_modify,if_neg (fun e=>hne (by rw[e]))]
 have D:=Qh A;clear A hp;go_enter func173,ntmps173;go_wp2_with (refine zF rfl _ _ _ rfl B rfl rfl ?_);go_end0;exact⟨rfl,C,D⟩
end
section
open Go.RowKit
def zom (B:Nat) (w:World):Prop:=∀ w',Below B w w'→w'.cell? ⟨4,15,none⟩=some (.int .u8 4)
theorem znd (w:World) (h:w.cell? ⟨4,15,none⟩=some (.int .u8 4)) :
  Calls prog 248 #[.int .u64 16] w fun e w'=>e=.returned (.int .i64 4)∧w'=w:=by
 have A:IntKind.u64.wrap (bits BinOp.and IntKind.u64 16 (IntKind.u64.wrap (-16))*285870213051353865) / 288230376151711744=15:=(by kernel_rfl);go_enter func248,ntmps248;go_wp2_with fail;exact Ze rfl rfl rfl ⟨rfl,rfl⟩
theorem zo4 (w:World) (h:w.cell? ⟨4,15,none⟩=some (.int .u8 4)) :
  Calls prog 244 #[.int .u64 16] w fun e w'=>e=.returned (.int .i64 4)∧w'=w:=by
 go_enter func244,ntmps244;go_wp2_with fail;refine(znd w h).mono ?_;rintro e A ⟨rfl,rfl⟩;go_wp2_with fail;exact Ze rfl rfl rfl ⟨rfl,rfl⟩
theorem zne (w:World):Calls prog 243 #[.int .i64 16] w fun e w'=>e=.returned (.bool true)∧w'=w:=by
 go_enter func243,ntmps243;go_wp2_with fail;exact Ze rfl rfl rfl ⟨rfl,rfl⟩
def ze3:Nat→Nat
 | 0=>16777216
 | 1=>1048576
 | 2=>65536
 | 3=>4096
 | 4=>256
 | 5=>16
 | _=>1
theorem zlU {k x:Nat} (hk:k<6) (h:ze3 k≤x∧x<2*ze3 k):16≤x∧ze3 (k+1)≤x / 16∧x / 16<2*ze3 (k+1):=by
 match k,hk with
 | 0,_=>simp only[ze3]at h ⊢;omega
 | 1,_=>simp only[ze3]at h ⊢;omega
 | 2,_=>simp only[ze3]at h ⊢;omega
 | 3,_=>simp only[ze3]at h ⊢;omega
 | 4,_=>simp only[ze3]at h ⊢;omega
 | 5,_=>simp only[ze3]at h ⊢;omega
theorem zez (bs:List UInt8) (i:Nat) (b:UInt8):(zu bs).toArray.setIfInBounds i (.int .u8 (b.toNat:Int))=(zu (bs.set i b)).toArray:=by
 unfold zu;rw[List.map_set,List.setIfInBounds_toArray]
theorem zpq (x:Nat) (h:x<18446744073709551616):bits BinOp.and IntKind.u64 (x:Int) 15=((x % 16:Nat):Int):=by
 have:=bits_and_u64_nat x 15 h (by decide);rw[show((15:Nat):Int)=15 from rfl]at this;rw[this,show(15:Nat)=2 ^ 4-1 from rfl,Nat.and_two_pow_sub_one_eq_mod]
theorem zpr {P:Program} {fn:Func} {R:Ending→World→Prop} {a:Act} {w:World} {t u:Tmp} {v1 v2:Value} (h:fn.results=#[.tmp t,.tmp u]) (hd:a.defers=[]) (h1:a.tmps.getD t undef=v1) (h2:a.tmps.getD u undef=v2) (hR:R (.returned (.tuple #[v1,v2])) w) :
  bodyPost P fn R .ret a w:=by
 subst h1 h2;exact bodyPost_ret (results_tmp2 h _ _ _) hd hR
theorem zjU (u:Nat) (h0:16777216≤u) (h1:u<33554432) (w:World) (hd:zom w.heap.size w) :
  Calls prog 226 #[.slice none 0 0,.int .u64 u,.int .i64 16,.bool false,.bool false] w fun e w'=>∃ l:List UInt8,l.length=7∧e=.returned (.tuple #[.slice none 0 0,.string ⟨l.toArray⟩])∧Below w.heap.size w w':=by
 go_enter func226,ntmps226;go_wp2_with fail;refine(zne _).mono ?_;rintro e H ⟨rfl,E⟩;subst H;have J:=Qh ((Below.refl w.heap.size w).alloc (Nat.le_refl _) (.cells (Array.replicate 65 (.int .u8 0)) 262));go_wp2_with fail;refine(zo4 _ (hd _ J)).mono ?_;rintro e H ⟨rfl,E⟩;subst H;go_upto_region 11 with fail
 go_loopw [1,13] (fun uv iv wr=>∃ k x:Nat,(k≤6∧ze3 k≤x∧x<2*ze3 k∧x<33554432)∧uv=.int .u64 x∧iv=.int .i64 (65-k:Nat)∧Hid (Below w.heap.size w wr)∧Hid (∃ D:List UInt8,D.length=65∧wr.heap[w.heap.size]?=some (.cells (zu D).toArray 262 (0,0)))) (fun _ iv _=>(intOf iv).toNat)
 case atStart=>exact⟨0,u,⟨by decide,h0,h1,h1⟩,rfl,rfl,J,List.replicate 65 0,by simp,zH _ _⟩
 case round =>
  obtain⟨k,x,⟨hk,I,O,B0⟩,rfl,rfl,R,Y⟩:=hrel;by_cases hk6:k<6
  ·obtain⟨s1,s2,s3⟩:=zlU hk6 ⟨I,O⟩;have d1:decide ((16:Int)≤(x:Int))=true:=Qt (by omega);have E0:decide (16≤x)=true:=Qt s1;have ha:=zpq x (by omega);obtain⟨m,Z⟩:∃ m:Nat,m=64-k:=⟨_,rfl⟩;have C0:IntKind.i64.wrap (((65-k:Nat):Int)-1)=(m:Int):=(by rw[zd _ (by omega) (by omega)];omega);obtain⟨D,B,A⟩:=Y.out;have A0:(m:Int)<65∧m<65:=(by omega);have c0:wr.cell? ⟨w.heap.size,m,none⟩=some (.int .u8 ((D.getD m 0).toNat:Int)):=by
    rw[za A m];unfold zu;rw[List.getElem?_toArray,List.getElem?_map,List.getD_eq_getElem?_getD,List.getElem?_eq_getElem (by omega)];rfl
   have X:wr.frozen? ⟨w.heap.size,m,none⟩=false:=zA A m;have F:=Qh A;have G:=Qh B;have HM:=Qh Z;clear A B Z;go_wp2_with fail;have S:m=65-(k+1):=(by have:=HM.out;omega);refine⟨⟨k+1,x / 16,⟨by omega,s2,s3,by omega⟩,by simp,by rw[S],R.trans (Zn (zx (zo wr (some w.heap.size)) m _) R.size (fun q hq=>by injection hq with hq;omega)),_,?_,(zz F m _).trans (by rw[zez])⟩,?_⟩
   ·rw[List.length_set];exact G
   ·simp[intOf];have:=HM.out;omega
  ·have hk:k=6:=(by omega);subst hk;have V:x=1:=(by simp only[ze3]at I O;omega);subst V;obtain⟨D,B,A⟩:=Y.out;have c0:wr.cell? ⟨w.heap.size,58,none⟩=some (.int .u8 ((D.getD 58 0).toNat:Int)):=by
    rw[za A 58];unfold zu;rw[List.getElem?_toArray,List.getElem?_map,List.getD_eq_getElem?_getD,List.getElem?_eq_getElem (by omega)];rfl
   have X:wr.frozen? ⟨w.heap.size,58,none⟩=false:=zA A 58;have F:=Qh A;have G:=Qh B;clear A B;go_upto_region 30 with fail;have C:∃ b:UInt8,Hid ((wr.setCell ⟨w.heap.size,58,none⟩ (.int .u8 (b.toNat:Int))).heap[w.heap.size]?=some (.cells (zu (D.set 58 b)).toArray 262 (0,0))∧b=49):=⟨49,(zz F 58 _).trans (by rw[zez]),rfl⟩;obtain⟨b,C⟩:=C;have T:=Qh (R.trans (Zn (zx (zo wr (some w.heap.size)) 58 (.int .u8 (b.toNat:Int))) R.size (fun q hq=>by injection hq with hq;omega)));generalize E:wr.setCell ⟨w.heap.size,58,none⟩ (.int .u8 (b.toNat:Int))=H at *;have L:∀ v,v=Value.int .u8 (b.toNat:Int)→wr.setCell ⟨w.heap.size,58,none⟩ v=H:=fun v hv=>(by rw[hv,E]);rw[L _ (by rw[C.out.2];rfl)];have B:(D.set 58 b).length=65:=(by rw[List.length_set];exact G);generalize D.set 58 b=N at *;have M:zaB H 1 (.slice (some ⟨w.heap.size,58,none⟩) 7 7) (N.drop 58).length (zu (N.drop 58)):=by
    have e:(N.drop 58).length=7:=(by rw[List.length_drop,B]);rw[e];refine .inr ⟨_,_,rfl,by unfold zu;rw[List.length_map,e],fun j v hv=>?_⟩;rw[zbb,za C.out.1 (58+j),List.getElem?_toArray];unfold zu at hv ⊢;rw[List.map_drop,List.getElem?_drop]at hv;exact hv
   have D0:=Z5 (P:=prog) underlying32 underlying5 underlying9 M;have U:=Qh (show(N.drop 58).length=7 by rw[List.length_drop,B]);clear M B E L c0 X;generalize N.drop 58=ds at *;go_wp2_with fail;exact zpr rfl rfl rfl rfl ⟨ds,U,rfl,T⟩
theorem zhD (u:Nat) (h0:16777216≤u) (h1:u<33554432) (w:World) (hd:zom w.heap.size w) :
  Calls prog 178 #[.int .i64 u,.int .i64 16] w fun e w'=>∃ l:List UInt8,l.length=7∧e=.returned (.string ⟨l.toArray⟩)∧Below w.heap.size w w':=by
 have G:decide ((u:Int)<0)=false:=Qf (by omega);have E:=Qh hd;clear hd;go_enter func178,ntmps178;go_wp2_with fail;refine(zjU u h0 h1 w E).mono ?_;rintro e F ⟨l,A,rfl,B⟩;have C:=Qh A;have D:=Qh B;clear A B;go_wp2_with fail;exact Ze rfl rfl rfl ⟨l,C,rfl,D⟩
theorem ziJ (u:Nat) (h0:16777216≤u) (h1:u<33554432) (w:World) (hd:zom w.heap.size w) :
  Calls prog 133 #[.int .i64 u,.int .i64 16] w fun e w'=>∃ l:List UInt8,l.length=7∧e=.returned (.string ⟨l.toArray⟩)∧Below w.heap.size w w':=by
 have E:=Qh hd;clear hd;go_enter func133,ntmps133;go_wp2_with fail;refine(zhD u h0 h1 w E).mono ?_;rintro e F ⟨l,A,rfl,B⟩;have C:=Qh A;have D:=Qh B;clear A B;go_wp2_with fail;exact Ze rfl rfl rfl ⟨l,C,rfl,D⟩
end
section
open Go.RowKit
attribute [local go_sem ↓] Go.wp_at_zero Go.wp_at_succ
theorem zcT (c:Int) (n:Nat) (w:World) (h:I64 c) (hn:0<n) (hn2:n≤1000000) :
  Calls prog 30 #[.int .i64 c,.int .i64 n] w fun e w'=>e=.returned (.int .i64 (zbt c n))∧w'=w:=by
 obtain⟨I,J⟩:=h;by_cases hc:c<0
 ·have G:decide (c<0)=true:=Qt hc;have H:IntKind.i64.wrap (c+1)=c+1:=zd _ (by omega) (by omega);have F:IntKind.i64.wrap (-(c+1))=-(c+1):=zd _ (by omega) (by omega);have D:((n:Int) == 0)=false:=Qb (by omega);have A:¬ ((n:Int)=0):=(by omega);have E:0≤(-(c+1)).tmod (n:Int)∧(-(c+1)).tmod (n:Int)<n:=⟨Int.tmod_nonneg _ (by omega),Int.tmod_lt_of_pos _ (by omega)⟩;have B:IntKind.i64.wrap ((-(c+1)).tmod (n:Int))=(-(c+1)).tmod (n:Int):=zd _ (by omega) (by omega);have C:=Qh (show zbt c n=((-(c+1)).tmod (n:Int)).toNat by unfold zbt;rw[if_pos hc]);go_enter func30,ntmps30;go_wp2_with fail;refine Ze (v:=.int .i64 (((-(c+1)).tmod (n:Int)).toNat:Int)) rfl rfl (by show Value.int _ _=_;rw[Int.toNat_of_nonneg E.1,Int.neg_tmod]) ⟨by rw[C.out],rfl⟩
 ·have G:decide (c<0)=false:=Qf hc;have D:((n:Int) == 0)=false:=Qb (by omega);have A:¬ ((n:Int)=0):=(by omega);have E:0≤c.tmod (n:Int)∧c.tmod (n:Int)<n:=⟨Int.tmod_nonneg _ (by omega),Int.tmod_lt_of_pos _ (by omega)⟩;have B:IntKind.i64.wrap (c.tmod (n:Int))=c.tmod (n:Int):=zd _ (by omega) (by omega);have C:=Qh (show zbt c n=(c.tmod (n:Int)).toNat by unfold zbt;rw[if_neg hc]);go_enter func30,ntmps30;go_wp2_with fail;refine Ze (v:=.int .i64 ((c.tmod (n:Int)).toNat:Int)) rfl rfl (by show Value.int _ _=_;rw[Int.toNat_of_nonneg E.1,Int.tmod_eq_emod_of_nonneg (by omega)]) ⟨by rw[C.out],rfl⟩
end
section
open Go.RowKit
theorem zgZ (d:Dec) (b:Int) (hr:0≤d.r) (hh:d.hav=0) (hm:0≤d.more) (hm4:d.more≤4):(Zk d b).1.ok:=by
 unfold Zk;split
 ·exact⟨by simp[hh],by simp[hh];omega,hm,hr,fun h=>absurd hh h,fun h=>absurd hh h,fun h=>absurd hh h,fun h=>absurd hh h⟩
 split
 ·exact⟨by simp,by simp,by simp,by simp;omega,fun _=>by simp;omega,fun _=>by simp,fun _=>by simp,fun _=>by simp⟩
 split
 ·exact⟨by simp,by simp,by simp,by simp;omega,fun _=>by simp;omega,fun _=>by simp,fun _=>by simp only[];split <;> omega,fun _=>by simp only[];split <;> omega⟩
 split
 ·exact⟨by simp,by simp,by simp,by simp;omega,fun _=>by simp;omega,fun _=>by simp,fun _=>by simp only[];split <;> omega,fun _=>by simp only[];split <;> omega⟩
 ·exact⟨by simp[hh],by simp[hh];omega,hm,hr,fun h=>absurd hh h,fun h=>absurd hh h,fun h=>absurd hh h,fun h=>absurd hh h⟩
theorem ziK (d:Dec) (b:Int) (h0:0≤b) (h1:b≤255) (hok:d.ok):(Zv d b).1.ok:=by
 have _:=h0;have _:=h1;have C:=hok.h0;have D:=hok.h1;have B:=hok.m0;have A:=hok.r0;unfold Zv;split
 ·rename_i h;exact zgZ d b A h B (by omega)
 rename_i hh;have k4:=hok.r1 hh;have F:=hok.m1 hh;have G:=hok.lo hh;have E:=hok.hi hh;split
 ·exact zgZ _ b A rfl B (by simp only[];omega)
 rename_i hb;split
 ·rename_i hm;refine⟨by simp only[];omega,by simp only[];omega,by simp only[];omega,by simp only[];omega,fun _=>?_,fun _=>by simp only[];omega,fun _=>by simp,fun _=>by simp⟩;simp only[];have e:d.more.toNat=(d.more-1).toNat+1:=(by omega);rw[e,Int.pow_succ]at k4;have hcase:(d.more-1).toNat=1∨(d.more-1).toNat=2:=(by omega);rcases hcase with h | h <;> rw[h]at k4 ⊢ <;> omega
 ·exact⟨by simp,by simp only[];omega,by simp only[];omega,by simp only[];omega,fun h=>absurd rfl h,fun h=>absurd rfl h,fun h=>absurd rfl h,fun h=>absurd rfl h⟩
theorem zdO (b:UInt8):(b.toNat:Int)≤255:=by have:=b.toNat_lt;omega
theorem zky:∀ (l:List UInt8) (d:Dec),d.ok→(ZE d l).1.ok
 | [],_,h=>h
 | b::l,d,h=>zky l _ (ziK d _ (by omega) (zdO b) h)
theorem zdP (d:Dec) (b:Int):(Zv d b).2.length≤2:=by
 unfold Zv
 repeat' split
 ·have:=zd8 d b;omega
 ·have:=zd8 { d with hav:=0 } b;simp;omega
 ·simp
 ·simp
theorem zeA:∀ (l:List UInt8) (d:Dec),(ZE d l).2.length≤2*l.length
 | [],_=>by simp[ZE]
 | b::l,d=>by
  have:=zeA l (Zv d b.toNat).1;have:=zdP d b.toNat;simp[ZE];omega
theorem zeB (d:Dec):(zbf d).2.length≤1:=by unfold zbf;split <;> simp
theorem zjV (s:ByteArray):(zdj s.data.toList).length≤2*s.size+1:=by
 have C:=zeA s.data.toList dec0;have B:=zeB (ZE dec0 s.data.toList).1;have A:s.data.toList.length=s.size:=(by simp);unfold zdj;rw[List.length_append];omega
end
section
open Go.RowKit
def zgh (r:Int):Bool:=decide (32≤r) && (!(r == 127) && Lib.validRune r)
def ziL (b:UInt8):Bool:=decide ((b.toNat:Int)<32) && (!((b.toNat:Int) == 24) && (!((b.toNat:Int) == 26) && !((b.toNat:Int) == 27)))
def ziM (inter:List UInt8) (b:UInt8):Bool:=ZN inter && (decide (48≤(b.toNat:Int)) && (decide ((b.toNat:Int)≤126) && (!inter.isEmpty || !zfB b.toNat)))
def zkz (t:List UInt8):Bool:=zev t 32 255 && decide (t.length≤1024)
def wrL (a:VAct):List UInt8 :=
 if a.kind=1 then cond (zgh a.rune) (zhl a.rune) []
 else if a.kind=2 then cond (ziL a.byte) [a.byte] []
 else if a.kind=3 then cond (ziM a.inter.data.toList a.byte) (27::a.inter.data.toList++[a.byte]) []
 else if a.kind=4 then cond (zcA a) ([27,91]++zkp a) []
 else if a.kind=5 then cond (zkz a.text.data.toList) ([27,93]++a.text.data.toList++[7]) []
 else if a.kind=6 then cond (zcA a && zkz a.text.data.toList) ([27,80]++zkp a++a.text.data.toList++[27,92]) []
 else []
theorem zg0:∀ (l:List Int) (f:Bool),l.all zgT=true→(zaf f l).length≤22*l.length
 | [],_,_=>by simp[zaf]
 | x::l,f,h=>by
  rw[List.all_cons,Bool.and_eq_true]at h;have h1:=zg0 l true h.2;have hx:=h.1;unfold zgT at hx;rw[Bool.and_eq_true,decide_eq_true_eq,decide_eq_true_eq]at hx;have h2:=Lib.itoa_length_le x (by omega) (by omega);have h3:(zis f x).length≤22:=by
   unfold zis;rw[List.length_append];have A:(if f=true then [59] else []:List UInt8).length≤1:=(by cases f <;> decide);have e2:(if 0≤x then Lib.itoa x else []).length≤21:=by
    by_cases h0:0≤x
    ·rw[if_pos h0];omega
    ·rw[if_neg h0];simp
   omega
  rw[zaf,List.length_append,List.length_cons];omega
theorem zlV (l:List UInt8):∀ u∈zu l,u.oneCell'=true:=by
 intro u A;unfold zu at A;rw[List.mem_map]at A;obtain⟨b,_,rfl⟩:=A;rfl
theorem znf (w:World) (C:Array Value) (n c:Nat):(convert 32 32 (.slice (some ⟨w.heap.size,0,none⟩) n c)).run prog (w.alloc (.cells C 5))=.ok (.slice (some ⟨w.heap.size,0,none⟩) n c) (w.alloc (.cells C 5 (C.size,C.size+1))) :=
 Lib.run_convert_bytes_const (P:=prog) w 32 5 C n c underlying32 underlying5
theorem zjW (w:World) (T:TypeId) (l:List UInt8) (C:Array Value) (hC:C.toList=zu l) (hm:l.length≤maxLen):zp (w.alloc (.cells C T (C.size,C.size+1))) w.heap.size 1 (.slice (some ⟨w.heap.size,0,none⟩) l.length l.length) l.length (zu l):=by
 have D:C.size=l.length:=(by rw[← Array.length_toList,hC,zdk]);refine⟨by rw[zdk,Nat.mul_one],.inr ⟨w.heap.size,0,_,rfl,Nat.le_refl _,by simp,Nat.le_refl _,hm,?_,?_⟩⟩
 ·intro j B;rw[Nat.zero_add,World.cell?_alloc_mark w C T (C.size,C.size+1) j,World.frozen?_alloc_mark w C T C.size (C.size+1) j,Array.getElem?_eq_getElem (by omega)];simp;omega
 ·intro j u A;rw[Nat.zero_add,World.cell?_alloc_mark w C T (C.size,C.size+1) j,← Array.getElem?_toList,hC];exact A
section
variable (kind rune:Int) (byte:UInt8) (params:List Int) (inter text:ByteArray) (vp:Value) (w:World)
theorem ziN {w:World} {base:Nat} {v:Value} {s:ByteArray} {l:List UInt8} (h:zp w base 1 v s.size (s.data.toList.map fun b=>Value.int .u8 (b.toNat:Int))) (e:s.data.toList=l):zp w base 1 v l.length (zu l):=by
 subst e;rw[Array.length_toList];exact h
end
end
section
open Go.RowKit
theorem zgz (B b:Nat) (bs:List Value) (c:Int) (w:World) (h:Lib.IsBuilderF 200 5 B b bs w) (hlen:bs.length+1≤1000000000) (hBw:B≤w.heap.size) :
  Calls prog 161 #[.pointer (some ⟨b,0,none⟩),.int .u8 c] w fun e w'=>e=.returned .nilIface∧Lib.IsBuilderF 200 5 B b (bs++[.int .u8 c]) w'∧Below B w w':=by
 obtain⟨i0,X,J,H,G⟩:=info_parts (zay).info;have Z:=Qh (ze2 B b bs w h);clear h;go_enter func161,ntmps161;go_wp2_with fail;refine Z.mono ?_;rintro e I ⟨rfl,h1,F⟩;obtain⟨Y,v,E,hown,S⟩:=h1;have c0:I.cell? ⟨b,0,none⟩=some (.pointer (some ⟨b,0,none⟩)):=za E 0;have c1:I.cell? ⟨b,1,none⟩=some v:=za E 1;have HI:=Qh X;have HZ:=Qh J;have U:=Qh H;have O:=Qh G;clear X J H G;go_wp2_with (at_builtin;refine zaQ ?_);unfold zaP;refine wpList_append_ownF _ rfl _ _ 32 rfl B 5 i0 (.int .u8 0) 1 1 underlying32 HI HZ U O rfl (by decide) v bs.length bs rfl (hown.alloc _) ⟨I.heap.size,0,none⟩ 1 1 [.int .u8 c] rfl rfl ?c1 ?c2 ?c3 ?c4 ?c5 ?_
 case c1 =>
  intro j u L
  match j,L with
  | 0,L=>simp at L;subst L;simp[Addr.add]
 case c2=>intro u V;simp at V;subst V;rfl
 case c3=>unfold maxLen;omega
 case c4=>omega
 case c5=>have:=F.size;simp;omega
 intro v' M A C _;have R:b<I.heap.size:=zq E;have D:M.heap[b]?=some (.cells #[.pointer (some ⟨b,0,none⟩),v] 200 (0,0)):=by
  rw[C.block b (by simp;omega) (fun e=>S e.symm),heap_alloc_old I _ R];exact E
 have d0:M.cell? ⟨b,0,none⟩=some (.pointer (some ⟨b,0,none⟩)):=za D 0;have d1:M.cell? ⟨b,1,none⟩=some v:=za D 1;have f1:M.frozen? ⟨b,1,none⟩=false:=zA D 1;obtain⟨g,cap,rfl⟩:∃ g cap,v'=.slice (some ⟨g,0,none⟩) (bs.length+1) cap:=by
  rcases A.2 with ⟨_,h0⟩ | ⟨g,cap,cur,fz,hv,_⟩
  ·omega
  ·exact⟨g,cap,hv⟩
 have HP:=Qh (Lib.BuilderAtF.put (T:=200) (e:=5) Y D (bs':=bs++[.int .u8 c]) (by simpa using A) (by decide));have N:=Qh (((F.alloc (by have:=F.size;omega) _).grown C (by have:=F.size;simp;omega) (fun k hk=>(hown.lt k hk).1)).setCell (p:=⟨b,1,none⟩) Y (.slice (some ⟨g,0,none⟩) (bs.length+1) cap));clear hown A C F E D Z;go_wp2_with fail;exact Ze rfl rfl rfl ⟨rfl,.inr HP,N⟩
theorem zdl (B b:Nat) (bs:List Value) (s:ByteArray) (w:World) (h:Lib.IsBuilderF 200 5 B b bs w) (hlen:bs.length+s.size≤1000000000) (hBw:B≤w.heap.size) :
  Calls prog 162 #[.pointer (some ⟨b,0,none⟩),.string s] w fun e w'=>e=.returned (.tuple #[.int .i64 s.size,.nilIface])∧Lib.IsBuilderF 200 5 B b (bs++Lib.strCells s) w'∧Below B w w':=by
 obtain⟨i0,X,I,H,G⟩:=info_parts (zay).info;have Z:=Qh (ze2 B b bs w h);clear h;go_enter func162,ntmps162;go_wp2_with fail;refine Z.mono ?_;rintro e O ⟨rfl,h1,F⟩;obtain⟨Y,v,E,hown,U⟩:=h1;have c0:O.cell? ⟨b,0,none⟩=some (.pointer (some ⟨b,0,none⟩)):=za E 0;have c1:O.cell? ⟨b,1,none⟩=some v:=za E 1;have HI:=Qh X;have HZ:=Qh I;have V:=Qh H;have R:=Qh G;clear X I H G;go_wp2_with (at_builtin;refine zaQ ?_);unfold zaP;refine Lib.wpList_append_own_stringF _ rfl _ _ 32 9 rfl B 5 i0 underlying32 underlying9 HI HZ V R _ _ _ rfl hown s rfl ?c3 ?c4 ?c5 ?_
 case c3=>unfold maxLen;omega
 case c4=>omega
 case c5=>have:=F.size;omega
 intro v' J A C _;have S:b<O.heap.size:=zq E;have D:J.heap[b]?=some (.cells #[.pointer (some ⟨b,0,none⟩),v] 200 (0,0)):=by
  rw[C.block b S (fun e=>U e.symm)];exact E
 have d0:J.cell? ⟨b,0,none⟩=some (.pointer (some ⟨b,0,none⟩)):=za D 0;have d1:J.cell? ⟨b,1,none⟩=some v:=za D 1;have f1:J.frozen? ⟨b,1,none⟩=false:=zA D 1;obtain⟨M,N,cap,rfl⟩:∃ M N cap,v'=.slice M N cap:=by
  rcases A.2 with ⟨hv,_⟩ | ⟨g,cap,cur,fz,hv,_⟩
  ·exact⟨_,_,_,hv⟩
  ·exact⟨_,_,_,hv⟩
 have HP:=Qh (Lib.BuilderAtF.put (T:=200) (e:=5) Y D (bs':=bs++Lib.strCells s) (by simpa [Lib.strCells_length] using A) (by decide));have L:=Qh ((F.grown C (by have:=F.size;omega) (fun k hk=>(hown.lt k hk).1)).setCell (p:=⟨b,1,none⟩) Y (.slice M N cap));clear hown A C F E D Z;go_wp2_with fail;exact zcD rfl rfl rfl rfl ⟨rfl,.inr HP,L⟩
end
section
open Go.RowKit
theorem zlW (s:ByteArray) (w:World) (hs:s.size≤1099511627776) :
  Calls prog 75 #[.string s] w fun e w'=>∃ v,e=.returned v ∧
   w'.ownsRow w.heap.size 21 1 v (zdj s.data.toList).length ((zdj s.data.toList).map (Value.int .i32))∧Below w.heap.size w w':=by
 go_enter func75,ntmps75;go_wp2_with fail;refine(zde _).mono ?_;rintro e w1 ⟨rfl,rfl⟩;go_wp2_with fail
 go_loopw [3,9] (fun v i wr=>∃ k:Nat,k≤s.size∧i=.int .i64 k∧Below w.heap.size w wr∧w.heap.size<wr.heap.size∧zcs wr w.heap.size (ZE dec0 (s.data.toList.take k)).1 ∧
  wr.ownsRow (w.heap.size+1) 21 1 v (ZE dec0 (s.data.toList.take k)).2.length ((ZE dec0 (s.data.toList.take k)).2.map (Value.int .i32))) (fun _ i _=>s.size-(intOf i).toNat)
 case atStart=>exact⟨0,by omega,rfl,(Below.refl _ _).alloc (Nat.le_refl _) _,by simp,heap_alloc_new _ _,World.ownsRow_nil _ _ _ _⟩
 case round =>
  obtain⟨k,hk,rfl,hb,A0,Z,G⟩:=hrel;have HB:=Qh hb;have L:=Qh Z;have HO:=Qh G;clear hb Z G;by_cases hlt:k<s.size
  ·have H:k<s.data.toList.length:=(by simpa using hlt);have F:=ZJ s.data.toList 0 k H;have A:=Qh (zk5 (s.data.toList.take k) (s.data.toList.getD k 0) dec0);rw[← F]at A;clear F;have T:=Qh (zky (s.data.toList.take k) dec0 zhv);have B:=zeA (s.data.toList.take k) dec0;have E:s.data.toList.getD k 0=s[k]:=by
    rw[List.getD_eq_getElem?_getD,List.getElem?_eq_getElem H];rfl
   rw[E]at A;clear E;generalize ZE dec0 (s.data.toList.take k)=D at *;obtain⟨D,out⟩:=D;dsimp only at L HO T B A;go_wp2_with fail;refine(ziq _ D s[k].toNat _ L (by omega) (zdO _) T.out).mono ?_;rintro e w2 ⟨v2,rfl,J,M,U⟩;have Y:=Qh J;have I:=Qh M;have H4:=Qh U;clear J M U;go_wp2_with (at_builtin;refine zaQ ?_);unfold zaP;have h5:=I.out.size;have h6:=zdP D s[k].toNat;have h7:(List.take k s.data.toList).length≤k:=List.length_take_le _ _;have C:=Qh (HO.kept I (by
    rcases HO.out.2 with ⟨hv,_⟩ | ⟨g,cap,cur,hv,hg,_⟩
    ·left;rw[hv];rfl
    ·right;rw[hv];simp only[Value.ownBlock,ne_eq,Option.some.injEq];omega))
   refine zb9 zdd rfl rfl (w.heap.size+1) C rfl (zdA Y) rfl (ints_oneCell _ _) (by unfold maxLen;omega) (by omega) (by omega) ?_;intro v' w3 O S;have hv:=C.out.lt;have X:=Qh O;have R:=Qh S;have V:=Qh hv;clear O S hv;go_wp2_with fail;go_roundw
   case rel =>
    have B0:=R.out.size;refine⟨k+1,by omega,by go_num,?_,by omega,?_,?_⟩
    ·exact(HB.trans (Zn I (by omega) (by intro q hq;injection hq;omega))).trans (Zn R (by omega) (fun q hq=>by have:=(V q hq).1;omega))
    ·rw[A.out];exact zl (o:=.cells _ 210 (0,0)) H4 R (fun e=>by have:=(V _ e.symm).1;omega)
    ·rw[A.out,List.length_append,List.map_append];exact X
   case measure=>simp[intOf];omega
  ·have N:k=s.size:=(by omega);have Hk:=Qh (show List.take k s.data.toList=s.data.toList by rw[N,List.take_of_length_le (by simp)]);have B:=zeA (s.data.toList.take k) dec0;rw[Hk.out]at L HO B;clear Hk N;have A:=Qh (show zdj s.data.toList=(ZE dec0 s.data.toList).2++(zbf (ZE dec0 s.data.toList).1).2 from rfl);generalize ZE dec0 s.data.toList=D at *;obtain⟨D,out⟩:=D;dsimp only at L HO B A;go_wp2_with fail;refine(zko _ D _ L).mono ?_;rintro e w2 ⟨v2,rfl,J,M,U⟩;have Y:=Qh J;have I:=Qh M;clear J M U;go_wp2_with (at_builtin;refine zaQ ?_);unfold zaP;have h5:=I.out.size;have h6:=zeB D;have h7:s.data.toList.length=s.size:=(by simp);have C:=Qh (HO.kept I (by
    rcases HO.out.2 with ⟨hv,_⟩ | ⟨g,cap,cur,hv,hg,_⟩
    ·left;rw[hv];rfl
    ·right;rw[hv];simp only[Value.ownBlock,ne_eq,Option.some.injEq];omega))
   refine zb9 zdd rfl rfl (w.heap.size+1) C rfl (zdA Y) rfl (ints_oneCell _ _) (by unfold maxLen;omega) (by omega) (by omega) ?_;intro v' w3 O S;have hv:=C.out.lt;have X:=Qh O;have R:=Qh S;have V:=Qh hv;clear O S hv h7;go_wp2_with fail;refine Ze rfl rfl rfl ⟨v',rfl,?_,?_⟩
   ·rw[A.out,List.length_append,List.map_append];exact zhJ X (by omega)
   ·exact(HB.trans (Zn I (by omega) (by intro q hq;injection hq;omega))).trans (Zn R (by omega) (fun q hq=>by have:=(V q hq).1;omega))
end
end Go.Proofs.YthehkmopdeebmaaGreatDoor
