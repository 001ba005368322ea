/- Part. -/
import Derived.Test.YthehkmopdeebmaaGreatDoorY25
import Derived.Test.YthehkmopdeebmaaGreatDoorY26
set_option linter.unusedVariables false
set_option linter.unusedSimpArgs false
set_option maxRecDepth 100000
set_option maxHeartbeats 8000000
namespace Go.Proofs.YthehkmopdeebmaaGreatDoor
open _root_.Go.Proofs.Tryz
section
open Go.RowKit
section
variable {B:World} {C:Nat→Nat} {p c r:Nat} {w:World} {s:Scr} {ps:PSt}
theorem zil (h:SR B C p w s ps) :
  Calls prog 17 #[.pointer (some ⟨p,0,none⟩)] w fun e w'=>e=.returned (.tuple #[.int .i64 s.top,.int .i64 s.bottom])∧Below w.heap.size w w':=by
 have E:w.cell? ⟨p,33,none⟩=some (.int .i64 s.top):=h.at_ 33 _;have A:w.cell? ⟨p,34,none⟩=some (.int .i64 s.bottom):=h.at_ 34 _;clear h;go_enter func17,ntmps17;go_upto_region 1 with fail;go_quiet (fail);have D:=Qh (zm (Below.refl w.heap.size w) nq);go_wp2_with fail;exact zcD rfl rfl rfl rfl ⟨rfl,D⟩
theorem zf8 (h:SR B C p w s ps) :
  Calls prog 18 #[.pointer (some ⟨p,0,none⟩)] w fun e w'=>e=.returned s.now.pen.val∧Below w.heap.size w w':=by
 have D:w.cell? ⟨p,3,none⟩=some (.int .i64 s.now.pen.fg):=h.at_ 3 _;have H:w.cell? ⟨p,4,none⟩=some (.int .i64 s.now.pen.bg):=h.at_ 4 _;have F:w.cell? ⟨p,5,none⟩=some (.int .i64 s.now.pen.attr):=h.at_ 5 _;have E:=fun o=>(show(w.alloc o).cell? ⟨p,3,none⟩=some (.int .i64 s.now.pen.fg) from zc ((Below.refl w.heap.size w).alloc (Nat.le_refl _) o) D);have G:=fun o=>(show(w.alloc o).cell? ⟨p,4,none⟩=some (.int .i64 s.now.pen.bg) from zc ((Below.refl w.heap.size w).alloc (Nat.le_refl _) o) H);have A:=fun o=>(show(w.alloc o).cell? ⟨p,5,none⟩=some (.int .i64 s.now.pen.attr) from zc ((Below.refl w.heap.size w).alloc (Nat.le_refl _) o) F);clear h;unfold Sty.val;go_enter func18,ntmps18;go_wp2_with fail;exact zbz rfl rfl rfl (zH _ _) underlying49 rfl (by exact zdo) ⟨rfl,(Below.refl w.heap.size w).alloc (Nat.le_refl _) _⟩
theorem zlv (h:SR B C p w s ps) :
  Calls prog 20 #[.pointer (some ⟨p,0,none⟩)] w fun e w'=>∃ q T,e=.returned (.pointer (some ⟨q,0,none⟩))∧Below w.heap.size w w'∧GM T q w' s.shown∧∀ k,T k≠0→w.heap.size≤k:=by
 obtain⟨T,q,E,hq,_⟩:=h.grid;have J:=Qh (zlX E);have L:=Qh hq;clear h E hq;go_enter func20,ntmps20;go_wp2_with fail;refine(z8 L).mono ?_;rintro e S ⟨rfl,A⟩;subst A;go_wp2_with fail;refine J.mono ?_;rintro e R ⟨N,I,rfl,G,D,F⟩;have O:=Qh G;have H:=Qh D;have M:=Qh F;clear G D F;go_wp2_with fail;go_ret;exact⟨N,I,rfl,O,H,M⟩
def Scr.texts (s:Scr):List (List UInt8):=(List.range s.main.rows.length).map fun y:Nat=>ziX (s.shown.row (y:Int)).cells
def zdb (l:List (List UInt8)):List Value:=l.map fun t=>.string ⟨t.toArray⟩
theorem zim (l m:List (List UInt8)):zdb (l++m)=zdb l++zdb m:=by unfold zdb;rw[List.map_append]
theorem zlw:zdQ prog 70 9 1 16 (.string ⟨#[]⟩):=⟨underlying70,by kernel_rfl,rfl,by decide⟩
theorem zjG (s:Scr) (k:Nat) (hk:k<s.main.rows.length):s.texts.take (k+1)=s.texts.take k++[ziX (s.shown.row (k:Int)).cells]:=by
 unfold Scr.texts;rw[← List.map_take,← List.map_take,List.take_range,List.take_range,Nat.min_eq_left (by omega),Nat.min_eq_left (by omega),List.range_succ,List.map_append];rfl
theorem zlx (s:Scr):s.texts.length=s.main.rows.length:=by unfold Scr.texts;rw[List.length_map,List.length_range]
theorem zjH (h:SR B C p w s ps) (hok:s.Ok c r) :
  Calls prog 82 #[.pointer (some ⟨p,0,none⟩)] w fun e w'=>∃ v,e=.returned v∧zp w' w.heap.size 1 v s.texts.length (zdb s.texts)∧Below w.heap.size w w':=by
 have C0:=(h.nums hok).r2;have H:=Qh h;have S:=Qh (zlx s);clear h hok;go_enter func82,ntmps82;go_wp2_with fail;refine(ZY H).mono ?_;rintro e I ⟨rfl,V⟩;subst V;go_wp2_with fail
 go_loopw [3,7] (fun vv iv wr=>∃ (k:Nat) (N:Value),N=vv∧k≤s.main.rows.length∧iv=.int .i64 k∧Hid (Below I.heap.size I wr)∧Hid (zp wr I.heap.size 1 N (s.texts.take k).length (zdb (s.texts.take k)))) (fun _ iv _=>s.main.rows.length-(intOf iv).toNat)
 case atStart=>exact⟨0,_,rfl,Nat.zero_le _,rfl,Below.refl _ _,Zy _ _ _⟩
 case round =>
  obtain⟨k,N,rfl,hk,rfl,D,HO⟩:=hrel;obtain⟨wo,rfl⟩:∃ wo,wo=wr:=⟨wr,rfl⟩;by_cases hlt:k<s.main.rows.length;rotate_left
  ·have d1:decide ((k:Int)<(s.main.rows.length:Int))=false:=Qf (by omega);have Y:decide (k<s.main.rows.length)=false:=Qf hlt;have U:=HO.out;rw[List.take_of_length_le (by rw[S.out];omega)]at U;have M:=Qh U;clear U;go_wp2_with fail;exact Ze rfl rfl rfl ⟨_,rfl,M,D⟩
  have d1:decide ((k:Int)<(s.main.rows.length:Int))=true:=Qt (by omega);have Y:decide (k<s.main.rows.length)=true:=Qt hlt;have D0:IntKind.i64.wrap ((k:Int)+1)=(k:Int)+1:=zd _ (by omega) (by omega);obtain⟨T,q,hg,hq,_⟩:=(H.below D).grid;have J:=Qh (znm hg (k:Int));have HQ:=Qh hq;have X:=Qh (zjG s k hlt);have B0:(s.texts.take k).length≤120:=(by rw[List.length_take];omega);clear hg hq;go_wp2_with fail;refine(z8 HQ).mono ?_;rintro e w4 ⟨rfl,O⟩;subst O;go_wp2_with fail;refine J.mono ?_;rintro e w5 ⟨rfl,G⟩;have E0:=G.size;have A0:=D.out.size;have A:=Qh (D.trans (G.mono D.size));have F:=Qh (zk HO G);clear G;generalize ziX (s.shown.row (k:Int)).cells=tx at *;generalize s.texts.take k=L at *;go_wp2_with (at_builtin;refine zaQ ?_);unfold zaP;refine zco zlw rfl rfl I.heap.size (zG F _) rfl (Zi _ _ _) rfl (by intro u Z;rw[List.mem_singleton]at Z;subst Z;rfl) (by unfold maxLen;omega) (by omega) (by simp;omega) ?_;intro v6 w6 o6 g6;have E:=zg F;have O6:=Qh o6;have R:=Qh ((A.alloc A.size _).grown g6 (by simp;omega) (by intro q hq;exact(E q hq).1));clear o6 g6 E;go_wp2_with fail;go_roundw
  case rel =>
   refine⟨k+1,_,rfl,by omega,by go_num,R,?_⟩;rw[X.out,List.length_append,zim];exact O6
  case measure=>simp[intOf];omega
end
end
section
open Go.RowKit
def Scr.viewV (s:Scr) (rv:Value):Value:=.agg #[rv,.int .i64 s.now.x,.int .i64 s.now.y,.bool (s.has 8),.bool s.now.wait,.int .i64 s.modes,.string ⟨s.title.toArray⟩]
structure zoz (B:Nat) (w:World) (rv:Value) (L:List (Value × List Cel)):Prop where
 row:zp w B 1 rv L.length (L.map (·.1))
 cel:∀ x∈L,zp w B 5 x.1 x.2.length (zt x.2)
def Scr.viewL (s:Scr):List (List Cel):=(List.range s.main.rows.length).map fun y:Nat=>(s.shown.row (y:Int)).cells
theorem zjI (s:Scr) (k:Nat) (hk:k<s.main.rows.length):s.viewL.take (k+1)=s.viewL.take k++[(s.shown.row (k:Int)).cells]:=by
 unfold Scr.viewL;rw[← List.map_take,← List.map_take,List.take_range,List.take_range,Nat.min_eq_left (by omega),Nat.min_eq_left (by omega),List.range_succ,List.map_append];rfl
theorem zly (s:Scr):s.viewL.length=s.main.rows.length:=by unfold Scr.viewL;rw[List.length_map,List.length_range]
theorem zjJ:zdQ prog 34 56 1 24 (.slice none 0 0):=⟨underlying34,by kernel_rfl,rfl,by decide⟩
theorem zlz:(prog.info? 38).map (·.size)=some 7:=by kernel_rfl
section
variable {B:World} {C:Nat→Nat} {p c r:Nat} {w:World} {s:Scr} {ps:PSt}
structure VAt (w0:World) (V:Nat) (w:World) (s:Scr) (rv:Value) (L:List (Value × List Cel)):Prop where
 bl:Below w0.heap.size w0 w
 ge:w0.heap.size<V
 blk:w.heap[V]?=some (.cells #[rv,.int .i64 s.now.x,.int .i64 s.now.y,.bool (s.has 8),.bool s.now.wait,.int .i64 s.modes,.string ⟨s.title.toArray⟩] 38 (0,0))
 res:w.heap[w0.heap.size]?=some (.cells #[.slice none 0 0,.int .i64 0,.int .i64 0,.bool false,.bool false,.int .i64 0,.string ⟨#[]⟩] 38 (0,0))
 row:zp w w0.heap.size 1 rv L.length (L.map (·.1))
 ne:∀ k,rv.ownBlock=some k→k≠V∧k≠w0.heap.size
 cel:∀ x∈L,zp w w0.heap.size 5 x.1 x.2.length (zt x.2)
 nc:∀ x∈L,∀ k,x.1.ownBlock=some k→k≠V∧k≠w0.heap.size∧rv.ownBlock≠some k
theorem VAt.push {w0 w w5 w7:World} {V:Nat} {s:Scr} {rv rv' lv:Value} {L:List (Value × List Cel)} {cl:List Cel} {ob:Obj} (h:VAt w0 V w s rv L) (hb:Below w.heap.size w w5) (hl:zp w5 w.heap.size 5 lv cl.length (zt cl))
  (o7:zp w7 w0.heap.size 1 rv' (L.length+1) (L.map (·.1)++[lv])) (g7:(w5.alloc ob).grownBy w7 rv.ownBlock) (n7:∀ k,rv'.ownBlock=some k→rv.ownBlock=some k∨(w5.alloc ob).heap.size≤k) :
  VAt w0 V (w7.setCell ⟨V,0,none⟩ rv') s rv' (L++[(lv,cl)]):=by
 have R:(w5.alloc ob).heap.size=w5.heap.size+1:=(by simp);have N:=zq h.blk;have M:=zq h.res;have O:=hb.size;have G:=h.bl.size;have B:=zg h.row;have C:=zg hl;have F:Below w.heap.size w (w5.alloc ob):=hb.alloc hb.size ob;have J:w7.heap[V]?=_:=zl (zr h.blk F N) g7 (fun e=>(h.ne V e.symm).1 rfl);have H:w7.heap[w0.heap.size]?=_:=zl (zr h.res F M) g7 (fun e=>(h.ne _ e.symm).2 rfl);have E:w7.grownBy (w7.setCell ⟨V,0,none⟩ rv') (some V):=zx (zo _ _) 0 rv';have A:∀ k,rv'.ownBlock=some k→k≠V∧k≠w0.heap.size:=fun k hk=>by
  rcases n7 k hk with e | e
  ·exact h.ne k e
  ·omega
 refine⟨?_,h.ge,?_,zl H E (fun e=>by injection e with e;have:=h.ge;omega),?_,A,fun x hx=>?_,fun x hx k hk=>?_⟩
 ·exact((h.bl.trans (F.mono h.bl.size)).grown g7 (by omega) (fun q hq=>(B q hq).1)).grown E (by have:=g7.size;omega) (fun q hq=>by injection hq with hq;have:=h.ge;omega)
 ·have:=zz J 0 rv';simp only[List.setIfInBounds_toArray,List.set_cons_zero]at this;exact this
 ·have:=zi o7 E (fun k hk e=>by injection e with e;exact(A k hk).1 e.symm);rw[List.length_append,List.map_append];exact this
 ·rcases List.mem_append.1 hx with hx | hx
  ·have D:=fun k hk=>h.nc x hx k hk;exact zi (zi (zk (h.cel x hx) F) g7 (fun k hk=>(D k hk).2.2)) E (fun k hk e=>by injection e with e;exact(D k hk).1 e.symm)
  ·rw[List.mem_singleton]at hx;subst hx;exact zP (zi (zi (zG hl ob) g7 (fun k hk e=>by have:=C k hk;have:=B k e;omega)) E (fun k hk e=>by injection e with e;have:=C k hk;omega)) G
 ·rcases List.mem_append.1 hx with hx | hx
  ·have D:=h.nc x hx k hk;have I:=(zg (h.cel x hx) k hk).2;refine⟨D.1,D.2.1,fun e=>?_⟩;rcases n7 k e with e | e
   ·exact D.2.2 e
   ·omega
  ·rw[List.mem_singleton]at hx;subst hx;have I:=C k hk;refine⟨by omega,by omega,fun e=>?_⟩;rcases n7 k e with e | e
   ·have:=B k e;omega
   ·omega
theorem zgQ (h:SR B C p w s ps) (hok:s.Ok c r) :
  Calls prog 15 #[.pointer (some ⟨p,0,none⟩)] w fun e w'=>∃ rv L,e=.returned (s.viewV rv)∧L.map (·.2)=s.viewL∧zoz w.heap.size w' rv L∧Below w.heap.size w w':=by
 have Y0:=(h.nums hok).r2;have B0:=Qh (zly s);have b1:=(Below.refl w.heap.size w).alloc (Nat.le_refl _) (.cells #[.slice none 0 0,.int .i64 0,.int .i64 0,.bool false,.bool false,.int .i64 0,.string ⟨#[]⟩] 38);have M:=Qh (zH w (.cells #[.slice none 0 0,.int .i64 0,.int .i64 0,.bool false,.bool false,.int .i64 0,.string ⟨#[]⟩] 38));have H:=Qh (h.below b1);have HW:=Qh h;have Z:=Qh b1;clear h hok b1;go_enter func15,ntmps15;go_upto_region 1 with fail;generalize (w.alloc (.cells #[.slice none 0 0,.int .i64 0,.int .i64 0,.bool false,.bool false,.int .i64 0,.string ⟨#[]⟩] 38))=E at *;have c0:E.cell? ⟨p,0,none⟩=some (.int .i64 s.now.x):=H.out.at_ 0 _;have c1:E.cell? ⟨p,1,none⟩=some (.int .i64 s.now.y):=H.out.at_ 1 _;have c2:E.cell? ⟨p,2,none⟩=some (.bool s.now.wait):=H.out.at_ 2 _;have U:E.cell? ⟨p,32,none⟩=some (.int .i64 s.modes):=H.out.at_ 32 _;have X:E.cell? ⟨p,36,none⟩=some (.string ⟨s.title.toArray⟩):=H.out.at_ 36 _;have N:=fun o=>((Below.refl E.heap.size E).alloc (Nat.le_refl _) o).drew
 go_cut [3] (fun v wz=>v=.pointer (some ⟨E.heap.size,0,none⟩)∧wz=(E.alloc (.cells #[.slice none 0 0,.int .i64 s.now.x,.int .i64 s.now.y,.bool (s.has 8),.bool s.now.wait,.int .i64 s.modes,.string ⟨s.title.toArray⟩] 38)).drew)
 case first =>
  go_region_held3 (fun w'=>w'.cell? ⟨p,0,none⟩=some (.int .i64 s.now.x)∧w'.cell? ⟨p,1,none⟩=some (.int .i64 s.now.y)∧w'.cell? ⟨p,2,none⟩=some (.bool s.now.wait)∧w'.cell? ⟨p,32,none⟩=some (.int .i64 s.modes)∧w'.cell? ⟨p,36,none⟩=some (.string ⟨s.title.toArray⟩)) (first | exact⟨c0,c1,c2,U,X⟩ | exact⟨zc (N _) c0,zc (N _) c1,zc (N _) c2,zc (N _) U,zc (N _) X⟩)
   (first
    | (go_at_call 54;(first | refine(za4 (H.below (Below.refl _ _).drew) 8).mono ?_ | refine(za4 (H.below (N _)) 8).mono ?_);rintro e w4 ⟨rfl,rfl⟩))
  all_goals
   go_wp2_with fail;go_meet
   try exact⟨rfl,rfl⟩
 case rest =>
 obtain⟨rfl,C0⟩:=hcut;have I:=(N (.cells #[.slice none 0 0,.int .i64 s.now.x,.int .i64 s.now.y,.bool (s.has 8),.bool s.now.wait,.int .i64 s.modes,.string ⟨s.title.toArray⟩] 38));have J:=Zb (zH E (.cells #[.slice none 0 0,.int .i64 s.now.x,.int .i64 s.now.y,.bool (s.has 8),.bool s.now.wait,.int .i64 s.modes,.string ⟨s.title.toArray⟩] 38));rw[← C0]at I J;have HVB:=Qh J;have H2:=Qh (H.below I);have HBB:=Qh (Z.trans (I.mono Z.size));have U0:E.heap.size<wc.heap.size:=zq J;have V0:=Z.out.size;obtain⟨V,hV⟩:∃ V,V=E.heap.size:=⟨_,rfl⟩;rw[← hV]at U0 HVB V0;rw[← hV];have N0:=Qh (show w.heap.size<V by rw[hV];exact zq M);have HRS:=Qh (zr M I (zq M));clear N c0 c1 c2 U X I J C0 hV M H;obtain⟨w2,rfl⟩:∃ z,z=wc:=⟨wc,rfl⟩;go_wp2_with fail;refine(ZY H2).mono ?_;rintro e w3 ⟨rfl,S0⟩;subst S0;go_wp2_with fail;have R0:=Qh (show VAt w V w3 s (.slice none 0 0) [] from⟨HBB,N0,HVB,HRS,Zy _ _ _,fun k hk=>by simp[Value.ownBlock]at hk,fun x hx=>(by cases hx),fun x hx=>(by cases hx)⟩);clear HBB HVB HRS
 go_loopw [34] (fun iv wr=>∃ (k:Nat) (rv:Value) (L:List (Value × List Cel)),k≤s.main.rows.length∧iv=.int .i64 k∧Hid (VAt w V wr s rv L)∧Hid (L.map (·.2)=s.viewL.take k)∧Hid (Below w3.heap.size w3 wr∨True)) (fun iv _=>s.main.rows.length-(intOf iv).toNat)
 case atStart=>exact⟨0,_,[],Nat.zero_le _,rfl,R0,rfl,.inr trivial⟩
 case round =>
  obtain⟨k,rv,L,hk,rfl,A,HL,_⟩:=hrel;obtain⟨D,rfl⟩:∃ D,D=wr:=⟨wr,rfl⟩;by_cases hlt:k<s.main.rows.length;rotate_left
  ·have d1:decide ((k:Int)<(s.main.rows.length:Int))=false:=Qf (by omega);have J0:decide (k<s.main.rows.length)=false:=Qf hlt;have E0:=run_storeVar_row (P:=prog) D w.heap.size 38 38 _ #[rv,.int .i64 s.now.x,.int .i64 s.now.y,.bool (s.has 8),.bool s.now.wait,.int .i64 s.modes,.string ⟨s.title.toArray⟩] A.res (by kernel_rfl) rfl (by obtain⟨x0,m0,c0,rfl⟩:=zR A.row;simp[Value.oneCell']);have F0:=Zz (cells:=#[rv,.int .i64 s.now.x,.int .i64 s.now.y,.bool (s.has 8),.bool s.now.wait,.int .i64 s.modes,.string ⟨s.title.toArray⟩]) A.res;have G:=Qh (zbD D w.heap.size #[rv,.int .i64 s.now.x,.int .i64 s.now.y,.bool (s.has 8),.bool s.now.wait,.int .i64 s.modes,.string ⟨s.title.toArray⟩]);have I0:=Qh (zbA A.bl (g:=w.heap.size) (Nat.le_refl _) #[rv,.int .i64 s.now.x,.int .i64 s.now.y,.bool (s.has 8),.bool s.now.wait,.int .i64 s.modes,.string ⟨s.title.toArray⟩]);have k0:D.cell? ⟨V,0,none⟩=some rv:=za A.blk 0;have k1:D.cell? ⟨V,1,none⟩=some (.int .i64 s.now.x):=za A.blk 1;have k2:D.cell? ⟨V,2,none⟩=some (.int .i64 s.now.y):=za A.blk 2;have k3:D.cell? ⟨V,3,none⟩=some (.bool (s.has 8)):=za A.blk 3;have k4:D.cell? ⟨V,4,none⟩=some (.bool s.now.wait):=za A.blk 4;have k5:D.cell? ⟨V,5,none⟩=some (.int .i64 s.modes):=za A.blk 5;have k6:D.cell? ⟨V,6,none⟩=some (.string ⟨s.title.toArray⟩):=za A.blk 6;have O:=Qh (show zoz w.heap.size (D.setRow w.heap.size #[rv,.int .i64 s.now.x,.int .i64 s.now.y,.bool (s.has 8),.bool s.now.wait,.int .i64 s.modes,.string ⟨s.title.toArray⟩]) rv L from
    ⟨zi A.row G (fun k hk e=>by injection e with e;exact(A.ne k hk).2 e.symm),fun x hx=>zi (A.cel x hx) G (fun k hk e=>by injection e with e;exact(A.nc x hx k hk).2.1 e.symm)⟩)
   have hl:=HL.out;rw[List.take_of_length_le (by rw[B0.out];omega)]at hl;have T0:=Qh hl;obtain⟨ra,rn,rc,rfl⟩:=zR A.row;clear hl G;generalize D.setRow w.heap.size #[.slice ra rn rc,.int .i64 s.now.x,.int .i64 s.now.y,.bool (s.has 8),.bool s.now.wait,.int .i64 s.modes,.string ⟨s.title.toArray⟩]=w8 at *;go_wp2_with (refine zF rfl _ _ _ rfl E0 rfl rfl ?_);(try simp only[Exit.inBlock,Exit.then]);exact zbz rfl rfl rfl F0 underlying38 rfl (by exact zlz) ⟨_,L,rfl,T0,O,I0⟩
  have d1:decide ((k:Int)<(s.main.rows.length:Int))=true:=Qt (by omega);have J0:decide (k<s.main.rows.length)=true:=Qt hlt;have X0:IntKind.i64.wrap ((k:Int)+1)=(k:Int)+1:=zd _ (by omega) (by omega);have HS:=Qh (HW.below A.bl);obtain⟨T,q,hg,hq,_⟩:=HS.out.grid;have HQ:=Qh hq;have A0:=(Below.refl D.heap.size D).drew;have H0:=Qh (ziC (hg.below A0) (k:Int) (by have:=(zm9 hg.wf (k:Int)).1;omega));have G0:=Qh (zjI s k hlt);have Z0:L.length=k:=by
   have e:=congrArg List.length HL;rw[List.length_map,List.length_take,B0.out]at e;omega
  have R:D.cell? ⟨V,0,none⟩=some rv:=za A.blk 0;have f0:D.frozen? ⟨V,0,none⟩=false:=zA A.blk 0;have D0:=Qh (zq A.blk);obtain⟨ra,rn,rc,rfl⟩:=zR A.row;have O:=Qh A.row;clear hg hq A0;generalize (s.shown.row (k:Int)).cells=cl at *;go_upto_region 5 with fail;refine zJ (c:=9) (S:=(fun bb w'=>True∧(bb=false→w'.cell? ⟨V,0,none⟩=some (.slice ra rn rc)))) (by kernel_rfl) (⟨trivial,fun _=>R⟩) (fun _=>?_);refine zb false 0 (⟨trivial,fun _=>R⟩) ?_;refine Zh 1 (⟨trivial,fun _=>R⟩) ?_;refine zb false 2 (⟨trivial,fun _=>R⟩) ?_;refine zb false 4 (⟨trivial,fun _=>R⟩) ?_;refine zj false 3 fun K hK=>?_;refine ze rfl ?_;go_wp2_with fail;refine(z8 (w:=D.drew) HQ).mono ?_;rintro e w4 ⟨rfl,rfl⟩;refine hK.out _ _ (⟨trivial,fun _=>R⟩) (fun _=>?_);clear hK K
  try simp only[Act.put,List.setIfInBounds_toArray,List.set_cons_zero,List.set_cons_succ]
  refine zj false 5 fun K hK=>?_;refine ze rfl ?_;go_wp2_with fail;refine H0.mono ?_;rintro e w5 ⟨lv,rfl,b5,o5⟩;obtain⟨la,lm,lc,rfl⟩:=zR o5;have v5:w5.cell? ⟨V,0,none⟩=some (.slice ra rn rc):=zc b5 R;have F:=Qh (show Below D.heap.size D w5 from(Below.refl D.heap.size D).drew.trans b5);have M0:=Qh (show zp w5 D.heap.size 5 (.slice la lm lc) cl.length (zt cl) from o5);refine hK.out _ _ (⟨trivial,fun _=>v5⟩) (fun _=>?_);clear hK K b5 o5
  try simp only[Act.put,List.setIfInBounds_toArray,List.set_cons_zero,List.set_cons_succ]
  refine zj false 6 fun K hK=>?_;refine ze rfl ?_;go_wp2_with fail;refine hK.out _ _ (⟨trivial,fun _=>zc (Below.alloc (Below.refl w5.heap.size w5) (Nat.le_refl _) _) v5⟩) (fun _=>?_);clear hK K
  try simp only[Act.put,List.setIfInBounds_toArray,List.set_cons_zero,List.set_cons_succ]
  refine zj false 7 fun K hK=>?_;apply zap zjJ
  case hgd=>rfl
  case ho=>rfl
  case hown=>exact zG (zk O F) _
  case hs=>rfl
  case hr=>exact Z4 underlying34 (Zi _ _ _) (by intro u hu;rw[List.mem_singleton]at hu;subst hu;rfl)
  case hx=>rfl
  case h63=>unfold maxLen;omega
  case hbytes=>omega
  case hbase=>(have:=F.out.size;have:=A.out.bl.size;simp;omega)
  intro v7 w7 o7 g7 n7;obtain⟨a7,m7,c7,rfl⟩:=zR o7;have Y:w7.heap[V]?=_:=zl (zr A.blk (F.alloc F.size _) D0) g7 (fun e=>(A.ne V e.symm).1 rfl);have v7:w7.cell? ⟨V,0,none⟩=some (.slice ra rn rc):=za Y 0;have f7:w7.frozen? ⟨V,0,none⟩=false:=zA Y 0;have O0:=Qh o7;have G:=Qh g7;have L0:=Qh n7;refine hK.out _ _ (⟨trivial,fun _=>v7⟩) (fun _=>?_);clear hK K o7 g7 n7 Y
  try simp only[Act.put,List.setIfInBounds_toArray,List.set_cons_zero,List.set_cons_succ]
  refine zb false 8 (⟨trivial,fun _=>v7⟩) ?_;refine zj true 9 fun K hK=>?_;refine ze rfl ?_;go_wp2_with fail;refine hK.out _ _ (⟨trivial,fun e=>by cases e⟩) (fun _=>?_);clear hK K
  try simp only[Act.put]
  refine zD (by kernel_rfl) ?_ _;go_wp2_with fail;go_roundw
  case rel =>
   refine⟨k+1,_,L++[(.slice la lm lc,cl)],by omega,by go_num,A.push F.out M0.out O0.out G.out L0.out,?_,.inr trivial⟩;show _=_;rw[G0.out,List.map_append,HL.out];rfl
  case measure=>simp[intOf];omega
end
end
section
open Go.RowKit
attribute [local go_sem ↓] Go.wp_at_zero Go.wp_at_succ
theorem zjK (l:List Cel) (lv:Value) (w:World) (ho:zp w 0 5 lv l.length (zt l)) (hl:l.length≤1000) (hW:Wh l) (hC:∀ c∈l,Cs c) (hR:∀ c∈l,ZU w c.sty) :
  Calls prog 35 #[lv] w fun e w'=>e=.returned (.bool true)∧Below w.heap.size w w':=by
 obtain⟨n,hn⟩:∃ n,n=l.length:=⟨_,rfl⟩;rw[← hn]at ho hl;have O0:=Zf underlying56 ho;have HO:=Qh ho;have HN:=Qh hn;have HW:=Qh hW;have M0:=Qh (show ∀ x,x<n→Cs (l.getD x noC)∧ZU w (l.getD x noC).sty from fun x hx=>by
  have hm:l.getD x noC∈l:=(by rw[List.getD_eq_getElem?_getD,List.getElem?_eq_getElem (by omega)];exact List.getElem_mem _);exact⟨hC _ hm,hR _ hm⟩)
 have B0:=Qh (show ∀ x,x+1<n→(l.getD x noC).width=2→(l.getD (x+1) noC).width=0∧(l.getD (x+1) noC).sty=(l.getD x noC).sty from fun x hx h2=>by
  rcases zg4 hW (x+1) (by omega) with h | ⟨h,_⟩ | ⟨h,_,_,_,h5⟩
  ·rcases zg4 hW x (by omega) with g | ⟨_,_,g⟩ | ⟨g,_⟩
   ·omega
   ·omega
   ·omega
  ·rcases zg4 hW x (by omega) with g | ⟨_,_,g⟩ | ⟨g,_⟩
   ·omega
   ·omega
   ·omega
  ·exact⟨h,h5⟩)
 clear ho hn hW hC hR;go_enter func35,ntmps35;go_wp2_with fail
 go_loopw [3] (fun xv E=>∃ x:Nat,x≤n∧xv=.int .i64 x∧Hid (Below w.heap.size w E)) (fun xv _=>n-(intOf xv).toNat)
 case atStart=>exact⟨0,Nat.zero_le _,rfl,Below.refl _ _⟩
 case round =>
  obtain⟨x,hx,rfl,HB⟩:=hrel;obtain⟨E,rfl⟩:∃ E,E=wr:=⟨wr,rfl⟩;by_cases hxl:x<n;rotate_left
  ·have d2:decide ((x:Int)<(n:Int))=false:=Qf (by omega);have L0:decide (x<n)=false:=Qf hxl;go_wp2_with fail;exact Ze rfl rfl rfl ⟨rfl,HB⟩
  have d2:decide ((x:Int)<(n:Int))=true:=Qt (by omega);have L0:decide (x<n)=true:=Qt hxl;have HL:=Qh (zk HO HB);obtain⟨I,H,lc,e1,_,_⟩:=zE HL (by omega);subst e1;obtain⟨p0,p1,p2,p3,p4⟩:=zbL HL x hxl HN.out.symm;have R0:=Zw (P:=prog) (size:=5) underlying56 zT I H n lc x hxl;have J0:IntKind.i64.wrap ((x:Int)+1)=(x:Int)+1:=zd _ (by omega) (by omega);obtain⟨J,V⟩:=M0.out x hxl;have HNX:=Qh (B0 x);have hcase:=zg4 HW x (by have:=HN.out;omega);have C0:=Qh (show ∀ y,y<n→E.cell? ⟨I,H+y*5+1,none⟩=some (.int .i64 (l.getD y noC).width)∧E.cell? ⟨I,H+y*5+2,none⟩=some (.int .i64 (l.getD y noC).sty.fg)∧E.cell? ⟨I,H+y*5+3,none⟩=some (.int .i64 (l.getD y noC).sty.bg)∧E.cell? ⟨I,H+y*5+4,none⟩=some (.int .i64 (l.getD y noC).sty.attr) from fun y hy=>by
   obtain⟨_,U,q2,q3,q4⟩:=zbL HL y hy HN.out.symm;exact⟨U,q2,q3,q4⟩)
  obtain⟨cl,Z⟩:∃ c,c=l.getD x noC:=⟨_,rfl⟩;rw[← Z]at p0 p1 p2 p3 p4 J V hcase HNX;have HCL:=Qh Z;clear Z;obtain⟨X,wd,B⟩:=cl;dsimp only at p0 p1 p2 p3 p4 J V;have G:=Qh J;have L:=Qh (HB.alloc HB.size (.cells #[.int .i32 X,.int .i64 wd,.int .i64 B.fg,.int .i64 B.bg,.int .i64 B.attr] 96));have D:=Qh (zH E (.cells #[.int .i32 X,.int .i64 wd,.int .i64 B.fg,.int .i64 B.bg,.int .i64 B.attr] 96));have F0:=zbK E (.cells #[.int .i32 X,.int .i64 wd,.int .i64 B.fg,.int .i64 B.bg,.int .i64 B.attr] 96);have S:=V _ L;rw[J.1]at S;unfold Sty.val at S;have N:=Qh S;have Y:=Qh F0;clear J V S F0 B0;go_upto_region 5 with fail;obtain⟨A,hA⟩:∃ A,A=E.heap.size:=⟨_,rfl⟩;rw[← hA]at D;rw[← hA];obtain⟨wa,A0⟩:∃ z,z=E.alloc (.cells #[.int .i32 X,.int .i64 wd,.int .i64 B.fg,.int .i64 B.bg,.int .i64 B.attr] 96):=⟨_,rfl⟩;rw[← A0]at D L N Y;rw[← A0];clear A0 hA p0 p1 p2 p3 p4;obtain⟨x2,x3,x4⟩:wa.cell? ⟨A,2,none⟩=some (.int .i64 B.fg)∧wa.cell? ⟨A,3,none⟩=some (.int .i64 B.bg)∧wa.cell? ⟨A,4,none⟩=some (.int .i64 B.attr):=⟨za D 2,za D 3,za D 4⟩;go_wp2_with fail;refine N.mono ?_;rintro e w3 ⟨rfl,b3⟩;have O:=Qh (L.trans (b3.mono L.size));have F:=Qh (zr D b3 (zq D));have M:=Qh (Y.trans (b3.mono Y.size));have T:=Qh (zb7 X);clear b3 x2 x3 x4 D L Y N;have x0:w3.cell? ⟨A,0,none⟩=some (.int .i32 X):=za F 0;have x1:w3.cell? ⟨A,1,none⟩=some (.int .i64 wd):=za F 1;have x2:w3.cell? ⟨A,2,none⟩=some (.int .i64 B.fg):=za F 2;have x3:w3.cell? ⟨A,3,none⟩=some (.int .i64 B.bg):=za F 3;have x4:w3.cell? ⟨A,4,none⟩=some (.int .i64 B.attr):=za F 4;rcases hcase with h1 | ⟨h1,h2,h3⟩ | ⟨h1,h2,h3,h4,h5⟩
  ·
   (try dsimp only at h1);subst h1;have R:wid X=1:=G.out.2.2 (by show ¬ (1:Int)=0;decide);rw[R]at T;clear G R;go_wp2_with fail;refine(T _).mono ?_;rintro e w4 ⟨rfl,b4⟩;have C:=Qh (O.trans (b4.mono O.size));clear b4 x0 x1 x2 x3 x4;go_wp2_with fail;go_roundw
   case rel=>exact⟨x+1,by omega,by go_num,C⟩
   case measure=>simp[intOf];omega
  ·
   (try dsimp only at h1);have R:wid X=2:=(by rw[G.out.2.2 (by show ¬ wd=0;omega)];exact h1);obtain⟨z,hz⟩:∃ z:Nat,z=x+1:=⟨_,rfl⟩;obtain⟨g1,g2⟩:=HNX.out (by have:=HN.out;omega) h1;rw[← hz]at g1 g2;have G0:z<n:=(by have:=HN.out;omega);have V0:IntKind.i64.wrap ((x:Int)+1)=(z:Int):=(by rw[zd _ (by omega) (by omega)];omega);have d3:decide ((n:Int)≤(z:Int))=false:=Qf (by omega);have T0:decide (n≤z)=false:=Qf (by omega);obtain⟨U,q2,q3,q4⟩:=C0.out z G0;rw[g1]at U;rw[g2]at q2 q3 q4;(try dsimp only at q2 q3 q4);have y1:=zc M U;have y2:=zc M q2;have y3:=zc M q3;have y4:=zc M q4;have U0:=Zw (P:=prog) (size:=5) underlying56 zT I H n lc z G0;have D0:=fun wx:World=>zog B B wx;have I0:=fun op x y (wx:World)=>ze0 op x y B B wx;rw[(Sty.eqb_iff B B).2 rfl]at D0;unfold Sty.val at D0 I0;rw[R]at T;subst h1;have HZ:=Qh hz;clear G R hz h2 h3 g1 g2 U q2 q3 q4 J0;go_upto_region 9 with fail
   go_region_held3 (fun w'=>w'.cell? ⟨A,0,none⟩=some (.int .i32 X)∧w'.cell? ⟨A,2,none⟩=some (.int .i64 B.fg)∧w'.cell? ⟨A,3,none⟩=some (.int .i64 B.bg)∧w'.cell? ⟨A,4,none⟩=some (.int .i64 B.attr)∧w'.cell? ⟨I,H+z*5+1,none⟩=some (.int .i64 0)∧w'.cell? ⟨I,H+z*5+2,none⟩=some (.int .i64 B.fg)∧w'.cell? ⟨I,H+z*5+3,none⟩=some (.int .i64 B.bg)∧w'.cell? ⟨I,H+z*5+4,none⟩=some (.int .i64 B.attr)) (first | exact⟨x0,x2,x3,x4,y1,y2,y3,y4⟩ | exact⟨t0,t2,t3,t4,t5,t6,t7,t8⟩)
    (first
     | (go_at_call 76;refine(T _).mono ?_;rintro e w4 ⟨rfl,b4⟩;have C:=Qh ((Below.refl w3.heap.size w3).drew.trans b4);have t0:=zc C x0;have t2:=zc C x2;have t3:=zc C x3;have t4:=zc C x4;have t5:=zc C y1;have t6:=zc C y2;have t7:=zc C y3;have t8:=zc C y4;clear b4))
   all_goals
    have H0:=Qh (O.trans (C.mono O.size));clear x0 x1 x2 x3 x4 y1 y2 y3 y4 t0 t2 t3 t4 t5 t6 t7 t8;go_wp2_with fail;go_roundw
    case rel=>exact⟨x+1,by omega,by rw[HZ.out],H0⟩
    case measure=>(have:=HZ.out;simp[intOf];omega)
  ·
   (try dsimp only at h1 h4);obtain⟨y,hy⟩:∃ y:Nat,x=y+1:=⟨x-1,by omega⟩;have E0:x-1=y:=(by omega);rw[E0]at h3;have N0:IntKind.i64.wrap ((x:Int)-1)=(y:Int):=(by rw[zd _ (by omega) (by omega)];omega);have d3:((x:Int) == 0)=false:=zpu _ _ (by omega);obtain⟨U,_,_,_⟩:=C0.out y (by omega);rw[h3]at U;have y1:=zc M U;have S0:=Zw (P:=prog) (size:=5) underlying56 zT I H n lc y (by omega);subst h1 h4;clear hy E0 h2 h3 h5 U G;go_wp2_with fail;go_roundw
   case rel=>exact⟨x+1,by omega,by go_num,O⟩
   case measure=>simp[intOf];omega
end
end Go.Proofs.YthehkmopdeebmaaGreatDoor
