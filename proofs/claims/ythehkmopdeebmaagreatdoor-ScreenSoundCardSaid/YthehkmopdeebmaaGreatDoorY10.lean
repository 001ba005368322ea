/- Part. -/
import Derived.Test.YthehkmopdeebmaaGreatDoorY7
import Derived.Test.YthehkmopdeebmaaGreatDoorY8
set_option linter.unusedVariables false
set_option linter.unusedSimpArgs false
set_option maxRecDepth 100000
set_option maxHeartbeats 4000000
namespace Go.Proofs.YthehkmopdeebmaaGreatDoor
open _root_.Go.Proofs.Tryz
section
open Go.RowKit
attribute [local go_sem ↓] Go.wp_at_zero Go.wp_at_succ
def zcp (w:World) (b off:Nat) (l:List Cel):Prop:=∀ j u,(zt l)[j]?=some u→w.cell? ⟨b,off+j,none⟩=some u
theorem zhM {w:World} {base b off n c:Nat} {l:List Cel} (h:zp w base 5 (.slice (some ⟨b,off,none⟩) n c) n (zt l)):zcp w b off l:=by
 intro j u A;have B:j<(zt l).length:=(List.getElem?_eq_some_iff.1 A).1;rw[(zae h j (by rw[← h.1];exact B)).1];exact A
theorem zcp.below {w w':World} {b off:Nat} {l:List Cel} (h:zcp w b off l) (g:Below w.heap.size w w'):zcp w' b off l:=fun j u hu=>zc g (h j u hu)
theorem zcp.at {w:World} {b off:Nat} {l:List Cel} (h:zcp w b off l) (k:Nat) (hk:k<l.length) {c:Cel} (hc:l.getD k noC=c) :
  w.cell? ⟨b,off+k*5,none⟩=some (.int .i32 c.rune)∧w.cell? ⟨b,off+k*5+1,none⟩=some (.int .i64 c.width)∧w.cell? ⟨b,off+k*5+2,none⟩=some (.int .i64 c.sty.fg) ∧
  w.cell? ⟨b,off+k*5+3,none⟩=some (.int .i64 c.sty.bg)∧w.cell? ⟨b,off+k*5+4,none⟩=some (.int .i64 c.sty.attr):=by
 have A:∀ i u,i<5→c.vals[i]?=some u→w.cell? ⟨b,off+(k*5+i),none⟩=some u:=fun i u hi hu=>h _ u (by rw[zfC l k hk i hi,hc];exact hu);exact⟨A 0 _ (by decide) rfl,A 1 _ (by decide) rfl,A 2 _ (by decide) rfl,A 3 _ (by decide) rfl,A 4 _ (by decide) rfl⟩
theorem zl6 (l:List Cel) (k:Nat) (h:k<l.length):(l.take (k+1)).all ZI=((l.take k).all ZI && ZI (l.getD k noC)):=by
 rw[ZJ l noC k h,List.all_append];simp
theorem zfa (l:List Cel) (b off c:Nat) (w:World) (h:zcp w b off l) (hl:l.length≤1000000) :
    Calls prog 171 #[.slice (some ⟨b,off,none⟩) l.length c] w fun e w'=>e=.returned (.bool (l.all ZI))∧Below w.heap.size w w':=by
  have HC:=Qh h
  clear h
  go_enter func171,ntmps171
  go_wp2_with fail
  go_loopw [4,7] (fun _ iv wr=>∃ k:Nat,k≤l.length∧iv=.int .i64 k∧Hid (Below w.heap.size w wr)∧Hid ((l.take k).all ZI=true)) (fun _ iv _=>l.length-(intOf iv).toNat)
  case atStart=>exact⟨0,Nat.zero_le _,rfl,Below.refl _ _,by simp[Hid]⟩
  case round =>
    obtain⟨k,hk,rfl,L,HA⟩:=hrel
    by_cases hlt:k<l.length
    · obtain⟨q0,q1,q2,Z,q4⟩:=(HC.below L).at k hlt rfl
      have A0:=Zw (P:=prog) (size:=5) underlying56 zT b off l.length c k hlt
      have I:=Qh (zl6 l k hlt)
      have U:Hid (ZI (l.getD k noC)=false→l.all ZI=false):=fun hf=>by
        rw[Bool.eq_false_iff]
        intro ha
        have hm:l.getD k noC∈l:=by rw[List.getD_eq_getElem?_getD,List.getElem?_eq_getElem hlt];exact List.getElem_mem _
        rw[(List.all_eq_true.1 ha) _ hm]at hf
        exact absurd hf (by decide)
      have d1:decide ((k:Int)<(l.length:Int))=true:=Qt (by omega)
      have X:decide (k<l.length)=true:=Qt hlt
      generalize l.getD k noC=cc at *
      obtain⟨cr,cw,cs⟩:=cc
      obtain⟨cf,cb,ca⟩:=cs
      dsimp only at q0 q1 q2 Z q4
      have hq:∀ wx,(binOp .neq 96 (.agg #[.int .i32 cr,.int .i64 cw,.int .i64 cf,.int .i64 cb,.int .i64 ca]) (zM plainS).val).run prog wx=.ok (.bool (!ZI ⟨cr,cw,⟨cf,cb,ca⟩⟩)) wx:=fun wx=>zof ⟨cr,cw,⟨cf,cb,ca⟩⟩ (zM plainS) wx
      have M:∀ x y wx,(eqGuard .neq 96 x y (.agg #[.int .i32 cr,.int .i64 cw,.int .i64 cf,.int .i64 cb,.int .i64 ca]) (zM plainS).val).run prog wx=.ok () wx:=fun x y wx=>zlQ .neq x y ⟨cr,cw,⟨cf,cb,ca⟩⟩ (zM plainS) wx
      have T:=L.out.size
      have G:=Qh (L.alloc T (.cells #[.int .i32 cr,.int .i64 cw,.int .i64 cf,.int .i64 cb,.int .i64 ca] 96))
      have B:=Qh (zH wr (.cells #[.int .i32 cr,.int .i64 cw,.int .i64 cf,.int .i64 cb,.int .i64 ca] 96))
      go_upto_region 4 with fail
      have V:wr.heap.size<(wr.alloc (.cells #[.int .i32 cr,.int .i64 cw,.int .i64 cf,.int .i64 cb,.int .i64 ca] 96)).heap.size:=by simp
      generalize wr.alloc (.cells #[.int .i32 cr,.int .i64 cw,.int .i64 cf,.int .i64 cb,.int .i64 ca] 96)=D at *
      have s0:D.cell? ⟨wr.heap.size,0,none⟩=some (.int .i32 cr):=za B 0
      have s1:D.cell? ⟨wr.heap.size,1,none⟩=some (.int .i64 cw):=za B 1
      have s2:D.cell? ⟨wr.heap.size,2,none⟩=some (.int .i64 cf):=za B 2
      have s3:D.cell? ⟨wr.heap.size,3,none⟩=some (.int .i64 cb):=za B 3
      have s4:D.cell? ⟨wr.heap.size,4,none⟩=some (.int .i64 ca):=za B 4
      clear q0 q1 q2 Z q4
      go_region_held3 (fun w'=>w'.cell? ⟨wr.heap.size,0,none⟩=some (.int .i32 cr)∧w'.cell? ⟨wr.heap.size,1,none⟩=some (.int .i64 cw)∧w'.cell? ⟨wr.heap.size,2,none⟩=some (.int .i64 cf)∧w'.cell? ⟨wr.heap.size,3,none⟩=some (.int .i64 cb)∧w'.cell? ⟨wr.heap.size,4,none⟩=some (.int .i64 ca)) (go_keep)
        (first
          | (go_at_call 19
             refine(ZW _).mono ?_
             rintro e E ⟨rfl,O⟩
             have A:=zr (Zb B) O (show wr.heap.size<D.drew.heap.size from V)
             have z0:E.cell? ⟨wr.heap.size,0,none⟩=some (.int .i32 cr):=za A 0
             have z1:E.cell? ⟨wr.heap.size,1,none⟩=some (.int .i64 cw):=za A 1
             have z2:E.cell? ⟨wr.heap.size,2,none⟩=some (.int .i64 cf):=za A 2
             have z3:E.cell? ⟨wr.heap.size,3,none⟩=some (.int .i64 cb):=za A 3
             have z4:E.cell? ⟨wr.heap.size,4,none⟩=some (.int .i64 ca):=za A 4
             have J:=Qh (G.drew.trans (O.mono (show w.heap.size≤D.drew.heap.size from G.out.size)))
             have N:=Qh A
             have Y:wr.heap.size<E.heap.size:=zq A
             clear O A)
          | (go_at_call 179
             refine(zdE plainS _).mono ?_
             rintro e F ⟨rfl,S⟩
             have C:=zr N S Y
             have y0:F.cell? ⟨wr.heap.size,0,none⟩=some (.int .i32 cr):=za C 0
             have y1:F.cell? ⟨wr.heap.size,1,none⟩=some (.int .i64 cw):=za C 1
             have y2:F.cell? ⟨wr.heap.size,2,none⟩=some (.int .i64 cf):=za C 2
             have y3:F.cell? ⟨wr.heap.size,3,none⟩=some (.int .i64 cb):=za C 3
             have y4:F.cell? ⟨wr.heap.size,4,none⟩=some (.int .i64 ca):=za C 4
             have H:=Qh (J.trans (S.mono J.size))
             clear S C))
      clear s0 s1 s2 s3 s4 z0 z1 z2 z3 z4 y0 y1 y2 y3 y4 hq M
      cases hpl:ZI ⟨cr,cw,⟨cf,cb,ca⟩⟩
      · have HE:=Qh (U hpl)
        clear I
        go_wp2_with fail
        go_ret
        exact⟨ZQ HE.out.symm,H⟩
      · go_wp2_with fail
        go_roundw
        case rel=>exact⟨k+1,by omega,by go_num,H,by show _=_;rw[I.out,HA.out,hpl];rfl⟩
        case measure=>simp[intOf];omega
    · have R:k=l.length:=by omega
      subst R
      have d1:decide ((l.length:Int)<(l.length:Int))=false:=Qf (by omega)
      have X:decide (l.length<l.length)=false:=Qf (by omega)
      go_wp2_with fail
      go_ret
      refine⟨ZQ ?_,L⟩
      rw[← HA.out,List.take_length]
end
section
open Go.RowKit
structure zck (B o:Nat) (w:World) (v:Value) (D:List (Value × Rw)) (lv:Value) (done:List Rw) (r:Rw):Prop where
 blk:w.heap[o]?=some (.cells #[v] 112 (0,0))
 own:zp w B 2 v (D.length+1) (zf (D++[(lv,r)]))
 vo:v.ownBlock≠some o
 dn:D.map (·.2)=done
 cells:∀ x∈D,zp w (o+1) 5 x.1 x.2.cells.length (zt x.2.cells)
 last:zp w (o+1) 5 lv r.cells.length (zt r.cells)
 nd:(D.map (·.1.ownBlock)).Nodup
 ap:∀ x∈D,∃ q,x.1.ownBlock=some q∧v.ownBlock≠some q∧lv.ownBlock≠some q
 apl:∀ q,lv.ownBlock=some q→v.ownBlock≠some q
theorem zck.below {B o:Nat} {w w':World} {v lv:Value} {D:List (Value × Rw)} {done:List Rw} {r:Rw} (h:zck B o w v D lv done r) (b:Below w.heap.size w w'):zck B o w' v D lv done r :=
 ⟨zr h.blk b (zq h.blk),zk h.own b,h.vo,h.dn,fun x hx=>zk (h.cells x hx) b,zk h.last b,h.nd,h.ap,h.apl⟩
theorem zck.grown {B o:Nat} {w w':World} {v lv:Value} {D:List (Value × Rw)} {done:List Rw} {r:Rw} {row:Option Nat} (h:zck B o w v D lv done r) (g:w.grownBy w' row) (hr:∀ k,row=some k→k<B) (hBo:B≤o):zck B o w' v D lv done r:=by
 refine⟨zl h.blk g (fun e=>by have:=hr o e.symm;omega),zi h.own g (fun k hk e=>?_),h.vo,h.dn,fun x hx=>zi (h.cells x hx) g (fun k hk e=>?_),zi h.last g (fun k hk e=>?_),h.nd,h.ap,h.apl⟩
 ·have:=(zg h.own k hk).1;have:=hr k e;omega
 ·have:=(zg (h.cells x hx) k hk).1;have:=hr k e;omega
 ·have:=(zg h.last k hk).1;have:=hr k e;omega
theorem zhb (D:List (Value × Rw)) (lv lv':Value) (r r':Rw) (hw:r.wrap=r'.wrap):Za (zf (D++[(lv,r)])) (D.length*2) [lv']=zf (D++[(lv',r')]):=by
 have A:zf (D++[(lv,r)])=zf D++lv::[.bool r.wrap]:=(by rw[zO];rfl);have B:zf (D++[(lv',r')])=zf D++lv'::[.bool r'.wrap]:=(by rw[zO];rfl);rw[A,B,zb5 _ _ _ _ _ (by rw[zL]),hw]
theorem zei (D:List (Value × Rw)) (lv:Value) (l:List Cel) (b b':Bool):Za (zf (D++[(lv,⟨l,b⟩)])) (D.length*2+1) [.bool b']=zf (D++[(lv,⟨l,b'⟩)]):=by
 have A:zf (D++[(lv,⟨l,b⟩)])=(zf D++[lv])++.bool b::[]:=(by rw[zO];simp[zf]);have B:zf (D++[(lv,⟨l,b'⟩)])=(zf D++[lv])++.bool b'::[]:=(by rw[zO];simp[zf]);rw[A,B,zb5 _ _ _ _ _ (by rw[List.length_append,zL];rfl)]
theorem zi0 (l:List Cel) (x:Cel):zt (l++[x])=zt l++x.vals:=by rw[zbX];simp[zt]
theorem zck.cellsx {B o:Nat} {w:World} {v lv:Value} {D:List (Value × Rw)} {done:List Rw} {r:Rw} (h:zck B o w v D lv done r):∃ b off c,v=.slice (some ⟨b,off,none⟩) (D.length+1) c∧D.length+1≤c∧c≤maxLen ∧
  w.cell? ⟨o,0,none⟩=some v∧w.frozen? ⟨o,0,none⟩=false∧w.cell? ⟨b,off+D.length*2,none⟩=some lv∧w.frozen? ⟨b,off+D.length*2,none⟩=false∧w.cell? ⟨b,off+D.length*2+1,none⟩=some (.bool r.wrap)∧w.frozen? ⟨b,off+D.length*2+1,none⟩=false∧b<w.heap.size∧b≠o∧B≤b:=by
 obtain⟨b,off,c,rfl,J,I⟩:=zE h.own (by omega);have G:=zg h.own b rfl;have F:zf (D++[(lv,r)])=zf D++[lv,.bool r.wrap]:=(by rw[zO];rfl);have C:(zf D).length=D.length*2:=zL D;obtain⟨E,H⟩:=zae h.own (D.length*2) (by omega);obtain⟨A,L⟩:=zae h.own (D.length*2+1) (by omega);rw[F,List.getElem?_append_right (by omega),C,Nat.sub_self]at E;rw[F,List.getElem?_append_right (by omega),C,show D.length*2+1-D.length*2=1 by omega]at A;exact⟨b,off,c,rfl,J,I,za h.blk 0,zA h.blk 0,E,H,A,L,G.2,fun e=>h.vo (by rw[e];rfl),G.1⟩
theorem zck.push {B o:Nat} {w w2 w3:World} {v lv lv':Value} {D:List (Value × Rw)} {done:List Rw} {r:Rw} (h:zck B o w v D lv done r) {b off c:Nat} (hv:v=.slice (some ⟨b,off,none⟩) (D.length+1) c) (bl:Below w.heap.size w w2) {x:Cel}
  (o3:zp w3 (o+1) 5 lv' (r.cells.length+1) (zt r.cells++x.vals)) (g:w2.grownBy w3 lv.ownBlock) (hn:∀ k,lv'.ownBlock=some k→lv.ownBlock=some k∨w2.heap.size≤k) :
  zck B o (w3.setCell ⟨b,off+D.length*2,none⟩ lv') v D lv' done ⟨r.cells++[x],r.wrap⟩:=by
 have C:v.ownBlock=some b:=(by rw[hv];rfl);have N:=zg h.own b C;have M:=bl.size;have H:w3.grownBy (w3.setCell ⟨b,off+D.length*2,none⟩ lv') (some b):=zx (zo _ _) _ _;have I:lv'.ownBlock≠some b:=fun e=>by
  rcases hn b e with h1 | h1
  ·exact h.apl b h1 C
  ·omega
 refine⟨?_,?_,h.vo,h.dn,fun y hy=>?_,?_,h.nd,fun y hy=>?_,fun q hq e=>?_⟩
 ·refine zl (zl (zr h.blk bl (zq h.blk)) g (fun e=>?_)) H (fun e=>h.vo (by rw[C,e]));have:=(zg h.last o e.symm).1;omega
 ·have L:=zi (zk h.own bl) g (fun k A e=>h.apl k e A);rw[hv]at L;have J:=zak L (D.length*2) [lv'] (by simp;omega);rw[zhb D lv lv' r ⟨r.cells++[x],r.wrap⟩ rfl]at J;rw[hv];exact J
 ·obtain⟨q,E,F,G⟩:=h.ap y hy;refine zi (zi (zk (h.cells y hy) bl) g (fun k A e=>?_)) H (fun k A e=>?_)
  ·rw[E]at A;injection A with A;exact G (by rw[e,A])
  ·rw[E]at A;injection A with A;exact F (by rw[C,e,A])
 ·show zp _ (o+1) 5 lv' (r.cells++[x]).length (zt (r.cells++[x]));rw[List.length_append,zi0];exact zi o3 H (fun k A e=>I (by rw[A,e]))
 ·obtain⟨q,E,F,G⟩:=h.ap y hy;refine⟨q,E,F,fun e=>?_⟩;rcases hn q e with h1 | h1
  ·exact G h1
  ·have:=(zg (h.cells y hy) q E).2;omega
 ·rcases hn q hq with h1 | h1
  ·exact h.apl q h1 e
  ·have:=(zg h.own q e).2;omega
theorem zck.mark {B o:Nat} {w:World} {v lv:Value} {D:List (Value × Rw)} {done:List Rw} {l:List Cel} {b0:Bool} (h:zck B o w v D lv done ⟨l,b0⟩) {b off c:Nat} (hv:v=.slice (some ⟨b,off,none⟩) (D.length+1) c) (is:Bool) :
  zck B o (w.setCell ⟨b,off+D.length*2+1,none⟩ (.bool is)) v D lv done ⟨l,is⟩:=by
 have A:v.ownBlock=some b:=(by rw[hv];rfl);have E:w.grownBy (w.setCell ⟨b,off+D.length*2+1,none⟩ (.bool is)) (some b):=zx (zo _ _) _ _;refine⟨zl h.blk E (fun e=>h.vo (by rw[A,e])),?_,h.vo,h.dn,fun y hy=>?_,zi h.last E (fun k C e=>h.apl k C (by rw[A,e])),h.nd,h.ap,h.apl⟩
 ·have F:=h.own;rw[hv]at F;have G:=zak F (D.length*2+1) [.bool is] (by simp;omega);rw[zei]at G;rw[hv];exact G
 ·obtain⟨q,I,H,J⟩:=h.ap y hy;refine zi (h.cells y hy) E (fun k C e=>?_);rw[I]at C;injection C with C;exact H (by rw[A,e,C])
theorem zck.snoc {B o q0:Nat} {w w2 w3:World} {v lv v':Value} {D:List (Value × Rw)} {done:List Rw} {r:Rw} (h:zck B o w v D lv done r) (hq0:lv.ownBlock=some q0) (bl:Below w.heap.size w w2)
  (o3:zp w3 B 2 v' (D.length+1+1) (zf (D++[(lv,r)])++[.slice none 0 0,.bool false])) (g:w2.grownBy w3 v.ownBlock) (hn:∀ k,v'.ownBlock=some k→v.ownBlock=some k∨w2.heap.size≤k) :
  zck B o (w3.setCell ⟨o,0,none⟩ v') v' (D++[(lv,r)]) (.slice none 0 0) (done++[r]) noR:=by
 have J:=bl.size;have H:=zq h.blk;have I:w3.grownBy (w3.setCell ⟨o,0,none⟩ v') (some o):=zx (zo _ _) _ _;have G:v'.ownBlock≠some o:=fun e=>by
  rcases hn o e with h1 | h1
  ·exact h.vo h1
  ·omega
 have A:∀ x∈D++[(lv,r)],∃ q,x.1.ownBlock=some q∧v.ownBlock≠some q∧zp w (o+1) 5 x.1 x.2.cells.length (zt x.2.cells):=fun x hx=>by
  rcases List.mem_append.1 hx with hx | hx
  ·obtain⟨q,C,F,_⟩:=h.ap x hx;exact⟨q,C,F,h.cells x hx⟩
  ·rw[List.mem_singleton]at hx;subst hx;exact⟨q0,hq0,h.apl q0 hq0,h.last⟩
 refine⟨zz (zl (zr h.blk bl H) g (fun e=>h.vo e.symm)) 0 v',?_,G,?_,fun x hx=>?_,Zy _ _ _,?_,fun x hx=>?_,fun q hq=>by simp[Value.ownBlock]at hq⟩
 ·have e:zf ((D++[(lv,r)])++[(.slice none 0 0,noR)])=zf (D++[(lv,r)])++[.slice none 0 0,.bool false]:=(by rw[zO];rfl);rw[e,List.length_append];exact zi o3 I (fun k A e=>G (by rw[A,e]))
 ·rw[List.map_append,h.dn];rfl
 ·obtain⟨q,C,F,E⟩:=A x hx;refine zi (zi (zk E bl) g (fun k A e=>?_)) I (fun k A e=>?_)
  ·rw[C]at A;injection A with A;exact F (by rw[e,A])
  ·have:=(zg E k A).1;injection e with e;omega
 ·rw[List.map_append,List.nodup_append];refine⟨h.nd,by simp,fun a ha c hc e=>?_⟩;obtain⟨x,hx,rfl⟩:=List.mem_map.1 ha;simp only[List.map_cons,List.map_nil,List.mem_singleton]at hc;subst hc;obtain⟨q,C,_,E⟩:=h.ap x hx;exact E (by rw[← e,C])
 ·obtain⟨q,C,F,E⟩:=A x hx;refine⟨q,C,fun e=>?_,by simp[Value.ownBlock]⟩;rcases hn q e with h1 | h1
  ·exact F h1
  ·have:=(zg E q C).2;omega
theorem zck.rows {B o q0:Nat} {w:World} {v lv:Value} {D:List (Value × Rw)} {done:List Rw} {r:Rw} (h:zck B o w v D lv done r) (hq0:lv.ownBlock=some q0) (hB:B≤o+1):Zj B w v (D++[(lv,r)]):=by
 refine⟨by rw[List.length_append];exact h.own,fun x hx=>?_,?_,fun x hx=>?_⟩
 ·rcases List.mem_append.1 hx with hx | hx
  ·exact zP (h.cells x hx) hB
  ·rw[List.mem_singleton]at hx;subst hx;exact zP h.last hB
 ·rw[List.map_append,List.nodup_append];refine⟨h.nd,by simp,fun a ha c hc e=>?_⟩;obtain⟨x,hx,rfl⟩:=List.mem_map.1 ha;simp only[List.map_cons,List.map_nil,List.mem_singleton]at hc;subst hc;obtain⟨q,A,_,E⟩:=h.ap x hx;exact E (by rw[← e,A])
 ·rcases List.mem_append.1 hx with hx | hx
  ·obtain⟨q,A,C,_⟩:=h.ap x hx;exact⟨q,A,C⟩
  ·rw[List.mem_singleton]at hx;subst hx;exact⟨q0,hq0,h.apl q0 hq0⟩
end
section
open Go.RowKit
def PSt.marked (s:PSt):Bool:=match s.inter with | []=>false | c::_=>decide (60≤(c.toNat:Int))
def PSt.btw (s:PSt):Nat:=if s.marked then s.inter.length-1 else s.inter.length
def PSt.cut (s:PSt):PSt:={ s with params:=s.params.take 32 }
def PSt.seqd (s:PSt) (b:UInt8):PSt × List VAct :=
 if 64≤(b.toNat:Int) then (if s.state=2 then (s.cut.begun 0,[zbR b (s.params.take 32) s.inter]) else ({ s.cut with state:=6,final:=b },[]))
 else if ZL (b.toNat:Int)=true∧s.btw<2 then ({ s with inter:=s.inter++[b] },[])
 else if (b.toNat:Int)<58∧ZL (b.toNat:Int)=false∧s.btw=0 then (s.digit ((b.toNat:Int)-48),[])
 else if (b.toNat:Int)=59∧s.btw=0 then (s.digit (-1),[])
 else if 60≤(b.toNat:Int)∧s.inter.length=0∧s.any=false then ({ s with inter:=s.inter++[b] },[])
 else (s.passed,[])
theorem zgC {P:Program} {t e:TypeId} {w:World} {v:Value} {n:Nat} {xs:List Value} (ht:P.underlying t=some (.slice e)) (hs:(P.info? e).map (·.size)=some 1) (h:zp w 0 1 v n xs) (m:Nat) (hm:m≤n) :
  ∃ v',(∀ wx,(Instr.slice t v none (some (.int .i64 m)) none).run P wx=.ok v' wx)∧zp w 0 1 v' m (xs.take m)∧v'.ownBlock=v.ownBlock:=by
 have A:P.elem t=e:=(by simp[Program.elem,ht]);obtain⟨B,h2⟩:=id h;rcases h2 with ⟨rfl,h0⟩ | ⟨b,off,c,rfl,hb,hbs,hnc,hcm,hcells,hxs⟩
 ·have:m=0:=(by omega);subst this;refine⟨.slice none 0 0,fun wx=>?_,Zy _ _ _,rfl⟩;rw[run_slice_h wx t none 0 0 (zcV ht) .i64 _ (by omega) (by simp),A,zdn hs];simp[Result.andThen,sliced]
 ·refine⟨.slice (some ⟨b,off,none⟩) m c,fun wx=>?_,⟨by rw[List.length_take];omega,.inr ⟨b,off,c,rfl,hb,hbs,by omega,hcm,hcells,fun j u hu=>?_⟩⟩,rfl⟩
  ·rw[run_slice_h wx t _ _ c (zcV ht) .i64 _ (by omega) (by omega),A,zdn hs];simp[Result.andThen,sliced];intro _;rfl
  ·rw[List.getElem?_take]at hu;split at hu
   ·exact hxs j u hu
   ·simp at hu
theorem zej {G:Nat→Prop} {T:Nat→Nat} {p o:Nat} {w:World} {s:PSt} {acts:List VAct} (b:UInt8) (h:zaF G true T p o w s acts) (hi3:s.inter.length≤10) (hn:acts.length≤1000000000) (hb32:32≤(b.toNat:Int))
  (hp:s.any=true→s.params≠[]) (hl:s.params.length≤40) (hr:∀ x∈s.params,-1≤x∧x≤9999) :
  Calls prog 140 #[.pointer (some ⟨p,0,none⟩),.int .u8 (b.toNat:Int)] w fun e w'=>e=.returned (.tuple #[])∧zh G w w'∧zhB G true p o w' (s.seqd b).1 (acts++(s.seqd b).2):=by
 have H:=Qh h;have HP:=Qh (And.intro hp (And.intro hl hr));have F:=Qh (show s.seqd b=if 64≤(b.toNat:Int) then (if s.state=2 then (s.cut.begun 0,[zbR b (s.params.take 32) s.inter]) else ({ s.cut with state:=6,final:=b },[]))
  else if ZL (b.toNat:Int)=true∧s.btw<2 then ({ s with inter:=s.inter++[b] },[])
  else if (b.toNat:Int)<58∧ZL (b.toNat:Int)=false∧s.btw=0 then (s.digit ((b.toNat:Int)-48),[])
  else if (b.toNat:Int)=59∧s.btw=0 then (s.digit (-1),[])
  else if 60≤(b.toNat:Int)∧s.inter.length=0∧s.any=false then ({ s with inter:=s.inter++[b] },[])
  else (s.passed,[]) from rfl)
 obtain⟨d,vi,vp,vt,vo,L,hL,hA,hC,hT⟩:=h;clear hp hl hr;have c0:w.cell? ⟨p,0,none⟩=some (.int .i64 s.state):=Zd hC 0;have c2:w.cell? ⟨p,2,none⟩=some (.func (.func 92) #[] #[.pointer (some ⟨o,0,none⟩)]):=Zd hC 2;have c3:w.cell? ⟨p,3,none⟩=some vi:=Zd hC 3;have c4:w.cell? ⟨p,4,none⟩=some vp:=Zd hC 4;have c5:w.cell? ⟨p,5,none⟩=some (.bool s.any):=Zd hC 5;have fz:=zA hC.blk;have C3:∀ (ty:TypeId) (V:World),(Builtin.len_ #[32] ty #[vi]).run prog V=.ok (.int .i64 s.inter.length) V:=zcU underlying32 hC.ri.own;have A3:∀ (ty:TypeId) (V:World),(Builtin.len_ #[22] ty #[vp]).run prog V=.ok (.int .i64 s.params.length) V:=zcU underlying22 (hC.rp rfl).own;have G1:=Qh (fun (h0:0<s.inter.length)=>zeD underlying32 (by kernel_rfl) hC.ri.own 0 h0);obtain⟨vc,B2,L1,C2⟩:=zgC underlying22 (by kernel_rfl) (hC.rp rfl).own (min s.params.length 32) (Nat.min_le_left _ _);replace B2:∀ V,(Instr.slice 22 vp none (some (.int .i64 (min (s.params.length:Int) 32))) none).run prog V=.ok vc V:=by
  intro V;rw[← B2 V];congr 4;omega
 have J1:=Qh L1;have G2:=Qh C2;clear L1 C2;obtain⟨xi,mi,ci,rfl⟩:=zR hC.ri.own;obtain⟨xp,mp,L0,rfl⟩:=zR (hC.rp rfl).own;obtain⟨xc,mc,I,rfl⟩:=zR J1;have Y:=Qh hC;have HA:=Qh hA;have HT:=Qh hT;have HL:=Qh hL;clear hA hC hT hL;have I1:=Qh (zI Y.blk (.cells #[.int .u8 (b.toNat:Int)] 5));have E0:=Qh (show s.btw=if s.marked then s.inter.length-1 else s.inter.length from rfl);have I0:=Qh (show s.marked=match s.inter with | []=>false | c::_=>decide (60≤(c.toNat:Int)) from rfl);go_enter func140,ntmps140;go_upto_region 1 with fail
 go_cut [20] (fun v V=>v=.bool s.marked∧V=w)
 case first =>
  by_cases h0:0<s.inter.length
  ·obtain⟨b0,O1,U2,F2,D1,⟨x0,M0,S1⟩,_,_⟩:=G1.out h0;have N2:decide (0<(s.inter.length:Int))=true:=Qt (by omega);have Z1:decide (0<s.inter.length)=true:=Qt h0;have A0:∃ c r,s.inter=c::r:=by
    cases hs:s.inter with
    | nil=>rw[hs]at h0;simp at h0
    | cons c r=>exact⟨c,r,rfl⟩
   obtain⟨cc,rr,A0⟩:=A0;rw[A0]at M0 I0;have O2:x0=.int .u8 (cc.toNat:Int):=(by simp[zu]at M0;exact M0.symm);subst O2;replace D1:∀ V,(Instr.indexAt 32 (.slice xi mi ci) (.int .i64 0)).run prog V=.ok (.pointer (some ⟨b0,O1+0,none⟩)) V:=D1;rw[Nat.add_zero]at D1 S1;clear A0 M0 h0 F2;go_wp2_with fail;go_meet;rw[I0.out];exact⟨rfl,rfl⟩
  ·have N2:decide (0<(s.inter.length:Int))=false:=Qf (by omega);have Z1:decide (0<s.inter.length)=false:=Qf h0;have A0:s.inter=[]:=List.eq_nil_of_length_eq_zero (by omega);rw[A0]at I0;clear A0 h0;go_wp2_with fail;go_meet;rw[I0.out];exact⟨rfl,rfl⟩
 case rest =>
  obtain⟨rfl,C⟩:=hcut;rw[C];clear C;clear I0 G1;go_upto_if 20 with fail
  go_cut [4] (fun v V=>v=.int .i64 s.btw∧V=w)
  case first =>
   cases hmk:s.marked
   ·rw[hmk]at E0;go_wp2_with fail;go_meet;rw[E0.out,if_neg (by decide)];exact⟨rfl,rfl⟩
   ·have T2:1≤s.inter.length:=by
     unfold PSt.marked at hmk;cases hs:s.inter with
     | nil=>rw[hs]at hmk;simp at hmk
     | cons c r=>simp
    have O0:((s.inter.length-1:Nat):Int)=(s.inter.length:Int)-1:=(by omega);have L2:=Qh O0;clear O0;rw[hmk]at E0;go_wp2_with fail;go_meet;refine⟨?_,rfl⟩;rw[E0.out];simp only[if_true,L2.out]
  case rest =>
   obtain⟨rfl,C⟩:=hcut;rw[C];clear C E0;generalize s.btw=bt at *;by_cases h64:64≤(b.toNat:Int)
   ·rw[if_pos h64]at F;have A2:decide (64≤(b.toNat:Int))=true:=Qt h64;go_upto_region 5 with fail
    go_still_tail 14,(by kernel_rfl)
    change wpList _ _ _ _ _ w.drew;have O:zcm true T p d (za9 o) (.slice xi mi ci) (.slice xp mp L0) vt w.drew s:=Y.out.mod (zaW T w) id id id id id;have V1:zdm G T o vo w.drew L:=HT.out.mod (zaW T w) id id id;have B1:zbi G T w.drew:=HA.out.mono (Nat.le_refl _);have X2:=zA O.blk;have d4:w.drew.cell? ⟨p,4,none⟩=some (.slice xp mp L0):=Zd O 4;have Y1:Row T 5 1 (.slice xc mc I) (s.params.take 32).length ((s.params.take 32).map (Value.int .i64)) w.drew:=by
     have e1:(s.params.take 32).length=min s.params.length 32:=(by rw[List.length_take,Nat.min_comm]);have e2:(s.params.take 32).map (Value.int .i64)=(s.params.map (Value.int .i64)).take (min s.params.length 32):=by
      rw[List.map_take];by_cases hle:s.params.length≤32
      ·rw[Nat.min_eq_left hle,List.take_of_length_le (by rw[List.length_map];exact hle),List.take_of_length_le (by rw[List.length_map];exact Nat.le_refl _)]
      ·rw[Nat.min_eq_right (by omega)]
     rw[e1,e2];have hr:Row T 5 1 (.slice xc mc I) (min s.params.length 32) ((s.params.map (Value.int .i64)).take (min s.params.length 32)) w:=⟨J1,fun k hk=>(Y.rp rfl).tag k (by rw[← G2.out];exact hk)⟩;exact hr.mod (zaW T w) id
    have Z0:zcm true T p d (za9 o) (.slice xi mi ci) (.slice xc mc I) vt (w.drew.setCell ⟨p,4,none⟩ (.slice xc mc I)) s.cut:=O.put (zx (zo _ _) _ _) (zz O.blk 4 _) rfl O.ri (fun _=>Y1) O.rt;have m5:Mod T (fun x=>x=1) w.drew (w.drew.setCell ⟨p,4,none⟩ (.slice xc mc I)):=Mod.of_gb (zx (zo _ (some p)) _ _) (fun k hk=>by injection hk with hk;subst hk;exact O.tp);have S0:=V1.mod m5 (by decide) (by decide) (by decide);have Y0:=B1.mono (w':=w.drew.setCell ⟨p,4,none⟩ (.slice xc mc I)) (by simp);have F1:zh G w (w.drew.setCell ⟨p,4,none⟩ (.slice xc mc I)):=(zh.drew G w).trans (m5.within B1 (by decide));have X0:=Qh (show zaF G true T p o (w.drew.setCell ⟨p,4,none⟩ (.slice xc mc I)) s.cut acts from⟨d,.slice xi mi ci,.slice xc mc I,vt,vo,L,HL,Y0,Z0,S0⟩);have R:=Qh Z0;have M2:=Qh S0;have E2:=Qh Y0;have E1:=Qh F1;clear O V1 B1 Y1 Z0 m5 S0 Y0 F1;clear c0 c3 c4 c5 c2 fz;generalize Y2:w.drew=wd at *;generalize X1:wd.setCell ⟨p,4,none⟩ (.slice xc mc I)=Z at *;have k0:Z.cell? ⟨p,0,none⟩=some (.int .i64 s.state):=Zd R 0;have k2:Z.cell? ⟨p,2,none⟩=some (.func (.func 92) #[] #[.pointer (some ⟨o,0,none⟩)]):=Zd R 2;have k3:Z.cell? ⟨p,3,none⟩=some (.slice xi mi ci):=Zd R 3;have k4:Z.cell? ⟨p,4,none⟩=some (.slice xc mc I):=Zd R 4;have k7:Z.cell? ⟨p,7,none⟩=some (.int .u8 (s.final.toNat:Int)):=Zd R 7;have V2:=zA R.blk;by_cases hst:s.state=2
    ·rw[if_pos hst]at F;have H1:(s.state == 2)=true:=beq_iff_eq.2 hst;have S2:(convert 32 9 (.slice xi mi ci)).run prog Z.drew=.ok (.string ⟨s.inter.toArray⟩) Z.drew:=Z5 (P:=prog) (w:=Z.drew) underlying32 underlying5 underlying9 (zX R.ri.own);have J2:=Qh (zft (zbR b (s.params.take 32) s.inter) rfl (E2.mono (w':=Z.drew) (Nat.le_refl _)) (R.mod (zaW T Z) id id id id id) (M2.mod (zaW T Z) id id id) (by rw[← HL.out,List.length_map]at hn;exact hn));clear hst;go_wp2_with fail
     try simp only[X1]
     go_upto_region 7 with fail
     go_still_tail 15,(by kernel_rfl)
     change wpList _ _ _ _ _ Z.drew;generalize M1:Z.drew=D3 at *;go_wp2_with fail;refine J2.mono ?_;rintro e w6 ⟨rfl,N1,T6,G0⟩;have I2:=Qh ((E1.trans (M1 ▸ zh.drew G Z)).trans N1);have R2:=Qh G0;clear N1 G0;go_wp2_with fail;refine(Zl 0 R2).mono ?_;rintro e w7 ⟨rfl,R1,F0⟩;have V0:=Qh (I2.trans R1);have A1:=Qh F0;clear R1 F0;go_wp2_with fail;refine ZR rfl rfl ?_;rw[F.out,← HL.out];exact⟨rfl,V0,T6,A1⟩
    ·rw[if_neg hst]at F;have H1:(s.state == 2)=false:=Qb hst;have G0:=X0.out.set 0 (.int .i64 6) { s.cut with state:=6 } (fun _ _ _ _ _=>rfl) rfl rfl rfl rfl;have F0:=G0.set 7 (.int .u8 (b.toNat:Int)) { s.cut with state:=6,final:=b } (fun _ _ _ _ _=>rfl) rfl rfl rfl rfl;have V0:=Qh ((E1.trans (zdg X0.inG Z 0 (.int .i64 6))).trans (zdg X0.inG _ 7 (.int .u8 (b.toNat:Int))));have A1:=Qh F0;clear hst G0 F0;go_wp2_with fail
     try simp only[X1]
     go_wp2_with fail;go_end0;rw[F.out,List.append_nil];exact⟨rfl,V0,T,A1⟩
   rw[if_neg h64]at F;have A2:decide (64≤(b.toNat:Int))=false:=Qf h64;cases hbt:ZL (b.toNat:Int)
   ·rw[hbt,if_neg (by simp)]at F;by_cases h58:(b.toNat:Int)<58
    ·have N0:decide ((b.toNat:Int)<58)=true:=Qt h58;by_cases hb0:bt=0
     ·rw[if_pos ⟨h58,rfl,hb0⟩]at F;have J0:((bt:Int) == 0)=true:=(by rw[beq_iff_eq];omega);have Z2:48≤(b.toNat:Int):=by
       unfold ZL at hbt;rw[Bool.and_eq_false_iff,decide_eq_false_iff_not,decide_eq_false_iff_not]at hbt;omega
      clear hb0;go_wp2_with fail;refine(zQ (b.toNat:Int) _).mono ?_;rintro e M ⟨rfl,C⟩;rw[C,hbt];clear C;go_wp2_with fail;refine(zQ (b.toNat:Int) _).mono ?_;rintro e M ⟨rfl,C⟩;rw[C,hbt];clear C;go_wp2_with fail;refine(zg1 ((b.toNat:Int)-48) H (by omega) (by omega) HP.1 HP.2.1 HP.2.2).mono ?_;rintro e M ⟨rfl,B,A⟩;have D:=Qh B;have E:=Qh A;clear B A;go_wp2_with fail;go_end0;rw[F.out,List.append_nil];exact⟨rfl,D,E⟩
     ·rw[if_neg (fun h=>hb0 h.2.2),if_neg (fun h=>hb0 h.2),if_neg (fun h=>by omega)]at F;have J0:((bt:Int) == 0)=false:=(by rw[beq_eq_false_iff_ne];omega);have D0:((b.toNat:Int) == 59)=false:=(by rw[beq_eq_false_iff_ne];omega);have B0:decide (60≤(b.toNat:Int))=false:=Qf (by omega);clear hb0;go_wp2_with fail;refine(zQ (b.toNat:Int) _).mono ?_;rintro e M ⟨rfl,C⟩;rw[C,hbt];clear C;go_wp2_with fail;refine(zQ (b.toNat:Int) _).mono ?_;rintro e M ⟨rfl,C⟩;rw[C,hbt];clear C;go_wp2_with fail;refine(zcj H).mono ?_;rintro e M ⟨rfl,B,A⟩;have D:=Qh B;have E:=Qh A;clear B A;go_wp2_with fail;go_end0;rw[F.out,List.append_nil];exact⟨rfl,D,T,E⟩
    rw[if_neg (fun h=>h58 h.1)]at F;have N0:decide ((b.toNat:Int)<58)=false:=Qf h58;by_cases h59:(b.toNat:Int)=59
    ·have D0:((b.toNat:Int) == 59)=true:=beq_iff_eq.2 h59;by_cases hb0:bt=0
     ·rw[if_pos ⟨h59,hb0⟩]at F;have J0:((bt:Int) == 0)=true:=(by rw[beq_iff_eq];omega);clear hb0 h59;go_wp2_with fail;refine(zQ (b.toNat:Int) _).mono ?_;rintro e M ⟨rfl,C⟩;rw[C,hbt];clear C;go_wp2_with fail;refine(zg1 (-1) H (by omega) (by omega) HP.1 HP.2.1 HP.2.2).mono ?_;rintro e M ⟨rfl,B,A⟩;have D:=Qh B;have E:=Qh A;clear B A;go_wp2_with fail;go_end0;rw[F.out,List.append_nil];exact⟨rfl,D,E⟩
     ·rw[if_neg (fun h=>hb0 h.2),if_neg (fun h=>by omega)]at F;have J0:((bt:Int) == 0)=false:=(by rw[beq_eq_false_iff_ne];omega);have B0:decide (60≤(b.toNat:Int))=false:=Qf (by omega);clear hb0 h59;go_wp2_with fail;refine(zQ (b.toNat:Int) _).mono ?_;rintro e M ⟨rfl,C⟩;rw[C,hbt];clear C;go_wp2_with fail;refine(zcj H).mono ?_;rintro e M ⟨rfl,B,A⟩;have D:=Qh B;have E:=Qh A;clear B A;go_wp2_with fail;go_end0;rw[F.out,List.append_nil];exact⟨rfl,D,T,E⟩
    rw[if_neg (fun h=>h59 h.1)]at F;have D0:((b.toNat:Int) == 59)=false:=Qb h59;by_cases h60:60≤(b.toNat:Int);rotate_left
    ·rw[if_neg (fun h=>h60 h.1)]at F;have B0:decide (60≤(b.toNat:Int))=false:=Qf h60;clear h59;go_wp2_with fail;refine(zQ (b.toNat:Int) _).mono ?_;rintro e M ⟨rfl,C⟩;rw[C,hbt];clear C;go_wp2_with fail;refine(zcj H).mono ?_;rintro e M ⟨rfl,B,A⟩;have D:=Qh B;have E:=Qh A;clear B A;go_wp2_with fail;go_end0;rw[F.out,List.append_nil];exact⟨rfl,D,T,E⟩
    have B0:decide (60≤(b.toNat:Int))=true:=Qt h60;by_cases hi0:s.inter.length=0;rotate_left
    ·rw[if_neg (fun h=>hi0 h.2.1)]at F;have U1:((s.inter.length:Int) == 0)=false:=(by rw[beq_eq_false_iff_ne];omega);clear h59 hi0;go_wp2_with fail;refine(zQ (b.toNat:Int) _).mono ?_;rintro e M ⟨rfl,C⟩;rw[C,hbt];clear C;go_wp2_with fail;refine(zcj H).mono ?_;rintro e M ⟨rfl,B,A⟩;have D:=Qh B;have E:=Qh A;clear B A;go_wp2_with fail;go_end0;rw[F.out,List.append_nil];exact⟨rfl,D,T,E⟩
    have U1:((s.inter.length:Int) == 0)=true:=(by rw[beq_iff_eq];omega);cases hany:s.any;rotate_left
    ·rw[hany,if_neg (fun h=>by simp at h)]at F;rw[hany]at c5;clear h59 hi0;go_wp2_with fail;refine(zQ (b.toNat:Int) _).mono ?_;rintro e M ⟨rfl,C⟩;rw[C,hbt];clear C;go_wp2_with fail;refine(zcj H).mono ?_;rintro e M ⟨rfl,B,A⟩;have D:=Qh B;have E:=Qh A;clear B A;go_wp2_with fail;go_end0;rw[F.out,List.append_nil];exact⟨rfl,D,T,E⟩
    rw[if_pos ⟨h60,hi0,hany⟩]at F;rw[hany]at c5;clear h59 hi0;go_wp2_with fail;refine(zQ (b.toNat:Int) _).mono ?_;rintro e M ⟨rfl,C⟩;rw[C,hbt];clear C;go_wp2_with (at_builtin;refine zaQ ?_);unfold zaP;refine zS zay rfl rfl 0 (zG Y.ri.own _) rfl (Zi _ _ _) rfl (zaw _ _) (by unfold maxLen;omega) (by omega) (by omega) ?_;intro v6 w6 o6 g6 n6;obtain⟨x6,m6,c6,rfl⟩:=zR o6;have N:=zl I1 g6 (fun e=>by have h1:=Y.out.ri.tag p e.symm;have h2:=Y.out.tp;omega);have H2:w6.cell? ⟨p,3,none⟩=some (.slice xi mi ci):=za N 3;have D2:=zA N;have U0:=Qh N;have C0:zp w6 0 1 (.slice x6 m6 c6) (s.inter++[b]).length (zu (s.inter++[b])):=by
     rw[List.length_append,ZP];exact o6
    obtain⟨T',T0,H0,J,C1,U⟩:=zbO (t:=4) (.inl rfl) rfl HA Y HT Y.ri (World.grownBy_alloc w _ none) g6 C0 n6;obtain⟨S,X⟩:=U (w6.setCell ⟨p,3,none⟩ (.slice x6 m6 c6)) { s with inter:=s.inter++[b] } (.slice x6 m6 c6) (.slice xp mp L0) vt (zx (zo _ _) _ _) (zz U0 3 _) rfl H0 (J 5 1 _ _ _ (by decide) (Y.rp rfl)) (J 6 1 _ _ _ (by decide) Y.rt);have D:=Qh S;have E:=Qh X;clear o6 g6 n6 C0 T0 H0 J C1 U S X N;go_wp2_with fail;go_end0;rw[F.out,← HL.out,List.append_nil];exact⟨rfl,D,T',E⟩
   ·rw[hbt]at F;have B3:(b.toNat:Int)<48:=by
     unfold ZL at hbt;rw[Bool.and_eq_true,decide_eq_true_eq,decide_eq_true_eq]at hbt;omega
    have N0:decide ((b.toNat:Int)<58)=true:=Qt (by omega);have D0:((b.toNat:Int) == 59)=false:=(by rw[beq_eq_false_iff_ne];omega);have B0:decide (60≤(b.toNat:Int))=false:=Qf (by omega);by_cases hb2:bt<2
    ·rw[if_pos ⟨rfl,hb2⟩]at F;have T1:decide ((bt:Int)<2)=true:=Qt (by omega);have R0:decide (bt<2)=true:=Qt (by omega);clear hb2;go_wp2_with fail;refine(zQ (b.toNat:Int) _).mono ?_;rintro e M ⟨rfl,C⟩;rw[C,hbt];clear C;go_wp2_with (at_builtin;refine zaQ ?_);unfold zaP;refine zS zay rfl rfl 0 (zG Y.ri.own _) rfl (Zi _ _ _) rfl (zaw _ _) (by unfold maxLen;omega) (by omega) (by omega) ?_;intro v6 w6 o6 g6 n6;obtain⟨x6,m6,c6,rfl⟩:=zR o6;have N:=zl I1 g6 (fun e=>by have h1:=Y.out.ri.tag p e.symm;have h2:=Y.out.tp;omega);have H2:w6.cell? ⟨p,3,none⟩=some (.slice xi mi ci):=za N 3;have D2:=zA N;have U0:=Qh N;have C0:zp w6 0 1 (.slice x6 m6 c6) (s.inter++[b]).length (zu (s.inter++[b])):=by
      rw[List.length_append,ZP];exact o6
     obtain⟨T',T0,H0,J,C1,U⟩:=zbO (t:=4) (.inl rfl) rfl HA Y HT Y.ri (World.grownBy_alloc w _ none) g6 C0 n6;obtain⟨S,X⟩:=U (w6.setCell ⟨p,3,none⟩ (.slice x6 m6 c6)) { s with inter:=s.inter++[b] } (.slice x6 m6 c6) (.slice xp mp L0) vt (zx (zo _ _) _ _) (zz U0 3 _) rfl H0 (J 5 1 _ _ _ (by decide) (Y.rp rfl)) (J 6 1 _ _ _ (by decide) Y.rt);have D:=Qh S;have E:=Qh X;clear o6 g6 n6 C0 T0 H0 J C1 U S X N;go_wp2_with fail;go_end0;rw[F.out,← HL.out,List.append_nil];exact⟨rfl,D,T',E⟩
    ·rw[if_neg (fun h=>hb2 h.2),if_neg (fun h=>by simp at h),if_neg (fun h=>by omega),if_neg (fun h=>by omega)]at F;have T1:decide ((bt:Int)<2)=false:=Qf (by omega);have R0:decide (bt<2)=false:=Qf (by omega);clear hb2;go_wp2_with fail;refine(zQ (b.toNat:Int) _).mono ?_;rintro e M ⟨rfl,C⟩;rw[C,hbt];clear C;go_wp2_with fail;refine(zQ (b.toNat:Int) _).mono ?_;rintro e M ⟨rfl,C⟩;rw[C,hbt];clear C;go_wp2_with fail;refine(zcj H).mono ?_;rintro e M ⟨rfl,B,A⟩;have D:=Qh B;have E:=Qh A;clear B A;go_wp2_with fail;go_end0;rw[F.out,List.append_nil];exact⟨rfl,D,T,E⟩
end
section
open Go.RowKit
def PSt.fed (s:PSt) (b:UInt8):PSt × List VAct:=({ s with dec:=(Zv s.dec (b.toNat:Int)).1 },(Zv s.dec (b.toNat:Int)).2.map zbV)
def PSt.took (s:PSt) (b:UInt8):PSt × List VAct :=
 if s.state=1 then s.esced b
 else if s.state=2∨s.state=5 then s.seqd b
 else if s.state=3 then (if 64≤(b.toNat:Int)∨(48≤(b.toNat:Int)∧s.frm=1) then (s.begun (if s.frm=5 then 7 else 0),[]) else (s,[]))
 else if s.state=4∨s.state=6 then (if s.text.length<1024 then ({ s with text:=s.text++[b] },[]) else (s,[]))
 else if s.state=7 then (s,[])
 else s.fed b
theorem zhc {G:Nat→Prop} {w:World} (hg:∀ k,w.heap.size≤k→G k) (o:Obj):zh G w (w.alloc o):=by
 have _:=hg;exact⟨rfl,rfl,rfl,by simp,fun k hk _=>heap_alloc_old w o hk⟩
theorem zaF.alloc {G:Nat→Prop} {u:Bool} {T:Nat→Nat} {p o:Nat} {w:World} {s:PSt} {acts:List VAct} (h:zaF G u T p o w s acts) (ob:Obj):zaF G u T p o (w.alloc ob) s acts:=by
 obtain⟨d,B,A,H,C,L,I,F,J,D⟩:=h;have m:Mod T (fun _=>False) w (w.alloc ob):=Mod.of_gb (World.grownBy_alloc w ob none) (by intro k E;simp at E);exact⟨d,B,A,H,C,L,I,F.mono m.size,J.mod m id id id id id,D.mod m id id id⟩
theorem Zr {P:Program} {a:Act} {w:World} {Q:Exit→Act→World→Prop} {c rest:Code} (l:Nat) (hf:findLabel c l=some rest)
  (first:c.wp P (Exit.jump l (fun a w=>rest.wp P (Exit.noGoto Q) a w) Q) a w):(Code.scope c).wp P Q a w:=by
 refine wp_scope_jumps l (fun a w=>rest.wp P (Exit.noGoto Q) a w) (fun _ _=>0) hf first fun a w h=>?_
 intro b k B;obtain⟨e,C,D,hq,A⟩:=h b k B;refine⟨e,C,D,?_,A⟩;cases e <;> first | exact hq | exact hq.elim
structure PSt.Fine (s:PSt):Prop where
 il:s.inter.length≤3
 pne:s.any=true→s.params≠[]
 pl:s.params.length≤33
 pr:∀ x∈s.params,-1≤x∧x≤9999
 tl:s.text.length≤1024
 st:0≤s.state∧s.state≤7
 e1:s.state=1→s.inter.length≤2
theorem zfy {G:Nat→Prop} {u:Bool} {T:Nat→Nat} {p o d:Nat} {vi vp vt vo v:Value} {w w':World} {s:PSt} {L:List (VAct × Value)} {D:Dec} {l:List Int} (hA:zbi G T w) (hC:zcm u T p d (za9 o) vi vp vt w s) (hT:zdm G T o vo w L)
  (g:w.grownBy w' (some d)) (hd:zcs w' d D) (hok:D.ok) (hv:w'.ownsRow w.heap.size 21 1 v l.length (l.map (Value.int .i32))) :
  zh G w w'∧zaF G u T p o w' { s with dec:=D } (L.map (·.1))∧Row T 0 1 v l.length (l.map (Value.int .i32)) w':=by
 have m:Mod T (fun x=>x=2) w w':=Mod.of_gb g (fun k A=>by injection A with A;subst A;exact hC.td);refine⟨m.within hA (by decide),⟨d,vi,vp,vt,vo,L,rfl,hA.mono g.size,?_,hT.mod m (by decide) (by decide) (by decide)⟩,zaj (zhJ hv (Nat.zero_le _)),fun k A=>?_⟩
 ·exact⟨(m.block p (zq hC.blk) (by rw[hC.tp];decide)).trans hC.blk,hd,hok,hC.ri.mod m (by decide),fun hu=>(hC.rp hu).mod m (by decide),hC.rt.mod m (by decide),hC.tp,hC.td⟩
 ·have B:=(hv.lt k A).1;by_cases h0:T k=0
  ·exact h0
  ·have:=(hA.tl k h0).1;omega
theorem zl7 {G:Nat→Prop} {T:Nat→Nat} {p o:Nat} {w:World} {s:PSt} {acts:List VAct} (b:UInt8) (h:zaF G true T p o w s acts) (hf:s.Fine) (hn:acts.length+10≤1000000000) (hb32:32≤(b.toNat:Int)) :
  Calls prog 94 #[.pointer (some ⟨p,0,none⟩),.int .u8 (b.toNat:Int)] w fun e w'=>e=.returned (.tuple #[])∧zh G w w'∧zhB G true p o w' (s.took b).1 (acts++(s.took b).2):=by
 have H:=Qh h;have F:=Qh (show s.took b=if s.state=1 then s.esced b
  else if s.state=2∨s.state=5 then s.seqd b
  else if s.state=3 then (if 64≤(b.toNat:Int)∨(48≤(b.toNat:Int)∧s.frm=1) then (s.begun (if s.frm=5 then 7 else 0),[]) else (s,[]))
  else if s.state=4∨s.state=6 then (if s.text.length<1024 then ({ s with text:=s.text++[b] },[]) else (s,[]))
  else if s.state=7 then (s,[])
  else s.fed b from rfl)
 obtain⟨d,vi,vp,vt,vo,L,hL,hA,Z,hT⟩:=h;have c0:w.cell? ⟨p,0,none⟩=some (.int .i64 s.state):=Zd Z 0;have c1:w.cell? ⟨p,1,none⟩=some (.pointer (some ⟨d,0,none⟩)):=Zd Z 1;have c6:w.cell? ⟨p,6,none⟩=some vt:=Zd Z 6;have c9:w.cell? ⟨p,9,none⟩=some (.int .i64 s.frm):=Zd Z 9;have fz:=zA Z.blk;have I1:∀ (ty:TypeId) (wx:World),(Builtin.len_ #[32] ty #[vt]).run prog wx=.ok (.int .i64 s.text.length) wx:=zcU underlying32 Z.rt.own;obtain⟨xt,mt,ct,rfl⟩:=zR Z.rt.own;have X:=Qh hf;have M:=Qh Z;have HA:=Qh hA;have HT:=Qh hT;have HL:=Qh hL;have J1:acts.length=L.length:=(by rw[← hL,List.length_map]);clear hA Z hT hL hf;have J0:=Qh (zI M.blk (.cells #[.int .u8 (b.toNat:Int)] 5));by_cases h1:s.state=1
 ·rw[if_pos h1]at F;have D1:(s.state == 1)=true:=beq_iff_eq.2 h1;clear h1;go_enter func94,ntmps94;go_wp2_with fail;refine Zr 0 rfl ?_;go_wp2_with fail
  go_step3
  refine⟨rfl,?_⟩;go_wp2_with fail;refine(ziO b H (by have:=X.out.il;omega) (by omega)).mono ?_;rintro e Y ⟨rfl,B,A⟩;have C:=Qh B;have E:=Qh A;clear B A;go_wp2_with fail;simp only[Exit.noGoto];refine ZR rfl rfl ?_;rw[F.out];exact⟨rfl,C,E⟩
 rw[if_neg h1]at F;have D1:(s.state == 1)=false:=Qb h1;by_cases h2:s.state=2∨s.state=5
 ·rw[if_pos h2]at F;rcases h2 with h2 | h2
  ·have V0:(s.state == 2)=true:=beq_iff_eq.2 h2;clear h1 h2;go_enter func94,ntmps94;go_wp2_with fail;refine Zr 1 rfl ?_;go_wp2_with fail
   go_step3
   refine⟨rfl,?_⟩;go_wp2_with fail;refine(zej b H (by have:=X.out.il;omega) (by omega) hb32 X.pne (by have:=X.out.pl;omega) X.pr).mono ?_;rintro e Y ⟨rfl,B,A⟩;have C:=Qh B;have E:=Qh A;clear B A;go_wp2_with fail;simp only[Exit.noGoto];refine ZR rfl rfl ?_;rw[F.out];exact⟨rfl,C,E⟩
  ·have V0:(s.state == 2)=false:=(by rw[beq_eq_false_iff_ne];omega);have E1:(s.state == 5)=true:=beq_iff_eq.2 h2;clear h1 h2;go_enter func94,ntmps94;go_wp2_with fail;refine Zr 1 rfl ?_;go_wp2_with fail
   go_step3
   refine⟨rfl,?_⟩;go_wp2_with fail;refine(zej b H (by have:=X.out.il;omega) (by omega) hb32 X.pne (by have:=X.out.pl;omega) X.pr).mono ?_;rintro e Y ⟨rfl,B,A⟩;have C:=Qh B;have E:=Qh A;clear B A;go_wp2_with fail;simp only[Exit.noGoto];refine ZR rfl rfl ?_;rw[F.out];exact⟨rfl,C,E⟩
 rw[if_neg h2]at F;have V0:(s.state == 2)=false:=(by rw[beq_eq_false_iff_ne];omega);have E1:(s.state == 5)=false:=(by rw[beq_eq_false_iff_ne];omega);by_cases h3:s.state=3
 ·rw[if_pos h3]at F;have G1:(s.state == 3)=true:=beq_iff_eq.2 h3;clear h1 h2 h3;by_cases hg:64≤(b.toNat:Int)∨(48≤(b.toNat:Int)∧s.frm=1)
  ·rw[if_pos hg]at F;have hgo:decide (64≤(b.toNat:Int))=true∨(decide (64≤(b.toNat:Int))=false∧decide (48≤(b.toNat:Int))=true∧(s.frm == 1)=true):=by
    by_cases h64:64≤(b.toNat:Int)
    ·exact .inl (Qt h64)
    ·rcases hg with h | ⟨h,h'⟩
     ·exact absurd h h64
     ·exact .inr ⟨Qf h64,Qt h,beq_iff_eq.2 h'⟩
   have A0:=Qh (H.alloc (.cells #[.int .i64 0,.int .i64 7] 3));have B0:=Qh (zhc HA.gn (.cells #[.int .i64 0,.int .i64 7] 3));have a9:(w.alloc (.cells #[.int .i64 0,.int .i64 7] 3)).cell? ⟨p,9,none⟩=some (.int .i64 s.frm):=za (zI M.blk _) 9;clear hg;rcases hgo with E0 | ⟨E0,D0,T0⟩
   ·skip
    go_enter func94,ntmps94;go_wp2_with fail;refine Zr 2 rfl ?_;go_wp2_with fail
    go_step3
    refine⟨rfl,?_⟩;go_wp2_with fail;refine(zir _ _).mono ?_;rintro e Y ⟨rfl,rfl⟩;cases hf5:(s.frm == 5)
    ·have J:¬ s.frm=5:=(by rw[beq_eq_false_iff_ne]at hf5;exact hf5);rw[if_neg J]at F;clear J;go_wp2_with fail;refine(Zl 0 A0).mono ?_;rintro e Y ⟨rfl,B,A⟩;have C:=Qh (B0.trans B);have E:=Qh A;clear B A;go_wp2_with fail;simp only[Exit.noGoto];refine ZR rfl rfl ?_;rw[F.out,List.append_nil];exact⟨rfl,C,T,E⟩
    ·have J:s.frm=5:=beq_iff_eq.1 hf5;rw[if_pos J]at F;clear J;go_wp2_with fail;refine(Zl 7 A0).mono ?_;rintro e Y ⟨rfl,B,A⟩;have C:=Qh (B0.trans B);have E:=Qh A;clear B A;go_wp2_with fail;simp only[Exit.noGoto];refine ZR rfl rfl ?_;rw[F.out,List.append_nil];exact⟨rfl,C,T,E⟩
   ·skip
    go_enter func94,ntmps94;go_wp2_with fail;refine Zr 2 rfl ?_;go_wp2_with fail
    go_step3
    refine⟨rfl,?_⟩;go_wp2_with fail;refine(zir _ _).mono ?_;rintro e Y ⟨rfl,rfl⟩;cases hf5:(s.frm == 5)
    ·have J:¬ s.frm=5:=(by rw[beq_eq_false_iff_ne]at hf5;exact hf5);rw[if_neg J]at F;clear J;go_wp2_with fail;refine(Zl 0 A0).mono ?_;rintro e Y ⟨rfl,B,A⟩;have C:=Qh (B0.trans B);have E:=Qh A;clear B A;go_wp2_with fail;simp only[Exit.noGoto];refine ZR rfl rfl ?_;rw[F.out,List.append_nil];exact⟨rfl,C,T,E⟩
    ·have J:s.frm=5:=beq_iff_eq.1 hf5;rw[if_pos J]at F;clear J;go_wp2_with fail;refine(Zl 7 A0).mono ?_;rintro e Y ⟨rfl,B,A⟩;have C:=Qh (B0.trans B);have E:=Qh A;clear B A;go_wp2_with fail;simp only[Exit.noGoto];refine ZR rfl rfl ?_;rw[F.out,List.append_nil];exact⟨rfl,C,T,E⟩
  ·rw[if_neg hg]at F;have E0:decide (64≤(b.toNat:Int))=false:=Qf (fun h=>hg (.inl h));by_cases h48:48≤(b.toNat:Int)
   ·have D0:decide (48≤(b.toNat:Int))=true:=Qt h48;have T0:(s.frm == 1)=false:=Qb (fun h=>hg (.inr ⟨h48,h⟩));clear hg;go_enter func94,ntmps94;go_wp2_with fail;refine Zr 2 rfl ?_;go_wp2_with fail
    go_step3
    refine⟨rfl,?_⟩;go_wp2_with fail;simp only[Exit.noGoto];refine ZR rfl rfl ?_;rw[F.out,List.append_nil];exact⟨rfl,zh.refl _ _,T,H⟩
   ·have D0:decide (48≤(b.toNat:Int))=false:=Qf h48;clear hg;go_enter func94,ntmps94;go_wp2_with fail;refine Zr 2 rfl ?_;go_wp2_with fail
    go_step3
    refine⟨rfl,?_⟩;go_wp2_with fail;simp only[Exit.noGoto];refine ZR rfl rfl ?_;rw[F.out,List.append_nil];exact⟨rfl,zh.refl _ _,T,H⟩
 rw[if_neg h3]at F;have G1:(s.state == 3)=false:=Qb h3;by_cases h4:s.state=4∨s.state=6
 ·rw[if_pos h4]at F;have hst:(s.state == 4)=true∨((s.state == 4)=false∧(s.state == 6)=true):=by
   rcases h4 with h | h
   ·exact .inl (beq_iff_eq.2 h)
   ·exact .inr ⟨by rw[beq_eq_false_iff_ne];omega,beq_iff_eq.2 h⟩
  clear h1 h2 h3 h4;by_cases htx:s.text.length<1024
  ·rw[if_pos htx]at F;have L0:decide ((s.text.length:Int)<1024)=true:=Qt (by omega);have H0:decide (s.text.length<1024)=true:=Qt htx;rcases hst with C0 | ⟨C0,S0⟩
   ·skip
    go_enter func94,ntmps94;go_wp2_with fail;refine Zr 3 rfl ?_;go_wp2_with fail
    go_step3
    refine⟨rfl,?_⟩;go_wp2_with (at_builtin;refine zaQ ?_);unfold zaP;refine zS zay rfl rfl 0 (zG M.rt.own _) rfl (Zi _ _ _) rfl (zaw _ _) (by unfold maxLen;omega) (by omega) (by omega) ?_;intro v6 w6 o6 g6 n6;obtain⟨x6,m6,c6,rfl⟩:=zR o6;have N:=zl J0 g6 (fun e=>by have h1:=M.out.rt.tag p e.symm;have h2:=M.out.tp;omega);have C1:w6.cell? ⟨p,6,none⟩=some (.slice xt mt ct):=za N 6;have Y0:=zA N;have G0:=Qh N;have U:zp w6 0 1 (.slice x6 m6 c6) (s.text++[b]).length (zu (s.text++[b])):=by
     rw[List.length_append,ZP];exact o6
    obtain⟨T',F0,V,I,I0,R⟩:=zbO (t:=6) (.inr (.inr rfl)) rfl HA M HT M.rt (World.grownBy_alloc w _ none) g6 U n6;obtain⟨O,S⟩:=R (w6.setCell ⟨p,6,none⟩ (.slice x6 m6 c6)) { s with text:=s.text++[b] } vi vp (.slice x6 m6 c6) (zx (zo _ _) _ _) (zz G0 6 _) rfl (I 4 1 _ _ _ (by decide) M.ri) (I 5 1 _ _ _ (by decide) (M.rp rfl)) V;have C:=Qh O;have E:=Qh S;clear o6 g6 n6 U F0 V I I0 R O S N;go_wp2_with fail;simp only[Exit.noGoto];go_end0;rw[F.out,← HL.out,List.append_nil];exact⟨rfl,C,T',E⟩
   ·skip
    go_enter func94,ntmps94;go_wp2_with fail;refine Zr 3 rfl ?_;go_wp2_with fail
    go_step3
    refine⟨rfl,?_⟩;go_wp2_with (at_builtin;refine zaQ ?_);unfold zaP;refine zS zay rfl rfl 0 (zG M.rt.own _) rfl (Zi _ _ _) rfl (zaw _ _) (by unfold maxLen;omega) (by omega) (by omega) ?_;intro v6 w6 o6 g6 n6;obtain⟨x6,m6,c6,rfl⟩:=zR o6;have N:=zl J0 g6 (fun e=>by have h1:=M.out.rt.tag p e.symm;have h2:=M.out.tp;omega);have C1:w6.cell? ⟨p,6,none⟩=some (.slice xt mt ct):=za N 6;have Y0:=zA N;have G0:=Qh N;have U:zp w6 0 1 (.slice x6 m6 c6) (s.text++[b]).length (zu (s.text++[b])):=by
     rw[List.length_append,ZP];exact o6
    obtain⟨T',F0,V,I,I0,R⟩:=zbO (t:=6) (.inr (.inr rfl)) rfl HA M HT M.rt (World.grownBy_alloc w _ none) g6 U n6;obtain⟨O,S⟩:=R (w6.setCell ⟨p,6,none⟩ (.slice x6 m6 c6)) { s with text:=s.text++[b] } vi vp (.slice x6 m6 c6) (zx (zo _ _) _ _) (zz G0 6 _) rfl (I 4 1 _ _ _ (by decide) M.ri) (I 5 1 _ _ _ (by decide) (M.rp rfl)) V;have C:=Qh O;have E:=Qh S;clear o6 g6 n6 U F0 V I I0 R O S N;go_wp2_with fail;simp only[Exit.noGoto];go_end0;rw[F.out,← HL.out,List.append_nil];exact⟨rfl,C,T',E⟩
  ·rw[if_neg htx]at F;have L0:decide ((s.text.length:Int)<1024)=false:=Qf (by omega);have H0:decide (s.text.length<1024)=false:=Qf htx;rcases hst with C0 | ⟨C0,S0⟩
   ·skip
    go_enter func94,ntmps94;go_wp2_with fail;refine Zr 3 rfl ?_;go_wp2_with fail
    go_step3
    refine⟨rfl,?_⟩;go_wp2_with fail;simp only[Exit.noGoto];go_end0;rw[F.out,List.append_nil];exact⟨rfl,zh.refl _ _,T,H⟩
   ·skip
    go_enter func94,ntmps94;go_wp2_with fail;refine Zr 3 rfl ?_;go_wp2_with fail
    go_step3
    refine⟨rfl,?_⟩;go_wp2_with fail;simp only[Exit.noGoto];go_end0;rw[F.out,List.append_nil];exact⟨rfl,zh.refl _ _,T,H⟩
 rw[if_neg h4]at F;have C0:(s.state == 4)=false:=(by rw[beq_eq_false_iff_ne];omega);have S0:(s.state == 6)=false:=(by rw[beq_eq_false_iff_ne];omega);by_cases h7:s.state=7
 ·rw[if_pos h7]at F;have A1:(s.state == 7)=true:=beq_iff_eq.2 h7;clear h1 h2 h3 h4 h7;go_enter func94,ntmps94;go_wp2_with fail
  go_step3
  go_wp2_with fail;simp only[Exit.noGoto];refine ZR rfl rfl ?_;rw[F.out,List.append_nil];exact⟨rfl,zh.refl _ _,T,H⟩
 rw[if_neg h7]at F;have A1:(s.state == 7)=false:=Qb h7;clear h1 h2 h3 h4 h7;have M0:=Qh (show s.fed b=({ s with dec:=(Zv s.dec (b.toNat:Int)).1 },(Zv s.dec (b.toNat:Int)).2.map zbV) from rfl);have Z0:=zdP s.dec (b.toNat:Int);have X0:=Qh (ziK s.dec (b.toNat:Int) (by omega) (zdO b) M.dok);have U0:=Qh (ziq d s.dec (b.toNat:Int) w M.dec (by omega) (zdO b) M.dok);generalize Zv s.dec (b.toNat:Int)=D at *;obtain⟨D,l⟩:=D;dsimp only at Z0 X0 U0 M0;go_enter func94,ntmps94;go_wp2_with fail
 go_step3
 go_wp2_with fail;refine U0.mono ?_;rintro e Y ⟨v,rfl,o2,g2,d2⟩;obtain⟨B,A,O0⟩:=zfy HA M HT g2 d2 X0 o2;have C:=Qh B;have E:=Qh A;have F1:=Qh O0;clear o2 g2 d2 B A O0;go_wp2_with fail;refine(zb3 v l E F1 (by rw[List.length_map];omega)).mono ?_;rintro e w3 ⟨rfl,N0,R0⟩;have H1:=Qh (C.trans N0);have B1:=Qh R0;clear N0 R0;go_wp2_with fail;simp only[Exit.noGoto];refine ZR rfl rfl ?_;rw[F.out,M0.out,← HL.out];exact⟨rfl,H1,B1⟩
end
end Go.Proofs.YthehkmopdeebmaaGreatDoor
