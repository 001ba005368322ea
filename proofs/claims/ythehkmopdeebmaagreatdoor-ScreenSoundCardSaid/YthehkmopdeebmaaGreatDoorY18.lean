/- Part. -/
import Derived.Test.YthehkmopdeebmaaGreatDoorY14
import Derived.Test.YthehkmopdeebmaaGreatDoorY15
import Derived.Test.YthehkmopdeebmaaGreatDoorY9
set_option linter.unusedVariables false
set_option linter.unusedSimpArgs false
set_option maxRecDepth 100000
set_option maxHeartbeats 8000000
namespace Go.Proofs.YthehkmopdeebmaaGreatDoor
open _root_.Go.Proofs.Tryz
section
open Go.RowKit
attribute [local go_sem ↓] Go.wp_at_zero Go.wp_at_succ
theorem zjk (L:List (Value × Rw)) (v:Value) (w:World) (h:zp w 0 2 v L.length (zf L)) (h1:∀ u∈zf L,u.oneCell'=true) (hl:L.length≤100000) :
  Calls prog 170 #[v] w fun e w'=>∃ v',e=.returned v'∧Below w.heap.size w w'∧zp w' w.heap.size 2 v' L.length (zf L):=by
 rcases h.2 with ⟨rfl,h0⟩ | ⟨b,off,cap,rfl,_⟩
 ·have A:=List.eq_nil_of_length_eq_zero h0;subst A;refine(zi5 w).mono ?_;rintro e B ⟨rfl,b⟩;exact⟨_,rfl,b,Zy _ _ _⟩
 ·exact zef L _ _ w (zX h) h1 hl
def zhV:Value→Nat
 | .slice _ n _=>n
 | _=>0
theorem zhW (w:World) (c:Cel):zcp (w.alloc (.cells #[.int .i32 c.rune,.int .i64 c.width,.int .i64 c.sty.fg,.int .i64 c.sty.bg,.int .i64 c.sty.attr] 96)) w.heap.size 0 [c]:=fun j u hu=>by
 rw[Nat.zero_add,World.cell?_alloc_new];simpa [zt,Cel.vals] using hu
theorem zc4 {B:Nat} {w:World} {v:Value} {L:List (Value × Rw)} (h:Zj B w v L):∀ u∈zf L,u.oneCell'=true:=zcu L fun x hx=>by
 obtain⟨a,c,e⟩:=zK (h.cells x hx);exact⟨a,_,c,e⟩
theorem zkU {p:Nat} {w w2:World} (h:zh (fun k=>k=p∨(Value.slice none 0 0).ownBlock=some k∨w.heap.size≤k) w w2):w.grownBy w2 (some p) :=
 ⟨h.os,h.tape,h.output,h.size,fun k hk hne=>h.block k hk (fun e=>by
  rcases e with e | e | e
  ·exact hne (by rw[e])
  ·simp[Value.ownBlock]at e
  ·omega)⟩
theorem zbD (w:World) (g:Nat) (cs:Array Value):w.grownBy (w.setRow g cs) (some g):=by
 refine⟨rfl,rfl,rfl,?_,fun k hk hne=>?_⟩
 ·simp[World.setRow]
 ·show(w.heap.modify g _)[k]?=_;rw[Array.getElem?_modify,if_neg (fun e=>hne (by rw[e]))]
theorem zgI {T:Nat→Nat} {w:World} {L:List (Value × Rw)} (h:∀ x∈L,CAt T w x):∀ u∈zf L,u.oneCell'=true:=zey h
theorem zml {T:Nat→Nat} {p:Nat} {w:World} {g:Gr} (h:GM T p w g) (cols rows:Nat) (ax ay:Int) (c1:1≤cols) (c2:cols≤250) (r1:1≤rows) (r2:rows≤120) (hx:0≤ax∧ax≤250) (hy:0≤ay∧ay≤120) :
    Calls prog 129 #[.pointer (some ⟨p,0,none⟩),.int .i64 cols,.int .i64 rows,.agg #[.int .i64 ax,.int .i64 ay]] w fun e w' =>
      e=.returned (.agg #[.int .i64 (g.flow cols rows ax ay).2.1,.int .i64 (g.flow cols rows ax ay).2.2])∧zh (own T w) w w'∧∃ T',GM T' p w' (g.flow cols rows ax ay).1∧∀ k,T' k≠0→own T w k:=by
  have Mc:∀ (fn:Fn) (first cap:Array Value) (w:World),(Instr.makeFunc fn first cap).run prog w=.ok (.func fn first cap) w:=fun _ _ _ _=>rfl
  obtain⟨vr,vo,Lr,Lo,h0⟩:=h
  obtain⟨V6,X⟩:=Zg h0
  have wf:=h0.wf
  have H9:Lr.length≤120:=by have:=wf.r2;omega
  have N9:Lo.length≤2000:=by have:=wf.ol;have:=wf.li;omega
  have U7:1≤Lr.length:=by have:=wf.r1;omega
  have Rc:=zq h0.blk
  have N3:Below w.heap.size w ((w.alloc (.cells #[.int .i64 ax,.int .i64 ay] 139)).alloc (.cells #[.int .i64 0,.int .i64 0] 139)):=Below.alloc (Below.alloc (Below.refl w.heap.size w) (Nat.le_refl _) _) (by simp) _
  have R2:=Qh (zI (zH w (.cells #[.int .i64 ax,.int .i64 ay] 139)) (.cells #[.int .i64 0,.int .i64 0] 139))
  have B3:=Qh (zbJ w (.cells #[.int .i64 ax,.int .i64 ay] 139) (.cells #[.int .i64 0,.int .i64 0] 139))
  have F0:=Qh h0
  have B0:=Qh (h0.mod (.of_below N3) id id id (fun _=>id))
  have I1:=Qh N3
  have Eb:((w.alloc (.cells #[.int .i64 ax,.int .i64 ay] 139)).alloc (.cells #[.int .i64 0,.int .i64 0] 139)).heap.size=w.heap.size+2:=by simp
  have S2:=Qh (show ∀ x∈Lo++Lr,x.2.Good g.cols from fun x hx=>by
    refine wf.ce x.2 ?_
    rcases List.mem_append.1 hx with hx | hx
    · exact List.mem_append_right _ (by rw[← h0.eo];exact List.mem_map_of_mem hx)
    · exact List.mem_append_left _ (by rw[← h0.er];exact List.mem_map_of_mem hx))
  have Oa:=wf.c2
  have Zb:=Qh V6
  have M9:=Qh X
  clear h0 wf N3 V6 X
  go_enter func129,ntmps129
  go_upto_region 1 with fail
  generalize (w.alloc (.cells #[.int .i64 ax,.int .i64 ay] 139)).alloc (.cells #[.int .i64 0,.int .i64 0] 139)=wa at *
  obtain⟨c0,O9,E5,c3⟩:=zY B0
  have C9:=Zf underlying112 B0.rr.own
  have La:=Zf underlying112 B0.ro.own
  go_region_held3 (fun w'=>w'.cell? ⟨p,2,none⟩=some vr∧w'.cell? ⟨p,3,none⟩=some vo) (go_keep)
    (first
      | (go_at_call 170
         refine(zjk Lo vo wa.drew B0.ro.own (zgI (fun x hx=>B0.ca x (List.mem_append_right _ hx))) (by omega)).mono ?_
         rintro e w3 ⟨v3,rfl,b3,o3⟩
         have z2:w3.cell? ⟨p,2,none⟩=some vr:=zc b3 E5
         have z3:w3.cell? ⟨p,3,none⟩=some vo:=zc b3 c3
         have J1:=Qh (show Below wa.heap.size wa w3 from(Below.refl wa.heap.size wa).drew.trans b3)
         have E0:=Qh (show zp w3 wa.heap.size 2 v3 Lo.length (zf Lo) from o3)
         clear b3 o3)
      | (apply zap zaH
         case hgd=>rfl
         case ho=>rfl
         case hown=>exact E0
         case hs=>rfl
         case hr=>exact Z4 underlying112 (zX (zk B0.rr.own J1)) (zgI (fun x hx=>B0.ca x (List.mem_append_left _ hx)))
         case hx=>rfl
         case h63=>unfold maxLen;omega
         case hbytes=>omega
         case hbase=>exact J1.size
         intro v4 w4 o4 g4 n4
         have y2:w4.cell? ⟨p,2,none⟩=some vr:=zn g4 z2 (fun e=>by have h1:=(zg E0 _ e).1;have h2:=I1.out.size;omega)
         have y3:w4.cell? ⟨p,3,none⟩=some vo:=zn g4 z3 (fun e=>by have h1:=(zg E0 _ e).1;have h2:=I1.out.size;omega)
         have X0:=Qh (J1.trans (Zn g4 J1.size (fun q hq=>(zg E0 q hq).1)))
         rw[← zO]at o4
         have H4:=Qh o4
         clear o4 g4 n4))
  have B2:(Lo++Lr).length=Lo.length+Lr.length:=List.length_append
  obtain⟨ab,I,ac,rfl,Mb,Ta⟩:=zE H4 (by omega)
  have R8:=Qh (show(Lo++Lr).map (·.2)=g.old++g.rows by rw[List.map_append,F0.out.er,F0.out.eo])
  have A7:=Qh (show ∀ x∈Lo++Lr,CAt T w x from fun x hx=>by
    rcases List.mem_append.1 hx with hx | hx
    · exact F0.ca x (List.mem_append_right _ hx)
    · exact F0.ca x (List.mem_append_left _ hx))
  have B4:=Qh (show zp w4 wa.heap.size 2 (.slice (some ⟨ab,I,none⟩) (Lo.length+Lr.length) ac) (Lo++Lr).length (zf (Lo++Lr)) by rw[B2];exact H4)
  have Gc:Lo.length+Lr.length≤2120:=by omega
  have Bb:1≤Lo.length+Lr.length:=by omega
  have L5:=Qh (I1.trans (X0.mono I1.size))
  have B6:=X0.out.size
  have J3:=zr R2 X0 (by omega)
  have F6:=zr B3 X0 (by omega)
  have I5:=zr B0.blk X0 (by omega)
  have x1:w4.cell? ⟨w.heap.size,1,none⟩=some (.int .i64 ay):=za J3 1
  have Y4:IntKind.i64.wrap ((Lo.length:Int)+ay)=(Lo.length:Int)+ay:=zd _ (by omega) (by omega)
  have Z5:=Qh J3
  have T7:=Qh F6
  have X6:=Qh I5
  clear J3 F6 I5 J1 E0 H4 C9
  go_upto_region 2 with fail
  go_region_held3 (fun w'=>w'.cell? ⟨p,3,none⟩=some vo∧w'.cell? ⟨w.heap.size,1,none⟩=some (.int .i64 ay)) (go_keep) (fail)
  clear z2 z3 y2 y3 c0 O9 E5 c3 x1 Y4
  go_upto_region 6 with fail
  have Ma:((w4.alloc (.cells #[.int .i64 0,.int .i64 0] 139)).drew).heap.size=w4.heap.size+1:=by show(w4.alloc _).heap.size=_;simp
  have T0:=Qh (show Below w4.heap.size w4 ((w4.alloc (.cells #[.int .i64 0,.int .i64 0] 139)).drew) from(Below.alloc (Below.refl w4.heap.size w4) (Nat.le_refl _) _).drew)
  have X8:=Qh (show((w4.alloc (.cells #[.int .i64 0,.int .i64 0] 139)).drew).heap[w4.heap.size]?=some (.cells #[.int .i64 0,.int .i64 0] 139 (0,0)) from zH w4 _)
  generalize (w4.alloc (.cells #[.int .i64 0,.int .i64 0] 139)).drew=w5 at *
  have Da:=Qh (zr X6 T0 (by omega))
  have O6:=Qh (zr Z5 T0 (by omega))
  have D6:=Qh (zr T7 T0 (by omega))
  have Y2:=Qh (zk B4 T0)
  have T2:=Qh (L5.trans (T0.mono (by omega)))
  have A6:ab<w5.heap.size∧ab≠w4.heap.size∧wa.heap.size≤ab:=by
    have:=zg B4 ab rfl
    omega
  clear X6 Z5 T7 B4 L5 X0 T0 B0 I1 R2 B3
  have O8:=Qh (show((Lo.length:Int)+ay)=(g.old.length:Int)+ay by rw[M9.out])
  generalize V8:w4.heap.size=pb at *
  have I6:pb<w5.heap.size:=by omega
  have Tc:w.heap.size+2≤pb:=by omega
  clear V8 B6
  generalize D7:(Lo.length:Int)+ay=place at *
  have Db:0≤place∧place≤3000:=by omega
  clear D7
  generalize A9:Lo++Lr=A at *
  generalize V9:Lo.length+Lr.length=N at *
  clear V9 A9 La H9 N9 U7
  obtain⟨F,hF⟩:∃ F,Z8 cols place ax (A.map (·.2)) 0 [] (-1) ⟨[],0,0⟩=F:=⟨_,rfl⟩
  have HF:=Qh hF
  clear hF
  go_loopw [11,13] (fun vO iv wr=>∃ (k:Nat) (L:List (Value × Rw)) (st:Fl),k≤N∧iv=.int .i64 k∧Hid (FlS w5 pb wr vO L st)∧Hid (Z8 cols place ax ((A.map (·.2)).drop k) k [] (-1) st=F)∧Hid (FlI cols st∧st.out.length≤251*k)) (fun _ iv _=>N-(intOf iv).toNat)
  case atStart=>exact⟨0,[],⟨[],0,0⟩,Nat.zero_le _,rfl,⟨zo _ _,X8,Zj.nil _ _,rfl⟩,HF,⟨by simp,Int.le_refl 0,Int.le_refl 0⟩,Nat.zero_le _⟩
  case round =>
    obtain⟨k,L,st,hk,rfl,HS,HR,HI⟩:=hrel
    obtain⟨ws,rfl⟩:∃ ws,ws=wr:=⟨wr,rfl⟩
    by_cases hlt:k<N
    ·
      have d1:decide ((k:Int)<(N:Int))=true:=Qt (by omega)
      have I9:decide (k<N)=true:=Qt hlt
      have F5:=HS.out.gb.size
      go_upto_region 11 with fail
      go_loopw [13,14,15] (fun iv vl mv wi=>∃ (j:Nat) (B:List Cel) (A0:Int),(k≤j∧j<N)∧iv=.int .i64 j∧mv=.int .i64 A0∧Hid (Below ws.heap.size ws wi)∧Hid (zp wi ws.heap.size 5 vl B.length (zt B)) ∧
        Hid (Z8 cols place ax ((A.map (·.2)).drop j) j B A0 st=F)∧Hid ((∀ c∈B,c.Ok)∧st.out.length+B.length≤251*j∧-1≤A0)) (fun iv _ _ _=>N-(intOf iv).toNat)
      case atStart=>exact⟨k,[],-1,⟨Nat.le_refl _,hlt⟩,rfl,rfl,Below.refl _ _,Zy _ _ _,HR,by simp,by have:=HI.out.2;simp;omega,by omega⟩
      case round =>
        obtain⟨j,B,A0,⟨Jb,hj⟩,rfl,rfl,HB,HO,Z6,L1⟩:=hrel
        obtain⟨wi,rfl⟩:∃ wi,wi=wr:=⟨wr,rfl⟩
        have G0:j<A.length:=by omega
        have Hb:=HB.out.size
        have D9:=Qh (zk (zi Y2 HS.gb (fun q hq e=>A6.2.1 (by injection e with e;injection hq with hq;exact hq.trans e.symm))) HB)
        have E4:=D9.out
        rw[B2]at E4
        obtain⟨q0,q1⟩:=zaJ E4 j G0
        have L7:=Zw (P:=prog) (size:=2) underlying112 zC ab I N ac j hj
        have U0:=Qh (zk (zi (zk (A7 A[j] (List.getElem_mem G0)).own (T2)) HS.gb (fun q hq e=>by have:=(zg (A7 A[j] (List.getElem_mem G0)).own q hq).2;injection e with e;omega)) HB)
        have O1:=Qh (S2 A[j] (List.getElem_mem G0))
        have V5:=Qh (show(A.map (·.2)).drop j=A[j].2::(A.map (·.2)).drop (j+1) by
          rw[← List.getElem_map (f:=fun x:Value × Rw=>x.2) (h:=by simpa using G0)]
          exact List.drop_eq_getElem_cons (by simpa using G0))
        have D4:=Qh (show ∀ w2:World,zp w2 0 2 (.slice (some ⟨ab,I,none⟩) N ac) A.length (zf A)→w2.cell? ⟨ab,I+j*2+1,none⟩=some (.bool A[j].2.wrap) from fun w2 h2=>by
          rw[B2]at h2
          exact(zaJ h2 j G0).2)
        clear E4
        generalize A[j]=x at *
        obtain⟨xv,xr⟩:=x
        have D4:=Qh (show ∀ w2:World,zp w2 0 2 (.slice (some ⟨ab,I,none⟩) N ac) A.length (zf A)→w2.cell? ⟨ab,I+j*2+1,none⟩=some (.bool xr.wrap) from D4.out)
        dsimp only at q0 q1
        have U0:=Qh (show zp wi 0 5 xv xr.cells.length (zt xr.cells) from U0.out)
        have O1:=Qh (show xr.cells.length=g.cols∧∀ c∈xr.cells,c.Ok from O1.out)
        obtain⟨xa,xc,rfl⟩:=zK U0
        have Lb:xr.cells.length≤250:=by have h1:xr.cells.length=g.cols:=O1.out.1;omega
        have Vb:B.length≤600000:=by have:=L1.out.2.1;omega
        obtain⟨la,lc,rfl⟩:=zK HO
        have Ga:=Zf underlying56 HO
        have x0:wi.cell? ⟨w.heap.size,0,none⟩=some (.int .i64 ax):=zc HB (zn HS.gb (za O6 0) (fun e=>by injection e with e;omega))
        have Y4:IntKind.i64.wrap ((B.length:Int)+ax)=(B.length:Int)+ax:=zd _ (by omega) (by omega)
        go_upto_region 11 with fail
        go_cut [47] (fun vv Z=>(∃ f,vv=.bool f∧Hid (f=decide ((j:Int)=place)))∧Z=wi)
        case first =>
          go_wp2_with fail
          go_meet
          refine⟨⟨_,rfl,?_⟩,rfl⟩
          show _=_
          rw[zmb]
        case rest =>
        obtain⟨⟨f,rfl,I0⟩,rfl⟩:=hcut
        obtain⟨wi,rfl⟩:∃ wi,wi=wc:=⟨wc,rfl⟩
        go_upto_if 47 with fail
        go_cut [15] (fun mv Z=>(∃ mark2:Int,mv=.int .i64 mark2∧Hid (mark2=if (j:Int)=place then (B.length:Int)+ax else A0))∧Z=wi)
        case first =>
          cases f
          · have H8:=Qh (show ¬ (j:Int)=place from of_decide_eq_false I0.out.symm)
            go_wp2_with fail
            go_meet
            exact⟨⟨A0,rfl,by show _=_;rw[if_neg H8.out]⟩,rfl⟩
          · have HE:=Qh (show(j:Int)=place from of_decide_eq_true I0.out.symm)
            go_wp2_with fail
            go_meet
            exact⟨⟨_,rfl,by show _=_;rw[if_pos HE.out]⟩,rfl⟩
        case rest =>
        obtain⟨⟨mark2,rfl,U4⟩,rfl⟩:=hcut
        obtain⟨wi,rfl⟩:∃ wi,wi=wc:=⟨wc,rfl⟩
        clear I0 x0 Y4
        go_wp2_with (at_builtin;refine zaQ ?_)
        unfold zaP
        refine zS zab rfl rfl ws.heap.size HO rfl (zX U0) rfl (zbw _) (by unfold maxLen;omega) (by omega) (by omega) ?_
        intro v7 w7 o7 g7 n7
        obtain⟨a7,c7,rfl⟩:=zK o7
        have A5:w7.cell? ⟨ab,I+j*2+1,none⟩=some (.bool xr.wrap):=zn g7 q1 (fun e=>by have:=(zg HO _ e).1;omega)
        have J5:=Qh (HB.trans (Zn g7 HB.size (fun q hq=>(zg HO q hq).1)))
        have J2:=Qh (show zp w7 ws.heap.size 5 (.slice a7 (B.length+xr.cells.length) c7) (B++xr.cells).length (zt (B++xr.cells)) by rw[zbX,List.length_append];exact o7)
        have H3:(B++xr.cells).length=B.length+xr.cells.length:=List.length_append
        have C0:=Qh (show(∀ c∈B++xr.cells,c.Ok)∧st.out.length+(B++xr.cells).length+1≤251*(j+1)∧-1≤mark2 from⟨fun c hc=>by
            rcases List.mem_append.1 hc with hc | hc
            · exact L1.1 c hc
            · exact O1.2 c hc,by have:=L1.out.2.1;omega,by
            have h1:=U4.out
            have h2:=L1.out.2.2
            rw[h1]
            split
            · omega
            · exact h2⟩)
        have O3:=Qh (show(if xr.wrap=false∨(A.map (·.2)).drop (j+1)=[] then Z8 cols place ax ((A.map (·.2)).drop (j+1)) (j+1) [] (-1) (zaD cols (B++xr.cells) mark2 xr.wrap st) else Z8 cols place ax ((A.map (·.2)).drop (j+1)) (j+1) (B++xr.cells) mark2 st)=F by
          have h1:=Z6.out
          rw[V5.out]at h1
          have h2:=U4.out
          subst h2
          exact h1)
        have T4:=Qh (show(A.map (·.2)).drop (j+1)=[]↔j+1=N by
          rw[List.drop_eq_nil_iff,List.length_map,B2];omega)
        clear o7 g7 n7 HO Z6 L1 V5 U4 Ga q0
        generalize B++xr.cells=D at *
        have Ia:IntKind.i64.wrap ((N:Int)-1)=(N:Int)-1:=zd _ (by omega) (by omega)
        go_upto_region 14 with fail
        generalize B.length+xr.cells.length=ln at *
        subst H3
        go_cut [72] (fun vv Z=>(∃ f,vv=.bool f∧Hid (f=(!xr.wrap || decide (j+1=N))))∧Z=w7)
        case first =>
          cases hwr:xr.wrap
          · rw[hwr]at A5
            go_wp2_with fail
            go_meet
            exact⟨⟨_,rfl,by show _=_;rw[hwr];rfl⟩,rfl⟩
          · rw[hwr]at A5
            go_wp2_with fail
            go_meet
            refine⟨⟨_,rfl,?_⟩,rfl⟩
            show _=_
            rw[zmb,hwr,Bool.eq_iff_iff]
            simp;omega
        case rest =>
        obtain⟨⟨f,rfl,I0⟩,rfl⟩:=hcut
        obtain⟨w7,rfl⟩:∃ w7,w7=wc:=⟨wc,rfl⟩
        clear A5 Ia
        have G9:IntKind.i64.wrap ((j:Int)+1)=(j:Int)+1:=zd _ (by omega) (by omega)
        cases f
        · have hc:=I0.out
          have V4:xr.wrap=true∧¬ j+1=N:=by
            cases hwr:xr.wrap
            · rw[hwr]at hc;simp at hc
            · rw[hwr]at hc;simp at hc;exact⟨rfl,hc⟩
          have Ha:j+1<N:=by omega
          have R4:=Qh (show Z8 cols place ax ((A.map (·.2)).drop (j+1)) (j+1) D mark2 st=F by
            have h1:=O3.out
            rw[if_neg (fun e=>by
              rcases e with e | e
              · rw[V4.1]at e;cases e
              · exact V4.2 (T4.out.1 e))]at h1
            exact h1)
          clear hc V4
          go_wp2_with fail
          go_roundw
          case rel=>exact⟨j+1,D,mark2,⟨by omega,Ha⟩,by go_num,rfl,J5,J2,R4,C0.1,by have:=C0.out.2.1;omega,C0.2.2⟩
          case measure=>simp[intOf];omega
        · have R4:=Qh (show Z8 cols place ax ((A.map (·.2)).drop (j+1)) (j+1) [] (-1) (zaD cols D mark2 xr.wrap st)=F by
            have h1:=O3.out
            have hc:=I0.out
            rw[if_pos (by
              cases hwr:xr.wrap
              · exact .inl rfl
              · rw[hwr]at hc
                simp at hc
                exact .inr (T4.out.2 hc))]at h1
            exact h1)
          clear O3 I0 T4 G9
          go_upto_block 4 with fail
          go_cut [14] (fun vl Z=>∃ l3:List Cel,Hid (l3=zau D mark2)∧Hid (zp Z ws.heap.size 5 vl l3.length (zt l3))∧Hid (Below ws.heap.size ws Z))
          case first =>
            go_upto_region 15 with fail
            go_loopw [14] (fun vl G=>∃ l2:List Cel,Hid (zp G ws.heap.size 5 vl l2.length (zt l2))∧Hid (Below ws.heap.size ws G)∧Hid (zau l2 mark2=zau D mark2∧l2.length≤D.length)) (fun vl _=>zhV vl)
            case atStart=>exact⟨D,J2,J5,rfl,Nat.le_refl _⟩
            case round =>
              obtain⟨l2,S0,E,HT⟩:=hrel
              obtain⟨G,rfl⟩:∃ G,G=wr:=⟨wr,rfl⟩
              obtain⟨a2,O5,rfl⟩:=zK S0
              have Cb:l2.length≤600000:=by have:=HT.out.2;have:=C0.out.2.1;omega
              have Oc:IntKind.i64.wrap ((l2.length:Int)-1)=(l2.length:Int)-1:=zd _ (by omega) (by omega)
              by_cases hm:mark2<(l2.length:Int)-1
              · have d2:decide (mark2<(l2.length:Int)-1)=true:=Qt hm
                have O0:0<l2.length:=by have:=C0.out.2.2;omega
                have d3:decide (0<(l2.length:Int))=true:=Qt (by omega)
                have Ic:decide (0<l2.length)=true:=Qt O0
                obtain⟨b,V,c,e2,G3,O4⟩:=zE S0 O0
                simp only[Value.slice.injEq]at e2
                obtain⟨rfl,_,rfl⟩:=e2
                have H1:((l2.length-1:Nat):Int)=(l2.length:Int)-1:=by omega
                have L6:=Zw (P:=prog) (size:=5) underlying56 zT b V l2.length O5 (l2.length-1) (by omega)
                rw[H1]at L6
                obtain⟨q0,q1,q2,q3,q4⟩:=zbL S0 (l2.length-1) (by omega) rfl
                have T1:=zcX (P:=prog) (size:=5) underlying56 zT (some ⟨b,V,none⟩) l2.length O5 (l2.length-1) (by omega)
                rw[H1]at T1
                have Y:=Qh (zgq l2 mark2)
                have H2:=Qh (zek S0 (l2.length-1) (by omega))
                generalize l2.getD (l2.length-1) noC=cc at *
                obtain⟨cr,cw,⟨cf,cb,ca⟩⟩:=cc
                dsimp only at q0 q1 q2 q3 q4
                go_wp2_with fail
                refine(zfa [⟨cr,cw,⟨cf,cb,ca⟩⟩] G.heap.size 0 1 _ (zhW G ⟨cr,cw,⟨cf,cb,ca⟩⟩) (by simp)).mono ?_
                rintro e w8 ⟨rfl,b8⟩
                have U:=Qh (show Below G.heap.size G w8 from(Below.alloc (Below.refl G.heap.size G) (Nat.le_refl _) _).trans (b8.mono (by simp)))
                have U2:[(⟨cr,cw,⟨cf,cb,ca⟩⟩:Cel)].all ZI=ZI ⟨cr,cw,⟨cf,cb,ca⟩⟩:=by simp
                clear b8 q0 q1 q2 q3 q4
                generalize R1:[(⟨cr,cw,⟨cf,cb,ca⟩⟩:Cel)].all ZI=bb at *
                have C3:=Qh U2
                clear U2 R1
                cases bb
                · go_wp2_with fail
                  go_meet
                  refine⟨l2,?_,zk S0 U,E.trans (U.mono E.size)⟩
                  show _=_
                  rw[← HT.out.1,Y.out,if_neg (fun e=>by rw[← C3.out]at e;exact absurd e.2.2 (by decide))]
                · go_wp2_with fail
                  go_roundw
                  case rel =>
                    refine⟨l2.take (l2.length-1),?_,E.trans (U.mono E.size),?_,?_⟩
                    · rw[List.length_take,Nat.min_eq_left (by omega),← zbc]
                      exact zk H2 U
                    · rw[← HT.out.1,Y.out,if_pos ⟨hm,fun e=>by rw[e]at O0;exact absurd O0 (by decide),C3.out.symm⟩]
                    · rw[List.length_take];have:=HT.out.2;omega
                  case measure=>(show l2.length-1<l2.length;omega)
              · have d2:decide (mark2<(l2.length:Int)-1)=false:=Qf hm
                have Y:=Qh (zgq l2 mark2)
                go_wp2_with fail
                go_meet
                refine⟨l2,?_,S0,E⟩
                show _=_
                rw[← HT.out.1,Y.out,if_neg (fun e=>by have:=e.1;omega)]
          case rest =>
          obtain⟨l3,G2,Y9,U⟩:=hcut
          obtain⟨w8,rfl⟩:∃ w8,w8=wc:=⟨wc,rfl⟩
          have F8:=Qh (HS.below U)
          have Yb:=U.out.size
          have Uc:l3.length≤D.length:=by
            have h1:=G2.out
            have h2:=zg8 D mark2
            rw[← h1]at h2
            exact h2
          have Nb:st.out.length≤600000:=by have:=HI.out.2;omega
          have Za:l3.length≤600000:=by have:=C0.out.2.1;omega
          obtain⟨oa,oc,rfl⟩:=zK HS.ro.own
          have C1:L.length=st.out.length:=by rw[← HS.out.er,List.length_map]
          have B9:=Qh C1
          have E9:L.length≤600000:=by omega
          have T9:=Qh (zH w8 (.cells #[.int .i64 L.length] 3))
          have X5:=Qh (Below.alloc (Below.refl w8.heap.size w8) (Nat.le_refl _) (.cells #[.int .i64 L.length] 3))
          have Na:(w8.alloc (.cells #[.int .i64 L.length] 3)).heap.size=w8.heap.size+1:=by simp
          clear C1
          go_upto_region 18 with fail
          generalize w8.alloc (.cells #[.int .i64 L.length] 3)=w9 at *
          have H0:=Qh (F8.below X5)
          have M5:=Qh H0.pk
          have C6:=Qh (zk Y9 X5)
          go_wp2_with fail
          refine(zkM l3 cols mark2 _ w9 w8.heap.size pb st.out.length st.px st.py (zP C6 (Nat.zero_le _)) (fun e=>by have:=(zg C6 _ e).1;omega) (by rw[← B9.out];exact za T9 0) (by omega) M5 c1 c2 (by omega) (by omega)).mono ?_
          rintro e A8 ⟨v2,L2,rfl,F3,V2,T3,I7⟩
          have Z3:L2.length=(Z2 l3 cols mark2).done.length+1:=by rw[← zg9 cols,← T3,List.length_map]
          have B5:L2.length≤600001:=by
            have h1:=(ziY l3 cols mark2 (fun c hc=>C0.1 c (by rw[G2.out]at hc;exact ze7 hc)) c1).2
            omega
          obtain⟨D2,x2,rfl⟩:∃ D2 x2,L2=D2++[x2]:=by
            rcases List.eq_nil_or_concat L2 with h1 | ⟨D2,x2,h1⟩
            · rw[h1]at Z3;simp at Z3
            · exact⟨D2,x2,by rw[h1,List.concat_eq_append]⟩
          obtain⟨U1,I2⟩:=x2
          have Y0:=Qh F3
          have D0:=Qh V2
          have G5:=Qh T3
          have M7:=Qh I7
          have F1:(D2++[(U1,I2)]).length=D2.length+1:=by simp
          have Ya:=F3.size
          clear F3 V2 T3 I7 Z3
          rw[F1]at B5
          obtain⟨s2,T8,rfl⟩:=zK D0.own
          have I3:=Qh (zi H0.ro.own Y0 (fun q hq e=>by have:=(zg H0.ro.own q hq).1;injection e with e;omega))
          have Fc:=H0.out.gb.size
          have J8:=Qh (show zaB A8 2 (.slice s2 (D2.length+1) T8) (D2.length+1) (zf (D2++[(U1,I2)])) by have h1:=zX D0.own;rw[F1]at h1;exact h1)
          go_wp2_with (at_builtin;refine zaQ ?_)
          unfold zaP
          refine zS zaH rfl rfl w5.heap.size I3 rfl J8 rfl (zc4 D0) (by unfold maxLen;omega) (by omega) (by omega) ?_
          intro Dc B8 N2 Y3 S5
          obtain⟨ob,oo,R9,rfl,G3,O4⟩:=zE N2 (by omega)
          have E1:=Zs (Zc H0.gb Y0) Y3 (fun q hq=>(zg H0.ro.own q hq).1)
          have Xc:=D4.out B8 (zP (zi Y2 E1 (fun q hq e=>A6.2.1 (by injection e with e;injection hq with hq;exact hq.trans e.symm))) (Nat.zero_le _))
          obtain⟨t1,t2⟩:=zae N2 ((L.length+D2.length)*2+1) (by omega)
          rw[List.getElem?_eq_getElem (by rw[List.length_append,zL,zL,F1];omega)]at t1
          rw[← Nat.add_assoc]at t1 t2
          generalize (zf L++zf (D2++[(U1,I2)]))[(L.length+D2.length)*2+1]'(by rw[List.length_append,zL,zL,F1];omega)=tv at t1
          have Xa:=Zw (P:=prog) (size:=2) underlying112 zC ob oo (L.length+(D2.length+1)) R9 (L.length+D2.length) (by omega)
          have Va:=Zw (P:=prog) (size:=2) underlying112 zC ab I N ac j hj
          have M8:((L.length+(D2.length+1):Nat):Int)-1=((L.length+D2.length:Nat):Int):=by omega
          have X4:IntKind.i64.wrap (((L.length+(D2.length+1):Nat):Int)-1)=((L.length+D2.length:Nat):Int):=by rw[zd _ (by omega) (by omega)];omega
          have E6:IntKind.i64.wrap ((j:Int)+1)=(j:Int)+1:=zd _ (by omega) (by omega)
          have N6:=Qh (H0.line I6 Y0 D0 cols D mark2 (by rw[← G2.out];exact G5) (by rw[← G2.out];exact M7) (by rw[F1];exact N2) Y3 S5 xr.wrap)
          have H5:(L++D2).length=L.length+D2.length:=List.length_append
          rw[H5]at N6
          have T6:=Qh (zkD HI.1 D mark2 xr.wrap C0.1 c1)
          clear Y3 S5 N2 E1
          go_wp2_with fail
          go_roundw
          case rel =>
            refine⟨j+1,L++D2++[(U1,⟨I2.cells,xr.wrap⟩)],zaD cols D mark2 xr.wrap st,by omega,by go_num,N6,R4,T6.1,?_⟩
            have h1:=T6.out.2.1
            have h2:=C0.out.2.1
            omega
          case measure=>simp[intOf];omega
    · have Rb:=Qh (show k=N by omega)
      have d1:decide ((k:Int)<(N:Int))=false:=Qf (by omega)
      have I9:decide (k<N)=false:=Qf (by omega)
      have R5:=Qh (show st=F by
        have h1:=HR.out
        rw[List.drop_eq_nil_iff.2 (by rw[List.length_map];omega)]at h1
        exact h1)
      clear hlt
      have M3:=R5.out
      subst M3
      have N0:=Qh (zow (place:=place) (atx:=ax) c1 g.cols (A.map (·.2)) (fun r hr=>by
        obtain⟨x,S8,rfl⟩:=List.mem_map.1 hr
        exact S2 x S8) 0 [] (-1) ⟨[],0,0⟩ ⟨by simp,Int.le_refl 0,Int.le_refl 0⟩ (by simp))
      rw[HF.out]at N0
      have U9:st.py<(st.out.length:Int):=N0.out.2 (fun e=>by
        have h1:=congrArg List.length e
        rw[List.length_map,List.length_nil]at h1
        omega)
      have Ra:=N0.out.1.p0
      have C1:L.length=st.out.length:=by rw[← HS.out.er,List.length_map]
      have E9:L.length≤600000:=by have:=HI.out.2;omega
      have F5:=HS.out.gb.size
      clear HR R5
      go_upto_block 6 with fail
      go_cut [11] (fun vl Z=>∃ m:Nat,Hid (m≤L.length∧st.py<(m:Int))∧Hid (zbs st.out.length st.out st.py=st.out.take m)∧Hid (Zj w5.heap.size Z vl (L.take m))∧Hid (Below ws.heap.size ws Z))
      case first =>
        go_upto_region 20 with fail
        go_loopw [11] (fun vl G=>∃ m:Nat,Hid (m≤L.length∧st.py<(m:Int))∧Hid (zbs (st.out.take m).length (st.out.take m) st.py=zbs st.out.length st.out st.py)∧Hid (Zj w5.heap.size G vl (L.take m))∧Hid (Below ws.heap.size ws G)) (fun vl _=>zhV vl)
        case atStart=>exact⟨L.length,⟨Nat.le_refl _,by rw[C1];exact U9⟩,by show _=_;rw[C1,List.take_length],by rw[List.take_length];exact HS.ro,Below.refl _ _⟩
        case round =>
          obtain⟨m,HM,HT,H,E⟩:=hrel
          obtain⟨G,rfl⟩:∃ G,G=wr:=⟨wr,rfl⟩
          have Ja:=HM.out.1
          have L9:=HM.out.2
          have J0:(L.take m).length=m:=by rw[List.length_take];omega
          have hown:=H.out.own
          rw[J0]at hown
          obtain⟨b,V,c,rfl,G3,O4⟩:=zE hown (by omega)
          have L3:=E.out.size
          have y1:G.cell? ⟨pb,1,none⟩=some (.int .i64 st.py):=zc E (za HS.pk 1)
          have X4:IntKind.i64.wrap ((m:Int)-1)=(m:Int)-1:=zd _ (by omega) (by omega)
          have X:(st.out.take m).length=m:=by rw[List.length_take];omega
          have Y:=Qh (zjZ (st.out.take m) st.py)
          rw[X]at Y
          by_cases hm:st.py<(m:Int)-1
          · have d2:decide (st.py<(m:Int)-1)=true:=Qt hm
            have C7:m-1<L.length:=by omega
            have H1:((m-1:Nat):Int)=(m:Int)-1:=by omega
            obtain⟨q0,q1⟩:=zaJ hown (m-1) (by rw[J0];omega)
            have I4:(L.take m)[m-1]'(by rw[J0];omega)=L[m-1]:=by rw[List.getElem_take]
            rw[I4]at q0 q1
            have L7:=Zw (P:=prog) (size:=2) underlying112 zC b V m c (m-1) (by omega)
            rw[H1]at L7
            have T1:=zcX (P:=prog) (size:=2) underlying112 zC (some ⟨b,V,none⟩) m c (m-1) (by omega)
            rw[H1]at T1
            have Y5:L[m-1]∈L.take m:=by rw[← I4];exact List.getElem_mem _
            have V7:=Qh (H.cells _ Y5)
            have U0:Hid (st.out.getD (m-1) noR=L[m-1].2):=by
              show _=_
              rw[← HS.out.er,List.getD_eq_getElem?_getD,List.getElem?_map,List.getElem?_eq_getElem C7];rfl
            have A2:Hid ((st.out.take m).getD (m-1) noR=L[m-1].2):=by
              show _=_
              rw[← U0.out,List.getD_eq_getElem?_getD,List.getElem?_take,if_pos (by omega),← List.getD_eq_getElem?_getD]
            have D8:=Qh (show L[m-1].2.Good cols from HI.out.1.good _ (by rw[← HS.out.er];exact List.mem_map_of_mem (List.getElem_mem C7)))
            have H2:=Qh (H.pre J0 (m-1) (by omega))
            rw[List.take_take,Nat.min_eq_left (by omega)]at H2
            clear hown Y5 I4
            generalize L[m-1]=x at *
            obtain⟨xv,xr⟩:=x
            dsimp only at q0 q1
            have X2:=Qh (show zp G w5.heap.size 5 xv xr.cells.length (zt xr.cells) from V7.out)
            have O2:=Qh (show xr.cells.length=cols from D8.out.1)
            obtain⟨xb,xo,xc,rfl,_,_⟩:=zE X2 (by rw[O2.out];exact c1)
            have A1:xr.cells.length≤1000000:=by have h1:xr.cells.length=cols:=O2.out;omega
            cases hwr:xr.wrap
            · rw[hwr]at q1
              go_wp2_with fail
              refine(zfa xr.cells xb xo xc G (zhM X2) A1).mono ?_
              rintro e w8 ⟨rfl,b8⟩
              have U:=Qh b8
              clear b8 q0 q1
              generalize R1:xr.cells.all ZI=bb at *
              have R6:=Qh R1
              clear R1
              cases bb
              · go_wp2_with fail
                go_meet
                refine⟨m,HM,?_,H.below U,E.trans (U.mono L3)⟩
                show _=_
                rw[← HT.out,X,Y.out,if_neg (fun e=>by
                  have h4:=e.2.2.2
                  rw[A2.out]at h4
                  have h5:xr.cells.all ZI=true:=h4
                  rw[R6.out]at h5
                  cases h5)]
              · go_wp2_with fail
                go_roundw
                case rel =>
                  refine⟨m-1,⟨by omega,by omega⟩,?_,H2.below U,E.trans (U.mono L3)⟩
                  show _=_
                  rw[← HT.out,X,Y.out,if_pos ⟨hm,fun e=>by rw[e]at X;simp at X;omega,by rw[A2.out];exact hwr,by rw[A2.out];exact R6.out⟩,List.take_take,Nat.min_eq_left (by omega)]
                case measure=>(show m-1<m;omega)
            · rw[hwr]at q1
              go_wp2_with fail
              go_meet
              refine⟨m,HM,?_,H,E⟩
              show _=_
              rw[← HT.out,X,Y.out,if_neg (fun e=>by
                have h4:=e.2.2.1
                rw[A2.out]at h4
                have h5:xr.wrap=false:=h4
                rw[hwr]at h5
                cases h5)]
          · have d2:decide (st.py<(m:Int)-1)=false:=Qf hm
            go_wp2_with fail
            go_meet
            refine⟨m,HM,?_,H,E⟩
            show _=_
            rw[← HT.out,X,Y.out,if_neg (fun e=>by have:=e.1;omega)]
      case rest =>
      obtain⟨m,HM,C8,H,E⟩:=hcut
      obtain⟨G,rfl⟩:∃ G,G=wc:=⟨wc,rfl⟩
      have Ja:=HM.out.1
      have L9:=HM.out.2
      have J0:(L.take m).length=m:=by rw[List.length_take];omega
      have hown:=H.out.own
      rw[J0]at hown
      obtain⟨b,V,c,rfl,G3,O4⟩:=zE hown (by omega)
      have X1:=Qh hown
      have L3:=E.out.size
      have X3:=Qh (zaA HS.gb E F5)
      have y0:G.cell? ⟨pb,0,none⟩=some (.int .i64 st.px):=zc E (za HS.pk 0)
      have y1:G.cell? ⟨pb,1,none⟩=some (.int .i64 st.py):=zc E (za HS.pk 1)
      have U3:=Qh (zl Da X3 (fun e=>by injection e with e;omega))
      have Ea:=Qh (zl D6 X3 (fun e=>by injection e with e;omega))
      have X4:IntKind.i64.wrap ((m:Int)-(rows:Int))=(m:Int)-(rows:Int):=zd _ (by omega) (by omega)
      clear hown
      go_upto_region 23 with fail
      obtain⟨f,hf⟩:∃ f:Nat,min (max 0 ((m:Int)-(rows:Int))) st.py=(f:Int):=⟨(min (max 0 ((m:Int)-(rows:Int))) st.py).toNat,by omega⟩
      have Z7:=Qh hf
      rw[hf]
      have Ec:f<m:=by omega
      have Fb:(f:Int)≤st.py:=by omega
      clear hf
      have c3:G.cell? ⟨p,3,none⟩=some vo:=za U3 3
      have f3:G.frozen? ⟨p,3,none⟩=false:=zA U3 3
      have J7:=Qh (show G.grownBy (G.setCell ⟨p,3,none⟩ (.slice none 0 0)) (some p) from zx (zo _ _) _ _)
      have C5:=Qh (zz U3 3 (.slice none 0 0))
      have T1:=zcX (P:=prog) (size:=2) underlying112 zC (some ⟨b,V,none⟩) m c f (by omega)
      have Sa:(G.setCell ⟨p,3,none⟩ (.slice none 0 0)).heap.size=G.heap.size:=by simp
      have Gb:w5.heap.size≤b:=(zg X1 b rfl).1
      clear y0 y1 X4
      go_upto_region 24 with fail
      have B7:=Qh (show(G.setCell ⟨p,3,none⟩ (.slice none 0 0)).heap[p]?=some (.cells #[.int .i64 g.cols,.int .i64 g.limit,vr,.slice none 0 0] 114 (0,0)) from C5.out)
      clear C5 c3 f3
      generalize G.setCell ⟨p,3,none⟩ (.slice none 0 0)=wu at *
      have M6:=Qh (zi X1 J7 (fun q hq e=>by injection e with e;have:=(zg X1 q hq).1;omega))
      have A3:=Qh (zc4 H)
      have Aa:(L.take f).length=f:=by rw[List.length_take];omega
      have I8:=Qh (show zaB wu 2 (.slice (some ⟨b,V,none⟩) f c) (L.take f).length (zf (L.take f)) by
        have h1:=zX (zek M6 f (by omega))
        rw[Zm,List.take_take,Nat.min_eq_left (by omega)]at h1
        rw[Aa];exact h1)
      have Yc:g.limit≤2000:=F0.out.wf.li
      go_wp2_with fail
      refine(ziP p g.cols g.limit vr (.slice none 0 0) _ ([]:List (Value × Rw)) (L.take f) wu B7 (Zy _ _ _) (by simp[Value.ownBlock]) I8 (by simp[zf]) (fun u hu=>A3 u (by
        have h1:L.take f=(L.take m).take f:=by rw[List.take_take,Nat.min_eq_left (by omega)]
        rw[h1,← Zm]at hu
        exact List.mem_of_mem_take hu)) (by simp) (by omega) (by omega)).mono ?_
      rintro e wv ⟨rfl,hW,vo2,T5,A4,hn3⟩
      rw[List.nil_append]at A4
      have C4:=Qh (zkU hW)
      have S4:=Qh T5
      have E0:=Qh A4
      have F4:=Qh (show ∀ k,vo2.ownBlock=some k→wu.heap.size≤k from fun k hk=>by
        rcases hn3 k hk with e | e
        · simp[Value.ownBlock]at e
        · exact e)
      clear hW T5 A4 hn3
      have I3:=Qh (zi M6 C4 (fun q hq e=>by injection e with e;have:=(zg X1 q hq).1;omega))
      have Ca:=C4.out.size
      have E6:IntKind.i64.wrap ((f:Int)+(rows:Int))=(f:Int)+(rows:Int):=zd _ (by omega) (by omega)
      obtain⟨e9,Ub⟩:∃ e9:Nat,min (m:Int) ((f:Int)+(rows:Int))=(e9:Int):=⟨min m (f+rows),by omega⟩
      have X7:f<e9:=by omega
      have Fa:e9≤m:=by omega
      have Sc:e9≤f+rows:=by omega
      have HE9:=Qh (show e9=m∨e9=f+rows by omega)
      obtain⟨a9,J6,H6⟩:=zeY (P:=prog) (size:=2) underlying112 zC b V m c f e9 (by omega) (by omega)
      have S9:=H6 X7
      subst S9
      clear H6
      have S7:=Qh (zcR I3 f e9 (c-f) ⟨b,V+f*2,none⟩ (fun _=>rfl) (by omega) Fa)
      obtain⟨d,hd⟩:∃ d,e9-f=d:=⟨_,rfl⟩
      have Z1:(((L.take m).drop f).take d).length=d:=by rw[List.length_take,List.length_drop,J0];omega
      have V3:=Qh (zef (((L.take m).drop f).take d) ⟨b,V+f*2,none⟩ (c-f) wv (by
        have h1:=S7.out
        rw[ZA,Zm,hd]at h1
        rw[Z1]
        exact h1) (fun u hu=>A3 u (by
          rw[← Zm,← ZA]at hu
          exact List.mem_of_mem_drop (List.mem_of_mem_take hu))) (by rw[Z1];omega))
      rw[Z1]at V3
      rw[hd]at J6
      have HD:=Qh hd
      clear hd
      have k3:wv.cell? ⟨p,3,none⟩=some vo2:=za S4 3
      go_wp2_with fail
      refine V3.mono ?_
      rintro e Z ⟨Ib,rfl,bx,ox⟩
      obtain⟨J,O,rfl⟩:=zK ox
      have L8:=Qh bx
      have U5:=Qh ox
      have S1:=zr S4 bx (zq S4)
      have j2:Z.cell? ⟨p,2,none⟩=some vr:=za S1 2
      have g2:Z.frozen? ⟨p,2,none⟩=false:=zA S1 2
      have Y6:=Qh S1
      have Sb:=bx.size
      clear bx ox S1 k3 E6 V3 S7
      go_upto_region 26 with fail
      have U6:=Qh (show Z.grownBy (Z.setCell ⟨p,2,none⟩ (.slice J d O)) (some p) from zx (zo _ _) _ _)
      have E3:=Qh (show(Z.setCell ⟨p,2,none⟩ (.slice J d O)).heap[p]?=some (.cells #[.int .i64 g.cols,.int .i64 g.limit,.slice J d O,vo2] 114 (0,0)) from zz Y6 2 _)
      have Hc:(Z.setCell ⟨p,2,none⟩ (.slice J d O)).heap.size=Z.heap.size:=by simp
      clear j2 g2 Y6
      generalize Z.setCell ⟨p,2,none⟩ (.slice J d O)=wy at *
      have F2:=Qh (zi U5 U6 (fun q hq e=>by have:=(zg U5 q hq).1;injection e with e;omega))
      have Jc:d≤rows:=by have:=HD.out;omega
      obtain⟨rn,O7⟩:∃ rn:Nat,rn+d=rows:=⟨rows-d,by omega⟩
      have N5:=Qh O7
      have Ob:IntKind.i64.wrap ((rows:Int)-(d:Int))=(rn:Int):=by rw[zd _ (by omega) (by omega)];omega
      have Vc:rn≤120:=by omega
      have Nc:d≤120:=by omega
      have Tb:p<wv.heap.size:=by omega
      have Ac:wv.heap.size≤wy.heap.size:=by omega
      clear O7
      generalize G7:((L.take m).drop f).take d=M at *
      have X9:=Qh G7
      clear G7
      go_cut [] (fun wz=>∃ (v9:Value) (L4:List (Value × Rw)),Hid (wv.grownBy wz (some p))∧Hid (wz.heap[p]?=some (.cells #[.int .i64 g.cols,.int .i64 g.limit,v9,vo2] 114 (0,0)))∧Hid (zp wz wv.heap.size 2 v9 (d+L4.length) (zf (M++L4))) ∧
        Hid (L4.map (·.2)=zW rn cols plainS)∧Hid ((∀ x∈L4,zp wz wy.heap.size 5 x.1 x.2.cells.length (zt x.2.cells)∧∃ q,x.1.ownBlock=some q∧v9.ownBlock≠some q)∧(L4.map (·.1.ownBlock)).Nodup))
      case first =>
        have k2:wy.cell? ⟨p,2,none⟩=some (.slice J d O):=za E3 2
        have g2:wy.frozen? ⟨p,2,none⟩=false:=zA E3 2
        have Ad:=Zf underlying112 F2
        refine zJ (c:=18) (S:=(fun bb w'=>True∧(bb=false→w'.cell? ⟨p,2,none⟩=some (.slice J d O)))) (by kernel_rfl) (⟨trivial,fun _=>k2⟩) (fun _=>?_)
        refine zb false 0 (⟨trivial,fun _=>k2⟩) ?_
        refine zb false 1 (⟨trivial,fun _=>k2⟩) ?_
        refine zb false 2 (⟨trivial,fun _=>k2⟩) ?_
        refine zb false 3 (⟨trivial,fun _=>k2⟩) ?_
        refine Zh 4 (⟨trivial,fun _=>k2⟩) ?_
        refine zb false 5 (⟨trivial,fun _=>k2⟩) ?_
        refine zb false 6 (⟨trivial,fun _=>k2⟩) ?_
        refine zb false 7 (⟨trivial,fun _=>k2⟩) ?_
        refine zb false 8 (⟨trivial,fun _=>k2⟩) ?_
        refine Zh 9 (⟨trivial,fun _=>k2⟩) ?_
        refine zb false 10 (⟨trivial,fun _=>k2⟩) ?_
        refine zb false 11 (⟨trivial,fun _=>k2⟩) ?_
        refine zb false 12 (⟨trivial,fun _=>k2⟩) ?_
        refine zj false 13 fun K hK=>?_
        refine ze rfl ?_
        go_wp2_with fail
        refine(ZW wy.drew).mono ?_
        rintro e wp ⟨rfl,bp⟩
        have S3:wp.cell? ⟨p,2,none⟩=some (.slice J d O):=zc bp k2
        have D3:=Qh (show Below wy.heap.size wy wp from(Below.refl wy.heap.size wy).drew.trans bp)
        refine hK.out _ _ (⟨trivial,fun _=>S3⟩) (fun _=>?_)
        clear hK K bp
        try simp only[Act.put,List.setIfInBounds_toArray,List.set_cons_zero,List.set_cons_succ]
        refine zj false 14 fun K hK=>?_
        refine ze rfl ?_
        go_wp2_with fail
        refine(zcF rn cols plainS wp (by omega) (by omega)).mono ?_
        rintro e wq ⟨v4,L4,rfl,b4,e4,r4⟩
        have V1:wq.cell? ⟨p,2,none⟩=some (.slice J d O):=zc b4 S3
        have R0:=Qh (D3.trans (b4.mono D3.size))
        have F7:L4.length=rn:=by
          have h1:=congrArg List.length e4
          unfold zW at h1
          rw[List.length_map,List.length_replicate]at h1
          exact h1
        have R7:=Qh F7
        have F9:=Qh (show wy.heap.size≤wp.heap.size from D3.out.size)
        have N4:=Qh e4
        have D1:=Qh r4
        refine hK.out _ _ (⟨trivial,fun _=>V1⟩) (fun _=>?_)
        clear hK K b4 e4 r4 F7
        try simp only[Act.put,List.setIfInBounds_toArray,List.set_cons_zero,List.set_cons_succ]
        refine zj false 15 fun K hK=>?_
        apply zap zaH
        case hgd=>rfl
        case ho=>rfl
        case hown=>exact zk F2 R0
        case hs=>rfl
        case hr=>exact Z4 underlying112 (zX D1.own) (zc4 D1)
        case hx=>rfl
        case h63=>(have:=R7.out;unfold maxLen;omega)
        case hbytes=>(have:=R7.out;omega)
        case hbase=>(have:=R0.out.size;omega)
        intro v7 w7 o7 g7 n7
        obtain⟨a7,c7,rfl⟩:=zK o7
        have M0:(Value.slice J d O).ownBlock≠some p:=fun e=>by have:=(zg F2 _ e).1;omega
        have N1:w7.cell? ⟨p,2,none⟩=some (.slice J d O):=zn g7 V1 M0
        have E8:w7.frozen? ⟨p,2,none⟩=false:=ZS g7 (Z9 R0 k2 g2) (zaO V1) M0
        have J2:=Qh o7
        have M4:=Qh g7
        have HN7:=Qh n7
        have E7:=Qh M0
        refine hK.out _ _ (⟨trivial,fun _=>N1⟩) (fun _=>?_)
        clear hK K o7 g7 n7 M0
        try simp only[Act.put,List.setIfInBounds_toArray,List.set_cons_zero,List.set_cons_succ]
        refine zb false 16 (⟨trivial,fun _=>N1⟩) ?_
        refine zb false 17 (⟨trivial,fun _=>N1⟩) ?_
        refine zj true 18 fun K hK=>?_
        refine ze rfl ?_
        go_wp2_with fail
        refine hK.out _ _ (⟨trivial,fun e=>by cases e⟩) (fun _=>?_)
        clear hK K
        try simp only[Act.put]
        refine zD (by kernel_rfl) ?_ _
        have Y1:∀ k,(Value.slice J d O).ownBlock=some k→wv.heap.size≤k∧k<wy.heap.size:=fun k hk=>zg F2 k hk
        have hv9:∀ k,(Value.slice a7 (d+L4.length) c7).ownBlock=some k→(wv.heap.size≤k∧k<wy.heap.size)∨wq.heap.size≤k:=fun k hk=>by
          rcases HN7.out k hk with e | e
          · exact .inl (Y1 k e)
          · exact .inr e
        have Lc:=R0.out.size
        have Y7:=F9.out
        have g8:w7.grownBy (w7.setCell ⟨p,2,none⟩ (.slice a7 (d+L4.length) c7)) (some p):=zx (zo _ _) _ _
        have G4:=Qh (show wv.grownBy (w7.setCell ⟨p,2,none⟩ (.slice a7 (d+L4.length) c7)) (some p) from
          Zc (Zs (Zc (Zc (zcn (some p) L8) U6) (zcn (some p) R0)) M4 (fun q hq=>(Y1 q hq).1)) g8)
        have M1:=Qh (show(w7.setCell ⟨p,2,none⟩ (.slice a7 (d+L4.length) c7)).heap[p]?=some (.cells #[.int .i64 g.cols,.int .i64 g.limit,.slice a7 (d+L4.length) c7,vo2] 114 (0,0)) from
          zz (zl (zr E3 R0 (by omega)) M4 (fun e=>E7 e.symm)) 2 _)
        have V0:=Qh (show zp (w7.setCell ⟨p,2,none⟩ (.slice a7 (d+L4.length) c7)) wv.heap.size 2 (.slice a7 (d+L4.length) c7) (d+L4.length) (zf (M++L4)) by
          rw[zO]
          exact zi J2 g8 (fun k hk e=>by
            injection e with e
            rcases hv9 k hk with e2 | e2
            · omega
            · omega))
        have M2:=Qh (show(∀ x∈L4,zp (w7.setCell ⟨p,2,none⟩ (.slice a7 (d+L4.length) c7)) wy.heap.size 5 x.1 x.2.cells.length (zt x.2.cells)∧∃ q,x.1.ownBlock=some q∧(Value.slice a7 (d+L4.length) c7).ownBlock≠some q)∧(L4.map (·.1.ownBlock)).Nodup from⟨fun x hx=>by
            have hc:=D1.out.cells x hx
            have A1:=zg hc
            refine⟨zP (zi (zi hc M4 (fun k hk e=>?_)) g8 (fun k hk e=>?_)) Y7,?_⟩
            · have h1:=(A1 k hk).1
              have h2:=(Y1 k e).2
              omega
            · have h1:=(A1 k hk).1
              injection e with e
              omega
            · obtain⟨q,h1,_⟩:=D1.out.ap x hx
              refine⟨q,h1,fun e=>?_⟩
              have h3:=A1 q h1
              rcases hv9 q e with e2 | e2
              · omega
              · omega,D1.nd⟩)
        clear Y1 hv9 g8 k2 S3 V1 N1 E8 g2
        go_wp2_with fail
        go_meet
        exact⟨_,L4,G4,M1,V0,N4,M2⟩
      case rest =>
        obtain⟨v9,L4,G4,M1,V0,N4,M2⟩:=hcut
        obtain⟨wz,rfl⟩:∃ wz,wz=wc:=⟨wc,rfl⟩
        have j0:wz.cell? ⟨p,0,none⟩=some (.int .i64 g.cols):=za M1 0
        have g0:wz.frozen? ⟨p,0,none⟩=false:=zA M1 0
        have D5:(wz.setCell ⟨p,0,none⟩ (.int .i64 cols)).heap[p]?=some (.cells #[.int .i64 cols,.int .i64 g.limit,v9,vo2] 114 (0,0)):=zz M1 0 _
        have Z0:=Qh (zx G4 0 (.int .i64 cols))
        have G6:=Qh (show wz.grownBy (wz.setCell ⟨p,0,none⟩ (.int .i64 cols)) (some p) from zx (zo _ _) _ _)
        have J9:=Qh D5
        have Ua:(wz.setCell ⟨p,0,none⟩ (.int .i64 cols)).heap.size=wz.heap.size:=by simp
        clear D5
        go_upto_region 28 with fail
        generalize wz.setCell ⟨p,0,none⟩ (.int .i64 cols)=wf at *
        clear j0 g0
        have G1:=Qh (Zc (Zc J7 C4) Z0)
        have H7:p≠pb:=by omega
        have y0:wf.cell? ⟨pb,0,none⟩=some (.int .i64 st.px):=zn G1 (zc E (za HS.pk 0)) (fun e=>H7 (by injection e))
        have y1:wf.cell? ⟨pb,1,none⟩=some (.int .i64 st.py):=zn G1 (zc E (za HS.pk 1)) (fun e=>H7 (by injection e))
        have Ab:st.py≤600000:=by omega
        have Cc:IntKind.i64.wrap (st.py-(f:Int))=st.py-(f:Int):=zd _ (by omega) (by omega)
        have J4:=zl Ea G1 (fun e=>by injection e with e;omega)
        have M3:=run_storeVar_row (P:=prog) wf (w.heap.size+1) 139 139 _ #[.int .i64 st.px,.int .i64 (st.py-(f:Int))] J4 (by kernel_rfl) rfl (by simp[Value.oneCell'])
        have S6:=Zz (cells:=#[.int .i64 st.px,.int .i64 (st.py-(f:Int))]) J4
        have E2:=Qh (zbD wf (w.heap.size+1) #[.int .i64 st.px,.int .i64 (st.py-(f:Int))])
        clear J4
        have B1:=Qh (show g.flow cols rows ax ay=(⟨cols,g.limit,((st.out.take m).drop f).take rows++zW (rows-(((st.out.take m).drop f).take rows).length) cols plainS,zaC g.limit ((st.out.take m).take f)⟩,st.px,st.py-(f:Int)) by
          have h1:Z8 cols ((g.old.length:Int)+ay) ax (g.old++g.rows) 0 [] (-1) ⟨[],0,0⟩=st:=by rw[← O8.out,← R8.out];exact HF
          have h2:(st.out.take m).length=m:=by rw[List.length_take];omega
          unfold Gr.flow
          simp only[h1,C8.out,h2,Z7.out,Int.toNat_natCast])
        have N8:(st.out.take m).length=m:=by rw[List.length_take];omega
        have G8:(((st.out.take m).drop f).take rows).length=d∧((st.out.take m).drop f).take rows=((st.out.take m).drop f).take d:=by
          have h1:((st.out.take m).drop f).length=m-f:=by rw[List.length_drop,N8]
          have h2:=HD.out
          have h3:=N5.out
          generalize (st.out.take m).drop f=R at h1 ⊢
          rcases HE9.out with e | e
          · have:d=m-f:=by omega
            refine⟨by rw[List.length_take,h1];omega,?_⟩
            rw[List.take_of_length_le (by rw[h1];omega),List.take_of_length_le (by rw[h1];omega)]
          · have:d=rows:=by omega
            rw[this]
            exact⟨by rw[List.length_take,h1];omega,rfl⟩
        have N7:=Qh G8
        have R3:=Qh (show ∃ T',GM T' p (wf.setRow (w.heap.size+1) #[.int .i64 st.px,.int .i64 (st.py-(f:Int))]) (g.flow cols rows ax ay).1∧∀ k,T' k≠0→own T w k by
          rw[B1.out]
          have L0:∀ {base size n:Nat} {v:Value} {xs:List Value},zp wf base size v n xs→(∀ k,v.ownBlock=some k→w.heap.size+2≤k)→zp (wf.setRow (w.heap.size+1) #[.int .i64 st.px,.int .i64 (st.py-(f:Int))]) 0 size v n xs:=fun h1 h2 =>
            zP (zi h1 E2 (fun k hk e=>by injection e with e;have:=h2 k hk;omega)) (Nat.zero_le _)
          have Xb:wv.heap.size≤wf.heap.size:=Z0.out.size
          have Bc:=E2.out.size
          have Y8:(L.take m).take f=L.take f:=by rw[List.take_take,Nat.min_eq_left (by omega)]
          refine zi4 (L:=L.take m) (L4:=L4) (f:=f) (d:=d) (C:=wu.heap.size) (C2:=wv.heap.size) (out:=st.out.take m) (v9:=v9) (vo2:=vo2) F0 (by omega) Ca (by omega) ?_ (fun x hx=>?_) H.nd ?_ (fun k hk=>⟨F4 k hk,(zg E0 k hk).2⟩) ?_ (fun k hk=>(zg V0 k hk).1) (fun x hx=>?_) M2.2 (by rw[List.map_take,HS.out.er]) (by rw[N7.out.1];have h3:=N5.out;rw[show rows-d=rn by omega];exact N4) N7.2 ?_
          · exact zl J9 E2 (fun e=>by injection e with e;omega)
          · obtain⟨q,h1,h2⟩:=H.out.ap x hx
            have h3:=zg (H.cells x hx) q h1
            refine⟨L0 (zi (H.cells x hx) G1 (fun k hk e=>?_)) (fun k hk=>?_),q,h1,by omega,by omega⟩
            · have h4:=(zg (H.cells x hx) k hk).1
              injection e with e
              omega
            · have h4:=(zg (H.cells x hx) k hk).1
              omega
          · rw[Y8]
            refine L0 (zi E0 Z0 (fun k hk e=>?_)) (fun k hk=>?_)
            · have h4:=F4.out k hk
              injection e with e
              omega
            · have h4:=F4.out k hk
              omega
          · rw[X9.out]
            have h5:(M++L4).length=d+L4.length:=by rw[List.length_append,Z1]
            rw[h5]
            refine L0 (zi V0 G6 (fun k hk e=>?_)) (fun k hk=>?_)
            · have h4:=(zg V0 k hk).1
              injection e with e
              omega
            · have h4:=(zg V0 k hk).1
              omega
          · obtain⟨h6,q,h7,h8⟩:=M2.out.1 x hx
            refine⟨L0 (zi h6 G6 (fun k hk e=>?_)) (fun k hk=>?_),q,h7,?_,h8⟩
            · have h4:=(zg h6 k hk).1
              injection e with e
              omega
            · have h4:=(zg h6 k hk).1
              omega
            · have h4:=(zg h6 q h7).1
              omega
          · exact zox F0.wf cols rows (st.out.take m) f c1 c2 r1 r2 (fun r hr=>N0.1.good r (List.mem_of_mem_take hr)))
        have Ba:=Qh (show zh (own T w) w (wf.setRow (w.heap.size+1) #[.int .i64 st.px,.int .i64 (st.py-(f:Int))]) from by
          have U8:own T w p:=.inl (by rw[F0.out.tp];decide)
          exact(((zh.of_below T2).trans (zh.of_gb X3 (fun k hk=>by injection hk with hk;subst hk;exact .inr (by omega)))).trans (zh.of_gb G1 (fun k hk=>by injection hk with hk;subst hk;exact U8))).trans
            (zh.of_gb E2 (fun k hk=>by injection hk with hk;subst hk;exact .inr (by omega))))
        go_wp2_with (refine zF rfl _ _ _ rfl M3 rfl rfl ?_)
        (try simp only[Exit.inBlock,Exit.then])
        exact zbz rfl rfl rfl S6 underlying139 rfl (by kernel_rfl) ⟨by rw[B1.out],Ba,R3⟩
end
section
open Go.RowKit
def zkV (p d:Nat):Nat→Nat:=fun k=>if k=p then 1 else if k=d then 2 else 0
theorem zmm (p d:Nat) (w:World) (hp:w.heap[p]?=some (.cells (s0.cells d .nilFunc Z0 Z0 Z0) 153 (0,0))) (hd:zcs w d dec0) (hne:d≠p):zcJ (zkV p d) p w s0:=by
 refine⟨fun k hk=>?_,zj7,d,Z0,Z0,Z0,⟨hp,hd,zhv,zbG _ _ _ _,fun _=>zbG _ _ _ _,zbG _ _ _ _,by simp[zkV],by simp[zkV,hne]⟩⟩;unfold zkV at hk;by_cases h1:k=p
 ·subst h1;exact zq hp
 ·by_cases h2:k=d
  ·subst h2;exact zq hd
  ·simp[h1,h2]at hk
theorem zoI (w:World) :
  Calls prog 91 #[] w fun e w'=>e=.returned (.pointer (some ⟨w.heap.size+1,0,none⟩))∧w'=(w.alloc (.cells dec0.cells 210)).alloc (.cells (s0.cells w.heap.size .nilFunc Z0 Z0 Z0) 153):=by
 go_enter func91,ntmps91;go_wp2_with fail;refine(zde _).mono ?_;rintro e A ⟨rfl,rfl⟩;go_wp2_with fail;go_ret;exact⟨rfl,rfl⟩
theorem znG (w:World) :
  Calls prog 91 #[] w fun e w'=>∃ p T,e=.returned (.pointer (some ⟨p,0,none⟩))∧Below w.heap.size w w'∧zcJ T p w' s0∧∀ k,T k≠0→w.heap.size≤k:=by
 refine(zoI w).mono ?_;rintro e w' ⟨rfl,rfl⟩;refine⟨w.heap.size+1,zkV (w.heap.size+1) w.heap.size,rfl,((Below.refl _ _).alloc (Nat.le_refl _) _).alloc (by simp) _,zmm _ _ _ ?_ ?_ (by omega),fun k hk=>?_⟩
 ·have:=heap_alloc_new (w.alloc (.cells dec0.cells 210)) (.cells (s0.cells w.heap.size .nilFunc Z0 Z0 Z0) 153);rw[show(w.alloc (.cells dec0.cells 210)).heap.size=w.heap.size+1 by simp]at this;exact this
 ·exact zI (heap_alloc_new w (.cells dec0.cells 210)) _
 ·unfold zkV at hk;by_cases h1:k=w.heap.size+1
  ·omega
  ·by_cases h2:k=w.heap.size
   ·omega
   ·simp[h1,h2]at hk
end
section
open Go.RowKit
def zan (c d:Int):List Int :=
 if c<0 then [39+d] else if c<8 then [30+d+c] else if c<16 then [82+d+c] else if c<256 then [38+d,5,c] else [38+d,2,c / 65536 % 256,c / 256 % 256,c % 256]
theorem zhX {c:Int} (h:ZB c=true):(-1≤c∧c≤255)∨(16777216≤c∧c<33554432):=by
 unfold ZB at h;simpa using h
end
section
open Go.RowKit
def zfN:List (Nat × Int):=[(0,1),(1,2),(2,3),(3,4),(4,5),(5,7),(6,8),(7,9)]
def znH (f t:Int):List Int:=(zfN.filter fun kc=>zhR (ZD t f) ((2 ^ kc.1:Nat):Int) != 0).map (·.2)
def zep (f t:Sty):Sty:=if ZD f.attr t.attr≠0 then plainS else f
def zhi (f t:Sty):List Int :=
 (if ZD f.attr t.attr≠0 then [0] else [])++znH (zep f t).attr t.attr++(if t.fg≠(zep f t).fg then zan t.fg 0 else [])++(if t.bg≠(zep f t).bg then zan t.bg 10 else [])
theorem zkW (p:Sty) {kc:Nat × Int} (h:kc∈zfN):zaS p kc.2={ p with attr:=bOr p.attr ((2 ^ kc.1:Nat):Int) }∧0≤kc.2∧kc.2≤9:=by
 unfold zfN at h;simp only[List.mem_cons,List.not_mem_nil,or_false]at h;rcases h with h | h | h | h | h | h | h | h <;> subst h <;> exact⟨rfl,by decide,by decide⟩
theorem znI {s:Sty} (h:okS s=true):∃ a:Nat,s.attr=a∧a<256∧ZB s.fg=true∧ZB s.bg=true:=by
 unfold okS at h;simp only[Bool.and_eq_true,decide_eq_true_eq]at h;exact⟨s.attr.toNat,by omega,by omega,h.1,h.2.1⟩
end
end Go.Proofs.YthehkmopdeebmaaGreatDoor
