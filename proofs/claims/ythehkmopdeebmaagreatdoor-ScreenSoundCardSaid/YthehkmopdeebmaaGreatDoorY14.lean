/- Walks of package grid: split. -/
import Derived.Test.YthehkmopdeebmaaGreatDoorY12
set_option linter.unusedVariables false
set_option linter.unusedSimpArgs false
set_option maxRecDepth 100000
set_option maxHeartbeats 8000000
namespace Go.Proofs.YthehkmopdeebmaaGreatDoor
open _root_.Go.Proofs.Tryz
open Go.RowKit
attribute [local go_sem ↓] Go.wp_at_zero Go.wp_at_succ
theorem zja (w:World):zck w.heap.size (w.heap.size+1) ((w.alloc (.cells #[.slice none 0 0,.bool false] 144)).alloc (.cells #[.slice (some ⟨w.heap.size,0,none⟩) 1 1] 112)) (.slice (some ⟨w.heap.size,0,none⟩) 1 1) [] (.slice none 0 0) [] noR:=by
 have A:=zI (zH w (.cells #[.slice none 0 0,.bool false] 144)) (.cells #[.slice (some ⟨w.heap.size,0,none⟩) 1 1] 112);have B:=zbJ w (.cells #[.slice none 0 0,.bool false] 144) (.cells #[.slice (some ⟨w.heap.size,0,none⟩) 1 1] 112);refine⟨B,⟨rfl,.inr ⟨w.heap.size,0,1,rfl,Nat.le_refl _,by simp;omega,Nat.le_refl _,by decide,fun j hj=>?_,fun j u hu=>?_⟩⟩,?_,rfl,fun x hx=>by simp at hx,Zy _ _ _,by simp,fun x hx=>by simp at hx,fun q hq=>by simp[Value.ownBlock]at hq⟩
 ·rw[Nat.zero_add];refine⟨?_,zA A j⟩;rw[za A j];have:j=0∨j=1:=(by omega);rcases this with rfl | rfl <;> rfl
 ·rw[Nat.zero_add,za A j];have e:zf ([]++[(Value.slice none 0 0,noR)])=[.slice none 0 0,.bool false]:=rfl;rw[e]at hu;simpa using hu
 ·simp[Value.ownBlock]
theorem zfH (w:World):Calls prog 179 #[plainS.val] w fun e w'=>e=.returned (.agg #[.int .i32 32,.int .i64 1,.int .i64 (-1),.int .i64 (-1),.int .i64 0])∧Below w.heap.size w w':=zdE plainS w
theorem zcG (w:World) (a b c d e:Value) (T:TypeId):zaB (w.alloc (.cells #[a,b,c,d,e] T)) 5 (.slice (some ⟨w.heap.size,0,none⟩) 1 1) 1 [a,b,c,d,e]:=by
 refine .inr ⟨⟨w.heap.size,0,none⟩,1,rfl,rfl,fun j u hu=>?_⟩;rw[zbb,Nat.zero_add,World.cell?_alloc_new];simpa using hu
theorem zel (a b c d e:Int):∀ u∈[Value.int .i32 a,.int .i64 b,.int .i64 c,.int .i64 d,.int .i64 e],u.oneCell'=true:=zcZ ⟨a,b,⟨c,d,e⟩⟩
theorem zjb (w:World) (v:Value) (b:Bool) (T:TypeId) (n:Nat) (hn:w.heap.size=n):zaB (w.alloc (.cells #[v,.bool b] T)) 2 (.slice (some ⟨n,0,none⟩) 1 1) 1 [v,.bool b]:=hn ▸ ze4 w v b T
theorem SpS.push {w:World} {pb:Nat} {px py was:Int} {wr w2 w3:World} {v lv lv':Value} {D:List (Value × Rw)} {done:List Rw} {r:Rw} {told:Option (Int × Int)} (h:SpS w pb px py was wr v D lv done r told) (hpb:pb<w.heap.size) {b off c:Nat} (hv:v=.slice (some ⟨b,off,none⟩) (D.length+1) c) (bl:Below wr.heap.size wr w2) {x:Cel}
  (o3:zp w3 (w.heap.size+1+1) 5 lv' (r.cells.length+1) (zt r.cells++x.vals)) (g:w2.grownBy w3 lv.ownBlock) (hn:∀ k,lv'.ownBlock=some k→lv.ownBlock=some k∨w2.heap.size≤k) :
  SpS w pb px py was (w3.setCell ⟨b,off+D.length*2,none⟩ lv') v D lv' done ⟨r.cells++[x],r.wrap⟩ told:=by
 have B:v.ownBlock=some b:=(by rw[hv];rfl);have C:=zg h.sp.own b B;have A:∀ q,lv.ownBlock=some q→w.heap.size+1+1≤q:=fun q hq=>(zg h.sp.last q hq).1;exact⟨zb8 (Zs (zaA h.gb bl h.gb.size) g (fun q hq=>by have:=A q hq;omega)) C.1 _ _,
  Zp (zl (zr h.pk bl (zq h.pk)) g (fun e=>by have:=A pb e.symm;omega)) (by omega) _ _,h.sp.push hv bl o3 g hn⟩
def zjc (wr:World) (o:Nat):Nat:=match wr.cell? ⟨o,0,none⟩ with
 | some (.slice (some a) n _)=>(match wr.cell? ⟨a.block,a.off+(n-1)*2,none⟩ with
  | some (.slice _ m _)=>m
  | _=>0)
 | _=>0
theorem zgD {B o:Nat} {w:World} {v lv:Value} {D:List (Value × Rw)} {done:List Rw} {r:Rw} (h:zck B o w v D lv done r):zjc w o=r.cells.length:=by
 obtain⟨b,A,c,rfl,_,_,C,_,E,_,_,_,_,_,_⟩:=h.cellsx;obtain⟨a,m,rfl⟩:=zK h.last;unfold zjc;rw[C];simp only[Nat.add_sub_cancel];rw[E]
theorem zmb (a b:Int):(a == b)=decide (a=b):=by
 rw[Bool.eq_iff_iff];simp
theorem zkM (l:List Cel) (cols:Nat) (mark:Int) (lv:Value) (w:World) (wb pb was:Nat) (px py:Int) (hl:zp w 0 5 lv l.length (zt l)) (hlp:lv.ownBlock≠some pb) (hwb:w.cell? ⟨wb,0,none⟩=some (.int .i64 was)) (hwp:wb≠pb)
    (hp:w.heap[pb]?=some (.cells #[.int .i64 px,.int .i64 py] 139 (0,0))) (hc1:1≤cols) (hc2:cols≤250) (hn:l.length≤10000000) (hwas:was≤100000000) :
    Calls prog 172 #[lv,.int .i64 cols,.int .i64 mark,.func (.func 173) #[] #[.pointer (some ⟨wb,0,none⟩),.pointer (some ⟨pb,0,none⟩)]] w fun e w'=>∃ v L,e=.returned v∧w.grownBy w' (some pb)∧Zj w.heap.size w' v L ∧
      L.map (·.2)=zaN cols (Z2 l cols mark)∧w'.heap[pb]?=some (.cells #[.int .i64 (zj3 (Z2 l cols mark).told px),.int .i64 (zj4 (Z2 l cols mark).told py was)] 139 (0,0)):=by
  have Y3:∀ (fn:Fn) (first cap:Array Value) (w:World),(Instr.makeFunc fn first cap).run prog w=.ok (.func fn first cap) w:=fun _ _ _ _=>rfl
  have HL:=Qh hl
  have A2:=zq hp
  have N3:=Qh (show SpS w pb px py was ((w.alloc (.cells #[.slice none 0 0,.bool false] 144)).alloc (.cells #[.slice (some ⟨w.heap.size,0,none⟩) 1 1] 112)) (.slice (some ⟨w.heap.size,0,none⟩) 1 1) [] (.slice none 0 0) [] noR none from
    ⟨zbI (zbI (zo _ _) _) _,zI (zI hp _) _,zja w⟩)
  have U3:=Qh hwb
  have D4:=Qh hlp
  obtain⟨la,lc,rfl⟩:=zK hl
  have M4:=Zf underlying56 hl
  clear hl hlp hp hwb
  go_enter func172,ntmps172
  go_upto_region 4 with fail
  go_loopw [11,12,18] (fun _ _ iv wr=>∃ (k:Nat) (v:Value) (D:List (Value × Rw)) (xv:Value),k≤l.length∧iv=.int .i64 k ∧
    Hid (SpS w pb px py was wr v D xv (zbk cols mark ⟨[],[],none⟩ 0 (l.take k)).done ⟨(zbk cols mark ⟨[],[],none⟩ 0 (l.take k)).cur,false⟩ (zbk cols mark ⟨[],[],none⟩ 0 (l.take k)).told) ∧
    Hid ((zbk cols mark ⟨[],[],none⟩ 0 (l.take k)).cur.length≤cols∧(zbk cols mark ⟨[],[],none⟩ 0 (l.take k)).done.length≤k)) (fun _ _ iv _=>l.length-(intOf iv).toNat)
  case atStart=>exact⟨0,_,[],_,Nat.zero_le _,rfl,N3,Nat.zero_le _,Nat.le_refl _⟩
  case round =>
    obtain⟨k,v,D,xv,hk,rfl,HS,HB⟩:=hrel
    by_cases hlt:k<l.length
    · have V3:=Qh (zi3 cols mark (l.take k) (l.getD k noC) ⟨[],[],none⟩ 0)
      have S3:=Qh (ZJ l noC k hlt)
      have J3:(l.take k).length=k:=by rw[List.length_take];omega
      have H4:=Qh J3
      clear J3
      generalize H1:zbk cols mark ⟨[],[],none⟩ 0 (l.take k)=F at *
      have S2:=Qh H1
      clear H1
      have ho:=zi HL HS.gb (fun q hq e=>D4 (by rw[hq,e]))
      obtain⟨b',R3,T,e2,_,_⟩:=zE ho (by omega)
      simp only[Value.slice.injEq]at e2
      obtain⟨e3,_,e4⟩:=e2
      subst e3 e4
      obtain⟨q0,q1,q2,q3,q4⟩:=zbL ho k (by omega) rfl
      have A4:=Zw (P:=prog) (size:=5) underlying56 zT b' R3 l.length lc k hlt
      clear ho
      have L1:=Qh (show zbk cols mark ⟨[],[],none⟩ 0 (l.take (k+1))=ZC cols mark F (0+k) (l.getD k noC) by rw[S3.out,V3.out,H4.out])
      clear V3 S3
      have d1:decide ((k:Int)<(l.length:Int))=true:=Qt (by omega)
      have U4:decide (k<l.length)=true:=Qt hlt
      generalize l.getD k noC=cc at *
      obtain⟨cr,cw,cs⟩:=cc
      obtain⟨cf,U,ca⟩:=cs
      dsimp only at q0 q1 q2 q3 q4
      have V0:=Qh (HS.below (Below.alloc (Below.refl wr.heap.size wr) (Nat.le_refl _) (.cells #[.int .i32 cr,.int .i64 cw,.int .i64 cf,.int .i64 U,.int .i64 ca] 96)))
      have Z0:=Qh (zH wr (.cells #[.int .i32 cr,.int .i64 cw,.int .i64 cf,.int .i64 U,.int .i64 ca] 96))
      have B:=Qh (Below.alloc (Below.refl wr.heap.size wr) (Nat.le_refl _) (.cells #[.int .i32 cr,.int .i64 cw,.int .i64 cf,.int .i64 U,.int .i64 ca] 96))
      have R4:=HS.out.gb.size
      have L3:w.heap.size+1<wr.heap.size:=zq HS.sp.blk
      go_upto_region 6 with fail
      go_cut [29] (fun v wx=>(∃ f,v=.bool f∧Hid (f=(decide (cols=1) && !decide (cw=1))))∧wx=wr.alloc (.cells #[.int .i32 cr,.int .i64 cw,.int .i64 cf,.int .i64 U,.int .i64 ca] 96))
      case first =>
        by_cases h1:cols=1
        · have HH:=Qh h1
          have t1:((cols:Int) == 1)=true:=by rw[h1];rfl
          have t2:decide ((cols:Int)=1)=true:=Qt (by omega)
          clear h1
          by_cases h2:cw=1
          · have D1:=Qh h2
            have t3:(cw == 1)=true:=by rw[h2];rfl
            have t4:decide (cw=1)=true:=Qt h2
            clear h2
            go_wp2_with fail
            go_meet
            exact⟨⟨_,rfl,by show _=_;simp[HH.out,D1.out]⟩,rfl⟩
          · have t3:(cw == 1)=false:=Qb h2
            have t4:decide (cw=1)=false:=Qf h2
            have D1:=Qh h2
            clear h2
            go_wp2_with fail
            go_meet
            exact⟨⟨_,rfl,by show _=_;simp[HH.out,D1.out]⟩,rfl⟩
        · have HH:=Qh h1
          have t1:((cols:Int) == 1)=false:=Qb (by omega)
          have t2:decide ((cols:Int)=1)=false:=Qf (by omega)
          clear h1
          go_wp2_with fail
          go_meet
          exact⟨⟨_,rfl,by show _=_;simp[HH.out]⟩,rfl⟩
      case rest =>
        obtain⟨⟨f,rfl,HF⟩,rfl⟩:=hcut
        have I3:(wr.alloc (.cells #[.int .i32 cr,.int .i64 cw,.int .i64 cf,.int .i64 U,.int .i64 ca] 96)).heap.size=wr.heap.size+1:=by simp
        clear q0 q1 q2 q3 q4 A4
        go_upto_if 29 with fail
        generalize wr.alloc (.cells #[.int .i32 cr,.int .i64 cw,.int .i64 cf,.int .i64 U,.int .i64 ca] 96)=wa at *
        have O4:=Qh I3
        have C4:wr.heap.size<wa.heap.size:=by omega
        clear I3
        have F2:=Qh (show D.length=F.done.length by rw[← HS.out.sp.dn,List.length_map])
        go_cut [12] (fun pv wx=>pv=.pointer (some ⟨wr.heap.size,0,none⟩)∧∃ T:Cel,Hid (ZC cols mark F (0+k) ⟨cr,cw,⟨cf,U,ca⟩⟩=za2 cols mark F k T)∧Hid (SpS w pb px py was wx v D xv F.done ⟨F.cur,false⟩ F.told) ∧
          Hid (wx.heap[wr.heap.size]?=some (.cells #[.int .i32 T.rune,.int .i64 T.width,.int .i64 T.sty.fg,.int .i64 T.sty.bg,.int .i64 T.sty.attr] 96 (0,0))))
        case first =>
          cases f
          · go_wp2_with fail
            go_meet
            refine⟨rfl,⟨cr,cw,⟨cf,U,ca⟩⟩,?_,V0,Z0⟩
            show ZC _ _ _ _ _=_
            unfold ZC
            rw[if_neg (fun e=>by
              have:=HF.out
              rw[Qt e.1,Qf e.2]at this
              exact absurd this (by decide)),Nat.zero_add]
          · have V:cols=1∧cw≠1:=by
              have:=HF.out
              simp at this
              exact this
            have J2:=Qh V
            clear V
            have a0:wa.cell? ⟨wr.heap.size,0,none⟩=some (.int .i32 cr):=za Z0 0
            have a1:wa.cell? ⟨wr.heap.size,1,none⟩=some (.int .i64 cw):=za Z0 1
            have a2:wa.cell? ⟨wr.heap.size,2,none⟩=some (.int .i64 cf):=za Z0 2
            have a3:wa.cell? ⟨wr.heap.size,3,none⟩=some (.int .i64 U):=za Z0 3
            have a4:wa.cell? ⟨wr.heap.size,4,none⟩=some (.int .i64 ca):=za Z0 4
            by_cases h0:cw=0
            · have H0:=Qh h0
              have t3:(cw == 0)=true:=by rw[h0];rfl
              have t4:decide (cw=0)=true:=Qt h0
              clear h0
              by_cases hm:(k:Int)=mark
              · have HM:=Qh hm
                have t5:((k:Int) == mark)=true:=beq_iff_eq.2 hm
                have t6:decide ((k:Int)=mark)=true:=Qt hm
                clear hm
                have HE:=Qh (show ZC cols mark F (0+k) ⟨cr,cw,⟨cf,U,ca⟩⟩=⟨F.done,F.cur,some ((F.cur.length:Int)-1,(F.done.length:Int))⟩ by
                  unfold ZC
                  rw[if_pos J2.out,if_pos H0.out,if_pos (by rw[Nat.zero_add];exact HM.out)])
                obtain⟨b,A,c,rfl,C1,I1,J,z1,N,z3,z4,z5,E1,V,O1⟩:=V0.out.sp.cellsx
                have C:zp wa (w.heap.size+1+1) 5 xv F.cur.length (zt F.cur):=V0.out.sp.last
                obtain⟨xa,xc,rfl⟩:=zK C
                have I0:=Zf underlying56 C
                have E2:=Zf underlying112 V0.sp.own
                have L0:D.length≤100000000:=by have:=F2.out;have:=HB.out.2;omega
                have T3:F.cur.length≤250:=by have:=HB.out.1;omega
                have I4:IntKind.i64.wrap ((F.cur.length:Int)-1)=(F.cur.length:Int)-1:=zd _ (by omega) (by omega)
                have A3:IntKind.i64.wrap (((D.length+1:Nat):Int)-1)=(D.length:Int):=by rw[zd _ (by omega) (by omega)];omega
                have U2:IntKind.i64.wrap ((D.length:Int)+1-1)=(D.length:Int):=by rw[zd _ (by omega) (by omega)];omega
                have T2:IntKind.i64.wrap (D.length:Int)=(D.length:Int):=zd _ (by omega) (by omega)
                have T1:wa.cell? ⟨wb,0,none⟩=some (.int .i64 was):=zn V0.gb U3 (fun e=>hwp (by injection e with e;exact e.symm))
                have O2:=Qh V0.pk
                have L2:w.heap.size+1≠pb:=by omega
                have Y2:b≠pb:=by omega
                clear C
                go_upto_region 9 with fail
                go_region_held3 (fun w'=>w'.cell? ⟨w.heap.size+1,0,none⟩=some (.slice (some ⟨b,A,none⟩) (D.length+1) c)∧w'.cell? ⟨b,A+D.length*2,none⟩=some (.slice xa F.cur.length xc)) (go_keep)
                  (first
                    | (go_at_call 221
                       refine(zai (w.heap.size+1) b A D.length c wa.drew J L0).mono ?_
                       rintro e w5 ⟨rfl,rfl⟩)
                    | (go_at_call 173
                       refine(ziI wb pb _ _ was _ _ wa.drew T1 O2 (by omega) (by omega)).mono ?_
                       rintro e w6 ⟨rfl,g6,k6⟩
                       have y0:=zn g6 J (by intro e;injection e with e;exact L2 e.symm)
                       have y2:=zn g6 N (by intro e;injection e with e;exact Y2 e.symm)
                       have R2:=Qh g6
                       have V1:=Qh k6
                       clear g6 k6))
                have Z1:=Qh (V0.tell A2 _ _ (Zc (zaM (zo wa (some pb))) R2) V1)
                clear y0 y2 J z1 N z3 z4 z5 T1 I4 A3 U2 T2 I0 E2
                go_wp2_with fail
                go_roundw
                case rel =>
                  refine⟨k+1,.slice (some ⟨b,A,none⟩) (D.length+1) c,D,.slice xa F.cur.length xc,by omega,by go_num,?_,?_⟩
                  · rw[L1.out,HE.out]
                    have:=Z1.out
                    rw[F2.out]at this
                    first | exact this | (rw[F2.out];exact this)
                  · rw[L1.out,HE.out]
                    exact⟨HB.1,by have:=HB.out.2;show F.done.length≤k+1;omega⟩
                case measure=>simp[intOf];omega
              · have HM:=Qh hm
                have t5:((k:Int) == mark)=false:=Qb hm
                have t6:decide ((k:Int)=mark)=false:=Qf hm
                clear hm
                have HE:=Qh (show ZC cols mark F (0+k) ⟨cr,cw,⟨cf,U,ca⟩⟩=⟨F.done,F.cur,F.told⟩ by
                  unfold ZC
                  rw[if_pos J2.out,if_pos H0.out,if_neg (by rw[Nat.zero_add];exact HM.out)])
                go_wp2_with fail
                go_roundw
                case rel =>
                  refine⟨k+1,v,D,xv,by omega,by go_num,?_,?_⟩
                  · rw[L1.out,HE.out];exact V0
                  · rw[L1.out,HE.out]
                    exact⟨HB.1,by have:=HB.out.2;show F.done.length≤k+1;omega⟩
                case measure=>simp[intOf];omega
            · have H0:=Qh h0
              have t3:(cw == 0)=false:=Qb h0
              have t4:decide (cw=0)=false:=Qf h0
              clear h0
              go_upto_region 10 with fail
              go_wp2_with fail
              refine(zdE ⟨cf,U,ca⟩ wa).mono ?_
              rintro e w5 ⟨rfl,b5⟩
              have X2:=zr Z0 b5 C4
              have H1:=run_storeVar_row (P:=prog) w5 wr.heap.size 96 96 _ #[.int .i32 32,.int .i64 1,.int .i64 cf,.int .i64 U,.int .i64 ca] X2 zT rfl (by simp[Value.oneCell'])
              have V1:=Qh (Zz (cells:=#[.int .i32 32,.int .i64 1,.int .i64 cf,.int .i64 U,.int .i64 ca]) X2)
              have Z1:=Qh (HS.below (zbA (B.trans (b5.mono (by omega))) (g:=wr.heap.size) (Nat.le_refl _) #[.int .i32 32,.int .i64 1,.int .i64 cf,.int .i64 U,.int .i64 ca]))
              clear b5 X2
              go_wp2_with (refine zF rfl _ _ _ rfl H1 rfl rfl ?_)
              go_meet
              refine⟨rfl,⟨32,1,⟨cf,U,ca⟩⟩,?_,Z1,V1⟩
              show ZC _ _ _ _ _=_
              unfold ZC
              rw[if_pos J2.out,if_neg H0.out,Nat.zero_add]
              rfl
        case rest =>
          obtain⟨rfl,T,E3,M2,H3⟩:=hcut
          have R0:=Qh (L1.trans E3)
          have F4:=M2.out.gb.size
          have T0:=Qh (show SpC w pb px py was wr.heap.size T wc v D xv F.done ⟨F.cur,false⟩ F.told from⟨M2,H3,fun e=>by have:=(zg HS.sp.own _ e).2;omega,fun e=>by have:=(zg HS.sp.last _ e).2;omega,L3,A2⟩)
          clear E3 M2 H3 L1 V0 Z0 B HF HS
          have L4:w.heap.size+1<wr.heap.size:=L3
          generalize M3:wr.heap.size=U at *
          clear M3
          obtain⟨b,A,c,rfl,C1,I1,J,z1,N,z3,z4,z5,E1,V,O1⟩:=T0.out.s.sp.cellsx
          have C:zp wc (w.heap.size+1+1) 5 xv F.cur.length (zt F.cur):=T0.out.s.sp.last
          obtain⟨xa,xc,rfl⟩:=zK C
          have G:=Qh C
          have I0:=Zf underlying56 C
          have L0:D.length≤100000000:=by have:=F2.out;have:=HB.out.2;omega
          have T3:F.cur.length≤250:=by have:=HB.out.1;omega
          have C3:IntKind.i64.wrap ((cols:Int)-1)=(cols:Int)-1:=zd _ (by omega) (by omega)
          clear C
          go_upto_region 11 with fail
          go_cut [64] (fun vv wx=>(∃ f,vv=.bool f∧Hid (f=(decide (T.width=2) && decide (F.cur.length=cols-1))))∧wx=wc)
          case first =>
            obtain⟨a0,a1,a2,a3,a4⟩:=T0.out.cellc
            by_cases h2:T.width=2
            · have D1:=Qh h2
              have t3:(T.width == 2)=true:=by rw[h2];rfl
              have t4:decide (T.width=2)=true:=Qt h2
              generalize T.width=E4 at *
              clear h2
              go_wp2_with fail
              refine(zai (w.heap.size+1) b A D.length c _ J L0).mono ?_
              rintro e w5 ⟨rfl,rfl⟩
              go_wp2_with fail
              go_meet
              refine⟨⟨_,rfl,?_⟩,rfl⟩
              show _=_
              rw[Qt D1.out,zmb,Bool.eq_iff_iff]
              simp;omega
            · have D1:=Qh h2
              have t3:(T.width == 2)=false:=Qb h2
              have t4:decide (T.width=2)=false:=Qf h2
              generalize T.width=E4 at *
              clear h2
              go_wp2_with fail
              go_meet
              exact⟨⟨_,rfl,by show _=_;rw[Qf D1.out];rfl⟩,rfl⟩
          case rest =>
            obtain⟨⟨f,rfl,HF⟩,rfl⟩:=hcut
            go_upto_if 64 with fail
            go_cut [12] (fun pv wx=>pv=.pointer (some ⟨U,0,none⟩)∧∃ (v1 I2:Value) (I:List Cel),Hid (I=if T.width=2∧F.cur.length=cols-1 then F.cur++[zM plainS] else F.cur) ∧
              Hid (SpC w pb px py was U T wx v1 D I2 F.done ⟨I,false⟩ F.told))
            case first =>
              cases f
              · go_wp2_with fail
                go_meet
                refine⟨rfl,_,_,F.cur,?_,T0⟩
                show _=_
                rw[if_neg (fun e=>by
                  have:=HF.out
                  rw[Qt e.1,Qt e.2]at this
                  exact absurd this (by decide))]
              · have HE:=Qh (show T.width=2∧F.cur.length=cols-1 by
                  have:=HF.out
                  simp at this
                  exact this)
                have HZ:=Qh T0.s.sp.blk
                go_upto_region 12 with fail
                refine zJ (c:=10) (S:=(fun bb w'=>w'.cell? ⟨w.heap.size+1,0,none⟩=some (.slice (some ⟨b,A,none⟩) (D.length+1) c)∧(bb=false→w'.cell? ⟨b,A+D.length*2,none⟩=some (.slice xa F.cur.length xc)))) (by kernel_rfl) (⟨J,fun _=>N⟩) (fun _=>?_)
                refine zb false 0 (⟨J,fun _=>N⟩) ?_
                refine zb false 2 (⟨J,fun _=>N⟩) ?_
                refine zj false 1 fun K hK=>?_
                refine ze rfl ?_
                go_wp2_with fail
                refine(zai (w.heap.size+1) b A D.length c wc.drew J L0).mono ?_
                rintro e w4 ⟨rfl,rfl⟩
                refine hK.out _ _ (⟨J,fun _=>N⟩) (fun _=>?_)
                clear hK K
                try simp only[Act.put,List.setIfInBounds_toArray,List.set_cons_zero,List.set_cons_succ]
                refine zj false 3 fun K hK=>?_
                refine ze rfl ?_
                go_wp2_with fail
                refine(zai (w.heap.size+1) b A D.length c wc.drew J L0).mono ?_
                rintro e w4 ⟨rfl,rfl⟩
                refine hK.out _ _ (⟨J,fun _=>N⟩) (fun _=>?_)
                clear hK K
                try simp only[Act.put,List.setIfInBounds_toArray,List.set_cons_zero,List.set_cons_succ]
                refine zb false 4 (⟨J,fun _=>N⟩) ?_
                refine zb false 5 (⟨J,fun _=>N⟩) ?_
                refine Zh 6 (⟨J,fun _=>N⟩) ?_
                refine zj false 7 fun K hK=>?_
                refine ze rfl ?_
                go_wp2_with fail
                refine(ZW _).mono ?_
                rintro e w5 ⟨rfl,b5⟩
                have G1:w5.cell? ⟨w.heap.size+1,0,none⟩=some (.slice (some ⟨b,A,none⟩) (D.length+1) c):=zc b5 J
                have F1:w5.cell? ⟨b,A+D.length*2,none⟩=some (.slice xa F.cur.length xc):=zc b5 N
                have C2:=Qh (show Below wc.heap.size wc w5 from(Below.refl wc.heap.size wc).drew.trans b5)
                refine hK.out _ _ (⟨G1,fun _=>F1⟩) (fun _=>?_)
                clear hK K b5
                try simp only[Act.put,List.setIfInBounds_toArray,List.set_cons_zero,List.set_cons_succ]
                refine zj false 8 fun K hK=>?_
                refine ze rfl ?_
                go_wp2_with fail
                refine(zfH _).mono ?_
                rintro e w6 ⟨rfl,b6⟩
                have S0:w6.cell? ⟨w.heap.size+1,0,none⟩=some (.slice (some ⟨b,A,none⟩) (D.length+1) c):=zc b6 G1
                have M0:w6.cell? ⟨b,A+D.length*2,none⟩=some (.slice xa F.cur.length xc):=zc b6 F1
                have G0:=Qh (C2.trans (b6.mono C2.size))
                refine hK.out _ _ (⟨S0,fun _=>M0⟩) (fun _=>?_)
                clear hK K b6 G1 F1
                try simp only[Act.put,List.setIfInBounds_toArray,List.set_cons_zero,List.set_cons_succ]
                refine zj false 9 fun K hK=>?_
                refine ze rfl ?_
                go_wp2_with fail
                refine hK.out _ _ (⟨zc (Below.alloc (Below.refl w6.heap.size w6) (Nat.le_refl _) _) S0,fun _=>zc (Below.alloc (Below.refl w6.heap.size w6) (Nat.le_refl _) _) M0⟩) (fun _=>?_)
                clear hK K
                try simp only[Act.put,List.setIfInBounds_toArray,List.set_cons_zero,List.set_cons_succ]
                refine zj true 10 fun K hK=>?_
                apply zap zab
                case hgd=>rfl
                case ho=>rfl
                case hown=>exact zG (zk G G0) _
                case hs=>rfl
                case hr=>exact Z4 underlying56 (zcG _ _ _ _ _ _ _) (zel _ _ _ _ _)
                case hx=>rfl
                case h63=>unfold maxLen;omega
                case hbytes=>omega
                case hbase=>(have:=G0.out.size;simp;omega)
                intro v7 w7 o7 M n7
                obtain⟨a7,c7,rfl⟩:=zK o7
                have H:w7.cell? ⟨w.heap.size+1,0,none⟩=some (.slice (some ⟨b,A,none⟩) (D.length+1) c):=zn M (zc (Below.alloc (Below.refl w6.heap.size w6) (Nat.le_refl _) _) S0) (fun e=>by have:=(zg G _ e).1;omega)
                have A1:w7.cell? ⟨b,A+D.length*2,none⟩=some (.slice xa F.cur.length xc):=zn M (zc (Below.alloc (Below.refl w6.heap.size w6) (Nat.le_refl _) _) M0) (fun e=>T0.s.sp.apl b e rfl)
                have B1:w7.frozen? ⟨b,A+D.length*2,none⟩=false:=ZS M (Z9 (Below.alloc G0 G0.size _) N z3) (zaO (zc (Below.alloc (Below.refl w6.heap.size w6) (Nat.le_refl _) _) M0)) (fun e=>T0.s.sp.apl b e rfl)
                have M1:=Qh o7
                have S1:=Qh M
                have R1:=Qh n7
                refine hK.out _ _ (⟨H,fun e=>by cases e⟩) (fun _=>?_)
                clear hK K o7 M n7 S0 M0
                try simp only[Act.put,List.setIfInBounds_toArray,List.set_cons_zero,List.set_cons_succ]
                refine zb true 11 (⟨H,fun e=>by cases e⟩) ?_
                refine zb true 12 (⟨H,fun e=>by cases e⟩) ?_
                refine zj true 13 fun K hK=>?_
                refine ze rfl ?_
                go_wp2_with fail
                refine hK.out _ _ (⟨zn (zx (zo _ _) _ _) H (fun e=>V (by injection e)),fun e=>by cases e⟩) (fun _=>?_)
                clear hK K
                try simp only[Act.put]
                refine zD (by kernel_rfl) ?_ _
                go_wp2_with fail
                go_meet
                refine⟨rfl,_,_,F.cur++[zM plainS],?_,T0.push rfl (Below.alloc G0 G0.size _) (x:=zM plainS) M1 S1 R1⟩
                show _=_
                rw[if_pos HE.out]
            case rest =>
              obtain⟨rfl,v1,I2,I,F3,X1⟩:=hcut
              clear T0 G J z1 N z3 z4 z5 I0 C1 I1 E1 V O1 C3 HF
              obtain⟨b,A,c,rfl,C1,I1,J,z1,N,z3,z4,z5,E1,V,O1⟩:=X1.out.s.sp.cellsx
              have C:zp wc (w.heap.size+1+1) 5 I2 I.length (zt I):=X1.out.s.sp.last
              obtain⟨xa,xc,rfl⟩:=zK C
              have G:=Qh C
              have I0:=Zf underlying56 C
              have Z3:I.length≤cols:=by
                have h1:=F3.out
                have h2:=HB.out.1
                rw[h1]
                split
                · rw[List.length_append];simp;omega
                · exact h2
              clear C
              go_upto_region 13 with fail
              go_cut [85] (fun vv wx=>(∃ f,vv=.bool f∧Hid (f=decide (I.length=cols)))∧wx=wc)
              case first =>
                go_wp2_with fail
                refine(zai (w.heap.size+1) b A D.length c _ J L0).mono ?_
                rintro e w5 ⟨rfl,rfl⟩
                go_wp2_with fail
                go_meet
                refine⟨⟨_,rfl,?_⟩,rfl⟩
                show _=_
                rw[zmb,Bool.eq_iff_iff]
                simp;omega
              case rest =>
                obtain⟨⟨f,rfl,HF⟩,rfl⟩:=hcut
                go_upto_if 85 with fail
                go_cut [12] (fun pv wx=>pv=.pointer (some ⟨U,0,none⟩)∧∃ (v2:Value) (D2:List (Value × Rw)) (B3:Value) (D0:List Rw) (E:List Cel),Hid (D0=(if I.length=cols then F.done++[⟨I,true⟩] else F.done)∧E=(if I.length=cols then [] else I)) ∧
                  Hid (SpC w pb px py was U T wx v2 D2 B3 D0 ⟨E,false⟩ F.told))
                case first =>
                  cases f
                  · have G3:¬ I.length=cols:=of_decide_eq_false HF.out.symm
                    have G2:=Qh G3
                    clear G3
                    go_wp2_with fail
                    go_meet
                    exact⟨rfl,_,D,_,F.done,I,⟨by rw[if_neg G2.out],by rw[if_neg G2.out]⟩,X1⟩
                  · have HE:=Qh (show I.length=cols from of_decide_eq_true HF.out.symm)
                    obtain⟨qb,qo,qc,B2,_,_⟩:=zE G (by have:=HE.out;omega)
                    have HQ:=Qh (show(Value.slice xa I.length xc).ownBlock=some qb by rw[B2];rfl)
                    clear B2
                    have HM:=Qh (X1.mark rfl true)
                    have J1:wc.grownBy (wc.setCell ⟨b,A+D.length*2+1,none⟩ (.bool true)) (some b):=zx (zo _ _) _ _
                    have y0:=zn J1 J (fun e=>V (by injection e))
                    have y1:=ZS J1 z1 (zaO J) (fun e=>V (by injection e))
                    have D3:=Qh y1
                    have O3:=Qh J1.size
                    clear J1 y1
                    go_upto_region 14 with fail
                    go_wp2_with fail
                    refine(zai (w.heap.size+1) b A D.length c _ J L0).mono ?_
                    rintro e w4 ⟨rfl,rfl⟩
                    go_wp2_with (at_builtin;refine zaQ ?_)
                    unfold zaP
                    refine zS zaH rfl rfl w.heap.size (zG HM.s.sp.own _) rfl (zjb _ _ _ _ _ (by simp)) rfl (zeC _ _ _ _) (by unfold maxLen;omega) (by omega) (by have:=O3.out;simp;omega) ?_
                    intro v7 w7 o7 M n7
                    obtain⟨a7,c7,rfl⟩:=zK o7
                    have H:=zn M (zc (Below.alloc (Below.refl _ _) (Nat.le_refl _) _) y0) (fun e=>V (by injection e))
                    have S4:=ZS M (Z9 (Below.alloc (Below.refl _ _) (Nat.le_refl _) _) y0 D3) (zaO (zc (Below.alloc (Below.refl _ _) (Nat.le_refl _) _) y0)) (fun e=>V (by injection e))
                    have M1:=Qh o7
                    have S1:=Qh M
                    have R1:=Qh n7
                    have N0:=Qh (HM.snoc HQ (Below.alloc (Below.refl _ _) (Nat.le_refl _) (.cells #[.slice none 0 0,.bool false] 144)) M1 S1 R1)
                    clear o7 M n7 y0 J z1 N z3 z4 z5 I0 D3 O3 Z3 hwas C1 I1 E1 M1 S1 R1
                    go_wp2_with fail
                    go_meet
                    exact⟨rfl,.slice a7 (D.length+1+1) c7,D++[(.slice xa I.length xc,⟨I,true⟩)],.slice none 0 0,F.done++[⟨I,true⟩],[],⟨by rw[if_pos HE.out],by rw[if_pos HE.out]⟩,N0⟩
                case rest =>
                  obtain⟨rfl,v2,D2,B3,D0,E,N2,X0⟩:=hcut
                  clear X1 G J z1 N z3 z4 z5 I0 C1 I1 E1 V O1 HF
                  have Y1:E.length<cols:=by
                    rw[N2.out.2]
                    split
                    · exact hc1
                    · omega
                  have U1:D0.length≤k+1:=by
                    have h1:=HB.out.2
                    rw[N2.out.1]
                    split
                    · rw[List.length_append];simp;omega
                    · omega
                  have H2:=Qh (show D2.length=D0.length by rw[← X0.out.s.sp.dn,List.length_map])
                  have O0:D2.length≤100000000:=by have:=H2.out;omega
                  obtain⟨b,A,c,rfl,C1,I1,J,z1,N,z3,z4,z5,E1,V,O1⟩:=X0.out.s.sp.cellsx
                  have C:zp wc (w.heap.size+1+1) 5 B3 E.length (zt E):=X0.out.s.sp.last
                  obtain⟨xa,xc,rfl⟩:=zK C
                  have G:=Qh C
                  have I0:=Zf underlying56 C
                  have E2:=Zf underlying112 X0.s.sp.own
                  clear C
                  go_upto_region 16 with fail
                  go_cut [96] (fun vv wx=>(∃ f,vv=.bool f∧Hid (f=decide ((k:Int)=mark)))∧wx=wc)
                  case first =>
                    go_wp2_with fail
                    go_meet
                    refine⟨⟨_,rfl,?_⟩,rfl⟩
                    show _=_
                    rw[zmb]
                  case rest =>
                    obtain⟨⟨f,rfl,HF⟩,rfl⟩:=hcut
                    go_upto_if 96 with fail
                    go_cut [12] (fun pv wx=>pv=.pointer (some ⟨U,0,none⟩)∧∃ (U0:Option (Int × Int)),Hid (U0=if (k:Int)=mark then some ((E.length:Int),(D0.length:Int)) else F.told) ∧
                      Hid (SpC w pb px py was U T wx (.slice (some ⟨b,A,none⟩) (D2.length+1) c) D2 (.slice xa E.length xc) D0 ⟨E,false⟩ U0))
                    case first =>
                      cases f
                      · have G2:=Qh (show ¬ (k:Int)=mark from of_decide_eq_false HF.out.symm)
                        go_wp2_with fail
                        go_meet
                        exact⟨rfl,F.told,by show _=_;rw[if_neg G2.out],X0⟩
                      · have HE:=Qh (show(k:Int)=mark from of_decide_eq_true HF.out.symm)
                        have A3:IntKind.i64.wrap (((D2.length+1:Nat):Int)-1)=(D2.length:Int):=by rw[zd _ (by omega) (by omega)];omega
                        have U2:IntKind.i64.wrap ((D2.length:Int)+1-1)=(D2.length:Int):=by rw[zd _ (by omega) (by omega)];omega
                        have T2:IntKind.i64.wrap (D2.length:Int)=(D2.length:Int):=zd _ (by omega) (by omega)
                        have T1:wc.cell? ⟨wb,0,none⟩=some (.int .i64 was):=zn X0.s.gb U3 (fun e=>hwp (by injection e with e;exact e.symm))
                        have O2:=Qh X0.s.pk
                        have L2:w.heap.size+1≠pb:=by omega
                        have Y2:b≠pb:=by omega
                        go_upto_region 17 with fail
                        go_region_held3 (fun w'=>w'.cell? ⟨w.heap.size+1,0,none⟩=some (.slice (some ⟨b,A,none⟩) (D2.length+1) c)∧w'.cell? ⟨b,A+D2.length*2,none⟩=some (.slice xa E.length xc)) (go_keep)
                          (first
                            | (go_at_call 221
                               refine(zai (w.heap.size+1) b A D2.length c wc.drew J O0).mono ?_
                               rintro e w5 ⟨rfl,rfl⟩)
                            | (go_at_call 173
                               refine(ziI wb pb _ _ was _ _ wc.drew T1 O2 (by omega) (by omega)).mono ?_
                               rintro e w6 ⟨rfl,g6,k6⟩
                               have y0:=zn g6 J (by intro e;injection e with e;exact L2 e.symm)
                               have y2:=zn g6 N (by intro e;injection e with e;exact Y2 e.symm)
                               have R2:=Qh g6
                               have V1:=Qh k6
                               clear g6 k6))
                        have Z1:=Qh (X0.tell _ _ (Zc (zaM (zo wc (some pb))) R2) V1)
                        clear y0 y2 J z1 N z3 z4 z5 T1 A3 U2 T2 I0 E2
                        go_wp2_with fail
                        go_meet
                        refine⟨rfl,_,?_,Z1⟩
                        show _=_
                        rw[if_pos HE.out,H2.out]
                    case rest =>
                      obtain⟨rfl,U0,B4,X⟩:=hcut
                      clear X0 G J z1 N z3 z4 z5 HF E2
                      have V2:=X.out.s.sp
                      obtain⟨b2,N4,c2,e2,_,_,J,z1,N,z3,z4,z5,_,_,_⟩:=V2.cellsx
                      simp only[Value.slice.injEq,Option.some.injEq,Addr.mk.injEq]at e2
                      obtain⟨⟨e3,e4,_⟩,_,e5⟩:=e2
                      subst e3 e4 e5
                      have G:=Qh V2.last
                      clear V2
                      obtain⟨a0,a1,a2,a3,a4⟩:=X.out.cellc
                      have J4:U<wc.heap.size:=zq X.ck
                      have O:b≠U:=fun e=>X.v1 (by rw[← e];rfl)
                      have F0:=Qh X.x1
                      have T4:U≠w.heap.size+1:=by omega
                      go_upto_region 18 with fail
                      have B:=Qh (show ∀ o,Below wc.heap.size wc (wc.alloc o).drew from fun o=>(Below.alloc (Below.refl wc.heap.size wc) (Nat.le_refl _) o).drew)
                      have N1:=Qh (show za2 cols mark F k T=⟨D0,E++[T],U0⟩ by
                        obtain⟨e1,e2⟩:=N2.out
                        have e3:=B4.out
                        have e4:=F3.out
                        subst e3 e1 e2 e4
                        rfl)
                      have C0:=Qh (show wc.drew.cell? ⟨w.heap.size+1,0,none⟩=some (.slice (some ⟨b,A,none⟩) (D2.length+1) c)∧wc.drew.cell? ⟨U,0,none⟩=some (.int .i32 T.rune)∧wc.drew.cell? ⟨U,1,none⟩=some (.int .i64 T.width)∧wc.drew.cell? ⟨U,2,none⟩=some (.int .i64 T.sty.fg)∧wc.drew.cell? ⟨U,3,none⟩=some (.int .i64 T.sty.bg)∧wc.drew.cell? ⟨U,4,none⟩=some (.int .i64 T.sty.attr) from⟨J,a0,a1,a2,a3,a4⟩)
                      have R:=Qh (show ∀ o,(wc.alloc o).drew.cell? ⟨w.heap.size+1,0,none⟩=some (.slice (some ⟨b,A,none⟩) (D2.length+1) c)∧(wc.alloc o).drew.cell? ⟨U,0,none⟩=some (.int .i32 T.rune)∧(wc.alloc o).drew.cell? ⟨U,1,none⟩=some (.int .i64 T.width)∧(wc.alloc o).drew.cell? ⟨U,2,none⟩=some (.int .i64 T.sty.fg)∧(wc.alloc o).drew.cell? ⟨U,3,none⟩=some (.int .i64 T.sty.bg)∧(wc.alloc o).drew.cell? ⟨U,4,none⟩=some (.int .i64 T.sty.attr) from fun o=>⟨zc (B o) J,zc (B o) a0,zc (B o) a1,zc (B o) a2,zc (B o) a3,zc (B o) a4⟩)
                      have Y0:=Qh (show wc.drew.cell? ⟨b,A+D2.length*2,none⟩=some (.slice xa E.length xc) from N)
                      have J0:=Qh (show ∀ o,(wc.alloc o).drew.cell? ⟨b,A+D2.length*2,none⟩=some (.slice xa E.length xc) from fun o=>zc (B o) N)
                      refine zJ (c:=9) (S:=(fun bb w'=>(w'.cell? ⟨w.heap.size+1,0,none⟩=some (.slice (some ⟨b,A,none⟩) (D2.length+1) c)∧w'.cell? ⟨U,0,none⟩=some (.int .i32 T.rune)∧w'.cell? ⟨U,1,none⟩=some (.int .i64 T.width)∧w'.cell? ⟨U,2,none⟩=some (.int .i64 T.sty.fg)∧w'.cell? ⟨U,3,none⟩=some (.int .i64 T.sty.bg)∧w'.cell? ⟨U,4,none⟩=some (.int .i64 T.sty.attr))∧(bb=false→w'.cell? ⟨b,A+D2.length*2,none⟩=some (.slice xa E.length xc)))) (by kernel_rfl) (⟨C0,fun _=>Y0⟩) (fun _=>?_)
                      refine zb false 0 (⟨C0,fun _=>Y0⟩) ?_
                      refine zb false 2 (⟨C0,fun _=>Y0⟩) ?_
                      refine zb false 7 (⟨C0,fun _=>Y0⟩) ?_
                      refine zdx false false 1 8 ?_ ?_
                      · intro K hK
                        refine ze rfl ?_
                        go_wp2_with fail
                        refine(zai (w.heap.size+1) b A D2.length c wc.drew C0.1 O0).mono ?_
                        rintro e w4 ⟨rfl,rfl⟩
                        refine hK.out _ _ (⟨C0,fun _=>Y0⟩) (fun _=>?_)
                        clear hK K
                        try simp only[Act.put,List.setIfInBounds_toArray,List.set_cons_zero,List.set_cons_succ]
                        refine zdx false false 3 8 ?_ ?_
                        · intro K hK
                          refine ze rfl ?_
                          go_wp2_with fail
                          refine(zai (w.heap.size+1) b A D2.length c wc.drew C0.1 O0).mono ?_
                          rintro e w4 ⟨rfl,rfl⟩
                          refine hK.out _ _ (⟨C0,fun _=>Y0⟩) (fun _=>?_)
                          clear hK K
                          try simp only[Act.put,List.setIfInBounds_toArray,List.set_cons_zero,List.set_cons_succ]
                          refine zb false 4 (⟨C0,fun _=>Y0⟩) ?_
                          refine zb false 5 (⟨C0,fun _=>Y0⟩) ?_
                          refine Zh 6 (⟨C0,fun _=>Y0⟩) ?_
                          refine zj false 8 fun K hK=>?_
                          refine ze rfl ?_
                          go_wp2_with fail
                          refine hK.out _ _ (⟨R _,fun _=>J0 _⟩) (fun _=>?_)
                          clear hK K
                          try simp only[Act.put,List.setIfInBounds_toArray,List.set_cons_zero,List.set_cons_succ]
                          refine zj true 9 fun K hK=>?_
                          apply zap zab
                          case hgd=>rfl
                          case ho=>rfl
                          case hown=>exact zk G (B _)
                          case hs=>rfl
                          case hr=>exact Z4 underlying56 (zcG _ _ _ _ _ _ _) (zel _ _ _ _ _)
                          case hx=>rfl
                          case h63=>unfold maxLen;omega
                          case hbytes=>omega
                          case hbase=>(have:=X.out.s.gb.size;simp;omega)
                          intro v7 w7 o7 M n7
                          obtain⟨a7,c7,rfl⟩:=zK o7
                          have H:=zn M (zc (B _) J) (fun e=>by have:=(zg G _ e).1;omega)
                          have E0:=zn M (zc (B _) a0) F0
                          have Y:=zn M (zc (B _) a1) F0
                          have A0:=zn M (zc (B _) a2) F0
                          have Z:=zn M (zc (B _) a3) F0
                          have B0:=zn M (zc (B _) a4) F0
                          have A1:=zn M (zc (B _) N) (fun e=>X.s.sp.apl b e rfl)
                          have B1:=ZS M (Z9 (B _) N z3) (zaO (zc (B _) N)) (fun e=>X.s.sp.apl b e rfl)
                          have N0:=Qh (X.push rfl (B _) (x:=T) o7 M n7)
                          refine hK.out _ _ (⟨⟨H,E0,Y,A0,Z,B0⟩,fun e=>by cases e⟩) (fun _=>?_)
                          clear hK K o7 M n7
                          try simp only[Act.put,List.setIfInBounds_toArray,List.set_cons_zero,List.set_cons_succ]
                          refine zb true 10 (⟨⟨H,E0,Y,A0,Z,B0⟩,fun e=>by cases e⟩) ?_
                          refine zb true 11 (⟨⟨H,E0,Y,A0,Z,B0⟩,fun e=>by cases e⟩) ?_
                          refine zj true 12 fun K hK=>?_
                          refine ze rfl ?_
                          go_wp2_with fail
                          refine hK.out _ _ (⟨⟨zn (zx (zo _ _) _ _) H (fun e=>V (by injection e)),zn (zx (zo _ _) _ _) E0 (fun e=>O (by injection e)),zn (zx (zo _ _) _ _) Y (fun e=>O (by injection e)),zn (zx (zo _ _) _ _) A0 (fun e=>O (by injection e)),zn (zx (zo _ _) _ _) Z (fun e=>O (by injection e)),zn (zx (zo _ _) _ _) B0 (fun e=>O (by injection e))⟩,fun e=>by cases e⟩) (fun _=>?_)
                          clear hK K
                          try simp only[Act.put]
                          refine zD (by kernel_rfl) ?_ _
                          clear J z1 N z3 z4 z5 a0 a1 a2 a3 a4 H E0 Y A0 Z B0 A1 B1 I0
                          go_wp2_with fail
                          go_roundw
                          case rel =>
                            refine⟨k+1,.slice (some ⟨b,A,none⟩) (D2.length+1) c,D2,.slice a7 (E.length+1) c7,by omega,by go_num,?_,?_⟩
                            · rw[R0.out,N1.out]
                              exact N0.s
                            · rw[R0.out,N1.out]
                              refine⟨?_,U1⟩
                              show(E++[T]).length≤cols
                              rw[List.length_append]
                              exact Y1
                          case measure=>simp[intOf];omega
                        · intro K hK
                          refine ze rfl ?_
                          go_wp2_with fail
                          refine hK.out _ _ (⟨R _,fun _=>J0 _⟩) (fun _=>?_)
                          clear hK K
                          try simp only[Act.put,List.setIfInBounds_toArray,List.set_cons_zero,List.set_cons_succ]
                          refine zj false 3 fun K hK=>?_
                          refine ze rfl ?_
                          go_wp2_with fail
                          refine(zai (w.heap.size+1) b A D2.length c (wc.alloc _).drew (R _).1 O0).mono ?_
                          rintro e w4 ⟨rfl,rfl⟩
                          refine hK.out _ _ (⟨R _,fun _=>J0 _⟩) (fun _=>?_)
                          clear hK K
                          try simp only[Act.put,List.setIfInBounds_toArray,List.set_cons_zero,List.set_cons_succ]
                          refine zb false 4 (⟨R _,fun _=>J0 _⟩) ?_
                          refine zb false 5 (⟨R _,fun _=>J0 _⟩) ?_
                          refine Zh 6 (⟨R _,fun _=>J0 _⟩) ?_
                          refine zj true 9 fun K hK=>?_
                          apply zap zab
                          case hgd=>rfl
                          case ho=>rfl
                          case hown=>exact zk G (B _)
                          case hs=>rfl
                          case hr=>exact Z4 underlying56 (zcG _ _ _ _ _ _ _) (zel _ _ _ _ _)
                          case hx=>rfl
                          case h63=>unfold maxLen;omega
                          case hbytes=>omega
                          case hbase=>(have:=X.out.s.gb.size;simp;omega)
                          intro v7 w7 o7 M n7
                          obtain⟨a7,c7,rfl⟩:=zK o7
                          have H:=zn M (zc (B _) J) (fun e=>by have:=(zg G _ e).1;omega)
                          have E0:=zn M (zc (B _) a0) F0
                          have Y:=zn M (zc (B _) a1) F0
                          have A0:=zn M (zc (B _) a2) F0
                          have Z:=zn M (zc (B _) a3) F0
                          have B0:=zn M (zc (B _) a4) F0
                          have A1:=zn M (zc (B _) N) (fun e=>X.s.sp.apl b e rfl)
                          have B1:=ZS M (Z9 (B _) N z3) (zaO (zc (B _) N)) (fun e=>X.s.sp.apl b e rfl)
                          have N0:=Qh (X.push rfl (B _) (x:=T) o7 M n7)
                          refine hK.out _ _ (⟨⟨H,E0,Y,A0,Z,B0⟩,fun e=>by cases e⟩) (fun _=>?_)
                          clear hK K o7 M n7
                          try simp only[Act.put,List.setIfInBounds_toArray,List.set_cons_zero,List.set_cons_succ]
                          refine zb true 10 (⟨⟨H,E0,Y,A0,Z,B0⟩,fun e=>by cases e⟩) ?_
                          refine zb true 11 (⟨⟨H,E0,Y,A0,Z,B0⟩,fun e=>by cases e⟩) ?_
                          refine zj true 12 fun K hK=>?_
                          refine ze rfl ?_
                          go_wp2_with fail
                          refine hK.out _ _ (⟨⟨zn (zx (zo _ _) _ _) H (fun e=>V (by injection e)),zn (zx (zo _ _) _ _) E0 (fun e=>O (by injection e)),zn (zx (zo _ _) _ _) Y (fun e=>O (by injection e)),zn (zx (zo _ _) _ _) A0 (fun e=>O (by injection e)),zn (zx (zo _ _) _ _) Z (fun e=>O (by injection e)),zn (zx (zo _ _) _ _) B0 (fun e=>O (by injection e))⟩,fun e=>by cases e⟩) (fun _=>?_)
                          clear hK K
                          try simp only[Act.put]
                          refine zD (by kernel_rfl) ?_ _
                          clear J z1 N z3 z4 z5 a0 a1 a2 a3 a4 H E0 Y A0 Z B0 A1 B1 I0
                          go_wp2_with fail
                          go_roundw
                          case rel =>
                            refine⟨k+1,.slice (some ⟨b,A,none⟩) (D2.length+1) c,D2,.slice a7 (E.length+1) c7,by omega,by go_num,?_,?_⟩
                            · rw[R0.out,N1.out]
                              exact N0.s
                            · rw[R0.out,N1.out]
                              refine⟨?_,U1⟩
                              show(E++[T]).length≤cols
                              rw[List.length_append]
                              exact Y1
                          case measure=>simp[intOf];omega
                      · intro K hK
                        refine ze rfl ?_
                        go_wp2_with fail
                        refine hK.out _ _ (⟨R _,fun _=>J0 _⟩) (fun _=>?_)
                        clear hK K
                        try simp only[Act.put,List.setIfInBounds_toArray,List.set_cons_zero,List.set_cons_succ]
                        refine zj false 1 fun K hK=>?_
                        refine ze rfl ?_
                        go_wp2_with fail
                        refine(zai (w.heap.size+1) b A D2.length c (wc.alloc _).drew (R _).1 O0).mono ?_
                        rintro e w4 ⟨rfl,rfl⟩
                        refine hK.out _ _ (⟨R _,fun _=>J0 _⟩) (fun _=>?_)
                        clear hK K
                        try simp only[Act.put,List.setIfInBounds_toArray,List.set_cons_zero,List.set_cons_succ]
                        refine zj false 3 fun K hK=>?_
                        refine ze rfl ?_
                        go_wp2_with fail
                        refine(zai (w.heap.size+1) b A D2.length c (wc.alloc _).drew (R _).1 O0).mono ?_
                        rintro e w4 ⟨rfl,rfl⟩
                        refine hK.out _ _ (⟨R _,fun _=>J0 _⟩) (fun _=>?_)
                        clear hK K
                        try simp only[Act.put,List.setIfInBounds_toArray,List.set_cons_zero,List.set_cons_succ]
                        refine zb false 4 (⟨R _,fun _=>J0 _⟩) ?_
                        refine zb false 5 (⟨R _,fun _=>J0 _⟩) ?_
                        refine Zh 6 (⟨R _,fun _=>J0 _⟩) ?_
                        refine zj true 9 fun K hK=>?_
                        apply zap zab
                        case hgd=>rfl
                        case ho=>rfl
                        case hown=>exact zk G (B _)
                        case hs=>rfl
                        case hr=>exact Z4 underlying56 (zcG _ _ _ _ _ _ _) (zel _ _ _ _ _)
                        case hx=>rfl
                        case h63=>unfold maxLen;omega
                        case hbytes=>omega
                        case hbase=>(have:=X.out.s.gb.size;simp;omega)
                        intro v7 w7 o7 M n7
                        obtain⟨a7,c7,rfl⟩:=zK o7
                        have H:=zn M (zc (B _) J) (fun e=>by have:=(zg G _ e).1;omega)
                        have E0:=zn M (zc (B _) a0) F0
                        have Y:=zn M (zc (B _) a1) F0
                        have A0:=zn M (zc (B _) a2) F0
                        have Z:=zn M (zc (B _) a3) F0
                        have B0:=zn M (zc (B _) a4) F0
                        have A1:=zn M (zc (B _) N) (fun e=>X.s.sp.apl b e rfl)
                        have B1:=ZS M (Z9 (B _) N z3) (zaO (zc (B _) N)) (fun e=>X.s.sp.apl b e rfl)
                        have N0:=Qh (X.push rfl (B _) (x:=T) o7 M n7)
                        refine hK.out _ _ (⟨⟨H,E0,Y,A0,Z,B0⟩,fun e=>by cases e⟩) (fun _=>?_)
                        clear hK K o7 M n7
                        try simp only[Act.put,List.setIfInBounds_toArray,List.set_cons_zero,List.set_cons_succ]
                        refine zb true 10 (⟨⟨H,E0,Y,A0,Z,B0⟩,fun e=>by cases e⟩) ?_
                        refine zb true 11 (⟨⟨H,E0,Y,A0,Z,B0⟩,fun e=>by cases e⟩) ?_
                        refine zj true 12 fun K hK=>?_
                        refine ze rfl ?_
                        go_wp2_with fail
                        refine hK.out _ _ (⟨⟨zn (zx (zo _ _) _ _) H (fun e=>V (by injection e)),zn (zx (zo _ _) _ _) E0 (fun e=>O (by injection e)),zn (zx (zo _ _) _ _) Y (fun e=>O (by injection e)),zn (zx (zo _ _) _ _) A0 (fun e=>O (by injection e)),zn (zx (zo _ _) _ _) Z (fun e=>O (by injection e)),zn (zx (zo _ _) _ _) B0 (fun e=>O (by injection e))⟩,fun e=>by cases e⟩) (fun _=>?_)
                        clear hK K
                        try simp only[Act.put]
                        refine zD (by kernel_rfl) ?_ _
                        clear J z1 N z3 z4 z5 a0 a1 a2 a3 a4 H E0 Y A0 Z B0 A1 B1 I0
                        go_wp2_with fail
                        go_roundw
                        case rel =>
                          refine⟨k+1,.slice (some ⟨b,A,none⟩) (D2.length+1) c,D2,.slice a7 (E.length+1) c7,by omega,by go_num,?_,?_⟩
                          · rw[R0.out,N1.out]
                            exact N0.s
                          · rw[R0.out,N1.out]
                            refine⟨?_,U1⟩
                            show(E++[T]).length≤cols
                            rw[List.length_append]
                            exact Y1
                        case measure=>simp[intOf];omega
    · have X3:k=l.length:=by omega
      subst X3
      have d1:decide ((l.length:Int)<(l.length:Int))=false:=Qf (by omega)
      rw[List.take_length]at HS HB
      generalize H1:zbk cols mark ⟨[],[],none⟩ 0 l=F at HS HB
      have S2:=Qh (show Z2 l cols mark=F from H1)
      clear H1 N3 Y3
      go_upto_region 20 with fail
      go_loopw [] (fun wr=>∃ (v:Value) (D:List (Value × Rw)) (xv:Value) (cur:List Cel),
        Hid (SpS w pb px py was wr v D xv F.done ⟨cur,false⟩ F.told)∧Hid (cur.length≤cols∧cur++List.replicate (cols-cur.length) (zM plainS)=F.cur++List.replicate (cols-F.cur.length) (zM plainS))) (fun wr=>cols-zjc wr (w.heap.size+1))
      case atStart=>exact⟨v,D,xv,F.cur,HS,HB.1,rfl⟩
      case round =>
        have G4:=Qh HB.2
        clear HB HS v D xv
        obtain⟨v,D,xv,cur,HS,HB⟩:=hrel
        obtain⟨b,A,c,rfl,C1,I1,J,z1,N,z3,z4,z5,E1,V,O1⟩:=HS.out.sp.cellsx
        have C:zp wr (w.heap.size+1+1) 5 xv cur.length (zt cur):=HS.out.sp.last
        obtain⟨xa,xc,rfl⟩:=zK C
        have G:=Qh C
        have I0:=Zf underlying56 C
        have L0:D.length≤100000000:=by
          have h1:=G4.out
          have h2:D.length=F.done.length:=by rw[← HS.out.sp.dn,List.length_map]
          omega
        have T3:=HB.out.1
        have F4:=HS.out.gb.size
        clear C
        by_cases hlt:cur.length<cols
        · have t1:decide ((cur.length:Int)<(cols:Int))=true:=Qt (by omega)
          go_wp2_with fail
          refine(zai (w.heap.size+1) b A D.length c _ J L0).mono ?_
          rintro e w5 ⟨rfl,rfl⟩
          go_upto_region 21 with fail
          refine zJ (c:=10) (S:=(fun bb w'=>w'.cell? ⟨w.heap.size+1,0,none⟩=some (.slice (some ⟨b,A,none⟩) (D.length+1) c)∧(bb=false→w'.cell? ⟨b,A+D.length*2,none⟩=some (.slice xa cur.length xc)))) (by kernel_rfl) (⟨J,fun _=>N⟩) (fun _=>?_)
          refine zb false 0 (⟨J,fun _=>N⟩) ?_
          refine zb false 2 (⟨J,fun _=>N⟩) ?_
          refine zj false 1 fun K hK=>?_
          refine ze rfl ?_
          go_wp2_with fail
          refine(zai (w.heap.size+1) b A D.length c w5.drew J L0).mono ?_
          rintro e w4 ⟨rfl,rfl⟩
          refine hK.out _ _ (⟨J,fun _=>N⟩) (fun _=>?_)
          clear hK K
          try simp only[Act.put,List.setIfInBounds_toArray,List.set_cons_zero,List.set_cons_succ]
          refine zj false 3 fun K hK=>?_
          refine ze rfl ?_
          go_wp2_with fail
          refine(zai (w.heap.size+1) b A D.length c w5.drew J L0).mono ?_
          rintro e w4 ⟨rfl,rfl⟩
          refine hK.out _ _ (⟨J,fun _=>N⟩) (fun _=>?_)
          clear hK K
          try simp only[Act.put,List.setIfInBounds_toArray,List.set_cons_zero,List.set_cons_succ]
          refine zb false 4 (⟨J,fun _=>N⟩) ?_
          refine zb false 5 (⟨J,fun _=>N⟩) ?_
          refine Zh 6 (⟨J,fun _=>N⟩) ?_
          refine zj false 7 fun K hK=>?_
          refine ze rfl ?_
          go_wp2_with fail
          refine(ZW _).mono ?_
          rintro e wq ⟨rfl,b5⟩
          have G1:wq.cell? ⟨w.heap.size+1,0,none⟩=some (.slice (some ⟨b,A,none⟩) (D.length+1) c):=zc b5 J
          have F1:wq.cell? ⟨b,A+D.length*2,none⟩=some (.slice xa cur.length xc):=zc b5 N
          have C2:=Qh (show Below w5.heap.size w5 wq from(Below.refl w5.heap.size w5).drew.trans b5)
          refine hK.out _ _ (⟨G1,fun _=>F1⟩) (fun _=>?_)
          clear hK K b5
          try simp only[Act.put,List.setIfInBounds_toArray,List.set_cons_zero,List.set_cons_succ]
          refine zj false 8 fun K hK=>?_
          refine ze rfl ?_
          go_wp2_with fail
          refine(zfH _).mono ?_
          rintro e w6 ⟨rfl,b6⟩
          have S0:w6.cell? ⟨w.heap.size+1,0,none⟩=some (.slice (some ⟨b,A,none⟩) (D.length+1) c):=zc b6 G1
          have M0:w6.cell? ⟨b,A+D.length*2,none⟩=some (.slice xa cur.length xc):=zc b6 F1
          have G0:=Qh (C2.trans (b6.mono C2.size))
          refine hK.out _ _ (⟨S0,fun _=>M0⟩) (fun _=>?_)
          clear hK K b6 G1 F1
          try simp only[Act.put,List.setIfInBounds_toArray,List.set_cons_zero,List.set_cons_succ]
          refine zj false 9 fun K hK=>?_
          refine ze rfl ?_
          go_wp2_with fail
          refine hK.out _ _ (⟨zc (Below.alloc (Below.refl w6.heap.size w6) (Nat.le_refl _) _) S0,fun _=>zc (Below.alloc (Below.refl w6.heap.size w6) (Nat.le_refl _) _) M0⟩) (fun _=>?_)
          clear hK K
          try simp only[Act.put,List.setIfInBounds_toArray,List.set_cons_zero,List.set_cons_succ]
          refine zj true 10 fun K hK=>?_
          apply zap zab
          case hgd=>rfl
          case ho=>rfl
          case hown=>exact zG (zk G G0) _
          case hs=>rfl
          case hr=>exact Z4 underlying56 (zcG _ _ _ _ _ _ _) (zel _ _ _ _ _)
          case hx=>rfl
          case h63=>unfold maxLen;omega
          case hbytes=>omega
          case hbase=>(have:=G0.out.size;simp;omega)
          intro v7 w7 o7 M n7
          obtain⟨a7,c7,rfl⟩:=zK o7
          have H:w7.cell? ⟨w.heap.size+1,0,none⟩=some (.slice (some ⟨b,A,none⟩) (D.length+1) c):=zn M (zc (Below.alloc (Below.refl w6.heap.size w6) (Nat.le_refl _) _) S0) (fun e=>by have:=(zg G _ e).1;omega)
          have A1:w7.cell? ⟨b,A+D.length*2,none⟩=some (.slice xa cur.length xc):=zn M (zc (Below.alloc (Below.refl w6.heap.size w6) (Nat.le_refl _) _) M0) (fun e=>HS.sp.apl b e rfl)
          have B1:w7.frozen? ⟨b,A+D.length*2,none⟩=false:=ZS M (Z9 (Below.alloc G0 G0.size _) N z3) (zaO (zc (Below.alloc (Below.refl w6.heap.size w6) (Nat.le_refl _) _) M0)) (fun e=>HS.sp.apl b e rfl)
          have M1:=Qh o7
          have S1:=Qh M
          have R1:=Qh n7
          refine hK.out _ _ (⟨H,fun e=>by cases e⟩) (fun _=>?_)
          clear hK K o7 M n7 S0 M0
          try simp only[Act.put,List.setIfInBounds_toArray,List.set_cons_zero,List.set_cons_succ]
          refine zb true 11 (⟨H,fun e=>by cases e⟩) ?_
          refine zb true 12 (⟨H,fun e=>by cases e⟩) ?_
          refine zj true 13 fun K hK=>?_
          refine ze rfl ?_
          go_wp2_with fail
          refine hK.out _ _ (⟨zn (zx (zo _ _) _ _) H (fun e=>V (by injection e)),fun e=>by cases e⟩) (fun _=>?_)
          clear hK K
          try simp only[Act.put]
          refine zD (by kernel_rfl) ?_ _
          have N0:=Qh (HS.push A2 rfl (Below.alloc G0 G0.size _) (x:=zM plainS) M1 S1 R1)
          clear J z1 N z3 z4 z5 H A1 B1 I0
          go_wp2_with fail
          go_roundw
          case rel =>
            refine⟨_,D,_,cur++[zM plainS],N0,?_⟩
            have h2:=HB.out.2
            refine⟨by rw[List.length_append];exact hlt,?_⟩
            rw[← h2,List.length_append,List.append_assoc]
            congr 1
            show _::List.replicate _ _=_
            rw[← List.replicate_succ]
            congr 1
            simp;omega
          case measure =>
            rw[zgD N0.out.sp,zgD HS.out.sp]
            simp;omega
        · have t1:decide ((cur.length:Int)<(cols:Int))=false:=Qf (by omega)
          go_wp2_with fail
          refine(zai (w.heap.size+1) b A D.length c _ J L0).mono ?_
          rintro e w5 ⟨rfl,rfl⟩
          obtain⟨qb,qo,qc,B2,_,_⟩:=zE G (by omega)
          have HQ:=Qh (show(Value.slice xa cur.length xc).ownBlock=some qb by rw[B2];rfl)
          clear B2
          go_wp2_with fail
          refine Ze rfl rfl rfl ⟨.slice (some ⟨b,A,none⟩) (D.length+1) c,D++[(.slice xa cur.length xc,⟨cur,false⟩)],rfl,HS.gb,HS.sp.rows HQ (by omega),?_,?_⟩
          · rw[List.map_append,HS.out.sp.dn,S2.out]
            have h2:=HB.out.2
            rw[show cols-cur.length=0 by omega,List.replicate_zero,List.append_nil]at h2
            unfold zaN
            rw[← h2]
            rfl
          · rw[S2.out]
            exact HS.pk
end Go.Proofs.YthehkmopdeebmaaGreatDoor
