/- Part. -/
import Derived.Test.YthehkmopdeebmaaGreatDoorY5
import Derived.Test.YthehkmopdeebmaaGreatDoorY6
set_option linter.unusedVariables false
set_option linter.unusedSimpArgs false
set_option maxRecDepth 100000
set_option maxHeartbeats 8000000
namespace Go.Proofs.YthehkmopdeebmaaGreatDoor
open _root_.Go.Proofs.Tryz
section
open Go.RowKit
def zaK (l:List Cel):List UInt8:=l.flatMap fun c=>if 0<c.width then Lib.encodeRune c.rune else []
def ziX (l:List Cel):List UInt8:=zaK (ze8 l)
theorem zg7 (l:List Cel) (c:Cel):ze8 (l++[c])=if c.rune == 32 then ze8 l else l++[c]:=by
 unfold ze8;rw[List.reverse_append,List.reverse_singleton,List.singleton_append,List.dropWhile_cons];split
 ·rfl
 ·rw[List.reverse_cons,List.reverse_reverse]
theorem ze6 (l:List Cel) (k:Nat) (h:k<l.length):l.take (k+1)=l.take k++[l.getD k noC]:=ZJ l noC k h
theorem zba (a b:List UInt8):Lib.byteCells (a++b)=Lib.byteCells a++Lib.byteCells b:=by simp[Lib.byteCells]
theorem zgn (l:List Cel) (c:Cel):zaK (l++[c])=zaK l++(if 0<c.width then Lib.encodeRune c.rune else []):=by
 simp[zaK]
theorem zpy (r:Int):(Lib.byteCells (Lib.encodeRune r)).length≤4:=by rw[Lib.byteCells_encodeRune];exact(Lib.runeCells_le r).2
theorem zhH (l:List Cel):(Lib.byteCells (zaK l)).length≤4*l.length:=by
 induction l with
 | nil=>simp[zaK,Lib.byteCells]
 | cons c l ih =>
  have e:zaK (c::l)=(if 0<c.width then Lib.encodeRune c.rune else [])++zaK l:=rfl;rw[e,zba,List.length_append,List.length_cons];have:=zpy c.rune;split
  ·omega
  ·simp[Lib.byteCells]at ih ⊢;omega
theorem zl3 {T e:TypeId} {B b:Nat} {bs:List Value} {w:World} (h:Lib.IsBuilderF T e B b bs w) (o:Obj):Lib.IsBuilderF T e B b bs (w.alloc o):=h.elim (fun x=>.inl (x.alloc o)) (fun x=>.inr (x.alloc o))
theorem znm {T:Nat→Nat} {p:Nat} {w:World} {g:Gr} (h:GM T p w g) (y:Int) :
  Calls prog 128 #[.pointer (some ⟨p,0,none⟩),.int .i64 y] w fun e w'=>e=.returned (.string ⟨(ziX (g.row y).cells).toArray⟩)∧Below w.heap.size w w':=by
 have HW:=Qh (zm9 h.wf y);have HR:=Qh (zkv h y);clear h;generalize g.row y=r at *;obtain⟨l,X⟩:=r;dsimp only at HW HR ⊢;go_enter func128,ntmps128;go_wp2_with fail;refine HR.mono ?_;rintro e A ⟨v,rfl,b2,o2⟩;have M:=Qh b2;have B:=zk o2 b2;clear b2 o2;obtain⟨va,H,rfl⟩:=zK B;have R0:=HW.out.1;have S0:l.length≤H:=by
  rcases B.2 with ⟨e,h0⟩ | ⟨_,_,_,e,_,_,h1,_⟩
  ·omega
  ·simp only[Value.slice.injEq]at e;omega
 have N:=Qh B;clear B;have hf:=zgg (.slice va l.length H) (.bool X);go_wp2_with fail;clear hf
 go_loopw [5] (fun sv wr=>∃ k:Nat,k≤l.length∧sv=.slice va k H∧wr=A∧Hid (ze8 (l.take k)=ze8 l)) (fun sv _=>match sv with | .slice _ k _=>k | _=>0)
 case atStart=>exact⟨l.length,Nat.le_refl _,rfl,rfl,Qh (by rw[List.take_length])⟩
 case round =>
  obtain⟨k,hk,rfl,hw,ht⟩:=hrel;have D0:=hw.symm;subst D0;have HT:=Qh ht.out;clear ht;by_cases hstop:0<k∧(l.getD (k-1) noC).rune=32
  ·obtain⟨b,C,c,D,_,_⟩:=zE N (by omega);simp only[Value.slice.injEq]at D;obtain⟨rfl,_,rfl⟩:=D;obtain⟨c0,_⟩:=zbL N (k-1) (by omega) rfl;rw[hstop.2]at c0;have G:=Zw (P:=prog) (size:=5) underlying56 zT b C k H (k-1) (by omega);rw[show((k-1:Nat):Int)=(k:Int)-1 by omega]at G;have L0:=zcX (P:=prog) (size:=5) underlying56 zT (some ⟨b,C,none⟩) k H (k-1) (by omega);rw[show((k-1:Nat):Int)=(k:Int)-1 by omega]at L0;have d1:decide (0<(k:Int))=true:=Qt (by omega);have V:decide (0<k)=true:=Qt (by omega);go_wp2_with fail;go_roundw
   case rel =>
    refine⟨k-1,by omega,rfl,by trivial,?_⟩;have:=HT.out;rw[show k=(k-1)+1 by omega,ze6 _ _ (by omega),zg7,hstop.2]at this;exact this
   case measure=>simp only[];omega
  ·have HE:=Qh (show ze8 l=l.take k from by
    rw[← HT.out];rcases Nat.eq_zero_or_pos k with h0 | h0
    ·subst h0;simp[ze8]
    ·have e:l.take k=l.take (k-1)++[l.getD (k-1) noC]:=by
      rw[← ze6 _ _ (by omega),show k-1+1=k by omega]
     rw[e,zg7,Qb (fun e=>hstop ⟨h0,e⟩)];simp)
   have U:Lib.IsBuilderF 200 5 A.heap.size A.heap.size (Lib.byteCells (zaK (l.take 0))) (A.alloc (.cells #[.pointer none,.slice none 0 0] 200)) :=
    Lib.IsBuilderF.of (.inl ⟨Nat.le_refl _,.slice none 0 0,zH _ _,World.ownsRow_nil _ _ _ _,by simp[Value.ownBlock]⟩)
   have C0:=Below.alloc (Below.refl A.heap.size A) (Nat.le_refl _) (.cells #[.pointer none,.slice none 0 0] 200);rcases Nat.eq_zero_or_pos k with h0 | h0
   case' inl =>
    have d1:decide (0<(k:Int))=false:=Qf (by omega);have V:decide (0<k)=false:=Qf (by omega);go_wp2_with fail
   case' inr =>
    have d1:decide (0<(k:Int))=true:=Qt (by omega);have V:decide (0<k)=true:=Qt (by omega);obtain⟨b,C,c,D,_,_⟩:=zE N (by omega);simp only[Value.slice.injEq]at D;obtain⟨rfl,_,rfl⟩:=D;obtain⟨c0,_⟩:=zbL N (k-1) (by omega) rfl;have d3:((l.getD (k-1) noC).rune == 32)=false:=Qb (fun e=>hstop ⟨h0,e⟩);have G:=Zw (P:=prog) (size:=5) underlying56 zT b C k H (k-1) (by omega);rw[show((k-1:Nat):Int)=(k:Int)-1 by omega]at G;generalize (l.getD (k-1) noC).rune=rn at *;go_wp2_with fail
   all_goals
    go_loopw [8,33] (fun _ iv wx=>∃ i:Nat,i≤k∧iv=.int .i64 i∧Below A.heap.size A wx∧Lib.IsBuilderF 200 5 A.heap.size A.heap.size (Lib.byteCells (zaK (l.take i))) wx) (fun _ iv _=>k-(intOf iv).toNat)
    case atStart=>exact⟨0,Nat.zero_le _,rfl,C0,U⟩
    case round =>
     obtain⟨i,hi,rfl,hb,L⟩:=hrel;have HB:=Qh hb;have HD:=Qh L;have Y:=hb.size;clear hb L;by_cases hlt:i<k
     ·(try (exfalso;omega))
      all_goals
       have ho:=zk N HB;obtain⟨b',Z,c',D,_,_⟩:=zE ho (by omega);simp only[Value.slice.injEq,Option.some.injEq]at D;obtain⟨e3,_,rfl⟩:=D
       first | subst e3 | (simp only[Addr.mk.injEq]at e3;obtain⟨e4,e5,_⟩:=e3;have I0:=e4.symm;have G0:=e5.symm;subst I0;subst G0)
       obtain⟨q0,q1,q2,q3,q4⟩:=zbL ho i (by omega) rfl;have O0:=Zw (P:=prog) (size:=5) underlying56 zT b' Z k H i hlt;have M0:=HW.out.2 (l.getD i noC) (by rw[List.getD_eq_getElem?_getD,List.getElem?_eq_getElem (by omega)];exact List.getElem_mem _);have F:=zgn (l.take i) (l.getD i noC);rw[← ze6 l i (by omega)]at F;have I:=Qh F;have J0:=zhH (l.take i);rw[List.length_take,Nat.min_eq_left (by omega)]at J0;clear ho F;generalize l.getD i noC=cc at *;obtain⟨cr,cw,J⟩:=cc;obtain⟨S,O⟩:=M0;dsimp only at q0 q1 q2 q3 q4 S O I;have A0:=Qh (zl3 HD (.cells #[.int .i32 cr,.int .i64 cw,.int .i64 J.fg,.int .i64 J.bg,.int .i64 J.attr] 96));have E:=Qh (HB.alloc Y (.cells #[.int .i32 cr,.int .i64 cw,.int .i64 J.fg,.int .i64 J.bg,.int .i64 J.attr] 96));by_cases hcw:0<cw
       ·have dw:decide (0<cw)=true:=Qt hcw;have R:=Qh (zgy A.heap.size A.heap.size _ cr S O _ A0 (by omega) (by simp;omega));go_wp2_with fail;refine R.mono ?_;rintro e w5 ⟨⟨nn,rfl⟩,h5,b5⟩;have B0:=Qh h5;have H0:=Qh (E.trans b5);clear h5 b5 R;go_wp2_with fail;go_roundw
        case rel =>
         refine⟨i+1,by omega,by go_num,H0,?_⟩;rw[I.out,if_pos hcw,zba,Lib.byteCells_encodeRune];exact B0
        case measure=>simp[intOf] <;> omega
       ·have dw:decide (0<cw)=false:=Qf hcw;go_wp2_with fail;go_roundw
        case rel =>
         refine⟨i+1,by omega,by go_num,E,?_⟩;rw[I.out,if_neg hcw,List.append_nil];exact A0
        case measure=>simp[intOf] <;> omega
     ·have N0:i=k:=(by omega);subst N0;have F0:=Qh (Tryz.Builder_String_any_f A.heap.size A.heap.size _ wr HD Y);go_wp2_with fail;refine F0.mono ?_;rintro e w6 ⟨rfl,_,b6⟩;have E0:=Qh (M.trans ((HB.trans b6).mono M.size));clear b6;go_wp2_with fail;go_ret;refine⟨?_,E0⟩;unfold ziX;rw[HE.out]
      first | rfl | (rw[h0];rfl)
end
section
open Go.RowKit
theorem zgo {T:Nat→Nat} {p:Nat} {w:World} {g:Gr} (h:GM T p w g) (top bottom n:Int) (s:Sty) (hs:ZU w s) :
  Calls prog 227 #[.pointer (some ⟨p,0,none⟩),.int .i64 top,.int .i64 bottom,.int .i64 n,s.val] w fun e w'=>e=.returned (.int .i64 (zZ g top bottom n s))∧Below w.heap.size w w':=by
 have C:=Below.alloc (Below.refl w.heap.size w) (Nat.le_refl _) (.cells #[.int .i64 s.fg,.int .i64 s.bg,.int .i64 s.attr] 49);have D:=Qh C;have L:=h.below C;have F:=h.wf;clear h;obtain⟨X,Z,Lr,V,h⟩:=L;obtain⟨c0,c1,S,U⟩:=zY h;have H:=Zf underlying112 h.rr.own;rw[(Zg h).1]at H;clear h;have Y:=F.r2;clear F C;unfold Sty.val;by_cases h0:top<0
 ·have A:=Qh (show zZ g top bottom n s=0 by unfold zZ;rw[if_pos (.inl h0)]);have I:decide (top<0)=true:=Qt h0;go_enter func227,ntmps227;go_wp2_with fail;go_ret;exact⟨zah (by rw[A.out];rfl),D⟩
 have I:decide (top<0)=false:=Qf h0;by_cases h1:bottom<top
 ·have A:=Qh (show zZ g top bottom n s=0 by unfold zZ;rw[if_pos (.inr (.inl h1))]);have R:decide (bottom<top)=true:=Qt h1;go_enter func227,ntmps227;go_wp2_with fail;go_ret;exact⟨zah (by rw[A.out];rfl),D⟩
 have R:decide (bottom<top)=false:=Qf h1;by_cases h2:(g.rows.length:Int)≤bottom
 ·have A:=Qh (show zZ g top bottom n s=0 by unfold zZ;rw[if_pos (.inr (.inr (.inl h2)))]);have M:decide ((g.rows.length:Int)≤bottom)=true:=Qt h2;go_enter func227,ntmps227;go_wp2_with fail;go_ret;exact⟨zah (by rw[A.out];rfl),D⟩
 have M:decide ((g.rows.length:Int)≤bottom)=false:=Qf h2;have G:=Qh hs;clear hs;cases hok:okS s
 ·have A:=Qh (show zZ g top bottom n s=0 by unfold zZ;rw[if_pos (.inr (.inr (.inr hok)))]);go_enter func227,ntmps227;go_wp2_with fail;refine(G _ D).mono ?_;rintro e J ⟨rfl,E⟩;rw[hok];have B:=Qh (D.trans (E.mono (by simp)));clear E;go_wp2_with fail;go_ret;exact⟨zah (by rw[A.out];rfl),B⟩
 ·have A:=Qh (show(zZ g top bottom n s:Int)=max 0 (min n (bottom-top+1)) by
   unfold zZ;rw[if_neg (by rw[hok];simp;omega)];omega)
  have N:IntKind.i64.wrap (bottom-top)=bottom-top:=zd _ (by omega) (by omega);have O:IntKind.i64.wrap (bottom-top+1)=bottom-top+1:=zd _ (by omega) (by omega);go_enter func227,ntmps227;go_wp2_with fail;refine(G _ D).mono ?_;rintro e J ⟨rfl,E⟩;rw[hok];have B:=Qh (D.trans (E.mono (by simp)));clear E;go_wp2_with fail;go_ret;exact⟨zah A.out.symm,B⟩
theorem zef (L:List (Value × Rw)) (a:Addr) (c:Nat) (w:World) (h:zaB w 2 (.slice (some a) L.length c) L.length (zf L)) (h1:∀ u∈zf L,u.oneCell'=true) (hl:L.length≤100000) :
  Calls prog 170 #[.slice (some a) L.length c] w fun e w'=>∃ v',e=.returned v'∧Below w.heap.size w w'∧zp w' w.heap.size 2 v' L.length (zf L):=by
 have hq:=fun (wx:World)=>Lib.run_eql_slice_nil (P:=prog) wx 112 144 (some a) L.length c 0 0 underlying112;have E:=Qh h;have F:=Qh h1;clear h h1;go_enter func170,ntmps170;go_wp2_with (at_builtin;refine zaQ ?_);unfold zaP;refine zco zaH rfl rfl w.heap.size (ze1 w 144 2) rfl (zd7 E (World.grownBy_alloc w _ none) (by intro _ _ e;simp at e)) rfl F (by unfold maxLen;omega) (by omega) (by simp) ?_;intro G H C D;rw[Nat.zero_add,List.nil_append]at C;have B:=Qh ((Below.alloc (Below.refl w.heap.size w) (Nat.le_refl _) (.cells #[] 144)).grown D (by simp) (by intro q hq;simp[Value.ownBlock]at hq;omega));have A:=Qh C;clear C D;go_wp2_with fail;exact Ze rfl rfl rfl ⟨_,rfl,B,A⟩
end
section
open Go.RowKit
def dnL {α:Type} (L:List α) (t b n:Nat) (F:List α):List α:=Za (Za L (t+n) ((L.drop t).take (b+1-n-t))) t F
theorem zo7 {α:Type} (L F:List α) (t b n:Nat) (h1:t≤b) (h2:b<L.length) (_h3:1≤n) (h4:n≤b+1-t) (hF:F.length=n):dnL L t b n F=L.take t++F++(L.drop t).take (b+1-t-n)++L.drop (b+1):=by
 unfold dnL;have e:b+1-n-t=b+1-t-n:=(by omega);rw[e];have D:((L.drop t).take (b+1-t-n)).length=b+1-t-n:=(by rw[List.length_take,List.length_drop];omega);generalize (L.drop t).take (b+1-t-n)=M at *;have A:(L.take (t+n)).length=t+n:=(by rw[List.length_take];omega);unfold Za;rw[D,hF,show t+n+(b+1-t-n)=b+1 by omega];have C:(L.take (t+n)++M++L.drop (b+1)).take t=L.take t:=by
  rw[List.take_append_of_le_length (by rw[List.length_append,A];omega),List.take_append_of_le_length (by omega),List.take_take,Nat.min_eq_left (by omega)]
 have B:(L.take (t+n)++M++L.drop (b+1)).drop (t+n)=M++L.drop (b+1):=by
  rw[List.append_assoc,List.drop_append,List.drop_eq_nil_of_le (by omega),List.nil_append,A,Nat.sub_self,List.drop_zero]
 rw[C,B];simp
theorem znn (Lr Lo Lf:List (Value × Rw)) (t b n B:Nat) (h1:t≤b) (h4:n≤b+1-t) (hnd:((Lr++Lo).map (·.1.ownBlock)).Nodup) (hlt:∀ x∈Lr++Lo,∀ k,x.1.ownBlock=some k→k<B)
  (hf:(Lf.map (·.1.ownBlock)).Nodup) (hfB:∀ x∈Lf,∃ k,x.1.ownBlock=some k∧B≤k) :
  (((Lr.take t++Lf++(Lr.drop t).take (b+1-t-n)++Lr.drop (b+1))++Lo).map (·.1.ownBlock)).Nodup:=by
 have G:(Lr.take t++(Lr.drop t).take (b+1-t-n)++Lr.drop (b+1)).Sublist Lr:=by
  have J:(Lr.drop t)=(Lr.drop t).take (b+1-t)++Lr.drop (b+1):=by
   have:=(List.take_append_drop (b+1-t) (Lr.drop t)).symm
   rwa [List.drop_drop,show t+(b+1-t)=b+1 by omega]at this
  have H:Lr=Lr.take t++((Lr.drop t).take (b+1-t)++Lr.drop (b+1)):=(by rw[← J,List.take_append_drop]);have C:((Lr.drop t).take (b+1-t-n)).Sublist ((Lr.drop t).take (b+1-t)):=by
   have:(Lr.drop t).take (b+1-t-n)=((Lr.drop t).take (b+1-t)).take (b+1-t-n):=(by rw[List.take_take,Nat.min_eq_left (by omega)]);rw[this];exact List.take_sublist _ _
  have E:(Lr.take t++((Lr.drop t).take (b+1-t-n)++Lr.drop (b+1))).Sublist (Lr.take t++((Lr.drop t).take (b+1-t)++Lr.drop (b+1))):=List.Sublist.append_left (List.Sublist.append_right C _) _;rw[← H]at E
  rwa [List.append_assoc]
 generalize U:Lr.take t=A at *;generalize X:(Lr.drop t).take (b+1-t-n)=M at *;generalize V:Lr.drop (b+1)=D at *;have N:(((A++M++D)++Lo).map (·.1.ownBlock)).Nodup:=hnd.sublist ((List.Sublist.append_right G _).map _);have O:((A++Lf++M++D)++Lo).Perm (((A++M++D)++Lo)++Lf):=by
  have R:((A++Lf++M++D)++Lo)=A++(Lf++(M++D++Lo)):=(by simp);have T:(((A++M++D)++Lo)++Lf)=A++((M++D++Lo)++Lf):=(by simp);rw[R,T];exact List.Perm.append_left _ List.perm_append_comm
 refine(O.map _).nodup_iff.2 ?_;rw[List.map_append,List.nodup_append];refine⟨N,hf,fun a ha c hc e=>?_⟩;obtain⟨x,hx,rfl⟩:=List.mem_map.1 ha;obtain⟨y,I,rfl⟩:=List.mem_map.1 hc;obtain⟨k,S,L⟩:=hfB y I;have F:x∈Lr++Lo:=by
  rcases List.mem_append.1 hx with h | h
  ·exact List.mem_append_left _ (G.subset h)
  ·exact List.mem_append_right _ h
 have:=hlt x F k (by rw[e];exact S);omega
theorem zou {g:Gr} (h:g.WF) (t b n:Nat) (s:Sty) (h1:t≤b) (h2:b<g.rows.length) (h4:n≤b+1-t) :
  (⟨g.cols,g.limit,Z7 g.rows t b n g.cols s,g.old⟩:Gr).WF:=by
 refine⟨h.c1,h.c2,by show 1≤(Z7 _ _ _ _ _ _).length;rw[zge h1 h2 h4];exact h.r1,by show(Z7 _ _ _ _ _ _).length≤120;rw[zge h1 h2 h4];exact h.r2,h.li,h.ol,fun r hr=>?_⟩;have B:∀ r∈zW n g.cols s,r.cells.length=g.cols∧∀ c∈r.cells,c.Ok:=fun r hr=>by
  rw[List.eq_of_mem_replicate hr];refine⟨List.length_replicate,fun c hc=>?_⟩;rw[List.eq_of_mem_replicate hc];exact zaV s
 rcases List.mem_append.1 hr with hr | hr
 ·have A:r∈Z7 g.rows t b n g.cols s:=hr;unfold Z7 at A;rcases List.mem_append.1 A with A | A
  ·rcases List.mem_append.1 A with A | A
   ·rcases List.mem_append.1 A with A | A
    ·exact h.ce r (List.mem_append_left _ (List.mem_of_mem_take A))
    ·exact B r A
   ·exact h.ce r (List.mem_append_left _ (List.mem_of_mem_drop (List.mem_of_mem_take A)))
  ·exact h.ce r (List.mem_append_left _ (List.mem_of_mem_drop A))
 ·exact h.ce r (List.mem_append_right _ hr)
theorem zgp {T:Nat→Nat} {p:Nat} {w:World} {g:Gr} (h:GM T p w g) (top bottom n:Int) (s:Sty) (hs:ZU w s) :
    Calls prog 228 #[.pointer (some ⟨p,0,none⟩),.int .i64 top,.int .i64 bottom,.int .i64 n,s.val] w fun e w'=>e=.returned (.tuple #[])∧zh (own T w) w w'∧∃ T',GM T' p w' (g.down top bottom n s)∧∀ k,T' k≠0→own T w k:=by
  have F0:=Below.alloc (Below.refl w.heap.size w) (Nat.le_refl _) (.cells #[.int .i64 s.fg,.int .i64 s.bg,.int .i64 s.attr] 49)
  have X0:=zH w (.cells #[.int .i64 s.fg,.int .i64 s.bg,.int .i64 s.attr] 49)
  have H0:=Qh h
  have HG:=Qh (h.below F0)
  clear h
  have G0:=Qh (zgo HG top bottom n s (hs.below F0))
  unfold Sty.val at G0
  by_cases hR0:zZ g top bottom n s=0
  · have HE:=Qh (show g.down top bottom n s=g by unfold Gr.down;rw[if_pos hR0])
    rw[hR0]at G0
    unfold Sty.val
    go_enter func228,ntmps228
    go_wp2_with fail
    refine G0.mono ?_
    rintro e w2 ⟨rfl,b2⟩
    have A0:=Qh (F0.trans (b2.mono (by simp)))
    clear b2
    go_wp2_with fail
    refine zdh rfl rfl ⟨rfl,zh.of_below A0,T,?_,fun k C=>.inl C⟩
    rw[HE.out]
    exact H0.below A0
  obtain⟨k1,k2,k3,F4,k5,k6⟩:=zfu hR0
  have S2:=Qh (show g.down top bottom n s=_ by unfold Gr.down;rw[if_neg hR0])
  generalize D3:zZ g top bottom n s=R at *
  obtain⟨t,rfl⟩:∃ t:Nat,top=(t:Int):=⟨top.toNat,by omega⟩
  obtain⟨b,rfl⟩:∃ b:Nat,bottom=(b:Int):=⟨bottom.toNat,by omega⟩
  have Y2:1≤R:=by omega
  have J1:R≤b+1-t:=by omega
  have F1:t≤b:=by omega
  have E0:=H0.out.wf
  have J3:=E0.r2
  have D4:=E0.c2
  have L3:=E0.li
  have M3:=E0.ol
  have dR:((R:Int) == 0)=false:=Qb (by omega)
  have A4:(R == 0)=false:=Qb (by omega)
  clear D3 k1 k2 k6 hR0
  unfold Sty.val
  go_enter func228,ntmps228
  go_wp2_with fail
  refine G0.mono ?_
  rintro e w2 ⟨rfl,b2⟩
  have A0:=Qh (F0.trans (b2.mono (by simp)))
  have L1:=Qh (zr X0 b2 (by simp))
  have X3:w.heap.size<w2.heap.size:=zq L1
  obtain⟨vr,vo,Lr,Lo,M⟩:=H0.out
  have J:=M.mod (.of_below A0) id id id (fun _=>id)
  have I2:=Qh J
  have M2:=(Zg M).1
  have X2:=(Zg M).2
  obtain⟨B,A,c,rfl,E4,V3⟩:=zE J.rr.own (by omega)
  have O:T B=2:=J.rr.tag B rfl
  have D0:T p=1:=J.tp
  have R1:B≠p:=fun e=>by rw[e]at O;omega
  have H3:p<w.heap.size:=M.lt p (by omega)
  have V2:B<w.heap.size:=M.lt B (by omega)
  have U2:b<Lr.length:=by omega
  clear M2 b2 G0 HG X0 F0
  obtain⟨c0,c1,c2,c3⟩:=zY J
  have T1:=zey (fun x hx=>J.ca x (List.mem_append_left _ hx))
  have E2:=A0
  have Z1:=L1
  have S1:=J
  have R2:=I2
  have B4:IntKind.i64.wrap ((b:Int)+1)=(b:Int)+1:=zd _ (by omega) (by omega)
  have C4:IntKind.i64.wrap ((t:Int)+(R:Int))=(t:Int)+(R:Int):=zd _ (by omega) (by omega)
  have U3:IntKind.i64.wrap ((b:Int)+1-(R:Int))=(b:Int)+1-(R:Int):=zd _ (by omega) (by omega)
  obtain⟨a1,T0,F3⟩:=zeY (P:=prog) (size:=2) underlying112 zC B A Lr.length c (t+R) (b+1) (by omega) (by omega)
  rw[show((b+1:Nat):Int)=(b:Int)+1 by omega,show((t+R:Nat):Int)=(t:Int)+(R:Int) by omega]at T0
  have U0:=zca (P:=prog) (size:=2) underlying112 zC B A Lr.length c t (b+1-R) (by omega) (by omega) (by omega)
  rw[show((b+1-R:Nat):Int)=(b:Int)+1-(R:Int) by omega]at U0
  go_upto_region 3 with fail
  go_still_tail 20,(by kernel_rfl)
  change wpList _ _ _ _ _ w2.drew
  have E:=S1.mod (.of_below (Below.refl _ _).drew) id id id (fun _=>id)
  have V1:=Qh (Zb Z1)
  have L2:=Qh E2.drew
  have R3:w2.drew.heap.size=w2.heap.size:=rfl
  clear c0 c1 c2 c3 S1 R2 Z1 E2 I2 L1 J
  generalize T3:w2.drew=w4 at *
  have Y3:=Qh E
  have hM:((Lr.drop t).take (b+1-R-t)).length=b+1-R-t:=by rw[List.length_take,List.length_drop];omega
  have C0:=zX (zeh E.rr.own t (b+1-R) (by omega) (by omega))
  rw[ZA,Zm]at C0
  have J2:=zbN (P:=prog) underlying112 zC E.rr.own (t+R) (b+1-(t+R)) (c-(t+R)) a1 (fun h=>F3 (by omega)) (by omega) C0 (fun u hu=>T1 u (by
    rw[← Zm,← ZA]at hu
    exact List.mem_of_mem_drop (List.mem_of_mem_take hu)))
  rw[List.take_of_length_le (by rw[zL,hM,show Nat.min (b+1-R-t) (b+1-(t+R))=b+1-R-t by show min (b+1-R-t) (b+1-(t+R))=_;omega];exact Nat.le_refl _)]at J2
  have B1:=zaz E.rr.own (t+R) (zf ((Lr.drop t).take (b+1-R-t))) (by rw[zL,hM];omega)
  rw[← zbl]at B1
  have g5:=zV w4 B (A+(t+R)*2) (zf ((Lr.drop t).take (b+1-R-t)))
  have m5:Mod T (fun x=>x=2) w4 (w4.setCells B (A+(t+R)*2) (zf ((Lr.drop t).take (b+1-R-t)))):=Mod.of_gb g5 (fun k C=>by injection C with C;subst C;exact O)
  have R0:=(m5.block p (zq E.blk) (by rw[D0];decide)).trans E.blk
  have M0:=Qh (E.ro.mod m5 (by decide))
  have Y0:=Qh (show ∀ x∈Lr++Lo,CAt T (w4.setCells B (A+(t+R)*2) (zf ((Lr.drop t).take (b+1-R-t)))) x from fun x hx=>(E.ca x hx).mod m5 (fun k _=>by omega))
  have X:=Qh (zl V1 g5 (by intro e;injection e with e;omega))
  have N1:=Qh ((zh.of_below (G:=own T w) L2).trans (zh.of_gb g5 (fun k C=>by injection C with C;subst C;exact .inl (by omega))))
  have Z3:=zaG w4 B (A+(t+R)*2) (zf ((Lr.drop t).take (b+1-R-t)))
  have C2:=Qh B1
  have L:=Qh R0
  clear g5 m5 E B1 R0 C0 V1 L2
  generalize w4.setCells B (A+(t+R)*2) (zf ((Lr.drop t).take (b+1-R-t)))=I at *
  have c0:I.cell? ⟨p,0,none⟩=some (.int .i64 g.cols):=za L 0
  have c2:I.cell? ⟨p,2,none⟩=some (.slice (some ⟨B,A,none⟩) Lr.length c):=za L 2
  have q0:I.cell? ⟨w.heap.size,0,none⟩=some (.int .i64 s.fg):=za X 0
  have q1:I.cell? ⟨w.heap.size,1,none⟩=some (.int .i64 s.bg):=za X 1
  have q2:I.cell? ⟨w.heap.size,2,none⟩=some (.int .i64 s.attr):=za X 2
  have G2:=zcW (P:=prog) (size:=2) underlying112 zC B A Lr.length c t (by omega) (by omega)
  have I3:I.drew.heap.size=I.heap.size:=rfl
  have A1:=Qh (show zp I.drew 0 2 (.slice (some ⟨B,A,none⟩) Lr.length c) Lr.length (zf (Za Lr (t+R) ((Lr.drop t).take (b+1-R-t)))) from C2.out)
  have D2:p<I.heap.size:=zq L
  have O1:w.heap.size<I.heap.size:=zq X
  have G3:B<I.heap.size:=by omega
  have O3:p≠w.heap.size:=by omega
  have E3:B≠w.heap.size:=by omega
  go_upto_region 4 with fail
  go_region_held3 (fun w'=>w'.cell? ⟨p,0,none⟩=some (.int .i64 g.cols)∧w'.cell? ⟨p,2,none⟩=some (.slice (some ⟨B,A,none⟩) Lr.length c)∧w'.cell? ⟨w.heap.size,0,none⟩=some (.int .i64 s.fg)∧w'.cell? ⟨w.heap.size,1,none⟩=some (.int .i64 s.bg)∧w'.cell? ⟨w.heap.size,2,none⟩=some (.int .i64 s.attr)) (go_keep)
    (first
      | (go_at_call 89
         refine(zcF R g.cols s _ (by omega) (by omega)).mono ?_
         rintro e F ⟨fv,D,rfl,b6,C1,B0⟩
         have U:D.length=R:=by
           have:=congrArg List.length C1
           rw[List.length_map]at this
           rw[this];unfold zW;rw[List.length_replicate]
         obtain⟨fa,fc,rfl⟩:=zK B0.own
         have H:=zr (Zb X) b6 O1
         have N:=zr (Zb L) b6 D2
         have I1:=zk A1 b6
         have z0:F.cell? ⟨p,0,none⟩=some (.int .i64 g.cols):=za N 0
         have z1:F.cell? ⟨p,2,none⟩=some (.slice (some ⟨B,A,none⟩) Lr.length c):=za N 2
         have z2:F.cell? ⟨w.heap.size,0,none⟩=some (.int .i64 s.fg):=za H 0
         have z3:F.cell? ⟨w.heap.size,1,none⟩=some (.int .i64 s.bg):=za H 1
         have z4:F.cell? ⟨w.heap.size,2,none⟩=some (.int .i64 s.attr):=za H 2
         have S0:Nat.min D.length (Lr.length-t)=D.length:=by show min D.length (Lr.length-t)=_;omega
         have V0:=zbN (P:=prog) underlying112 zC I1 t (Lr.length-t) (c-t) ⟨B,A+t*2,none⟩ (fun _=>rfl) (by omega) (zX B0.own) (zcu D (fun x hx=>by
           obtain⟨xa,xc,e⟩:=zK (B0.cells x hx)
           exact⟨xa,_,xc,e⟩))
         rw[S0,List.take_of_length_le (by rw[zL];exact Nat.le_refl _)]at V0
         have g7:=zV F B (A+t*2) (zf D)
         have S:=zl H g7 (by intro e;injection e with e;exact E3 e.symm)
         have V:=zl N g7 (by intro e;injection e with e;exact R1 e.symm)
         have y0:(F.setCells B (A+t*2) (zf D)).cell? ⟨p,0,none⟩=some (.int .i64 g.cols):=za V 0
         have y1:(F.setCells B (A+t*2) (zf D)).cell? ⟨p,2,none⟩=some (.slice (some ⟨B,A,none⟩) Lr.length c):=za V 2
         have y2:(F.setCells B (A+t*2) (zf D)).cell? ⟨w.heap.size,0,none⟩=some (.int .i64 s.fg):=za S 0
         have y3:(F.setCells B (A+t*2) (zf D)).cell? ⟨w.heap.size,1,none⟩=some (.int .i64 s.bg):=za S 1
         have y4:(F.setCells B (A+t*2) (zf D)).cell? ⟨w.heap.size,2,none⟩=some (.int .i64 s.attr):=za S 2
         have J0:=Qh b6
         have B3:=Qh C1
         have Z:=Qh B0
         have X1:=Qh I1
         have A2:=Qh V
         have L0:=Qh g7
         have Z2:=Qh U
         clear b6 C1 B0 H N I1 S V g7 S0 U))
  have S3:=J0.out.size
  have U:=Z2.out
  have m7:Mod T (fun x=>x=2) F (F.setCells B (A+t*2) (zf D)):=Mod.of_gb L0 (fun k C=>by injection C with C;subst C;exact O)
  have G1:Mod T (fun _=>False) I F:=Mod.of_below ((Below.refl I.heap.size I).drew.trans J0)
  have B2:=Qh (show ∀ x∈Lr++Lo,CAt T (F.setCells B (A+t*2) (zf D)) x from fun x hx=>((Y0 x hx).mod G1 (fun _ _=>id)).mod m7 (fun k _=>by omega))
  have N2:=Qh ((M0.mod G1 id).mod m7 (by decide))
  have E1:=zaz X1 t (zf D) (by rw[zL];omega)
  rw[← zbl]at E1
  have F2:=Qh E1
  have H1:∀ x∈D,∃ q,x.1.ownBlock=some q∧I.heap.size≤q:=fun x hx=>by
    obtain⟨q,e1,_⟩:=Z.out.ap x hx
    exact⟨q,e1,(zg (Z.cells x hx) q e1).1⟩
  have H2:=Qh H1
  have Y1:=Qh (show ∀ x∈D,zp (F.setCells B (A+t*2) (zf D)) 0 5 x.1 x.2.cells.length (zt x.2.cells) from fun x hx=>zP (zi (Z.cells x hx) L0 (fun k C e=>by
    obtain⟨q,e1,e2⟩:=H1 x hx
    rw[e1]at C;injection C with C;injection e with e;omega)) (Nat.zero_le _))
  have A3:=Qh (((N1.trans (zh.of_below (Below.refl I.heap.size I).drew)).trans (zh.of_below J0)).trans (zh.of_gb L0 (fun k C=>by injection C with C;subst C;exact .inl (by omega))))
  have N3:=zaG F B (A+t*2) (zf D)
  have O2:=Qh Z.nd
  have Y:=Qh M
  clear V0 y0 y1 y2 y3 y4 z0 z1 z2 z3 z4 m7 G1 E1 H1 q0 q1 q2 c0 c2 A1 X1 M0 Y0 C2 J0 Z L0 N1 X L M G2 J2 T0 U0
  generalize F.setCells B (A+t*2) (zf D)=w7 at *
  have HU:=Qh (zo7 Lr D t b R F1 U2 Y2 J1 U)
  have C3:=Qh (show(dnL Lr t b R D).map (·.2)=Z7 g.rows t b R g.cols s by
    rw[HU.out]
    unfold Z7
    rw[List.map_append,List.map_append,List.map_append,List.map_take,List.map_take,List.map_drop,List.map_drop,Y.out.er,B3.out])
  have T2:=Qh (show(dnL Lr t b R D).length=Lr.length by
    unfold dnL
    rw[ZV _ _ _ (by rw[ZV _ _ _ (by rw[hM];omega)];omega),ZV _ _ _ (by rw[hM];omega)])
  have HUM:=Qh (show ∀ x∈dnL Lr t b R D,x∈Lr∨x∈D from fun x hx=>by
    unfold dnL at hx
    rcases zbn hx with hx | hx
    · rcases zbn hx with hx | hx
      · exact .inl hx
      · exact .inl (List.mem_of_mem_drop (List.mem_of_mem_take hx))
    · exact .inr hx)
  have I0:w.heap.size≤w7.heap.size:=by omega
  have O0:∀ k,vo.ownBlock=some k→T k=3:=Y.out.ro.tag
  have D1:∀ k,T k≠0→k<w.heap.size:=Y.out.lt
  have U1:g.down t b n s=⟨g.cols,g.limit,Z7 g.rows t b R g.cols s,g.old⟩:=by
    rw[S2.out,Int.toNat_natCast,Int.toNat_natCast]
  have Z0:∃ T',GM T' p w7 (g.down t b n s)∧∀ k,T' k≠0→own T w k:=by
    rw[U1]
    refine zcS (vr:=.slice (some ⟨B,A,none⟩) Lr.length c) (vo:=vo) (Lr:=dnL Lr t b R D) (Lo:=Lo) D1 D0 I0 A2 ?_ N2.own (fun k C=>?_) (fun k C=>.inl (O0 k C)) (fun x hx=>?_) ?_ C3 Y.eo (zou E0 t b R s F1 (by omega) J1)
    · rw[T2.out];exact F2
    · simp[Value.ownBlock]at C
      subst C
      exact .inl O
    · have N0:x∈Lr++Lo→zp w7 0 5 x.1 x.2.cells.length (zt x.2.cells)∧∃ q,x.1.ownBlock=some q∧((q<w.heap.size∧T q=10+q)∨(w.heap.size≤q∧vo.ownBlock≠some q∧(Value.slice (some ⟨B,A,none⟩) Lr.length c).ownBlock≠some q)):=fun hx=>by
        have hc:=B2.out x hx
        obtain⟨q,e1,e2⟩:=hc.tag
        exact⟨hc.own,q,e1,.inl ⟨D1 q (by omega),e2⟩⟩
      have M1:x∈D→zp w7 0 5 x.1 x.2.cells.length (zt x.2.cells)∧∃ q,x.1.ownBlock=some q∧((q<w.heap.size∧T q=10+q)∨(w.heap.size≤q∧vo.ownBlock≠some q∧(Value.slice (some ⟨B,A,none⟩) Lr.length c).ownBlock≠some q)):=fun hx=>by
        obtain⟨q,e1,e2⟩:=H2.out x hx
        refine⟨Y1 x hx,q,e1,.inr ⟨by omega,fun e=>?_,fun e=>?_⟩⟩
        · have:=D1 q (by rw[O0 q e];decide);omega
        · simp[Value.ownBlock]at e;omega
      rcases List.mem_append.1 hx with hx | hx
      · rcases HUM.out x hx with h | h
        · exact N0 (List.mem_append_left _ h)
        · exact M1 h
      · exact N0 (List.mem_append_right _ hx)
    · rw[HU.out]
      refine znn Lr Lo D t b R w.heap.size F1 J1 Y.nd (fun x hx k C=>?_) O2 (fun x hx=>?_)
      · exact(zg (Y.ca x hx).own k C).2
      · obtain⟨q,e1,e2⟩:=H2.out x hx
        exact⟨q,e1,by omega⟩
  have HF:=Qh Z0
  clear Z0 U1
  go_wp2_with fail
  go_end0
  exact⟨rfl,A3,HF⟩
end
section
open Go.RowKit
theorem zgq (l:List Cel) (mark:Int):zau l mark=if mark<(l.length:Int)-1∧l≠[]∧ZI (l.getD (l.length-1) noC)=true then zau (l.take (l.length-1)) mark else l:=by
 cases l with
 | nil=>rw[if_neg (fun e=>e.2.1 rfl)];rfl
 | cons c l =>
  have A:((c::l).take ((c::l).length-1)).length=l.length:=(by rw[List.length_take,List.length_cons];omega);unfold zau;rw[A];rfl
theorem zgr (n:Nat) (l:List Cel) (mark:Int):∃ k,k≤l.length∧ze9 n l mark=l.take k:=by
 induction n generalizing l with
 | zero=>exact⟨l.length,Nat.le_refl _,(List.take_length (l:=l)).symm⟩
 | succ n ih =>
  unfold ze9;split
  ·obtain⟨k,A,e⟩:=ih (l.take (l.length-1));rw[List.length_take]at A;refine⟨k,by omega,?_⟩;rw[e,List.take_take,Nat.min_eq_left (by omega)]
  ·exact⟨l.length,Nat.le_refl _,(List.take_length (l:=l)).symm⟩
theorem zg8 (l:List Cel) (mark:Int):(zau l mark).length≤l.length:=by
 obtain⟨k,A,e⟩:=zgr l.length l mark;unfold zau;rw[e,List.length_take];omega
theorem ze7 {l:List Cel} {mark:Int} {c:Cel} (h:c∈zau l mark):c∈l:=by
 obtain⟨k,A,e⟩:=zgr l.length l mark;unfold zau at h;rw[e]at h;exact List.mem_of_mem_take h
theorem zjZ (l:List Rw) (py:Int):zbs l.length l py=if py<(l.length:Int)-1∧l≠[]∧(l.getD (l.length-1) noR).wrap=false∧(l.getD (l.length-1) noR).cells.all ZI=true then zbs (l.take (l.length-1)).length (l.take (l.length-1)) py else l:=by
 cases l with
 | nil=>rw[if_neg (fun e=>e.2.1 rfl)];rfl
 | cons c l =>
  have A:((c::l).take ((c::l).length-1)).length=l.length:=(by rw[List.length_take,List.length_cons];omega);rw[A];have B:zbs (c::l).length (c::l) py=if py<((c::l).length:Int)-1∧((c::l).getD ((c::l).length-1) noR).wrap=false∧((c::l).getD ((c::l).length-1) noR).cells.all ZI=true then zbs l.length ((c::l).take ((c::l).length-1)) py else c::l:=rfl
  rw[B];simp only[ne_eq,reduceCtorEq,not_false_eq_true,true_and]
def Rw.Good (cols:Nat) (r:Rw):Prop:=r.cells.length=cols∧∀ c∈r.cells,c.Ok
structure SpI (cols:Nat) (st:Sp):Prop where
 cur:st.cur.length≤cols
 ok:∀ c∈st.cur,c.Ok
 done:∀ r∈st.done,r.Good cols
 told:∀ q,st.told=some q→0≤q.2∧q.2≤(st.done.length:Int)
theorem zkC {cols:Nat} {mark:Int} {st:Sp} (h:SpI cols st) (i:Nat) (c:Cel) (hc:c.Ok) (h1:1≤cols):SpI cols (za2 cols mark st i c)∧(za2 cols mark st i c).done.length≤st.done.length+1:=by
 unfold za2;generalize A:(if c.width=2∧st.cur.length=cols-1 then st.cur++[zM plainS] else st.cur)=cur1;have B:cur1.length≤cols∧∀ c∈cur1,c.Ok:=by
  rw[← A];split
  ·rename_i h2;refine⟨by rw[List.length_append];simp;omega,fun x hx=>?_⟩;rcases List.mem_append.1 hx with hx | hx
   ·exact h.ok x hx
   ·rw[List.mem_singleton]at hx;subst hx;exact zaV _
  ·exact⟨h.cur,h.ok⟩
 dsimp only;by_cases hf:cur1.length=cols
 ·simp only[if_pos hf];refine⟨⟨by show([]++[c]).length≤cols;simpa using h1,fun x hx=>?_,fun r hr=>?_,fun q hq=>?_⟩,by rw[List.length_append];simp⟩
  ·simp only[List.nil_append,List.mem_singleton]at hx;subst hx;exact hc
  ·rcases List.mem_append.1 hr with hr | hr
   ·exact h.done r hr
   ·rw[List.mem_singleton]at hr;subst hr;exact⟨hf,B.2⟩
  ·dsimp only at hq;split at hq
   ·injection hq with hq;subst hq;dsimp only;omega
   ·have:=h.told q hq;rw[List.length_append];simp;omega
 ·simp only[if_neg hf];refine⟨⟨by rw[List.length_append];simp;omega,fun x hx=>?_,h.done,fun q hq=>?_⟩,by omega⟩
  ·rcases List.mem_append.1 hx with hx | hx
   ·exact B.2 x hx
   ·rw[List.mem_singleton]at hx;subst hx;exact hc
  ·dsimp only at hq;split at hq
   ·injection hq with hq;subst hq;dsimp only;omega
   ·exact h.told q hq
theorem zno {cols:Nat} {mark:Int} {st:Sp} (h:SpI cols st) (i:Nat) (c:Cel) (hc:c.Ok) (h1:1≤cols):SpI cols (ZC cols mark st i c)∧(ZC cols mark st i c).done.length≤st.done.length+1:=by
 unfold ZC;split
 ·split
  ·refine⟨⟨h.cur,h.ok,h.done,fun q hq=>?_⟩,by dsimp only;omega⟩;dsimp only at hq;split at hq
   ·injection hq with hq;subst hq;dsimp only;omega
   ·exact h.told q hq
  ·exact zkC h i _ (zaV _) h1
 ·exact zkC h i c hc h1
theorem zov {cols:Nat} {mark:Int} (l:List Cel) (hl:∀ c∈l,c.Ok) (h1:1≤cols):∀ (st:Sp) (i:Nat),SpI cols st→SpI cols (zbk cols mark st i l)∧(zbk cols mark st i l).done.length≤st.done.length+l.length:=by
 induction l with
 | nil=>intro st i h;exact⟨h,Nat.le_refl _⟩
 | cons c l ih =>
  intro st i h;obtain⟨a,b⟩:=zno (mark:=mark) h i c (hl c (List.mem_cons_self ..)) h1;obtain⟨A,B⟩:=ih (fun x hx=>hl x (List.mem_cons_of_mem _ hx)) _ (i+1) a;refine⟨A,?_⟩;show(zbk cols mark (ZC cols mark st i c) (i+1) l).done.length≤_;rw[List.length_cons];omega
theorem ziY (l:List Cel) (cols:Nat) (mark:Int) (hl:∀ c∈l,c.Ok) (h1:1≤cols):SpI cols (Z2 l cols mark)∧(Z2 l cols mark).done.length≤l.length:=by
 have:=zov (mark:=mark) l hl h1 ⟨[],[],none⟩ 0 ⟨by simp,by simp,by simp,by simp⟩;refine⟨this.1,?_⟩;have A:=this.2;simp only[List.length_nil,Nat.zero_add]at A;exact A
theorem zg9 (cols:Nat) (st:Sp):(zaN cols st).length=st.done.length+1:=by unfold zaN;simp
theorem zj0 {cols:Nat} {st:Sp} (h:SpI cols st):∀ r∈zaN cols st,r.Good cols:=fun r hr=>by
 unfold zaN at hr;rcases List.mem_append.1 hr with hr | hr
 ·exact h.done r hr
 ·rw[List.mem_singleton]at hr;subst hr;refine⟨?_,fun c hc=>?_⟩
  ·show(st.cur++List.replicate _ _).length=cols;rw[List.length_append,List.length_replicate];have:=h.cur;omega
  ·rcases List.mem_append.1 hc with hc | hc
   ·exact h.ok c hc
   ·rw[List.eq_of_mem_replicate hc];exact zaV _
theorem zhI (l:List Rw) (is:Bool):(ZK l is).length=l.length:=by unfold ZK;rw[List.length_set]
theorem zgB {cols:Nat} {l:List Rw} (is:Bool) (hne:l≠[]) (h:∀ r∈l,r.Good cols):∀ r∈ZK l is,r.Good cols:=fun r hr=>by
 unfold ZK at hr;rcases List.mem_or_eq_of_mem_set hr with hr | hr
 ·exact h r hr
 ·have hm:l.getD (l.length-1) noR∈l:=by
   have:0<l.length:=List.length_pos_iff.2 hne;rw[List.getD_eq_getElem?_getD,List.getElem?_eq_getElem (by omega)];exact List.getElem_mem _
  have A:=h _ hm;rw[hr];exact⟨A.1,A.2⟩
structure FlI (cols:Nat) (st:Fl):Prop where
 good:∀ r∈st.out,r.Good cols
 p0:0≤st.py
 p1:st.py≤(st.out.length:Int)
theorem zkD {cols:Nat} {st:Fl} (h:FlI cols st) (line:List Cel) (mark:Int) (wrap:Bool) (hl:∀ c∈line,c.Ok) (h1:1≤cols):FlI cols (zaD cols line mark wrap st)∧(zaD cols line mark wrap st).out.length≤st.out.length+line.length+1∧st.out.length+1≤(zaD cols line mark wrap st).out.length∧(zaD cols line mark wrap st).py<(zaD cols line mark wrap st).out.length:=by
 obtain⟨a,b⟩:=ziY (zau line mark) cols mark (fun c hc=>hl c (ze7 hc)) h1;have C:=zg8 line mark;have e:(zaD cols line mark wrap st).out=st.out++ZK (zaN cols (Z2 (zau line mark) cols mark)) wrap:=rfl;have B:(zaD cols line mark wrap st).out.length=st.out.length+(Z2 (zau line mark) cols mark).done.length+1:=by
  rw[e,List.length_append,zhI,zg9];omega
 have D:(zaD cols line mark wrap st).py=match (Z2 (zau line mark) cols mark).told with | some q=>(st.out.length:Int)+q.2 | none=>st.py:=rfl
 have A:0≤(zaD cols line mark wrap st).py∧(zaD cols line mark wrap st).py<(zaD cols line mark wrap st).out.length:=by
  rw[B,D];split
  ·rename_i q hq;have:=a.told q hq;show 0≤(st.out.length:Int)+q.2∧(st.out.length:Int)+q.2<_;omega
  ·have:=h.p0;have:=h.p1;omega
 refine⟨⟨fun r hr=>?_,A.1,by omega⟩,by omega,by omega,A.2⟩;rw[e]at hr;rcases List.mem_append.1 hr with hr | hr
 ·exact h.good r hr
 ·exact zgB wrap (by unfold zaN;simp) (zj0 a) r hr
theorem zow {cols:Nat} {place atx:Int} (h1:1≤cols) (m:Nat) (l:List Rw) (hl:∀ r∈l,r.Good m):∀ (i:Nat) (line:List Cel) (mark:Int) (st:Fl),FlI cols st→(∀ c∈line,c.Ok) →
  FlI cols (Z8 cols place atx l i line mark st)∧(l≠[]→(Z8 cols place atx l i line mark st).py<(Z8 cols place atx l i line mark st).out.length):=by
 induction l with
 | nil=>intro i line mark st h _;exact⟨h,fun e=>absurd rfl e⟩
 | cons r l ih =>
  intro i line mark st h E;have F:=hl r (List.mem_cons_self ..);have B:∀ c∈line++r.cells,c.Ok:=fun c hc=>by
   rcases List.mem_append.1 hc with hc | hc
   ·exact E c hc
   ·exact F.2 c hc
  have A:=ih (fun x hx=>hl x (List.mem_cons_of_mem _ hx));show FlI cols (if _ then _ else _)∧(_→(if _ then _ else _:Fl).py<(if _ then _ else _:Fl).out.length);by_cases hc:r.wrap=false∨l=[]
  ·simp only[if_pos hc];obtain⟨a,_,_,d⟩:=zkD h (line++r.cells) (if (i:Int)=place then (line.length:Int)+atx else mark) r.wrap B h1;obtain⟨C,D⟩:=A (i+1) [] (-1) _ a (by simp);refine⟨C,fun _=>?_⟩;by_cases hne:l=[]
   ·subst hne;exact d
   ·exact D hne
  ·simp only[if_neg hc];have hne:l≠[]:=fun e=>hc (.inr e);obtain⟨C,D⟩:=A (i+1) (line++r.cells) (if (i:Int)=place then (line.length:Int)+atx else mark) st h B;exact⟨C,fun _=>D hne⟩
theorem zox {g:Gr} (h:g.WF) (cols rows:Nat) (out:List Rw) (first:Nat) (c1:1≤cols) (c2:cols≤250) (r1:1≤rows) (r2:rows≤120) (hg:∀ r∈out,r.Good cols) :
  (⟨cols,g.limit,(out.drop first).take rows++zW (rows-((out.drop first).take rows).length) cols plainS,zaC g.limit (out.take first)⟩:Gr).WF:=by
 have A:((out.drop first).take rows).length≤rows:=(by rw[List.length_take];omega);refine⟨c1,c2,?_,?_,h.li,?_,fun r hr=>?_⟩
 ·show 1≤(_++zW _ _ _).length;unfold zW;rw[List.length_append,List.length_replicate];omega
 ·show(_++zW _ _ _).length≤120;unfold zW;rw[List.length_append,List.length_replicate];omega
 ·show(zaC g.limit _).length≤g.limit;unfold zaC;rw[List.length_drop];omega
 ·have hr:r∈((out.drop first).take rows++zW (rows-((out.drop first).take rows).length) cols plainS)++zaC g.limit (out.take first):=hr;show r.cells.length=cols∧_;rcases List.mem_append.1 hr with hr | hr
  ·rcases List.mem_append.1 hr with hr | hr
   ·exact hg r (List.mem_of_mem_drop (List.mem_of_mem_take hr))
   ·unfold zW at hr;rw[List.eq_of_mem_replicate hr];exact⟨List.length_replicate,fun c hc=>by rw[List.eq_of_mem_replicate hc];exact zaV _⟩
  ·unfold zaC at hr;exact hg r (List.mem_of_mem_take (List.mem_of_mem_drop hr))
end
end Go.Proofs.YthehkmopdeebmaaGreatDoor
