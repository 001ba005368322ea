/- Part. -/
import Derived.Test.YthehkmopdeebmaaGreatDoorY20
import Derived.Test.YthehkmopdeebmaaGreatDoorY21
set_option linter.unusedVariables false
set_option linter.unusedSimpArgs false
set_option maxRecDepth 100000
set_option maxHeartbeats 4000000
namespace Go.Proofs.YthehkmopdeebmaaGreatDoor
open _root_.Go.Proofs.Tryz
section
open Go.RowKit
theorem zcO (s:Scr) (f g:Gr→Gr):(s.turn f).turn g=s.turn (fun x=>g (f x)):=by
 unfold Scr.turn;cases s.other <;> rfl
theorem zki (s:Scr):s.turn (fun g=>g)=s:=by
 cases s with
 | mk now main other k0 k1 modes top bottom tabs title last bells out=>cases other <;> rfl
theorem zjr (s:Scr) (f:Gr→Gr):(s.turn f).blank=s.blank:=by unfold Scr.blank;rw[za3]
def Scr.enter (s:Scr):Scr:=if s.inside=true then (s.toX 0).calm else s
def Scr.opened (s:Scr) (n:Int):Scr:=if s.inside=true then ((s.toX 0).calm).turn (fun g=>g.down s.now.y s.bottom n s.blank) else s
def Scr.shutted (s:Scr) (n:Int):Scr:=if s.inside=true then ((s.toX 0).calm).turn (fun g=>g.up s.now.y s.bottom n s.blank false) else s
theorem zh4 {B:World} {C:Nat→Nat} {p c r:Nat} {w:World} {s:Scr} {ps:PSt} (h:SR B C p w s ps) (hok:s.Ok c r) (n:Int) :
  Calls prog 201 #[.pointer (some ⟨p,0,none⟩),.int .i64 n] w fun e w'=>e=.returned (.tuple #[])∧zy B C p w w' (s.turn (fun g=>g.ins s.now.x s.now.y n s.blank)).calm ps:=by
 have HR:=Qh h;have L:w.cell? ⟨p,0,none⟩=some (.int .i64 s.now.x):=h.at_ 0 _;have I:w.cell? ⟨p,1,none⟩=some (.int .i64 s.now.y):=h.at_ 1 _;obtain⟨T,q,Y,hq,F⟩:=h.grid;have HG:=Qh Y;have HQ:=Qh hq;have HK:=Qh F;have M:=Qh (h.blankR hok);clear Y hq F;clear h;go_enter func201,ntmps201;go_upto_region 0 with fail
 go_region_held3 (fun w'=>w'.cell? ⟨p,0,none⟩=some (.int .i64 s.now.x)∧w'.cell? ⟨p,1,none⟩=some (.int .i64 s.now.y)) (first | exact⟨L,I⟩ | exact⟨N,O⟩)
  (first
   | (go_at_call 56;refine(z8 (w:=w.drew) HQ).mono ?_;rintro e w4 ⟨rfl,rfl⟩)
   | (go_at_call 144;refine(ZG (HR.below (Below.refl _ _).drew)).mono ?_;rintro e w5 ⟨rfl,H⟩;have A:=Qh ((Below.refl w.heap.size w).drew.trans H);have N:=zc H L;have O:=zc H I;clear H)
   | (go_at_call 143;refine(zj9 (HG.below A) _ _ _ _ (M.below A)).mono ?_;rintro e Z ⟨rfl,E,R⟩;obtain⟨S,D⟩:=HK.out _ _ _ (fun g=>g.ins s.now.x s.now.y n s.blank) A E R (fun k F=>.inl F);have HD:=Qh S;have N:=(zw D 0).trans L;have O:=(zw D 1).trans I;clear E R D S))
 obtain⟨C1,G,X⟩:=HD.out;have c2:Z.cell? ⟨p,2,none⟩=some (.bool (s.turn (fun g=>g.ins s.now.x s.now.y n s.blank)).now.wait):=G.at_ 2 _;have f2:=G.fz 2;obtain⟨U,V⟩:=G.set 2 (.bool false) (s.turn (fun g=>g.ins s.now.x s.now.y n s.blank)).calm;have J:=Qh (show zy B C p w _ _ ps from⟨C1,U,X.trans V⟩);clear G X U V;go_wp2_with fail;go_end0;exact⟨rfl,J⟩
theorem zh5 {B:World} {C:Nat→Nat} {p c r:Nat} {w:World} {s:Scr} {ps:PSt} (h:SR B C p w s ps) (hok:s.Ok c r) (n:Int) :
  Calls prog 202 #[.pointer (some ⟨p,0,none⟩),.int .i64 n] w fun e w'=>e=.returned (.tuple #[])∧zy B C p w w' (s.turn (fun g=>g.del s.now.x s.now.y n s.blank)).calm ps:=by
 have HR:=Qh h;have L:w.cell? ⟨p,0,none⟩=some (.int .i64 s.now.x):=h.at_ 0 _;have I:w.cell? ⟨p,1,none⟩=some (.int .i64 s.now.y):=h.at_ 1 _;obtain⟨T,q,Y,hq,F⟩:=h.grid;have HG:=Qh Y;have HQ:=Qh hq;have HK:=Qh F;have M:=Qh (h.blankR hok);clear Y hq F;clear h;go_enter func202,ntmps202;go_upto_region 0 with fail
 go_region_held3 (fun w'=>w'.cell? ⟨p,0,none⟩=some (.int .i64 s.now.x)∧w'.cell? ⟨p,1,none⟩=some (.int .i64 s.now.y)) (first | exact⟨L,I⟩ | exact⟨N,O⟩)
  (first
   | (go_at_call 56;refine(z8 (w:=w.drew) HQ).mono ?_;rintro e w4 ⟨rfl,rfl⟩)
   | (go_at_call 144;refine(ZG (HR.below (Below.refl _ _).drew)).mono ?_;rintro e w5 ⟨rfl,H⟩;have A:=Qh ((Below.refl w.heap.size w).drew.trans H);have N:=zc H L;have O:=zc H I;clear H)
   | (go_at_call 230;refine(znE (HG.below A) _ _ _ _ (M.below A)).mono ?_;rintro e Z ⟨rfl,E,R⟩;obtain⟨S,D⟩:=HK.out _ _ _ (fun g=>g.del s.now.x s.now.y n s.blank) A E R (fun k F=>.inl F);have HD:=Qh S;have N:=(zw D 0).trans L;have O:=(zw D 1).trans I;clear E R D S))
 obtain⟨C1,G,X⟩:=HD.out;have c2:Z.cell? ⟨p,2,none⟩=some (.bool (s.turn (fun g=>g.del s.now.x s.now.y n s.blank)).now.wait):=G.at_ 2 _;have f2:=G.fz 2;obtain⟨U,V⟩:=G.set 2 (.bool false) (s.turn (fun g=>g.del s.now.x s.now.y n s.blank)).calm;have J:=Qh (show zy B C p w _ _ ps from⟨C1,U,X.trans V⟩);clear G X U V;go_wp2_with fail;go_end0;exact⟨rfl,J⟩
theorem zjs {B:World} {C:Nat→Nat} {p c r:Nat} {w:World} {s:Scr} {ps:PSt} (h:SR B C p w s ps) (hok:s.Ok c r) (n:Int) :
  Calls prog 203 #[.pointer (some ⟨p,0,none⟩),.int .i64 n] w fun e w'=>e=.returned (.tuple #[])∧zy B C p w w' (s.turn (fun g=>g.erase s.now.x s.now.y n s.blank)).calm ps:=by
 have HR:=Qh h;have L:w.cell? ⟨p,0,none⟩=some (.int .i64 s.now.x):=h.at_ 0 _;have I:w.cell? ⟨p,1,none⟩=some (.int .i64 s.now.y):=h.at_ 1 _;obtain⟨T,q,Y,hq,F⟩:=h.grid;have HG:=Qh Y;have HQ:=Qh hq;have HK:=Qh F;have M:=Qh (h.blankR hok);clear Y hq F;clear h;go_enter func203,ntmps203;go_upto_region 0 with fail
 go_region_held3 (fun w'=>w'.cell? ⟨p,0,none⟩=some (.int .i64 s.now.x)∧w'.cell? ⟨p,1,none⟩=some (.int .i64 s.now.y)) (first | exact⟨L,I⟩ | exact⟨N,O⟩)
  (first
   | (go_at_call 56;refine(z8 (w:=w.drew) HQ).mono ?_;rintro e w4 ⟨rfl,rfl⟩)
   | (go_at_call 144;refine(ZG (HR.below (Below.refl _ _).drew)).mono ?_;rintro e w5 ⟨rfl,H⟩;have A:=Qh ((Below.refl w.heap.size w).drew.trans H);have N:=zc H L;have O:=zc H I;clear H)
   | (go_at_call 231;refine(zdH (HG.below A) _ _ _ _ (M.below A)).mono ?_;rintro e Z ⟨rfl,E,R⟩;obtain⟨S,D⟩:=HK.out _ _ _ (fun g=>g.erase s.now.x s.now.y n s.blank) A E R (fun k F=>.inl F);have HD:=Qh S;have N:=(zw D 0).trans L;have O:=(zw D 1).trans I;clear E R D S))
 obtain⟨C1,G,X⟩:=HD.out;have c2:Z.cell? ⟨p,2,none⟩=some (.bool (s.turn (fun g=>g.erase s.now.x s.now.y n s.blank)).now.wait):=G.at_ 2 _;have f2:=G.fz 2;obtain⟨U,V⟩:=G.set 2 (.bool false) (s.turn (fun g=>g.erase s.now.x s.now.y n s.blank)).calm;have J:=Qh (show zy B C p w _ _ ps from⟨C1,U,X.trans V⟩);clear G X U V;go_wp2_with fail;go_end0;exact⟨rfl,J⟩
theorem zfk {B:World} {C:Nat→Nat} {p c r:Nat} {w:World} {s:Scr} {ps:PSt} (h:SR B C p w s ps) (hok:s.Ok c r) :
  Calls prog 232 #[.pointer (some ⟨p,0,none⟩)] w fun e w'=>e=.returned (.bool s.inside)∧zy B C p w w' s.enter ps:=by
 have L:=Qh h;by_cases hl:s.now.y<s.top
 ·have J:decide (s.now.y<s.top)=true:=Qt hl;have F:=Qh (show s.inside=false by unfold Scr.inside;rw[J];rfl);have G:w.cell? ⟨p,1,none⟩=some (.int .i64 s.now.y):=h.at_ 1 _;have A:w.cell? ⟨p,33,none⟩=some (.int .i64 s.top):=h.at_ 33 _;have D:w.cell? ⟨p,34,none⟩=some (.int .i64 s.bottom):=h.at_ 34 _;clear h hok;go_enter func232,ntmps232;go_upto_region 1 with fail;go_quiet (fail);have E:=Qh (zm (Below.refl w.heap.size w) nq);have h:=L.out.below E;generalize w.drewN nq=I at *;clear G A D;have H:=Qh (show zy B C p w _ s.enter ps by unfold Scr.enter;rw[if_neg (by rw[F.out];decide)];exact .after ((Pre.refl _ _).below E) (.refl h));clear h;go_wp2_with fail;go_ret;exact⟨ZQ F.out.symm,H⟩
 ·have J:decide (s.now.y<s.top)=false:=Qf hl;by_cases hh:s.bottom<s.now.y
  ·have M:decide (s.bottom<s.now.y)=true:=Qt hh;have F:=Qh (show s.inside=false by unfold Scr.inside;rw[J,M];rfl);have G:w.cell? ⟨p,1,none⟩=some (.int .i64 s.now.y):=h.at_ 1 _;have A:w.cell? ⟨p,33,none⟩=some (.int .i64 s.top):=h.at_ 33 _;have D:w.cell? ⟨p,34,none⟩=some (.int .i64 s.bottom):=h.at_ 34 _;clear h hok;go_enter func232,ntmps232;go_upto_region 1 with fail;go_quiet (fail);have E:=Qh (zm (Below.refl w.heap.size w) nq);have h:=L.out.below E;generalize w.drewN nq=I at *;clear G A D;have H:=Qh (show zy B C p w _ s.enter ps by unfold Scr.enter;rw[if_neg (by rw[F.out];decide)];exact .after ((Pre.refl _ _).below E) (.refl h));clear h;go_wp2_with fail;go_ret;exact⟨ZQ F.out.symm,H⟩
  ·have M:decide (s.bottom<s.now.y)=false:=Qf hh;have F:=Qh (show s.inside=true by unfold Scr.inside;rw[J,M];rfl);have G:w.cell? ⟨p,1,none⟩=some (.int .i64 s.now.y):=h.at_ 1 _;have A:w.cell? ⟨p,33,none⟩=some (.int .i64 s.top):=h.at_ 33 _;have D:w.cell? ⟨p,34,none⟩=some (.int .i64 s.bottom):=h.at_ 34 _;clear h hok;go_enter func232,ntmps232;go_upto_region 1 with fail;go_quiet (fail);have E:=Qh (zm (Below.refl w.heap.size w) nq);have h:=L.out.below E;generalize w.drewN nq=I at *;clear G A D;have V:I.cell? ⟨p,0,none⟩=some (.int .i64 s.now.x):=h.at_ 0 _;have T:I.cell? ⟨p,2,none⟩=some (.bool s.now.wait):=h.at_ 2 _;have X:=h.fz 0;have U:=h.fz 2;obtain⟨N,S⟩:=h.set 0 (.int .i64 0) (s.toX 0);obtain⟨O,R⟩:=N.set 2 (.bool false) (s.toX 0).calm;have H:=Qh (show zy B C p w _ s.enter ps by unfold Scr.enter;rw[if_pos F.out];exact .after ((Pre.refl _ _).below E) ⟨C,O,S.trans R⟩);clear h N O S R;go_wp2_with fail;go_ret;exact⟨ZQ F.out.symm,H⟩
theorem zlf {B:World} {C:Nat→Nat} {p c r:Nat} {w:World} {s:Scr} {ps:PSt} (h:SR B C p w s ps) (hok:s.Ok c r) (n:Int) :
  Calls prog 204 #[.pointer (some ⟨p,0,none⟩),.int .i64 n] w fun e w'=>e=.returned (.tuple #[])∧zy B C p w w' (s.opened n) ps:=by
 have I:=Qh (zfk h hok);have L:=h.nums hok;have N:=Qh ((hok.toX (x:=0) (by omega) (by rw[(L.ok hok).1];have:=L.c1;omega)).calm);clear L;cases hb:s.inside
 ·rw[hb]at I;have O:=Qh (show s.enter=s by unfold Scr.enter;rw[hb];rfl);have E:=Qh (show s.opened n=s by unfold Scr.opened;rw[hb];rfl);clear h hok hb;go_enter func204,ntmps204;go_wp2_with fail;refine I.mono ?_;rintro e w2 ⟨rfl,G⟩;rw[O.out]at G;have S:=Qh G;clear G;go_wp2_with fail;go_end0;rw[E.out];exact⟨rfl,S⟩
 ·rw[hb]at I;have O:=Qh (show s.enter=(s.toX 0).calm by unfold Scr.enter;rw[hb];rfl);have E:=Qh (show s.opened n=((s.toX 0).calm).turn (fun g=>g.down s.now.y s.bottom n s.blank) by unfold Scr.opened;rw[hb];rfl);clear h hok hb;go_enter func204,ntmps204;go_wp2_with fail;refine I.mono ?_;rintro e w ⟨rfl,G⟩;rw[O.out]at G;obtain⟨C2,h,p2⟩:=G;have P2:=Qh p2;have HR:=Qh h;have hok:=N.out;clear p2;have M:w.cell? ⟨p,1,none⟩=some (.int .i64 s.now.y):=h.at_ 1 _;have F:w.cell? ⟨p,34,none⟩=some (.int .i64 s.bottom):=h.at_ 34 _;obtain⟨T,q,hg,hq,U⟩:=h.grid;have HG:=Qh hg;have HQ:=Qh hq;have HK:=Qh U;have R:=Qh (h.blankR hok);clear hg hq U;clear h hok;go_upto_region 1 with fail
  go_region_held3 (fun w'=>w'.cell? ⟨p,1,none⟩=some (.int .i64 s.now.y)∧w'.cell? ⟨p,34,none⟩=some (.int .i64 s.bottom)) (first | exact⟨M,F⟩ | exact⟨V,X⟩)
   (first
    | (go_at_call 56;refine(z8 (w:=w.drew) HQ).mono ?_;rintro e w4 ⟨rfl,rfl⟩)
    | (go_at_call 144;refine(ZG (HR.below (Below.refl _ _).drew)).mono ?_;rintro e w5 ⟨rfl,J⟩;have A:=Qh ((Below.refl w.heap.size w).drew.trans J);have V:=zc J M;have X:=zc J F;clear J)
    | (go_at_call 228;refine(zgp (HG.below A) _ _ _ _ (R.below A)).mono ?_;rintro e w6 ⟨rfl,H,T6,Y,n6⟩;obtain⟨Z,D⟩:=HK.out _ _ _ (fun g=>g.down s.now.y s.bottom n s.blank) A H Y n6;have S:=Qh Z;have V:=(zw D 1).trans M;have X:=(zw D 34).trans F;clear H T6 Y n6 D Z))
  go_wp2_with fail;go_end0;rw[E.out];exact⟨rfl,.after P2 S⟩
theorem zlg {B:World} {C:Nat→Nat} {p c r:Nat} {w:World} {s:Scr} {ps:PSt} (h:SR B C p w s ps) (hok:s.Ok c r) (n:Int) :
  Calls prog 205 #[.pointer (some ⟨p,0,none⟩),.int .i64 n] w fun e w'=>e=.returned (.tuple #[])∧zy B C p w w' (s.shutted n) ps:=by
 have I:=Qh (zfk h hok);have L:=h.nums hok;have N:=Qh ((hok.toX (x:=0) (by omega) (by rw[(L.ok hok).1];have:=L.c1;omega)).calm);clear L;cases hb:s.inside
 ·rw[hb]at I;have O:=Qh (show s.enter=s by unfold Scr.enter;rw[hb];rfl);have E:=Qh (show s.shutted n=s by unfold Scr.shutted;rw[hb];rfl);clear h hok hb;go_enter func205,ntmps205;go_wp2_with fail;refine I.mono ?_;rintro e w2 ⟨rfl,G⟩;rw[O.out]at G;have S:=Qh G;clear G;go_wp2_with fail;go_end0;rw[E.out];exact⟨rfl,S⟩
 ·rw[hb]at I;have O:=Qh (show s.enter=(s.toX 0).calm by unfold Scr.enter;rw[hb];rfl);have E:=Qh (show s.shutted n=((s.toX 0).calm).turn (fun g=>g.up s.now.y s.bottom n s.blank false) by unfold Scr.shutted;rw[hb];rfl);clear h hok hb;go_enter func205,ntmps205;go_wp2_with fail;refine I.mono ?_;rintro e w ⟨rfl,G⟩;rw[O.out]at G;obtain⟨C2,h,p2⟩:=G;have P2:=Qh p2;have HR:=Qh h;have hok:=N.out;clear p2;have M:w.cell? ⟨p,1,none⟩=some (.int .i64 s.now.y):=h.at_ 1 _;have F:w.cell? ⟨p,34,none⟩=some (.int .i64 s.bottom):=h.at_ 34 _;obtain⟨T,q,hg,hq,U⟩:=h.grid;have HG:=Qh hg;have HQ:=Qh hq;have HK:=Qh U;have R:=Qh (h.blankR hok);clear hg hq U;clear h hok;go_upto_region 1 with fail
  go_region_held3 (fun w'=>w'.cell? ⟨p,1,none⟩=some (.int .i64 s.now.y)∧w'.cell? ⟨p,34,none⟩=some (.int .i64 s.bottom)) (first | exact⟨M,F⟩ | exact⟨V,X⟩)
   (first
    | (go_at_call 56;refine(z8 (w:=w.drew) HQ).mono ?_;rintro e w4 ⟨rfl,rfl⟩)
    | (go_at_call 144;refine(ZG (HR.below (Below.refl _ _).drew)).mono ?_;rintro e w5 ⟨rfl,J⟩;have A:=Qh ((Below.refl w.heap.size w).drew.trans J);have V:=zc J M;have X:=zc J F;clear J)
    | (go_at_call 186;refine(zi1 (HG.below A) _ _ _ _ (R.below A) _).mono ?_;rintro e w6 ⟨rfl,H,T6,Y,n6⟩;obtain⟨Z,D⟩:=HK.out _ _ _ (fun g=>g.up s.now.y s.bottom n s.blank false) A H Y n6;have S:=Qh Z;have V:=(zw D 1).trans M;have X:=(zw D 34).trans F;clear H T6 Y n6 D Z))
  go_wp2_with fail;go_end0;rw[E.out];exact⟨rfl,.after P2 S⟩
theorem zh6 {B:World} {C:Nat→Nat} {p c r:Nat} {w:World} {s:Scr} {ps:PSt} (h:SR B C p w s ps) (hok:s.Ok c r) (n:Int) :
  Calls prog 206 #[.pointer (some ⟨p,0,none⟩),.int .i64 n] w fun e w'=>e=.returned (.tuple #[])∧zy B C p w w' (s.turn (fun g=>g.up s.top s.bottom n s.blank s.other.isNone)) ps:=by
 have Z:=Qh h;have E:w.cell? ⟨p,33,none⟩=some (.int .i64 s.top):=h.at_ 33 _;have F:w.cell? ⟨p,34,none⟩=some (.int .i64 s.bottom):=h.at_ 34 _;obtain⟨T,q,U,hq,L⟩:=h.grid;have X:=Qh U;have HQ:=Qh hq;have V:=Qh L;have I:=Qh (h.blankR hok);have HOT:=Qh h.oth;clear U hq L;clear h;rcases HOT.out with ⟨c11,hno⟩ | ⟨qo,c11,hno⟩
 all_goals
  rw[hno];clear hno;go_enter func206,ntmps206;go_upto_region 0 with fail
  go_region_held3 (fun w'=>w'.cell? ⟨p,33,none⟩=some (.int .i64 s.top)∧w'.cell? ⟨p,34,none⟩=some (.int .i64 s.bottom)∧w'.cell? ⟨p,11,none⟩=w.cell? ⟨p,11,none⟩) (first | exact⟨E,F,rfl⟩ | exact⟨M,N,J⟩)
   (first
    | (go_at_call 56;refine(z8 (w:=w.drew) HQ).mono ?_;rintro e w4 ⟨rfl,rfl⟩)
    | (go_at_call 144;refine(ZG (Z.below (Below.refl _ _).drew)).mono ?_;rintro e w5 ⟨rfl,H⟩;have D:=Qh ((Below.refl w.heap.size w).drew.trans H);have M:=zc H E;have N:=zc H F;have J:=(zc H c11).trans c11.symm;clear H)
    | (go_at_call 186;refine(zi1 (X.below D) _ _ _ _ (I.below D) _).mono ?_;rintro e w6 ⟨rfl,G,Y,O,S⟩;obtain⟨R,A⟩:=V.out _ _ _ (fun g=>g.up s.top s.bottom n s.blank _) D G O S;have HD:=Qh R;have M:=(zw A 33).trans E;have N:=(zw A 34).trans F;have J:=zw A 11;clear G Y O S A R))
  go_wp2_with fail;go_end0;exact⟨rfl,HD⟩
theorem zgw {B:World} {C:Nat→Nat} {p c r:Nat} {w:World} {s:Scr} {ps:PSt} (h:SR B C p w s ps) (hok:s.Ok c r) (n:Int) :
  Calls prog 207 #[.pointer (some ⟨p,0,none⟩),.int .i64 n] w fun e w'=>e=.returned (.tuple #[])∧zy B C p w w' (s.turn (fun g=>g.down s.top s.bottom n s.blank)) ps:=by
 have Y:=Qh h;have E:w.cell? ⟨p,33,none⟩=some (.int .i64 s.top):=h.at_ 33 _;have F:w.cell? ⟨p,34,none⟩=some (.int .i64 s.bottom):=h.at_ 34 _;obtain⟨T,q,S,hq,J⟩:=h.grid;have V:=Qh S;have Z:=Qh hq;have U:=Qh J;have I:=Qh (h.blankR hok);clear S hq J;clear h;go_enter func207,ntmps207;go_upto_region 0 with fail
 go_region_held3 (fun w'=>w'.cell? ⟨p,33,none⟩=some (.int .i64 s.top)∧w'.cell? ⟨p,34,none⟩=some (.int .i64 s.bottom)) (first | exact⟨E,F⟩ | exact⟨L,M⟩)
  (first
   | (go_at_call 56;refine(z8 (w:=w.drew) Z).mono ?_;rintro e w4 ⟨rfl,rfl⟩)
   | (go_at_call 144;refine(ZG (Y.below (Below.refl _ _).drew)).mono ?_;rintro e w5 ⟨rfl,H⟩;have A:=Qh ((Below.refl w.heap.size w).drew.trans H);have L:=zc H E;have M:=zc H F;clear H)
   | (go_at_call 228;refine(zgp (V.below A) _ _ _ _ (I.below A)).mono ?_;rintro e w6 ⟨rfl,G,X,N,R⟩;obtain⟨O,D⟩:=U.out _ _ _ (fun g=>g.down s.top s.bottom n s.blank) A G N R;have HD:=Qh O;have L:=(zw D 33).trans E;have M:=(zw D 34).trans F;clear G X N R D O))
 go_wp2_with fail;go_end0;exact⟨rfl,HD⟩
theorem zc7 {B:World} {C:Nat→Nat} {p c r:Nat} {w:World} {s:Scr} {ps:PSt} (h:SR B C p w s ps) (hok:s.Ok c r) (y z:Int) (hy:-1000≤y∧y≤1000) (hz:z≤1000) :
  Calls prog 233 #[.pointer (some ⟨p,0,none⟩),.int .i64 y,.int .i64 z] w fun e w'=>e=.returned (.tuple #[])∧zy B C p w w' (s.clean y z) ps:=by
 have hn:=h.nums hok;have C0:=Qh ((hn.ok hok).1);have I:=Qh (show s.clean y z=s.turn (fun g=>zcw c s.blank y (z-y).toNat g) by unfold Scr.clean Scr.cols;rw[C0.out]);have HR:=Qh h;have Z:=Qh hok;obtain⟨n,X⟩:∃ n,n=(z-y).toNat:=⟨_,rfl⟩;rw[← X]at I;clear hn h hok;go_enter func233,ntmps233;go_wp2_with fail
 go_loopw [6] (fun iv wr=>∃ (k:Nat) (S:Nat→Nat),k≤n∧iv=.int .i64 (y+k)∧Hid (SR B S p wr (s.turn (fun g=>zcw c s.blank y k g)) ps)∧Hid (Pre C w S wr)) (fun iv _=>(z-intOf iv).toNat)
 case atStart=>exact⟨0,C,Nat.zero_le _,by simp,Qh (by rw[show(fun g=>zcw c s.blank y 0 g)=fun g=>g from rfl,zki];exact HR),Qh (Pre.refl _ _)⟩
 case round =>
  obtain⟨k,S,E,rfl,O,M⟩:=hrel;by_cases hlt:y+k<z
  ·have e1:decide (y+(k:Int)<z)=true:=Qt hlt;have hw:IntKind.i64.wrap (y+k+1)=y+k+1:=zd _ (by omega) (by omega);have A:k+1≤n:=(by omega);have H:=Qh (show(s.turn (fun g=>zcw c s.blank y k g)).Ok c r from Z.out.turn _ fun g R=>zfe R _ _ _ _);obtain⟨T,q,R,hq,E⟩:=O.out.grid;have HG:=Qh R;have HK:=Qh E;have HQ:=Qh hq;have B0:=Qh (O.blankR H);have HM:=Qh (H.main.1);have U:=Qh (zjr s (fun g=>zcw c s.blank y k g));clear R E hq;go_wp2_with fail;refine(z8 HQ).mono ?_;rintro e w3 ⟨rfl,rfl⟩;go_wp2_with fail;refine(Z3 O).mono ?_;rintro e w4 ⟨rfl,rfl⟩;rw[HM.out];go_wp2_with fail;refine(ZG O).mono ?_;rintro e w5 ⟨rfl,b5⟩;have D:=Qh b5;clear b5;go_wp2_with fail;refine(zdH (HG.below D) 0 (y+k) c _ (B0.below D)).mono ?_;rintro e w6 ⟨rfl,L,g6⟩;obtain⟨d6,_⟩:=HK.out _ _ _ (fun g=>g.erase 0 (y+k) c (s.turn (fun g=>zcw c s.blank y k g)).blank) D L g6 (fun k E=>.inl E);rw[zcO,U.out]at d6;obtain⟨C2,h2,p2⟩:=d6;have H2:=Qh h2;have P2:=Qh (M.trans p2);obtain⟨T2,q2,G,J,A⟩:=h2.grid;have A0:=Qh G;have Y:=Qh A;have V:=Qh J;clear L g6 h2 p2 G J A;go_wp2_with fail;refine(z8 V).mono ?_;rintro e w7 ⟨rfl,rfl⟩;go_wp2_with fail;refine(zeE A0 (y+k) false).mono ?_;rintro e w8 ⟨rfl,N,g8⟩;obtain⟨d8,_⟩:=Y.out _ _ _ (fun g=>g.setWrap (y+k) false) (Below.refl _ _) N g8 (fun k E=>.inl E);rw[zcO]at d8;obtain⟨C3,h3,p3⟩:=d8;have H3:=Qh h3;have P3:=Qh (P2.trans p3);clear N g8 h3 p3;go_wp2_with fail;go_roundw
   case rel=>exact⟨k+1,C3,A,by go_num,H3,P3⟩
   case measure=>simp[intOf];omega
  ·have e1:decide (y+(k:Int)<z)=false:=Qf hlt;have F:k=n:=(by omega);have HD:=Qh (show zy B C p w wr (s.clean y z) ps by rw[I.out,← F];exact⟨S,O,M⟩);clear F;go_wp2_with fail;go_end0;exact⟨rfl,HD⟩
end
section
open Go.RowKit
theorem zh7 (l:List Bool) (j:Nat) (hj:j<l.length):(l.map Value.bool)[j]?=some (.bool (l.getD j false)):=by
 rw[List.getElem?_map,List.getElem?_eq_getElem hj,List.getD_eq_getElem?_getD,List.getElem?_eq_getElem hj];rfl
theorem zdK:(prog.info? 4).map (·.size)=some 1:=by kernel_rfl
theorem zmG {P:Program} {t e:TypeId} {w:World} {b off c:Nat} {l:List Bool} (h:zp w 0 1 (.slice (some ⟨b,off,none⟩) l.length c) l.length (l.map Value.bool)) (ht:P.underlying t=some (.slice e)) (hs:(P.info? e).map (·.size)=some 1) (j:Nat) (hj:j<l.length) :
  (∀ wx,(Instr.indexAt t (.slice (some ⟨b,off,none⟩) l.length c) (.int .i64 j)).run P wx=.ok (.pointer (some ⟨b,off+j,none⟩)) wx)∧w.cell? ⟨b,off+j,none⟩=some (.bool (l.getD j false))∧w.frozen? ⟨b,off+j,none⟩=false:=by
 obtain⟨H,C,L,A,F,⟨x,B,E⟩,D,_⟩:=zeD ht hs h j hj;injection A with A I J;injection A with A;injection A with A G;subst A G;rw[zh7 l j hj]at B;injection B with B;subst B;exact⟨F,E,D⟩
theorem zfV {n:Nat} {t:List Bool} {m x:Int} (h:¬ (x<m∧t.getD x.toNat false=false)):zdV n t m x=x:=by
 cases n with
 | zero=>rfl
 | succ n=>unfold zdV;rw[if_neg h]
theorem zfW {n:Nat} {t:List Bool} {x:Int} (h:¬ (0<x∧t.getD x.toNat false=false)):zdW n t x=x:=by
 cases n with
 | zero=>rfl
 | succ n=>unfold zdW;rw[if_neg h]
theorem zh8 {B:World} {C:Nat→Nat} {p c r:Nat} {w:World} {s:Scr} {ps:PSt} (h:SR B C p w s ps) (hok:s.Ok c r) :
  Calls prog 146 #[.pointer (some ⟨p,0,none⟩)] w fun e w'=>e=.returned (.tuple #[])∧zy B C p w w' s.tab ps:=by
 have hn:=h.nums hok;obtain⟨x0,x1,y0,y1,t0,tb,b1,k1,k2,r1,r2,V,pn⟩:=hn;have c0:w.cell? ⟨p,0,none⟩=some (.int .i64 s.now.x):=h.at_ 0 _;have G0:IntKind.i64.wrap ((s.main.cols:Int)-1)=(s.main.cols:Int)-1:=zd _ (by omega) (by omega);have F0:IntKind.i64.wrap (s.now.x+1)=s.now.x+1:=zd _ (by omega) (by omega);have HR:=Qh h;have X:=Qh (fun w' hb=>Z3 (h.below (w':=w') hb));obtain⟨vt,Z,R,_,_⟩:=h.tabs;obtain⟨b,L,cc,M,H0,B0⟩:=zE R (by omega);subst M;have HT:=Qh R;have TL:=Qh V;clear V;generalize Y:s.main.cols=N at *;have G:=Qh (show s.tab=s.place (zdV N s.tabs ((N:Int)-1) (min (s.now.x+1) ((N:Int)-1))) s.now.y by unfold Scr.tab Scr.cols;rw[Y]);clear R h hok Y;go_enter func146,ntmps146;go_upto_region 0 with fail;go_quiet (first | (go_at_call 131;exact Calls.quiet_of_same (X _ (zm (Below.refl _ _) _))));have H:=Qh (zm (Below.refl w.heap.size w) nq);have HR2:=Qh (HR.below H);generalize E0:w.drewN nq=J at *;have C0:J.cell? ⟨p,35,none⟩=some (.slice (some ⟨b,L,none⟩) s.tabs.length cc):=zc H Z;have O:=Qh (zk HT H);have d1:J.cell? ⟨p,1,none⟩=some (.int .i64 s.now.y):=HR2.out.at_ 1 _;clear Z c0;have HC2:=Qh (X _ H);obtain⟨A,D⟩:∃ z,z=min (s.now.x+1) ((N:Int)-1):=⟨_,rfl⟩;rw[← D]at G ⊢;have F:=Qh (show 0≤A∧A≤(N:Int)-1 by omega);clear D;go_wp2_with fail
 go_loopw [2] (fun iv wr=>∃ (x:Int) (k:Nat),iv=.int .i64 x∧wr=J∧0≤x∧x≤(N:Int)-1∧Hid ((N:Int)-1-x≤k)∧Hid (zdV k s.tabs ((N:Int)-1) x=zdV N s.tabs ((N:Int)-1) A)) (fun iv _=>N-(intOf iv).toNat)
 case atStart=>exact⟨_,N,rfl,rfl,F.1,F.2,Qh (by have:=F.out;omega),Qh rfl⟩
 case round =>
  obtain⟨x,k,rfl,rfl,I0,A0,U,S⟩:=hrel;by_cases hlt:x<(N:Int)-1;rotate_left
  ·have e1:decide (x<(N:Int)-1)=false:=Qf hlt;have E:=Qh (show s.tab=s.place x s.now.y by rw[G.out,← S.out,zfV (fun e=>hlt e.1)]);go_wp2_with fail;refine HC2.mono ?_;rintro e w2 ⟨rfl,rfl⟩;go_wp2_with fail;refine(Zo HR2 x s.now.y).mono ?_;rintro e w8 ⟨rfl,d8⟩;have HD8:=Qh (zy.after ((Pre.refl _ _).below H) d8);clear d8;go_wp2_with fail;go_end0;refine⟨rfl,?_⟩;rw[E.out];exact HD8
  obtain⟨j,rfl⟩:∃ j:Nat,x=j:=⟨x.toNat,by omega⟩;have e1:decide ((j:Int)<(N:Int)-1)=true:=Qt hlt;obtain⟨ix,ic,_⟩:=zmG O underlying86 zdK j (by have:=TL.out;omega);cases hb:s.tabs.getD j false;rotate_left
  ·rw[hb]at ic;have E:=Qh (show s.tab=s.place j s.now.y by rw[G.out,← S.out,zfV (fun e=>by rw[Int.toNat_natCast,hb]at e;cases e.2)]);go_wp2_with fail;refine HC2.mono ?_;rintro e w2 ⟨rfl,rfl⟩;go_wp2_with fail;refine(Zo HR2 j s.now.y).mono ?_;rintro e w8 ⟨rfl,d8⟩;have HD8:=Qh (zy.after ((Pre.refl _ _).below H) d8);clear d8;go_wp2_with fail;go_end0;refine⟨rfl,?_⟩;rw[E.out];exact HD8
  ·rw[hb]at ic;have D0:IntKind.i64.wrap ((j:Int)+1)=(j:Int)+1:=zd _ (by omega) (by omega);obtain⟨I,rfl⟩:∃ I,k=I+1:=⟨k-1,by have:=U.out;omega⟩;have T:=Qh (show zdV I s.tabs ((N:Int)-1) ((j:Int)+1)=zdV N s.tabs ((N:Int)-1) A by
    rw[← S.out]
    conv=>rhs;unfold zdV
    rw[if_pos ⟨hlt,by rw[Int.toNat_natCast];exact hb⟩])
   go_wp2_with fail;refine HC2.mono ?_;rintro e w2 ⟨rfl,rfl⟩;go_wp2_with fail;go_roundw
   case rel=>exact⟨_,I,by go_num,by trivial,by omega,by omega,Qh (by have:=U.out;omega),T⟩
   case measure=>simp[intOf] <;> omega
theorem zlh {B:World} {C:Nat→Nat} {p c r:Nat} {w:World} {s:Scr} {ps:PSt} (h:SR B C p w s ps) (hok:s.Ok c r) :
  Calls prog 229 #[.pointer (some ⟨p,0,none⟩)] w fun e w'=>e=.returned (.tuple #[])∧zy B C p w w' s.back ps:=by
 have Z:=h.nums hok;obtain⟨x0,x1,y0,y1,t0,tb,b1,k1,k2,r1,r2,T,pn⟩:=Z;have c0:w.cell? ⟨p,0,none⟩=some (.int .i64 s.now.x):=h.at_ 0 _;have E0:IntKind.i64.wrap ((s.main.cols:Int)-1)=(s.main.cols:Int)-1:=zd _ (by omega) (by omega);have D0:IntKind.i64.wrap (s.now.x-1)=s.now.x-1:=zd _ (by omega) (by omega);have HR:=Qh h;have HC:=Qh (fun w' hb=>Z3 (h.below (w':=w') hb));obtain⟨vt,V,L,_,_⟩:=h.tabs;obtain⟨b,G,cc,H,F0,A0⟩:=zE L (by omega);subst H;have HT:=Qh L;have TL:=Qh T;clear T;generalize U:s.main.cols=N at *;have E:=Qh (show s.back=s.place (zdW N s.tabs (s.now.x-1)) s.now.y by unfold Scr.back;rw[U]);clear L h hok U;go_enter func229,ntmps229;have R:=Qh (Below.refl w.heap.size w);have HR2:=HR;obtain⟨wn,I⟩:∃ z,z=w:=⟨_,rfl⟩;have B0:w.cell? ⟨p,35,none⟩=some (.slice (some ⟨b,G,none⟩) s.tabs.length cc):=V;have J:=HT;have d1:w.cell? ⟨p,1,none⟩=some (.int .i64 s.now.y):=HR2.out.at_ 1 _;clear V;subst I;have D:=Qh (show -1≤s.now.x-1∧s.now.x-1≤(N:Int)-1 by omega);go_wp2_with fail
 go_loopw [2] (fun iv wr=>∃ (x:Int) (k:Nat),iv=.int .i64 x∧wr=wn∧-1≤x∧x≤(N:Int)-1∧Hid (x≤k)∧Hid (zdW k s.tabs x=zdW N s.tabs (s.now.x-1))) (fun iv _=>(intOf iv+1).toNat)
 case atStart=>exact⟨_,N,rfl,rfl,D.1,D.2,Qh (by have:=D.out;omega),Qh rfl⟩
 case round =>
  obtain⟨x,k,rfl,rfl,G0,Y,S,M⟩:=hrel;by_cases hlt:0<x;rotate_left
  ·have e1:decide (0<x)=false:=Qf hlt;have A:=Qh (show s.back=s.place x s.now.y by rw[E.out,← M.out,zfW (fun e=>hlt e.1)]);go_wp2_with fail;refine(Zo HR2 x s.now.y).mono ?_;rintro e w8 ⟨rfl,d8⟩;have HD8:=Qh (zy.after ((Pre.refl _ _).below R) d8);clear d8;go_wp2_with fail;go_end0;refine⟨rfl,?_⟩;rw[A.out];exact HD8
  obtain⟨j,rfl⟩:∃ j:Nat,x=j:=⟨x.toNat,by omega⟩;have e1:decide (0<(j:Int))=true:=Qt hlt;obtain⟨ix,X,_⟩:=zmG J underlying86 zdK j (by have:=TL.out;omega);cases hb:s.tabs.getD j false;rotate_left
  ·rw[hb]at X;have A:=Qh (show s.back=s.place j s.now.y by rw[E.out,← M.out,zfW (fun e=>by rw[Int.toNat_natCast,hb]at e;cases e.2)]);go_wp2_with fail;refine(Zo HR2 j s.now.y).mono ?_;rintro e w8 ⟨rfl,d8⟩;have HD8:=Qh (zy.after ((Pre.refl _ _).below R) d8);clear d8;go_wp2_with fail;go_end0;refine⟨rfl,?_⟩;rw[A.out];exact HD8
  ·rw[hb]at X;have C0:IntKind.i64.wrap ((j:Int)-1)=(j:Int)-1:=zd _ (by omega) (by omega);obtain⟨F,rfl⟩:∃ F,k=F+1:=⟨k-1,by have:=S.out;omega⟩;have O:=Qh (show zdW F s.tabs ((j:Int)-1)=zdW N s.tabs (s.now.x-1) by
    rw[← M.out]
    conv=>rhs;unfold zdW
    rw[if_pos ⟨hlt,by rw[Int.toNat_natCast];exact hb⟩])
   go_wp2_with fail;go_roundw
   case rel=>exact⟨_,F,by go_num,by trivial,by omega,by omega,Qh (by have:=S.out;omega),O⟩
   case measure=>simp[intOf] <;> omega
end
section
open Go.RowKit
def zc8:List UInt8:=[226,151,134,226,150,146,226,144,137,226,144,140,226,144,141,226,144,138,194,176,194,177,226,144,164,226,144,139,226,148,152,226,148,144,226,148,140,226,148,148,226,148,188,226,142,186,226,142,187,226,148,128,226,142,188,226,142,189,226,148,156,226,148,164,226,148,180,226,148,172,226,148,130,226,137,164,226,137,165,207,128,226,137,160,194,163,194,183]
theorem zfl:Conv.runesFrom ⟨zc8.toArray⟩ zc8.length 0 #[]=(zaZ.map (Value.int .i32)).toArray:=by kernel_rfl
theorem zjt (w:World):∃ (w2:World) (c:Nat),(convert 9 131 (.string ⟨zc8.toArray⟩)).run prog w=.ok (.slice (some ⟨w.heap.size,0,none⟩) 31 c) w2∧Below w.heap.size w w2∧∀ k,k<31→w2.cell? ⟨w.heap.size,k,none⟩=some (.int .i32 (zaZ.getD k 0)):=by
 have A:=run_runes_of_string (P:=prog) w 9 131 21 ⟨zc8.toArray⟩ underlying9 underlying131 underlying21 (by rw[show(⟨zc8.toArray⟩:ByteArray).size=zc8.length from rfl,zfl];decide);rw[show(⟨zc8.toArray⟩:ByteArray).size=zc8.length from rfl,zfl]at A;refine⟨_,_,A,Below.alloc (Below.refl w.heap.size w).drew (Nat.le_refl _) _,fun k hk=>?_⟩;have D:((w.drew.alloc (.cells ((zaZ.map (Value.int .i32)).toArray++Array.replicate (grownCap w (zaZ.map (Value.int .i32)).toArray.size 0 21-(zaZ.map (Value.int .i32)).toArray.size) (.int .i32 0)) 21)).heap[w.heap.size]?)=_:=heap_alloc_new w.drew _;rw[za D k,Array.getElem?_append_left (by show k<31;exact hk)];have:∀ k:Fin 31,(zaZ.map (Value.int .i32)).toArray[k.1]?=some (.int .i32 (zaZ.getD k.1 0)):=by
  intro k;have B:∀ n,n<31→(zaZ.map (Value.int .i32)).toArray[n]?=some (.int .i32 (zaZ.getD n 0)):=by
   intro n C;rw[List.getElem?_toArray,List.getElem?_map,List.getElem?_eq_getElem (show n<zaZ.length from C),List.getD_eq_getElem?_getD,List.getElem?_eq_getElem (show n<zaZ.length from C)];rfl
  exact B k.1 k.2
 exact this ⟨k,hk⟩
theorem zpg {P:Program} {t e:TypeId} {size:Nat} (ht:P.underlying t=some (.slice e)) (hs:(P.info? e).map (·.size)=some size) (b off n c j:Nat) (hj:j<n) (wx:World) :
  (Instr.indexAt t (.slice (some ⟨b,off,none⟩) n c) (.int .i32 j)).run P wx=.ok (.pointer (some ⟨b,off+j*size,none⟩)) wx:=by
 obtain⟨i,C,A⟩:=Option.map_eq_some_iff.1 hs;have B:(0:Int)≤(j:Int)∧(j:Int)<(n:Int):=(by omega);simp[Instr.indexAt,asIntOf,run_underlying ht,B,sizeOf,typeInfo,C,A,zbb];omega
theorem znU (k:Nat) (h:k<1000):IntKind.i32.wrap (k:Int)=k:=by
 unfold IntKind.wrap;simp[IntKind.bits,IntKind.signed];omega
def Scr.onIf (s:Scr) (b:Bool):Scr:=if b=true then s.on else s
def Scr.fit1 (s:Scr) (b wr:Bool) (w:Int):Scr:=if b=true then (if wr=true then s.on else s.toX (s.cols-w)) else s
def Scr.insIf (s:Scr) (b:Bool) (w:Int):Scr:=if b=true then s.turn (fun g=>g.ins s.now.x s.now.y w s.blank) else s
def Scr.past (s:Scr) (b wr:Bool) (w:Int):Scr:=if b=true then { s with now:={ s.now with x:=s.cols-1,wait:=wr } } else s.toX (s.now.x+w)
theorem zmH (s:Scr) (w:Int):s.fit w=((s.onIf (s.now.wait && s.has 1)).calm).fit1 (decide ((s.onIf (s.now.wait && s.has 1)).calm.cols-w<(s.onIf (s.now.wait && s.has 1)).calm.now.x)) (s.has 1) w:=by
 unfold Scr.fit Scr.onIf Scr.fit1;dsimp only;generalize (if (s.now.wait && s.has 1)=true then s.on else s).calm=t;by_cases h:t.cols-w<t.now.x
 ·rw[if_pos h,Qt h,if_pos rfl]
 ·rw[if_neg h,Qf h];rfl
theorem zc9 (s:Scr) (f:Gr→Gr):(s.turn f).modes=s.modes:=by unfold Scr.turn;cases s.other <;> rfl
theorem zh9 (s:Scr):s.index.modes=s.modes:=by
 unfold Scr.index;split
 ·exact zc9 _ _
 ·split <;> rfl
theorem zia (s:Scr):s.on.modes=s.modes:=by
 unfold Scr.on;rw[zh9];exact zc9 _ _
theorem zju (s:Scr) (b:Bool):(s.onIf b).modes=s.modes:=by
 unfold Scr.onIf;cases b
 ·rfl
 ·exact zia s
theorem zjv (s:Scr) (b wr:Bool) (w:Int):(s.fit1 b wr w).modes=s.modes:=by
 unfold Scr.fit1;cases b
 ·rfl
 ·cases wr
  ·rfl
  ·exact zia s
theorem zib (s:Scr) (b:Bool) (w:Int):(s.insIf b w).modes=s.modes:=by
 unfold Scr.insIf;cases b
 ·rfl
 ·exact zc9 _ _
theorem zoV (s:Scr) (q w:Int):s.lay q w=((s.insIf (s.has 2) w).turn (fun g=>g.put (s.insIf (s.has 2) w).now.x (s.insIf (s.has 2) w).now.y ⟨q,w,(s.insIf (s.has 2) w).now.pen⟩)).past
  (decide (((s.insIf (s.has 2) w).turn (fun g=>g.put (s.insIf (s.has 2) w).now.x (s.insIf (s.has 2) w).now.y ⟨q,w,(s.insIf (s.has 2) w).now.pen⟩)).cols≤((s.insIf (s.has 2) w).turn (fun g=>g.put (s.insIf (s.has 2) w).now.x (s.insIf (s.has 2) w).now.y ⟨q,w,(s.insIf (s.has 2) w).now.pen⟩)).now.x+w)) (s.has 1) w:=by
 have B:(s.insIf (s.has 2) w).modes=s.modes:=zib _ _ _;unfold Scr.lay;rw[show(if s.has 2=true then s.turn (fun g=>g.ins s.now.x s.now.y w s.blank) else s)=s.insIf (s.has 2) w from rfl];dsimp only;generalize s.insIf (s.has 2) w=t at *;have A:=(zc9 t (fun g=>g.put t.now.x t.now.y ⟨q,w,t.now.pen⟩)).trans B;generalize (t.turn fun g=>g.put t.now.x t.now.y ⟨q,w,t.now.pen⟩)=u at *;have C:u.has 1=s.has 1:=(by unfold Scr.has;rw[A]);unfold Scr.past;by_cases h:u.cols≤u.now.x+w
 ·rw[if_pos h,Qt h,if_pos rfl,C]
 ·rw[if_neg h,Qf h];rfl
theorem zfX {B:World} {C:Nat→Nat} {p c r:Nat} {w:World} {s:Scr} {ps:PSt} (h:SR B C p w s ps) (hok:s.Ok c r) (r0:Int) (hr:-2147483648≤r0∧r0≤2147483647) :
  Calls prog 95 #[.pointer (some ⟨p,0,none⟩),.int .i32 r0] w fun e w'=>e=.returned (.tuple #[])∧zy B C p w w' (s.print r0) ps:=by
 have L:=Qh h;have O:=Qh hok;have HN:=Qh (h.nums hok);have c7:w.cell? ⟨p,7,none⟩=some (.bool s.now.l0):=h.at_ 7 _;have c8:w.cell? ⟨p,8,none⟩=some (.bool s.now.l1):=h.at_ 8 _;have c9:w.cell? ⟨p,9,none⟩=some (.int .i64 s.now.second):=h.at_ 9 _;have hsec:=hok.now.sec;have D0:=Qh (show s.drawn r0=if (if s.now.second=0 then s.now.l0 else s.now.l1)=true∧96≤r0∧r0≤126 then zaZ.getD (r0-96).toNat 0 else r0 from rfl);clear h hok;go_enter func95,ntmps95;go_upto_region 1 with fail;have U2:=hr.1
 go_cut [27] (fun v wz=>(∃ b,v=.bool b∧Hid (b=true↔(if s.now.second=0 then s.now.l0 else s.now.l1)=true∧96≤r0∧r0≤126))∧Hid (Below w.heap.size w wz))
 case first =>
  rcases hsec with h0 | h0
  ·rw[h0]at c9;have HL:=Qh (show(if s.now.second=0 then s.now.l0 else s.now.l1)=s.now.l0 by rw[h0];rfl);clear h0;cases hL:s.now.l0
   ·have V:=HL.out.trans hL;rw[hL]at c7;go_quiet (fail);go_wp2_with fail;go_meet;exact⟨⟨_,rfl,Qh (by rw[V];exact⟨fun e=>(by cases e),fun e=>(by cases e.1)⟩)⟩,Qh (zm (Below.refl _ _) _)⟩
   ·have V:=HL.out.trans hL;rw[hL]at c7;by_cases h1:96≤r0
    ·have d1:decide (96≤r0)=true:=Qt h1;by_cases h2:r0≤126
     ·have d2:decide (r0≤126)=true:=Qt h2;go_quiet (fail);go_wp2_with fail;go_meet;exact⟨⟨_,rfl,Qh (by rw[V];exact⟨fun _=>⟨rfl,h1,h2⟩,fun _=>rfl⟩)⟩,Qh (zm (Below.refl _ _) _)⟩
     ·have d2:decide (r0≤126)=false:=Qf h2;go_quiet (fail);go_wp2_with fail;go_meet;exact⟨⟨_,rfl,Qh (by rw[V];exact⟨fun e=>(by cases e),fun e=>absurd e.2.2 (by omega)⟩)⟩,Qh (zm (Below.refl _ _) _)⟩
    ·have d1:decide (96≤r0)=false:=Qf h1;go_quiet (fail);go_wp2_with fail;go_meet;exact⟨⟨_,rfl,Qh (by rw[V];exact⟨fun e=>(by cases e),fun e=>absurd e.2.1 (by omega)⟩)⟩,Qh (zm (Below.refl _ _) _)⟩
  ·rw[h0]at c9;have HL:=Qh (show(if s.now.second=0 then s.now.l0 else s.now.l1)=s.now.l1 by rw[h0];rfl);clear h0;cases hL:s.now.l1
   ·have V:=HL.out.trans hL;rw[hL]at c8;go_quiet (fail);go_wp2_with fail;go_meet;exact⟨⟨_,rfl,Qh (by rw[V];exact⟨fun e=>(by cases e),fun e=>(by cases e.1)⟩)⟩,Qh (zm (Below.refl _ _) _)⟩
   ·have V:=HL.out.trans hL;rw[hL]at c8;by_cases h1:96≤r0
    ·have d1:decide (96≤r0)=true:=Qt h1;by_cases h2:r0≤126
     ·have d2:decide (r0≤126)=true:=Qt h2;go_quiet (fail);go_wp2_with fail;go_meet;exact⟨⟨_,rfl,Qh (by rw[V];exact⟨fun _=>⟨rfl,h1,h2⟩,fun _=>rfl⟩)⟩,Qh (zm (Below.refl _ _) _)⟩
     ·have d2:decide (r0≤126)=false:=Qf h2;go_quiet (fail);go_wp2_with fail;go_meet;exact⟨⟨_,rfl,Qh (by rw[V];exact⟨fun e=>(by cases e),fun e=>absurd e.2.2 (by omega)⟩)⟩,Qh (zm (Below.refl _ _) _)⟩
    ·have d1:decide (96≤r0)=false:=Qf h1;go_quiet (fail);go_wp2_with fail;go_meet;exact⟨⟨_,rfl,Qh (by rw[V];exact⟨fun e=>(by cases e),fun e=>absurd e.2.1 (by omega)⟩)⟩,Qh (zm (Below.refl _ _) _)⟩
 case rest =>
 obtain⟨⟨b,rfl,G0⟩,HB1⟩:=hcut;clear c7 c8 c9 hsec;have G2:=Qh (L.below HB1);obtain⟨w1,hw1⟩:∃ z,z=wc:=⟨wc,rfl⟩;subst hw1;go_upto_if 27 with fail
 go_cut [4] (fun v wz=>v=.int .i32 (s.drawn r0)∧Hid (Below w.heap.size w wz))
 case first =>
  cases b
  ·have HD:=Qh (show s.drawn r0=r0 by rw[D0.out,if_neg (fun e=>by have:=G0.out.2 e;cases this)]);go_wp2_with fail;go_meet;exact⟨by rw[HD.out],HB1⟩
  ·obtain⟨_,U,A0⟩:=G0.out.1 rfl;have HD:=Qh (show s.drawn r0=zaZ.getD (r0-96).toNat 0 by rw[D0.out,if_pos (G0.out.1 rfl)]);go_upto_region 3 with fail;rw[show(List.append [226,151,134,226,150,146,226,144,137,226,144,140,226,144,141,226,144,138,194,176,194,177,226,144,164,226,144,139,226,148,152,226,148,144,226,148,140,226,148,148,226,148,188,226] [142,186,226,142,187,226,148,128,226,142,188,226,142,189,226,148,156,226,148,164,226,148,180,226,148,172,226,148,130,226,137,164,226,137,165,207,128,226,137,160,194,163,194,183])=zc8 from rfl];obtain⟨w2,cc,Z2,U1,M1⟩:=zjt w1;obtain⟨k,H⟩:∃ k:Nat,r0-96=k:=⟨(r0-96).toNat,by omega⟩;have Y2:IntKind.i32.wrap (r0-96)=(k:Int):=(by rw[H];exact znU k (by omega));have N2:=zpg (P:=prog) (size:=1) underlying131 (by kernel_rfl) w1.heap.size 0 31 cc k (by omega);have V2:=M1 k (by omega);have HK:=Qh H;have Z:=Qh (HB1.trans (U1.mono HB1.size));clear H M1 U1 U A0;go_wp2_with fail;go_meet;exact⟨by rw[HD.out,HK.out,Int.toNat_natCast,List.getD_eq_getElem?_getD],Z⟩
 case rest =>
 obtain⟨rfl,Z⟩:=hcut;have h:=L.out.below Z;have hok:=O.out;have J1:-2147483648≤s.drawn r0∧s.drawn r0≤2147483647:=by
  by_cases hx:(if s.now.second=0 then s.now.l0 else s.now.l1)=true∧96≤r0∧r0≤126
  ·rw[D0.out,if_pos hx];obtain⟨_,S2,T2⟩:=hx;have H:(r0-96).toNat<31:=(by omega);have:∀ k:Fin 31,0≤zaZ.getD k.1 0∧zaZ.getD k.1 0≤100000:=(by decide +kernel);have:=this ⟨_,H⟩;dsimp only at this;omega
  ·rw[D0.out,if_neg hx];exact hr
 have F2:=Qh J1;have I:=Qh (show s.print r0=if wid (s.drawn r0)<1∨s.cols<wid (s.drawn r0) then s else { (s.fit (wid (s.drawn r0))).lay (s.drawn r0) (wid (s.drawn r0)) with last:=r0 } from rfl);clear G0 HB1 G2 D0 J1;generalize s.drawn r0=ch at *;go_wp2_with fail;refine(zb7 ch wc).mono ?_;rintro e w3 ⟨rfl,b3⟩;have F1:=Qh (Z.trans (b3.mono Z.size));have O1:=Qh (zjS ch);replace h:=h.below b3;have L:=Qh h;have HC:=Qh (Z3 h);clear b3 h;by_cases hw1:wid ch<1
 ·have d1:decide (wid ch<1)=true:=Qt hw1;have HD:=Qh (show zy B C p w w3 (s.print r0) ps by rw[I.out,if_pos (.inl hw1)];exact⟨C,L,(Pre.refl _ _).below F1⟩);clear hw1;go_wp2_with fail;refine ZR rfl rfl ?_;exact⟨rfl,HD⟩
 have d1:decide (wid ch<1)=false:=Qf hw1;by_cases hw2:(s.main.cols:Int)<wid ch
 ·have d2:decide ((s.main.cols:Int)<wid ch)=true:=Qt hw2;have HD:=Qh (show zy B C p w w3 (s.print r0) ps by rw[I.out,if_pos (.inr hw2)];exact⟨C,L,(Pre.refl _ _).below F1⟩);clear hw1 hw2;go_wp2_with fail;refine HC.mono ?_;rintro e w4 ⟨rfl,rfl⟩;go_wp2_with fail;refine ZR rfl rfl ?_;exact⟨rfl,HD⟩
 have d2:decide ((s.main.cols:Int)<wid ch)=false:=Qf hw2;have I:=Qh (show s.print r0={ (s.fit (wid ch)).lay ch (wid ch) with last:=r0 } by rw[I.out,if_neg (fun e=>by rcases e with e | e;exact hw1 e;exact hw2 e)]);have HW:=Qh (show 1≤wid ch∧wid ch≤2∧wid ch≤(s.main.cols:Int) from⟨by omega,O1,by omega⟩);have V0:=Qh ((Pre.refl C w).below F1);clear hw1 hw2 O1;obtain⟨W,hW⟩:∃ W,W=wid ch:=⟨_,rfl⟩;rw[← hW]at I HW d1 d2 ⊢;have L2:=Qh hW;clear hW;go_wp2_with fail;refine HC.mono ?_;rintro e w4 ⟨rfl,rfl⟩;go_wp2_with fail;refine(za4 L 1).mono ?_;rintro e w4 ⟨rfl,rfl⟩;obtain⟨wr,Z0⟩:∃ wr,wr=s.has 1:=⟨_,rfl⟩;rw[← Z0];have S0:=Qh Z0;clear Z0 HC;have c2:w4.cell? ⟨p,2,none⟩=some (.bool s.now.wait):=L.out.at_ 2 _;go_upto_region 7 with fail
 go_cut [53] (fun v wz=>v=.bool (s.now.wait && wr)∧wz=w4)
 case first =>
  cases hwt:s.now.wait
  ·rw[hwt]at c2;go_wp2_with fail;go_meet;exact⟨by rw[hwt];rfl,rfl⟩
  ·rw[hwt]at c2;go_wp2_with fail;go_meet;exact⟨by rw[hwt];rfl,rfl⟩
 case rest =>
 obtain⟨rfl,I2⟩:=hcut;subst I2;obtain⟨w4,rfl⟩:∃ z,z=wc:=⟨wc,rfl⟩;obtain⟨b1,U⟩:∃ b1,b1=(s.now.wait && wr):=⟨_,rfl⟩;rw[← U];have HB1:=Qh U;clear U c2;go_upto_if 53 with fail
 go_cut [] (fun wz=>∃ C1,Hid (SR B C1 p wz (s.onIf b1) ps)∧Hid (Pre C w C1 wz))
 case first =>
  cases b1
  ·go_wp2_with fail;go_meet;exact⟨C,L,V0⟩
  ·go_wp2_with fail;refine(zke L O).mono ?_;rintro e w5 ⟨rfl,C5,h5,p5⟩;have J:=Qh h5;have P5:=Qh (V0.trans p5);clear h5 p5;go_wp2_with fail;go_meet;exact⟨C5,J,P5⟩
 case rest =>
 obtain⟨C1,H1,P1⟩:=hcut;obtain⟨w5,rfl⟩:∃ z,z=wc:=⟨wc,rfl⟩;have R:=Qh (HN.ok O).1;have E1:=Qh HN.c1;have U0:=Qh HN.c2;have R1:=Qh (show(s.onIf b1).Ok c r by
  unfold Scr.onIf;cases b1
  ·exact O
  ·exact O.on (by rw[R.out];exact E1))
 have J0:=Qh (show ∀ t,t=s.onIf b1→s.fit W=(t.calm).fit1 (decide (t.calm.cols-W<t.calm.now.x)) wr W from fun t ht=>by rw[ht,zmH,HB1.out,S0.out]);generalize s.onIf b1=s1 at *;replace J0:=Qh (J0 s1 rfl);have c2:w5.cell? ⟨p,2,none⟩=some (.bool s1.now.wait):=H1.out.at_ 2 _;have f2:=H1.out.fz 2;go_upto_region 10 with fail;obtain⟨h2,g2⟩:=H1.out.set 2 (.bool false) s1.calm;have H2:=Qh h2;have P2:=Qh (P1.trans g2);have G1:=Qh R1.calm;clear h2 g2 c2 f2 H1 P1 L V0;generalize w5.setCell ⟨p,2,none⟩ (.bool false)=w6 at *;generalize s1.calm=G at *;have F:w6.cell? ⟨p,0,none⟩=some (.int .i64 G.now.x):=H2.out.at_ 0 _;have E0:=Qh (show G.main.cols=s.main.cols from G1.out.main.1.trans R);have B1:=Qh (fun w' hb=>show Calls prog 131 #[.pointer (some ⟨p,0,none⟩)] w' (fun e w''=>e=.returned (.int .i64 s.main.cols)∧w''=w') by
  have:=Z3 (H2.below (w':=w') hb);rw[E0.out]at this;exact this)
 have E2:IntKind.i64.wrap ((s.main.cols:Int)-W)=(s.main.cols:Int)-W:=(by have:=HW.out;have:=U0.out;exact zd _ (by omega) (by omega));go_quiet (first | (go_at_call 131;exact Calls.quiet_of_same (B1 _ (zm (Below.refl _ _) _))));have F0:=Qh (zm (Below.refl w6.heap.size w6) nq);have H3:=Qh (H2.below F0);have P3:=Qh (P2.below F0);generalize w6.drewN nq=w7 at *;obtain⟨b2,A0⟩:∃ b2,b2=decide ((s.main.cols:Int)-W<G.now.x):=⟨_,rfl⟩;rw[← A0];have L0:=Qh (show s.fit W=G.fit1 b2 wr W by rw[J0.out,A0];unfold Scr.cols;rw[E0.out]);clear A0 H2 P2 J0 F;have T1:=Qh (B1 _ F0);have F:w7.cell? ⟨p,0,none⟩=some (.int .i64 G.now.x):=H3.out.at_ 0 _;have f0:=H3.out.fz 0;go_upto_if 69 with fail
 go_cut [] (fun wz=>∃ C2,Hid (SR B C2 p wz (G.fit1 b2 wr W) ps)∧Hid (Pre C w C2 wz))
 case first =>
  cases b2
  ·go_wp2_with fail;go_meet;exact⟨C1,H3,P3⟩
  ·cases wr
   ·obtain⟨h4,g4⟩:=H3.out.set 0 (.int .i64 ((s.main.cols:Int)-W)) (G.toX ((s.main.cols:Int)-W));have H4:=Qh (show SR B C1 p _ (G.fit1 true false W) ps by
     have e:G.fit1 true false W=G.toX ((s.main.cols:Int)-W):=(by show G.toX (G.cols-W)=_;unfold Scr.cols;rw[E0.out]);rw[e];exact h4)
    have P4:=Qh (P3.trans g4);clear h4 g4;go_wp2_with fail;refine T1.mono ?_;rintro e w8 ⟨rfl,rfl⟩;go_wp2_with fail;go_meet;exact⟨C1,H4,P4⟩
   ·go_wp2_with fail;refine(zke H3 G1).mono ?_;rintro e w8 ⟨rfl,C5,h5,p5⟩;have J:=Qh h5;have P5:=Qh (P3.trans p5);clear h5 p5;go_wp2_with fail;go_meet;exact⟨C5,J,P5⟩
 case rest =>
 obtain⟨C2,H4,P4⟩:=hcut;obtain⟨w8,rfl⟩:∃ z,z=wc:=⟨wc,rfl⟩;have A2:=Qh (show W≤(c:Int) by have:=HW.out;have:=R.out;omega);have H0:=Qh (show(G.fit1 b2 wr W).Ok c r by rw[← L0.out];exact(O.fit (by rw[R.out];exact E1) W HW.1 A2).1);have X1:=Qh (show(G.fit1 b2 wr W).has 1=wr by
  rw[← L0.out,S0.out,zmH];unfold Scr.has;rw[zjv];exact congrArg (fun m=>zhR m 1 != 0) (zju _ _))
 clear B1 T1 H3 P3 E0 G1 R1 F f0 F0 E2;have R0:=Qh (show s.print r0={ (G.fit1 b2 wr W).lay ch W with last:=r0 } by rw[I.out,L0.out]);clear I L0;generalize G.fit1 b2 wr W=M at *;go_wp2_with fail;refine(za4 H4 2).mono ?_;rintro e S ⟨rfl,rfl⟩;obtain⟨b3,I1⟩:∃ b3,b3=M.has 2:=⟨_,rfl⟩;rw[← I1];have N1:=Qh (zoV M ch W);rw[← I1]at N1;clear I1;go_upto_if 82 with fail
 go_cut [] (fun wz=>∃ C3,Hid (SR B C3 p wz (M.insIf b3 W) ps)∧Hid (Pre C w C3 wz))
 case first =>
  cases b3
  ·go_wp2_with fail;go_meet;exact⟨C2,H4,P4⟩
  ·have F:S.cell? ⟨p,0,none⟩=some (.int .i64 M.now.x):=H4.out.at_ 0 _;have c1:S.cell? ⟨p,1,none⟩=some (.int .i64 M.now.y):=H4.out.at_ 1 _;have L:=H4;obtain⟨T,q,hg,hq,H⟩:=H4.out.grid;have HG:=Qh hg;have HQ:=Qh hq;have HK:=Qh H;have B2:=Qh (H4.blankR H0);clear hg hq H;go_upto_region 15 with fail
   go_region_held3 (fun w'=>w'.cell? ⟨p,0,none⟩=some (.int .i64 M.now.x)∧w'.cell? ⟨p,1,none⟩=some (.int .i64 M.now.y)) (first | exact⟨F,c1⟩ | exact⟨z0,z1⟩)
    (first
     | (go_at_call 56;refine(z8 (w:=S.drew) HQ).mono ?_;rintro e w4 ⟨rfl,rfl⟩)
     | (go_at_call 144;refine(ZG (L.below (Below.refl _ _).drew)).mono ?_;rintro e w5 ⟨rfl,b5⟩;have N:=Qh ((Below.refl S.heap.size S).drew.trans b5);have z0:=zc b5 F;have z1:=zc b5 c1;clear b5)
     | (go_at_call 143;refine(zj9 (HG.below N) _ _ _ _ (B2.below N)).mono ?_;rintro e w6 ⟨rfl,B0,g6⟩;obtain⟨d6,E⟩:=HK.out _ _ _ (fun g=>g.ins M.now.x M.now.y W M.blank) N B0 g6 (fun k H=>.inl H);have HD:=Qh d6;have z0:=(zw E 0).trans F;have z1:=(zw E 1).trans c1;clear B0 g6 E d6))
   obtain⟨C5,h5,p5⟩:=HD.out;have J:=Qh h5;have P5:=Qh (P4.trans p5);clear h5 p5 z0 z1;go_wp2_with fail;go_meet;exact⟨C5,J,P5⟩
 case rest =>
 obtain⟨C3,J,P5⟩:=hcut;obtain⟨S,rfl⟩:∃ z,z=wc:=⟨wc,rfl⟩;have N0:=Qh (show(M.insIf b3 W).Ok c r by
  unfold Scr.insIf;cases b3
  ·exact H0
  ·exact H0.turn _ fun g hg=>zen hg _ _ _ _)
 clear H4 P4 H0;have I0:=Qh (show ∀ t,t=M.insIf b3 W→M.lay ch W=(t.turn (fun g=>g.put t.now.x t.now.y ⟨ch,W,t.now.pen⟩)).past (decide ((t.turn (fun g=>g.put t.now.x t.now.y ⟨ch,W,t.now.pen⟩)).cols≤(t.turn (fun g=>g.put t.now.x t.now.y ⟨ch,W,t.now.pen⟩)).now.x+W)) wr W from fun t ht=>by rw[ht,N1.out,X1.out]);generalize M.insIf b3 W=D at *;replace I0:=Qh (I0 D rfl);have F:S.cell? ⟨p,0,none⟩=some (.int .i64 D.now.x):=J.out.at_ 0 _;have c1:S.cell? ⟨p,1,none⟩=some (.int .i64 D.now.y):=J.out.at_ 1 _;have c3:S.cell? ⟨p,3,none⟩=some (.int .i64 D.now.pen.fg):=J.out.at_ 3 _;have c4:S.cell? ⟨p,4,none⟩=some (.int .i64 D.now.pen.bg):=J.out.at_ 4 _;have c5:S.cell? ⟨p,5,none⟩=some (.int .i64 D.now.pen.attr):=J.out.at_ 5 _;have L:=J;obtain⟨T,q,hg,hq,H⟩:=J.out.grid;have HG:=Qh hg;have HQ:=Qh hq;have HK:=Qh H;have T0:=Qh (J.right D.now.pen (zbC N0.now.pen).1 (zbC N0.now.pen).2);clear hg hq H;go_upto_region 16 with fail
 go_region_held3 (fun w'=>w'.cell? ⟨p,0,none⟩=some (.int .i64 D.now.x)∧w'.cell? ⟨p,1,none⟩=some (.int .i64 D.now.y)∧w'.cell? ⟨p,3,none⟩=some (.int .i64 D.now.pen.fg)∧w'.cell? ⟨p,4,none⟩=some (.int .i64 D.now.pen.bg)∧w'.cell? ⟨p,5,none⟩=some (.int .i64 D.now.pen.attr)) (first | exact⟨F,c1,c3,c4,c5⟩ | exact⟨z0,z1,z2,z3,z4⟩)
  (first
   | (go_at_call 56;refine(z8 (w:=S.drew) HQ).mono ?_;rintro e w4 ⟨rfl,rfl⟩)
   | (go_at_call 145;refine(zkx (HG.below (Below.refl _ _).drew) D.now.x D.now.y ⟨ch,W,D.now.pen⟩ (T0.below (Below.refl _ _).drew) F2).mono ?_;rintro e w6 ⟨rfl,B0,g6⟩;obtain⟨d6,E⟩:=HK.out _ _ _ (fun g=>g.put D.now.x D.now.y ⟨ch,W,D.now.pen⟩) (Below.refl _ _).drew B0 g6 (fun k H=>.inl H);have HD:=Qh d6;have z0:=(zw E 0).trans F;have z1:=(zw E 1).trans c1;have z2:=(zw E 3).trans c3;have z3:=(zw E 4).trans c4;have z4:=(zw E 5).trans c5;clear B0 g6 E d6))
 obtain⟨C4,h6,p6⟩:=HD.out;have H6:=Qh h6;have P6:=Qh (P5.trans p6);have X0:=Qh (show(D.turn (fun g=>g.put D.now.x D.now.y ⟨ch,W,D.now.pen⟩)).Ok c r from N0.out.turn _ fun g hg=>zem hg _ _ _);clear h6 p6 J P5 L HG HQ HK T0 z0 z1 z2 z3 z4 HD N0 F c1 c3 c4 c5;have Z1:=Qh (show(D.turn (fun g=>g.put D.now.x D.now.y ⟨ch,W,D.now.pen⟩)).now.x=D.now.x by rw[za3]);generalize D.turn (fun g=>g.put D.now.x D.now.y ⟨ch,W,D.now.pen⟩)=A at *;have F:w6.cell? ⟨p,0,none⟩=some (.int .i64 A.now.x):=H6.out.at_ 0 _;have f0:=H6.out.fz 0;have O0:=Qh (show A.main.cols=s.main.cols from X0.out.main.1.trans R);have V1:=Qh (show 0≤A.now.x∧A.now.x≤250 from⟨X0.now.x0,by have:=X0.out.now.x1;have:=R.out;have:=U0.out;omega⟩);have D2:IntKind.i64.wrap (A.now.x+W)=A.now.x+W:=(by have:=V1.out;have:=HW.out;exact zd _ (by omega) (by omega));have J2:IntKind.i64.wrap (D.now.x+W)=A.now.x+W:=(by rw[← Z1.out];exact D2);obtain⟨h7,g7⟩:=H6.out.set 0 (.int .i64 (A.now.x+W)) (A.toX (A.now.x+W));have H7:=Qh h7;have P7:=Qh (P6.trans g7);clear h7 g7;go_upto_region 18 with fail;generalize w6.setCell ⟨p,0,none⟩ (.int .i64 (A.now.x+W))=M0 at *;clear F f0 H6 P6;have F:M0.cell? ⟨p,0,none⟩=some (.int .i64 (A.now.x+W)):=H7.out.at_ 0 _;have Y0:=Qh (fun w' hb=>show Calls prog 131 #[.pointer (some ⟨p,0,none⟩)] w' (fun e w''=>e=.returned (.int .i64 s.main.cols)∧w''=w') by
  have:=Z3 (H7.below (w':=w') hb);rw[show(A.toX (A.now.x+W)).main.cols=s.main.cols from O0.out]at this;exact this)
 go_quiet (first | (go_at_call 131;exact Calls.quiet_of_same (Y0 _ (zm (Below.refl _ _) _))));have X:=Qh (zm (Below.refl M0.heap.size M0) nq);have H8:=Qh (H7.below X);have P8:=Qh (P7.below X);have Y1:=Qh (Y0 _ X);generalize M0.drewN nq=A1 at *;clear F Y0 H7 P7;have F:A1.cell? ⟨p,0,none⟩=some (.int .i64 (A.now.x+W)):=H8.out.at_ 0 _;have c2:A1.cell? ⟨p,2,none⟩=some (.bool A.now.wait):=H8.out.at_ 2 _;have X2:A1.cell? ⟨p,37,none⟩=some (.int .i32 A.last):=H8.out.at_ 37 _;have f0:=H8.out.fz 0;have f2:=H8.out.fz 2;have R2:=H8.out.fz 37;have O2:IntKind.i64.wrap ((s.main.cols:Int)-1)=(s.main.cols:Int)-1:=(by have:=E1.out;have:=U0.out;exact zd _ (by omega) (by omega));obtain⟨b5,D1⟩:∃ b5,b5=decide ((s.main.cols:Int)≤A.now.x+W):=⟨_,rfl⟩;rw[← D1];have N:=Qh D1.symm;clear D1;cases b5;rotate_left
 ·have d5:=N;obtain⟨h9,g9⟩:=H8.out.set 0 (.int .i64 ((s.main.cols:Int)-1)) (A.toX ((s.main.cols:Int)-1));obtain⟨S1,L1⟩:=h9.set 2 (.bool wr) { A with now:={ A.now with x:=(s.main.cols:Int)-1,wait:=wr } };obtain⟨C0,Y⟩:=S1.set 37 (.int .i32 r0) { A with now:={ A.now with x:=(s.main.cols:Int)-1,wait:=wr },last:=r0 };have HD:=Qh (show zy B C p w _ (s.print r0) ps by
   rw[R0.out,I0.out,show A.cols=(s.main.cols:Int) by unfold Scr.cols;rw[O0.out],d5.out];refine⟨_,?_,P8.trans ((g9.trans L1).trans Y)⟩;have e:A.past true wr W={ A with now:={ A.now with x:=(s.main.cols:Int)-1,wait:=wr } }:=by
    show({ A with now:={ A.now with x:=A.cols-1,wait:=wr } }:Scr)=_;unfold Scr.cols;rw[O0.out]
   rw[e];exact C0)
  clear h9 g9 S1 L1 C0 Y;go_wp2_with fail;refine Y1.mono ?_;rintro e M2 ⟨rfl,rfl⟩;go_wp2_with fail;go_end0;exact⟨rfl,HD⟩
 ·have d5:=N;obtain⟨C0,Y⟩:=H8.out.set 37 (.int .i32 r0) { A.toX (A.now.x+W) with last:=r0 };have HD:=Qh (show zy B C p w _ (s.print r0) ps by
   rw[R0.out,I0.out,show A.cols=(s.main.cols:Int) by unfold Scr.cols;rw[O0.out],d5.out];exact⟨_,C0,P8.trans Y⟩)
  clear C0 Y;go_wp2_with fail;go_end0;exact⟨rfl,HD⟩
end
end Go.Proofs.YthehkmopdeebmaaGreatDoor
