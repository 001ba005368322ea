/- Part. -/
import Derived.Test.YthehkmopdeebmaaGreatDoorY11
import Derived.Test.YthehkmopdeebmaaGreatDoorY17
set_option linter.unusedVariables false
set_option linter.unusedSimpArgs false
set_option maxRecDepth 100000
set_option maxHeartbeats 4000000
namespace Go.Proofs.YthehkmopdeebmaaGreatDoor
open _root_.Go.Proofs.Tryz
section
open Go.RowKit
theorem Z3 {B:World} {C:Nat→Nat} {p:Nat} {w:World} {s:Scr} {ps:PSt} (h:SR B C p w s ps) :
  Calls prog 131 #[.pointer (some ⟨p,0,none⟩)] w fun e w'=>e=.returned (.int .i64 s.main.cols)∧w'=w:=by
 obtain⟨T,q,A,E,_⟩:=h.main;have D:=Qh (zga A);clear A h;go_enter func131,ntmps131;go_wp2_with fail;refine D.mono ?_;rintro e F ⟨rfl,rfl⟩;go_wp2_with fail;go_ret;exact⟨rfl,rfl⟩
theorem ZY {B:World} {C:Nat→Nat} {p:Nat} {w:World} {s:Scr} {ps:PSt} (h:SR B C p w s ps) :
  Calls prog 55 #[.pointer (some ⟨p,0,none⟩)] w fun e w'=>e=.returned (.int .i64 s.main.rows.length)∧w'=w:=by
 obtain⟨T,q,A,E,_⟩:=h.main;have D:=Qh (zdN A);clear A h;go_enter func55,ntmps55;go_wp2_with fail;refine D.mono ?_;rintro e F ⟨rfl,rfl⟩;go_wp2_with fail;go_ret;exact⟨rfl,rfl⟩
theorem z8 {p q:Nat} {w:World} (h:ShQ w p q) :
  Calls prog 56 #[.pointer (some ⟨p,0,none⟩)] w fun e w'=>e=.returned (.pointer (some ⟨q,0,none⟩))∧w'=w:=by
 rcases h with ⟨c11,c10⟩ | c11
 ·go_enter func56,ntmps56;go_wp2_with fail;go_ret;exact⟨rfl,rfl⟩
 ·go_enter func56,ntmps56;go_wp2_with fail;go_ret;exact⟨rfl,rfl⟩
theorem za4 {B:World} {C:Nat→Nat} {p:Nat} {w:World} {s:Scr} {ps:PSt} (h:SR B C p w s ps) (m:Int) :
  Calls prog 54 #[.pointer (some ⟨p,0,none⟩),.int .i64 m] w fun e w'=>e=.returned (.bool (s.has m))∧w'=w:=by
 have A:w.cell? ⟨p,32,none⟩=some (.int .i64 s.modes):=h.at_ 32 _;clear h;go_enter func54,ntmps54;go_wp2_with fail;go_ret;exact⟨rfl,rfl⟩
theorem zbh {B:World} {C:Nat→Nat} {p:Nat} {w:World} {s:Scr} {ps:PSt} (h:SR B C p w s ps) :
  Calls prog 85 #[.pointer (some ⟨p,0,none⟩)] w fun e w'=>e=.returned (.tuple #[])∧zy B C p w w' s.whole ps:=by
 have H:=Qh (ZY h);have I:=h.fz 33;have N:=h.fz 34;have L:w.cell? ⟨p,33,none⟩=some (.int .i64 s.top):=h.at_ 33 _;have J:w.cell? ⟨p,34,none⟩=some (.int .i64 s.bottom):=h.at_ 34 _;have A:=h.wf;have T:=A.r2;have S:=A.r1;have M:IntKind.i64.wrap ((s.main.rows.length:Int)-1)=(s.main.rows.length:Int)-1:=zd _ (by omega) (by omega);obtain⟨G,D⟩:=h.set 33 (.int .i64 0) { s with top:=0 };obtain⟨F,E⟩:=G.set 34 (.int .i64 ((s.main.rows.length:Int)-1)) { s with top:=0,bottom:=(s.main.rows.length:Int)-1 };have O:=Qh (show zy B C p w _ s.whole ps from⟨C,F,D.trans E⟩);clear h G F D E A;go_enter func85,ntmps85;go_wp2_with fail;refine H.mono ?_;rintro e R ⟨rfl,rfl⟩;go_wp2_with fail;go_end0;exact⟨rfl,O⟩
theorem ZF {B:World} {C:Nat→Nat} {p:Nat} {w:World} {s:Scr} {ps:PSt} (h:SR B C p w s ps) (m:Int) (on:Bool) :
  Calls prog 190 #[.pointer (some ⟨p,0,none⟩),.int .i64 m,.bool on] w fun e w'=>e=.returned (.tuple #[])∧zy B C p w w' (s.mode m on) ps:=by
 have I:=h.fz 32;have H:w.cell? ⟨p,32,none⟩=some (.int .i64 s.modes):=h.at_ 32 _;obtain⟨D,A⟩:=h.set 32 (.int .i64 (ZD s.modes m)) { s with modes:=ZD s.modes m };cases on
 ·have E:=Qh (show zy B C p w _ (s.mode m false) ps from⟨C,D,A⟩);clear h D A;go_enter func190,ntmps190;go_wp2_with fail;go_end0;exact⟨rfl,E⟩
 ·obtain⟨G,F⟩:=D.set 32 (.int .i64 (bOr (ZD s.modes m) m)) { s with modes:=bOr (ZD s.modes m) m };have E:=Qh (show zy B C p w _ (s.mode m true) ps from⟨C,G,A.trans F⟩);clear h D G A F;go_enter func190,ntmps190;go_wp2_with fail;go_end0;exact⟨rfl,E⟩
theorem ZG {B:World} {C:Nat→Nat} {p:Nat} {w:World} {s:Scr} {ps:PSt} (h:SR B C p w s ps) :
  Calls prog 144 #[.pointer (some ⟨p,0,none⟩)] w fun e w'=>e=.returned s.blank.val∧Below w.heap.size w w':=by
 have A:w.cell? ⟨p,4,none⟩=some (.int .i64 s.now.pen.bg):=h.at_ 4 _;have D:=h.pl;have E:=fun o=>(show(w.alloc o).cell? ⟨p,4,none⟩=some (.int .i64 s.now.pen.bg) from zc ((Below.refl w.heap.size w).alloc (Nat.le_refl _) o) A);clear h;unfold Sty.val Scr.blank;go_enter func144,ntmps144;go_wp2_with fail;exact zbz rfl rfl rfl (zH _ _) underlying49 rfl (by exact zdo) ⟨rfl,(Below.refl w.heap.size w).alloc (Nat.le_refl _) _⟩
theorem Zo {B:World} {C:Nat→Nat} {p:Nat} {w:World} {s:Scr} {ps:PSt} (h:SR B C p w s ps) (x y:Int) :
  Calls prog 185 #[.pointer (some ⟨p,0,none⟩),.int .i64 x,.int .i64 y] w fun e w'=>e=.returned (.tuple #[])∧zy B C p w w' (s.place x y) ps:=by
 have R:=Qh (ZY h);have L:=Qh (Z3 h);have f0:=h.fz 0;have S:=h.fz 1;have Z:=h.fz 2;have X:w.cell? ⟨p,0,none⟩=some (.int .i64 s.now.x):=h.at_ 0 _;have c1:w.cell? ⟨p,1,none⟩=some (.int .i64 s.now.y):=h.at_ 1 _;have T:w.cell? ⟨p,2,none⟩=some (.bool s.now.wait):=h.at_ 2 _;have A:=h.wf;have U:=A.r2;have r1:=A.r1;have Y:=A.c1;have V:=A.c2;have M:IntKind.i64.wrap ((s.main.rows.length:Int)-1)=(s.main.rows.length:Int)-1:=zd _ (by omega) (by omega);have O:IntKind.i64.wrap ((s.main.cols:Int)-1)=(s.main.cols:Int)-1:=zd _ (by omega) (by omega);obtain⟨F,H⟩:=h.set 0 (.int .i64 (max 0 (min x ((s.main.cols:Int)-1)))) { s with now:={ s.now with x:=max 0 (min x ((s.main.cols:Int)-1)) } };obtain⟨D,I⟩:=F.set 1 (.int .i64 (max 0 (min y ((s.main.rows.length:Int)-1)))) { s with now:={ s.now with x:=max 0 (min x ((s.main.cols:Int)-1)),y:=max 0 (min y ((s.main.rows.length:Int)-1)) } };obtain⟨G,E⟩:=D.set 2 (.bool false) (s.place x y);have N:=Qh (show zy B C p w _ (s.place x y) ps from⟨C,G,(H.trans I).trans E⟩);clear h F D G H I E A;go_enter func185,ntmps185;go_wp2_with fail;refine L.mono ?_;rintro e J ⟨rfl,rfl⟩;go_wp2_with fail;refine R.mono ?_;rintro e J ⟨rfl,rfl⟩;go_wp2_with fail;go_end0;exact⟨rfl,N⟩
theorem zcL {B:World} {C:Nat→Nat} {p:Nat} {w:World} {s:Scr} {ps:PSt} (h:SR B C p w s ps) (y:Int) (h1:-100000≤y∧y≤100000) (h2:0≤s.top∧s.top≤1000) :
  Calls prog 209 #[.pointer (some ⟨p,0,none⟩),.int .i64 y] w fun e w'=>e=.returned (.int .i64 (s.line y))∧∃ m,w'=w.drewN m:=by
 have A:=Qh (za4 h 4);have G:w.cell? ⟨p,33,none⟩=some (.int .i64 s.top):=h.at_ 33 _;have F:w.cell? ⟨p,34,none⟩=some (.int .i64 s.bottom):=h.at_ 34 _;have H:IntKind.i64.wrap (y+s.top)=y+s.top:=zd _ (by omega) (by omega);cases e4:s.has 4
 ·have D:=Qh (show s.line y=y by unfold Scr.line;rw[e4];rfl);rw[e4]at A;clear h e4;go_enter func209,ntmps209;go_wp2_with fail;refine A.mono ?_;rintro e E ⟨rfl,rfl⟩;go_wp2_with fail;go_ret;exact⟨zah D.out.symm,0,rfl⟩
 ·have D:=Qh (show s.line y=max s.top (min (y+s.top) s.bottom) by unfold Scr.line;rw[e4];rfl);rw[e4]at A;clear h e4;go_enter func209,ntmps209;go_upto_region 3 with (refine A.mono ?_;rintro e E ⟨rfl,rfl⟩);go_quiet (fail);go_wp2_with fail;go_ret;exact⟨zah D.out.symm,_,rfl⟩
end
section
open Go.RowKit
theorem zbE {B:World} {C:Nat→Nat} {p c r:Nat} {w:World} {s:Scr} {ps:PSt} (h:SR B C p w s ps) (hok:s.Ok c r) :
  Calls prog 147 #[.pointer (some ⟨p,0,none⟩)] w fun e w'=>e=.returned (.tuple #[])∧zy B C p w w' s.index ps:=by
 have hn:=h.nums hok;have U:=Qh h;by_cases hy:s.now.y=s.bottom
 ·have d1:(s.now.y == s.bottom)=true:=beq_iff_eq.2 hy;have N:=Qh (show s.index=s.turn (fun g=>g.up s.top s.bottom 1 s.blank s.other.isNone) by unfold Scr.index;rw[if_pos hy]);have E:w.cell? ⟨p,1,none⟩=some (.int .i64 s.now.y):=h.at_ 1 _;have D:w.cell? ⟨p,34,none⟩=some (.int .i64 s.bottom):=h.at_ 34 _;clear hn h hy;go_enter func147,ntmps147;go_upto_region 0 with fail;go_quiet (fail);have F:=Qh (zm (Below.refl w.heap.size w) nq);have h:=U.out.below F;generalize w.drewN nq=A at *;clear E D;have J:A.cell? ⟨p,33,none⟩=some (.int .i64 s.top):=h.at_ 33 _;have D:A.cell? ⟨p,34,none⟩=some (.int .i64 s.bottom):=h.at_ 34 _;obtain⟨T,q,hg,hq,hk⟩:=h.grid;have HG:=Qh hg;have HQ:=Qh hq;have HK:=Qh hk;have V:=Qh (h.blankR hok);have HOT:=Qh h.oth;clear hg hq hk;have U:=Qh h;clear h;rcases HOT.out with ⟨c11,hno⟩ | ⟨qo,c11,hno⟩
  all_goals
   rw[hno]at N;clear hno;go_upto_region 1 with fail
   go_region_held3 (fun w'=>w'.cell? ⟨p,33,none⟩=some (.int .i64 s.top)∧w'.cell? ⟨p,34,none⟩=some (.int .i64 s.bottom)∧w'.cell? ⟨p,11,none⟩=A.cell? ⟨p,11,none⟩) (first | exact⟨J,D,rfl⟩ | exact⟨Y,z1,z2⟩)
    (first
     | (go_at_call 56;refine(z8 (w:=A.drew) HQ).mono ?_;rintro e w4 ⟨rfl,rfl⟩)
     | (go_at_call 144;refine(ZG (U.below (Below.refl _ _).drew)).mono ?_;rintro e w5 ⟨rfl,R⟩;have L:=Qh ((Below.refl A.heap.size A).drew.trans R);have Y:=zc R J;have z1:=zc R D;have z2:=(zc R c11).trans c11.symm;clear R)
     | (go_at_call 186;refine(zi1 (HG.below L) _ _ _ _ (V.below L) _).mono ?_;rintro e w6 ⟨rfl,O,T6,g6,n6⟩;obtain⟨d6,G⟩:=HK.out _ _ _ (fun g=>g.up s.top s.bottom 1 s.blank _) L O g6 n6;have S:=Qh d6;have Y:=(zw G 33).trans J;have z1:=(zw G 34).trans D;have z2:=zw G 11;clear O T6 g6 n6 G d6))
   go_wp2_with fail;go_end0;refine⟨rfl,?_⟩;rw[N.out];exact .after ((Pre.refl _ _).below F) S
 ·have d1:(s.now.y == s.bottom)=false:=Qb hy;obtain⟨x0,Z,X,y1,t0,tb,b1,k1,k2,r1,r2,tl,pn⟩:=hn;have A0:IntKind.i64.wrap ((s.main.rows.length:Int)-1)=(s.main.rows.length:Int)-1:=zd _ (by omega) (by omega);by_cases hy2:s.now.y<(s.main.rows.length:Int)-1
  ·have d2:decide (s.now.y<(s.main.rows.length:Int)-1)=true:=Qt hy2;have B0:IntKind.i64.wrap (s.now.y+1)=s.now.y+1:=zd _ (by omega) (by omega);have N:=Qh (show s.index={ s with now:={ s.now with y:=s.now.y+1 } } by unfold Scr.index;rw[if_neg hy,if_pos (show s.now.y<s.rows-1 from hy2)]);have E:w.cell? ⟨p,1,none⟩=some (.int .i64 s.now.y):=h.at_ 1 _;have D:w.cell? ⟨p,34,none⟩=some (.int .i64 s.bottom):=h.at_ 34 _;clear h hy hy2 x0 Z X y1 t0 tb b1 k1 k2 r1 r2 tl pn hok;go_enter func147,ntmps147;go_upto_region 0 with fail;go_quiet (fail);have F:=Qh (zm (Below.refl w.heap.size w) nq);have h:=U.out.below F;generalize w.drewN nq=A at *;clear E D;have E:A.cell? ⟨p,1,none⟩=some (.int .i64 s.now.y):=h.at_ 1 _;have I:=Qh (fun w' hb=>ZY (h.below (w':=w') hb));go_upto_region 2 with fail;go_quiet (first | (go_at_call 55;exact Calls.quiet_of_same (I _ (zm (Below.refl _ _) _))));have H:=Qh (F.trans ((zm (Below.refl A.heap.size A) nq).mono F.size));replace h:=h.below (zm (Below.refl A.heap.size A) nq);generalize A.drewN nq=M at *;clear E;have E:M.cell? ⟨p,1,none⟩=some (.int .i64 s.now.y):=h.at_ 1 _;have f1:=h.fz 1;obtain⟨h1,g1⟩:=h.set 1 (.int .i64 (s.now.y+1)) { s with now:={ s.now with y:=s.now.y+1 } };have S:=Qh (show zy B C p M _ s.index ps by rw[N.out];exact⟨C,h1,g1⟩);clear h1 g1;clear h;go_wp2_with fail;go_end0;exact⟨rfl,.after ((Pre.refl _ _).below H) S⟩
  ·have d2:decide (s.now.y<(s.main.rows.length:Int)-1)=false:=Qf hy2;have N:=Qh (show s.index=s by unfold Scr.index;rw[if_neg hy,if_neg (show ¬ s.now.y<s.rows-1 from hy2)]);have E:w.cell? ⟨p,1,none⟩=some (.int .i64 s.now.y):=h.at_ 1 _;have D:w.cell? ⟨p,34,none⟩=some (.int .i64 s.bottom):=h.at_ 34 _;clear h hy hy2 x0 Z X y1 t0 tb b1 k1 k2 r1 r2 tl pn hok;go_enter func147,ntmps147;go_upto_region 0 with fail;go_quiet (fail);have F:=Qh (zm (Below.refl w.heap.size w) nq);have h:=U.out.below F;generalize w.drewN nq=A at *;clear E D;have E:A.cell? ⟨p,1,none⟩=some (.int .i64 s.now.y):=h.at_ 1 _;have I:=Qh (fun w' hb=>ZY (h.below (w':=w') hb));go_upto_region 2 with fail;go_quiet (first | (go_at_call 55;exact Calls.quiet_of_same (I _ (zm (Below.refl _ _) _))));have H:=Qh (F.trans ((zm (Below.refl A.heap.size A) nq).mono F.size));replace h:=h.below (zm (Below.refl A.heap.size A) nq);generalize A.drewN nq=M at *;clear E;have E:M.cell? ⟨p,1,none⟩=some (.int .i64 s.now.y):=h.at_ 1 _;have S:=Qh (show zy B C p M M s.index ps by rw[N.out];exact .refl h);clear h;go_wp2_with fail;go_end0;exact⟨rfl,.after ((Pre.refl _ _).below H) S⟩
theorem zhm {B:World} {C:Nat→Nat} {p c r:Nat} {w:World} {s:Scr} {ps:PSt} (h:SR B C p w s ps) (hok:s.Ok c r) :
  Calls prog 189 #[.pointer (some ⟨p,0,none⟩)] w fun e w'=>e=.returned (.tuple #[])∧zy B C p w w' s.reverse ps:=by
 have hn:=h.nums hok;have N:=Qh h;by_cases hy:s.now.y=s.top
 ·have d1:(s.now.y == s.top)=true:=beq_iff_eq.2 hy;have L:=Qh (show s.reverse=s.turn (fun g=>g.down s.top s.bottom 1 s.blank) by unfold Scr.reverse;rw[if_pos hy]);have I:w.cell? ⟨p,1,none⟩=some (.int .i64 s.now.y):=h.at_ 1 _;have A:w.cell? ⟨p,33,none⟩=some (.int .i64 s.top):=h.at_ 33 _;clear hn h hy;go_enter func189,ntmps189;go_upto_region 0 with fail;go_quiet (fail);have E:=Qh (zm (Below.refl w.heap.size w) nq);have h:=N.out.below E;generalize w.drewN nq=D at *;clear I A;have A:D.cell? ⟨p,33,none⟩=some (.int .i64 s.top):=h.at_ 33 _;have F:D.cell? ⟨p,34,none⟩=some (.int .i64 s.bottom):=h.at_ 34 _;obtain⟨T,q,hg,hq,hk⟩:=h.grid;have HG:=Qh hg;have HQ:=Qh hq;have HK:=Qh hk;have R:=Qh (h.blankR hok);clear hg hq hk;have N:=Qh h;clear h;go_upto_region 1 with fail
  go_region_held3 (fun w'=>w'.cell? ⟨p,33,none⟩=some (.int .i64 s.top)∧w'.cell? ⟨p,34,none⟩=some (.int .i64 s.bottom)) (first | exact⟨A,F⟩ | exact⟨U,z1⟩)
   (first
    | (go_at_call 56;refine(z8 (w:=D.drew) HQ).mono ?_;rintro e w4 ⟨rfl,rfl⟩)
    | (go_at_call 144;refine(ZG (N.below (Below.refl _ _).drew)).mono ?_;rintro e w5 ⟨rfl,O⟩;have H:=Qh ((Below.refl D.heap.size D).drew.trans O);have U:=zc O A;have z1:=zc O F;clear O)
    | (go_at_call 228;refine(zgp (HG.below H) _ _ _ _ (R.below H)).mono ?_;rintro e w6 ⟨rfl,J,T6,Z,n6⟩;obtain⟨X,G⟩:=HK.out _ _ _ (fun g=>g.down s.top s.bottom 1 s.blank) H J Z n6;have M:=Qh X;have U:=(zw G 33).trans A;have z1:=(zw G 34).trans F;clear J T6 Z n6 G X))
  go_wp2_with fail;go_end0;refine⟨rfl,?_⟩;rw[L.out];exact .after ((Pre.refl _ _).below E) M
 ·have d1:(s.now.y == s.top)=false:=Qb hy;obtain⟨x0,V,S,y1,t0,tb,Y,k1,k2,r1,r2,tl,pn⟩:=hn;have A0:IntKind.i64.wrap ((s.main.rows.length:Int)-1)=(s.main.rows.length:Int)-1:=zd _ (by omega) (by omega);by_cases hy2:0<s.now.y
  ·have d2:decide (0<s.now.y)=true:=Qt hy2;have B0:IntKind.i64.wrap (s.now.y-1)=s.now.y-1:=zd _ (by omega) (by omega);have L:=Qh (show s.reverse={ s with now:={ s.now with y:=s.now.y-1 } } by unfold Scr.reverse;rw[if_neg hy,if_pos (show 0<s.now.y from hy2)]);have I:w.cell? ⟨p,1,none⟩=some (.int .i64 s.now.y):=h.at_ 1 _;have A:w.cell? ⟨p,33,none⟩=some (.int .i64 s.top):=h.at_ 33 _;clear h hy hy2 x0 V S y1 t0 tb Y k1 k2 r1 r2 tl pn hok;go_enter func189,ntmps189;go_upto_region 0 with fail;go_quiet (fail);have E:=Qh (zm (Below.refl w.heap.size w) nq);have h:=N.out.below E;generalize w.drewN nq=D at *;clear I A;have I:D.cell? ⟨p,1,none⟩=some (.int .i64 s.now.y):=h.at_ 1 _;have f1:=h.fz 1;obtain⟨h1,g1⟩:=h.set 1 (.int .i64 (s.now.y-1)) { s with now:={ s.now with y:=s.now.y-1 } };have M:=Qh (show zy B C p D _ s.reverse ps by rw[L.out];exact⟨C,h1,g1⟩);clear h1 g1;clear h;go_wp2_with fail;go_end0;exact⟨rfl,.after ((Pre.refl _ _).below E) M⟩
  ·have d2:decide (0<s.now.y)=false:=Qf hy2;have L:=Qh (show s.reverse=s by unfold Scr.reverse;rw[if_neg hy,if_neg (show ¬ 0<s.now.y from hy2)]);have I:w.cell? ⟨p,1,none⟩=some (.int .i64 s.now.y):=h.at_ 1 _;have A:w.cell? ⟨p,33,none⟩=some (.int .i64 s.top):=h.at_ 33 _;clear h hy hy2 x0 V S y1 t0 tb Y k1 k2 r1 r2 tl pn hok;go_enter func189,ntmps189;go_upto_region 0 with fail;go_quiet (fail);have E:=Qh (zm (Below.refl w.heap.size w) nq);have h:=N.out.below E;generalize w.drewN nq=D at *;clear I A;have I:D.cell? ⟨p,1,none⟩=some (.int .i64 s.now.y):=h.at_ 1 _;have M:=Qh (show zy B C p D D s.reverse ps by rw[L.out];exact .refl h);clear h;go_wp2_with fail;go_end0;exact⟨rfl,.after ((Pre.refl _ _).below E) M⟩
theorem zke {B:World} {C:Nat→Nat} {p c r:Nat} {w:World} {s:Scr} {ps:PSt} (h:SR B C p w s ps) (hok:s.Ok c r) :
  Calls prog 142 #[.pointer (some ⟨p,0,none⟩)] w fun e w'=>e=.returned (.tuple #[])∧zy B C p w w' s.on ps:=by
 have I:=h.nums hok;have V:w.cell? ⟨p,1,none⟩=some (.int .i64 s.now.y):=h.at_ 1 _;obtain⟨T,q,E,hq,G⟩:=h.grid;have HG:=Qh E;have HQ:=Qh hq;have HK:=Qh G;clear E hq G;have J:=Qh ((hok.turn (fun g=>g.setWrap s.now.y true) (fun g E=>zcI E _ _)).toX (x:=0) (by omega) (by rw[(I.ok hok).1];have:=I.c1;omega));clear I h hok;go_enter func142,ntmps142;go_upto_region 0 with fail
 go_region_held3 (fun w'=>w'.cell? ⟨p,1,none⟩=some (.int .i64 s.now.y)) (first | exact V | exact M)
  (first
   | (go_at_call 56;refine(z8 (w:=w.drew) HQ).mono ?_;rintro e w4 ⟨rfl,rfl⟩)
   | (go_at_call 183;refine(zeE (HG.below (Below.refl _ _).drew) _ _).mono ?_;rintro e Y ⟨rfl,A,R⟩;obtain⟨O,D⟩:=HK.out _ _ _ (fun g=>g.setWrap s.now.y true) (Below.refl _ _).drew A R (fun k G=>.inl G);have Z:=Qh O;have M:=(zw D 1).trans V;clear A R D O))
 obtain⟨C1,F,U⟩:=Z.out;have c0:Y.cell? ⟨p,0,none⟩=some (.int .i64 (s.turn (fun g=>g.setWrap s.now.y true)).now.x):=F.at_ 0 _;have f0:=F.fz 0;obtain⟨N,S⟩:=F.set 0 (.int .i64 0) ((s.turn (fun g=>g.setWrap s.now.y true)).toX 0);have H2:=Qh N;have X:=Qh (U.trans S);clear F U N S M;go_wp2_with fail;refine(zbE H2 J).mono ?_;rintro e w8 ⟨rfl,L⟩;have H:=Qh (zy.after X L);clear L;go_wp2_with fail;go_end0;exact⟨rfl,H⟩
end
section
open Go.RowKit
theorem zmy:(prog.info? 3).map (·.size)=some 1:=by kernel_rfl
theorem ZH (a:VAct) (v:Value) (w:World) (hr:zfx .i64 w v a.params) (i:Nat) (first:Int) :
  Calls prog 151 #[a.val v,.int .i64 i,.int .i64 first] w fun e w'=>e=.returned (.int .i64 (par a.params i first))∧Below w.heap.size w w':=by
 have M:=zcz underlying22 hr;have G:=zH w (.cells (a.cells v).toArray 93);have I:=Qh ((Below.refl w.heap.size w).alloc (Nat.le_refl _) (.cells (a.cells v).toArray 93));have V:=Qh hr;have X:=Qh (show ∀ n,a.params.length=n→a.params.length=n from fun _ h=>h);obtain⟨D,F,C,params,A,E⟩:=a;unfold VAct.val;unfold VAct.cells at G I;dsimp only at *;have Y:(w.alloc (.cells #[.int .i64 D,.int .i32 F,.int .u8 (C.toNat:Int),v,.string A,.string E] 93)).cell? ⟨w.heap.size,3,none⟩=some v:=za G 3;clear hr G;by_cases hi:i<params.length
 ·have S:decide ((params.length:Int)≤(i:Int))=false:=Qf (by omega);have L:decide (params.length≤i)=false:=Qf (by omega);obtain⟨O,T,B⟩:=zip underlying22 zmy V i hi;have J:(w.alloc (.cells #[.int .i64 D,.int .i32 F,.int .u8 (C.toNat:Int),v,.string A,.string E] 93)).cell? O=some (.int .i64 (params.getD i 0)):=zc I.out B;have N:=Qh (show params.getD i (-1)=params.getD i 0 by rw[List.getD_eq_getElem?_getD,List.getD_eq_getElem?_getD,List.getElem?_eq_getElem hi];rfl);have U:=Qh hi;clear hi B;by_cases hx:params.getD i 0<0
  ·have R:decide (params.getD i 0<0)=true:=Qt hx;have H:=Qh (show par params i first=first by unfold par;rw[if_neg (by rw[N.out];omega)]);clear hx;generalize params.getD i 0=x at *;go_enter func151,ntmps151;go_wp2_with fail;go_ret;exact⟨zah H.out.symm,I.out⟩
  ·have R:decide (params.getD i 0<0)=false:=Qf hx;have H:=Qh (show par params i first=min (params.getD i 0) 9999 by unfold par;rw[N.out,if_pos ⟨U.out,by omega⟩]);clear hx;generalize params.getD i 0=x at *;go_enter func151,ntmps151;go_wp2_with fail;go_ret;exact⟨zah H.out.symm,I.out⟩
 ·have S:decide ((params.length:Int)≤(i:Int))=true:=Qt (by omega);have L:decide (params.length≤i)=true:=Qt (by omega);have H:=Qh (show par params i first=first by unfold par;rw[if_neg (fun e=>hi e.1)]);clear hi;go_enter func151,ntmps151;go_wp2_with fail;go_ret;exact⟨zah H.out.symm,I.out⟩
def kcL:List (Nat × Int):=[(0,1),(1,2),(2,3),(3,4),(4,5),(5,7),(6,8),(7,9)]
def Zt (p:Sty) (n:Int) (k:Nat):Sty:=(kcL.take k).foldl (fun p kc=>zfI p n kc) p
def zpe:Value:=.agg #[.int .i64 1,.int .i64 2,.int .i64 3,.int .i64 4,.int .i64 5,.int .i64 7,.int .i64 8,.int .i64 9]
theorem ix8 (i:Nat) (hi:i<8) (wx:World):(Instr.index 196 zpe (.int .i64 (i:Int))).run prog wx=.ok (.int .i64 (kcL.getD i (0,0)).2) wx:=by
 have B:(sizeOf 3).run prog wx=.ok 1 wx:=zdn (by kernel_rfl) wx;have A:(0:Int)≤(i:Int)∧(i:Int)<8:=(by omega);unfold zpe;simp only[Instr.index,asIntOf,Sem.run_bind,Sem.run_pure,Result.andThen_ok,run_underlying underlying196,if_pos A,B];have:i=0∨i=1∨i=2∨i=3∨i=4∨i=5∨i=6∨i=7:=(by omega);rcases this with rfl | rfl | rfl | rfl | rfl | rfl | rfl | rfl
 all_goals simp[part,B,zdn,kcL]
theorem zmz (p:Sty) (n:Int) (h0:¬ n=0) (h22:¬ n=22) (h30:¬ (30≤n∧n≤37)) (h39:¬ n=39) (h40:¬ (40≤n∧n≤47)) (h49:¬ n=49) (h90:¬ (90≤n∧n≤97)) (h100:¬ (100≤n∧n≤107)):zaS p n=Zt p n 8:=by
 unfold zaS;rw[if_neg h0,if_neg h22,if_neg h30,if_neg h39,if_neg h40,if_neg h49,if_neg h90,if_neg h100];rfl
theorem znR (p:Sty) (n:Int) (k:Nat) (c:Int) (h:n=c):zfI p n (k,c)={ p with attr:=bOr p.attr (2 ^ k:Nat) }:=by
 unfold zfI;dsimp only;rw[if_pos h,if_neg (show ¬ (n=c+20∧1<k) by omega)]
theorem zmA (p:Sty) (n:Int) (k:Nat) (c:Int) (h:n=c+20) (hk:1<k):zfI p n (k,c)={ p with attr:=ZD p.attr (2 ^ k:Nat) }:=by
 unfold zfI;dsimp only;rw[if_neg (show ¬ n=c by omega),if_pos (show n=c+20∧1<k from⟨h,hk⟩)]
theorem znS (p:Sty) (n:Int) (k:Nat) (c:Int) (h:¬ n=c) (h2:¬ (n=c+20∧1<k)):zfI p n (k,c)=p:=by
 unfold zfI;dsimp only;rw[if_neg h,if_neg h2]
theorem zcq (p:Sty) (n:Int) (k:Nat) (c:Int) (m:Int) (hk:kcL[k]?=some (k,c)) (hm:((2 ^ k:Nat):Int)=m) (h:n=c):Zt p n (k+1)={ Zt p n k with attr:=bOr (Zt p n k).attr m }:=by
 unfold Zt;rw[List.take_add_one,hk,List.foldl_append,← hm];exact znR _ n k c h
theorem zcM (p:Sty) (n:Int) (k:Nat) (c:Int) (m:Int) (hk:kcL[k]?=some (k,c)) (hm:((2 ^ k:Nat):Int)=m) (h:n=c+20) (h1:1<k):Zt p n (k+1)={ Zt p n k with attr:=ZD (Zt p n k).attr m }:=by
 unfold Zt;rw[List.take_add_one,hk,List.foldl_append,← hm];exact zmA _ n k c h h1
theorem zbH (p:Sty) (n:Int) (k:Nat) (c:Int) (hk:kcL[k]?=some (k,c)) (h:¬ n=c) (h2:¬ (n=c+20∧1<k)):Zt p n (k+1)=Zt p n k:=by
 unfold Zt;rw[List.take_add_one,hk,List.foldl_append];exact znS _ n k c h h2
def Scr.ink (s:Scr) (t:Sty):Scr:={ s with now:={ s.now with pen:=t } }
theorem SR.setPen {B:World} {C:Nat→Nat} {p:Nat} {w:World} {s:Scr} {ps:PSt} (h:SR B C p w s ps) (t:Sty) :
  (storeVar 49 ⟨p,3,none⟩ (.agg #[.int .i64 t.fg,.int .i64 t.bg,.int .i64 t.attr])).run prog w=.ok () (w.setCells p 3 [.int .i64 t.fg,.int .i64 t.bg,.int .i64 t.attr]) ∧
  SR B C p (w.setCells p 3 [.int .i64 t.fg,.int .i64 t.bg,.int .i64 t.attr]) (s.ink t) ps∧Pre C w C (w.setCells p 3 [.int .i64 t.fg,.int .i64 t.bg,.int .i64 t.attr]):=by
 refine⟨run_storeVar_mid w p 3 49 #[.int .i64 t.fg,.int .i64 t.bg,.int .i64 t.attr] (h.there 3 3 (by decide)) zdo (by simp[Value.oneCell']),?_⟩;exact h.setG (zbq w p _ _) (s.ink t) (fun pm po pp vt vo hb=>by
  have A:=zz (zz (zz hb 3 (.int .i64 t.fg)) 4 (.int .i64 t.bg)) 5 (.int .i64 t.attr);simp only[Scr.cells,List.setIfInBounds_toArray,List.set_cons_zero,List.set_cons_succ]at A;exact A)
theorem zla {B:World} {C:Nat→Nat} {p:Nat} {w:World} {s:Scr} {ps:PSt} (h:SR B C p w s ps) (n:Int) (h0:0≤n) (h9:n≤9999) :
  Calls prog 236 #[.pointer (some ⟨p,0,none⟩),.int .i64 n] w fun e w'=>e=.returned (.tuple #[])∧zy B C p w w' (s.ink (zaS s.now.pen n)) ps:=by
 have c3:w.cell? ⟨p,3,none⟩=some (.int .i64 s.now.pen.fg):=h.at_ 3 _;have c4:w.cell? ⟨p,4,none⟩=some (.int .i64 s.now.pen.bg):=h.at_ 4 _;have c5:w.cell? ⟨p,5,none⟩=some (.int .i64 s.now.pen.attr):=h.at_ 5 _;have f3:=h.fz 3;have f4:=h.fz 4;have f5:=h.fz 5;by_cases hc:n=0
 ·subst hc;have S:=Qh (show zaS s.now.pen 0=plainS from rfl);have HR:=Qh h;clear h h0 h9 c3 c4 c5 f3 f4 f5;go_enter func236,ntmps236;go_wp2_with fail;refine(ZW w).mono ?_;rintro e w2 ⟨rfl,b2⟩;obtain⟨S0,N,O⟩:=(HR.below b2).setPen plainS;have T:=Qh (show zy B C p w _ _ ps from⟨_,N,((Pre.refl C w).below b2).trans O⟩);clear N O b2;unfold Sty.val;go_wp2_with (refine zF rfl _ _ _ rfl S0 rfl rfl ?_);go_end0;refine⟨rfl,?_⟩;rw[S.out];exact T
 have e0:(n == 0)=false:=Qb hc;have F0:=Qh hc;clear hc;by_cases hc:n=22
 ·subst hc;have S:=Qh (show zaS s.now.pen 22={ s.now.pen with attr:=ZD s.now.pen.attr 3 } from rfl);obtain⟨N,O⟩:=h.set 5 (.int .i64 (ZD s.now.pen.attr 3)) (s.ink { s.now.pen with attr:=ZD s.now.pen.attr 3 });have T:=Qh (show zy B C p w _ _ ps from⟨_,N,O⟩);clear h N O h0 h9;go_enter func236,ntmps236;go_wp2_with fail;go_end0;refine⟨rfl,?_⟩;rw[S.out];exact T
 have U0:(n == 22)=false:=Qb hc;have R:=Qh hc;clear hc;by_cases hc:30≤n∧n≤37
 ·have S:=Qh (show zaS s.now.pen n={ s.now.pen with fg:=n-30 } by unfold zaS;rw[if_neg F0.out,if_neg R.out,if_pos hc]);have hw:IntKind.i64.wrap (n-30)=n-30:=zd _ (by omega) (by omega);have D0:decide (30≤n)=true:=Qt (by omega);have H0:decide (n≤37)=true:=Qt (by omega);obtain⟨N,O⟩:=h.set 3 (.int .i64 (n-30)) (s.ink { s.now.pen with fg:=n-30 });have T:=Qh (show zy B C p w _ _ ps from⟨_,N,O⟩);clear h N O h0 h9 hc;go_enter func236,ntmps236;go_wp2_with fail;go_end0;refine⟨rfl,?_⟩;rw[S.out];exact T
 have U:=Qh hc;clear hc;by_cases hc:n=39
 ·subst hc;have S:=Qh (show zaS s.now.pen 39={ s.now.pen with fg:=-1 } from rfl);obtain⟨N,O⟩:=h.set 3 (.int .i64 (-1)) (s.ink { s.now.pen with fg:=-1 });have T:=Qh (show zy B C p w _ _ ps from⟨_,N,O⟩);clear h N O h0 h9;go_enter func236,ntmps236;go_wp2_with fail;go_end0;refine⟨rfl,?_⟩;rw[S.out];exact T
 have L0:(n == 39)=false:=Qb hc;have A0:=Qh hc;clear hc;by_cases hc:40≤n∧n≤47
 ·have S:=Qh (show zaS s.now.pen n={ s.now.pen with bg:=n-40 } by unfold zaS;rw[if_neg F0.out,if_neg R.out,if_neg U.out,if_neg A0.out,if_pos hc]);have hw:IntKind.i64.wrap (n-40)=n-40:=zd _ (by omega) (by omega);have D0:decide (30≤n)=true:=Qt (by omega);have H0:decide (n≤37)=false:=Qf (by omega);have I0:decide (40≤n)=true:=Qt (by omega);have J0:decide (n≤47)=true:=Qt (by omega);have L0:(n == 39)=false:=Qb (by omega);obtain⟨N,O⟩:=h.set 4 (.int .i64 (n-40)) (s.ink { s.now.pen with bg:=n-40 });have T:=Qh (show zy B C p w _ _ ps from⟨_,N,O⟩);clear h N O h0 h9 hc;go_enter func236,ntmps236;go_wp2_with fail;go_end0;refine⟨rfl,?_⟩;rw[S.out];exact T
 have B0:=Qh hc;clear hc;by_cases hc:n=49
 ·subst hc;have S:=Qh (show zaS s.now.pen 49={ s.now.pen with bg:=-1 } from rfl);obtain⟨N,O⟩:=h.set 4 (.int .i64 (-1)) (s.ink { s.now.pen with bg:=-1 });have T:=Qh (show zy B C p w _ _ ps from⟨_,N,O⟩);clear h N O h0 h9;go_enter func236,ntmps236;go_wp2_with fail;go_end0;refine⟨rfl,?_⟩;rw[S.out];exact T
 have N0:(n == 49)=false:=Qb hc;have E0:=Qh hc;clear hc;by_cases hc:90≤n∧n≤97
 ·have S:=Qh (show zaS s.now.pen n={ s.now.pen with fg:=n-82 } by unfold zaS;rw[if_neg F0.out,if_neg R.out,if_neg U.out,if_neg A0.out,if_neg B0.out,if_neg E0.out,if_pos hc]);have hw:IntKind.i64.wrap (n-82)=n-82:=zd _ (by omega) (by omega);have D0:decide (30≤n)=true:=Qt (by omega);have H0:decide (n≤37)=false:=Qf (by omega);have I0:decide (40≤n)=true:=Qt (by omega);have J0:decide (n≤47)=false:=Qf (by omega);have O0:decide (90≤n)=true:=Qt (by omega);have M0:decide (n≤97)=true:=Qt (by omega);have L0:(n == 39)=false:=Qb (by omega);have N0:(n == 49)=false:=Qb (by omega);obtain⟨N,O⟩:=h.set 3 (.int .i64 (n-82)) (s.ink { s.now.pen with fg:=n-82 });have T:=Qh (show zy B C p w _ _ ps from⟨_,N,O⟩);clear h N O h0 h9 hc;go_enter func236,ntmps236;go_wp2_with fail;go_end0;refine⟨rfl,?_⟩;rw[S.out];exact T
 have G0:=Qh hc;clear hc;by_cases hc:100≤n∧n≤107
 ·have S:=Qh (show zaS s.now.pen n={ s.now.pen with bg:=n-92 } by unfold zaS;rw[if_neg F0.out,if_neg R.out,if_neg U.out,if_neg A0.out,if_neg B0.out,if_neg E0.out,if_neg G0.out,if_pos hc]);have hw:IntKind.i64.wrap (n-92)=n-92:=zd _ (by omega) (by omega);have D0:decide (30≤n)=true:=Qt (by omega);have H0:decide (n≤37)=false:=Qf (by omega);have I0:decide (40≤n)=true:=Qt (by omega);have J0:decide (n≤47)=false:=Qf (by omega);have O0:decide (90≤n)=true:=Qt (by omega);have M0:decide (n≤97)=false:=Qf (by omega);have T0:decide (100≤n)=true:=Qt (by omega);have R0:decide (n≤107)=true:=Qt (by omega);have L0:(n == 39)=false:=Qb (by omega);have N0:(n == 49)=false:=Qb (by omega);obtain⟨N,O⟩:=h.set 4 (.int .i64 (n-92)) (s.ink { s.now.pen with bg:=n-92 });have T:=Qh (show zy B C p w _ _ ps from⟨_,N,O⟩);clear h N O h0 h9 hc;go_enter func236,ntmps236;go_wp2_with fail;go_end0;refine⟨rfl,?_⟩;rw[S.out];exact T
 have C0:=Qh hc;clear hc;have S:=Qh (zmz s.now.pen n F0 R U A0 B0 E0 G0 C0);have HR:=Qh h;clear h c3 c4 c5 f3 f4 f5;go_enter func236,ntmps236;go_upto_region 12 with fail
 go_cut [71] (fun v wz=>v=.bool false∧wz=w)
 case first =>
  by_cases hx:30≤n
  ·have d1:decide (30≤n)=true:=Qt hx;have d2:decide (n≤37)=false:=Qf (fun e=>U ⟨hx,e⟩);go_wp2_with fail;go_meet;exact⟨rfl,rfl⟩
  ·have d1:decide (30≤n)=false:=Qf hx;go_wp2_with fail;go_meet;exact⟨rfl,rfl⟩
 case rest =>
 obtain⟨rfl,X⟩:=hcut;subst X;obtain⟨w,rfl⟩:∃ z,z=wc:=⟨wc,rfl⟩;go_upto_region 16 with fail
 go_cut [93] (fun v wz=>v=.bool false∧wz=w)
 case first =>
  by_cases hx:40≤n
  ·have d1:decide (40≤n)=true:=Qt hx;have d2:decide (n≤47)=false:=Qf (fun e=>B0 ⟨hx,e⟩);go_wp2_with fail;go_meet;exact⟨rfl,rfl⟩
  ·have d1:decide (40≤n)=false:=Qf hx;go_wp2_with fail;go_meet;exact⟨rfl,rfl⟩
 case rest =>
 obtain⟨rfl,X⟩:=hcut;subst X;obtain⟨w,rfl⟩:∃ z,z=wc:=⟨wc,rfl⟩;go_upto_region 20 with fail
 go_cut [115] (fun v wz=>v=.bool false∧wz=w)
 case first =>
  by_cases hx:90≤n
  ·have d1:decide (90≤n)=true:=Qt hx;have d2:decide (n≤97)=false:=Qf (fun e=>G0 ⟨hx,e⟩);go_wp2_with fail;go_meet;exact⟨rfl,rfl⟩
  ·have d1:decide (90≤n)=false:=Qf hx;go_wp2_with fail;go_meet;exact⟨rfl,rfl⟩
 case rest =>
 obtain⟨rfl,X⟩:=hcut;subst X;obtain⟨w,rfl⟩:∃ z,z=wc:=⟨wc,rfl⟩;go_upto_region 22 with fail
 go_cut [129] (fun v wz=>v=.bool false∧wz=w)
 case first =>
  by_cases hx:100≤n
  ·have d1:decide (100≤n)=true:=Qt hx;have d2:decide (n≤107)=false:=Qf (fun e=>C0 ⟨hx,e⟩);go_wp2_with fail;go_meet;exact⟨rfl,rfl⟩
  ·have d1:decide (100≤n)=false:=Qf hx;go_wp2_with fail;go_meet;exact⟨rfl,rfl⟩
 case rest =>
 obtain⟨rfl,X⟩:=hcut;subst X;obtain⟨w,rfl⟩:∃ z,z=wc:=⟨wc,rfl⟩;go_wp2_with fail
 go_loopw [7] (fun iv wr=>∃ (k:Nat) (H:Nat→Nat),k≤8∧iv=.int .i64 k∧Hid (SR B H p wr (s.ink (Zt s.now.pen n k)) ps)∧Hid (Pre C w H wr)) (fun iv _=>8-(intOf iv).toNat)
 case atStart=>exact⟨0,C,by omega,rfl,HR,Qh (Pre.refl _ _)⟩
 case round =>
  obtain⟨k,H,hk,rfl,F,L⟩:=hrel;obtain rfl | rfl | rfl | rfl | rfl | rfl | rfl | rfl | rfl:k=0∨k=1∨k=2∨k=3∨k=4∨k=5∨k=6∨k=7∨k=8:=by omega
  ·have Z:∀ wx,(Instr.index 196 (.agg #[.int .i64 1,.int .i64 2,.int .i64 3,.int .i64 4,.int .i64 5,.int .i64 7,.int .i64 8,.int .i64 9]) (.int .i64 0)).run prog wx=.ok (.int .i64 1) wx:=fun wx=>ix8 0 (by decide) wx;have c5:wr.cell? ⟨p,5,none⟩=some (.int .i64 (Zt s.now.pen n 0).attr):=F.out.at_ 5 _;have f5:=F.out.fz 5;have V:IntKind.i64.wrap 1=1:=zd _ (by decide) (by decide);by_cases hc:n=1
   ·have Y:(n == 1)=true:=beq_iff_eq.2 hc;have M:(n == 21)=false:=Qb (by omega);have A:=Qh (zcq s.now.pen n 0 1 1 rfl (by decide) hc);clear hc;obtain⟨E,G⟩:=(F.below (Below.refl wr.heap.size wr).drew).set 5 (.int .i64 (bOr (Zt s.now.pen n 0).attr 1)) (s.ink { Zt s.now.pen n 0 with attr:=bOr (Zt s.now.pen n 0).attr 1 });have J:=Qh E;have I:=Qh ((L.below (Below.refl wr.heap.size wr).drew).trans G);clear E G;go_upto_region 4 with fail
    go_still_tail 13,(by kernel_rfl)
    change wpList _ _ _ _ _ wr.drew;go_wp2_with fail;go_roundw
    case rel=>exact⟨0+1,H,by decide,by go_num,Qh (by rw[A.out];exact J),Qh I⟩
    case measure=>simp[intOf]
   have Y:(n == 1)=false:=Qb hc;by_cases hd:n=21
   ·have M:(n == 21)=true:=beq_iff_eq.2 hd;have D:¬ (n=1+20∧1<0):=fun e=>absurd e.2 (by decide);clear hd;have A:=Qh (zbH s.now.pen n 0 1 rfl hc D);clear hc D;go_wp2_with fail;go_roundw
    case rel=>exact⟨0+1,H,by decide,by go_num,Qh (by rw[A.out];exact F),L⟩
    case measure=>simp[intOf]
   ·have M:(n == 21)=false:=Qb hd;have D:¬ (n=1+20∧1<0):=fun e=>hd e.1;clear hd;have A:=Qh (zbH s.now.pen n 0 1 rfl hc D);clear hc D;go_wp2_with fail;go_roundw
    case rel=>exact⟨0+1,H,by decide,by go_num,Qh (by rw[A.out];exact F),L⟩
    case measure=>simp[intOf]
  ·have Z:∀ wx,(Instr.index 196 (.agg #[.int .i64 1,.int .i64 2,.int .i64 3,.int .i64 4,.int .i64 5,.int .i64 7,.int .i64 8,.int .i64 9]) (.int .i64 1)).run prog wx=.ok (.int .i64 2) wx:=fun wx=>ix8 1 (by decide) wx;have c5:wr.cell? ⟨p,5,none⟩=some (.int .i64 (Zt s.now.pen n 1).attr):=F.out.at_ 5 _;have f5:=F.out.fz 5;have V:IntKind.i64.wrap 2=2:=zd _ (by decide) (by decide);by_cases hc:n=2
   ·have Y:(n == 2)=true:=beq_iff_eq.2 hc;have M:(n == 22)=false:=Qb (by omega);have A:=Qh (zcq s.now.pen n 1 2 2 rfl (by decide) hc);clear hc;obtain⟨E,G⟩:=(F.below (Below.refl wr.heap.size wr).drew).set 5 (.int .i64 (bOr (Zt s.now.pen n 1).attr 2)) (s.ink { Zt s.now.pen n 1 with attr:=bOr (Zt s.now.pen n 1).attr 2 });have J:=Qh E;have I:=Qh ((L.below (Below.refl wr.heap.size wr).drew).trans G);clear E G;go_upto_region 4 with fail
    go_still_tail 13,(by kernel_rfl)
    change wpList _ _ _ _ _ wr.drew;go_wp2_with fail;go_roundw
    case rel=>exact⟨1+1,H,by decide,by go_num,Qh (by rw[A.out];exact J),Qh I⟩
    case measure=>simp[intOf]
   have Y:(n == 2)=false:=Qb hc;by_cases hd:n=22
   ·have M:(n == 22)=true:=beq_iff_eq.2 hd;have D:¬ (n=2+20∧1<1):=fun e=>absurd e.2 (by decide);clear hd;have A:=Qh (zbH s.now.pen n 1 2 rfl hc D);clear hc D;go_wp2_with fail;go_roundw
    case rel=>exact⟨1+1,H,by decide,by go_num,Qh (by rw[A.out];exact F),L⟩
    case measure=>simp[intOf]
   ·have M:(n == 22)=false:=Qb hd;have D:¬ (n=2+20∧1<1):=fun e=>hd e.1;clear hd;have A:=Qh (zbH s.now.pen n 1 2 rfl hc D);clear hc D;go_wp2_with fail;go_roundw
    case rel=>exact⟨1+1,H,by decide,by go_num,Qh (by rw[A.out];exact F),L⟩
    case measure=>simp[intOf]
  ·have Z:∀ wx,(Instr.index 196 (.agg #[.int .i64 1,.int .i64 2,.int .i64 3,.int .i64 4,.int .i64 5,.int .i64 7,.int .i64 8,.int .i64 9]) (.int .i64 2)).run prog wx=.ok (.int .i64 3) wx:=fun wx=>ix8 2 (by decide) wx;have c5:wr.cell? ⟨p,5,none⟩=some (.int .i64 (Zt s.now.pen n 2).attr):=F.out.at_ 5 _;have f5:=F.out.fz 5;have V:IntKind.i64.wrap 4=4:=zd _ (by decide) (by decide);by_cases hc:n=3
   ·have Y:(n == 3)=true:=beq_iff_eq.2 hc;have M:(n == 23)=false:=Qb (by omega);have A:=Qh (zcq s.now.pen n 2 3 4 rfl (by decide) hc);clear hc;obtain⟨E,G⟩:=(F.below (Below.refl wr.heap.size wr).drew).set 5 (.int .i64 (bOr (Zt s.now.pen n 2).attr 4)) (s.ink { Zt s.now.pen n 2 with attr:=bOr (Zt s.now.pen n 2).attr 4 });have J:=Qh E;have I:=Qh ((L.below (Below.refl wr.heap.size wr).drew).trans G);clear E G;go_upto_region 4 with fail
    go_still_tail 13,(by kernel_rfl)
    change wpList _ _ _ _ _ wr.drew;go_wp2_with fail;go_roundw
    case rel=>exact⟨2+1,H,by decide,by go_num,Qh (by rw[A.out];exact J),Qh I⟩
    case measure=>simp[intOf]
   have Y:(n == 3)=false:=Qb hc;by_cases hd:n=23
   ·have M:(n == 23)=true:=beq_iff_eq.2 hd;replace hc:n=3+20:=hd;clear hd;have A:=Qh (zcM s.now.pen n 2 3 4 rfl (by decide) hc (by decide));clear hc;obtain⟨E,G⟩:=(F.below (Below.refl wr.heap.size wr).drew).set 5 (.int .i64 (ZD (Zt s.now.pen n 2).attr 4)) (s.ink { Zt s.now.pen n 2 with attr:=ZD (Zt s.now.pen n 2).attr 4 });have J:=Qh E;have I:=Qh ((L.below (Below.refl wr.heap.size wr).drew).trans G);clear E G;go_upto_region 6 with fail
    go_still_tail 13,(by kernel_rfl)
    change wpList _ _ _ _ _ wr.drew;go_wp2_with fail;go_roundw
    case rel=>exact⟨2+1,H,by decide,by go_num,Qh (by rw[A.out];exact J),Qh I⟩
    case measure=>simp[intOf]
   ·have M:(n == 23)=false:=Qb hd;have D:¬ (n=3+20∧1<2):=fun e=>hd e.1;clear hd;have A:=Qh (zbH s.now.pen n 2 3 rfl hc D);clear hc D;go_wp2_with fail;go_roundw
    case rel=>exact⟨2+1,H,by decide,by go_num,Qh (by rw[A.out];exact F),L⟩
    case measure=>simp[intOf]
  ·have Z:∀ wx,(Instr.index 196 (.agg #[.int .i64 1,.int .i64 2,.int .i64 3,.int .i64 4,.int .i64 5,.int .i64 7,.int .i64 8,.int .i64 9]) (.int .i64 3)).run prog wx=.ok (.int .i64 4) wx:=fun wx=>ix8 3 (by decide) wx;have c5:wr.cell? ⟨p,5,none⟩=some (.int .i64 (Zt s.now.pen n 3).attr):=F.out.at_ 5 _;have f5:=F.out.fz 5;have V:IntKind.i64.wrap 8=8:=zd _ (by decide) (by decide);by_cases hc:n=4
   ·have Y:(n == 4)=true:=beq_iff_eq.2 hc;have M:(n == 24)=false:=Qb (by omega);have A:=Qh (zcq s.now.pen n 3 4 8 rfl (by decide) hc);clear hc;obtain⟨E,G⟩:=(F.below (Below.refl wr.heap.size wr).drew).set 5 (.int .i64 (bOr (Zt s.now.pen n 3).attr 8)) (s.ink { Zt s.now.pen n 3 with attr:=bOr (Zt s.now.pen n 3).attr 8 });have J:=Qh E;have I:=Qh ((L.below (Below.refl wr.heap.size wr).drew).trans G);clear E G;go_upto_region 4 with fail
    go_still_tail 13,(by kernel_rfl)
    change wpList _ _ _ _ _ wr.drew;go_wp2_with fail;go_roundw
    case rel=>exact⟨3+1,H,by decide,by go_num,Qh (by rw[A.out];exact J),Qh I⟩
    case measure=>simp[intOf]
   have Y:(n == 4)=false:=Qb hc;by_cases hd:n=24
   ·have M:(n == 24)=true:=beq_iff_eq.2 hd;replace hc:n=4+20:=hd;clear hd;have A:=Qh (zcM s.now.pen n 3 4 8 rfl (by decide) hc (by decide));clear hc;obtain⟨E,G⟩:=(F.below (Below.refl wr.heap.size wr).drew).set 5 (.int .i64 (ZD (Zt s.now.pen n 3).attr 8)) (s.ink { Zt s.now.pen n 3 with attr:=ZD (Zt s.now.pen n 3).attr 8 });have J:=Qh E;have I:=Qh ((L.below (Below.refl wr.heap.size wr).drew).trans G);clear E G;go_upto_region 6 with fail
    go_still_tail 13,(by kernel_rfl)
    change wpList _ _ _ _ _ wr.drew;go_wp2_with fail;go_roundw
    case rel=>exact⟨3+1,H,by decide,by go_num,Qh (by rw[A.out];exact J),Qh I⟩
    case measure=>simp[intOf]
   ·have M:(n == 24)=false:=Qb hd;have D:¬ (n=4+20∧1<3):=fun e=>hd e.1;clear hd;have A:=Qh (zbH s.now.pen n 3 4 rfl hc D);clear hc D;go_wp2_with fail;go_roundw
    case rel=>exact⟨3+1,H,by decide,by go_num,Qh (by rw[A.out];exact F),L⟩
    case measure=>simp[intOf]
  ·have Z:∀ wx,(Instr.index 196 (.agg #[.int .i64 1,.int .i64 2,.int .i64 3,.int .i64 4,.int .i64 5,.int .i64 7,.int .i64 8,.int .i64 9]) (.int .i64 4)).run prog wx=.ok (.int .i64 5) wx:=fun wx=>ix8 4 (by decide) wx;have c5:wr.cell? ⟨p,5,none⟩=some (.int .i64 (Zt s.now.pen n 4).attr):=F.out.at_ 5 _;have f5:=F.out.fz 5;have V:IntKind.i64.wrap 16=16:=zd _ (by decide) (by decide);by_cases hc:n=5
   ·have Y:(n == 5)=true:=beq_iff_eq.2 hc;have M:(n == 25)=false:=Qb (by omega);have A:=Qh (zcq s.now.pen n 4 5 16 rfl (by decide) hc);clear hc;obtain⟨E,G⟩:=(F.below (Below.refl wr.heap.size wr).drew).set 5 (.int .i64 (bOr (Zt s.now.pen n 4).attr 16)) (s.ink { Zt s.now.pen n 4 with attr:=bOr (Zt s.now.pen n 4).attr 16 });have J:=Qh E;have I:=Qh ((L.below (Below.refl wr.heap.size wr).drew).trans G);clear E G;go_upto_region 4 with fail
    go_still_tail 13,(by kernel_rfl)
    change wpList _ _ _ _ _ wr.drew;go_wp2_with fail;go_roundw
    case rel=>exact⟨4+1,H,by decide,by go_num,Qh (by rw[A.out];exact J),Qh I⟩
    case measure=>simp[intOf]
   have Y:(n == 5)=false:=Qb hc;by_cases hd:n=25
   ·have M:(n == 25)=true:=beq_iff_eq.2 hd;replace hc:n=5+20:=hd;clear hd;have A:=Qh (zcM s.now.pen n 4 5 16 rfl (by decide) hc (by decide));clear hc;obtain⟨E,G⟩:=(F.below (Below.refl wr.heap.size wr).drew).set 5 (.int .i64 (ZD (Zt s.now.pen n 4).attr 16)) (s.ink { Zt s.now.pen n 4 with attr:=ZD (Zt s.now.pen n 4).attr 16 });have J:=Qh E;have I:=Qh ((L.below (Below.refl wr.heap.size wr).drew).trans G);clear E G;go_upto_region 6 with fail
    go_still_tail 13,(by kernel_rfl)
    change wpList _ _ _ _ _ wr.drew;go_wp2_with fail;go_roundw
    case rel=>exact⟨4+1,H,by decide,by go_num,Qh (by rw[A.out];exact J),Qh I⟩
    case measure=>simp[intOf]
   ·have M:(n == 25)=false:=Qb hd;have D:¬ (n=5+20∧1<4):=fun e=>hd e.1;clear hd;have A:=Qh (zbH s.now.pen n 4 5 rfl hc D);clear hc D;go_wp2_with fail;go_roundw
    case rel=>exact⟨4+1,H,by decide,by go_num,Qh (by rw[A.out];exact F),L⟩
    case measure=>simp[intOf]
  ·have Z:∀ wx,(Instr.index 196 (.agg #[.int .i64 1,.int .i64 2,.int .i64 3,.int .i64 4,.int .i64 5,.int .i64 7,.int .i64 8,.int .i64 9]) (.int .i64 5)).run prog wx=.ok (.int .i64 7) wx:=fun wx=>ix8 5 (by decide) wx;have c5:wr.cell? ⟨p,5,none⟩=some (.int .i64 (Zt s.now.pen n 5).attr):=F.out.at_ 5 _;have f5:=F.out.fz 5;have V:IntKind.i64.wrap 32=32:=zd _ (by decide) (by decide);by_cases hc:n=7
   ·have Y:(n == 7)=true:=beq_iff_eq.2 hc;have M:(n == 27)=false:=Qb (by omega);have A:=Qh (zcq s.now.pen n 5 7 32 rfl (by decide) hc);clear hc;obtain⟨E,G⟩:=(F.below (Below.refl wr.heap.size wr).drew).set 5 (.int .i64 (bOr (Zt s.now.pen n 5).attr 32)) (s.ink { Zt s.now.pen n 5 with attr:=bOr (Zt s.now.pen n 5).attr 32 });have J:=Qh E;have I:=Qh ((L.below (Below.refl wr.heap.size wr).drew).trans G);clear E G;go_upto_region 4 with fail
    go_still_tail 13,(by kernel_rfl)
    change wpList _ _ _ _ _ wr.drew;go_wp2_with fail;go_roundw
    case rel=>exact⟨5+1,H,by decide,by go_num,Qh (by rw[A.out];exact J),Qh I⟩
    case measure=>simp[intOf]
   have Y:(n == 7)=false:=Qb hc;by_cases hd:n=27
   ·have M:(n == 27)=true:=beq_iff_eq.2 hd;replace hc:n=7+20:=hd;clear hd;have A:=Qh (zcM s.now.pen n 5 7 32 rfl (by decide) hc (by decide));clear hc;obtain⟨E,G⟩:=(F.below (Below.refl wr.heap.size wr).drew).set 5 (.int .i64 (ZD (Zt s.now.pen n 5).attr 32)) (s.ink { Zt s.now.pen n 5 with attr:=ZD (Zt s.now.pen n 5).attr 32 });have J:=Qh E;have I:=Qh ((L.below (Below.refl wr.heap.size wr).drew).trans G);clear E G;go_upto_region 6 with fail
    go_still_tail 13,(by kernel_rfl)
    change wpList _ _ _ _ _ wr.drew;go_wp2_with fail;go_roundw
    case rel=>exact⟨5+1,H,by decide,by go_num,Qh (by rw[A.out];exact J),Qh I⟩
    case measure=>simp[intOf]
   ·have M:(n == 27)=false:=Qb hd;have D:¬ (n=7+20∧1<5):=fun e=>hd e.1;clear hd;have A:=Qh (zbH s.now.pen n 5 7 rfl hc D);clear hc D;go_wp2_with fail;go_roundw
    case rel=>exact⟨5+1,H,by decide,by go_num,Qh (by rw[A.out];exact F),L⟩
    case measure=>simp[intOf]
  ·have Z:∀ wx,(Instr.index 196 (.agg #[.int .i64 1,.int .i64 2,.int .i64 3,.int .i64 4,.int .i64 5,.int .i64 7,.int .i64 8,.int .i64 9]) (.int .i64 6)).run prog wx=.ok (.int .i64 8) wx:=fun wx=>ix8 6 (by decide) wx;have c5:wr.cell? ⟨p,5,none⟩=some (.int .i64 (Zt s.now.pen n 6).attr):=F.out.at_ 5 _;have f5:=F.out.fz 5;have V:IntKind.i64.wrap 64=64:=zd _ (by decide) (by decide);by_cases hc:n=8
   ·have Y:(n == 8)=true:=beq_iff_eq.2 hc;have M:(n == 28)=false:=Qb (by omega);have A:=Qh (zcq s.now.pen n 6 8 64 rfl (by decide) hc);clear hc;obtain⟨E,G⟩:=(F.below (Below.refl wr.heap.size wr).drew).set 5 (.int .i64 (bOr (Zt s.now.pen n 6).attr 64)) (s.ink { Zt s.now.pen n 6 with attr:=bOr (Zt s.now.pen n 6).attr 64 });have J:=Qh E;have I:=Qh ((L.below (Below.refl wr.heap.size wr).drew).trans G);clear E G;go_upto_region 4 with fail
    go_still_tail 13,(by kernel_rfl)
    change wpList _ _ _ _ _ wr.drew;go_wp2_with fail;go_roundw
    case rel=>exact⟨6+1,H,by decide,by go_num,Qh (by rw[A.out];exact J),Qh I⟩
    case measure=>simp[intOf]
   have Y:(n == 8)=false:=Qb hc;by_cases hd:n=28
   ·have M:(n == 28)=true:=beq_iff_eq.2 hd;replace hc:n=8+20:=hd;clear hd;have A:=Qh (zcM s.now.pen n 6 8 64 rfl (by decide) hc (by decide));clear hc;obtain⟨E,G⟩:=(F.below (Below.refl wr.heap.size wr).drew).set 5 (.int .i64 (ZD (Zt s.now.pen n 6).attr 64)) (s.ink { Zt s.now.pen n 6 with attr:=ZD (Zt s.now.pen n 6).attr 64 });have J:=Qh E;have I:=Qh ((L.below (Below.refl wr.heap.size wr).drew).trans G);clear E G;go_upto_region 6 with fail
    go_still_tail 13,(by kernel_rfl)
    change wpList _ _ _ _ _ wr.drew;go_wp2_with fail;go_roundw
    case rel=>exact⟨6+1,H,by decide,by go_num,Qh (by rw[A.out];exact J),Qh I⟩
    case measure=>simp[intOf]
   ·have M:(n == 28)=false:=Qb hd;have D:¬ (n=8+20∧1<6):=fun e=>hd e.1;clear hd;have A:=Qh (zbH s.now.pen n 6 8 rfl hc D);clear hc D;go_wp2_with fail;go_roundw
    case rel=>exact⟨6+1,H,by decide,by go_num,Qh (by rw[A.out];exact F),L⟩
    case measure=>simp[intOf]
  ·have Z:∀ wx,(Instr.index 196 (.agg #[.int .i64 1,.int .i64 2,.int .i64 3,.int .i64 4,.int .i64 5,.int .i64 7,.int .i64 8,.int .i64 9]) (.int .i64 7)).run prog wx=.ok (.int .i64 9) wx:=fun wx=>ix8 7 (by decide) wx;have c5:wr.cell? ⟨p,5,none⟩=some (.int .i64 (Zt s.now.pen n 7).attr):=F.out.at_ 5 _;have f5:=F.out.fz 5;have V:IntKind.i64.wrap 128=128:=zd _ (by decide) (by decide);by_cases hc:n=9
   ·have Y:(n == 9)=true:=beq_iff_eq.2 hc;have M:(n == 29)=false:=Qb (by omega);have A:=Qh (zcq s.now.pen n 7 9 128 rfl (by decide) hc);clear hc;obtain⟨E,G⟩:=(F.below (Below.refl wr.heap.size wr).drew).set 5 (.int .i64 (bOr (Zt s.now.pen n 7).attr 128)) (s.ink { Zt s.now.pen n 7 with attr:=bOr (Zt s.now.pen n 7).attr 128 });have J:=Qh E;have I:=Qh ((L.below (Below.refl wr.heap.size wr).drew).trans G);clear E G;go_upto_region 4 with fail
    go_still_tail 13,(by kernel_rfl)
    change wpList _ _ _ _ _ wr.drew;go_wp2_with fail;go_roundw
    case rel=>exact⟨7+1,H,by decide,by go_num,Qh (by rw[A.out];exact J),Qh I⟩
    case measure=>simp[intOf]
   have Y:(n == 9)=false:=Qb hc;by_cases hd:n=29
   ·have M:(n == 29)=true:=beq_iff_eq.2 hd;replace hc:n=9+20:=hd;clear hd;have A:=Qh (zcM s.now.pen n 7 9 128 rfl (by decide) hc (by decide));clear hc;obtain⟨E,G⟩:=(F.below (Below.refl wr.heap.size wr).drew).set 5 (.int .i64 (ZD (Zt s.now.pen n 7).attr 128)) (s.ink { Zt s.now.pen n 7 with attr:=ZD (Zt s.now.pen n 7).attr 128 });have J:=Qh E;have I:=Qh ((L.below (Below.refl wr.heap.size wr).drew).trans G);clear E G;go_upto_region 6 with fail
    go_still_tail 13,(by kernel_rfl)
    change wpList _ _ _ _ _ wr.drew;go_wp2_with fail;go_roundw
    case rel=>exact⟨7+1,H,by decide,by go_num,Qh (by rw[A.out];exact J),Qh I⟩
    case measure=>simp[intOf]
   ·have M:(n == 29)=false:=Qb hd;have D:¬ (n=9+20∧1<7):=fun e=>hd e.1;clear hd;have A:=Qh (zbH s.now.pen n 7 9 rfl hc D);clear hc D;go_wp2_with fail;go_roundw
    case rel=>exact⟨7+1,H,by decide,by go_num,Qh (by rw[A.out];exact F),L⟩
    case measure=>simp[intOf]
  ·have T:=Qh (show zy B C p w wr (s.ink (zaS s.now.pen n)) ps by rw[S.out];exact⟨H,F,L⟩);go_wp2_with fail;go_end0;exact⟨rfl,T⟩
end
end Go.Proofs.YthehkmopdeebmaaGreatDoor
