/- Part. -/
import Derived.Test.YthehkmopdeebmaaGreatDoorY20
set_option linter.unusedVariables false
set_option linter.unusedSimpArgs false
set_option maxRecDepth 100000
set_option maxHeartbeats 1000000
namespace Go.Proofs.YthehkmopdeebmaaGreatDoor
open _root_.Go.Proofs.Tryz
section
open Go.RowKit
theorem zfY:(prog.info? 84).map (·.size)=some 10:=by kernel_rfl
def Sav.arr (v:Sav):Array Value:=#[.int .i64 v.x,.int .i64 v.y,.bool v.wait,.int .i64 v.pen.fg,.int .i64 v.pen.bg,.int .i64 v.pen.attr,.bool v.origin,.bool v.l0,.bool v.l1,.int .i64 v.second]
theorem zli (w:World):Calls prog 90 #[] w fun e w'=>e=.returned (.agg zbp.arr)∧Below w.heap.size w w':=by
 have E:=zH w (.cells #[.int .i64 0,.int .i64 0,.bool false,.int .i64 0,.int .i64 0,.int .i64 0,.bool false,.bool false,.bool false,.int .i64 0] 84);have A:=(Below.refl w.heap.size w).alloc (Nat.le_refl _) (.cells #[.int .i64 0,.int .i64 0,.bool false,.int .i64 0,.int .i64 0,.int .i64 0,.bool false,.bool false,.bool false,.int .i64 0] 84);go_enter func90,ntmps90;go_wp2_with fail;refine(ZW _).mono ?_;rintro e I ⟨rfl,F⟩;have B:=zr E F (by simp);have C:=run_storeVar_row (P:=prog) I w.heap.size 84 84 _ zbp.arr B zfY rfl (by simp[Value.oneCell',Sav.arr]);have D:=Zz (cells:=zbp.arr) B;have G:=Qh (A.trans (F.mono (by simp)));have H:=Qh (zbA G.out (g:=w.heap.size) (Nat.le_refl _) zbp.arr);unfold Sty.val plainS;clear A F;generalize I.setRow w.heap.size zbp.arr=J at *;go_wp2_with (refine zF rfl _ _ _ rfl C rfl rfl ?_);exact zbz rfl rfl rfl D underlying84 rfl (by exact zfY) ⟨rfl,H.out⟩
def Scr.slotO (s:Scr):Nat:=if s.other.isSome then 22 else 12
theorem zeR {B:World} {C:Nat→Nat} {p:Nat} {w:World} {s:Scr} {ps:PSt} (h:SR B C p w s ps) :
  Calls prog 216 #[.pointer (some ⟨p,0,none⟩)] w fun e w'=>e=.returned (.pointer (some ⟨p,s.slotO,none⟩))∧w'=w:=by
 rcases h.oth with ⟨c11,hno⟩ | ⟨qo,c11,hno⟩
 ·have HO:=Qh (show s.slotO=12 by unfold Scr.slotO;cases ho:s.other <;> rw[ho]at hno <;> first | rfl | cases hno);clear h hno;go_enter func216,ntmps216;go_wp2_with fail;go_ret;rw[HO.out];exact⟨rfl,rfl⟩
 ·have HO:=Qh (show s.slotO=22 by unfold Scr.slotO;cases ho:s.other <;> rw[ho]at hno <;> first | rfl | cases hno);clear h hno;go_enter func216,ntmps216;go_wp2_with fail;go_ret;rw[HO.out];exact⟨rfl,rfl⟩
theorem SR.slotR {B:World} {C:Nat→Nat} {p:Nat} {w:World} {s:Scr} {ps:PSt} (h:SR B C p w s ps):w.rangeAt p s.slotO s.slot.vals:=by
 unfold Scr.slotO Scr.slot;cases s.other.isSome
 ·exact h.k0R
 ·exact h.k1R
theorem SR.setSlot {B:World} {C:Nat→Nat} {p:Nat} {w:World} {s:Scr} {ps:PSt} (h:SR B C p w s ps) (v:Sav):SR B C p (w.setCells p s.slotO v.vals) (s.setSlot v) ps∧Pre C w C (w.setCells p s.slotO v.vals):=by
 unfold Scr.slotO Scr.setSlot;cases s.other.isSome
 ·exact h.setK0 v
 ·exact h.setK1 v
theorem zho (s:Scr):s.setSlot s.slot=s:=by
 unfold Scr.setSlot Scr.slot;cases s.other.isSome <;> rfl
def Sav.eqb (a b:Sav):Bool:=a.x == b.x && (a.y == b.y && (a.wait == b.wait && (a.pen.eqb b.pen && (a.origin == b.origin && ((a.l0 == b.l0 && a.l1 == b.l1) && a.second == b.second)))))
theorem Sav.eqb_iff (a b:Sav):a.eqb b=true↔a=b:=by
 obtain⟨x,y,H,F,I,M,N,L⟩:=a;obtain⟨O,J,G,A,D,B,E,C⟩:=b;simp[Sav.eqb,Sty.eqb_iff,and_assoc]
theorem zlj (a b:Sav) (d:Nat) (w:World):(Op.equalIn (d+4) 84 (.agg a.arr) (.agg b.arr)).run prog w=.ok (a.eqb b) w:=by
 have E:prog.underlying 84=some (.struct (prog.fieldsOf 84)):=(by kernel_rfl);have F:prog.stoodInHeld 84=false:=(by kernel_rfl);have hq:=zeZ a.pen b.pen (d+1) w;unfold Sty.val at hq;unfold Sav.arr;rw[run_equalIn_agg w (d+3) 84 _ _ E F];simp only[Program.fieldsOf,underlying84]
 go_simp
 have B:(Op.equalIn (d+3) 82 (.agg #[.bool a.l0,.bool a.l1]) (.agg #[.bool b.l0,.bool b.l1])).run prog w=.ok (a.l0 == b.l0 && a.l1 == b.l1) w:=by
  obtain⟨i,G,_⟩:=Option.map_eq_some_iff.1 (show(prog.info? 4).map (·.size)=some 1 by kernel_rfl);have D:∀ wx,(sizeOf 4).run prog wx=.ok 1 wx:=fun wx=>zdn (by kernel_rfl) wx;rw[run_equalIn_array w (d+2) _ _ underlying82 G];rw[show prog.cellsOf 4=1 by kernel_rfl];have C:=run_equalIn_bool' (P:=prog) w (d+1) 4 a.l0 b.l0 underlying4;have A:=run_equalIn_bool' (P:=prog) w (d+1) 4 a.l1 b.l1 underlying4;simp[show List.range 2=[0,1] from rfl,Op.eqItems,part,D,C,A];by_cases h0:a.l0=b.l0 <;> by_cases h1:a.l1=b.l1 <;> simp[h0,h1]
 rw[B];unfold Sav.eqb Sty.eqb;by_cases h1:a.x=b.x;rotate_left
 ·simp[h1]
 by_cases h2:a.y=b.y;rotate_left
 ·simp[h1,h2]
 by_cases h3:a.wait=b.wait;rotate_left
 ·simp[h1,h2,h3]
 by_cases h4:a.pen.fg=b.pen.fg;rotate_left
 ·simp[h1,h2,h3,h4]
 by_cases h5:a.pen.bg=b.pen.bg;rotate_left
 ·simp[h1,h2,h3,h4,h5]
 by_cases h6:a.pen.attr=b.pen.attr;rotate_left
 ·simp[h1,h2,h3,h4,h5,h6]
 by_cases h7:a.origin=b.origin;rotate_left
 ·simp[h1,h2,h3,h4,h5,h6,h7]
 by_cases h8:a.l0=b.l0 <;> by_cases h9:a.l1=b.l1 <;> by_cases h10:a.second=b.second <;> simp[h1,h2,h3,h4,h5,h6,h7,h8,h9,h10]
theorem znV (a b:Sav) (w:World):(binOp .neq 84 (.agg a.arr) (.agg b.arr)).run prog w=.ok (.bool (!a.eqb b)) w:=by
 have:=zlj a b 9996 w;unfold Sav.arr at *;rw[run_neq_struct,show(10000:Nat)=9996+4 from rfl,this];rfl
theorem zlk (op:BinOp) (x y:Operand) (a b:Sav) (w:World):(eqGuard op 84 x y (.agg a.arr) (.agg b.arr)).run prog w=.ok () w:=run_eqGuard_agg w op 84 x y _ _ (by kernel_rfl)
theorem zdL {w:World} {p o:Nat} (v:Sav) (h:w.there p o 10):(storeVar 84 ⟨p,o,none⟩ (.agg v.arr)).run prog w=.ok () (w.setCells p o v.vals) :=
 run_storeVar_mid w p o 84 v.arr h zfY (by simp[Sav.arr,Value.oneCell'])
theorem SR.thereSlot {B:World} {C:Nat→Nat} {p:Nat} {w:World} {s:Scr} {ps:PSt} (h:SR B C p w s ps):w.there p s.slotO 10:=by
 unfold Scr.slotO;cases s.other.isSome
 ·exact h.there 12 10 (by decide)
 ·exact h.there 22 10 (by decide)
def Scr.save1 (s:Scr):Scr:={ s with now:={ s.now with origin:=s.has 4 } }
theorem zeS {B:World} {C:Nat→Nat} {p:Nat} {w:World} {s:Scr} {ps:PSt} (h:SR B C p w s ps) :
  Calls prog 187 #[.pointer (some ⟨p,0,none⟩)] w fun e w'=>e=.returned (.tuple #[])∧zy B C p w w' s.save ps:=by
 have c6:w.cell? ⟨p,6,none⟩=some (.bool s.now.origin):=h.at_ 6 _;have f6:=h.fz 6;have HH:=Qh (za4 h 4);obtain⟨h1,g1⟩:=h.set 6 (.bool (s.has 4)) s.save1;have F:=Qh h1;have G1:=Qh g1;have J:=Qh (show s.save=s.save1.setSlot s.save1.now from rfl);clear h h1 g1;go_enter func187,ntmps187;go_wp2_with fail;refine HH.mono ?_;rintro e w2 ⟨rfl,rfl⟩;go_upto_region 1 with fail;generalize A0:w2.setCell ⟨p,6,none⟩ (.bool (s.has 4))=w1 at *;clear c6 f6 HH;generalize s.save1=A at *;go_wp2_with fail;refine(zeR F).mono ?_;rintro e E ⟨rfl,rfl⟩;have a0:E.cell? ⟨p,A.slotO,none⟩=some (.int .i64 A.slot.x):=F.out.slotR 0 _ rfl;have a1:E.cell? ⟨p,A.slotO+1,none⟩=some (.int .i64 A.slot.y):=F.out.slotR 1 _ rfl;have a2:E.cell? ⟨p,A.slotO+2,none⟩=some (.bool A.slot.wait):=F.out.slotR 2 _ rfl;have a3:E.cell? ⟨p,A.slotO+3,none⟩=some (.int .i64 A.slot.pen.fg):=F.out.slotR 3 _ rfl;have a4:E.cell? ⟨p,A.slotO+4,none⟩=some (.int .i64 A.slot.pen.bg):=F.out.slotR 4 _ rfl;have a5:E.cell? ⟨p,A.slotO+5,none⟩=some (.int .i64 A.slot.pen.attr):=F.out.slotR 5 _ rfl;have a6:E.cell? ⟨p,A.slotO+6,none⟩=some (.bool A.slot.origin):=F.out.slotR 6 _ rfl;have a7:E.cell? ⟨p,A.slotO+7,none⟩=some (.bool A.slot.l0):=F.out.slotR 7 _ rfl;have a8:E.cell? ⟨p,A.slotO+8,none⟩=some (.bool A.slot.l1):=F.out.slotR 8 _ rfl;have a9:E.cell? ⟨p,A.slotO+9,none⟩=some (.int .i64 A.slot.second):=F.out.slotR 9 _ rfl;have b0:E.cell? ⟨p,0,none⟩=some (.int .i64 A.now.x):=F.out.at_ 0 _;have R:E.cell? ⟨p,1,none⟩=some (.int .i64 A.now.y):=F.out.at_ 1 _;have Z:E.cell? ⟨p,2,none⟩=some (.bool A.now.wait):=F.out.at_ 2 _;have L:E.cell? ⟨p,3,none⟩=some (.int .i64 A.now.pen.fg):=F.out.at_ 3 _;have N:E.cell? ⟨p,4,none⟩=some (.int .i64 A.now.pen.bg):=F.out.at_ 4 _;have U:E.cell? ⟨p,5,none⟩=some (.int .i64 A.now.pen.attr):=F.out.at_ 5 _;have V:E.cell? ⟨p,6,none⟩=some (.bool A.now.origin):=F.out.at_ 6 _;have O:E.cell? ⟨p,7,none⟩=some (.bool A.now.l0):=F.out.at_ 7 _;have M:E.cell? ⟨p,8,none⟩=some (.bool A.now.l1):=F.out.at_ 8 _;have X:E.cell? ⟨p,9,none⟩=some (.int .i64 A.now.second):=F.out.at_ 9 _;have Y:∀ wx:World,(binOp .neq 84 (.agg #[.int .i64 A.slot.x,.int .i64 A.slot.y,.bool A.slot.wait,.int .i64 A.slot.pen.fg,.int .i64 A.slot.pen.bg,.int .i64 A.slot.pen.attr,.bool A.slot.origin,.bool A.slot.l0,.bool A.slot.l1,.int .i64 A.slot.second]) (.agg #[.int .i64 A.now.x,.int .i64 A.now.y,.bool A.now.wait,.int .i64 A.now.pen.fg,.int .i64 A.now.pen.bg,.int .i64 A.now.pen.attr,.bool A.now.origin,.bool A.now.l0,.bool A.now.l1,.int .i64 A.now.second])).run prog wx=.ok (.bool (!A.slot.eqb A.now)) wx:=fun wx=>znV A.slot A.now wx;have S:∀ (x y:Operand) (wx:World),(eqGuard .neq 84 x y (.agg #[.int .i64 A.slot.x,.int .i64 A.slot.y,.bool A.slot.wait,.int .i64 A.slot.pen.fg,.int .i64 A.slot.pen.bg,.int .i64 A.slot.pen.attr,.bool A.slot.origin,.bool A.slot.l0,.bool A.slot.l1,.int .i64 A.slot.second]) (.agg #[.int .i64 A.now.x,.int .i64 A.now.y,.bool A.now.wait,.int .i64 A.now.pen.fg,.int .i64 A.now.pen.bg,.int .i64 A.now.pen.attr,.bool A.now.origin,.bool A.now.l0,.bool A.now.l1,.int .i64 A.now.second])).run prog wx=.ok () wx:=fun x y wx=>zlk .neq x y A.slot A.now wx;go_upto_region 2 with fail
 go_region_held3 (fun w'=>w'.cell? ⟨p,A.slotO,none⟩=some (.int .i64 A.slot.x)∧w'.cell? ⟨p,A.slotO+1,none⟩=some (.int .i64 A.slot.y)∧w'.cell? ⟨p,A.slotO+2,none⟩=some (.bool A.slot.wait)∧w'.cell? ⟨p,A.slotO+3,none⟩=some (.int .i64 A.slot.pen.fg)∧w'.cell? ⟨p,A.slotO+4,none⟩=some (.int .i64 A.slot.pen.bg)∧w'.cell? ⟨p,A.slotO+5,none⟩=some (.int .i64 A.slot.pen.attr)∧w'.cell? ⟨p,A.slotO+6,none⟩=some (.bool A.slot.origin)∧w'.cell? ⟨p,A.slotO+7,none⟩=some (.bool A.slot.l0)∧w'.cell? ⟨p,A.slotO+8,none⟩=some (.bool A.slot.l1)∧w'.cell? ⟨p,A.slotO+9,none⟩=some (.int .i64 A.slot.second)∧w'.cell? ⟨p,0,none⟩=some (.int .i64 A.now.x)∧w'.cell? ⟨p,1,none⟩=some (.int .i64 A.now.y)∧w'.cell? ⟨p,2,none⟩=some (.bool A.now.wait)∧w'.cell? ⟨p,3,none⟩=some (.int .i64 A.now.pen.fg)∧w'.cell? ⟨p,4,none⟩=some (.int .i64 A.now.pen.bg)∧w'.cell? ⟨p,5,none⟩=some (.int .i64 A.now.pen.attr)∧w'.cell? ⟨p,6,none⟩=some (.bool A.now.origin)∧w'.cell? ⟨p,7,none⟩=some (.bool A.now.l0)∧w'.cell? ⟨p,8,none⟩=some (.bool A.now.l1)∧w'.cell? ⟨p,9,none⟩=some (.int .i64 A.now.second)) (first | exact⟨a0,a1,a2,a3,a4,a5,a6,a7,a8,a9,b0,R,Z,L,N,U,V,O,M,X⟩) (first | fail)
 clear a0 a1 a2 a3 a4 a5 a6 a7 a8 a9 b0 R Z L N U V O M X Y S;have D:=Qh (F.below (Below.refl E.heap.size E).drew);have I:=Qh (G1.below (Below.refl E.heap.size E).drew);rename_i hS;clear hS;generalize E.drew=G at *;obtain⟨b,T⟩:∃ b,b=A.slot.eqb A.now:=⟨_,rfl⟩;rw[← T];have HB:=Qh T;clear T;cases b
 ·obtain⟨h4,g4⟩:=D.out.setSlot A.now;have HD:=Qh (show zy B C p w2 _ s.save ps by rw[J.out];exact⟨_,h4,I.trans g4⟩);have H:=zdL A.now D.thereSlot;unfold Sav.arr at H;have b0:G.cell? ⟨p,0,none⟩=some (.int .i64 A.now.x):=D.out.at_ 0 _;have R:G.cell? ⟨p,1,none⟩=some (.int .i64 A.now.y):=D.out.at_ 1 _;have Z:G.cell? ⟨p,2,none⟩=some (.bool A.now.wait):=D.out.at_ 2 _;have L:G.cell? ⟨p,3,none⟩=some (.int .i64 A.now.pen.fg):=D.out.at_ 3 _;have N:G.cell? ⟨p,4,none⟩=some (.int .i64 A.now.pen.bg):=D.out.at_ 4 _;have U:G.cell? ⟨p,5,none⟩=some (.int .i64 A.now.pen.attr):=D.out.at_ 5 _;have V:G.cell? ⟨p,6,none⟩=some (.bool A.now.origin):=D.out.at_ 6 _;have O:G.cell? ⟨p,7,none⟩=some (.bool A.now.l0):=D.out.at_ 7 _;have M:G.cell? ⟨p,8,none⟩=some (.bool A.now.l1):=D.out.at_ 8 _;have X:G.cell? ⟨p,9,none⟩=some (.int .i64 A.now.second):=D.out.at_ 9 _;clear h4 g4;go_wp2_with (refine zF rfl _ _ _ rfl H rfl rfl ?_);go_end0;exact⟨rfl,HD⟩
 ·have HD:=Qh (show zy B C p w2 G s.save ps by
   rw[J.out,← (Sav.eqb_iff _ _).1 HB.out.symm,zho];exact⟨_,D,I⟩)
  go_wp2_with fail;go_end0;exact⟨rfl,HD⟩
theorem zda {B:World} {C:Nat→Nat} {p:Nat} {w:World} {s:Scr} {ps:PSt} (h:SR B C p w s ps) :
  Calls prog 188 #[.pointer (some ⟨p,0,none⟩)] w fun e w'=>e=.returned (.tuple #[])∧zy B C p w w' s.restore ps:=by
 have A:=Qh h;have X:w.cell? ⟨p,s.slotO,none⟩=some (.int .i64 s.slot.x):=A.out.slotR 0 _ rfl;have V:w.cell? ⟨p,s.slotO+1,none⟩=some (.int .i64 s.slot.y):=A.out.slotR 1 _ rfl;have M:w.cell? ⟨p,s.slotO+2,none⟩=some (.bool s.slot.wait):=A.out.slotR 2 _ rfl;have J:w.cell? ⟨p,s.slotO+3,none⟩=some (.int .i64 s.slot.pen.fg):=A.out.slotR 3 _ rfl;have Z:w.cell? ⟨p,s.slotO+4,none⟩=some (.int .i64 s.slot.pen.bg):=A.out.slotR 4 _ rfl;have U:w.cell? ⟨p,s.slotO+5,none⟩=some (.int .i64 s.slot.pen.attr):=A.out.slotR 5 _ rfl;have R:w.cell? ⟨p,s.slotO+6,none⟩=some (.bool s.slot.origin):=A.out.slotR 6 _ rfl;have T:w.cell? ⟨p,s.slotO+7,none⟩=some (.bool s.slot.l0):=A.out.slotR 7 _ rfl;have N:w.cell? ⟨p,s.slotO+8,none⟩=some (.bool s.slot.l1):=A.out.slotR 8 _ rfl;have O:w.cell? ⟨p,s.slotO+9,none⟩=some (.int .i64 s.slot.second):=A.out.slotR 9 _ rfl;have H:=Qh (zeR h);have D:=zdL s.slot (h.there 0 10 (by decide));unfold Sav.arr at D;obtain⟨E,F⟩:=h.setNow s.slot;have I:=Qh E;have S:=Qh F;clear h E F;go_enter func188,ntmps188;go_wp2_with fail;refine H.mono ?_;rintro e Y ⟨rfl,rfl⟩;go_upto_region 1 with (refine zF rfl _ _ _ rfl D rfl rfl ?_);clear D H X V M J Z U R T N O;generalize Y.setCells p 0 s.slot.vals=L at *;have c6:L.cell? ⟨p,6,none⟩=some (.bool s.slot.origin):=I.out.at_ 6 _;go_wp2_with fail;refine(ZF I 4 s.slot.origin).mono ?_;rintro e w4 ⟨rfl,G⟩;have HD:=Qh (zy.after S G);clear G;go_wp2_with fail;go_end0;exact⟨rfl,HD⟩
theorem zeT {B:World} {C:Nat→Nat} {p:Nat} {w:World} {s:Scr} {ps:PSt} (h:SR B C p w s ps) (on:Bool) :
  Calls prog 214 #[.pointer (some ⟨p,0,none⟩),.bool on] w fun e w'=>e=.returned (.tuple #[])∧zy B C p w w' (s.keep on) ps:=by
 cases on
 ·have E:=Qh (zda h);clear h;go_enter func214,ntmps214;go_wp2_with fail;refine E.mono ?_;rintro e F ⟨rfl,D⟩;have A:=Qh D;clear D;go_wp2_with fail;go_end0;exact⟨rfl,A⟩
 ·have E:=Qh (zeS h);clear h;go_enter func214,ntmps214;go_wp2_with fail;refine E.mono ?_;rintro e F ⟨rfl,D⟩;have A:=Qh D;clear D;go_wp2_with fail;go_end0;exact⟨rfl,A⟩
end
section
open Go.RowKit
section
variable {B:World} {C:Nat→Nat} {p:Nat} {w w1:World} {s:Scr} {ps:PSt}
theorem SR.noOther (h:SR B C p w s ps):SR B C p (w.setCell ⟨p,11,none⟩ (.pointer none)) { s with other:=none } ps∧Pre C w C (w.setCell ⟨p,11,none⟩ (.pointer none)):=by
 obtain⟨F,M,L,I,N,G,H,J,A⟩:=h.sm;have g:w.grownBy (w.setCell ⟨p,11,none⟩ (.pointer none)) (some p):=zx (zo _ _) _ _;have K:zaT C 1 w (w.setCell ⟨p,11,none⟩ (.pointer none)):=.of_gb g (fun k D=>by injection D with D;subst D;exact .inl A.cp);have E:Pre C w C (w.setCell ⟨p,11,none⟩ (.pointer none)):=⟨K.own (by decide),fun _ D=>.inl D⟩;exact⟨h.step E ⟨F,fun _=>0,L,I,none,G,H,J,⟨fun k D=>Nat.lt_of_lt_of_le (A.lt k D) g.size,A.cp,zz A.blk 11 _,K.gm A.gm A.t4 (by decide),.inl ⟨rfl,rfl,fun _=>rfl⟩,K.rest A.rp A.t6 (by decide),K.row A.ta A.t2 (by decide),K.row A.ou A.t3 (by decide),A.t2,A.t3,A.t4,fun k e=>absurd rfl e,A.t6⟩⟩,E⟩
theorem SR.newOther {T1:Nat→Nat} {q:Nat} {g1:Gr} (h:SR B C p w s ps) (hb:Below w.heap.size w w1) (hg:GM T1 q w1 g1) (n1:∀ k,T1 k≠0→w.heap.size≤k) :
  zy B C p w (w1.setCell ⟨p,11,none⟩ (.pointer (some ⟨q,0,none⟩))) { s with other:=some g1 } ps:=by
 obtain⟨J,U,S,N,V,L,M,R,F⟩:=h.sm;have D:=F.below hb;have O:∀ k,T1 k≠0→own (fun _=>0) w k:=fun k A=>.inr (n1 k A);have A:∀ {d k:Nat},C k=d→d≠0→d≠5→reC C 5 T1 k=d:=fun e h0 hd=>zcK F.lt (T:=fun _=>0) (fun k A=>absurd rfl A) O e h0 hd;have I:reC C 5 T1 p=1:=A D.cp (by decide) (by decide);have G:∀ k,reC C 5 T1 k≠0→k<w1.heap.size:=fun k hk2=>by
  rcases zaE hk2 with e | e
  ·exact hg.lt k e
  ·exact D.lt k e
 have H:∀ k,reC C 5 T1 k≠0→own C w k:=fun k hk2=>by
  rcases zaE hk2 with e | e
  ·exact .inr (n1 k e)
  ·exact .inl e
 have E:zaT (reC C 5 T1) 1 w1 (w1.setCell ⟨p,11,none⟩ (.pointer (some ⟨q,0,none⟩))):=.of_gb (zx (zo _ (some p)) 11 _) (fun k A=>by injection A with A;subst A;exact .inl I);have g:Pre C w (reC C 5 T1) (w1.setCell ⟨p,11,none⟩ (.pointer (some ⟨q,0,none⟩))):=⟨zdG (zh.of_below hb) H (E.own (by decide)),H⟩;exact⟨_,h.step g ⟨J,T1,S,N,some q,L,M,R,⟨fun k hk2=>Nat.lt_of_lt_of_le (G k hk2) E.wi.size,I,zz D.blk 11 _,E.gm D.gm (fun k e=>A (D.t4 k e) (by decide) (by decide)) (by decide),.inr ⟨q,g1,rfl,rfl,E.gm hg (fun k e=>zbZ e) (by decide)⟩,E.rest D.rp (fun k e=>A (D.t6 k e) (by decide) (by decide)) (by decide),
  E.row D.ta (fun k e=>A (D.t2 k e) (by decide) (by decide)) (by decide),E.row D.ou (fun k e=>A (D.t3 k e) (by decide) (by decide)) (by decide),fun k e=>A (D.t2 k e) (by decide) (by decide),fun k e=>A (D.t3 k e) (by decide) (by decide),fun k e=>A (D.t4 k e) (by decide) (by decide),fun k e=>zbZ e,fun k e=>A (D.t6 k e) (by decide) (by decide)⟩⟩,g⟩
end
theorem zdM {B:World} {C:Nat→Nat} {p:Nat} {w:World} {s:Scr} {ps:PSt} (h:SR B C p w s ps) (on:Bool) :
  Calls prog 215 #[.pointer (some ⟨p,0,none⟩),.bool on] w fun e w'=>e=.returned (.tuple #[])∧zy B C p w w' (s.swap on) ps:=by
 rcases h.oth with ⟨c11,hno⟩ | ⟨qo,c11,hno⟩
 ·cases on
  ·skip
   have Z:=Qh (show zy B C p w w (s.swap false) ps by
    have e:s.swap false=s:=(by unfold Scr.swap;rw[if_pos (by revert hno;cases s.other <;> simp)]);rw[e];exact .refl h)
   clear h hno;go_enter func215,ntmps215;go_wp2_with fail;refine ZR rfl rfl ?_;exact⟨rfl,Z⟩
  ·skip
   have V:=Qh (show s.swap true=((({ s with other:=some (Z1 s.main.cols s.main.rows.length 0) }:Scr).mode 256 true).whole).calm by
    unfold Scr.swap;rw[if_neg (by revert hno;cases s.other <;> simp)];rfl)
   have U:=h.fz 11;have HR:=Qh h;obtain⟨A,E⟩:=h.noOther;clear h hno;go_enter func215,ntmps215;have H1:=Qh A;have P0:=Qh E;have S:=Qh A.wf;clear A E;go_upto_region 2 with fail;generalize w.setCell ⟨p,11,none⟩ (.pointer none)=w1 at *;go_wp2_with fail;refine(Z3 H1).mono ?_;rintro e w2 ⟨rfl,rfl⟩;go_wp2_with fail;refine(ZY H1).mono ?_;rintro e w2 ⟨rfl,rfl⟩;go_wp2_with fail;refine(zdv s.main.cols s.main.rows.length 0 w2 S.c1 S.c2 S.r1 S.r2 (by decide)).mono ?_;rintro e w3 ⟨q,T,rfl,R,g3,n3⟩;have c11:w3.cell? ⟨p,11,none⟩=some (.pointer none):=by
    rcases H1.out.oth with ⟨c11,_⟩ | ⟨_,_,hno⟩
    ·exact zc R c11
    ·cases hno
   have A0:=(H1.below R).fz 11;obtain⟨C1,A,I⟩:=H1.out.newOther R g3 n3;have E:=P0.out.trans I;clear I R g3 n3;have G:=Qh A;have Y:=Qh E;clear A E;go_wp2_with fail;refine(ZF G 256 true).mono ?_;rintro e w4 ⟨rfl,C2,J,M⟩;have H:=Qh J;have X:=Qh (Y.trans M);clear J M;go_wp2_with fail;refine(zbh H).mono ?_;rintro e w5 ⟨rfl,C3,D,N⟩;have c2:=D.at_ 2 (.bool _);have f2:=D.fz 2;obtain⟨L,O⟩:=D.set 2 (.bool false) (Scr.calm _);have F:=Qh (show zy B C p w _ _ ps from⟨_,L,(X.trans N).trans O⟩);clear D N L O;go_wp2_with fail;go_end0;refine⟨rfl,?_⟩;rw[V.out];exact F
 ·cases on
  ·skip
   have V:=Qh (show s.swap false=((({ s with other:=none }:Scr).mode 256 false).whole).calm by
    unfold Scr.swap;rw[if_neg (by revert hno;cases s.other <;> simp)];rfl)
   have U:=h.fz 11;have HR:=Qh h;obtain⟨A,E⟩:=h.noOther;clear h hno;go_enter func215,ntmps215;have G:=Qh A;have Y:=Qh E;clear A E;go_wp2_with fail;refine(ZF G 256 false).mono ?_;rintro e w4 ⟨rfl,C2,J,M⟩;have H:=Qh J;have X:=Qh (Y.trans M);clear J M;go_wp2_with fail;refine(zbh H).mono ?_;rintro e w5 ⟨rfl,C3,D,N⟩;have c2:=D.at_ 2 (.bool _);have f2:=D.fz 2;obtain⟨L,O⟩:=D.set 2 (.bool false) (Scr.calm _);have F:=Qh (show zy B C p w _ _ ps from⟨_,L,(X.trans N).trans O⟩);clear D N L O;go_wp2_with fail;go_end0;refine⟨rfl,?_⟩;rw[V.out];exact F
  ·skip
   have Z:=Qh (show zy B C p w w (s.swap true) ps by
    have e:s.swap true=s:=(by unfold Scr.swap;rw[if_pos (by revert hno;cases s.other <;> simp)]);rw[e];exact .refl h)
   clear h hno;go_enter func215,ntmps215;go_wp2_with fail;refine ZR rfl rfl ?_;exact⟨rfl,Z⟩
end
section
open Go.RowKit
theorem zic (x:Int):IntKind.i64.wrap x=wrap64 x:=by rw[IntKind.wrap_i64];unfold wrap64;rfl
structure CIn (a:VAct) (v:Value) (A I i:Nat) (X:Nat→Int) (w:World):Prop where
 hA:w.heap[A]?=some (.cells (a.cells v).toArray 93 (0,0))
 hI:w.cell? ⟨I,0,none⟩=some (.int .i64 i)
 hr:zfx .i64 w v a.params
 hX:∀ k,X k=par a.params (i+k) 0
theorem CIn.below {a:VAct} {v:Value} {A I i:Nat} {X:Nat→Int} {w w':World} (h:CIn a v A I i X w) (b:Below w.heap.size w w'):CIn a v A I i X w' :=
 ⟨zr h.hA b (zq h.hA),zc b h.hI,zd6 h.hr b,h.hX⟩
theorem zch {a:VAct} {v:Value} {A I i:Nat} {X:Nat→Int} {w:World} (h:CIn a v A I i X w) (k:Nat) (hk:i+k≤9223372036854775807) :
  Calls prog 246 #[.int .i64 k,.pointer (some ⟨A,0,none⟩),.pointer (some ⟨I,0,none⟩)] w fun e w'=>e=.returned (.int .i64 (X k))∧Below w.heap.size w w':=by
 have C:=Qh (ZH a v w h.hr (i+k) 0);have D:=Qh (h.hX k);have J:w.cell? ⟨A,0,none⟩=some (.int .i64 a.kind):=za h.hA 0;have N:w.cell? ⟨A,1,none⟩=some (.int .i32 a.rune):=za h.hA 1;have G:w.cell? ⟨A,2,none⟩=some (.int .u8 (a.byte.toNat:Int)):=za h.hA 2;have F:w.cell? ⟨A,3,none⟩=some v:=za h.hA 3;have O:w.cell? ⟨A,4,none⟩=some (.string a.inter):=za h.hA 4;have M:w.cell? ⟨A,5,none⟩=some (.string a.text):=za h.hA 5;have H:=h.hI;have R:IntKind.i64.wrap ((i:Int)+(k:Int))=((i+k:Nat):Int):=(by rw[zd _ (by omega) (by omega)];omega);clear h hk;generalize i+k=j at *;unfold VAct.val at C;go_enter func246,ntmps246;go_wp2_with fail;refine C.mono ?_;rintro e L ⟨rfl,B⟩;have E:=Qh B;clear B;go_wp2_with fail;go_ret;exact⟨zah D.out.symm,E⟩
theorem zjw (a:VAct) (v:Value) (w:World) (hr:zfx .i64 w v a.params) (i:Nat) (hi:i≤a.params.length) :
  Calls prog 235 #[a.val v,.int .i64 i] w fun e w'=>e=.returned (.tuple #[.int .i64 (Zq a.params i).1,.int .i64 ((Zq a.params i).2:Nat)])∧Below w.heap.size w w':=by
 have L:=zcz underlying22 hr;have N0:=zcd hr;have S:=zI (zH w (.cells (a.cells v).toArray 93)) (.cells #[.int .i64 i] 3);have I:=zH (w.alloc (.cells (a.cells v).toArray 93)) (.cells #[.int .i64 i] 3);have H0:(w.alloc (.cells (a.cells v).toArray 93)).heap.size=w.heap.size+1:=(by simp);rw[H0]at I;have HB:=Qh (((Below.refl w.heap.size w).alloc (Nat.le_refl _) (.cells (a.cells v).toArray 93)).alloc (by simp) (.cells #[.int .i64 i] 3));obtain⟨X,hX⟩:∃ X:Nat→Int,X=fun k=>par a.params (i+k) 0:=⟨_,rfl⟩;have R:=Qh (show CIn a v w.heap.size (w.heap.size+1) i X ((w.alloc (.cells (a.cells v).toArray 93)).alloc (.cells #[.int .i64 i] 3)) from⟨S,za I 0,zd6 hr HB,fun k=>by rw[hX]⟩);have O:=Qh (show ∀ k,0≤X k∧X k≤9999 from fun k=>by rw[hX];exact ZX _ _ _ (by decide) (by decide));have H:=Qh (show Zq a.params i=if i+2≤a.params.length∧X 0=5∧X 1≤255 then (X 1,2) else if i+4≤a.params.length∧X 0=2∧max (max (X 1) (X 2)) (X 3)≤255 then (16777216+X 1*65536+X 2*256+X 3,4) else (0,0) by rw[hX];rfl);have c3:((w.alloc (.cells (a.cells v).toArray 93)).alloc (.cells #[.int .i64 i] 3)).cell? ⟨w.heap.size,3,none⟩=some v:=za S 3;have ci:((w.alloc (.cells (a.cells v).toArray 93)).alloc (.cells #[.int .i64 i] 3)).cell? ⟨w.heap.size+1,0,none⟩=some (.int .i64 i):=za I 0;have Z:IntKind.i64.wrap ((a.params.length:Int)-i)=(a.params.length:Int)-i:=zd _ (by omega) (by omega);have M0:∀ (fn:Fn) (first cap:Array Value) (w:World),(Instr.makeFunc fn first cap).run prog w=.ok (.func fn first cap) w:=fun _ _ _ _=>rfl;clear hX S I hr H0;obtain⟨n,hn⟩:∃ n,n=a.params.length:=⟨_,rfl⟩;rw[← hn]at L N0 hi H Z;have HN:=Qh hn;clear hn;unfold VAct.cells at HB R c3 ci;unfold VAct.val;go_enter func235,ntmps235;go_upto_region 3 with fail;clear c3 ci Z M0 L;generalize (w.alloc (.cells [Value.int IntKind.i64 a.kind,Value.int IntKind.i32 a.rune,Value.int IntKind.u8 (a.byte.toNat:Int),v,Value.string a.inter,Value.string a.text].toArray 93)).alloc (.cells #[.int .i64 i] 3)=w1 at *;have F0:=R;have V:=HB;clear R HB;by_cases h2:i+2≤n;rotate_left
 ·have d2:decide (2≤(n:Int)-(i:Int))=false:=Qf (by omega);have d4:decide (4≤(n:Int)-(i:Int))=false:=Qf (by omega);have C:=Qh (show Zq a.params i=(0,0) by rw[H.out];rw[if_neg (fun e=>h2 e.1),if_neg (fun e=>h2 (by omega))]);go_wp2_with fail;refine zcD rfl rfl rfl rfl ⟨?_,V⟩;rw[C.out];rfl
 have d2:decide (2≤(n:Int)-(i:Int))=true:=Qt (by omega);go_wp2_with fail;refine(zch F0 0 (by omega)).mono ?_;rintro e w2 ⟨rfl,b2⟩;have G:=Qh (F0.below b2);have F:=Qh (V.trans (b2.mono V.size));clear b2;by_cases h5:X 0=5
 ·have e5:(X 0 == 5)=true:=beq_iff_eq.2 h5;have e2:(X 0 == 2)=false:=Qb (by omega);have U:=Qh h5;clear h5;go_wp2_with fail;refine(zch G 1 (by omega)).mono ?_;rintro e w3 ⟨rfl,N⟩;have B:=Qh (G.below N);have A:=Qh (F.trans (N.mono F.size));clear N;by_cases h255:X 1≤255
  ·have C0:decide (X 1≤255)=true:=Qt h255;have C:=Qh (show Zq a.params i=(X 1,2) by rw[H.out,if_pos ⟨h2,U.out,h255⟩]);clear h255;go_wp2_with fail;refine(zch B 1 (by omega)).mono ?_;rintro e w4 ⟨rfl,E⟩;have J:=Qh (B.below E);have D:=Qh (A.trans (E.mono A.size));clear E;go_wp2_with fail;refine zcD rfl rfl rfl rfl ⟨?_,D⟩;rw[C.out];rfl
  ·have C0:decide (X 1≤255)=false:=Qf h255;have C:=Qh (show Zq a.params i=(0,0) by rw[H.out,if_neg (fun e=>h255 e.2.2),if_neg (fun e=>by have:=U.out;omega)]);clear h255;by_cases h4:i+4≤n
   ·have d4:decide (4≤(n:Int)-(i:Int))=true:=Qt (by omega);go_wp2_with fail;refine(zch B 0 (by omega)).mono ?_;rintro e w4 ⟨rfl,E⟩;have J:=Qh (B.below E);have D:=Qh (A.trans (E.mono A.size));clear E;go_wp2_with fail;refine zcD rfl rfl rfl rfl ⟨?_,D⟩;rw[C.out];rfl
   ·have d4:decide (4≤(n:Int)-(i:Int))=false:=Qf (by omega);go_wp2_with fail;refine zcD rfl rfl rfl rfl ⟨?_,A⟩;rw[C.out];rfl
 ·have e5:(X 0 == 5)=false:=Qb h5;have U:=Qh h5;clear h5;by_cases h4:i+4≤n;rotate_left
  ·have d4:decide (4≤(n:Int)-(i:Int))=false:=Qf (by omega);have C:=Qh (show Zq a.params i=(0,0) by rw[H.out,if_neg (fun e=>U.out e.2.1),if_neg (fun e=>h4 e.1)]);go_wp2_with fail;refine zcD rfl rfl rfl rfl ⟨?_,F⟩;rw[C.out];rfl
  have d4:decide (4≤(n:Int)-(i:Int))=true:=Qt (by omega);go_wp2_with fail;refine(zch G 0 (by omega)).mono ?_;rintro e w3 ⟨rfl,N⟩;have B:=Qh (G.below N);have A:=Qh (F.trans (N.mono F.size));clear N;by_cases hx2:X 0=2;rotate_left
  ·have e2:(X 0 == 2)=false:=Qb hx2;have C:=Qh (show Zq a.params i=(0,0) by rw[H.out,if_neg (fun e=>U.out e.2.1),if_neg (fun e=>hx2 e.2.1)]);clear hx2;go_wp2_with fail;refine zcD rfl rfl rfl rfl ⟨?_,A⟩;rw[C.out];rfl
  have e2:(X 0 == 2)=true:=beq_iff_eq.2 hx2;have H2:=Qh hx2;clear hx2;go_wp2_with fail;refine(zch B 1 (by omega)).mono ?_;rintro e w4 ⟨rfl,E⟩;have J:=Qh (B.below E);have D:=Qh (A.trans (E.mono A.size));clear E;go_wp2_with fail;refine(zch J 2 (by omega)).mono ?_;rintro e w5 ⟨rfl,b5⟩;have I0:=Qh (J.below b5);have Y:=Qh (D.trans (b5.mono D.size));clear b5;go_wp2_with fail;refine(zch I0 3 (by omega)).mono ?_;rintro e w6 ⟨rfl,b6⟩;have D0:=Qh (I0.below b6);have T:=Qh (Y.trans (b6.mono Y.size));clear b6;obtain⟨M,hM⟩:∃ M,M=max (max (X 1) (X 2)) (X 3):=⟨_,rfl⟩;have R0:(if (if X 1<X 2 then X 2 else X 1)<X 3 then X 3 else if X 1<X 2 then X 2 else X 1)=M:=(by rw[hM];repeat' split <;> omega);rw[← hM]at H;have HM:=Qh hM;clear hM;by_cases hm:M≤255;rotate_left
  ·have dm:decide (M≤255)=false:=Qf hm;have C:=Qh (show Zq a.params i=(0,0) by rw[H.out,if_neg (fun e=>U.out e.2.1),if_neg (fun e=>hm e.2.2)]);clear hm;go_wp2_with fail;refine zcD rfl rfl rfl rfl ⟨?_,T⟩;rw[C.out];rfl
  have dm:decide (M≤255)=true:=Qt hm;have C:=Qh (show Zq a.params i=(16777216+X 1*65536+X 2*256+X 3,4) by rw[H.out,if_neg (fun e=>U.out e.2.1),if_pos ⟨h4,H2.out,hm⟩]);have L0:=Qh (show(0≤X 1∧X 1≤255)∧(0≤X 2∧X 2≤255)∧(0≤X 3∧X 3≤255) from⟨⟨(O 1).1,by have:=HM.out;omega⟩,⟨(O 2).1,by have:=HM.out;omega⟩,⟨(O 3).1,by have:=HM.out;omega⟩⟩);clear hm;go_wp2_with fail;refine(zch D0 1 (by omega)).mono ?_;rintro e w7 ⟨rfl,b7⟩;have G0:=Qh (D0.below b7);have A0:=Qh (T.trans (b7.mono T.size));clear b7;go_wp2_with fail;refine(zch G0 2 (by omega)).mono ?_;rintro e w8 ⟨rfl,b8⟩;have B0:=Qh (G0.below b8);have E0:=Qh (A0.trans (b8.mono A0.size));clear b8;go_wp2_with fail;refine(zch B0 3 (by omega)).mono ?_;rintro e w9 ⟨rfl,b9⟩;have O0:=Qh (B0.below b9);have J0:=Qh (E0.trans (b9.mono E0.size));clear b9;obtain⟨⟨l1,u1⟩,⟨l2,u2⟩,⟨l3,u3⟩⟩:=L0.out;have s1:IntKind.i64.wrap (X 1*65536)=X 1*65536:=zd _ (by omega) (by omega);have s2:IntKind.i64.wrap (16777216+X 1*65536)=16777216+X 1*65536:=zd _ (by omega) (by omega);have s3:IntKind.i64.wrap (X 2*256)=X 2*256:=zd _ (by omega) (by omega);have s4:IntKind.i64.wrap (16777216+X 1*65536+X 2*256)=16777216+X 1*65536+X 2*256:=zd _ (by omega) (by omega);have s5:IntKind.i64.wrap (16777216+X 1*65536+X 2*256+X 3)=16777216+X 1*65536+X 2*256+X 3:=zd _ (by omega) (by omega);clear l1 u1 l2 u2 l3 u3;go_wp2_with fail;refine zcD rfl rfl rfl rfl ⟨?_,J0⟩;rw[C.out];show Ending.returned (.tuple #[.int .i64 (wrap64 (wrap64 (wrap64 (16777216+wrap64 (X 1*65536))+wrap64 (X 2*256))+X 3)),.int .i64 4])=_;rw[← zic,← zic,← zic,← zic,← zic,s1,s2,s3,s4,s5];rfl
theorem zll {ps:List Int} {f i:Nat} {p:Sty} (hi:i<ps.length):zax ps (f+1) i p =
  (if par ps i 0=38∨par ps i 0=48 then
    if (Zq ps (i+1)).2=0 then p
    else zax ps f (i+1+(Zq ps (i+1)).2) (if par ps i 0=38 then { p with fg:=(Zq ps (i+1)).1 } else { p with bg:=(Zq ps (i+1)).1 })
   else zax ps f (i+1) (zaS p (par ps i 0))):=by
 conv=>lhs;unfold zax
 rw[if_pos hi]
theorem zjx {ps:List Int} {f i:Nat} {p:Sty} (hi:ps.length≤i):zax ps f i p=p:=by
 cases f with
 | zero=>rfl
 | succ f=>unfold zax;rw[if_neg (by omega)]
theorem zid (ps:List Int) (i:Nat):((Zq ps i).2=0∨i+(Zq ps i).2≤ps.length)∧(Zq ps i).2≤4:=by
 unfold Zq;split
 ·rename_i h;exact⟨.inr h.1,(by decide:2≤4)⟩
 ·split
  ·rename_i h;exact⟨.inr h.1,(by decide:4≤4)⟩
  ·exact⟨.inl rfl,by decide⟩
structure za7 (C:Nat→Nat) (w:World) (v:Value) (l:List Int):Prop where
 rd:zfx .i64 w v l
 own:0<l.length→∀ a n c,v=.slice (some a) n c→C a.block=0
theorem zgP {w w':World} {a:Addr} (h:w'.heap[a.block]?=w.heap[a.block]?):w'.cell? a=w.cell? a:=by
 unfold World.cell?;rw[h]
theorem za7.next {C C':Nat→Nat} {w w':World} {v:Value} {l:List Int} (h:za7 C w v l) (g:Pre C w C' w'):za7 C' w' v l:=by
 obtain⟨hr,E⟩:=h;rcases hr with ⟨rfl,rfl⟩ | ⟨a,c,rfl,h1,h2,h3⟩
 ·exact⟨.inl ⟨rfl,rfl⟩,fun h0=>by simp at h0⟩
 ·have A:0<l.length→C a.block=0∧a.block<w.heap.size:=fun h0=>⟨E h0 a _ _ rfl,by have:=zaO (h3 0 h0);rwa [zdc]at this⟩;refine⟨.inr ⟨a,c,rfl,h1,h2,fun j hj=>?_⟩,fun h0 a' n' c' e=>?_⟩
  ·obtain⟨B,D⟩:=A (by omega);refine(zgP ?_).trans (h3 j hj);rw[zdc];exact g.wi.block _ D (fun e=>by
    rcases e with e | e
    ·exact e B
    ·omega)
  ·injection e with e;injection e with e;subst e;obtain⟨B,D⟩:=A h0;by_cases hc:C' a.block=0
   ·exact hc
   ·rcases g.n _ hc with e | e
    ·exact absurd B e
    ·omega
theorem za7.below {C:Nat→Nat} {w w':World} {v:Value} {l:List Int} (h:za7 C w v l) (b:Below w.heap.size w w'):za7 C w' v l:=h.next ((Pre.refl C w).below b)
end
section
open Go.RowKit
structure za8 (a:VAct) (v:Value) (A:Nat) (C:Nat→Nat) (w:World):Prop where
 blk:w.heap[A]?=some (.cells (a.cells v).toArray 93 (0,0))
 free:C A=0
 ap:za7 C w v a.params
theorem za8.next {a:VAct} {v:Value} {A:Nat} {C C':Nat→Nat} {w w':World} (h:za8 a v A C w) (g:Pre C w C' w'):za8 a v A C' w':=by
 have B:=zq h.blk;refine⟨(g.wi.block A B (fun e=>?_)).trans h.blk,?_,h.ap.next g⟩
 ·rcases e with e | e
  ·exact e h.free
  ·omega
 ·by_cases hc:C' A=0
  ·exact hc
  ·rcases g.n _ hc with e | e
   ·exact absurd h.free e
   ·omega
theorem za8.below {a:VAct} {v:Value} {A:Nat} {C:Nat→Nat} {w w':World} (h:za8 a v A C w) (b:Below w.heap.size w w'):za8 a v A C w':=h.next ((Pre.refl C w).below b)
theorem SR.free {B:World} {C:Nat→Nat} {p:Nat} {w:World} {s:Scr} {ps:PSt} (h:SR B C p w s ps) {k:Nat} (hk:w.heap.size≤k):C k=0:=by
 obtain⟨D,H,J,G,L,E,F,I,A⟩:=h.sm;by_cases e:C k=0
 ·exact e
 ·have:=A.lt k e;omega
theorem zbm {B:World} {C:Nat→Nat} {p:Nat} {w:World} {s:Scr} {ps:PSt} {a:VAct} {v:Value} (h:SR B C p w s ps) (hv:za7 C w v a.params):za8 a v w.heap.size C (w.alloc (.cells (a.cells v).toArray 93)) :=
 ⟨zH w _,h.free (Nat.le_refl _),hv.below ((Below.refl w.heap.size w).alloc (Nat.le_refl _) _)⟩
theorem zjy {B:World} {C:Nat→Nat} {p:Nat} {w:World} {s:Scr} {ps:PSt} (h:SR B C p w s ps) (a:VAct) (v:Value) (hv:za7 C w v a.params) :
  Calls prog 213 #[.pointer (some ⟨p,0,none⟩),a.val v] w fun e w'=>e=.returned (.tuple #[])∧zy B C p w w' (s.looks a.params) ps:=by
 have I0:=zbm h hv;have X:=(Below.refl w.heap.size w).alloc (Nat.le_refl _) (.cells (a.cells v).toArray 93);unfold VAct.cells at X;have HR:=Qh (h.below X);have HP:=Qh ((Pre.refl C w).below X);have U:=Qh I0;have H0:=zcz underlying22 hv.rd;have D0:=Qh (zcd hv.rd);have B0:=Qh (show s.looks a.params=s.ink (zax a.params a.params.length 0 (if a.params=[] then plainS else s.now.pen)) from rfl);clear I0 X hv h;unfold VAct.val;obtain⟨A,hA⟩:∃ A,A=w.heap.size:=⟨_,rfl⟩;rw[← hA]at U;have c3:(w.alloc (.cells #[.int .i64 a.kind,.int .i32 a.rune,.int .u8 (a.byte.toNat:Int),v,.string a.inter,.string a.text] 93)).cell? ⟨w.heap.size,3,none⟩=some v:=(by rw[← hA];exact za U.blk 3);obtain⟨L,hL⟩:∃ L,L=a.params.length:=⟨_,rfl⟩;rw[← hL]at H0 D0 B0;have HL:=Qh hL;clear hL;go_enter func213,ntmps213;go_upto_if 11 with fail;have N:=Qh (show za8 a v A C (w.alloc (.cells #[.int .i64 a.kind,.int .i32 a.rune,.int .u8 (a.byte.toNat:Int),v,.string a.inter,.string a.text] 93)) from U.out);clear U;rw[← hA];clear hA c3;generalize (w.alloc (.cells #[.int .i64 a.kind,.int .i32 a.rune,.int .u8 (a.byte.toNat:Int),v,.string a.inter,.string a.text] 93))=w1 at *
 go_cut [] (fun wz=>∃ (C1:Nat→Nat) (t:Sty),Hid (SR B C1 p wz (s.ink t) ps)∧Hid (za8 a v A C1 wz)∧Hid (Pre C w C1 wz)∧Hid (t=if a.params=[] then plainS else s.now.pen))
 case first =>
  by_cases h0:L=0
  ·have e0:((L:Int) == 0)=true:=beq_iff_eq.2 (by omega);have HE:=Qh (show plainS=if a.params=[] then plainS else s.now.pen by rw[if_pos (List.eq_nil_of_length_eq_zero (by rw[← HL.out];exact h0))]);clear h0;go_wp2_with fail;refine(ZW w1).mono ?_;rintro e w2 ⟨rfl,b2⟩;obtain⟨M0,h1,g1⟩:=(HR.below b2).setPen plainS;have H1:=Qh h1;have P1:=Qh ((HP.below b2).trans g1);have D:=Qh ((N.below b2).next g1);clear h1 g1 b2;unfold Sty.val;go_wp2_with (refine zF rfl _ _ _ rfl M0 rfl rfl ?_);go_meet;exact⟨C,plainS,H1,D,P1,HE⟩
  ·have e0:((L:Int) == 0)=false:=Qb (by omega);have HE:=Qh (show s.now.pen=if a.params=[] then plainS else s.now.pen by rw[if_neg (fun e=>h0 (by rw[HL.out,e];rfl))]);clear h0;go_wp2_with fail;go_meet;exact⟨C,s.now.pen,HR,N,HP,HE⟩
 case rest =>
 obtain⟨C1,t0,H1,V0,P1,L0⟩:=hcut;obtain⟨w2,rfl⟩:∃ z,z=wc:=⟨wc,rfl⟩;clear HR HP N;have Z:=Qh (show s.looks a.params=s.ink (zax a.params L 0 t0) by rw[B0.out,L0.out]);clear B0 L0;go_wp2_with fail
 go_loopw [4] (fun iv wr=>∃ (i f:Nat) (T:Nat→Nat) (t:Sty),iv=.int .i64 i∧i≤L∧Hid (L≤i+f)∧Hid (SR B T p wr (s.ink t) ps)∧Hid (za8 a v A T wr)∧Hid (Pre C w T wr)∧Hid (zax a.params f i t=zax a.params L 0 t0)) (fun iv _=>L-(intOf iv).toNat)
 case atStart=>exact⟨0,L,C1,t0,rfl,Nat.zero_le _,Qh (by omega),H1,V0,P1,Qh rfl⟩
 case round =>
  obtain⟨i,f,T,t,rfl,hi,HF,H2,D,P2,HQ⟩:=hrel;have a0:wr.cell? ⟨A,0,none⟩=some (.int .i64 a.kind):=za D.blk 0;have a1:wr.cell? ⟨A,1,none⟩=some (.int .i32 a.rune):=za D.blk 1;have a2:wr.cell? ⟨A,2,none⟩=some (.int .u8 (a.byte.toNat:Int)):=za D.blk 2;have a3:wr.cell? ⟨A,3,none⟩=some v:=za D.blk 3;have a4:wr.cell? ⟨A,4,none⟩=some (.string a.inter):=za D.blk 4;have a5:wr.cell? ⟨A,5,none⟩=some (.string a.text):=za D.blk 5;by_cases hlt:i<L;rotate_left
  ·have HD:=Qh (show zy B C p w wr (s.looks a.params) ps by
    rw[Z.out,← HQ.out,zjx (by rw[← HL.out];omega)];exact⟨T,H2,P2⟩)
   have d1:decide ((i:Int)<(L:Int))=false:=Qf (by omega);have T0:decide (i<L)=false:=Qf hlt;go_wp2_with fail;go_end0;exact⟨rfl,HD⟩
  have d1:decide ((i:Int)<(L:Int))=true:=Qt (by omega);have T0:decide (i<L)=true:=Qt hlt;obtain⟨f',rfl⟩:∃ f',f=f'+1:=⟨f-1,by have:=HF.out;omega⟩;have O:=Qh ((zll (f:=f') (p:=t) (show i<a.params.length by rw[← HL.out];exact hlt)).symm.trans HQ);have E0:=Qh (ZH a v wr D.ap.rd i 0);have C0:=Qh (ZX a.params i 0 (by decide) (by decide));unfold VAct.val at E0;clear HQ;have S0:(i:Int)+1≤9223372036854775807:=(by have:=D0.out;omega);have Z0:IntKind.i64.wrap ((i:Int)+1)=(i:Int)+1:=zd _ (by omega) (by omega);clear S0;go_wp2_with fail;refine E0.mono ?_;rintro e Y ⟨rfl,b3⟩;have H3:=Qh (H2.below b3);have E:=Qh (D.below b3);have P3:=Qh (P2.below b3);clear b3 a0 a1 a2 a3 a4 a5 H2 D P2 E0;obtain⟨n,hn⟩:∃ n,n=par a.params i 0:=⟨_,rfl⟩;rw[← hn]at O C0 ⊢;have HN:=Qh hn;clear hn;by_cases hc:n=38∨n=48;rotate_left
  ·have e38:(n == 38)=false:=Qb (by omega);have e48:(n == 48)=false:=Qb (by omega);have H:=Qh (O.out.symm.trans (if_neg hc)).symm;clear hc O;go_wp2_with fail;refine(zla H3 n C0.1 C0.2).mono ?_;rintro e w4 ⟨rfl,C4,M,p4⟩;have H4:=Qh (show SR B C4 p w4 (s.ink (zaS t n)) ps from M);have O0:=Qh (E.next p4);have P4:=Qh (P3.trans p4);clear M p4;go_wp2_with fail;go_roundw
   case rel=>exact⟨i+1,f',C4,zaS t n,by go_num,by omega,Qh (by have:=HF.out;omega),H4,O0,P4,H⟩
   case measure=>simp[intOf];omega
  have H:=Qh ((if_pos hc).symm.trans O);clear O;have a0:Y.cell? ⟨A,0,none⟩=some (.int .i64 a.kind):=za E.blk 0;have a1:Y.cell? ⟨A,1,none⟩=some (.int .i32 a.rune):=za E.blk 1;have a2:Y.cell? ⟨A,2,none⟩=some (.int .u8 (a.byte.toNat:Int)):=za E.blk 2;have a3:Y.cell? ⟨A,3,none⟩=some v:=za E.blk 3;have a4:Y.cell? ⟨A,4,none⟩=some (.string a.inter):=za E.blk 4;have a5:Y.cell? ⟨A,5,none⟩=some (.string a.text):=za E.blk 5;have F:=Qh (zjw a v Y E.ap.rd (i+1) (by rw[← HL.out];omega));unfold VAct.val at F;have I:=Qh (zid a.params (i+1));rw[← HL.out]at I;obtain⟨S,ct,G0⟩:∃ S ct,Zq a.params (i+1)=(S,ct):=⟨_,_,rfl⟩;rw[G0]at F I H;clear G0;dsimp only at F I H;have R:(((i+1:Nat)):Int)=(i:Int)+1:=(by omega);rw[R]at F;clear R;have U0:True:=trivial;have key38:(n == 38)=true∨((n == 38)=false∧(n == 48)=true):=by
   rcases hc with h | h
   ·exact .inl (beq_iff_eq.2 h)
   ·exact .inr ⟨Qb (by omega),beq_iff_eq.2 h⟩
  clear hc;by_cases hz:ct=0
  ·have e0:((ct:Int) == 0)=true:=beq_iff_eq.2 (by omega);have HD:=Qh (show SR B T p Y (s.ink t) ps∧s.looks a.params=s.ink t from⟨H3,by rw[Z.out,← H.out,if_pos hz]⟩);clear hz;rcases key38 with e38 | ⟨e38,e48⟩
   all_goals
    go_wp2_with fail;refine F.mono ?_;rintro e w4 ⟨rfl,J⟩;have R0:=Qh (show zy B C p w w4 (s.looks a.params) ps by rw[HD.out.2];exact⟨T,HD.1.below J,P3.below J⟩);clear J;go_wp2_with fail;refine ZR rfl rfl ?_;exact⟨rfl,R0⟩
  have e0:((ct:Int) == 0)=false:=Qb (by omega);have G:=Qh (show i+1+ct≤L∧1≤ct∧ct≤4 from⟨by have:=I.out;omega,by omega,I.2⟩);have V:=Qh ((if_neg hz).symm.trans H);clear hz H I;have J0:=D0.out;have N0:=G.out;have X0:IntKind.i64.wrap ((i:Int)+ct)=(i:Int)+ct:=zd _ (by omega) (by omega);have Y0:IntKind.i64.wrap ((i:Int)+ct+1)=(i:Int)+ct+1:=zd _ (by omega) (by omega);clear J0 N0;rcases key38 with e38 | ⟨e38,e48⟩
  ·have F0:=Qh (show zax a.params f' (i+1+ct) { t with fg:=S }=zax a.params L 0 t0 by
    have:=V.out;rw[if_pos (beq_iff_eq.1 e38)]at this;exact this)
   clear V;go_wp2_with fail;refine F.mono ?_;rintro e w4 ⟨rfl,J⟩;have M:=H3.out.below J;have c3:=M.at_ 3 (.int .i64 t.fg);have f3:=M.fz 3;obtain⟨h5,g5⟩:=M.set 3 (.int .i64 S) (s.ink { t with fg:=S });have H5:=Qh h5;have P5:=Qh ((P3.below J).trans g5);have A0:=Qh ((E.below J).next g5);clear J M h5 g5 F;go_wp2_with fail;go_roundw
   case rel=>exact⟨i+1+ct,f',T,{ t with fg:=S },by go_num,by have:=G.out;omega,Qh (by have:=HF.out;have:=G.out;omega),H5,A0,P5,F0⟩
   case measure=>have:=G.out;simp[intOf];omega
  ·have F0:=Qh (show zax a.params f' (i+1+ct) { t with bg:=S }=zax a.params L 0 t0 by
    have:=V.out;rw[if_neg (beq_eq_false_iff_ne.1 e38)]at this;exact this)
   clear V;go_wp2_with fail;refine F.mono ?_;rintro e w4 ⟨rfl,J⟩;have M:=H3.out.below J;have c4:=M.at_ 4 (.int .i64 t.bg);have f4:=M.fz 4;obtain⟨h5,g5⟩:=M.set 4 (.int .i64 S) (s.ink { t with bg:=S });have H5:=Qh h5;have P5:=Qh ((P3.below J).trans g5);have A0:=Qh ((E.below J).next g5);clear J M h5 g5 F;go_wp2_with fail;go_roundw
   case rel=>exact⟨i+1+ct,f',T,{ t with bg:=S },by go_num,by have:=G.out;omega,Qh (by have:=HF.out;have:=G.out;omega),H5,A0,P5,F0⟩
   case measure=>have:=G.out;simp[intOf];omega
end
end Go.Proofs.YthehkmopdeebmaaGreatDoor
