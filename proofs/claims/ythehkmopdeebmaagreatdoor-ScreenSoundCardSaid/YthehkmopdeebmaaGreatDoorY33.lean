/- Part. -/
import Derived.Test.YthehkmopdeebmaaGreatDoorY30
set_option linter.unusedVariables false
set_option linter.unusedSimpArgs false
set_option maxRecDepth 100000
set_option maxHeartbeats 8000000
namespace Go.Proofs.YthehkmopdeebmaaGreatDoor
open _root_.Go.Proofs.Tryz
section
open Go.RowKit
def za0 (b:UInt8) (inter:List UInt8) (ps:PSt):PSt:=if inter=[] then zaa b ps else ps
theorem zbQ {b:ByteArray} (l:List UInt8) (h:¬ b=⟨l.toArray⟩):(b.toList == l)=false:=by
 rw[beq_eq_false_iff_ne,ByteArray.toList_eq];intro e;refine h ?_;obtain⟨d⟩:=b;dsimp only at e;rw[← e]
theorem zbr {b:ByteArray} (l:List UInt8) (h:¬ b=⟨l.toArray⟩):¬ b.data.toList=l:=by
 intro e;refine h ?_;obtain⟨d⟩:=b;dsimp only at e;rw[← e]
theorem ziv {B:World} {C:Nat→Nat} {p c r:Nat} {w:World} {s:Scr} {ps:PSt} (h:SR B C p w s ps) (hok:s.Ok c r) (a:VAct) (v:Value) (ho:s.out.length≤100000) :
  Calls prog 97 #[.pointer (some ⟨p,0,none⟩),a.val v] w fun e w'=>e=.returned (.tuple #[])∧zy B C p w w' (s.escape a.byte a.inter.data.toList) (za0 a.byte a.inter.data.toList ps):=by
 obtain⟨D,A,byte,R,inter,E⟩:=a;dsimp only;have S:=(Below.refl w.heap.size w).alloc (Nat.le_refl _) (.cells ((⟨D,A,byte,R,inter,E⟩:VAct).cells v).toArray 93);have J:=zH w (.cells ((⟨D,A,byte,R,inter,E⟩:VAct).cells v).toArray 93);unfold VAct.cells at S J;dsimp only at S J;have I:=Qh (h.below S);have N:=Qh ((Pre.refl C w).below S);have Z:=Qh hok;have a0:(w.alloc (.cells #[.int .i64 D,.int .i32 A,.int .u8 (byte.toNat:Int),v,.string inter,.string E] 93)).cell? ⟨w.heap.size,0,none⟩=some (.int .i64 D):=za J 0;have a1:(w.alloc (.cells #[.int .i64 D,.int .i32 A,.int .u8 (byte.toNat:Int),v,.string inter,.string E] 93)).cell? ⟨w.heap.size,1,none⟩=some (.int .i32 A):=za J 1;have a2:(w.alloc (.cells #[.int .i64 D,.int .i32 A,.int .u8 (byte.toNat:Int),v,.string inter,.string E] 93)).cell? ⟨w.heap.size,2,none⟩=some (.int .u8 (byte.toNat:Int)):=za J 2;have a3:(w.alloc (.cells #[.int .i64 D,.int .i32 A,.int .u8 (byte.toNat:Int),v,.string inter,.string E] 93)).cell? ⟨w.heap.size,3,none⟩=some v:=za J 3;have a4:(w.alloc (.cells #[.int .i64 D,.int .i32 A,.int .u8 (byte.toNat:Int),v,.string inter,.string E] 93)).cell? ⟨w.heap.size,4,none⟩=some (.string inter):=za J 4;have a5:(w.alloc (.cells #[.int .i64 D,.int .i32 A,.int .u8 (byte.toNat:Int),v,.string inter,.string E] 93)).cell? ⟨w.heap.size,5,none⟩=some (.string E):=za J 5;have hN:=h.nums hok;have L0:=Qh (show 1≤c∧1≤r from⟨by rw[(hN.ok hok).1];exact hN.c1,by rw[(hN.ok hok).2];exact hN.r1⟩);clear S J h hok hN;unfold VAct.val;dsimp only;by_cases hi40:inter=⟨#[40]⟩
 ·subst hi40;have H:(0:Int)≤(byte.toNat:Int)∧(byte.toNat:Int)≤255:=(by have:=byte.toNat_lt;omega);obtain⟨k,F⟩:∃ k:Int,k=(byte.toNat:Int):=⟨_,rfl⟩;rw[← F]at H a2 I N ⊢;rw[← F]at a0;rw[← F]at a1;rw[← F]at a3;rw[← F]at a4;rw[← F]at a5;by_cases h48:k=48
  ·subst h48;have G:=Qh (show s.escape byte [40]={ s with now:={ s.now with l0:=true } }∧za0 byte [40] ps=ps from⟨by unfold Scr.escape;dsimp only;rw[← F];rfl,rfl⟩);clear F H;have c7:(w.alloc (.cells #[.int .i64 D,.int .i32 A,.int .u8 48,v,.string ⟨#[40]⟩,.string E] 93)).cell? ⟨p,7,none⟩=some (.bool s.now.l0):=I.out.at_ 7 _;have f7:=I.out.fz 7;obtain⟨L,M⟩:=I.out.set 7 (.bool true) { s with now:={ s.now with l0:=true } };have V:=Qh (show zy B C p w _ _ ps from⟨_,L,N.trans M⟩);clear L M;have O:∀ h,(⟨#[40]⟩:ByteArray)[0]'h=40:=fun _=>rfl;go_enter func97,ntmps97;go_wp2_with fail;go_end0;refine⟨rfl,?_⟩;rw[G.out.1,G.out.2];exact V
  by_cases h65:k=65
  ·subst h65;have G:=Qh (show s.escape byte [40]={ s with now:={ s.now with l0:=false } }∧za0 byte [40] ps=ps from⟨by unfold Scr.escape;dsimp only;rw[← F];rfl,rfl⟩);clear F H;have c7:(w.alloc (.cells #[.int .i64 D,.int .i32 A,.int .u8 65,v,.string ⟨#[40]⟩,.string E] 93)).cell? ⟨p,7,none⟩=some (.bool s.now.l0):=I.out.at_ 7 _;have f7:=I.out.fz 7;obtain⟨L,M⟩:=I.out.set 7 (.bool false) { s with now:={ s.now with l0:=false } };have V:=Qh (show zy B C p w _ _ ps from⟨_,L,N.trans M⟩);clear L M;have O:∀ h,(⟨#[40]⟩:ByteArray)[0]'h=40:=fun _=>rfl;go_enter func97,ntmps97;go_wp2_with fail;go_end0;refine⟨rfl,?_⟩;rw[G.out.1,G.out.2];exact V
  by_cases h66:k=66
  ·subst h66;have G:=Qh (show s.escape byte [40]={ s with now:={ s.now with l0:=false } }∧za0 byte [40] ps=ps from⟨by unfold Scr.escape;dsimp only;rw[← F];rfl,rfl⟩);clear F H;have c7:(w.alloc (.cells #[.int .i64 D,.int .i32 A,.int .u8 66,v,.string ⟨#[40]⟩,.string E] 93)).cell? ⟨p,7,none⟩=some (.bool s.now.l0):=I.out.at_ 7 _;have f7:=I.out.fz 7;obtain⟨L,M⟩:=I.out.set 7 (.bool false) { s with now:={ s.now with l0:=false } };have V:=Qh (show zy B C p w _ _ ps from⟨_,L,N.trans M⟩);clear L M;have O:∀ h,(⟨#[40]⟩:ByteArray)[0]'h=40:=fun _=>rfl;go_enter func97,ntmps97;go_wp2_with fail;go_end0;refine⟨rfl,?_⟩;rw[G.out.1,G.out.2];exact V
  have G:=Qh (show s.escape byte [40]=s∧za0 byte [40] ps=ps from⟨by
   unfold Scr.escape;dsimp only;rw[← F,if_pos rfl,if_neg h48,if_neg (show ¬ (k=65∨k=66) by omega)],rfl⟩)
  have A0:(k == 48)=false:=Qb h48;have E0:(k == 65)=false:=Qb h65;have D0:(k == 66)=false:=Qb h66;have O:∀ h,(⟨#[40]⟩:ByteArray)[0]'h=40:=fun _=>rfl;clear F H h48 h65 h66;go_enter func97,ntmps97;go_wp2_with fail;go_end0;refine⟨rfl,?_⟩;rw[G.out.1,G.out.2];exact⟨_,I,N⟩
 by_cases hi41:inter=⟨#[41]⟩
 ·subst hi41;have H:(0:Int)≤(byte.toNat:Int)∧(byte.toNat:Int)≤255:=(by have:=byte.toNat_lt;omega);obtain⟨k,F⟩:∃ k:Int,k=(byte.toNat:Int):=⟨_,rfl⟩;rw[← F]at H a2 I N ⊢;rw[← F]at a0;rw[← F]at a1;rw[← F]at a3;rw[← F]at a4;rw[← F]at a5;by_cases h48:k=48
  ·subst h48;have G:=Qh (show s.escape byte [41]={ s with now:={ s.now with l1:=true } }∧za0 byte [41] ps=ps from⟨by unfold Scr.escape;dsimp only;rw[← F];rfl,rfl⟩);clear F H;have c8:(w.alloc (.cells #[.int .i64 D,.int .i32 A,.int .u8 48,v,.string ⟨#[41]⟩,.string E] 93)).cell? ⟨p,8,none⟩=some (.bool s.now.l1):=I.out.at_ 8 _;have f8:=I.out.fz 8;obtain⟨L,M⟩:=I.out.set 8 (.bool true) { s with now:={ s.now with l1:=true } };have V:=Qh (show zy B C p w _ _ ps from⟨_,L,N.trans M⟩);clear L M;have O:∀ h,(⟨#[41]⟩:ByteArray)[0]'h=41:=fun _=>rfl;go_enter func97,ntmps97;go_wp2_with fail;go_end0;refine⟨rfl,?_⟩;rw[G.out.1,G.out.2];exact V
  by_cases h65:k=65
  ·subst h65;have G:=Qh (show s.escape byte [41]={ s with now:={ s.now with l1:=false } }∧za0 byte [41] ps=ps from⟨by unfold Scr.escape;dsimp only;rw[← F];rfl,rfl⟩);clear F H;have c8:(w.alloc (.cells #[.int .i64 D,.int .i32 A,.int .u8 65,v,.string ⟨#[41]⟩,.string E] 93)).cell? ⟨p,8,none⟩=some (.bool s.now.l1):=I.out.at_ 8 _;have f8:=I.out.fz 8;obtain⟨L,M⟩:=I.out.set 8 (.bool false) { s with now:={ s.now with l1:=false } };have V:=Qh (show zy B C p w _ _ ps from⟨_,L,N.trans M⟩);clear L M;have O:∀ h,(⟨#[41]⟩:ByteArray)[0]'h=41:=fun _=>rfl;go_enter func97,ntmps97;go_wp2_with fail;go_end0;refine⟨rfl,?_⟩;rw[G.out.1,G.out.2];exact V
  by_cases h66:k=66
  ·subst h66;have G:=Qh (show s.escape byte [41]={ s with now:={ s.now with l1:=false } }∧za0 byte [41] ps=ps from⟨by unfold Scr.escape;dsimp only;rw[← F];rfl,rfl⟩);clear F H;have c8:(w.alloc (.cells #[.int .i64 D,.int .i32 A,.int .u8 66,v,.string ⟨#[41]⟩,.string E] 93)).cell? ⟨p,8,none⟩=some (.bool s.now.l1):=I.out.at_ 8 _;have f8:=I.out.fz 8;obtain⟨L,M⟩:=I.out.set 8 (.bool false) { s with now:={ s.now with l1:=false } };have V:=Qh (show zy B C p w _ _ ps from⟨_,L,N.trans M⟩);clear L M;have O:∀ h,(⟨#[41]⟩:ByteArray)[0]'h=41:=fun _=>rfl;go_enter func97,ntmps97;go_wp2_with fail;go_end0;refine⟨rfl,?_⟩;rw[G.out.1,G.out.2];exact V
  have G:=Qh (show s.escape byte [41]=s∧za0 byte [41] ps=ps from⟨by
   unfold Scr.escape;dsimp only;rw[← F,if_neg (by decide),if_pos rfl,if_neg h48,if_neg (show ¬ (k=65∨k=66) by omega)],rfl⟩)
  have A0:(k == 48)=false:=Qb h48;have E0:(k == 65)=false:=Qb h65;have D0:(k == 66)=false:=Qb h66;have O:∀ h,(⟨#[41]⟩:ByteArray)[0]'h=41:=fun _=>rfl;clear F H h48 h65 h66;go_enter func97,ntmps97;go_wp2_with fail;go_end0;refine⟨rfl,?_⟩;rw[G.out.1,G.out.2];exact⟨_,I,N⟩
 by_cases hi35:inter=⟨#[35]⟩
 ·subst hi35;have H:(0:Int)≤(byte.toNat:Int)∧(byte.toNat:Int)≤255:=(by have:=byte.toNat_lt;omega);obtain⟨k,F⟩:∃ k:Int,k=(byte.toNat:Int):=⟨_,rfl⟩;rw[← F]at H a2 I N ⊢;rw[← F]at a0;rw[← F]at a1;rw[← F]at a3;rw[← F]at a4;rw[← F]at a5;by_cases h56:k=56
  ·subst h56;have G:=Qh (show s.escape byte [35]=s.fill∧za0 byte [35] ps=ps from⟨by unfold Scr.escape;dsimp only;rw[← F];rfl,rfl⟩);clear F H;go_enter func97,ntmps97;go_wp2_with fail;refine(zlq I Z).mono ?_;rintro e C0 ⟨rfl,B0,T,U⟩;have Y:=Qh T;have X:=Qh (N.trans U);clear T U;go_wp2_with fail;go_end0;refine⟨rfl,?_⟩;rw[G.out.1,G.out.2];exact⟨_,Y,X⟩
  ·have G:=Qh (show s.escape byte [35]=s∧za0 byte [35] ps=ps from⟨by
    unfold Scr.escape;dsimp only;rw[← F,if_neg (by decide),if_neg (by decide),if_pos rfl,if_neg h56],rfl⟩)
   have I0:(k == 56)=false:=Qb h56;clear F H h56;go_enter func97,ntmps97;go_wp2_with fail;go_end0;refine⟨rfl,?_⟩;rw[G.out.1,G.out.2];exact⟨_,I,N⟩
 by_cases hi0:inter=⟨#[]⟩
 ·subst hi0;have G:=Qh (show s.escape byte []=s.bare byte∧za0 byte [] ps=zaa byte ps from⟨rfl,rfl⟩);go_enter func97,ntmps97;go_wp2_with fail;refine(zlD I Z byte ho).mono ?_;rintro e C0 ⟨rfl,B0,T,U⟩;have Y:=Qh T;have X:=Qh (N.trans U);clear T U;go_wp2_with fail;go_end0;refine⟨rfl,?_⟩;rw[G.out.1,G.out.2];exact⟨_,Y,X⟩
 have G:=Qh (show s.escape byte inter.data.toList=s∧za0 byte inter.data.toList ps=ps from⟨by
  unfold Scr.escape;dsimp only;rw[if_neg (zbr [40] hi40),if_neg (zbr [41] hi41),if_neg (zbr [35] hi35),if_neg (zbr [] hi0)],by unfold za0;rw[if_neg (zbr [] hi0)]⟩)
 have H0:=zbQ [40] hi40;have G0:=zbQ [41] hi41;have J0:=zbQ [35] hi35;have g0:=zbQ [] hi0;have F0:inter.toList.isEmpty=false:=(by rw[← List.beq_nil_eq];exact g0);clear hi40 hi41 hi35 hi0;go_enter func97,ntmps97;go_wp2_with fail;go_end0;refine⟨rfl,?_⟩;rw[G.out.1,G.out.2];exact⟨_,I,N⟩
end
section
open Go.RowKit
def zbv (w:World) (p:Nat) (s:Sty):Prop:=w.heap[p]?=some (.cells #[.int .i64 s.fg,.int .i64 s.bg,.int .i64 s.attr] 49 (0,0))
theorem zbv.cells {w:World} {p:Nat} {s:Sty} (h:zbv w p s):w.cell? ⟨p,0,none⟩=some (.int .i64 s.fg)∧w.cell? ⟨p,1,none⟩=some (.int .i64 s.bg)∧w.cell? ⟨p,2,none⟩=some (.int .i64 s.attr):=⟨za h 0,za h 1,za h 2⟩
theorem zbv.below {w w':World} {p B:Nat} {s:Sty} (h:zbv w p s) (b:Below B w w') (hp:p<B):zbv w' p s:=by
 unfold zbv;rw[b.block p hp];exact h
def zea (z:Int) (i:Nat):List Int:=((zfN.take i).filter fun kc=>zhR z ((2 ^ kc.1:Nat):Int) != 0).map (·.2)
theorem zmS (z:Int) (i:Nat):(zea z i).length≤8:=by
 unfold zea;rw[List.length_map];exact Nat.le_trans (List.length_filter_le _ _) (Nat.le_trans (List.length_take_le' _ _) (by decide))
theorem zbM (z:Int) (k:Nat) (c m:Int) (hk:zfN[k]?=some (k,c)) (hm:((2 ^ k:Nat):Int)=m) (h:(bits BinOp.and IntKind.i64 z m != 0)=true):zea z (k+1)=zea z k++[c]:=by
 unfold zea;rw[List.take_add_one,hk,Option.toList_some,List.filter_append,List.map_append,List.filter_cons];dsimp only;rw[hm,if_pos (show(zhR z m != 0)=true from h)];rfl
theorem zct (z:Int) (k:Nat) (c m:Int) (hk:zfN[k]?=some (k,c)) (hm:((2 ^ k:Nat):Int)=m) (h:(bits BinOp.and IntKind.i64 z m != 0)=false):zea z (k+1)=zea z k:=by
 unfold zea;rw[List.take_add_one,hk,Option.toList_some,List.filter_append,List.map_append,List.filter_cons];dsimp only;rw[hm,if_neg (by rw[show(zhR z m != 0)=false from h];decide)];simp
theorem zew (c d:Int):(zan c d).length≤5:=by
 unfold zan
 repeat' split
 all_goals simp
theorem zn6 {x:Int} (h:0≤x∧x≤1000):(Lib.itoa x).length≤21:=Lib.itoa_length_le x (by omega) (by omega)
theorem ziw:∀ (l:List Int) (b:Bool),(∀ x∈l,0≤x∧x≤1000)→(zaf b l).length≤22*l.length
 | [],_,_=>by simp[zaf]
 | x::l,b,h=>by
  have h1:=ziw l true (fun y hy=>h y (List.mem_cons_of_mem _ hy));have h2:=h x (List.mem_cons_self ..);have h3:=zn6 h2;unfold zaf zis;rw[if_pos h2.1,List.length_append,List.length_append,List.length_cons];have:(if b then ([59]:List UInt8) else []).length≤1:=(by cases b <;> decide);omega
theorem zix {c d:Int} (hc:ZB c=true) (hd:d=0∨d=10):∀ x∈zan c d,0≤x∧x≤1000:=by
 have B:-1≤c:=by
  unfold ZB at hc;simp at hc;omega
 intro x A;unfold zan at A;by_cases h0:c<0
 ·rw[if_pos h0,List.mem_singleton]at A;omega
 rw[if_neg h0]at A;by_cases h8:c<8
 ·rw[if_pos h8,List.mem_singleton]at A;omega
 rw[if_neg h8]at A;by_cases h16:c<16
 ·rw[if_pos h16,List.mem_singleton]at A;omega
 rw[if_neg h16]at A;by_cases h256:c<256
 ·rw[if_pos h256]at A;simp only[List.mem_cons,List.not_mem_nil,or_false]at A;omega
 ·rw[if_neg h256]at A;simp only[List.mem_cons,List.not_mem_nil,or_false]at A;omega
theorem zmT (z:Int) (i:Nat):∀ x∈zea z i,0≤x∧x≤1000:=by
 intro x D;obtain⟨A,C,rfl⟩:=List.mem_map.1 D;have B:=List.mem_of_mem_take (List.mem_filter.1 C).1;have:∀ A∈zfN,0≤A.2∧A.2≤1000:=(by decide);exact this A B
theorem zmU {f t:Sty} (ht:okS t=true):∀ x∈zhi f t,0≤x∧x≤1000:=by
 unfold okS at ht;simp only[Bool.and_eq_true]at ht;intro x hx;unfold zhi at hx;rw[List.mem_append,List.mem_append,List.mem_append]at hx;rcases hx with ((hx | hx) | hx) | hx
 ·split at hx
  ·rw[List.mem_singleton]at hx;omega
  ·cases hx
 ·exact zmT _ 8 x hx
 ·split at hx
  ·exact zix ht.1 (.inl rfl) x hx
  ·cases hx
 ·split at hx
  ·exact zix ht.2.1 (.inr rfl) x hx
  ·cases hx
theorem zmV {f:Sty} (hf:okS f=true):(-1≤f.fg∧f.fg<33554432)∧(-1≤f.bg∧f.bg<33554432)∧0≤f.attr∧f.attr≤255:=by
 unfold okS ZB at hf;simp at hf;omega
theorem zgd {T e:TypeId} {B b:Nat} {bs:List Value} {w w':World} (h:Lib.IsBuilderF T e B b bs w) (g:Below w.heap.size w w'):Lib.IsBuilderF T e B b bs w':=by
 have D:w.grownBy w' none:=⟨g.os,g.tape,g.output,g.size,fun k hk _=>g.block k hk⟩;have k:∀ p,Lib.BuilderAtF T e B b p bs w→Lib.BuilderAtF T e B b p bs w':=fun p hp=>by
  obtain⟨E,v,A,C,hne⟩:=hp;exact⟨E,v,zr A g (zq A),C.kept D (by cases hv:v.ownBlock <;> simp),hne⟩
 exact h.elim (fun x=>.inl (k _ x)) (fun x=>.inr (k _ x))
theorem zn7 (f t:Sty) (w:World) (ht:zdz w) (hf:okS f=true) (hk:okS t=true) :
  Calls prog 104 #[f.val,t.val] w fun e w'=>∃ str:ByteArray,e=.returned (.string str)∧str.data.toList=zdS f t∧str.size≤1000∧Below w.heap.size w w':=by
 have M2:=zmV hf;have Y2:=zmV hk;have N2:=Qh ht;have E2:=Qh (ze5 f w ht (by omega) (by omega));have D2:=Qh (ze5 t w ht (by omega) (by omega));have R1:=((Below.refl w.heap.size w).alloc (Nat.le_refl _) (.cells #[.int .i64 f.fg,.int .i64 f.bg,.int .i64 f.attr] 49)).alloc (by simp) (.cells #[.int .i64 t.fg,.int .i64 t.bg,.int .i64 t.attr] 49);have J2:w.heap.size+2≤((w.alloc (.cells #[.int .i64 f.fg,.int .i64 f.bg,.int .i64 f.attr] 49)).alloc (.cells #[.int .i64 t.fg,.int .i64 t.bg,.int .i64 t.attr] 49)).heap.size:=(by simp);have S1:zbv ((w.alloc (.cells #[.int .i64 f.fg,.int .i64 f.bg,.int .i64 f.attr] 49)).alloc (.cells #[.int .i64 t.fg,.int .i64 t.bg,.int .i64 t.attr] 49)) w.heap.size f:=by
  unfold zbv;rw[heap_alloc_old _ _ (by simp)];exact zH w _
 have T1:zbv ((w.alloc (.cells #[.int .i64 f.fg,.int .i64 f.bg,.int .i64 f.attr] 49)).alloc (.cells #[.int .i64 t.fg,.int .i64 t.bg,.int .i64 t.attr] 49)) (w.heap.size+1) t:=zbJ w _ _;have S3:=Qh M2;have Y1:=Qh Y2;have S2:=Qh hf;have Z1:=Qh hk;clear ht hf hk M2 Y2;unfold Sty.val;unfold Sty.val at E2 D2;go_enter func104,ntmps104;go_upto_region 1 with fail;generalize (w.alloc (.cells #[.int .i64 f.fg,.int .i64 f.bg,.int .i64 f.attr] 49)).alloc (.cells #[.int .i64 t.fg,.int .i64 t.bg,.int .i64 t.attr] 49)=w1 at *;obtain⟨A,hA⟩:∃ A,A=w.heap.size:=⟨_,rfl⟩;rw[← hA]at R1 J2 S1 T1;rw[← hA];have HA:=Qh hA;clear hA;have I2:=Qh R1;have E0:=Qh J2;have HF:=Qh S1;have HT:=Qh T1;clear R1 J2 S1 T1;obtain⟨f0,f1,f2⟩:=HF.out.cells;go_wp2_with fail;refine(E2 w1 (by have:=HA.out;subst this;exact I2)).mono ?_;rintro e w2 ⟨rfl,b2⟩;rw[S2.out];have A2:=Qh (I2.trans (b2.mono (by have:=E0.out;omega)));have T0:=Qh (show A+2≤w2.heap.size by have:=E0.out;have:=b2.size;omega);replace HF:=Qh (HF.below b2 (by have:=E0.out;omega));replace HT:=Qh (HT.below b2 (by have:=E0.out;omega));clear b2 f0 f1 f2;obtain⟨t0,t1,t2⟩:=HT.out.cells;go_wp2_with fail;refine(D2 w2 (by have:=HA.out;subst this;exact A2)).mono ?_;rintro e w3 ⟨rfl,b3⟩;rw[Z1.out];have C:=Qh (A2.trans (b3.mono (by have:=T0.out;omega)));have J0:=Qh (show A+2≤w3.heap.size by have:=T0.out;have:=b3.size;omega);replace HF:=Qh (HF.below b3 (by have:=T0.out;omega));replace HT:=Qh (HT.below b3 (by have:=T0.out;omega));clear b3 t0 t1 t2 I2 A2 E0 T0 E2 D2;obtain⟨f0,f1,f2⟩:=HF.out.cells;obtain⟨t0,t1,t2⟩:=HT.out.cells;have hq:=fun wx=>zks f t wx;have hg:=fun op x y wx=>ze0 op x y f t wx;unfold Sty.val at hq hg;by_cases heq:f=t
 ·have HE:=Qh (show zdS f t=[] by unfold zdS;rw[heq,if_pos ⟨rfl,rfl,rfl⟩]);have B3:=(Sty.eqb_iff f t).2 heq;clear heq;go_wp2_with fail;refine Ze rfl rfl rfl ⟨_,rfl,?_⟩;rw[HE.out];exact⟨rfl,by decide,by have:=HA.out;subst this;exact C⟩
 have HE:=Qh (show zdS f t=[27,91]++zaf false (zhi f t)++[109] by
  unfold zdS;rw[if_neg];rintro ⟨J,L,e3⟩;apply heq;obtain⟨a1,a2,a3⟩:=f;obtain⟨b1,b2,b3⟩:=t;dsimp only at J L e3;rw[J,L,e3])
 have B3:f.eqb t=false:=Bool.eq_false_iff.2 (fun e=>heq ((Sty.eqb_iff f t).1 e));clear heq;obtain⟨z,hz⟩:∃ z,z=ZD f.attr t.attr:=⟨_,rfl⟩;have Y3:bits BinOp.andNot IntKind.i64 f.attr t.attr=z:=hz.symm;have HZ:=Qh hz;clear hz;go_upto_if 27 with fail;clear hq hg B3 Y3
 go_cut [5] (fun lv wz=>Hid (zbv wz A (zep f t))∧Hid (zbv wz (A+1) t)∧Hid (Below A w wz)∧A+2≤wz.heap.size∧Hid (zp wz (A+2) 1 lv (if z≠0 then [(0:Int)] else []).length ((if z≠0 then [(0:Int)] else []).map (Value.int .i64))))
 case first =>
  by_cases hz0:z=0
  ·have H2:=Qh (show zep f t=f by unfold zep;rw[← HZ.out,if_neg (fun e=>e hz0)]);have S0:=Qh (show(if z≠0 then [(0:Int)] else [])=[] from if_neg (fun e=>e hz0));have J:(z != 0)=false:=(by rw[hz0];rfl);have L:(z == 0)=true:=(by rw[hz0];rfl);clear hz0;go_wp2_with fail;go_meet;rw[H2.out,S0.out];exact⟨HF,HT,C,J0,Qh (Zy _ _ _)⟩
  ·have H2:=Qh (show zep f t=plainS by unfold zep;rw[← HZ.out,if_pos hz0]);have S0:=Qh (show(if z≠0 then [(0:Int)] else [])=[0] from if_pos hz0);have L:(z == 0)=false:=Qb hz0;have J:(z != 0)=true:=(by unfold bne;rw[L];rfl);clear hz0;have O4:=Qh (zaj (Z6 (w:=w3) (e:=3) (n:=1) (size:=1) (base:=A+2) #[.int .i64 0] [.int .i64 0] rfl J0 (by decide) rfl rfl));have B4:=Qh ((Below.refl w3.heap.size w3).alloc (Nat.le_refl _) (.cells #[.int .i64 0] 3));go_wp2_with fail;refine(ZW _).mono ?_;rintro e w5 ⟨rfl,b5⟩;replace O4:=Qh (zk O4 b5);have B5:=Qh (B4.trans (b5.mono (by simp)));clear b5;have D3:=Qh (C.trans (B5.mono (by have:=J0.out;omega)));have G3:=Qh (show A+2≤w5.heap.size by have:=J0.out;have:=B5.out.size;omega);have X1:=HF.out.below B5 (by have:=J0.out;omega);have U2:=HT.out.below B5 (by have:=J0.out;omega);have F3:=run_storeVar_row (P:=prog) w5 A 49 49 _ #[.int .i64 (-1),.int .i64 (-1),.int .i64 0] X1 zdo rfl (by simp[Value.oneCell']);have J3:=Qh (show zbv (w5.setRow A #[.int .i64 (-1),.int .i64 (-1),.int .i64 0]) A plainS from Zz X1);have Z3:=Qh (zbA D3 (g:=A) (Nat.le_refl _) #[.int .i64 (-1),.int .i64 (-1),.int .i64 0]);have O3:=Qh (show zbv (w5.setRow A #[.int .i64 (-1),.int .i64 (-1),.int .i64 0]) (A+1) t by
    unfold zbv;rw[setRow_other _ _ _ _ (by omega)];exact U2)
   have U3:=Qh (show A+2≤(w5.setRow A #[.int .i64 (-1),.int .i64 (-1),.int .i64 0]).heap.size by rw[setRow_size];exact G3);have I3:=Qh (show zp (w5.setRow A #[.int .i64 (-1),.int .i64 (-1),.int .i64 0]) (A+2) 1 (.slice (some ⟨w3.heap.size,0,none⟩) 1 1) 1 [.int .i64 0] from
    Zu O4 (by rw[setRow_size];exact Nat.le_refl _) (fun k hk=>setRow_other _ _ _ _ (by have:=(zg O4 k hk).1;omega)))
   unfold Sty.val plainS;clear X1 U2 f0 f1 f2 t0 t1 t2;generalize w5.setRow A #[.int .i64 (-1),.int .i64 (-1),.int .i64 0]=w6 at *;go_wp2_with (refine zF rfl _ _ _ rfl F3 rfl rfl ?_);go_meet;rw[H2.out,S0.out];exact⟨J3,O3,Z3,U3,I3⟩
 case rest =>
 clear f0 f1 f2 t0 t1 t2 HF HT C J0;obtain⟨HF,HT,X2,H0,A0⟩:=hcut;obtain⟨wz,rfl⟩:∃ wz,wz=wc:=⟨wc,rfl⟩;have R:=Qh H0;clear H0;obtain⟨F,hF⟩:∃ F,F=zep f t:=⟨_,rfl⟩;rw[← hF]at HF;obtain⟨L0,E1⟩:∃ L0:List Int,L0=if z≠0 then [(0:Int)] else []:=⟨_,rfl⟩
 rw[← E1]at A0;have S0:=Qh (show L0.length≤1 by rw[E1];split <;> simp);have HP:=Qh (show zhi f t=L0++zea (ZD t.attr F.attr) 8++(if t.fg≠F.fg then zan t.fg 0 else [])++(if t.bg≠F.bg then zan t.bg 10 else []) by rw[E1,HZ.out,hF];rfl);clear hF E1 HZ;obtain⟨y,hy⟩:∃ y,y=ZD t.attr F.attr:=⟨_,rfl⟩;rw[← hy]at HP;have E3:bits BinOp.andNot IntKind.i64 t.attr F.attr=y:=hy.symm;clear hy;go_wp2_with fail
 go_loopw [5,31] (fun lv iv wr=>∃ (i:Nat) (ov:Value),ov=lv∧i≤8∧iv=.int .i64 i∧Hid (Below (A+2) wz wr)∧Hid (zp wr (A+2) 1 ov (L0++zea y i).length ((L0++zea y i).map (Value.int .i64)))) (fun _ iv _=>8-(intOf iv).toNat)
 case atStart=>exact⟨0,_,rfl,by omega,rfl,Qh (Below.refl _ _),Qh (by rw[show L0++zea y 0=L0 from List.append_nil _];exact A0)⟩
 case round =>
  obtain⟨k,ov,rfl,hk,rfl,HB,HO⟩:=hrel;obtain⟨wi,rfl⟩:∃ wi,wi=wr:=⟨wr,rfl⟩;have N:=Qh (HF.below HB (by omega));have M:=Qh (HT.below HB (by omega));have E:=Qh (show(L0++zea y k).length≤9 by rw[List.length_append];have:=S0.out;have:=zmS y k;omega);obtain rfl | rfl | rfl | rfl | rfl | rfl | rfl | rfl | rfl:k=0∨k=1∨k=2∨k=3∨k=4∨k=5∨k=6∨k=7∨k=8:=by omega
  ·have O:∀ wx,(Instr.index 196 (.agg #[.int .i64 1,.int .i64 2,.int .i64 3,.int .i64 4,.int .i64 5,.int .i64 7,.int .i64 8,.int .i64 9]) (.int .i64 0)).run prog wx=.ok (.int .i64 1) wx:=fun wx=>ix8 0 (by decide) wx;have Y:IntKind.i64.wrap 1=1:=zd _ (by decide) (by decide);obtain⟨f0,f1,f2⟩:=N.out.cells;obtain⟨t0,t1,t2⟩:=M.out.cells;have H:=Qh (zct y 0 1 1 rfl (by decide));have G:=Qh (zbM y 0 1 1 rfl (by decide));obtain⟨u,V⟩:∃ u,u=bits BinOp.and IntKind.i64 y 1:=⟨_,rfl⟩;have N0:bits BinOp.and IntKind.i64 y 1=u:=V.symm;rw[← V]at H G;clear V;go_upto_region 13 with fail;go_quiet (fail);clear O Y f0 f1 f2 t0 t1 t2;have I:=Qh (zm (Below.refl wi.heap.size wi) nq);have C:=Qh (HB.trans (I.mono (by have:=HB.out.size;have:=R.out;omega)));have D:=Qh (zk HO I);generalize wi.drewN nq=wn at *;by_cases hu0:u=0
   ·have J:(u == 0)=true:=beq_iff_eq.2 hu0;have L:(u != 0)=false:=(by unfold bne;rw[J];rfl);have T:=Qh (H L);clear hu0;go_wp2_with fail;go_roundw
    case rel=>exact⟨1,_,rfl,by decide,by go_num,C,Qh (by rw[T.out];exact D)⟩
    case measure=>simp[intOf]
   ·have J:(u == 0)=false:=Qb hu0;have L:(u != 0)=true:=(by unfold bne;rw[J];rfl);have T:=Qh (G L);clear hu0;go_wp2_with (at_builtin;refine zaQ ?_);unfold zaP;refine zS zar rfl rfl (A+2) (zG D _) rfl (Zi _ _ _) rfl (zaw _ _) (by have:=E.out;unfold maxLen;omega) (by have:=E.out;omega) (by have:=C.out.size;have:=R.out;simp;omega) ?_;intro D0 w6 Z U n6;have B6:=Qh ((C.alloc (by have:=C.out.size;have:=R.out;omega) (.cells #[.int .i64 1] 3)).grown U (by have:=C.out.size;have:=R.out;simp;omega) (fun q hq=>(zg D q hq).1));have O6:=Qh Z;clear Z U n6;go_wp2_with fail;go_roundw
    case rel=>exact⟨1,_,rfl,by decide,by go_num,B6,Qh (by rw[T.out,← List.append_assoc,List.length_append,List.map_append];exact O6)⟩
    case measure=>simp[intOf]
  ·have O:∀ wx,(Instr.index 196 (.agg #[.int .i64 1,.int .i64 2,.int .i64 3,.int .i64 4,.int .i64 5,.int .i64 7,.int .i64 8,.int .i64 9]) (.int .i64 1)).run prog wx=.ok (.int .i64 2) wx:=fun wx=>ix8 1 (by decide) wx;have Y:IntKind.i64.wrap 2=2:=zd _ (by decide) (by decide);obtain⟨f0,f1,f2⟩:=N.out.cells;obtain⟨t0,t1,t2⟩:=M.out.cells;have H:=Qh (zct y 1 2 2 rfl (by decide));have G:=Qh (zbM y 1 2 2 rfl (by decide));obtain⟨u,V⟩:∃ u,u=bits BinOp.and IntKind.i64 y 2:=⟨_,rfl⟩;have N0:bits BinOp.and IntKind.i64 y 2=u:=V.symm;rw[← V]at H G;clear V;go_upto_region 13 with fail;go_quiet (fail);clear O Y f0 f1 f2 t0 t1 t2;have I:=Qh (zm (Below.refl wi.heap.size wi) nq);have C:=Qh (HB.trans (I.mono (by have:=HB.out.size;have:=R.out;omega)));have D:=Qh (zk HO I);generalize wi.drewN nq=wn at *;by_cases hu0:u=0
   ·have J:(u == 0)=true:=beq_iff_eq.2 hu0;have L:(u != 0)=false:=(by unfold bne;rw[J];rfl);have T:=Qh (H L);clear hu0;go_wp2_with fail;go_roundw
    case rel=>exact⟨2,_,rfl,by decide,by go_num,C,Qh (by rw[T.out];exact D)⟩
    case measure=>simp[intOf]
   ·have J:(u == 0)=false:=Qb hu0;have L:(u != 0)=true:=(by unfold bne;rw[J];rfl);have T:=Qh (G L);clear hu0;go_wp2_with (at_builtin;refine zaQ ?_);unfold zaP;refine zS zar rfl rfl (A+2) (zG D _) rfl (Zi _ _ _) rfl (zaw _ _) (by have:=E.out;unfold maxLen;omega) (by have:=E.out;omega) (by have:=C.out.size;have:=R.out;simp;omega) ?_;intro D0 w6 Z U n6;have B6:=Qh ((C.alloc (by have:=C.out.size;have:=R.out;omega) (.cells #[.int .i64 2] 3)).grown U (by have:=C.out.size;have:=R.out;simp;omega) (fun q hq=>(zg D q hq).1));have O6:=Qh Z;clear Z U n6;go_wp2_with fail;go_roundw
    case rel=>exact⟨2,_,rfl,by decide,by go_num,B6,Qh (by rw[T.out,← List.append_assoc,List.length_append,List.map_append];exact O6)⟩
    case measure=>simp[intOf]
  ·have O:∀ wx,(Instr.index 196 (.agg #[.int .i64 1,.int .i64 2,.int .i64 3,.int .i64 4,.int .i64 5,.int .i64 7,.int .i64 8,.int .i64 9]) (.int .i64 2)).run prog wx=.ok (.int .i64 3) wx:=fun wx=>ix8 2 (by decide) wx;have Y:IntKind.i64.wrap 4=4:=zd _ (by decide) (by decide);obtain⟨f0,f1,f2⟩:=N.out.cells;obtain⟨t0,t1,t2⟩:=M.out.cells;have H:=Qh (zct y 2 3 4 rfl (by decide));have G:=Qh (zbM y 2 3 4 rfl (by decide));obtain⟨u,V⟩:∃ u,u=bits BinOp.and IntKind.i64 y 4:=⟨_,rfl⟩;have N0:bits BinOp.and IntKind.i64 y 4=u:=V.symm;rw[← V]at H G;clear V;go_upto_region 13 with fail;go_quiet (fail);clear O Y f0 f1 f2 t0 t1 t2;have I:=Qh (zm (Below.refl wi.heap.size wi) nq);have C:=Qh (HB.trans (I.mono (by have:=HB.out.size;have:=R.out;omega)));have D:=Qh (zk HO I);generalize wi.drewN nq=wn at *;by_cases hu0:u=0
   ·have J:(u == 0)=true:=beq_iff_eq.2 hu0;have L:(u != 0)=false:=(by unfold bne;rw[J];rfl);have T:=Qh (H L);clear hu0;go_wp2_with fail;go_roundw
    case rel=>exact⟨3,_,rfl,by decide,by go_num,C,Qh (by rw[T.out];exact D)⟩
    case measure=>simp[intOf]
   ·have J:(u == 0)=false:=Qb hu0;have L:(u != 0)=true:=(by unfold bne;rw[J];rfl);have T:=Qh (G L);clear hu0;go_wp2_with (at_builtin;refine zaQ ?_);unfold zaP;refine zS zar rfl rfl (A+2) (zG D _) rfl (Zi _ _ _) rfl (zaw _ _) (by have:=E.out;unfold maxLen;omega) (by have:=E.out;omega) (by have:=C.out.size;have:=R.out;simp;omega) ?_;intro D0 w6 Z U n6;have B6:=Qh ((C.alloc (by have:=C.out.size;have:=R.out;omega) (.cells #[.int .i64 3] 3)).grown U (by have:=C.out.size;have:=R.out;simp;omega) (fun q hq=>(zg D q hq).1));have O6:=Qh Z;clear Z U n6;go_wp2_with fail;go_roundw
    case rel=>exact⟨3,_,rfl,by decide,by go_num,B6,Qh (by rw[T.out,← List.append_assoc,List.length_append,List.map_append];exact O6)⟩
    case measure=>simp[intOf]
  ·have O:∀ wx,(Instr.index 196 (.agg #[.int .i64 1,.int .i64 2,.int .i64 3,.int .i64 4,.int .i64 5,.int .i64 7,.int .i64 8,.int .i64 9]) (.int .i64 3)).run prog wx=.ok (.int .i64 4) wx:=fun wx=>ix8 3 (by decide) wx;have Y:IntKind.i64.wrap 8=8:=zd _ (by decide) (by decide);obtain⟨f0,f1,f2⟩:=N.out.cells;obtain⟨t0,t1,t2⟩:=M.out.cells;have H:=Qh (zct y 3 4 8 rfl (by decide));have G:=Qh (zbM y 3 4 8 rfl (by decide));obtain⟨u,V⟩:∃ u,u=bits BinOp.and IntKind.i64 y 8:=⟨_,rfl⟩;have N0:bits BinOp.and IntKind.i64 y 8=u:=V.symm;rw[← V]at H G;clear V;go_upto_region 13 with fail;go_quiet (fail);clear O Y f0 f1 f2 t0 t1 t2;have I:=Qh (zm (Below.refl wi.heap.size wi) nq);have C:=Qh (HB.trans (I.mono (by have:=HB.out.size;have:=R.out;omega)));have D:=Qh (zk HO I);generalize wi.drewN nq=wn at *;by_cases hu0:u=0
   ·have J:(u == 0)=true:=beq_iff_eq.2 hu0;have L:(u != 0)=false:=(by unfold bne;rw[J];rfl);have T:=Qh (H L);clear hu0;go_wp2_with fail;go_roundw
    case rel=>exact⟨4,_,rfl,by decide,by go_num,C,Qh (by rw[T.out];exact D)⟩
    case measure=>simp[intOf]
   ·have J:(u == 0)=false:=Qb hu0;have L:(u != 0)=true:=(by unfold bne;rw[J];rfl);have T:=Qh (G L);clear hu0;go_wp2_with (at_builtin;refine zaQ ?_);unfold zaP;refine zS zar rfl rfl (A+2) (zG D _) rfl (Zi _ _ _) rfl (zaw _ _) (by have:=E.out;unfold maxLen;omega) (by have:=E.out;omega) (by have:=C.out.size;have:=R.out;simp;omega) ?_;intro D0 w6 Z U n6;have B6:=Qh ((C.alloc (by have:=C.out.size;have:=R.out;omega) (.cells #[.int .i64 4] 3)).grown U (by have:=C.out.size;have:=R.out;simp;omega) (fun q hq=>(zg D q hq).1));have O6:=Qh Z;clear Z U n6;go_wp2_with fail;go_roundw
    case rel=>exact⟨4,_,rfl,by decide,by go_num,B6,Qh (by rw[T.out,← List.append_assoc,List.length_append,List.map_append];exact O6)⟩
    case measure=>simp[intOf]
  ·have O:∀ wx,(Instr.index 196 (.agg #[.int .i64 1,.int .i64 2,.int .i64 3,.int .i64 4,.int .i64 5,.int .i64 7,.int .i64 8,.int .i64 9]) (.int .i64 4)).run prog wx=.ok (.int .i64 5) wx:=fun wx=>ix8 4 (by decide) wx;have Y:IntKind.i64.wrap 16=16:=zd _ (by decide) (by decide);obtain⟨f0,f1,f2⟩:=N.out.cells;obtain⟨t0,t1,t2⟩:=M.out.cells;have H:=Qh (zct y 4 5 16 rfl (by decide));have G:=Qh (zbM y 4 5 16 rfl (by decide));obtain⟨u,V⟩:∃ u,u=bits BinOp.and IntKind.i64 y 16:=⟨_,rfl⟩;have N0:bits BinOp.and IntKind.i64 y 16=u:=V.symm;rw[← V]at H G;clear V;go_upto_region 13 with fail;go_quiet (fail);clear O Y f0 f1 f2 t0 t1 t2;have I:=Qh (zm (Below.refl wi.heap.size wi) nq);have C:=Qh (HB.trans (I.mono (by have:=HB.out.size;have:=R.out;omega)));have D:=Qh (zk HO I);generalize wi.drewN nq=wn at *;by_cases hu0:u=0
   ·have J:(u == 0)=true:=beq_iff_eq.2 hu0;have L:(u != 0)=false:=(by unfold bne;rw[J];rfl);have T:=Qh (H L);clear hu0;go_wp2_with fail;go_roundw
    case rel=>exact⟨5,_,rfl,by decide,by go_num,C,Qh (by rw[T.out];exact D)⟩
    case measure=>simp[intOf]
   ·have J:(u == 0)=false:=Qb hu0;have L:(u != 0)=true:=(by unfold bne;rw[J];rfl);have T:=Qh (G L);clear hu0;go_wp2_with (at_builtin;refine zaQ ?_);unfold zaP;refine zS zar rfl rfl (A+2) (zG D _) rfl (Zi _ _ _) rfl (zaw _ _) (by have:=E.out;unfold maxLen;omega) (by have:=E.out;omega) (by have:=C.out.size;have:=R.out;simp;omega) ?_;intro D0 w6 Z U n6;have B6:=Qh ((C.alloc (by have:=C.out.size;have:=R.out;omega) (.cells #[.int .i64 5] 3)).grown U (by have:=C.out.size;have:=R.out;simp;omega) (fun q hq=>(zg D q hq).1));have O6:=Qh Z;clear Z U n6;go_wp2_with fail;go_roundw
    case rel=>exact⟨5,_,rfl,by decide,by go_num,B6,Qh (by rw[T.out,← List.append_assoc,List.length_append,List.map_append];exact O6)⟩
    case measure=>simp[intOf]
  ·have O:∀ wx,(Instr.index 196 (.agg #[.int .i64 1,.int .i64 2,.int .i64 3,.int .i64 4,.int .i64 5,.int .i64 7,.int .i64 8,.int .i64 9]) (.int .i64 5)).run prog wx=.ok (.int .i64 7) wx:=fun wx=>ix8 5 (by decide) wx;have Y:IntKind.i64.wrap 32=32:=zd _ (by decide) (by decide);obtain⟨f0,f1,f2⟩:=N.out.cells;obtain⟨t0,t1,t2⟩:=M.out.cells;have H:=Qh (zct y 5 7 32 rfl (by decide));have G:=Qh (zbM y 5 7 32 rfl (by decide));obtain⟨u,V⟩:∃ u,u=bits BinOp.and IntKind.i64 y 32:=⟨_,rfl⟩;have N0:bits BinOp.and IntKind.i64 y 32=u:=V.symm;rw[← V]at H G;clear V;go_upto_region 13 with fail;go_quiet (fail);clear O Y f0 f1 f2 t0 t1 t2;have I:=Qh (zm (Below.refl wi.heap.size wi) nq);have C:=Qh (HB.trans (I.mono (by have:=HB.out.size;have:=R.out;omega)));have D:=Qh (zk HO I);generalize wi.drewN nq=wn at *;by_cases hu0:u=0
   ·have J:(u == 0)=true:=beq_iff_eq.2 hu0;have L:(u != 0)=false:=(by unfold bne;rw[J];rfl);have T:=Qh (H L);clear hu0;go_wp2_with fail;go_roundw
    case rel=>exact⟨6,_,rfl,by decide,by go_num,C,Qh (by rw[T.out];exact D)⟩
    case measure=>simp[intOf]
   ·have J:(u == 0)=false:=Qb hu0;have L:(u != 0)=true:=(by unfold bne;rw[J];rfl);have T:=Qh (G L);clear hu0;go_wp2_with (at_builtin;refine zaQ ?_);unfold zaP;refine zS zar rfl rfl (A+2) (zG D _) rfl (Zi _ _ _) rfl (zaw _ _) (by have:=E.out;unfold maxLen;omega) (by have:=E.out;omega) (by have:=C.out.size;have:=R.out;simp;omega) ?_;intro D0 w6 Z U n6;have B6:=Qh ((C.alloc (by have:=C.out.size;have:=R.out;omega) (.cells #[.int .i64 7] 3)).grown U (by have:=C.out.size;have:=R.out;simp;omega) (fun q hq=>(zg D q hq).1));have O6:=Qh Z;clear Z U n6;go_wp2_with fail;go_roundw
    case rel=>exact⟨6,_,rfl,by decide,by go_num,B6,Qh (by rw[T.out,← List.append_assoc,List.length_append,List.map_append];exact O6)⟩
    case measure=>simp[intOf]
  ·have O:∀ wx,(Instr.index 196 (.agg #[.int .i64 1,.int .i64 2,.int .i64 3,.int .i64 4,.int .i64 5,.int .i64 7,.int .i64 8,.int .i64 9]) (.int .i64 6)).run prog wx=.ok (.int .i64 8) wx:=fun wx=>ix8 6 (by decide) wx;have Y:IntKind.i64.wrap 64=64:=zd _ (by decide) (by decide);obtain⟨f0,f1,f2⟩:=N.out.cells;obtain⟨t0,t1,t2⟩:=M.out.cells;have H:=Qh (zct y 6 8 64 rfl (by decide));have G:=Qh (zbM y 6 8 64 rfl (by decide));obtain⟨u,V⟩:∃ u,u=bits BinOp.and IntKind.i64 y 64:=⟨_,rfl⟩;have N0:bits BinOp.and IntKind.i64 y 64=u:=V.symm;rw[← V]at H G;clear V;go_upto_region 13 with fail;go_quiet (fail);clear O Y f0 f1 f2 t0 t1 t2;have I:=Qh (zm (Below.refl wi.heap.size wi) nq);have C:=Qh (HB.trans (I.mono (by have:=HB.out.size;have:=R.out;omega)));have D:=Qh (zk HO I);generalize wi.drewN nq=wn at *;by_cases hu0:u=0
   ·have J:(u == 0)=true:=beq_iff_eq.2 hu0;have L:(u != 0)=false:=(by unfold bne;rw[J];rfl);have T:=Qh (H L);clear hu0;go_wp2_with fail;go_roundw
    case rel=>exact⟨7,_,rfl,by decide,by go_num,C,Qh (by rw[T.out];exact D)⟩
    case measure=>simp[intOf]
   ·have J:(u == 0)=false:=Qb hu0;have L:(u != 0)=true:=(by unfold bne;rw[J];rfl);have T:=Qh (G L);clear hu0;go_wp2_with (at_builtin;refine zaQ ?_);unfold zaP;refine zS zar rfl rfl (A+2) (zG D _) rfl (Zi _ _ _) rfl (zaw _ _) (by have:=E.out;unfold maxLen;omega) (by have:=E.out;omega) (by have:=C.out.size;have:=R.out;simp;omega) ?_;intro D0 w6 Z U n6;have B6:=Qh ((C.alloc (by have:=C.out.size;have:=R.out;omega) (.cells #[.int .i64 8] 3)).grown U (by have:=C.out.size;have:=R.out;simp;omega) (fun q hq=>(zg D q hq).1));have O6:=Qh Z;clear Z U n6;go_wp2_with fail;go_roundw
    case rel=>exact⟨7,_,rfl,by decide,by go_num,B6,Qh (by rw[T.out,← List.append_assoc,List.length_append,List.map_append];exact O6)⟩
    case measure=>simp[intOf]
  ·have O:∀ wx,(Instr.index 196 (.agg #[.int .i64 1,.int .i64 2,.int .i64 3,.int .i64 4,.int .i64 5,.int .i64 7,.int .i64 8,.int .i64 9]) (.int .i64 7)).run prog wx=.ok (.int .i64 9) wx:=fun wx=>ix8 7 (by decide) wx;have Y:IntKind.i64.wrap 128=128:=zd _ (by decide) (by decide);obtain⟨f0,f1,f2⟩:=N.out.cells;obtain⟨t0,t1,t2⟩:=M.out.cells;have H:=Qh (zct y 7 9 128 rfl (by decide));have G:=Qh (zbM y 7 9 128 rfl (by decide));obtain⟨u,V⟩:∃ u,u=bits BinOp.and IntKind.i64 y 128:=⟨_,rfl⟩;have N0:bits BinOp.and IntKind.i64 y 128=u:=V.symm;rw[← V]at H G;clear V;go_upto_region 13 with fail;go_quiet (fail);clear O Y f0 f1 f2 t0 t1 t2;have I:=Qh (zm (Below.refl wi.heap.size wi) nq);have C:=Qh (HB.trans (I.mono (by have:=HB.out.size;have:=R.out;omega)));have D:=Qh (zk HO I);generalize wi.drewN nq=wn at *;by_cases hu0:u=0
   ·have J:(u == 0)=true:=beq_iff_eq.2 hu0;have L:(u != 0)=false:=(by unfold bne;rw[J];rfl);have T:=Qh (H L);clear hu0;go_wp2_with fail;go_roundw
    case rel=>exact⟨8,_,rfl,by decide,by go_num,C,Qh (by rw[T.out];exact D)⟩
    case measure=>simp[intOf]
   ·have J:(u == 0)=false:=Qb hu0;have L:(u != 0)=true:=(by unfold bne;rw[J];rfl);have T:=Qh (G L);clear hu0;go_wp2_with (at_builtin;refine zaQ ?_);unfold zaP;refine zS zar rfl rfl (A+2) (zG D _) rfl (Zi _ _ _) rfl (zaw _ _) (by have:=E.out;unfold maxLen;omega) (by have:=E.out;omega) (by have:=C.out.size;have:=R.out;simp;omega) ?_;intro D0 w6 Z U n6;have B6:=Qh ((C.alloc (by have:=C.out.size;have:=R.out;omega) (.cells #[.int .i64 9] 3)).grown U (by have:=C.out.size;have:=R.out;simp;omega) (fun q hq=>(zg D q hq).1));have O6:=Qh Z;clear Z U n6;go_wp2_with fail;go_roundw
    case rel=>exact⟨8,_,rfl,by decide,by go_num,B6,Qh (by rw[T.out,← List.append_assoc,List.length_append,List.map_append];exact O6)⟩
    case measure=>simp[intOf]
  ·rw[show((8:Nat):Int)=8 from rfl];have G0:=Qh (X2.trans (HB.mono (by omega)));have S:=Qh (show A+2≤wi.heap.size by have:=HB.out.size;have:=R.out;omega);obtain⟨L1,V2⟩:∃ L1,L1=L0++zea y 8:=⟨_,rfl⟩;rw[← V2]at HO HP E;clear V2 HF HT X2 R E3 A0 S0;obtain⟨f0,f1,f2⟩:=N.out.cells;obtain⟨t0,t1,t2⟩:=M.out.cells;go_upto_if 53 with fail;clear f0 f1 f2 t0 t1 t2
   go_cut [5] (fun lv wz=>Hid (zbv wz A F)∧Hid (zbv wz (A+1) t)∧Hid (Below A w wz)∧A+2≤wz.heap.size∧Hid (zp wz (A+2) 1 lv (L1++(if t.fg≠F.fg then zan t.fg 0 else [])).length ((L1++(if t.fg≠F.fg then zan t.fg 0 else [])).map (Value.int .i64))))
   case first =>
    by_cases hc:t.fg=F.fg
    ·have HL:=Qh (show L1++(if t.fg≠F.fg then zan t.fg 0 else [])=L1 by rw[if_neg (fun e=>e hc),List.append_nil]);have J:(t.fg == F.fg)=true:=beq_iff_eq.2 hc;have L:(t.fg != F.fg)=false:=(by unfold bne;rw[J];rfl);clear hc;go_wp2_with fail;go_meet;rw[HL.out];exact⟨N,M,G0,S,HO⟩
    ·have HL:=Qh (show L1++(if t.fg≠F.fg then zan t.fg 0 else [])=L1++zan t.fg 0 by rw[if_pos hc]);have J:(t.fg == F.fg)=false:=Qb hc;have L:(t.fg != F.fg)=true:=(by unfold bne;rw[J];rfl);clear hc;obtain⟨t0,t1,t2⟩:=M.out.cells;go_wp2_with fail;refine(zfi t.fg 0 _ Y1.1 (by omega)).mono ?_;rintro e w4 ⟨nv,rfl,b4,U0⟩;have O0:=Qh (zk HO b4);have J1:=Qh (G0.trans (b4.mono (by have:=S.out;omega)));have C0:=Qh (show A+2≤w4.heap.size by have:=S.out;have:=b4.size;omega);have N1:=Qh (N.below b4 (by have:=S.out;omega));have O1:=Qh (M.below b4 (by have:=S.out;omega));have M1:=zew t.fg 0;have C2:=Qh U0;clear b4 U0 t0 t1 t2;go_wp2_with (at_builtin;refine zaQ ?_);unfold zaP;refine zS zar rfl rfl (A+2) O0 rfl C2 rfl (ints_oneCell _ _) (by have:=E.out;unfold maxLen;omega) (by have:=E.out;omega) C0 ?_;intro D0 w6 Z U n6;have B6:=Qh (J1.grown U (by have:=C0.out;omega) (fun q hq=>by have:=(zg O0 q hq).1;omega));have B0:=Zn (B:=A+2) U C0 (fun q hq=>(zg O0 q hq).1);have F6:=Qh (N1.below B0 (by omega));have T6:=Qh (O1.below B0 (by omega));have S6:=Qh (show A+2≤w6.heap.size by have:=C0.out;have:=B0.size;omega);have O6:=Qh Z;clear Z U n6 B0 M1;go_wp2_with fail;go_meet;rw[HL.out];exact⟨F6,T6,B6,S6,Qh (by rw[List.length_append,List.map_append];exact O6)⟩
   case rest =>
   clear N M G0 S HO;obtain⟨N,M,G0,H0,A0⟩:=hcut;have S:=Qh H0;clear H0;obtain⟨wa,rfl⟩:∃ wa,wa=wc:=⟨wc,rfl⟩;obtain⟨L2,hL⟩:∃ L2,L2=L1++(if t.fg≠F.fg then zan t.fg 0 else []):=⟨_,rfl⟩;rw[← hL]at A0 HP;replace E:=Qh (show L2.length≤14 by
    rw[hL,List.length_append];have h1:=E.out;have h2:=zew t.fg 0;have h3:(if t.fg≠F.fg then zan t.fg 0 else []).length≤5:=(by split <;> simp_all);omega)
   clear hL;have HO:=Qh A0;clear A0;obtain⟨f0,f1,f2⟩:=N.out.cells;obtain⟨t0,t1,t2⟩:=M.out.cells;go_upto_if 63 with fail;clear f0 f1 f2 t0 t1 t2
   go_cut [5] (fun lv wz=>Hid (zbv wz A F)∧Hid (zbv wz (A+1) t)∧Hid (Below A w wz)∧A+2≤wz.heap.size∧Hid (zp wz (A+2) 1 lv (L2++(if t.bg≠F.bg then zan t.bg 10 else [])).length ((L2++(if t.bg≠F.bg then zan t.bg 10 else [])).map (Value.int .i64))))
   case first =>
    by_cases hc:t.bg=F.bg
    ·have HL:=Qh (show L2++(if t.bg≠F.bg then zan t.bg 10 else [])=L2 by rw[if_neg (fun e=>e hc),List.append_nil]);have J:(t.bg == F.bg)=true:=beq_iff_eq.2 hc;have L:(t.bg != F.bg)=false:=(by unfold bne;rw[J];rfl);clear hc;go_wp2_with fail;go_meet;rw[HL.out];exact⟨N,M,G0,S,HO⟩
    ·have HL:=Qh (show L2++(if t.bg≠F.bg then zan t.bg 10 else [])=L2++zan t.bg 10 by rw[if_pos hc]);have J:(t.bg == F.bg)=false:=Qb hc;have L:(t.bg != F.bg)=true:=(by unfold bne;rw[J];rfl);clear hc;obtain⟨t0,t1,t2⟩:=M.out.cells;go_wp2_with fail;refine(zfi t.bg 10 _ Y1.2.1 (by omega)).mono ?_;rintro e w4 ⟨nv,rfl,b4,U0⟩;have O0:=Qh (zk HO b4);have J1:=Qh (G0.trans (b4.mono (by have:=S.out;omega)));have C0:=Qh (show A+2≤w4.heap.size by have:=S.out;have:=b4.size;omega);have N1:=Qh (N.below b4 (by have:=S.out;omega));have O1:=Qh (M.below b4 (by have:=S.out;omega));have M1:=zew t.bg 10;have C2:=Qh U0;clear b4 U0 t0 t1 t2;go_wp2_with (at_builtin;refine zaQ ?_);unfold zaP;refine zS zar rfl rfl (A+2) O0 rfl C2 rfl (ints_oneCell _ _) (by have:=E.out;unfold maxLen;omega) (by have:=E.out;omega) C0 ?_;intro D0 w6 Z U n6;have B6:=Qh (J1.grown U (by have:=C0.out;omega) (fun q hq=>by have:=(zg O0 q hq).1;omega));have B0:=Zn (B:=A+2) U C0 (fun q hq=>(zg O0 q hq).1);have F6:=Qh (N1.below B0 (by omega));have T6:=Qh (O1.below B0 (by omega));have S6:=Qh (show A+2≤w6.heap.size by have:=C0.out;have:=B0.size;omega);have O6:=Qh Z;clear Z U n6 B0 M1;go_wp2_with fail;go_meet;rw[HL.out];exact⟨F6,T6,B6,S6,Qh (by rw[List.length_append,List.map_append];exact O6)⟩
   case rest =>
   clear N M G0 S HO;obtain⟨N,M,G0,H0,A0⟩:=hcut;have S:=Qh H0;clear H0;obtain⟨wb,rfl⟩:∃ wb,wb=wc:=⟨wc,rfl⟩;obtain⟨L3,hL⟩:∃ L3,L3=L2++(if t.bg≠F.bg then zan t.bg 10 else []):=⟨_,rfl⟩;rw[← hL]at A0 HP;replace E:=Qh (show L3.length≤19 by
    rw[hL,List.length_append];have h1:=E.out;have h2:=zew t.bg 10;have h3:(if t.bg≠F.bg then zan t.bg 10 else []).length≤5:=(by split <;> simp_all);omega)
   clear hL;have HO:=Qh A0;clear A0;clear N M;have T2:=Qh (show ∀ x∈L3,0≤x∧x≤1000 by rw[← HP.out];exact zmU Z1);rw[HP.out]at HE;have C3:=Qh E;clear HP E S3 Y1 S2 Z1;have V1:=Qh (show L3.length≤19 from C3.out);obtain⟨Bb,F1⟩:∃ Bb,Bb=wb.heap.size:=⟨_,rfl⟩;have Y0:Lib.IsBuilderF 200 5 wb.heap.size wb.heap.size (Lib.byteCells (zaf false (L3.take 0))) (wb.alloc (.cells #[.pointer none,.slice none 0 0] 200)) :=
    Lib.IsBuilderF.of (.inl ⟨Nat.le_refl _,.slice none 0 0,zH _ _,World.ownsRow_nil _ _ _ _,by simp[Value.ownBlock]⟩)
   have F2:=Below.alloc (Below.refl wb.heap.size wb) (Nat.le_refl _) (.cells #[.pointer none,.slice none 0 0] 200);rw[← F1]at Y0 F2;have A4:=Qh Y0;have U1:=Qh F2;have D4:=Zf underlying22 HO;clear Y0 F2;go_upto_region 21 with fail;rw[← F1];have I1:=Qh (G0.trans (U1.mono (by have:=S.out;omega)));generalize wb.alloc (.cells #[.pointer none,.slice none 0 0] 200)=wd at *;have R3:=Qh (show Bb≤wb.heap.size by omega);have T3:=Qh (zk HO (by have:=U1.out;rw[F1]at this;exact this));have G1:=Qh (show A≤Bb by have:=S.out;omega);have X3:=Qh (show ∀ q,∀ v:Value,zp wb (A+2) 1 v L3.length (L3.map (Value.int .i64))→v.ownBlock=some q→q<Bb from fun q v h e=>by have:=(zg h q e).2;omega);clear F1;go_wp2_with fail
   go_loopw [71] (fun iv wr=>∃ (k:Nat),k≤L3.length∧iv=.int .i64 k∧Hid (Below Bb wd wr)∧Hid (Lib.IsBuilderF 200 5 Bb Bb (Lib.byteCells (zaf false (L3.take k))) wr)) (fun iv _=>L3.length-(intOf iv).toNat)
   case atStart=>exact⟨0,Nat.zero_le _,rfl,Qh (Below.refl _ _),A4⟩
   case round =>
    obtain⟨k,hk,rfl,F0,R0⟩:=hrel;have I0:=Qh (show Bb≤wr.heap.size by have:=F0.out.size;have:=U1.out.size;have:=R3.out;omega);have Z0:=Qh (show(zaf false (L3.take k)).length≤500 by
     have h1:=ziw (L3.take k) false (fun x hx=>T2 x (List.mem_of_mem_take hx));have h2:(L3.take k).length≤L3.length:=List.length_take_le' _ _;have:=V1.out;omega)
    by_cases hlt:k<L3.length
    ·have d1:decide ((k:Int)<(L3.length:Int))=true:=Qt (by omega);have N3:decide (k<L3.length)=true:=Qt hlt;have C4:IntKind.i64.wrap ((k:Int)+1)=(k:Int)+1:=zd _ (by have:=V1.out;omega) (by have:=V1.out;omega);have G2:=Qh (Zu T3 (by have:=F0.out.size;omega) (fun q hq=>F0.block q (X3 q _ HO hq)));obtain⟨lb,lo,lc,J,_,_⟩:=zE G2 (by omega);subst J;have p0:wr.cell? ⟨lb,lo+k,none⟩=some (.int .i64 (L3.getD k 0)):=by
      rw[(zae G2.out k (by omega)).1,List.getElem?_map,zeg L3 k hlt];rfl
     have O:=Zw (P:=prog) (size:=1) underlying22 (by kernel_rfl) lb lo L3.length lc k hlt;rw[Nat.mul_one]at O;have V0:=Qh (T2 _ (ziB L3 k hlt));have Z2:=Qh (show zaf false (L3.take (k+1))=zaf false (L3.take k)++zis (false || !(L3.take k).isEmpty) (L3.getD k 0) by rw[ZJ L3 0 k hlt,zgb]);generalize L3.getD k 0=x at *;have A3:=Qh (show ∀ b,zis b x=(if b then [59] else [])++Lib.itoa x from fun b=>by unfold zis;rw[if_pos V0.out.1]);have H1:=Qh (I1.trans (F0.mono G1));clear G2;by_cases hk0:k=0
     ·have d2:decide ((0:Int)<(k:Int))=false:=Qf (by omega);have V3:decide (0<k)=false:=Qf (by omega);have E0:=Qh (show zaf false (L3.take (k+1))=zaf false (L3.take k)++Lib.itoa x by rw[Z2.out,A3.out,hk0];rfl);clear hk0;go_wp2_with fail;refine(zaI x (by have:=V0.out;omega) (by have:=V0.out;omega) _ (N2.below (by rw[← HA.out];exact H1))).mono ?_;rintro e w6 ⟨str,rfl,es,hs,b6⟩;have X0:=Qh (zgd R0 b6);have D1:=Qh (F0.trans (b6.mono I0));have B1:=Qh (Nat.le_trans I0 b6.size);have B2:=Qh es;clear b6 es;go_wp2_with fail;refine(zdl Bb Bb _ str w6 X0 (by rw[Lib.byteCells_length];have:=Z0.out;omega) B1).mono ?_;rintro e w7 ⟨rfl,M0,b7⟩;have A1:=Qh (show Lib.IsBuilderF 200 5 Bb Bb (Lib.byteCells (zaf false (L3.take (k+1)))) w7 from by
       rw[E0.out];have e:Lib.strCells str=Lib.byteCells (Lib.itoa x):=(by unfold Lib.strCells Lib.byteCells;rw[B2.out]);rw[e]at M0;rw[zba];exact M0)
      have C1:=Qh (D1.trans b7);clear M0 b7;go_wp2_with fail;go_roundw
      case rel=>exact⟨k+1,by omega,by go_num,C1,A1⟩
      case measure=>simp[intOf];omega
     ·have d2:decide ((0:Int)<(k:Int))=true:=Qt (by omega);have V3:decide (0<k)=true:=Qt (by omega);have E0:=Qh (show zaf false (L3.take (k+1))=zaf false (L3.take k)++[59]++Lib.itoa x by
       rw[Z2.out,A3.out,List.append_assoc];have:(L3.take k).isEmpty=false:=by
        rw[List.isEmpty_eq_false_iff];intro e;have L:=congrArg List.length e;rw[List.length_take,List.length_nil]at L;omega
       rw[this];rfl)
      clear hk0;go_wp2_with fail;refine(zgz Bb Bb _ 59 wr R0 (by rw[Lib.byteCells_length];have:=Z0.out;omega) I0).mono ?_;rintro e w4 ⟨rfl,R2,b4⟩;replace R0:=Qh R2;replace F0:=Qh (F0.trans b4);replace H1:=Qh (H1.trans (b4.mono G1));replace I0:=Qh (Nat.le_trans I0 b4.size);clear R2 b4 p0 O;go_wp2_with fail;refine(zaI x (by have:=V0.out;omega) (by have:=V0.out;omega) _ (N2.below (by rw[← HA.out];exact H1))).mono ?_;rintro e w6 ⟨str,rfl,es,hs,b6⟩;have X0:=Qh (zgd R0 b6);have D1:=Qh (F0.trans (b6.mono I0));have B1:=Qh (Nat.le_trans I0 b6.size);have B2:=Qh es;clear b6 es;go_wp2_with fail;refine(zdl Bb Bb _ str w6 X0 (by rw[List.length_append,Lib.byteCells_length];show _+1+_≤_;have:=Z0.out;omega) B1).mono ?_;rintro e w7 ⟨rfl,M0,b7⟩;have A1:=Qh (show Lib.IsBuilderF 200 5 Bb Bb (Lib.byteCells (zaf false (L3.take (k+1)))) w7 from by
       rw[E0.out];have e:Lib.strCells str=Lib.byteCells (Lib.itoa x):=(by unfold Lib.strCells Lib.byteCells;rw[B2.out]);rw[e]at M0;rw[zba,zba];exact M0)
      have C1:=Qh (D1.trans b7);clear M0 b7;go_wp2_with fail;go_roundw
      case rel=>exact⟨k+1,by omega,by go_num,C1,A1⟩
      case measure=>simp[intOf];omega
    ·have O2:=Qh (show L3.take k=L3 from List.take_of_length_le (by omega));have d1:decide ((k:Int)<(L3.length:Int))=false:=Qf (by omega);have N3:decide (k<L3.length)=false:=Qf hlt;rw[O2.out]at R0 Z0;clear hlt O2;go_wp2_with fail;refine(Tryz.Builder_String_any_f Bb Bb _ wr R0 I0).mono ?_;rintro e w5 ⟨rfl,_,b5⟩;have H3:=Qh ((I1.trans (F0.mono G1)).trans (b5.mono G1));obtain⟨X,hX⟩:∃ X:ByteArray,X=⟨(zaf false L3).toArray⟩:=⟨_,rfl⟩;rw[← hX];have E4:X.size≤500:=by
      rw[hX];have:=Z0.out;show(zaf false L3).toArray.size≤500;rw[List.size_toArray];exact this
     have M3:=Qh (show X.data.toList=zaf false L3 by rw[hX]);clear hX b5;go_wp2_with fail;refine Ze rfl rfl rfl ⟨_,rfl,?_,?_,by have:=HA.out;subst this;exact H3⟩
     ·rw[HE.out,Zx,Zx,M3.out]
     ·rw[ByteArray.size_append,ByteArray.size_append];show 2+X.size+1≤1000;omega
end
end Go.Proofs.YthehkmopdeebmaaGreatDoor
