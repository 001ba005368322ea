/- Part. -/
import Derived.Test.YthehkmopdeebmaaGreatDoorY12
set_option linter.unusedVariables false
set_option linter.unusedSimpArgs false
set_option maxRecDepth 100000
set_option maxHeartbeats 4000000
namespace Go.Proofs.YthehkmopdeebmaaGreatDoor
open _root_.Go.Proofs.Tryz
section
open Go.RowKit
def zdi (g:Gr) (x n:Int):Nat:=(min n ((g.cols:Int)-x)).toNat
def Gr.rowOp (g:Gr) (f:List Cel→Nat→Nat→Sty→List Cel) (x y n:Int) (s:Sty):Gr :=
 if g.onIt x y s=true∧0<n then g.turn y.toNat (fun l=>f l x.toNat (zdi g x n) s) else g
def Gr.erase (g:Gr) (x y n:Int) (s:Sty):Gr:=g.rowOp zbF x y n s
def Gr.ins (g:Gr) (x y n:Int) (s:Sty):Gr:=g.rowOp zdT x y n s
def Gr.del (g:Gr) (x y n:Int) (s:Sty):Gr:=g.rowOp zdU x y n s
theorem zkN {l:List Cel} {x n:Nat} {s:Sty} (h:∀ c∈l,c.Ok):∀ c∈zbF l x n s,c.Ok:=ziE (zb2 (zb2 h))
theorem zny {l:List Cel} {x n:Nat} {s:Sty} (h:∀ c∈l,c.Ok):∀ c∈zdT l x n s,c.Ok:=fun c hc=>by
 have hm:=zb2 (x:=((l.length-n:Nat):Int)) (zb2 (x:=(x:Int)) h);unfold zdT at hc;rcases List.mem_append.1 hc with hc | hc
 ·rcases List.mem_append.1 hc with hc | hc
  ·exact hm c (List.mem_of_mem_take hc)
  ·rw[List.eq_of_mem_replicate hc];exact zaV s
 ·exact hm c (List.mem_of_mem_drop (List.mem_of_mem_take hc))
theorem znz {l:List Cel} {x n:Nat} {s:Sty} (h:∀ c∈l,c.Ok):∀ c∈zdU l x n s,c.Ok:=fun c hc=>by
 have hm:=zb2 (x:=((x+n:Nat):Int)) (zb2 (x:=(x:Int)) h);unfold zdU at hc;rcases List.mem_append.1 hc with hc | hc
 ·rcases List.mem_append.1 hc with hc | hc
  ·exact hm c (List.mem_of_mem_take hc)
  ·exact hm c (List.mem_of_mem_drop hc)
 ·rw[List.eq_of_mem_replicate hc];exact zaV s
theorem zoF (l:List Cel) (x n:Nat) (s:Sty) (h:x+n≤l.length) :
  zat (Za (zB (zB l x) ((l.length-n:Nat):Int)) (x+n) (((zB (zB l x) ((l.length-n:Nat):Int)).drop x).take (l.length-x-n))) x n s=zdT l x n s:=by
 unfold zdT;have C:(zB (zB l x) ((l.length-n:Nat):Int)).length=l.length:=(by rw[zN,zN]);generalize zB (zB l x) ((l.length-n:Nat):Int)=m at *;rw[← C]at h ⊢;have B:((m.drop x).take (m.length-x-n)).length=m.length-x-n:=(by rw[List.length_take,List.length_drop];omega);unfold zat Za;rw[List.length_replicate,B,show x+n+(m.length-x-n)=m.length by omega,List.drop_length,List.append_nil];have A:(m.take (x+n)).length=x+n:=(by rw[List.length_take];omega);rw[List.take_append_of_le_length (by omega),List.take_take,Nat.min_eq_left (by omega),List.drop_left' A,show m.length-n-x=m.length-x-n by omega]
theorem zoG (l:List Cel) (x n:Nat) (s:Sty) (h:x+n≤l.length) :
  zat (Za (zB (zB l x) ((x+n:Nat):Int)) x ((zB (zB l x) ((x+n:Nat):Int)).drop (x+n))) (l.length-n) n s=zdU l x n s:=by
 unfold zdU;have C:(zB (zB l x) ((x+n:Nat):Int)).length=l.length:=(by rw[zN,zN]);generalize zB (zB l x) ((x+n:Nat):Int)=m at *;rw[← C]at h ⊢;have A:(m.drop (x+n)).length=m.length-(x+n):=List.length_drop;have F:(m.take x).length=x:=(by rw[List.length_take];omega);have B:(m.take x++m.drop (x+n)).length=m.length-n:=(by rw[List.length_append,A,F];omega);unfold zat Za;rw[List.length_replicate,A,List.take_left' B,show m.length-n+n=m.length by omega];have D:(m.take x++m.drop (x+n)++m.drop (x+(m.length-(x+n)))).length=m.length:=by
  rw[List.length_append,B,List.length_drop];omega
 have E:(m.take x++m.drop (x+n)++m.drop (x+(m.length-(x+n)))).drop m.length=[]:=List.drop_of_length_le (by rw[D];exact Nat.le_refl _);rw[E,List.append_nil]
theorem zdF {g:Gr} {c r l:Nat} (f:List Cel→Nat→Nat→Sty→List Cel) (x y n:Int) (s:Sty) (h:Dim g c r l):Dim (g.rowOp f x y n s) c r l:=by
 unfold Gr.rowOp;split
 ·refine⟨h.1,?_,h.2.2⟩;show(g.rows.set _ _).length=r;rw[List.length_set];exact h.2.1
 ·exact h
theorem zdp {g:Gr} {x y:Int} {s:Sty} (h:g.onIt x y s=true):0≤y∧y<(g.rows.length:Int)∧0≤x∧x<(g.cols:Int)∧okS s=true:=by
 unfold Gr.onIt at h;simp only[Bool.and_eq_true,decide_eq_true_eq]at h;exact⟨h.1,h.2.1,h.2.2.1,h.2.2.2.1,h.2.2.2.2⟩
end
section
open Go.RowKit
def zhR (x y:Int):Int:=IntKind.i64.wrap ((BitVec.ofInt 64 x &&& BitVec.ofInt 64 y).toNat:Int)
def bOr (x y:Int):Int:=IntKind.i64.wrap ((BitVec.ofInt 64 x ||| BitVec.ofInt 64 y).toNat:Int)
def ZD (x y:Int):Int:=IntKind.i64.wrap ((BitVec.ofInt 64 x &&& ~~~ (BitVec.ofInt 64 y)).toNat:Int)
structure Sav where
 x:Int
 y:Int
 wait:Bool
 pen:Sty
 origin:Bool
 l0:Bool
 l1:Bool
 second:Int
def zbp:Sav:=⟨0,0,false,plainS,false,false,false,0⟩
structure Scr where
 now:Sav
 main:Gr
 other:Option Gr
 k0:Sav
 k1:Sav
 modes:Int
 top:Int
 bottom:Int
 tabs:List Bool
 title:List UInt8
 last:Int
 bells:Int
 out:List UInt8
def Scr.cols (s:Scr):Int:=s.main.cols
def Scr.rows (s:Scr):Int:=s.main.rows.length
def Scr.shown (s:Scr):Gr:=s.other.getD s.main
def Scr.turn (s:Scr) (f:Gr→Gr):Scr:=match s.other with
 | some g=>{ s with other:=some (f g) }
 | none=>{ s with main:=f s.main }
def Scr.has (s:Scr) (m:Int):Bool:=zhR s.modes m != 0
def Scr.mode (s:Scr) (m:Int) (on:Bool):Scr:={ s with modes:=if on then bOr (ZD s.modes m) m else ZD s.modes m }
def Scr.blank (s:Scr):Sty:=⟨-1,s.now.pen.bg,0⟩
def Scr.whole (s:Scr):Scr:={ s with top:=0,bottom:=s.rows-1 }
def zcc (tabs:List Bool) (cols:Nat):List Bool:=(tabs++(List.range' tabs.length (cols-tabs.length)).map fun n=>decide (0<n∧n % 8=0)).take cols
def Scr.stops (s:Scr):Scr:={ s with tabs:=zcc s.tabs s.main.cols }
def Scr.reset (s:Scr):Scr :=
 (Scr.whole (Scr.stops ⟨zbp,Z1 s.main.cols s.main.rows.length s.main.limit,none,zbp,zbp,9,0,0,[],[],0,s.bells,s.out⟩))
def zdR (cols rows limit:Nat):Scr:=Scr.reset ⟨zbp,Z1 cols rows limit,none,zbp,zbp,0,0,0,[],[],0,0,[]⟩
def Scr.index (s:Scr):Scr :=
 if s.now.y=s.bottom then s.turn (fun g=>g.up s.top s.bottom 1 s.blank s.other.isNone)
 else if s.now.y<s.rows-1 then { s with now:={ s.now with y:=s.now.y+1 } } else s
def Scr.reverse (s:Scr):Scr :=
 if s.now.y=s.top then s.turn (fun g=>g.down s.top s.bottom 1 s.blank)
 else if 0<s.now.y then { s with now:={ s.now with y:=s.now.y-1 } } else s
def Scr.place (s:Scr) (x y:Int):Scr:={ s with now:={ s.now with x:=max 0 (min x (s.cols-1)),y:=max 0 (min y (s.rows-1)),wait:=false } }
def Scr.line (s:Scr) (y:Int):Int:=if s.has 4 then max s.top (min (y+s.top) s.bottom) else y
def Scr.calm (s:Scr):Scr:={ s with now:={ s.now with wait:=false } }
def Scr.toX (s:Scr) (x:Int):Scr:={ s with now:={ s.now with x:=x } }
def Scr.on (s:Scr):Scr:=((s.turn (fun g=>g.setWrap s.now.y true)).toX 0).index
def zaZ:List Int:=[9670,9618,9225,9228,9229,9226,176,177,9252,9227,9496,9488,9484,9492,9532,9146,9147,9472,9148,9149,9500,9508,9524,9516,9474,8804,8805,960,8800,163,183]
def Scr.drawn (s:Scr) (r:Int):Int:=if (if s.now.second=0 then s.now.l0 else s.now.l1)=true∧96≤r∧r≤126 then zaZ.getD (r-96).toNat 0 else r
def Scr.fit (s:Scr) (w:Int):Scr :=
 let s1:=(if s.now.wait && s.has 1 then s.on else s).calm
 if s1.cols-w<s1.now.x then (if s.has 1 then s1.on else s1.toX (s1.cols-w)) else s1
def Scr.lay (s:Scr) (c w:Int):Scr :=
 let s1:=if s.has 2 then s.turn (fun g=>g.ins s.now.x s.now.y w s.blank) else s
 let s2:=s1.turn (fun g=>g.put s1.now.x s1.now.y ⟨c,w,s1.now.pen⟩)
 if s2.cols≤s2.now.x+w then { s2 with now:={ s2.now with x:=s2.cols-1,wait:=s2.has 1 } } else s2.toX (s2.now.x+w)
def Scr.print (s:Scr) (r:Int):Scr :=
 let w:=wid (s.drawn r)
 if w<1∨s.cols<w then s else { (s.fit w).lay (s.drawn r) w with last:=r }
def zdV:Nat→List Bool→Int→Int→Int
 | 0,_,_,x=>x
 | n+1,t,m,x=>if x<m∧t.getD x.toNat false=false then zdV n t m (x+1) else x
def zdW:Nat→List Bool→Int→Int
 | 0,_,x=>x
 | n+1,t,x=>if 0<x∧t.getD x.toNat false=false then zdW n t (x-1) else x
def Scr.tab (s:Scr):Scr:=s.place (zdV s.main.cols s.tabs (s.cols-1) (min (s.now.x+1) (s.cols-1))) s.now.y
def Scr.back (s:Scr):Scr:=s.place (zdW s.main.cols s.tabs (s.now.x-1)) s.now.y
def Scr.control (s:Scr) (b:UInt8):Scr :=
 let k:Int:=b.toNat
 let s:=if 8≤k∧k≤13 then s.calm else s
 if k=7 then { s with bells:=IntKind.i64.wrap (s.bells+1) }
 else if k=8 then s.toX (max 0 (s.now.x-1))
 else if k=9 then s.tab
 else if k=10∨k=11∨k=12 then (if s.index.has 512 then s.index.toX 0 else s.index)
 else if k=13 then s.toX 0
 else if k=14∨k=15 then { s with now:={ s.now with second:=15-k } } else s
def Scr.say (s:Scr) (t:List UInt8):Scr:={ s with out:=s.out++t }
def Scr.slot (s:Scr):Sav:=if s.other.isSome then s.k1 else s.k0
def Scr.setSlot (s:Scr) (v:Sav):Scr:=if s.other.isSome then { s with k1:=v } else { s with k0:=v }
def Scr.save (s:Scr):Scr:=let s1:Scr:={ s with now:={ s.now with origin:=s.has 4 } };s1.setSlot s1.now
def Scr.restore (s:Scr):Scr:=({ s with now:=s.slot }:Scr).mode 4 s.slot.origin
def Scr.keep (s:Scr) (on:Bool):Scr:=if on then s.save else s.restore
def Scr.swap (s:Scr) (on:Bool):Scr :=
 if on=s.other.isSome then s
 else ((({ s with other:=if on then some (Z1 s.main.cols s.main.rows.length 0) else none }:Scr).mode 256 on).whole).calm
def zhS (g:Gr):Nat→Nat→Gr
 | _,0=>g
 | y,x+1=>(zhS g y x).put x y ⟨69,1,plainS⟩
def zbY (g:Gr) (cols:Nat):Nat→Gr
 | 0=>g
 | y+1=>((zhS (zbY g cols y) y cols).setWrap y false)
def Scr.fill (s:Scr):Scr:=((s.whole).place 0 0).turn (fun g=>zbY g s.main.cols s.main.rows.length)
def da1:List UInt8:=[27,91,63,54,50,59,99]
def Scr.bare (s:Scr) (b:UInt8):Scr :=
 let k:Int:=b.toNat
 if k=55 then s.save
 else if k=56 then s.restore
 else if k=69 then (s.toX 0).index.calm
 else if k=68 then s.index.calm
 else if k=77 then s.reverse.calm
 else if k=72 then { s with tabs:=s.tabs.set s.now.x.toNat true }
 else if k=99 then s.reset
 else if k=61∨k=62 then s.mode 32 (k == 61)
 else if k=90 then s.say da1 else s
def Scr.escape (s:Scr) (b:UInt8) (inter:List UInt8):Scr :=
 let k:Int:=b.toNat
 if inter=[40] then (if k=48 then { s with now:={ s.now with l0:=true } } else if k=65∨k=66 then { s with now:={ s.now with l0:=false } } else s)
 else if inter=[41] then (if k=48 then { s with now:={ s.now with l1:=true } } else if k=65∨k=66 then { s with now:={ s.now with l1:=false } } else s)
 else if inter=[35] then (if k=56 then s.fill else s)
 else if inter=[] then s.bare b else s
def par (ps:List Int) (i:Nat) (first:Int):Int:=if i<ps.length∧0≤ps.getD i (-1) then min (ps.getD i (-1)) 9999 else first
def Scr.upY (s:Scr) (n:Int):Int:=if s.top≤s.now.y then s.now.y-min n (s.now.y-s.top) else s.now.y-n
def Scr.downY (s:Scr) (n:Int):Int:=if s.now.y≤s.bottom then s.now.y+min n (s.bottom-s.now.y) else s.now.y+n
def itF {α:Type} (f:α→α):Nat→α→α
 | 0,a=>a
 | n+1,a=>itF f n (f a)
def Scr.move (s:Scr) (k n:Int):Option Scr :=
 if k=65 then some (s.place s.now.x (s.upY n))
 else if k=66∨k=101 then some (s.place s.now.x (s.downY n))
 else if k=67∨k=97 then some (s.place (s.now.x+n) s.now.y)
 else if k=68 then some (s.place (s.now.x-n) s.now.y)
 else if k=69 then some ((s.place s.now.x (s.downY n)).toX 0)
 else if k=70 then some ((s.place s.now.x (s.upY n)).toX 0)
 else if k=71∨k=96 then some (s.place (n-1) s.now.y)
 else if k=100 then some (s.place s.now.x (s.line (n-1)))
 else if k=73 then some (itF Scr.tab n.toNat s)
 else if k=90 then some (itF Scr.back n.toNat s) else none
def Scr.inside (s:Scr):Bool:=!(decide (s.now.y<s.top) || decide (s.bottom<s.now.y))
def Scr.edit (s:Scr) (k n:Int):Option Scr :=
 if k=64 then some (s.turn (fun g=>g.ins s.now.x s.now.y n s.blank)).calm
 else if k=80 then some (s.turn (fun g=>g.del s.now.x s.now.y n s.blank)).calm
 else if k=88 then some (s.turn (fun g=>g.erase s.now.x s.now.y n s.blank)).calm
 else if k=76 then some (if s.inside then ((s.toX 0).calm).turn (fun g=>g.down s.now.y s.bottom n s.blank) else s)
 else if k=77 then some (if s.inside then ((s.toX 0).calm).turn (fun g=>g.up s.now.y s.bottom n s.blank false) else s)
 else if k=83 then some (s.turn (fun g=>g.up s.top s.bottom n s.blank s.other.isNone))
 else if k=84 then some (s.turn (fun g=>g.down s.top s.bottom n s.blank))
 else if k=98 then some (itF (fun t=>if t.last≠0 then t.print t.last else t) n.toNat s) else none
def zcw (cols:Int) (b:Sty) (y:Int):Nat→Gr→Gr
 | 0,g=>g
 | n+1,g=>((zcw cols b y n g).erase 0 (y+n) cols b).setWrap (y+n) false
def Scr.clean (s:Scr) (y z:Int):Scr:=s.turn (fun g=>zcw s.cols s.blank y (z-y).toNat g)
def Scr.inRow (s:Scr) (k:Int):Scr :=
 if k=0 then s.calm.turn (fun g=>(g.erase s.now.x s.now.y s.cols s.blank).setWrap s.now.y false)
 else if k=1 then s.calm.turn (fun g=>g.erase 0 s.now.y (s.now.x+1) s.blank)
 else if k=2 then s.calm.clean s.now.y (s.now.y+1) else s.calm
def Scr.forget (s:Scr):Scr:={ s with main:={ s.main with old:=[] } }
def Scr.inAll (s:Scr) (k:Int):Scr :=
 if k=0 then (s.inRow 0).clean (s.now.y+1) s.rows
 else if k=1 then (s.inRow 1).clean 0 s.now.y
 else if k=2 then s.calm.clean 0 s.rows
 else if k=3 then s.calm.forget else s.calm
def Scr.report (s:Scr) (k:Int):Scr :=
 if k=5 then s.say [27,91,48,110]
 else if k=6 then s.say ([27,91]++Lib.itoa ((if s.has 4 then max 0 (s.now.y-s.top) else s.now.y)+1)++[59]++Lib.itoa (s.now.x+1)++[82]) else s
def zfI (p:Sty) (n:Int) (kc:Nat × Int):Sty :=
 let p1:Sty:=if n=kc.2 then { p with attr:=bOr p.attr (2 ^ kc.1:Nat) } else p
 if n=kc.2+20∧1<kc.1 then { p1 with attr:=ZD p1.attr (2 ^ kc.1:Nat) } else p1
def zaS (p:Sty) (n:Int):Sty :=
 if n=0 then plainS
 else if n=22 then { p with attr:=ZD p.attr 3 }
 else if 30≤n∧n≤37 then { p with fg:=n-30 }
 else if n=39 then { p with fg:=-1 }
 else if 40≤n∧n≤47 then { p with bg:=n-40 }
 else if n=49 then { p with bg:=-1 }
 else if 90≤n∧n≤97 then { p with fg:=n-82 }
 else if 100≤n∧n≤107 then { p with bg:=n-92 }
 else [(0,1),(1,2),(2,3),(3,4),(4,5),(5,7),(6,8),(7,9)].foldl (fun p kc=>zfI p n kc) p
def Zq (ps:List Int) (i:Nat):Int × Nat :=
 if i+2≤ps.length∧par ps i 0=5∧par ps (i+1) 0≤255 then (par ps (i+1) 0,2)
 else if i+4≤ps.length∧par ps i 0=2∧max (max (par ps (i+1) 0) (par ps (i+2) 0)) (par ps (i+3) 0)≤255 then (16777216+par ps (i+1) 0*65536+par ps (i+2) 0*256+par ps (i+3) 0,4)
 else (0,0)
def zax (ps:List Int):Nat→Nat→Sty→Sty
 | 0,_,p=>p
 | f+1,i,p =>
  if i<ps.length then
   if par ps i 0=38∨par ps i 0=48 then
    if (Zq ps (i+1)).2=0 then p
    else zax ps f (i+1+(Zq ps (i+1)).2) (if par ps i 0=38 then { p with fg:=(Zq ps (i+1)).1 } else { p with bg:=(Zq ps (i+1)).1 })
   else zax ps f (i+1) (zaS p (par ps i 0))
  else p
def zmc (ps:List Int) (p:Sty):Sty:=zax ps ps.length 0 (if ps=[] then plainS else p)
def Scr.looks (s:Scr) (ps:List Int):Scr:={ s with now:={ s.now with pen:=zmc ps s.now.pen } }
def Scr.setMode1 (s:Scr) (k:Int) (on:Bool):Scr:=if k=4 then s.mode 2 on else if k=20 then s.mode 512 on else s
def Scr.region (s:Scr) (ps:List Int):Scr :=
 let t:=max 1 (par ps 0 1)
 let b0:=par ps 1 s.rows
 let b:=min (if b0=0 then s.rows else b0) s.rows
 if t<b then let s1:Scr:={ s with top:=t-1,bottom:=b-1 };s1.place 0 (s1.line 0) else s
def Scr.others (s:Scr) (k:Int) (ps:List Int):Scr :=
 let n:=par ps 0 0
 if k=72∨k=102 then s.place (max 1 (par ps 1 1)-1) (s.line (max 1 (par ps 0 1)-1))
 else if k=74 then s.inAll n
 else if k=75 then s.inRow n
 else if k=99 then (if n=0 then s.say da1 else s)
 else if k=110 then s.report n
 else if k=103 then (if n=0 then { s with tabs:=s.tabs.set s.now.x.toNat false } else if n=3 then { s with tabs:=List.replicate s.tabs.length false } else s)
 else if k=104∨k=108 then (List.range ps.length).foldl (fun t i=>t.setMode1 (par ps i 0) (k == 104)) s
 else if k=109 then s.looks ps
 else if k=114 then s.region ps
 else if k=115∨k=117 then s.keep (k == 115) else s
def Scr.private (s:Scr) (k:Int) (on:Bool):Scr :=
 if k=1 then s.mode 16 on
 else if k=6 then let s1:=s.mode 4 on;s1.place 0 (s1.line 0)
 else if k=7 then let s1:=s.mode 1 on;{ s1 with now:={ s1.now with wait:=s1.now.wait && on } }
 else if k=25 then s.mode 8 on
 else if k=47∨k=1047 then s.swap on
 else if k=1048 then s.keep on
 else if k=1049 then (if on then s.save.swap true else (s.swap false).restore)
 else if k=1000 then s.mode 128 on
 else if k=2004 then s.mode 64 on else s
def Scr.soft (s:Scr):Scr :=
 let s1:=({ s with now:={ zbp with x:=s.now.x,y:=s.now.y } }:Scr).whole
 ({ s1 with modes:=bOr (ZD s1.modes 54) 9 }:Scr).setSlot zbp
def Scr.csi (s:Scr) (b:UInt8) (ps:List Int) (inter:List UInt8):Scr :=
 let k:Int:=b.toNat
 if inter=[] then (match s.move k (max 1 (par ps 0 1)) with
  | some t=>t
  | none=>match s.edit k (max 1 (par ps 0 1)) with
   | some t=>t
   | none=>s.others k ps)
 else if inter=[63] then (if k=104∨k=108 then (List.range ps.length).foldl (fun t i=>t.private (par ps i 0) (k == 104)) s else s)
 else if inter=[33] then (if k=112 then s.soft else s)
 else if inter=[62] then (if k=99∧par ps 0 0=0 then s.say [27,91,62,48,59,49,48,59,48,99] else s) else s
def zbe:Int→List Int→List Int
 | _,[]=>[]
 | n,r::l=>if wid r<1 then zbe n l else if 64<n+wid r then [] else r::zbe (n+wid r) l
def Scr.named (s:Scr) (t:List UInt8):Scr :=
 if t.take 2=[48,59]∨t.take 2=[50,59] then { s with title:=(zbe 0 (zdj (t.drop 2))).flatMap (fun r=>(Utf8.encode r).data.toList) } else s
end
section
open Go.RowKit
theorem zcH (a:Nat) (h:a<9223372036854775808):(BitVec.ofInt 64 (a:Int)).toNat=a:=by
 rw[BitVec.ofInt_natCast,BitVec.toNat_ofNat];omega
theorem znA (a b:Nat) (ha:a<1024) (hb:b<1024):∃ k:Nat,bOr (a:Int) (b:Int)=k∧k<1024:=by
 have h:a ||| b<2 ^ 10:=Nat.or_lt_two_pow (by omega) (by omega);refine⟨a ||| b,?_,by omega⟩;unfold bOr;rw[BitVec.toNat_or,zcH a (by omega),zcH b (by omega),zd _ (by omega) (by omega)]
theorem zmd (a:Nat) (y:Int) (ha:a<1024):∃ k:Nat,ZD (a:Int) y=k∧k≤a:=by
 have h:(BitVec.ofInt 64 (a:Int) &&& ~~~ (BitVec.ofInt 64 y)).toNat≤a:=by
  rw[BitVec.toNat_and,zcH a (by omega)];exact Nat.and_le_left
 refine⟨_,?_,h⟩;unfold ZD;rw[zd _ (by omega) (by omega)]
def M10 (m:Int):Prop:=0≤m∧m<1024
theorem M10.or {a b:Int} (ha:M10 a) (hb:M10 b):M10 (bOr a b):=by
 obtain⟨x,rfl⟩:∃ n:Nat,a=n:=⟨a.toNat,by have:=ha.1;omega⟩;obtain⟨y,rfl⟩:∃ n:Nat,b=n:=⟨b.toNat,by have:=hb.1;omega⟩;obtain⟨k,e,h⟩:=znA x y (by have:=ha.2;omega) (by have:=hb.2;omega);rw[e];exact⟨by omega,by omega⟩
theorem zj6 {a:Int} (ha:M10 a) (b:Int):0≤ZD a b∧ZD a b≤a:=by
 obtain⟨x,rfl⟩:∃ n:Nat,a=n:=⟨a.toNat,by have:=ha.1;omega⟩;obtain⟨k,e,h⟩:=zmd x b (by have:=ha.2;omega);rw[e];exact⟨by omega,by omega⟩
theorem M10.not {a:Int} (ha:M10 a) (b:Int):M10 (ZD a b):=by
 have h:=zj6 ha b;have:=ha.2;exact⟨h.1,by omega⟩
structure Sav.In (c r:Nat) (v:Sav):Prop where
 x0:0≤v.x
 x1:v.x<c
 y0:0≤v.y
 y1:v.y<r
 pen:okS v.pen=true
 sec:v.second=0∨v.second=1
theorem zam:okS plainS=true:=by decide
theorem zc0 {c r:Nat} (hc:1≤c) (hr:1≤r):zbp.In c r:=⟨by decide,by show(0:Int)<c;omega,by decide,by show(0:Int)<r;omega,zam,.inl rfl⟩
def zaR (c r:Nat) (g:Gr):Prop:=g.cols=c∧g.rows.length=r
structure Scr.Ok (c r:Nat) (s:Scr):Prop where
 main:zaR c r s.main
 other:∀ g,s.other=some g→zaR c r g
 now:s.now.In c r
 k0:s.k0.In c r
 k1:s.k1.In c r
 t0:0≤s.top
 tb:s.top≤s.bottom
 b1:s.bottom<r
 tl:s.tabs.length=c
 md:M10 s.modes
theorem zaR.of_dim {c r:Nat} {g g':Gr} (h:zaR c r g) (hd:∀ l,Dim g c r l→Dim g' c r l):zaR c r g':=by
 have:=hd g.limit ⟨h.1,h.2,rfl⟩;exact⟨this.1,this.2.1⟩
section
variable {c r:Nat} {s:Scr}
theorem Scr.Ok.cols (h:s.Ok c r):s.cols=c:=by unfold Scr.cols;rw[h.main.1]
theorem Scr.Ok.rows (h:s.Ok c r):s.rows=r:=by unfold Scr.rows;rw[h.main.2]
theorem Scr.Ok.turn (h:s.Ok c r) (f:Gr→Gr) (hf:∀ g,zaR c r g→zaR c r (f g)):(s.turn f).Ok c r:=by
 unfold Scr.turn;split
 ·rename_i g hg;exact⟨h.main,fun g' A=>by injection A with A;rw[← A];exact hf g (h.other g hg),h.now,h.k0,h.k1,h.t0,h.tb,h.b1,h.tl,h.md⟩
 ·rename_i hg;exact⟨hf _ h.main,fun g' A=>(by rw[hg]at A;cases A),h.now,h.k0,h.k1,h.t0,h.tb,h.b1,h.tl,h.md⟩
theorem za3 (s:Scr) (f:Gr→Gr):(s.turn f).now=s.now:=by unfold Scr.turn;split <;> rfl
theorem Scr.Ok.put (h:s.Ok c r) {v:Sav} (hv:v.In c r):({ s with now:=v }:Scr).Ok c r:=⟨h.main,h.other,hv,h.k0,h.k1,h.t0,h.tb,h.b1,h.tl,h.md⟩
theorem Scr.Ok.toX (h:s.Ok c r) {x:Int} (h0:0≤x) (h1:x<c):(s.toX x).Ok c r:=h.put ⟨h0,h1,h.now.y0,h.now.y1,h.now.pen,h.now.sec⟩
theorem Scr.Ok.calm (h:s.Ok c r):s.calm.Ok c r:=h.put ⟨h.now.x0,h.now.x1,h.now.y0,h.now.y1,h.now.pen,h.now.sec⟩
theorem Scr.Ok.mode (h:s.Ok c r) (m:Int) (hm:M10 m) (on:Bool):(s.mode m on).Ok c r:=by
 refine⟨h.main,h.other,h.now,h.k0,h.k1,h.t0,h.tb,h.b1,h.tl,?_⟩;show M10 (if on=true then bOr (ZD s.modes m) m else ZD s.modes m);split
 ·exact(h.md.not m).or hm
 ·exact h.md.not m
theorem Scr.Ok.whole (h:s.Ok c r) (hr:1≤r):s.whole.Ok c r:=by
 have e:=h.rows;exact⟨h.main,h.other,h.now,h.k0,h.k1,Int.le_refl 0,by show 0≤s.rows-1;omega,by show s.rows-1<r;omega,h.tl,h.md⟩
theorem Scr.Ok.place (h:s.Ok c r) (hc:1≤c) (hr:1≤r) (x y:Int):(s.place x y).Ok c r:=by
 have e:=h.rows;have A:=h.cols;unfold Scr.place;exact h.put ⟨by show 0≤max 0 _;omega,by show max 0 (min x (s.cols-1))<c;omega,by show 0≤max 0 _;omega,by show max 0 (min y (s.rows-1))<r;omega,h.now.pen,h.now.sec⟩
theorem zhg {g:Gr} (h:zaR c r g) (t b n:Int) (p:Sty) (k:Bool):zaR c r (g.up t b n p k):=h.of_dim fun _ hd=>hd.up t b n p k
theorem zeL {g:Gr} (h:zaR c r g) (t b n:Int) (p:Sty):zaR c r (g.down t b n p):=h.of_dim fun _ hd=>hd.down t b n p
theorem zem {g:Gr} (h:zaR c r g) (x y:Int) (q:Cel):zaR c r (g.put x y q):=h.of_dim fun _ hd=>hd.put x y q
theorem zcI {g:Gr} (h:zaR c r g) (y:Int) (is:Bool):zaR c r (g.setWrap y is):=h.of_dim fun _ hd=>hd.setWrap y is
theorem zen {g:Gr} (h:zaR c r g) (x y n:Int) (p:Sty):zaR c r (g.ins x y n p):=h.of_dim fun _ hd=>zdF _ x y n p hd
theorem zme {g:Gr} (h:zaR c r g) (x y n:Int) (p:Sty):zaR c r (g.del x y n p):=h.of_dim fun _ hd=>zdF _ x y n p hd
theorem zc1 {g:Gr} (h:zaR c r g) (x y n:Int) (p:Sty):zaR c r (g.erase x y n p):=h.of_dim fun _ hd=>zdF _ x y n p hd
theorem zdq {l:Nat}:zaR c r (Z1 c r l):=⟨(Dim.new c r l).1,(Dim.new c r l).2.1⟩
theorem Scr.Ok.index (h:s.Ok c r):s.index.Ok c r:=by
 have e:=h.rows;unfold Scr.index;split
 ·exact h.turn _ fun g hg=>zhg hg _ _ _ _ _
 ·split
  ·exact h.put ⟨h.now.x0,h.now.x1,by show 0≤s.now.y+1;have:=h.now.y0;omega,by show s.now.y+1<r;omega,h.now.pen,h.now.sec⟩
  ·exact h
theorem Scr.Ok.reverse (h:s.Ok c r):s.reverse.Ok c r:=by
 unfold Scr.reverse;split
 ·exact h.turn _ fun g hg=>zeL hg _ _ _ _
 ·split
  ·exact h.put ⟨h.now.x0,h.now.x1,by show 0≤s.now.y-1;omega,by show s.now.y-1<r;have:=h.now.y1;omega,h.now.pen,h.now.sec⟩
  ·exact h
theorem Scr.Ok.on (h:s.Ok c r) (hc:1≤c):s.on.Ok c r :=
 ((h.turn _ fun g hg=>zcI hg _ _).toX (Int.le_refl 0) (by omega)).index
theorem Scr.Ok.fit (h:s.Ok c r) (hc:1≤c) (w:Int) (h1:1≤w) (h2:w≤c):(s.fit w).Ok c r∧(s.fit w).now.x≤c-w:=by
 have A:((if (s.now.wait && s.has 1)=true then s.on else s).calm).Ok c r:=by
  split
  ·exact(h.on hc).calm
  ·exact h.calm
 unfold Scr.fit;generalize ((if (s.now.wait && s.has 1)=true then s.on else s).calm)=C at A ⊢;have e:=A.cols;dsimp only;have B:C.on.now.x=0:=by
  unfold Scr.on Scr.index;split
  ·rw[za3];rfl
  ·split <;> rfl
 split
 ·split
  ·exact⟨A.on hc,by rw[B];omega⟩
  ·exact⟨A.toX (by omega) (by omega),by show C.cols-w≤_;omega⟩
 ·exact⟨A,by omega⟩
theorem Scr.Ok.lay (h:s.Ok c r) (hc:1≤c) (q w:Int) (h1:1≤w):(s.lay q w).Ok c r:=by
 have C:(if s.has 2=true then s.turn (fun g=>g.ins s.now.x s.now.y w s.blank) else s).Ok c r:=by
  split
  ·exact h.turn _ fun g hg=>zen hg _ _ _ _
  ·exact h
 unfold Scr.lay;generalize (if s.has 2=true then s.turn (fun g=>g.ins s.now.x s.now.y w s.blank) else s)=B at C ⊢;dsimp only;have A:=C.turn (fun g=>g.put B.now.x B.now.y ⟨q,w,B.now.pen⟩) fun g hg=>zem hg _ _ _;generalize (B.turn fun g=>g.put B.now.x B.now.y ⟨q,w,B.now.pen⟩)=D at A ⊢;have e:=A.cols;split
 ·exact A.put ⟨by show 0≤D.cols-1;omega,by show D.cols-1<c;omega,A.now.y0,A.now.y1,A.now.pen,A.now.sec⟩
 ·exact A.toX (by have:=A.now.x0;omega) (by omega)
theorem Scr.Ok.print (h:s.Ok c r) (hc:1≤c) (x:Int):(s.print x).Ok c r:=by
 have e:=h.cols;unfold Scr.print;dsimp only;split
 ·exact h
 ·rename_i hw;have A:=((h.fit hc (wid (s.drawn x)) (by omega) (by omega)).1).lay hc (s.drawn x) (wid (s.drawn x)) (by omega);exact⟨A.main,A.other,A.now,A.k0,A.k1,A.t0,A.tb,A.b1,A.tl,A.md⟩
theorem Scr.Ok.tab (h:s.Ok c r) (hc:1≤c) (hr:1≤r):s.tab.Ok c r:=h.place hc hr _ _
theorem Scr.Ok.back (h:s.Ok c r) (hc:1≤c) (hr:1≤r):s.back.Ok c r:=h.place hc hr _ _
theorem Scr.Ok.bell (h:s.Ok c r) (n:Int):({ s with bells:=n }:Scr).Ok c r:=⟨h.main,h.other,h.now,h.k0,h.k1,h.t0,h.tb,h.b1,h.tl,h.md⟩
theorem Scr.Ok.control (h:s.Ok c r) (hc:1≤c) (hr:1≤r) (b:UInt8):(s.control b).Ok c r:=by
 unfold Scr.control;dsimp only;have A:(if 8≤(b.toNat:Int)∧(b.toNat:Int)≤13 then s.calm else s).Ok c r:=by
  split
  ·exact h.calm
  ·exact h
 generalize (if 8≤(b.toNat:Int)∧(b.toNat:Int)≤13 then s.calm else s)=t at A ⊢
 repeat' split
 ·exact A.bell _
 ·exact A.toX (by omega) (by have:=A.now.x1;omega)
 ·exact A.tab hc hr
 ·exact A.index.toX (Int.le_refl 0) (by omega)
 ·exact A.index
 ·exact A.toX (Int.le_refl 0) (by omega)
 ·rename_i hk;exact A.put ⟨A.now.x0,A.now.x1,A.now.y0,A.now.y1,A.now.pen,by show 15-(b.toNat:Int)=0∨15-(b.toNat:Int)=1;omega⟩
 ·exact A
theorem Scr.Ok.say (h:s.Ok c r) (t:List UInt8):(s.say t).Ok c r:=⟨h.main,h.other,h.now,h.k0,h.k1,h.t0,h.tb,h.b1,h.tl,h.md⟩
theorem Scr.Ok.setSlot (h:s.Ok c r) {v:Sav} (hv:v.In c r):(s.setSlot v).Ok c r:=by
 unfold Scr.setSlot;split
 ·exact⟨h.main,h.other,h.now,h.k0,hv,h.t0,h.tb,h.b1,h.tl,h.md⟩
 ·exact⟨h.main,h.other,h.now,hv,h.k1,h.t0,h.tb,h.b1,h.tl,h.md⟩
theorem Scr.Ok.slot (h:s.Ok c r):s.slot.In c r:=by
 unfold Scr.slot;split
 ·exact h.k1
 ·exact h.k0
theorem Scr.Ok.save (h:s.Ok c r):s.save.Ok c r:=by
 have A:=h.put (v:={ s.now with origin:=s.has 4 }) ⟨h.now.x0,h.now.x1,h.now.y0,h.now.y1,h.now.pen,h.now.sec⟩;exact A.setSlot A.now
theorem Scr.Ok.restore (h:s.Ok c r):s.restore.Ok c r:=(h.put h.slot).mode 4 ⟨by decide,by decide⟩ _
theorem Scr.Ok.keep (h:s.Ok c r) (on:Bool):(s.keep on).Ok c r:=by
 unfold Scr.keep;split
 ·exact h.save
 ·exact h.restore
theorem Scr.Ok.swap (h:s.Ok c r) (hr:1≤r) (on:Bool):(s.swap on).Ok c r:=by
 unfold Scr.swap;split
 ·exact h
 ·have A:({ s with other:=if on then some (Z1 s.main.cols s.main.rows.length 0) else none }:Scr).Ok c r:=⟨h.main,fun g hg=>(by
   have hg:(if on=true then some (Z1 s.main.cols s.main.rows.length 0) else none)=some g:=hg;split at hg
   ·injection hg with hg;rw[← hg,h.main.1,h.main.2];exact zdq
   ·cases hg),h.now,h.k0,h.k1,h.t0,h.tb,h.b1,h.tl,h.md⟩
  exact((A.mode 256 ⟨by decide,by decide⟩ on).whole hr).calm
theorem zjd {g:Gr} (h:zaR c r g) (y x:Nat):zaR c r (zhS g y x):=by
 induction x with
 | zero=>exact h
 | succ x ih=>exact zem ih _ _ _
theorem zeo {g:Gr} (h:zaR c r g) (m y:Nat):zaR c r (zbY g m y):=by
 induction y with
 | zero=>exact h
 | succ y ih=>exact zcI (zjd ih _ _) _ _
theorem Scr.Ok.fill (h:s.Ok c r) (hc:1≤c) (hr:1≤r):s.fill.Ok c r:=((h.whole hr).place hc hr 0 0).turn _ fun g hg=>zeo hg _ _
theorem zc2 (t:List Bool) (n:Nat):(zcc t n).length=n:=by
 unfold zcc;rw[List.length_take,List.length_append,List.length_map,List.length_range'];omega
theorem Scr.Ok.reset (h:s.Ok c r) (hc:1≤c) (hr:1≤r):s.reset.Ok c r:=by
 have B:=h.main.1;have C:=h.main.2;have A:zaR c r (Z1 s.main.cols s.main.rows.length s.main.limit):=(by rw[B,C];exact zdq);refine⟨A,fun g hg=>(by cases hg),zc0 hc hr,zc0 hc hr,zc0 hc hr,Int.le_refl 0,?_,?_,?_,(show M10 9 from⟨by decide,by decide⟩)⟩
 ·show(0:Int)≤((Z1 s.main.cols s.main.rows.length s.main.limit).rows.length:Int)-1;rw[A.2];omega
 ·show((Z1 s.main.cols s.main.rows.length s.main.limit).rows.length:Int)-1<r;rw[A.2];omega
 ·show(zcc [] (Z1 s.main.cols s.main.rows.length s.main.limit).cols).length=c;rw[zc2,A.1]
theorem Scr.Ok.setTabs (h:s.Ok c r) {t:List Bool} (ht:t.length=c):({ s with tabs:=t }:Scr).Ok c r:=⟨h.main,h.other,h.now,h.k0,h.k1,h.t0,h.tb,h.b1,ht,h.md⟩
theorem Scr.Ok.bare (h:s.Ok c r) (hc:1≤c) (hr:1≤r) (b:UInt8):(s.bare b).Ok c r:=by
 unfold Scr.bare;dsimp only
 repeat' split
 ·exact h.save
 ·exact h.restore
 ·exact((h.toX (Int.le_refl 0) (by omega)).index).calm
 ·exact h.index.calm
 ·exact h.reverse.calm
 ·exact h.setTabs (by rw[List.length_set];exact h.tl)
 ·exact h.reset hc hr
 ·exact h.mode 32 ⟨by decide,by decide⟩ _
 ·exact h.say _
 ·exact h
theorem Scr.Ok.escape (h:s.Ok c r) (hc:1≤c) (hr:1≤r) (b:UInt8) (i:List UInt8):(s.escape b i).Ok c r:=by
 have A:∀ a d,({ s.now with l0:=a,l1:=d }:Sav).In c r:=fun a d=>⟨h.now.x0,h.now.x1,h.now.y0,h.now.y1,h.now.pen,h.now.sec⟩;unfold Scr.escape;dsimp only
 repeat' split
 ·exact h.put (A true s.now.l1)
 ·exact h.put (A false s.now.l1)
 ·exact h
 ·exact h.put (A s.now.l0 true)
 ·exact h.put (A s.now.l0 false)
 ·exact h
 ·exact h.fill hc hr
 ·exact h
 ·exact h.bare hc hr b
 ·exact h
end
end
section
open Go.RowKit
def PSt.step (s:PSt) (b:UInt8):PSt × List VAct :=
 if (s.any1 b).1 then (s.any1 b).2 else ((((s.any1 b).2.1).took b).1,(s.any1 b).2.2++(((s.any1 b).2.1).took b).2)
def PSt.run:PSt→List UInt8→PSt × List VAct
 | s,[]=>(s,[])
 | s,b::l=>(((s.step b).1.run l).1,(s.step b).2++((s.step b).1.run l).2)
theorem zfJ:∀ (l m:List UInt8) (s:PSt),s.run (l++m)=(((s.run l).1.run m).1,(s.run l).2++((s.run l).1.run m).2)
 | [],m,s=>by simp[PSt.run]
 | b::l,m,s=>by
  rw[List.cons_append];simp only[PSt.run];rw[zfJ l m];simp
theorem zmf (l:List UInt8) (b:UInt8) (s:PSt):s.run (l++[b])=(((s.run l).1.step b).1,(s.run l).2++((s.run l).1.step b).2):=by
 rw[zfJ];simp[PSt.run]
def s0:PSt:=⟨0,dec0,[],[],false,[],0,false,0⟩
theorem zj7:s0.Fine:=⟨by decide,fun h=>by simp[s0]at h,by decide,fun x hx=>by simp[s0]at hx,by decide,by decide,fun _=>by decide⟩
theorem zac {s:PSt} {st:Int} (h:0≤st∧st≤7):(s.begun st).Fine :=
 ⟨by simp[PSt.begun],fun h=>by simp[PSt.begun]at h,by simp[PSt.begun],fun x hx=>by simp[PSt.begun]at hx,by simp[PSt.begun],h,fun _=>by simp[PSt.begun]⟩
theorem zfb (s:PSt):s.passed.Fine:=zac (by decide)
theorem zeM {s:PSt} (b:UInt8) (h:s.Fine):(s.any1 b).2.1.Fine:=by
 unfold PSt.any1
 repeat' split
 ·exact zac (by decide)
 ·have:=zac (s:={ s with dec:=(zbf s.dec).1 }) (st:=1) (by decide);exact⟨this.il,this.pne,this.pl,this.pr,this.tl,this.st,this.e1⟩
 ·exact zac (by decide)
 ·exact h
 ·exact⟨h.il,h.pne,h.pl,h.pr,h.tl,h.st,h.e1⟩
 ·exact h
 ·exact zac (by decide)
 ·exact h
theorem zje {s:PSt} (b:UInt8) (h:s.Fine) (h1:s.state=1):(s.esced b).1.Fine:=by
 have B:=h.e1 h1;unfold PSt.esced
 repeat' split
 all_goals first | exact zfb s | exact zac (by decide) | skip
 have A:(s.inter++[b]).length≤2:=(by rw[List.length_append,List.length_singleton];omega);exact⟨by show(s.inter++[b]).length≤3;omega,h.pne,h.pl,h.pr,h.tl,h.st,fun _=>A⟩
theorem zfc (x d:Int) (h:0≤d):-1≤zbW x d∧zbW x d≤9999:=by
 unfold zbW;omega
theorem zd1 {s:PSt} (d:Int) (h:s.Fine):(s.digit d).Fine:=by
 have I:s.started.params≠[]∧s.started.params.length≤33∧(∀ x∈s.started.params,-1≤x∧x≤9999)∧s.started.inter=s.inter∧s.started.text=s.text∧s.started.state=s.state:=by
  unfold PSt.started;cases ha:s.any
  ·exact⟨by simp,by simp,by simp,rfl,rfl,rfl⟩
  ·exact⟨h.pne ha,h.pl,h.pr,rfl,rfl,rfl⟩
 obtain⟨H,G,E,C,D,B⟩:=I;unfold PSt.digit;split
 ·rename_i hd;refine⟨by show s.started.inter.length≤3;rw[C];exact h.il,fun _=>?_,?_,?_,by show s.started.text.length≤1024;rw[D];exact h.tl,by show 0≤s.started.state∧s.started.state≤7;rw[B];exact h.st,fun e=>by have F:s.started.state=1:=e;show s.started.inter.length≤2;rw[C];exact h.e1 (B ▸ F)⟩
  ·show zaY s.started.params d≠[];intro e;have:=congrArg List.length e;simp[zaY]at this;exact H this
  ·show(zaY s.started.params d).length≤33;simp[zaY];exact G
  ·intro x hx;have A:x∈zaY s.started.params d:=hx;unfold zaY at A;rcases List.mem_or_eq_of_mem_set A with hm | rfl
   ·exact E x hm
   ·exact zfc _ _ hd
 ·split
  ·rename_i h32;refine⟨by show s.started.inter.length≤3;rw[C];exact h.il,fun _=>by simp,?_,?_,by show s.started.text.length≤1024;rw[D];exact h.tl,by show 0≤s.started.state∧s.started.state≤7;rw[B];exact h.st,fun e=>by have F:s.started.state=1:=e;show s.started.inter.length≤2;rw[C];exact h.e1 (B ▸ F)⟩
   ·show(s.started.params++[-1]).length≤33;rw[List.length_append,List.length_singleton];omega
   ·intro x hx;have A:x∈s.started.params++[-1]:=hx;rw[List.mem_append,List.mem_singleton]at A;rcases A with hm | rfl
    ·exact E x hm
    ·decide
  ·exact⟨by rw[C];exact h.il,fun _=>H,G,E,by rw[D];exact h.tl,by rw[B];exact h.st,fun e=>by rw[C];exact h.e1 (B ▸ e)⟩
theorem znB {s:PSt}:s.inter.length≤s.btw+1:=by
 unfold PSt.btw;split <;> omega
theorem zgE {s:PSt} (b:UInt8) (h:s.Fine) (h1:¬ s.state=1):(s.seqd b).1.Fine:=by
 have D:=h.il;have E:=znB (s:=s);have A:s.inter.length≤2→({ s with inter:=s.inter++[b] }:PSt).Fine:=fun h2 =>
  ⟨by show(s.inter++[b]).length≤3;rw[List.length_append,List.length_singleton];omega,h.pne,h.pl,h.pr,h.tl,h.st,fun e=>absurd e h1⟩
 unfold PSt.seqd;split
 ·split
  ·exact zac (by decide)
  ·refine⟨h.il,fun ha=>?_,?_,?_,h.tl,⟨by show(0:Int)≤6;decide,by show(6:Int)≤7;decide⟩,fun e=>by have C:(6:Int)=1:=e;omega⟩
   ·show s.params.take 32≠[];have:=h.pne ha;cases hp:s.params with
    | nil=>exact absurd hp this
    | cons x l=>simp
   ·show(s.params.take 32).length≤33;rw[List.length_take];omega
   ·intro x B;exact h.pr x (List.mem_of_mem_take B)
 split
 ·exact A (by omega)
 split
 ·exact zd1 ((b.toNat:Int)-48) h
 split
 ·exact zd1 (-1) h
 split
 ·exact A (by omega)
 ·exact zfb s
theorem zkO {s:PSt} (b:UInt8) (h:s.Fine):(s.took b).1.Fine:=by
 unfold PSt.took;split
 ·rename_i h1;exact zje b h h1
 rename_i h1;split
 ·exact zgE b h h1
 split
 ·split
  ·by_cases hf:s.frm=5
   ·rw[if_pos hf];exact zac (by decide)
   ·rw[if_neg hf];exact zac (by decide)
  ·exact h
 split
 ·split
  ·rename_i ht;exact⟨h.il,h.pne,h.pl,h.pr,by show(s.text++[b]).length≤1024;rw[List.length_append,List.length_singleton];omega,h.st,h.e1⟩
  ·exact h
 split
 ·exact h
 ·exact⟨h.il,h.pne,h.pl,h.pr,h.tl,h.st,h.e1⟩
theorem zkP {s:PSt} (b:UInt8) (h:s.Fine):(s.step b).1.Fine:=by
 unfold PSt.step;split
 ·exact zeM b h
 ·exact zkO b (zeM b h)
theorem zfK:∀ (l:List UInt8) {s:PSt},s.Fine→(s.run l).1.Fine
 | [],_,h=>h
 | b::l,_,h=>zfK l (zkP b h)
theorem znC {s:PSt} {b:UInt8} (h:(s.any1 b).1=false):32≤(b.toNat:Int):=by
 unfold PSt.any1 at h
 repeat' split at h
 all_goals first | (simp at h;done) | omega | skip
theorem zhT (s:PSt):s.endActs.length≤1:=by
 unfold PSt.endActs;split
 ·simp
 ·split <;> simp
theorem zhU (s:PSt) (b:UInt8):(s.any1 b).2.2.length≤2:=by
 have B:=zhT s;have A:=zeB s.dec;unfold PSt.any1
 repeat' split
 all_goals simp only[List.length_append,List.length_map,List.length_nil,List.length_singleton] <;> omega
theorem zmg (s:PSt) (b:UInt8):(s.took b).2.length≤2:=by
 have A:=zdP s.dec (b.toNat:Int);unfold PSt.took PSt.esced PSt.seqd PSt.fed
 repeat' split
 all_goals simp only[List.length_map,List.length_nil,List.length_singleton] <;> omega
theorem zfL (s:PSt) (b:UInt8):(s.step b).2.length≤4:=by
 have B:=zhU s b;have A:=zmg (s.any1 b).2.1 b;unfold PSt.step;split
 ·omega
 ·rw[List.length_append];omega
theorem zj8:∀ (l:List UInt8) (s:PSt),(s.run l).2.length≤4*l.length
 | [],s=>by simp[PSt.run]
 | b::l,s=>by
  have h1:=zfL s b;have h2:=zj8 l (s.step b).1;simp only[PSt.run,List.length_append,List.length_cons];omega
end
section
open Go.RowKit
def zcJ (T:Nat→Nat) (p:Nat) (w:World) (s:PSt):Prop :=
 (∀ k,T k≠0→k<w.heap.size)∧s.Fine∧∃ d vi vp vt,zcm true T p d .nilFunc vi vp vt w s
theorem zjf {T:Nat→Nat} {p:Nat} {w:World} {s:PSt} (h:zcJ T p w s) :
  zh (own T w) w ((w.setCell ⟨p,2,none⟩ (za9 w.heap.size)).alloc (.cells #[Z0] 90)) ∧
   zaF (own T w) true (adopt T w.heap.size (w.heap.size+1) 3) p w.heap.size ((w.setCell ⟨p,2,none⟩ (za9 w.heap.size)).alloc (.cells #[Z0] 90)) s []:=by
 obtain⟨M,_,d,H,G,J,B⟩:=h;have I:zbi (own T w) T w:=⟨fun k A=>⟨M k A,.inl A⟩,fun k A=>.inr A⟩;have E:((w.setCell ⟨p,2,none⟩ (za9 w.heap.size)).alloc (.cells #[Z0] 90)).heap.size=w.heap.size+1:=(by simp);have g:=zbI (zx (zo w (some p)) 2 (za9 w.heap.size)) (.cells #[Z0] 90);have m:Mod T (fun x=>x=1) w _:=Mod.of_gb g (fun k A=>by injection A with A;subst A;exact B.tp);have D:∀ k,k<w.heap.size→adopt T w.heap.size (w.heap.size+1) 3 k=T k:=fun k A=>zdB A;have C:=I.adopt m.size 3;rw[E]at C;have N:=zI (zz B.blk 2 (za9 w.heap.size)) (.cells #[Z0] 90);have L:((w.setCell ⟨p,2,none⟩ (za9 w.heap.size)).alloc (.cells #[Z0] 90)).heap[w.heap.size]?=some (.cells #[Z0] 90 (0,0)):=by
  have:=heap_alloc_new (w.setCell ⟨p,2,none⟩ (za9 w.heap.size)) (.cells #[Z0] 90);rw[show(w.setCell ⟨p,2,none⟩ (za9 w.heap.size)).heap.size=w.heap.size by simp]at this;exact this
 have F:=(B.retag D).put (u':=true) (s':=s) (tell':=za9 w.heap.size) (vi':=H) (vp':=G) (vt':=J) g N rfl (B.ri.retag fun k A ht=>(D k A).trans ht) (fun _=>(B.rp rfl).retag fun k A ht=>(D k A).trans ht) (B.rt.retag fun k A ht=>(D k A).trans ht);refine⟨m.within I (by decide),d,H,G,J,Z0,[],rfl,C,F,⟨L,zbG _ _ _ _,zdC (Nat.le_refl _) (by omega),fun x hx=>by simp at hx⟩⟩
def zgt (T:Nat→Nat):Nat→Nat:=fun k=>if T k=3∨T k=7 then 0 else T k
theorem zc3 {T:Nat→Nat} {k t:Nat} (h:T k=t) (h3:t≠3) (h7:t≠7):zgt T k=t:=by unfold zgt;rw[if_neg (by omega)];exact h
theorem zmh {T:Nat→Nat} {k:Nat} (h:T k=7):zgt T k=0:=by unfold zgt;rw[if_pos (.inr h)]
theorem zmi {G:Nat→Prop} {T:Nat→Nat} {p o:Nat} {w:World} {s:PSt} {acts:List VAct} (h:zaF G true T p o w s acts) (hf:s.Fine) :
  ∃ vo L,L.map (·.1)=acts∧w.cell? ⟨o,0,none⟩=some vo∧(w.setCell ⟨p,2,none⟩ .nilFunc).cell? ⟨o,0,none⟩=some vo∧w.cell? ⟨p,2,none⟩=some (za9 o)∧(∀ i,w.frozen? ⟨p,i,none⟩=false)∧zh G w (w.setCell ⟨p,2,none⟩ .nilFunc)∧zcJ (zgt T) p (w.setCell ⟨p,2,none⟩ .nilFunc) s ∧
   Row (zgt T) 0 6 vo L.length (zaq L) (w.setCell ⟨p,2,none⟩ .nilFunc)∧(∀ k,vo.ownBlock=some k→G k) ∧
   (∀ x∈L,Row (zgt T) 0 1 x.2 x.1.params.length (x.1.params.map (Value.int .i64)) (w.setCell ⟨p,2,none⟩ .nilFunc)∧∀ k,x.2.ownBlock=some k→G k)∧(∀ k,zgt T k≠0→G k):=by
 obtain⟨d,I,H,M,vo,L,O,F,C,E⟩:=h;have g:=zx (zo w (some p)) 2 .nilFunc;have m:Mod T (fun x=>x=1) w (w.setCell ⟨p,2,none⟩ .nilFunc):=Mod.of_gb g (fun k B=>by injection B with B;subst B;exact C.tp);have N:=zz C.blk 2 .nilFunc;have A:=C.put (u':=true) (s':=s) (tell':=.nilFunc) (vi':=I) (vp':=H) (vt':=M) g N rfl C.ri (fun _=>C.rp rfl) C.rt;have D:=E.mod m (by decide) (by decide) (by decide);have J:∀ k,zgt T k≠0→T k≠0:=fun k B e=>B (zc3 e (by decide) (by decide));refine⟨vo,L,O,za E.blk 0,za D.blk 0,Zd C 2,zA C.blk,m.within F (by decide),⟨fun k B=>?_,hf,d,I,H,M,?_⟩,D.ro.retag fun k _ ht=>zmh ht,fun k B=>(F.tl k (by rw[E.ro.tag k B];decide)).2,fun x hx=>⟨(D.told x hx).1.retag fun k _ ht=>zc3 ht (by decide) (by decide),(E.told x hx).2⟩,fun k B=>(F.tl k (J k B)).2⟩
 ·exact Nat.lt_of_lt_of_le (F.tl k (J k B)).1 m.size
 ·exact⟨A.blk,A.dec,A.dok,A.ri.retag fun k _ ht=>zc3 ht (by decide) (by decide),fun _=>(A.rp rfl).retag fun k _ ht=>zc3 ht (by decide) (by decide),A.rt.retag fun k _ ht=>zc3 ht (by decide) (by decide),zc3 A.tp (by decide) (by decide),zc3 A.td (by decide) (by decide)⟩
theorem Row.within {G:Nat→Prop} {T:Nat→Nat} {t size:Nat} {v:Value} {n:Nat} {xs:List Value} {w w':World} (h:Row T t size v n xs w) (hw:zh G w w') (hg:∀ k,v.ownBlock=some k→¬ G k):zp w' 0 size v n xs :=
 Zu h.own hw.size fun k hk=>hw.block k (zg h.own k hk).2 (hg k hk)
theorem zkQ (l:List UInt8) (k:Nat) (h:k<l.length):l.take (k+1)=l.take k++[l.getD k 0]:=ZJ l 0 k h
theorem zjg {T:Nat→Nat} {p:Nat} {w:World} {s:PSt} (vb:Value) (l:List UInt8) (h:zcJ T p w s) (hv:Row T 0 1 vb l.length (zu l) w) (hl:l.length≤100000000) :
  Calls prog 43 #[.pointer (some ⟨p,0,none⟩),vb] w fun e w'=>∃ vo T' L,e=.returned vo∧L.map (·.1)=(s.run l).2∧zh (own T w) w w'∧zcJ T' p w' (s.run l).1∧(∀ k,T' k≠0→own T w k) ∧
   Row T' 0 6 vo L.length (zaq L) w'∧(∀ k,vo.ownBlock=some k→own T w k)∧∀ x∈L,Row T' 0 1 x.2 x.1.params.length (x.1.params.map (Value.int .i64)) w'∧∀ k,x.2.ownBlock=some k→own T w k:=by
 have J1:∀ (ty:TypeId) (wx:World),(Builtin.len_ #[32] ty #[vb]).run prog wx=.ok (.int .i64 l.length) wx:=zcU underlying32 hv.own;have L1:∀ (fn:Fn) (first cap:Array Value) (w:World),(Instr.makeFunc fn first cap).run prog w=.ok (.func fn first cap) w:=fun _ _ _ _=>rfl;have HV:=Qh hv;have HN:=Qh (show ∀ k,vb.ownBlock=some k→¬ own T w k from fun k hk hg=>by
  rcases hg with hg | hg
  ·exact hg (hv.tag k hk)
  ·have:=(zg hv.own k hk).2;omega)
 obtain⟨U,C0⟩:=zjf h;have Y0:=Qh U;have S0:=Qh C0;have HF:=Qh h.2.1;obtain⟨X0,T0,d,vi,vp,vt,X⟩:=h;have fz:=zA X.blk;have c2:w.cell? ⟨p,2,none⟩=some .nilFunc:=Zd X 2;have O1:=zq X.blk;have N:=zI X.blk (.cells #[Z0] 90);have a2:(w.alloc (.cells #[.slice none 0 0] 90)).cell? ⟨p,2,none⟩=some .nilFunc:=za N 2;have T1:∀ i,(w.alloc (.cells #[.slice none 0 0] 90)).frozen? ⟨p,i,none⟩=false:=zA N;clear hv U C0 X0 T0 X N;generalize own T w=G at *;go_enter func43,ntmps43;go_wp2_with fail
 go_loopw [14] (fun iv wr=>∃ k:Nat,k≤l.length∧iv=.int .i64 k∧zh G w wr∧zhB G true p w.heap.size wr (s.run (l.take k)).1 (s.run (l.take k)).2) (fun iv _=>l.length-(intOf iv).toNat)
 case atStart=>exact⟨0,by omega,rfl,Y0,_,S0⟩
 case round =>
  obtain⟨k,hk,rfl,hw,T2,hi⟩:=hrel;have HW:=Qh hw;have HI:=Qh hi;clear hw hi;by_cases hlt:k<l.length
  ·have HO:=Qh (HV.within HW HN);obtain⟨b0,I1,c0,V,X1,⟨x,F,U1⟩,_,_⟩:=zeD underlying32 (by kernel_rfl) HO k hlt;have G1:x=.int .u8 ((l.getD k 0).toNat:Int):=by
    unfold zu at F;rw[List.getElem?_map,List.getElem?_eq_getElem hlt]at F;rw[List.getD_eq_getElem?_getD,List.getElem?_eq_getElem hlt];exact(Option.some.inj F).symm
   subst G1;have I:=Qh (zmf (l.take k) (l.getD k 0) s);rw[← zkQ l k hlt]at I;have O0:=zj8 (l.take k) s;have M1:(l.take k).length≤k:=List.length_take_le _ _;have L0:=Qh (zfK (l.take k) HF);generalize l.getD k 0=b at *;generalize s.run (l.take k)=R at *;obtain⟨H,H1⟩:=R;dsimp only at O0 L0 HI I;have B:=Qh (show H.step b=if (H.any1 b).1 then (H.any1 b).2 else ((((H.any1 b).2.1).took b).1,(H.any1 b).2.2++(((H.any1 b).2.1).took b).2) from rfl);have Z:=Qh (zhe b HI (by omega));have H0:=Qh (zeM b L0);have J:=Qh (znC (s:=H) (b:=b));have E1:=zhU H b;generalize H.any1 b=A at *;obtain⟨ab,s2,B1⟩:=A;dsimp only at B Z H0 J E1;have V1:=Qh V;clear F V;go_wp2_with fail;refine Z.mono ?_;rintro e w2 ⟨rfl,J0,T3,B0⟩;have S:=Qh (HW.trans J0);have F0:=Qh B0;clear J0 B0;cases ab
   ·rw[if_neg (by decide)]at B;have N0:=Qh (zl7 b F0 H0 (by rw[List.length_append];omega) (J rfl));go_wp2_with fail;refine N0.mono ?_;rintro e w4 ⟨rfl,A0,Y⟩;have C1:=Qh (S.trans A0);have R0:=Qh Y;clear A0 Y;go_wp2_with fail;go_roundw
    case rel =>
     refine⟨k+1,by omega,by go_num,C1,?_⟩;have:=R0.out;rw[I.out,B.out];rw[List.append_assoc]at this;exact this
    case measure=>simp[intOf];omega
   ·rw[if_pos rfl]at B;go_wp2_with fail;go_roundw
    case rel =>
     refine⟨k+1,by omega,by go_num,S,T3,?_⟩;rw[I.out,B.out];exact F0
    case measure=>simp[intOf];omega
  ·have M0:k=l.length:=(by omega);have HE:=Qh (show(l.take k)=l by rw[M0,List.take_length]);rw[HE.out]at HI;have U0:=Qh (zfK l HF);obtain⟨vo,L,hL,N1,S1,V0,R1,G0,C,D,I0,E,D0⟩:=zmi HI U0;obtain⟨xo,mo,co,rfl⟩:=zR D.own;have HL:=Qh hL;have F1:=Qh (HW.trans G0);have M:=Qh C;have E0:=Qh D;have A1:=Qh I0;have O:=Qh E;have D1:=Qh D0;clear hL G0 C D I0 E D0;unfold za9 at V0;go_wp2_with fail;go_ret;exact⟨_,zgt T2,L,rfl,HL,F1,M,D1,E0,A1,O⟩
end
section
open Go.RowKit
theorem zfd:∀ (L:List (VAct × Value)) (j:Nat) (hj:j<L.length) (i:Nat),i<6→(zaq L)[j*6+i]?=(L[j].1.cells L[j].2)[i]?
 | x::L,0,_,i,hi=>by
  simp only[zaq,List.flatMap_cons,Nat.zero_mul,Nat.zero_add];rw[List.getElem?_append_left (by simp[VAct.cells];omega)];rfl
 | x::L,j+1,hj,i,hi=>by
  have hl:(x.1.cells x.2).length=6:=rfl;simp only[zaq,List.flatMap_cons];rw[List.getElem?_append_right (by rw[hl];omega),hl,show(j+1)*6+i-6=j*6+i by omega];exact zfd L j (by simpa using hj) i hi
def zpt (T:Nat→Nat) (w:World) (v:Value) (L:List (VAct × Value)):Prop :=
 Row T 0 6 v L.length (zaq L) w∧∀ x∈L,Row T 0 1 x.2 x.1.params.length (x.1.params.map (Value.int .i64)) w
theorem zcJ.below {T:Nat→Nat} {p:Nat} {w w':World} {s:PSt} (h:zcJ T p w s) (g:Below w.heap.size w w'):zcJ T p w' s:=by
 obtain⟨C,D,d,B,A,E,F⟩:=h;exact⟨fun k hk=>Nat.lt_of_lt_of_le (C k hk) g.size,D,d,B,A,E,F.mod (.of_below g) id id id id id⟩
theorem zcd {k:IntKind} {w:World} {v:Value} {l:List Int} (h:zfx k w v l):l.length≤9223372036854775807:=by
 rcases h with ⟨_,rfl⟩ | ⟨a,c,_,h1,h2,_⟩
 ·simp
 ·omega
end
section
open Go.RowKit
theorem zgF {Tp Tq:Nat→Nat} {q:Nat} {w w':World} {s:PSt} (hq:zcJ Tq q w s) (hw:zh (own Tp w) w w') (hd:∀ k,Tq k≠0→Tp k=0):zcJ Tq q w' s:=by
 obtain⟨C,D,d,B,A,E,F⟩:=hq;have m:Mod Tq (fun x=>x=0) w w':=⟨hw.os,hw.tape,hw.output,hw.size,fun k hk h0=>hw.block k hk (fun e=>by
  rcases e with e | e
  ·exact e (hd k h0)
  ·omega)⟩
 exact⟨fun k hk=>Nat.lt_of_lt_of_le (C k hk) hw.size,D,d,B,A,E,F.mod m (by decide) (by decide) (by decide) (by decide) (by decide)⟩
def zpa (o:Option Nat):Value:=.pointer (o.map fun q=>⟨q,0,none⟩)
def Scr.cells (s:Scr) (pm:Nat) (po:Option Nat) (pp:Nat) (vt vo:Value):Array Value :=
 #[.int .i64 s.now.x,.int .i64 s.now.y,.bool s.now.wait,.int .i64 s.now.pen.fg,.int .i64 s.now.pen.bg,.int .i64 s.now.pen.attr,.bool s.now.origin,.bool s.now.l0,.bool s.now.l1,.int .i64 s.now.second,
  .pointer (some ⟨pm,0,none⟩),zpa po,
  .int .i64 s.k0.x,.int .i64 s.k0.y,.bool s.k0.wait,.int .i64 s.k0.pen.fg,.int .i64 s.k0.pen.bg,.int .i64 s.k0.pen.attr,.bool s.k0.origin,.bool s.k0.l0,.bool s.k0.l1,.int .i64 s.k0.second,
  .int .i64 s.k1.x,.int .i64 s.k1.y,.bool s.k1.wait,.int .i64 s.k1.pen.fg,.int .i64 s.k1.pen.bg,.int .i64 s.k1.pen.attr,.bool s.k1.origin,.bool s.k1.l0,.bool s.k1.l1,.int .i64 s.k1.second,
  .int .i64 s.modes,.int .i64 s.top,.int .i64 s.bottom,vt,.string ⟨s.title.toArray⟩,.int .i32 s.last,.int .i64 s.bells,.pointer (some ⟨pp,0,none⟩),vo]
def Oth (To:Nat→Nat) (po:Option Nat) (w:World) (o:Option Gr):Prop:=(po=none∧o=none∧∀ k,To k=0)∨∃ q g,po=some q∧o=some g∧GM To q w g
theorem Oth.kept {Tp To:Nat→Nat} {po:Option Nat} {w w':World} {o:Option Gr} (h:Oth To po w o) (hw:zh (own Tp w) w w') (hd:∀ k,To k≠0→Tp k=0):Oth To po w' o:=by
 rcases h with h | ⟨q,g,h1,h2,hg⟩
 ·exact .inl h
 ·exact .inr ⟨q,g,h1,h2,hg.other hw hd⟩
structure SAt (C Tm To Tp:Nat→Nat) (p pm:Nat) (po:Option Nat) (pp:Nat) (vt vo:Value) (w:World) (s:Scr) (ps:PSt):Prop where
 lt:∀ k,C k≠0→k<w.heap.size
 cp:C p=1
 blk:w.heap[p]?=some (.cells (s.cells pm po pp vt vo) 89 (0,0))
 gm:GM Tm pm w s.main
 go:Oth To po w s.other
 rp:zcJ Tp pp w ps
 ta:zp w 0 1 vt s.tabs.length (s.tabs.map Value.bool)
 ou:zp w 0 1 vo s.out.length (zu s.out)
 t2:∀ k,vt.ownBlock=some k→C k=2
 t3:∀ k,vo.ownBlock=some k→C k=3
 t4:∀ k,Tm k≠0→C k=4
 t5:∀ k,To k≠0→C k=5
 t6:∀ k,Tp k≠0→C k=6
def SM (C:Nat→Nat) (p:Nat) (w:World) (s:Scr) (ps:PSt):Prop:=∃ Tm To Tp pm po pp vt vo,SAt C Tm To Tp p pm po pp vt vo w s ps
structure zaT (C:Nat→Nat) (c:Nat) (w w':World):Prop where
 wi:zh (fun k=>C k=c∨w.heap.size≤k) w w'
theorem zaT.of_own {C T:Nat→Nat} {c:Nat} {w w':World} (h:zh (own T w) w w') (ht:∀ k,T k≠0→C k=c):zaT C c w w':=⟨h.mono fun k hk=>by
 rcases hk with e | e
 ·exact .inl (ht k e)
 ·exact .inr e⟩
theorem zaT.of_gb {C:Nat→Nat} {c:Nat} {w w':World} {row:Option Nat} (h:w.grownBy w' row) (ht:∀ k,row=some k→C k=c∨w.heap.size≤k):zaT C c w w':=⟨zh.of_gb h ht⟩
theorem zaT.own {C:Nat→Nat} {c:Nat} {w w':World} (h:zaT C c w w') (hc:c≠0):zh (own C w) w w':=h.wi.mono fun k hk=>by
 rcases hk with e | e
 ·exact .inl (by rw[e];exact hc)
 ·exact .inr e
theorem zaT.blk {C:Nat→Nat} {c d k:Nat} {w w':World} {o:Obj} (h:zaT C c w w') (hk:w.heap[k]?=some o) (hd:C k=d) (hn:d≠c):w'.heap[k]?=some o :=
 (h.wi.block k (zq hk) (fun e=>by
  have:=zq hk;rcases e with e | e
  ·exact hn (by rw[← hd,e])
  ·omega)).trans hk
theorem zaT.row {C:Nat→Nat} {c d n:Nat} {v:Value} {xs:List Value} {w w':World} {size:Nat} (h:zaT C c w w') (ho:zp w 0 size v n xs) (hd:∀ k,v.ownBlock=some k→C k=d) (hn:d≠c):zp w' 0 size v n xs :=
 Zu ho h.wi.size fun k hk=>h.wi.block k (zg ho k hk).2 (fun e=>by
  have:=(zg ho k hk).2;rcases e with e | e
  ·exact hn (by rw[← hd k hk,e])
  ·omega)
theorem zaT.tags {C:Nat→Nat} {c d:Nat} {w w':World} {T:Nat→Nat} (h:zaT C c w w') (hd:∀ k,T k≠0→C k=d) (hn:d≠c):∃ Tp,zh (Go.Proofs.YthehkmopdeebmaaGreatDoor.own Tp w) w w'∧∀ k,T k≠0→Tp k=0:=by
 refine⟨fun k=>if C k=c then 1 else 0,h.wi.mono fun k hk=>?_,fun k hk=>?_⟩
 ·rcases hk with e | e
  ·exact .inl (by show(if C k=c then 1 else 0)≠0;rw[if_pos e];decide)
  ·exact .inr e
 ·show(if C k=c then 1 else 0)=0;rw[if_neg (fun e=>hn (by rw[← hd k hk,e]))]
theorem zaT.gm {C:Nat→Nat} {c d q:Nat} {w w':World} {T:Nat→Nat} {g:Gr} (h:zaT C c w w') (hg:GM T q w g) (hd:∀ k,T k≠0→C k=d) (hn:d≠c):GM T q w' g:=by
 obtain⟨D,B,A⟩:=h.tags hd hn;exact hg.other B A
theorem zaT.oth {C:Nat→Nat} {c d:Nat} {q:Option Nat} {w w':World} {T:Nat→Nat} {g:Option Gr} (h:zaT C c w w') (hg:Oth T q w g) (hd:∀ k,T k≠0→C k=d) (hn:d≠c):Oth T q w' g:=by
 obtain⟨D,B,A⟩:=h.tags hd hn;exact hg.kept B A
theorem zaT.rest {C:Nat→Nat} {c d q:Nat} {w w':World} {T:Nat→Nat} {s:PSt} (h:zaT C c w w') (hg:zcJ T q w s) (hd:∀ k,T k≠0→C k=d) (hn:d≠c):zcJ T q w' s:=by
 obtain⟨D,B,A⟩:=h.tags hd hn;exact zgF hg B A
def reC (C:Nat→Nat) (c:Nat) (T':Nat→Nat):Nat→Nat:=fun k=>if T' k≠0 then c else if C k=c then 0 else C k
theorem zbZ {C T':Nat→Nat} {c k:Nat} (h:T' k≠0):reC C c T' k=c:=by unfold reC;rw[if_pos h]
theorem znD {C T':Nat→Nat} {c d k:Nat} (h:C k=d) (hd:d≠c) (h0:T' k=0):reC C c T' k=d:=by unfold reC;rw[if_neg (by rw[h0];decide),if_neg (by rw[h];exact hd),h]
theorem zaE {C T':Nat→Nat} {c k:Nat} (h:reC C c T' k≠0):T' k≠0∨C k≠0:=by
 unfold reC at h;by_cases h1:T' k≠0
 ·exact .inl h1
 ·rw[if_neg h1]at h;by_cases h2:C k=c
  ·rw[if_pos h2]at h;exact absurd rfl h
  ·rw[if_neg h2]at h;exact .inr h
theorem zcK {C T T':Nat→Nat} {c d k:Nat} {w:World} (hlt:∀ k,C k≠0→k<w.heap.size) (ht:∀ k,T k≠0→C k=c) (hn:∀ k,T' k≠0→own T w k) (h:C k=d) (h0:d≠0) (hd:d≠c):reC C c T' k=d:=by
 refine znD h hd (Classical.byContradiction fun e=>?_);rcases hn k e with e2 | e2
 ·exact hd (by rw[← h];exact ht k e2)
 ·have:=hlt k (by rw[h];exact h0);omega
section
variable {C Tm To Tp:Nat→Nat} {p pm:Nat} {po:Option Nat} {pp:Nat} {vt vo:Value} {w w':World} {s:Scr} {ps:PSt}
theorem SAt.below (h:SAt C Tm To Tp p pm po pp vt vo w s ps) (b:Below w.heap.size w w'):SAt C Tm To Tp p pm po pp vt vo w' s ps :=
 ⟨fun k hk=>Nat.lt_of_lt_of_le (h.lt k hk) b.size,h.cp,zr h.blk b (zq h.blk),h.gm.below b,by
  rcases h.go with e | ⟨q,g,h1,h2,hg⟩
  ·exact .inl e
  ·exact .inr ⟨q,g,h1,h2,hg.below b⟩,h.rp.below b,zk h.ta b,zk h.ou b,h.t2,h.t3,h.t4,h.t5,h.t6⟩
theorem SAt.field (h:SAt C Tm To Tp p pm po pp vt vo w s ps) (i:Nat) (v:Value) {s':Scr} (hs:(s.cells pm po pp vt vo).setIfInBounds i v=s'.cells pm po pp vt vo) (h1:s'.main=s.main) (h2:s'.other=s.other) (h3:s'.tabs=s.tabs) (h4:s'.out=s.out) :
  SAt C Tm To Tp p pm po pp vt vo (w.setCell ⟨p,i,none⟩ v) s' ps:=by
 have g:w.grownBy (w.setCell ⟨p,i,none⟩ v) (some p):=zx (zo _ _) _ _;have K:zaT C 1 w (w.setCell ⟨p,i,none⟩ v):=.of_gb g (fun k A=>by injection A with A;subst A;exact .inl h.cp);refine⟨fun k A=>Nat.lt_of_lt_of_le (h.lt k A) g.size,h.cp,by rw[← hs];exact zz h.blk i v,by rw[h1];exact K.gm h.gm h.t4 (by decide),by rw[h2];exact K.oth h.go h.t5 (by decide),K.rest h.rp h.t6 (by decide),?_,?_,h.t2,h.t3,h.t4,h.t5,h.t6⟩
 ·rw[h3];exact K.row h.ta h.t2 (by decide)
 ·rw[h4];exact K.row h.ou h.t3 (by decide)
theorem SAt.main' {T':Nat→Nat} {g':Gr} (h:SAt C Tm To Tp p pm po pp vt vo w s ps) (hw:zh (own Tm w) w w') (hg:GM T' pm w' g') (hn:∀ k,T' k≠0→own Tm w k) :
  SAt (reC C 4 T') T' To Tp p pm po pp vt vo w' { s with main:=g' } ps∧∀ k,reC C 4 T' k≠0→own C w k:=by
 have K:=zaT.of_own hw h.t4;have A:∀ {d k:Nat},C k=d→d≠0→d≠4→reC C 4 T' k=d:=fun e h0 hd=>zcK h.lt h.t4 hn e h0 hd;refine⟨⟨fun k hk2=>?_,A h.cp (by decide) (by decide),K.blk h.blk h.cp (by decide),hg,K.oth h.go h.t5 (by decide),K.rest h.rp h.t6 (by decide),K.row h.ta h.t2 (by decide),K.row h.ou h.t3 (by decide),fun k e=>A (h.t2 k e) (by decide) (by decide),fun k e=>A (h.t3 k e) (by decide) (by decide),fun k e=>zbZ e,fun k e=>A (h.t5 k e) (by decide) (by decide),fun k e=>A (h.t6 k e) (by decide) (by decide)⟩,fun k hk2=>?_⟩
 ·rcases zaE hk2 with e | e
  ·exact hg.lt k e
  ·exact Nat.lt_of_lt_of_le (h.lt k e) hw.size
 ·rcases zaE hk2 with e | e
  ·rcases hn k e with e2 | e2
   ·exact .inl (by rw[h.t4 k e2];decide)
   ·exact .inr e2
  ·exact .inl e
theorem SAt.other' {T':Nat→Nat} {q:Nat} {g g':Gr} (h:SAt C Tm To Tp p pm (some q) pp vt vo w s ps) (hw:zh (own To w) w w') (hg:GM T' q w' g') (hn:∀ k,T' k≠0→own To w k) :
  SAt (reC C 5 T') Tm T' Tp p pm (some q) pp vt vo w' { s with other:=some g' } ps∧∀ k,reC C 5 T' k≠0→own C w k:=by
 have K:=zaT.of_own hw h.t5;have A:∀ {d k:Nat},C k=d→d≠0→d≠5→reC C 5 T' k=d:=fun e h0 hd=>zcK h.lt h.t5 hn e h0 hd;refine⟨⟨fun k hk2=>?_,A h.cp (by decide) (by decide),K.blk h.blk h.cp (by decide),K.gm h.gm h.t4 (by decide),.inr ⟨q,g',rfl,rfl,hg⟩,K.rest h.rp h.t6 (by decide),K.row h.ta h.t2 (by decide),K.row h.ou h.t3 (by decide),fun k e=>A (h.t2 k e) (by decide) (by decide),fun k e=>A (h.t3 k e) (by decide) (by decide),fun k e=>A (h.t4 k e) (by decide) (by decide),fun k e=>zbZ e,fun k e=>A (h.t6 k e) (by decide) (by decide)⟩,fun k hk2=>?_⟩
 ·rcases zaE hk2 with e | e
  ·exact hg.lt k e
  ·exact Nat.lt_of_lt_of_le (h.lt k e) hw.size
 ·rcases zaE hk2 with e | e
  ·rcases hn k e with e2 | e2
   ·exact .inl (by rw[h.t5 k e2];decide)
   ·exact .inr e2
  ·exact .inl e
theorem SAt.parser' {T':Nat→Nat} {ps':PSt} (h:SAt C Tm To Tp p pm po pp vt vo w s ps) (hw:zh (own Tp w) w w') (hg:zcJ T' pp w' ps') (hn:∀ k,T' k≠0→own Tp w k) :
  SAt (reC C 6 T') Tm To T' p pm po pp vt vo w' s ps'∧∀ k,reC C 6 T' k≠0→own C w k:=by
 have K:=zaT.of_own hw h.t6;have A:∀ {d k:Nat},C k=d→d≠0→d≠6→reC C 6 T' k=d:=fun e h0 hd=>zcK h.lt h.t6 hn e h0 hd;refine⟨⟨fun k hk2=>?_,A h.cp (by decide) (by decide),K.blk h.blk h.cp (by decide),K.gm h.gm h.t4 (by decide),K.oth h.go h.t5 (by decide),hg,K.row h.ta h.t2 (by decide),K.row h.ou h.t3 (by decide),fun k e=>A (h.t2 k e) (by decide) (by decide),fun k e=>A (h.t3 k e) (by decide) (by decide),fun k e=>A (h.t4 k e) (by decide) (by decide),fun k e=>A (h.t5 k e) (by decide) (by decide),fun k e=>zbZ e⟩,fun k hk2=>?_⟩
 ·rcases zaE hk2 with e | e
  ·exact hg.1 k e
  ·exact Nat.lt_of_lt_of_le (h.lt k e) hw.size
 ·rcases zaE hk2 with e | e
  ·rcases hn k e with e2 | e2
   ·exact .inl (by rw[h.t6 k e2];decide)
   ·exact .inr e2
  ·exact .inl e
end
theorem zdG {C0 C:Nat→Nat} {w0 w w':World} (h:zh (own C0 w0) w0 w) (hn:∀ k,C k≠0→own C0 w0 k) (hw:zh (own C w) w w'):zh (own C0 w0) w0 w' :=
 h.trans (hw.mono fun k hk=>by
  rcases hk with e | e
  ·exact hn k e
  ·exact .inr (by have:=h.size;omega))
end
end Go.Proofs.YthehkmopdeebmaaGreatDoor
