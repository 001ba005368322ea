/- Part. -/
import Derived.Test.YthehkmopdeebmaaGreatDoorY16
import Derived.Test.YthehkmopdeebmaaGreatDoorY21
import Derived.Test.YthehkmopdeebmaaGreatDoorY23
set_option linter.unusedVariables false
set_option linter.unusedSimpArgs false
namespace Go.Proofs.YthehkmopdeebmaaGreatDoor
section
open Go.RowKit
def Sav.Wt (c:Nat) (v:Sav):Prop:=v.wait=true→v.x=(c:Int)-1
theorem Sav.Wt.off {c:Nat} {v:Sav} (h:v.wait=false):v.Wt c:=fun e=>by rw[h]at e;cases e
def Sn (c r:Nat) (s:Scr):Prop:=s.now.Wt c∧s.k0.Wt c∧s.k1.Wt c∧(s.top<s.bottom∨r=1)
section
variable {c r:Nat} {s:Scr}
theorem Sn.now (h:Sn c r s) {v:Sav} (hv:v.Wt c):Sn c r { s with now:=v }:=⟨hv,h.2.1,h.2.2.1,h.2.2.2⟩
theorem Sn.turn (h:Sn c r s) (f:Gr→Gr):Sn c r (s.turn f):=by
 unfold Scr.turn;cases ho:s.other with
 | none=>exact h
 | some g=>exact h
theorem Sn.index (h:Sn c r s):Sn c r s.index:=by
 unfold Scr.index;split
 ·exact h.turn _
 ·split
  ·exact h
  ·exact h
theorem Sn.reverse (h:Sn c r s):Sn c r s.reverse:=by
 unfold Scr.reverse;split
 ·exact h.turn _
 ·split
  ·exact h
  ·exact h
theorem Sn.calm (h:Sn c r s):Sn c r s.calm:=h.now (.off rfl)
theorem Sn.place (h:Sn c r s) (x y:Int):Sn c r (s.place x y):=h.now (.off rfl)
theorem zfZ (s:Scr):s.index.now.wait=s.now.wait:=by
 unfold Scr.index;split
 ·rw[za3]
 ·split
  ·rfl
  ·rfl
theorem znW (s:Scr):s.on.now.wait=s.now.wait:=by
 unfold Scr.on;rw[zfZ];show((s.turn fun g=>g.setWrap s.now.y true).now).wait=_;rw[za3]
def Sk (c r:Nat) (s:Scr):Prop:=s.k0.Wt c∧s.k1.Wt c∧(s.top<s.bottom∨r=1)
theorem Sk.turn (h:Sk c r s) (f:Gr→Gr):Sk c r (s.turn f):=by
 unfold Scr.turn;cases ho:s.other with
 | none=>exact h
 | some g=>exact h
theorem Sk.index (h:Sk c r s):Sk c r s.index:=by
 unfold Scr.index;split
 ·exact h.turn _
 ·split
  ·exact h
  ·exact h
theorem Sk.on (h:Sk c r s):Sk c r s.on:=by
 have A:Sk c r ((s.turn fun g=>g.setWrap s.now.y true).toX 0):=h.turn _;exact A.index
theorem Sk.sn (h:Sk c r s) (hw:s.now.wait=false):Sn c r s:=⟨.off hw,h⟩
theorem Sn.sk (h:Sn c r s):Sk c r s:=h.2
theorem Sk.fit (h:Sk c r s) (w:Int):Sk c r (s.fit w)∧(s.fit w).now.wait=false:=by
 unfold Scr.fit;have B:Sk c r (if s.now.wait && s.has 1 then s.on else s):=by
  split
  ·exact h.on
  ·exact h
 generalize (if s.now.wait && s.has 1 then s.on else s)=t at B;have A:Sk c r t.calm:=B;have C:t.calm.now.wait=false:=rfl;dsimp only;split
 ·split
  ·exact⟨A.on,(znW _).trans C⟩
  ·exact⟨A,rfl⟩
 ·exact⟨A,rfl⟩
theorem Sk.lay (h:Sk c r s) (hw:s.now.wait=false) (hok:s.Ok c r) (q w:Int):Sn c r (s.lay q w):=by
 unfold Scr.lay;have A:Sk c r (if s.has 2 then s.turn (fun g=>g.ins s.now.x s.now.y w s.blank) else s)∧(if s.has 2 then s.turn (fun g=>g.ins s.now.x s.now.y w s.blank) else s).now=s.now∧(if s.has 2 then s.turn (fun g=>g.ins s.now.x s.now.y w s.blank) else s).Ok c r:=by
  split
  ·exact⟨h.turn _,za3 _ _,hok.turn _ fun g hg=>zen hg _ _ _ _⟩
  ·exact⟨h,rfl,hok⟩
 generalize (if s.has 2 then s.turn (fun g=>g.ins s.now.x s.now.y w s.blank) else s)=t at A;obtain⟨A,E,F⟩:=A;dsimp only;have B:Sk c r (t.turn (fun g=>g.put t.now.x t.now.y ⟨q,w,t.now.pen⟩)):=A.turn _;have D:=za3 t (fun g=>g.put t.now.x t.now.y ⟨q,w,t.now.pen⟩);have C:(t.turn (fun g=>g.put t.now.x t.now.y ⟨q,w,t.now.pen⟩)).Ok c r:=F.turn _ fun g hg=>zem hg _ _ _;generalize t.turn (fun g=>g.put t.now.x t.now.y ⟨q,w,t.now.pen⟩)=u at B D C;split
 ·refine⟨fun _=>?_,B⟩;show u.cols-1=_;rw[C.cols]
 ·refine⟨.off ?_,B⟩;show u.now.wait=false;rw[D,E,hw]
theorem Sn.print (h:Sn c r s) (hok:s.Ok c r) (hc:1≤c) (x:Int):Sn c r (s.print x):=by
 unfold Scr.print;dsimp only;split
 ·exact h
 ·next hw =>
  have A:=hok.cols;obtain⟨B,C⟩:=h.sk.fit (wid (s.drawn x));exact B.lay C (hok.fit hc _ (by omega) (by omega)).1 _ _
theorem Sn.control (h:Sn c r s) (b:UInt8):Sn c r (s.control b):=by
 have B:∀ x,Sn c r (s.calm.toX x):=fun x=>h.calm.now (.off rfl);unfold Scr.control;dsimp only;by_cases hk:8≤(b.toNat:Int)∧(b.toNat:Int)≤13
 ·rw[if_pos hk];have C:=h.calm.index;have A:∀ x,Sn c r (s.calm.index.toX x):=fun x=>C.now (.off (by show s.calm.index.now.wait=false;rw[zfZ];rfl));split
  ·exact h.calm
  split
  ·exact B _
  split
  ·exact h.calm.place _ _
  split
  ·split
   ·exact A 0
   ·exact C
  split
  ·exact B _
  split
  ·exact h.calm
  ·exact h.calm
 ·rw[if_neg hk];split
  ·exact h
  rw[if_neg (by omega),if_neg (by omega),if_neg (by omega),if_neg (by omega)];split
  ·exact h
  ·exact h
theorem Sn.setSlot (h:Sn c r s) {v:Sav} (hv:v.Wt c):Sn c r (s.setSlot v):=by
 unfold Scr.setSlot;split
 ·exact⟨h.1,h.2.1,hv,h.2.2.2⟩
 ·exact⟨h.1,hv,h.2.2.1,h.2.2.2⟩
theorem Sn.slot (h:Sn c r s):s.slot.Wt c:=by
 unfold Scr.slot;split
 ·exact h.2.2.1
 ·exact h.2.1
theorem Sn.save (h:Sn c r s):Sn c r s.save:=by
 have A:Sn c r { s with now:={ s.now with origin:=s.has 4 } }:=h;exact A.setSlot A.1
theorem Sn.restore (h:Sn c r s):Sn c r s.restore:=h.now h.slot
theorem Sn.keep (h:Sn c r s) (on:Bool):Sn c r (s.keep on):=by
 unfold Scr.keep;split
 ·exact h.save
 ·exact h.restore
theorem Sn.whole (h:Sn c r s) (hok:s.Ok c r) (hr:1≤r):Sn c r s.whole:=⟨h.1,h.2.1,h.2.2.1,by
 show(0:Int)<s.rows-1∨r=1;have:=hok.rows;omega⟩
theorem Sn.swap (h:Sn c r s) (hok:s.Ok c r) (hr:1≤r) (on:Bool):Sn c r (s.swap on):=by
 unfold Scr.swap;split
 ·exact h
 ·refine⟨.off rfl,h.2.1,h.2.2.1,?_⟩;show(0:Int)<(s.main.rows.length:Int)-1∨r=1;rw[hok.main.2];omega
theorem Sn.fill (h:Sn c r s) (hok:s.Ok c r) (hr:1≤r):Sn c r s.fill:=((h.whole hok hr).place 0 0).turn _
theorem Sn.reset (hok:s.Ok c r) (_hc:1≤c) (hr:1≤r):Sn c r s.reset:=by
 refine⟨.off rfl,.off rfl,.off rfl,?_⟩;show(0:Int)<((Z1 s.main.cols s.main.rows.length s.main.limit).rows.length:Int)-1∨r=1;have A:zaR c r (Z1 s.main.cols s.main.rows.length s.main.limit):=(by rw[hok.main.1,hok.main.2];exact zdq);rw[A.2];omega
theorem Sn.bare (h:Sn c r s) (hok:s.Ok c r) (hc:1≤c) (hr:1≤r) (b:UInt8):Sn c r (s.bare b):=by
 have A:Sk c r (s.toX 0):=h.sk;unfold Scr.bare;dsimp only;split
 ·exact h.save
 split
 ·exact h.restore
 split
 ·exact A.index.sn (s:=(s.toX 0).index.calm) rfl
 split
 ·exact h.index.calm
 split
 ·exact h.reverse.calm
 split
 ·exact h
 split
 ·exact .reset hok hc hr
 split
 ·exact h
 split
 ·exact h
 ·exact h
theorem Sn.escape (h:Sn c r s) (hok:s.Ok c r) (hc:1≤c) (hr:1≤r) (b:UInt8) (i:List UInt8):Sn c r (s.escape b i):=by
 unfold Scr.escape;dsimp only
 repeat' split
 all_goals first | exact h | exact h.fill hok hr | exact h.bare hok hc hr b
theorem zhp {f:Scr→Scr} (hf:∀ t:Scr,t.Ok c r→Sn c r t→(f t).Ok c r∧Sn c r (f t)):∀ (n:Nat) (t:Scr),t.Ok c r→Sn c r t→Sn c r (itF f n t)
 | 0,_,_,h=>h
 | n+1,t,ho,h=>zhp hf n (f t) (hf t ho h).1 (hf t ho h).2
theorem zf0 {f:Scr→Nat→Scr} (hf:∀ (t:Scr) i,t.Ok c r→Sn c r t→(f t i).Ok c r∧Sn c r (f t i)):∀ (l:List Nat) (t:Scr),t.Ok c r→Sn c r t→Sn c r (l.foldl f t)
 | [],_,_,h=>h
 | i::l,t,ho,h=>zf0 hf l (f t i) (hf t i ho h).1 (hf t i ho h).2
theorem Sn.toX0 (h:Sn c r s) (hw:s.now.wait=false) (x:Int):Sn c r (s.toX x):=h.now (.off hw)
theorem Sn.move (h:Sn c r s) (hok:s.Ok c r) (hc:1≤c) (hr:1≤r) (k n:Int):∀ t,s.move k n=some t→Sn c r t:=by
 intro t ht;unfold Scr.move at ht
 repeat' split at ht
 all_goals first
  | (cases ht;exact h.place _ _)
  | (injection ht with ht;subst ht;exact(h.place _ _).toX0 rfl _)
  | (injection ht with ht;subst ht;exact zhp (f:=Scr.tab) (fun u ho hu=>⟨ho.tab hc hr,hu.place _ _⟩) _ _ hok h)
  | (injection ht with ht;subst ht;exact zhp (f:=Scr.back) (fun u ho hu=>⟨ho.back hc hr,hu.place _ _⟩) _ _ hok h)
  | cases ht
theorem Sn.edit (h:Sn c r s) (hok:s.Ok c r) (hc:1≤c) (k n:Int):∀ t,s.edit k n=some t→Sn c r t:=by
 have A:Sn c r ((s.toX 0).calm):=h.now (.off rfl);intro t ht;unfold Scr.edit at ht;split at ht
 ·cases ht;exact(h.turn _).calm
 split at ht
 ·cases ht;exact(h.turn _).calm
 split at ht
 ·cases ht;exact(h.turn _).calm
 split at ht
 ·cases ht;split
  ·exact A.turn _
  ·exact h
 split at ht
 ·cases ht;split
  ·exact A.turn _
  ·exact h
 split at ht
 ·cases ht;exact h.turn _
 split at ht
 ·cases ht;exact h.turn _
 split at ht
 ·cases ht;refine zhp (fun u ho hu=>?_) _ _ hok h;split
  ·exact⟨ho.print hc _,hu.print ho hc _⟩
  ·exact⟨ho,hu⟩
 ·cases ht
theorem Sn.clean (h:Sn c r s) (y z:Int):Sn c r (s.clean y z):=h.turn _
theorem Sn.inRow (h:Sn c r s) (k:Int):Sn c r (s.inRow k):=by
 have A:Sn c r s.calm:=h.calm;unfold Scr.inRow;split
 ·exact A.turn _
 split
 ·exact A.turn _
 split
 ·exact A.clean _ _
 ·exact A
theorem Sn.inAll (h:Sn c r s) (k:Int):Sn c r (s.inAll k):=by
 have A:Sn c r s.calm:=h.calm;unfold Scr.inAll;split
 ·exact(h.inRow 0).clean _ _
 split
 ·exact(h.inRow 1).clean _ _
 split
 ·exact A.clean _ _
 split
 ·exact A
 ·exact A
theorem Sn.report (h:Sn c r s) (k:Int):Sn c r (s.report k):=by
 unfold Scr.report
 repeat' split
 all_goals exact h
theorem Sn.region (h:Sn c r s) (ps:List Int):Sn c r (s.region ps):=by
 unfold Scr.region;dsimp only;generalize (if par ps 1 s.rows=0 then s.rows else par ps 1 s.rows)=b0;by_cases hlt:max 1 (par ps 0 1)<min b0 s.rows
 ·rw[if_pos hlt];refine⟨.off rfl,h.2.1,h.2.2.1,.inl ?_⟩;show max 1 (par ps 0 1)-1<min b0 s.rows-1;omega
 ·rw[if_neg hlt];exact h
theorem Sn.setMode1 (h:Sn c r s) (k:Int) (on:Bool):Sn c r (s.setMode1 k on):=by
 unfold Scr.setMode1
 repeat' split
 all_goals exact h
theorem Sn.others (h:Sn c r s) (hok:s.Ok c r) (k:Int) (ps:List Int):Sn c r (s.others k ps):=by
 unfold Scr.others;dsimp only;split
 ·exact h.place _ _
 split
 ·exact h.inAll _
 split
 ·exact h.inRow _
 split
 ·split
  ·exact h
  ·exact h
 split
 ·exact h.report _
 split
 ·split
  ·exact h
  ·split
   ·exact h
   ·exact h
 split
 ·exact zf0 (fun t i ho ht=>⟨ho.setMode1 _ _,ht.setMode1 _ _⟩) _ _ hok h
 split
 ·exact h
 split
 ·exact h.region _
 split
 ·exact h.keep _
 ·exact h
theorem Sn.mode (h:Sn c r s) (m:Int) (on:Bool):Sn c r (s.mode m on):=h
theorem Sn.private (h:Sn c r s) (hok:s.Ok c r) (hr:1≤r) (k:Int) (on:Bool):Sn c r (s.private k on):=by
 unfold Scr.private;dsimp only;split
 ·exact h
 split
 ·exact(h.mode 4 on).place _ _
 split
 ·refine(h.mode 1 on).now fun e=>?_;have A:(s.now.wait && on)=true:=e;rw[Bool.and_eq_true]at A;exact h.1 A.1
 split
 ·exact h
 split
 ·exact h.swap hok hr _
 split
 ·exact h.keep _
 split
 ·split
  ·exact h.save.swap hok.save hr _
  ·exact(h.swap hok hr _).restore
 split
 ·exact h
 split
 ·exact h
 ·exact h
theorem Sn.soft (h:Sn c r s) (hok:s.Ok c r) (hr:1≤r):Sn c r s.soft:=by
 unfold Scr.soft;dsimp only;refine Sn.setSlot ?_ (.off rfl);have A:Sn c r { s with now:={ zbp with x:=s.now.x,y:=s.now.y } }:=h.now (.off rfl);refine⟨.off rfl,h.2.1,h.2.2.1,?_⟩;show(0:Int)<s.rows-1∨r=1;have:=hok.rows;omega
theorem Sn.csi (h:Sn c r s) (hok:s.Ok c r) (hc:1≤c) (hr:1≤r) (b:UInt8) (ps:List Int) (i:List UInt8):Sn c r (s.csi b ps i):=by
 unfold Scr.csi;dsimp only;split
 ·cases hm:s.move (b.toNat:Int) (max 1 (par ps 0 1)) with
  | some t=>exact h.move hok hc hr _ _ t hm
  | none =>
   cases he:s.edit (b.toNat:Int) (max 1 (par ps 0 1)) with
   | some t=>exact h.edit hok hc _ _ t he
   | none=>exact h.others hok _ _
 split
 ·split
  ·exact zf0 (fun t i ho ht=>⟨ho.private hc hr _ _,ht.private ho hr _ _⟩) _ _ hok h
  ·exact h
 split
 ·split
  ·exact h.soft hok hr
  ·exact h
 split
 ·split
  ·exact h
  ·exact h
 ·exact h
theorem Sn.act (h:Sn c r s) (hok:s.Ok c r) (hc:1≤c) (hr:1≤r) (a:VAct):Sn c r (s.act a):=by
 have B:({ s with out:=[] }:Scr).Ok c r:=⟨hok.main,hok.other,hok.now,hok.k0,hok.k1,hok.t0,hok.tb,hok.b1,hok.tl,hok.md⟩;have A:Sn c r { s with out:=[] }:=h;unfold Scr.act;dsimp only;split
 ·exact A.print B hc _
 split
 ·exact A.control _
 split
 ·exact A.escape B hc hr _ _
 split
 ·exact A.csi B hc hr _ _ _
 split
 ·unfold Scr.named;split
  ·exact A
  ·exact A
 split
 ·unfold Scr.asked
  repeat' split
  all_goals exact A
 ·exact A
theorem Sn.fin {a b:Nat} (hm:zaR c r s.main) (hr:1≤r):Sn c r (s.fin a b):=by
 refine⟨.off rfl,.off rfl,.off rfl,?_⟩;show(0:Int)<(s.main.rows.length:Int)-1∨r=1;rw[hm.2];omega
theorem Sn.resize (hr:1≤r):Sn c r (s.resize c r):=by
 refine Sn.fin ?_ hr;unfold Scr.sized;cases ho:s.other with
 | none=>exact zav _ _ _ _ _ _
 | some g=>exact zav _ _ _ _ _ _
end
end
section
open Go.RowKit
def Cs (c:Cel):Prop:=okS c.sty=true∧(c.width=0→c.rune=0)∧(c.width≠0→wid c.rune=c.width)
def RCs (r:Rw):Prop:=∀ c∈r.cells,Cs c
theorem zf1 {s:Sty} (h:okS s=true):Cs (zM s):=⟨h,fun e=>absurd e (by show ¬ (1:Int)=0;decide),fun _=>by show wid 32=1;decide⟩
theorem zmI:Cs (zM plainS):=zf1 zam
theorem zdr {n:Nat} {s:Sty} (h:okS s=true):∀ c∈List.replicate n (zM s),Cs c:=fun c hc=>by
 rw[List.eq_of_mem_replicate hc];exact zf1 h
theorem zie {l:List Cel} {x n:Nat} {s:Sty} (hs:okS s=true) (h:∀ c∈l,Cs c):∀ c∈zat l x n s,Cs c:=fun c hc=>by
 unfold zat at hc;rcases zbn hc with hc | hc
 ·exact h c hc
 ·exact zdr hs c hc
theorem zb0 {l:List Cel} {x:Int} (h:∀ c∈l,Cs c):∀ c∈zB l x,Cs c:=by
 unfold zB;split
 ·next h0 =>
  refine zie (h _ ?_).1 h;rw[List.getD_eq_getElem?_getD,List.getElem?_eq_getElem (by omega)];exact List.getElem_mem _
 ·exact h
theorem zkj {l:List Cel} {x:Nat} {c:Cel} (h:∀ c∈l,Cs c) (hc:Cs c):∀ d∈zcY l x c,Cs d:=fun d hd=>by
 unfold zcY at hd;rcases zbn hd with hd | hd
 ·exact zb0 (zb0 h) d hd
 ·split at hd
  ·simp only[List.mem_cons,List.not_mem_nil,or_false]at hd;rcases hd with rfl | rfl
   ·exact hc
   ·exact⟨hc.1,fun _=>rfl,fun e=>absurd rfl e⟩
  ·simp only[List.mem_cons,List.not_mem_nil,or_false]at hd;rw[hd];exact hc
theorem zlm {l:List Cel} {x n:Nat} {s:Sty} (hs:okS s=true) (h:∀ c∈l,Cs c):∀ c∈zbF l x n s,Cs c:=zie hs (zb0 (zb0 h))
theorem znX {l:List Cel} {x n:Nat} {s:Sty} (hs:okS s=true) (h:∀ c∈l,Cs c):∀ c∈zdT l x n s,Cs c:=fun c hc=>by
 have hm:=zb0 (x:=((l.length-n:Nat):Int)) (zb0 (x:=(x:Int)) h);unfold zdT at hc;rcases List.mem_append.1 hc with hc | hc
 ·rcases List.mem_append.1 hc with hc | hc
  ·exact hm c (List.mem_of_mem_take hc)
  ·exact zdr hs c hc
 ·exact hm c (List.mem_of_mem_drop (List.mem_of_mem_take hc))
theorem znY {l:List Cel} {x n:Nat} {s:Sty} (hs:okS s=true) (h:∀ c∈l,Cs c):∀ c∈zdU l x n s,Cs c:=fun c hc=>by
 have hm:=zb0 (x:=((x+n:Nat):Int)) (zb0 (x:=(x:Int)) h);unfold zdU at hc;rcases List.mem_append.1 hc with hc | hc
 ·rcases List.mem_append.1 hc with hc | hc
  ·exact hm c (List.mem_of_mem_take hc)
  ·exact hm c (List.mem_of_mem_drop hc)
 ·exact zdr hs c hc
theorem zkk {r:Rw} (h:RCs r) (cols:Nat):RCs (ZO r cols):=by
 unfold ZO;split
 ·exact h
 ·intro c hc;rcases List.mem_append.1 hc with hc | hc
  ·exact zb0 h c (List.mem_of_mem_take hc)
  ·exact zdr zam c hc
theorem zph {g:Gr} (h:g.All RCs) (f:List Cel→Nat→Nat→Sty→List Cel) (hf:∀ (l:List Cel) (x n:Nat) (s:Sty),okS s=true→(∀ c∈l,Cs c)→∀ c∈f l x n s,Cs c) (x y n:Int) (s:Sty):(g.rowOp f x y n s).All RCs:=by
 unfold Gr.rowOp;split
 ·next h0 =>
  obtain⟨D,B,E,C,A⟩:=zdp h0.1;exact zeF h _ _ (by omega) fun r hr=>hf _ _ _ _ A hr
 ·exact h
theorem zpv {g:Gr} (h:g.All RCs) (x y:Int) (q:Cel):(g.put x y q).All RCs:=by
 unfold Gr.put;split
 ·next h0 =>
  obtain⟨F,D,G,B,E,A,C⟩:=zg3 h0;exact zeF h _ _ (by omega) fun r hr=>zkj hr ⟨B,fun e=>by omega,fun _=>A.symm⟩
 ·exact h
theorem zmJ {P:Rw→Prop} (hP:∀ r is,P r→P { r with wrap:=is }) {g:Gr} (h:g.All P) (y:Int) (is:Bool):(g.setWrap y is).All P:=by
 unfold Gr.setWrap;split
 ·next h0 =>
  intro r hr;rcases List.mem_append.1 hr with hr | hr
  ·exact h r (List.mem_append_left _ hr)
  ·rcases List.mem_or_eq_of_mem_set hr with hr | hr
   ·exact h r (List.mem_append_right _ hr)
   ·rw[hr];exact hP _ _ (h (g.rows.getD y.toNat noR) (List.mem_append_right _ (by
     rw[List.getD_eq_getElem?_getD,List.getElem?_eq_getElem (by omega)];exact List.getElem_mem _)))
 ·exact h
theorem zln {c:Nat} {s:Sty} (h:okS s=true):RCs (blankR c s):=zdr h
def zjz (st:Sp):Prop:=(∀ c∈st.cur,Cs c)∧∀ r∈st.done,RCs r
theorem zkl {cols:Nat} {mark:Int} {st:Sp} (h:zjz st) (i:Nat) (c:Cel) (hc:Cs c):zjz (za2 cols mark st i c):=by
 unfold za2;have A:∀ x∈(if c.width=2∧st.cur.length=cols-1 then st.cur++[zM plainS] else st.cur),Cs x:=by
  split
  ·intro x hx;rcases List.mem_append.1 hx with hx | hx
   ·exact h.1 x hx
   ·rw[List.mem_singleton]at hx;subst hx;exact zmI
  ·exact h.1
 generalize (if c.width=2∧st.cur.length=cols-1 then st.cur++[zM plainS] else st.cur)=B at A;dsimp only;refine⟨fun x hx=>?_,fun r hr=>?_⟩
 ·rcases List.mem_append.1 hx with hx | hx
  ·split at hx
   ·cases hx
   ·exact A x hx
  ·rw[List.mem_singleton]at hx;subst hx;exact hc
 ·dsimp only at hr;split at hr
  ·rcases List.mem_append.1 hr with hr | hr
   ·exact h.2 r hr
   ·rw[List.mem_singleton]at hr;subst hr;exact A
  ·exact h.2 r hr
theorem zmK {cols:Nat} {mark:Int} {st:Sp} (h:zjz st) (i:Nat) (c:Cel) (hc:Cs c):zjz (ZC cols mark st i c):=by
 unfold ZC;split
 ·split
  ·exact h
  ·exact zkl h i _ (zf1 hc.1)
 ·exact zkl h i c hc
theorem zkm {cols:Nat} {mark:Int}:∀ (l:List Cel) (st:Sp) (i:Nat),(∀ c∈l,Cs c)→zjz st→zjz (zbk cols mark st i l)
 | [],_,_,_,h=>h
 | c::l,st,i,hl,h=>zkm l _ (i+1) (fun x hx=>hl x (List.mem_cons_of_mem _ hx)) (zmK h i c (hl c (List.mem_cons_self ..)))
theorem znZ {cols:Nat} {line:List Cel} (mark:Int) (wrap:Bool) {st:Fl} (hl:∀ c∈line,Cs c) (h:∀ r∈st.out,RCs r):∀ r∈(zaD cols line mark wrap st).out,RCs r:=fun r hr=>by
 have hs:zjz (Z2 (zau line mark) cols mark):=zkm _ _ _ (fun x hx=>hl x (ze7 hx)) ⟨fun c hc=>(by cases hc),fun r hr=>(by cases hr)⟩;unfold zaD at hr;generalize Z2 (zau line mark) cols mark=sp at hs hr;have hr':r∈st.out++ZK (zaN cols sp) wrap:=hr;have he:∀ r∈zaN cols sp,RCs r:=fun r hr=>by
  unfold zaN at hr;rcases List.mem_append.1 hr with hr | hr
  ·exact hs.2 r hr
  ·rw[List.mem_singleton]at hr;subst hr;intro c hc;rcases List.mem_append.1 hc with hc | hc
   ·exact hs.1 c hc
   ·exact zdr zam c hc
 rcases List.mem_append.1 hr' with hr | hr
 ·exact h r hr
 ·unfold ZK at hr;rcases List.mem_or_eq_of_mem_set hr with hr | hr
  ·exact he r hr
  ·rw[hr];have hln:0<(zaN cols sp).length:=(by unfold zaN;simp);refine he ((zaN cols sp).getD ((zaN cols sp).length-1) noR) ?_;rw[List.getD_eq_getElem?_getD,List.getElem?_eq_getElem (by omega)];exact List.getElem_mem _
theorem zhq {cols:Nat} (place atx:Int):∀ (l:List Rw) (i:Nat) (line:List Cel) (mark:Int) (st:Fl),(∀ r∈l,RCs r)→(∀ c∈line,Cs c)→(∀ r∈st.out,RCs r)→∀ r∈(Z8 cols place atx l i line mark st).out,RCs r
 | [],_,_,_,_,_,_,h=>h
 | r::rest,i,line,mark,st,hr,hl,h=>by
  have hh:∀ c∈line++r.cells,Cs c:=fun c hc=>by
   rcases List.mem_append.1 hc with hc | hc
   ·exact hl c hc
   ·exact hr r (List.mem_cons_self ..) c hc
  have hr2:∀ r∈rest,RCs r:=fun x hx=>hr x (List.mem_cons_of_mem _ hx);unfold Z8;dsimp only;split
  ·exact zhq place atx rest _ _ _ _ hr2 (fun c hc=>(by cases hc)) (znZ _ _ hh h)
  ·exact zhq place atx rest _ _ _ _ hr2 hh h
theorem zn0 {g:Gr} (h:g.All RCs) (cols rows:Nat) (ax ay:Int):(g.flow cols rows ax ay).1.All RCs:=fun r hr=>by
 have hs:=zhq (cols:=cols) ((g.old.length:Int)+ay) ax (g.old++g.rows) 0 [] (-1) ⟨[],0,0⟩ h (fun c hc=>by cases hc) (fun r hr=>by cases hr);unfold Gr.flow at hr;dsimp only at hr;generalize Z8 cols ((g.old.length:Int)+ay) ax (g.old++g.rows) 0 [] (-1) ⟨[],0,0⟩=st at hs hr;have ht:∀ r∈zbs st.out.length st.out st.py,RCs r:=fun r hr=>hs r (zg6 _ _ _ _ hr);generalize zbs st.out.length st.out st.py=out at ht hr;rcases List.mem_append.1 hr with hr | hr
 ·unfold zaC at hr;exact ht r (List.mem_of_mem_take (List.mem_of_mem_drop hr))
 ·rcases List.mem_append.1 hr with hr | hr
  ·exact ht r (List.mem_of_mem_drop (List.mem_of_mem_take hr))
  ·unfold zW at hr;rw[List.eq_of_mem_replicate hr];exact zdr zam
theorem zlo {g:Gr} (h:g.All RCs) (cols rows:Nat) (ax ay:Int) (f:Bool):(g.resize cols rows ax ay f).1.All RCs:=by
 cases f
 ·rw[zbB];intro r hr;rcases List.mem_append.1 hr with hr | hr
  ·obtain⟨x,A,rfl⟩:=List.mem_map.1 hr;exact zkk (h x (List.mem_append_left _ A)) cols
  ·rcases zfF hr with hr | hr
   ·obtain⟨x,A,rfl⟩:=List.mem_map.1 hr;exact zkk (h x (List.mem_append_right _ A)) cols
   ·rw[hr];exact zdr zam
 ·unfold Gr.resize;rw[if_pos rfl];exact zn0 h cols rows _ _
def RG (c:Nat) (r:Rw):Prop:=Wh r.cells∧r.cells.length=c∧RCs r
def Gd (c:Nat) (g:Gr):Prop:=g.cols=c∧g.All (RG c)
theorem zes {c:Nat} {s:Sty} (h:okS s=true):RG c (blankR c s):=⟨zbo _ _,List.length_replicate,zln h⟩
theorem Gd.rowOp {c:Nat} {g:Gr} (h:Gd c g) (f:List Cel→Nat→Nat→Sty→List Cel) (hf:∀ (l:List Cel) (x n:Nat) (s:Sty),okS s=true→(∀ c∈l,Cs c)→∀ c∈f l x n s,Cs c)
  (hw:∀ (l:List Cel) (x n:Nat) (s:Sty),Wh l→x+n≤l.length→Wh (f l x n s)) (hl:∀ (l:List Cel) (x n:Nat) (s:Sty),x+n≤l.length→(f l x n s).length=l.length) (x y n:Int) (s:Sty):Gd c (g.rowOp f x y n s):=by
 refine⟨(zdF (g:=g) f x y n s ⟨rfl,rfl,rfl⟩).1.trans h.1,?_⟩;unfold Gr.rowOp;split
 ·next h0 =>
  obtain⟨E,C,F,D,B⟩:=zdp h0.1;refine zeF h.2 _ _ (by omega) fun r hr=>?_;have A:x.toNat+zdi g x n≤r.cells.length:=by
   rw[hr.2.1,← h.1];unfold zdi;omega
  exact⟨hw _ _ _ _ hr.1 A,(hl _ _ _ _ A).trans hr.2.1,hf _ _ _ _ B hr.2.2⟩
 ·exact h.2
theorem zmL (c:Nat):Clo (Gd c) where
 up:=fun {g} h t b n s k=>⟨((Dim.up (g:=g) ⟨rfl,rfl,rfl⟩ t b n s k).1).trans h.1,zo5 h.2 t b n s k fun hs=>by rw[h.1];exact zes hs⟩
 down:=fun {g} h t b n s=>⟨((Dim.down (g:=g) ⟨rfl,rfl,rfl⟩ t b n s).1).trans h.1,zng h.2 t b n s fun hs=>by rw[h.1];exact zes hs⟩
 put:=fun {g} h x y q=>⟨((Dim.put (g:=g) ⟨rfl,rfl,rfl⟩ x y q).1).trans h.1,by
  unfold Gr.put;split
  ·next h0 =>
   obtain⟨h1,h2,h3,h4,h5,h6,h7⟩:=zg3 h0;have h8:=zjS q.rune;refine zeF h.2 _ _ (by omega) fun r hr=>?_;have hw:q.width=1∨q.width=2:=(by omega);have hx:((x.toNat:Nat):Int)+q.width≤(r.cells.length:Int):=(by rw[hr.2.1,← h.1];omega);exact⟨zop hr.1 _ _ hw hx,(zlZ _ _ _ hw hx).trans hr.2.1,zkj hr.2.2 ⟨h4,fun e=>by omega,fun _=>h6.symm⟩⟩
  ·exact h.2⟩
 wrap:=fun {g} h y is=>⟨((Dim.setWrap (g:=g) ⟨rfl,rfl,rfl⟩ y is).1).trans h.1,zmJ (fun _ _ hr=>hr) h.2 y is⟩
 ins:=fun h x y n s=>h.rowOp zdT (fun _ _ _ _=>znX) (fun _ _ _ s hl hx=>zoq hl s hx) (fun _ _ _ s hx=>ziR s hx) x y n s
 del:=fun h x y n s=>h.rowOp zdU (fun _ _ _ _=>znY) (fun _ _ _ s hl hx=>zor hl s hx) (fun _ _ _ s hx=>ziS s hx) x y n s
 erase:=fun h x y n s=>h.rowOp zbF (fun _ _ _ _=>zlm) (fun _ _ _ s hl hx=>zl0 hl s hx) (fun _ _ _ s hx=>zgl s hx) x y n s
 clear:=fun h=>⟨h.1,fun r hr=>h.2 r (List.mem_append_right _ (by simpa using hr))⟩
 new:=fun {g} h l _=>⟨h.1,zkA _ _ _ _ (by rw[h.1];exact zes zam)⟩
theorem zoW (c r l:Nat):Gd c (Z1 c r l):=⟨rfl,zkA _ _ _ _ (zes zam)⟩
theorem Gd.resize {c cols rows:Nat} {ax ay:Int} {f:Bool} {g:Gr} (h:Gd c g) (hl:∀ r∈(g.resize cols rows ax ay f).1.old++(g.resize cols rows ax ay f).1.rows,r.cells.length=cols) (h1:1≤cols):Gd cols (g.resize cols rows ax ay f).1 :=
 ⟨(zav g cols rows ax ay f).1,fun r hr=>⟨zl2 (fun r hr=>(h.2 r hr).1) cols rows ax ay f h1 r hr,hl r hr,zlo (fun r hr=>(h.2 r hr).2.2) cols rows ax ay f r hr⟩⟩
end
section
open Go.RowKit
section
variable {c r:Nat} {s:Scr}
end
theorem zf2 {Q:Scr→Prop} {c r:Nat} (hc:1≤c) (hr:1≤r) (hc2:c≤1000) (hr2:r≤1000) (hQ:∀ (s:Scr) (a:VAct),s.Ok c r→Q s→Q (s.act a)):∀ (l:List UInt8) (t:Trm),t.Ok c r→Q t.scr→Q (t.feed l).1.scr:=by
 have B:∀ (l:List VAct) (t:Trm),t.Ok c r→(∀ a∈l,AOk a)→Q t.scr→Q (t.acts l).1.scr:=by
  intro l
  induction l with
  | nil=>intro t _ _ h;exact h
  | cons a l ih=>intro t A C h;exact ih (t.act a) (A.act hc hr hc2 hr2 (C a (List.mem_cons_self ..))).1 (fun x hx=>C x (List.mem_cons_of_mem _ hx)) (hQ t.scr a A.scr h)
 intro l
 induction l with
 | nil=>intro t _ h;exact h
 | cons b l ih =>
  intro t A h;obtain⟨D,E,_⟩:=zeN b A.par;exact ih (t.byte b).1 (Trm.Ok.byte hc hr hc2 hr2 A b).1 (B (t.par.step b).2 ⟨t.scr,(t.par.step b).1⟩ ⟨A.scr,A.last,D⟩ E h)
theorem zn1 {c r:Nat} (hc:1≤c) (hr:1≤r) (hc2:c≤1000) (hr2:r≤1000) (l:List UInt8) (t:Trm) (ht:t.Ok c r) (h:Sn c r t.scr):Sn c r (t.feed l).1.scr :=
 zf2 hc hr hc2 hr2 (fun _ a ho hs=>hs.act ho hc hr a) l t ht h
end
section
open Go.RowKit
theorem Scr.Has.act {P:Gr→Prop} (C:Clo P) {s:Scr} (h:s.Has P) (a:VAct):(s.act a).Has P:=by
 have A:({ s with out:=[] }:Scr).Has P:=h;unfold Scr.act;dsimp only;split
 ·exact Scr.Has.print C A _
 split
 ·exact Scr.Has.control C A _
 split
 ·exact Scr.Has.escape C A _ _
 split
 ·exact Scr.Has.csi C A _ _ _
 split
 ·exact Scr.Has.named A _
 split
 ·unfold Scr.asked
  repeat' split
  all_goals exact A
 ·exact A
structure Snd (c r:Nat) (t:Trm):Prop where
 ok:t.Ok c r
 sn:Sn c r t.scr
 has:t.scr.Has (Gd c)
 c1:1≤c
 c2:c≤40
 r1:1≤r
 r2:r≤15
theorem Snd.new (c r l:Nat) (c1:1≤c) (c2:c≤40) (r1:1≤r) (r2:r≤15):Snd c r ⟨zdR c r l,s0⟩:=by
 have A:(zdR c r l).Has (Gd c):=by
  unfold zdR;exact Scr.Has.reset (zmL c) ⟨zoW c r l,fun g hg=>by cases hg⟩
 refine⟨zjq c1 r1,⟨Sav.Wt.off rfl,Sav.Wt.off rfl,Sav.Wt.off rfl,?_⟩,A,c1,c2,r1,r2⟩;have h:=(zjq (c:=c) (r:=r) (l:=l) c1 r1).scr;show(0:Int)<((zdR c r l).main.rows.length:Int)-1∨r=1;have e:=h.main.2;show(0:Int)<(((zdR c r l).main.rows.length:Nat):Int)-1∨r=1;rw[e];omega
theorem Snd.feed {c r:Nat} {t:Trm} (h:Snd c r t) (l:List UInt8):Snd c r (t.feed l).1 :=
 ⟨(Trm.Ok.feed h.c1 h.r1 (by have:=h.c2;omega) (by have:=h.r2;omega) l h.ok).1,zn1 h.c1 h.r1 (by have:=h.c2;omega) (by have:=h.r2;omega) l t h.ok h.sn,
  zf2 (Q:=fun s=>s.Has (Gd c)) h.c1 h.r1 (by have:=h.c2;omega) (by have:=h.r2;omega) (fun s a _ hs=>Scr.Has.act (zmL c) hs a) l t h.ok h.has,h.c1,h.c2,h.r1,h.r2⟩
theorem zoy {c:Nat} {g:Gr} (h:Gd c g):g.All WhR:=fun r hr=>(h.2 r hr).1
theorem zif (s:Scr) (cols rows:Nat):∃ x y,(s.resize cols rows).main=(s.main.resize cols rows x y true).1:=by
 unfold Scr.resize Scr.sized;cases s.other with
 | none=>exact⟨_,_,rfl⟩
 | some g=>exact⟨_,_,rfl⟩
theorem zhr (s:Scr) (cols rows:Nat) {q:Gr} (h:(s.resize cols rows).other=some q):∃ g x y,s.other=some g∧q=(g.resize cols rows x y false).1:=by
 unfold Scr.resize Scr.sized at h;cases ho:s.other with
 | none=>rw[ho]at h;cases h
 | some g =>
  rw[ho]at h;have e:some (g.resize cols rows s.now.x s.now.y false).1=some q:=h;injection e with e;exact⟨g,_,_,rfl,e.symm⟩
theorem zig (s:Scr) (cols rows:Nat):(s.resize cols rows).last=s.last:=by
 unfold Scr.resize Scr.sized;cases s.other <;> rfl
theorem Snd.resize {c r cols rows:Nat} {t:Trm} (h:Snd c r t) (c1:1≤cols) (c2:cols≤40) (r1:1≤rows) (r2:rows≤15) (hm:(t.scr.resize cols rows).main.WF) (ho:∀ g,(t.scr.resize cols rows).other=some g→g.WF):Snd cols rows ⟨t.scr.resize cols rows,t.par⟩:=by
 have F:t.scr.main.All WhR:=zoy h.has.1;have C:∀ g,t.scr.other=some g→g.All WhR:=fun g hg=>zoy (h.has.2 g hg);refine⟨⟨Scr.Ok.resize h.ok.scr h.r1 F C c1 r1,by show R32 (t.scr.resize cols rows).last;rw[zig];exact h.ok.last,h.ok.par⟩,Sn.resize r1,⟨?_,fun q hq=>?_⟩,c1,c2,r1,r2⟩
 ·show Gd cols (t.scr.resize cols rows).main;obtain⟨x,y,e⟩:=zif t.scr cols rows;rw[e]at hm ⊢;refine Gd.resize h.has.1 (fun r hr=>?_) c1;have:=(hm.ce r (by
   rcases List.mem_append.1 hr with hr | hr
   ·exact List.mem_append_right _ hr
   ·exact List.mem_append_left _ hr)).1
  rw[this];exact(zav _ _ _ _ _ _).1
 ·have B:(t.scr.resize cols rows).other=some q:=hq;have A:=ho q B;obtain⟨g,x,y,D,E⟩:=zhr t.scr cols rows B;rw[E]at A ⊢;refine Gd.resize (h.has.2 g D) (fun r hr=>?_) c1;have:=(A.ce r (by
   rcases List.mem_append.1 hr with hr | hr
   ·exact List.mem_append_right _ hr
   ·exact List.mem_append_left _ hr)).1
  rw[this];exact(zav _ _ _ _ _ _).1
theorem Snd.shown {c r:Nat} {t:Trm} (h:Snd c r t):Gd c t.scr.shown∧t.scr.shown.rows.length=r∧t.scr.shown.cols=c:=by
 unfold Scr.shown;cases ho:t.scr.other with
 | none=>exact⟨h.has.1,h.ok.scr.main.2,h.ok.scr.main.1⟩
 | some g=>exact⟨h.has.2 g ho,(h.ok.scr.other g ho).2,(h.ok.scr.other g ho).1⟩
end
section
open Go.RowKit
def zoX:List UInt8:=[97,98,99,100,101]
def zoY:List UInt8:=[27,91,50,59,51,72,27,91,54,110,27,91,49,59,51,49,109]
def zds:Trm × List UInt8:=(⟨zdR 4 2 10,s0⟩:Trm).feed zoX
def zlp:Trm × List UInt8:=zds.1.feed zoY
theorem zpi:zds.2=[]:=by kernel_rfl
theorem zet:zds.1.scr.now.x=1∧zds.1.scr.now.y=1∧zds.1.scr.now.wait=false∧zds.1.scr.modes=9∧zds.1.scr.has 8=true:=⟨by kernel_rfl,by kernel_rfl,by kernel_rfl,by kernel_rfl,by kernel_rfl⟩
theorem zpj:zlp.2=[27,91,50,59,51,82]:=by kernel_rfl
end
end Go.Proofs.YthehkmopdeebmaaGreatDoor
