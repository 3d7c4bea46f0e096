/- TopClock -/
import Derived.Test.YtmflaonodghbcaaGreatDoorM44
import Derived.Test.YtmflaonodghbcaaGreatDoorM19
import Derived.Test.YtmflaonodghbcaaGreatDoorM03
import Derived.Test.YtmflaonodghbcaaGreatDoorM04
import Derived.Test.YtmflaonodghbcaaGreatDoorM26
import Derived.Test.YtmflaonodghbcaaGreatDoorM11
import Derived.Test.YtmflaonodghbcaaGreatDoorM18
set_option maxRecDepth 100000
set_option maxHeartbeats 64000000
set_option linter.all false
namespace Go.Proofs.YtmflaonodghbcaaGreatDoor
open Go.ChangeShapes Go.WideShapes Go.ChangeAt Go.RowKit
def YU:List UInt8:=[48,49,50,51,52,53,54,55,56,57,97,98,99,100,101,102]
structure Waits(next:Int)(l:List RecM)(m:Nat):Prop where
 few:l.length≤m
 recs:∀x∈l,zl x∧x.body.length≤11
 Oa:∀(k:Nat) (x:RecM),l[k]? =some x→x.seq=next+(k:Int)
theorem Waits.one{next:Int}(h:0≤next∧next≤1099511627776):Waits next [⟨2,next,[]⟩] 1:=⟨Nat.le_refl _,fun x hx=>by
 rw[List.mem_singleton]at hx;subst hx;exact⟨⟨.inr ⟨rfl,rfl⟩,h,Nat.zero_le _⟩,Nat.zero_le _⟩,fun k x hx=>by
 cases k with
 |zero=>cases hx;exact(Int.add_zero _).symm
 |succ k=>simp at hx⟩
theorem Waits.nil{next:Int}:Waits next [] 0:=⟨Nat.le_refl _,fun x hx=>(by cases hx),fun k x hx=>(by cases hx)⟩
theorem Waits.mono{next:Int}{l:List RecM}{m k:Nat}(h:Waits next l m)(hk:m≤k):Waits next l k:=⟨Nat.le_trans h.few hk,h.recs,h.Oa⟩
theorem Waits.add{next:Int}{l:List RecM}{m:Nat}(h:Waits next l m)(bs:List UInt8)(hb:bs.length≤11)(h0:0≤next)(h1:next+(l.length:Int)≤1099511627776):Waits next (l++[⟨1,next+(l.length:Int),bs⟩]) (m+1):=
 ⟨by have:=h.few;rw[List.length_append,aaV];omega,fun x hx=>by
  rw[aas,List.mem_singleton]at hx;rcases hx with hx|rfl
  ·exact h.recs x hx
  ·exact⟨⟨.inl rfl,⟨by show 0≤next+(l.length:Int);omega,h1⟩,by show bs.length≤900;omega⟩,hb⟩,fun k x hx=>by
  rw[List.getElem?_append]at hx;split at hx
  ·exact h.Oa k x hx
  ·obtain⟨hk,rfl⟩:=aaj.1 hx;rw[aaV]at hk;rw[List.getElem_singleton];show next+(l.length:Int)=next+(k:Int)
   omega⟩
theorem size_le:∀(l:List RecM),(∀x∈l,zl x∧x.body.length≤11)→uy l≤26*l.length
 |[],_=>Nat.zero_le _
 |x::r,h=>by
  have h1:=size_le r (fun y hy=>h y (abN _ hy));have h2:=(h x List.mem_cons_self).2;unfold uy at h1⊢;rw[List.map_cons,List.sum_cons,List.length_cons,sP];omega
theorem Dp{n m:Nat}{V:Co}{x:lN}{bs:List UInt8}(hw:Waits V.L.next V.L.wait m)(hm:m≤30)(hs:V.L.sealed<gV n)(hn:1≤V.L.next∧V.L.next≤1000000)(hb:bs.length≤11)(ht:BA x=true)
  (he:∀(da:Option Addr) (dc:Nat) (u:World) (S:Nat→Prop),ah S u da x.data.length (x.data.map bv)→x.data.length≤dc→Calls Tryz.prog 20 #[.agg (opC x da dc)] u (Cx u bs)):PX n V x bs∧Waits V.L.next (CO V bs).wait (m+1):=by
 have Ed:=hw.few;have hadd:=hw.add bs hb (by omega) (by omega);exact⟨⟨ht,he,by omega,hs,by omega,by omega,fun r hr=>(hw.recs r hr).1,by
  have h9:=size_le _ hadd.recs;have h8:=hadd.few;exact Nat.le_trans h9 (by omega)⟩,hadd⟩
structure Kc(n:Nat)(V:Co)(t0 t:Int)(j m:Nat):Prop where
 mm:V.M=lG t
 id:V.id=YU
 cs:V.cs≤1+3*(j:Int)
 c:V.c≤10000+3000*(j:Int)
 tt:0≤t∧t≤1099511627776
 le:t0≤t
 rest:Rest n YU V.b V.L.sealed V.L.head V.L.next V.gen t0
 sealed:V.L.sealed≤j
 next:1≤V.L.next∧V.L.next≤1+100*(j:Int)
 gen:2≤V.gen∧V.gen≤2+(j:Int)
 wait:Waits V.L.next V.L.wait m
 head:V.L.head.length=32
theorem Kc.mono{n:Nat}{V:Co}{t0 t:Int}{j j' m m':Nat}(h:Kc n V t0 t j m)(hj:j≤j')(hm:m≤m'):Kc n V t0 t j' m':=
 ⟨h.mm,h.id,by have:=h.cs;omega,by have:=h.c;omega,h.tt,h.le,h.rest,by have:=h.sealed;omega,⟨h.next.1,by have:=h.next.2;omega⟩,⟨h.gen.1,by have:=h.gen.2;omega⟩,h.wait.mono hm,h.head⟩
theorem Yi(x:lN):(Mq x).length=9:=by unfold Mq;rw[List.length_append,ay,ay]
theorem Yj{u:Int}(hu:0≤u∧u≤18446744073709551615):FC (Cr u):=⟨⟨by show(1:Int)≤16;decide,by show(16:Int)≤17;decide⟩,Nat.zero_le _,Nat.zero_le _,Nat.zero_le _,⟨Int.le_refl _,by show(0:Int)≤65535;decide⟩,hu⟩
theorem tick_ok{u:Int}(hu:0≤u∧u≤18446744073709551615):wU (Cr u):=
 yG ⟨by show(0:Int)≤16;decide,by show(16:Int)≤1000;decide⟩ ⟨Int.le_refl _,by show(0:Int)≤1000;decide⟩ ⟨Int.le_refl _,by show(0:Int)≤1000000;decide⟩ ⟨Int.le_refl _,by show(0:Int)≤1000000;decide⟩ ⟨Int.le_refl _,by show(0:Int)≤1000000;decide⟩ hu (Nat.zero_le _) (Nat.zero_le _) (Nat.zero_le _)
theorem sync_ok:wU J4:=
 yG ⟨by show(0:Int)≤17;decide,by show(17:Int)≤1000;decide⟩ ⟨Int.le_refl _,by show(0:Int)≤1000;decide⟩ ⟨Int.le_refl _,by show(0:Int)≤1000000;decide⟩ ⟨Int.le_refl _,by show(0:Int)≤1000000;decide⟩ ⟨Int.le_refl _,by show(0:Int)≤1000000;decide⟩ ⟨Int.le_refl _,by show(0:Int)≤18446744073709551615;decide⟩ (Nat.zero_le _) (Nat.zero_le _) (Nat.zero_le _)
theorem Kc.tick{n:Nat}{V:Co}{t0 t:Int}{j m:Nat}(h:Kc n V t0 t j m)(hj:j≤60)(hm:m≤30)(hn:60<gV n){u:Int}(hu:0≤u∧u≤18446744073709551615):
  ∃V',mJ n V (Cr u) (lG (g_ t u)) 0 V'∧Kc n V' t0 (g_ t u) (j+1) (m+1)∧V'.L.wait≠[]:=by
 have hw:=h.wait;have hnx:=h.next;have hse:=h.sealed;obtain⟨htk,hadd⟩:=Dp (n:=n) (x:=Cr u) hw hm (by omega) ⟨by omega,by omega⟩ (by rw[Yi];omega) rfl (fun da dc w S _ _=>PO (Cr u) (Yj hu) (by show((16:Int),_)∈mI;unfold mI;simp) da dc w);refine⟨_,.turn (Mq (Cr u)) rfl htk ?_,⟨rfl,h.id,?_,?_,⟨?_,?_⟩,?_,h.rest,?_,⟨?_,?_⟩,⟨?_,?_⟩,hadd,h.head⟩,?_⟩
 ·rw[h.mm];rfl
 ·have:=h.cs;show V.cs+1≤1+3*((j+1:Nat):Int);omega
 ·have:=h.c;show V.c≤10000+3000*((j+1:Nat):Int);omega
 ·exact Int.le_trans h.tt.1 (Ag h.tt.2 h.tt.1).1
 ·exact(Ag h.tt.2 h.tt.1).2
 ·exact Int.le_trans h.le (Ag h.tt.2 h.tt.1).1
 ·show V.L.sealed≤j+1;omega
 ·exact hnx.1
 ·show V.L.next≤1+100*((j+1:Nat):Int);omega
 ·exact h.gen.1
 ·have:=h.gen.2;show V.gen≤2+((j+1:Nat):Int);omega
 ·show V.L.wait++[_]≠[];simp
theorem Kc.sync{n:Nat}{V:Co}{t0 t:Int}{j m:Nat}(h:Kc n V t0 t j m)(hn0:64≤n)(hj:j≤60)(hm:m≤30)(hn:60<gV n)(hn1:n≤4096)(hr:((fV og).length:Int)≤gu n)(hne:V.L.wait≠[]):
  ∃V',mJ n V J4 (lG t) 0 V'∧Kc n V' t t (j+1) m:=by
 have hw:=h.wait;have hnx:=h.next;have hse:=h.sealed;have Ed:=hw.few;have hge:=h.gen;have hc:=h.c;have hsg:CJ V.L.sealed V.L.next V.L.head V.L.wait:=⟨⟨by omega,by omega⟩,⟨by omega,by omega⟩,h.head,hne,by omega,fun x hx=>(hw.recs x hx).1,Nat.le_trans (size_le _ hw.recs) (by omega),hw.Oa⟩;obtain⟨hmk,hrest⟩:=Ua h.rest hn0 hsg (by omega) hr h.tt.1 h.tt.2 (by omega) (by omega) ⟨by omega,by omega⟩;refine⟨_,.sync rfl rfl rfl hsg (by omega) (by omega) (by omega) rfl (by omega) (by omega) hmk (by rw[MB];exact hr) qo.new,⟨rfl,h.id,?_,?_,h.tt,Int.le_refl _,hrest,?_,⟨?_,?_⟩,⟨?_,?_⟩,(Waits.nil (next:=(gM V.L).next)).mono (Nat.zero_le _),dY _⟩⟩
 ·have:=h.cs;show V.cs+1≤1+3*((j+1:Nat):Int);omega
 ·show V.c+8+2000≤10000+3000*((j+1:Nat):Int);omega
 ·show V.L.sealed+1≤j+1;omega
 ·show 1≤V.L.next+(V.L.wait.length:Int);omega
 ·show V.L.next+(V.L.wait.length:Int)≤1+100*((j+1:Nat):Int);omega
 ·show 2≤V.gen+1;omega
 ·show V.gen+1≤2+((j+1:Nat):Int);omega
theorem Kc.opened{n:Nat}{V:Co}{t0 t:Int}{j m:Nat}(h:Kc n V t0 t j m)(hj:j≤60)(h0:0≤t0)(seq:Int):Kc n ⟨V.b,V.c,lG t0,1,⟨V.L.sealed,V.L.head,V.L.next,[⟨2,V.L.next,[]⟩]⟩,V.gen,seq,V.L.sealed,0,YU⟩ t0 t0 j 1:=by
 have hnx:=h.next;exact⟨rfl,rfl,by show(1:Int)≤1+3*(j:Int);omega,h.c,⟨h0,by have:=h.tt;have:=h.le;omega⟩,Int.le_refl _,h.rest,h.sealed,h.next,h.gen,Waits.one (next:=V.L.next) ⟨by omega,by omega⟩,h.head⟩
def Apart(a b:Value):Prop:=∀g,a.ownBlock=some g→b.ownBlock≠some g
theorem Apart.symm{a b:Value}(h:Apart a b):Apart b a:=fun g h1 h2=>h g h2 h1
theorem BD(a:Value):Apart a (.slice none 0 0):=fun g _ h=>by simp[Value.ownBlock]at h
structure xO(t1 t2 t3:TypeId)(k1 k2 k3:Nat)(w u:World)(v1:Value)(n1:Nat)(x1:List Value)(v2:Value)(n2:Nat)(x2:List Value)(v3:Value)(n3:Nat)(x3:List Value):Prop where
 o1:u.ownsRow w.heap.size t1 k1 v1 n1 x1
 o2:u.ownsRow w.heap.size t2 k2 v2 n2 x2
 o3:u.ownsRow w.heap.size t3 k3 v3 n3 x3
 d12:Apart v1 v2
 d13:Apart v1 v3
 d23:Apart v2 v3
 b:Below w.heap.size w u
section
variable{t1 t2 t3:TypeId}{k1 k2 k3:Nat}{w u u':World}{v1 v2 v3 v':Value}{n1 n2 n3 n':Nat}{x1 x2 x3 x':List Value}
theorem sG{B k n:Nat}{t:TypeId}{v:Value}{xs:List Value}(h:u.ownsRow B t k v n xs)(o:Obj):(u.alloc o).ownsRow B t k v n xs:=bR h fun b _ hbw=>Below.heap_alloc u o b hbw
theorem pE{B k n:Nat}{t:TypeId}{v:Value}{xs:List Value}(h:u.ownsRow B t k v n xs):Apart (.slice (some ⟨u.heap.size,0,none⟩) 0 0) v:=fun g h1 h2=>by
 have h3:=jf h g h2;simp[Value.ownBlock]at h1;omega
theorem xO.start(w:World):xO t1 t2 t3 k1 k2 k3 w w.drew (.slice none 0 0) 0 [] (.slice none 0 0) 0 [] (.slice none 0 0) 0 []:=
 ⟨⟨by simp,.inl ⟨rfl,rfl⟩⟩,⟨by simp,.inl ⟨rfl,rfl⟩⟩,⟨by simp,.inl ⟨rfl,rfl⟩⟩,BD _,BD _,BD _,acf.drew⟩
theorem xO.BF(h:xO t1 t2 t3 k1 k2 k3 w u v1 n1 x1 v2 n2 x2 v3 n3 x3):xO t1 t2 t3 k1 k2 k3 w (u.alloc (.cells #[] t1)) (.slice (some ⟨u.heap.size,0,none⟩) 0 0) 0 [] v2 n2 x2 v3 n3 x3:=
 ⟨rV (MapKept.heap_alloc u _).1 h.b.size,sG h.o2 _,sG h.o3 _,pE h.o2,pE h.o3,h.d23,h.b.trans ((wall u _).mono h.b.size)⟩
theorem xO.jE(h:xO t1 t2 t3 k1 k2 k3 w u v1 n1 x1 v2 n2 x2 v3 n3 x3):xO t1 t2 t3 k1 k2 k3 w (u.alloc (.cells #[] t2)) v1 n1 x1 (.slice (some ⟨u.heap.size,0,none⟩) 0 0) 0 [] v3 n3 x3:=
 ⟨sG h.o1 _,rV (MapKept.heap_alloc u _).1 h.b.size,sG h.o3 _,(pE h.o1).symm,h.d13,pE h.o3,h.b.trans ((wall u _).mono h.b.size)⟩
theorem xO.mH(h:xO t1 t2 t3 k1 k2 k3 w u v1 n1 x1 v2 n2 x2 v3 n3 x3):xO t1 t2 t3 k1 k2 k3 w (u.alloc (.cells #[] t3)) v1 n1 x1 v2 n2 x2 (.slice (some ⟨u.heap.size,0,none⟩) 0 0) 0 []:=
 ⟨sG h.o1 _,sG h.o2 _,rV (MapKept.heap_alloc u _).1 h.b.size,h.d12,(pE h.o1).symm,(pE h.o2).symm,h.b.trans ((wall u _).mono h.b.size)⟩
theorem pF{B k n:Nat}{t:TypeId}{v own:Value}{xs:List Value}(h:u.ownsRow B t k v n xs)(hg:u.grownBy u' own.ownBlock)(ha:Apart own v):u'.ownsRow B t k v n xs:=
 bR h fun b hb hbw=>hg.block b hbw fun e=>ha b e.symm hb
theorem lS{B k n:Nat}{t:TypeId}{v own:Value}{xs:List Value}(h:u.ownsRow B t k v n xs)(ha:Apart own v)(hat:v'.ownBlock=own.ownBlock∨v'.ownBlock=some u.heap.size):Apart v' v:=fun g h1 h2=>by
 rcases hat with e|e
 ·exact ha g (e▸h1) h2
 ·have h3:=jf h g h2;rw[e]at h1;cases h1;omega
theorem below_grown{B:Nat}{own:Value}{k n:Nat}{t:TypeId}{xs:List Value}(hb:Below w.heap.size w u)(h:u.ownsRow w.heap.size t k own n xs)(hg:u.grownBy u' own.ownBlock):Below w.heap.size w u':=
 hb.trans ⟨hg.os,hg.tape,hg.output,hg.size,fun b hb'=>hg.block b (by have:=hb.size;omega) fun e=>by have:=bC h b e.symm;omega⟩
theorem xO.app1(h:xO t1 t2 t3 k1 k2 k3 w u v1 n1 x1 v2 n2 x2 v3 n3 x3)(ho:u'.ownsRow w.heap.size t1 k1 v' n' x')(hg:u.grownBy u' v1.ownBlock)(hat:v'.ownBlock=v1.ownBlock∨v'.ownBlock=some u.heap.size):xO t1 t2 t3 k1 k2 k3 w u' v' n' x' v2 n2 x2 v3 n3 x3:=
 ⟨ho,pF h.o2 hg h.d12,pF h.o3 hg h.d13,lS h.o2 h.d12 hat,lS h.o3 h.d13 hat,h.d23,below_grown (B:=0) h.b h.o1 hg⟩
theorem xO.app2(h:xO t1 t2 t3 k1 k2 k3 w u v1 n1 x1 v2 n2 x2 v3 n3 x3)(ho:u'.ownsRow w.heap.size t2 k2 v' n' x')(hg:u.grownBy u' v2.ownBlock)(hat:v'.ownBlock=v2.ownBlock∨v'.ownBlock=some u.heap.size):xO t1 t2 t3 k1 k2 k3 w u' v1 n1 x1 v' n' x' v3 n3 x3:=
 ⟨pF h.o1 hg h.d12.symm,ho,pF h.o3 hg h.d23,(lS h.o1 h.d12.symm hat).symm,h.d13,lS h.o3 h.d23 hat,below_grown (B:=0) h.b h.o2 hg⟩
theorem xO.app3(h:xO t1 t2 t3 k1 k2 k3 w u v1 n1 x1 v2 n2 x2 v3 n3 x3)(ho:u'.ownsRow w.heap.size t3 k3 v' n' x')(hg:u.grownBy u' v3.ownBlock)(hat:v'.ownBlock=v3.ownBlock∨v'.ownBlock=some u.heap.size):xO t1 t2 t3 k1 k2 k3 w u' v1 n1 x1 v2 n2 x2 v' n' x':=
 ⟨pF h.o1 hg h.d13.symm,pF h.o2 hg h.d23.symm,ho,h.d12,(lS h.o1 h.d13.symm hat).symm,(lS h.o2 h.d23.symm hat).symm,below_grown (B:=0) h.b h.o3 hg⟩
theorem xO.go1{P:Program}{S:Nat→Prop}{ops:Array Oper}{o:Oper}{a:Act}{K:Act→World→Prop}{Q:Exit→Act→World→Prop}{E:Prop}{i:TypeInfo}{z:Value}{Yk m c:Nat}{A:Option Addr}{news:List Value}(h:xO t1 t2 t3 k1 k2 k3 w u v1 0 [] v2 n2 x2 v3 n3 x3)(s y:Operand)(t:TypeId)
  (hi:P.info? t1=some i∧i.zero=some z∧i.size=k1∧i.bytes=Yk)(hr:ah S w A (m*k1) news)(ho1:∀u∈news,u.oneCell'=true)(hx:a.eval y= .slice A m c)(hs:a.eval s=v1)(ho:o.guard=none∧o.op= .call {callee:= .builtin .append,args:= #[s,y],argTypes:= #[t,t]}∧P.underlying t=some (.slice t1)∧z.cells.size=k1)
  (hk:0<k1)(hm:m≤4194240∧Yk≤48)
  (hn:∀A' c' u',xO t1 t2 t3 k1 k2 k3 w u' (.slice A' (0+m) c') (0+m) ([]++news) v2 n2 x2 v3 n3 x3→K (a.put o.dst (.slice A' (0+m) c')) u'):if Region.wanted o (yielded ops a.tmps)=true then Oper.wp P o a u K Q else E:=by
 refine gP ho.1 s y t ho.2.1 w.heap.size t1 i z k1 Yk ho.2.2.1 hi.1 hi.2.1 hi.2.2.1 hi.2.2.2 ho.2.2.2 hk v1 0 [] hs h.o1 A m c news hx (hr.below h.b ace) ho1 (by unfold maxLen;omega) ?_ h.b.size ?_
 ·have:=Nat.mul_le_mul (show 0+m≤4194240 by omega) hm.2;omega
 ·intro A' c' u' hown hgr hat;exact hn A' c' u' (h.app1 hown hgr hat)
theorem xO.go2{P:Program}{S:Nat→Prop}{ops:Array Oper}{o:Oper}{a:Act}{K:Act→World→Prop}{Q:Exit→Act→World→Prop}{E:Prop}{i:TypeInfo}{z:Value}{Yk m c:Nat}{A:Option Addr}{news:List Value}(h:xO t1 t2 t3 k1 k2 k3 w u v1 n1 x1 v2 0 [] v3 n3 x3)(s y:Operand)(t:TypeId)
  (hi:P.info? t2=some i∧i.zero=some z∧i.size=k2∧i.bytes=Yk)(hr:ah S w A (m*k2) news)(ho1:∀u∈news,u.oneCell'=true)(hx:a.eval y= .slice A m c)(hs:a.eval s=v2)(ho:o.guard=none∧o.op= .call {callee:= .builtin .append,args:= #[s,y],argTypes:= #[t,t]}∧P.underlying t=some (.slice t2)∧z.cells.size=k2)
  (hk:0<k2)(hm:m≤4194240∧Yk≤48)
  (hn:∀A' c' u',xO t1 t2 t3 k1 k2 k3 w u' v1 n1 x1 (.slice A' (0+m) c') (0+m) ([]++news) v3 n3 x3→K (a.put o.dst (.slice A' (0+m) c')) u'):if Region.wanted o (yielded ops a.tmps)=true then Oper.wp P o a u K Q else E:=by
 refine gP ho.1 s y t ho.2.1 w.heap.size t2 i z k2 Yk ho.2.2.1 hi.1 hi.2.1 hi.2.2.1 hi.2.2.2 ho.2.2.2 hk v2 0 [] hs h.o2 A m c news hx (hr.below h.b ace) ho1 (by unfold maxLen;omega) ?_ h.b.size ?_
 ·have:=Nat.mul_le_mul (show 0+m≤4194240 by omega) hm.2;omega
 ·intro A' c' u' hown hgr hat;exact hn A' c' u' (h.app2 hown hgr hat)
theorem xO.P8{P:Program}{S:Nat→Prop}{ops:Array Oper}{o:Oper}{a:Act}{K:Act→World→Prop}{Q:Exit→Act→World→Prop}{E:Prop}{i:TypeInfo}{z:Value}{Yk m c:Nat}{A:Option Addr}{news:List Value}(h:xO t1 t2 t3 k1 k2 k3 w u v1 n1 x1 v2 n2 x2 v3 0 [])(s y:Operand)(t:TypeId)
  (hi:P.info? t3=some i∧i.zero=some z∧i.size=k3∧i.bytes=Yk)(hr:ah S w A (m*k3) news)(ho1:∀u∈news,u.oneCell'=true)(hx:a.eval y= .slice A m c)(hs:a.eval s=v3)(ho:o.guard=none∧o.op= .call {callee:= .builtin .append,args:= #[s,y],argTypes:= #[t,t]}∧P.underlying t=some (.slice t3)∧z.cells.size=k3)
  (hk:0<k3)(hm:m≤4194240∧Yk≤48)
  (hn:∀A' c' u',xO t1 t2 t3 k1 k2 k3 w u' v1 n1 x1 v2 n2 x2 (.slice A' (0+m) c') (0+m) ([]++news)→K (a.put o.dst (.slice A' (0+m) c')) u'):if Region.wanted o (yielded ops a.tmps)=true then Oper.wp P o a u K Q else E:=by
 refine gP ho.1 s y t ho.2.1 w.heap.size t3 i z k3 Yk ho.2.2.1 hi.1 hi.2.1 hi.2.2.1 hi.2.2.2 ho.2.2.2 hk v3 0 [] hs h.o3 A m c news hx (hr.below h.b ace) ho1 (by unfold maxLen;omega) ?_ h.b.size ?_
 ·have:=Nat.mul_le_mul (show 0+m≤4194240 by omega) hm.2;omega
 ·intro A' c' u' hown hgr hat;exact hn A' c' u' (h.app3 hown hgr hat)
end
def IE(w:World)(e:Ending)(w':World):Prop:=∃q,e= .returned (ptr q)∧Below w.heap.size w w'
theorem jo{w u:World}{v1 v2 v3:Value}{n1 n2 n3:Nat}{x1 x2 x3:List Value}(o:Obj)(hC:xO 35 32 324 6 1 3 w u v1 n1 x1 v2 n2 x2 v3 n3 x3):IE w (.returned (ptr u.heap.size)) (u.alloc o):=
 ⟨_,rfl,hC.b.trans ((wall u o).mono hC.b.size)⟩
theorem Ub:(Tryz.prog.info? 35).map (fun i=>(i.zero,i.size,i.bytes))=some (some (.agg #[.int .i64 0,.int .i64 0,.int .i64 0,.int .i64 0,.int .u64 0,.bool false]),6,48):=by kernel_rfl
theorem Uc:(Tryz.prog.info? 32).map (fun i=>(i.zero,i.size,i.bytes))=some (some (.slice none 0 0),1,24):=by kernel_rfl
theorem Yl:(Tryz.prog.info? 324).map (fun i=>(i.zero,i.size,i.bytes))=some (some (.agg #[.int .i64 0,.string ⟨#[]⟩,.int .i64 0]),3,32):=by kernel_rfl
theorem rcopyL(w:World)(r:Nat)(hr0:r<w.heap.size){S1 S2 S3:Nat→Prop}{aN aD aE:Option Addr}{n1 n2 n3 cN cD cE:Nat}{x1 x2 x3:List Value}(h1:w.heap[r]? =some (.cells #[.slice aN n1 cN,.slice aD n2 cD,.slice aE n3 cE] 270 (0,0)))
  (hN:ah S1 w aN (n1*6) x1)(hD:ah S2 w aD (n2*1) x2)(hE:ah S3 w aE (n3*3) x3)(hN1:∀u∈x1,u.oneCell'=true)(hD1:∀u∈x2,u.oneCell'=true)(hE1:∀u∈x3,u.oneCell'=true)(hn:n1≤64)(hd:n2≤64)(he:n3≤64):Calls Tryz.prog 182 #[ptr r] w (IE w):=by
 obtain⟨iN,hiN⟩:∃i,Tryz.prog.info? 35=some i∧i.zero=some (.agg #[.int .i64 0,.int .i64 0,.int .i64 0,.int .i64 0,.int .u64 0,.bool false])∧i.size=6∧i.bytes=48:=aay Ub;obtain⟨iD,hiD⟩:∃i,Tryz.prog.info? 32=some i∧i.zero=some (.slice none 0 0)∧i.size=1∧i.bytes=24:=aay Uc;obtain⟨iE,hiE⟩:∃i,Tryz.prog.info? 324=some i∧i.zero=some (.agg #[.int .i64 0,.string ⟨#[]⟩,.int .i64 0])∧i.size=3∧i.bytes=32:=aay Yl;have gI:acd (∀w',Below w.heap.size w w'→w'.cell? ⟨r,0,none⟩=some (.slice aN n1 cN)∧w'.cell? ⟨r,1,none⟩=some (.slice aD n2 cD)∧w'.cell? ⟨r,2,none⟩=some (.slice aE n3 cE)):=fun w' hb=>by
  have h2:=(hb.block r hr0).trans h1;refine⟨?_,?_,?_⟩<;>simp[World.cell?,h2]
 have HN:=ab9 hN;have HD:=ab9 hD;have HE:=ab9 hE;have Ym:=ab9 hiN;have KO:=ab9 hiD;have P9:=ab9 hiE;have zV:=ab9 hN1;have HD1:=ab9 hD1;have BZ:=ab9 hE1;have Ul:=ab9 (xO.start (t1:=35) (t2:=32) (t3:=324) (k1:=6) (k2:=1) (k3:=3) w);clear h1 hN hD hE hN1 hD1 hE1 hiN hiD hiE;go_enter Tryz.func182,Tryz.ntmps182;go_wp2_with fail;refine Cv 20 ((fun w'=>w'.cell? ⟨r,0,none⟩=some (.slice aN n1 cN)∧w'.cell? ⟨r,1,none⟩=some (.slice aD n2 cD)∧w'.cell? ⟨r,2,none⟩=some (.slice aE n3 cE))) ?_ fun hS=> ?_
 ·exact gI.o _ Ul.o.b
 refine aY 1 hS ?_;refine aY 2 hS ?_;refine aY 3 hS ?_;refine aY 4 hS ?_;refine aY 7 hS ?_;refine aY 8 hS ?_;refine aY 9 hS ?_;refine aY 10 hS ?_;refine aY 13 hS ?_;refine aY 14 hS ?_;refine aY 15 hS ?_;refine aY 16 hS ?_;refine rdL3 0 6 12 (fun K hK=> ?g1_0) (fun K hK=> ?g1_6) fun K hK=> ?g1_12
 case g1_0=>
  go_simp;have YV:=Ul.o.BF
  try simp only[Pd]at YV
  refine dK hK (gI.o _ YV.b) fun hS=> ?_;clear hK K;refine rdL3 5 6 12 (fun K hK=> ?g4_5) (fun K hK=> ?g4_6) fun K hK=> ?g4_12
  case g4_5=>
   refine YV.go1 (.tmp 3) (.tmp 7) 267 Ym.o HN.o zV.o rfl rfl ⟨rfl,rfl,aaN,rfl⟩ (by omega) (by omega) ?_;intro A1 c1 u1 hC6;refine dK hK (gI.o _ hC6.b) fun hS=> ?_;clear hK K;refine sM 6 12 (fun K hK=> ?g7_6) fun K hK=> ?g7_12
   case g7_6=>
    go_simp;have hC9:=hC6.jE
    try simp only[Pd]at hC9
    refine dK hK (gI.o _ hC9.b) fun hS=> ?_;clear hK K;refine sM 11 12 (fun K hK=> ?g10_11) fun K hK=> ?g10_12
    case g10_11=>
     refine hC9.go2 (.tmp 9) (.tmp 13) 229 KO.o HD.o HD1.o rfl rfl ⟨rfl,rfl,Tryz.underlying229,rfl⟩ (by omega) (by omega) ?_;intro A2 c2 u2 hC12;refine dK hK (gI.o _ hC12.b) fun hS=> ?_;clear hK K;refine dW 12 fun K hK=> ?_;go_simp;have hC13:=hC12.mH
     try simp only[Pd]at hC13
     refine dK hK (gI.o _ hC13.b) fun hS=> ?_;clear hK K;refine dW 17 fun K hK=> ?_;refine hC13.P8 (.tmp 15) (.tmp 19) 268 P9.o HE.o BZ.o rfl rfl ⟨rfl,rfl,aaB,rfl⟩ (by omega) (by omega) ?_;intro A3 c3 u3 hC14;refine dK hK (gI.o _ hC14.b) fun hS=> ?_;clear hK K;refine aY 18 hS ?_;refine dW 19 fun K hK=> ?_;go_simp;refine dK hK (gI.o _ (hC14.b.trans ((wall _ _).mono hC14.b.size))) fun hS=> ?_;clear hK K;refine dW 20 fun K hK=> ?_;go_simp;refine sN hK ?_;clear hS hK K;go_wp2_with fail;go_ret;exact jo _ hC14
    case g10_12=>
     go_simp;have hC15:=hC9.mH
     try simp only[Pd]at hC15
     refine dK hK (gI.o _ hC15.b) fun hS=> ?_;clear hK K;refine dW 11 fun K hK=> ?_;refine hC15.go2 (.tmp 9) (.tmp 13) 229 KO.o HD.o HD1.o rfl rfl ⟨rfl,rfl,Tryz.underlying229,rfl⟩ (by omega) (by omega) ?_;intro A2 c2 u2 hC16;refine dK hK (gI.o _ hC16.b) fun hS=> ?_;clear hK K;refine dW 17 fun K hK=> ?_;refine hC16.P8 (.tmp 15) (.tmp 19) 268 P9.o HE.o BZ.o rfl rfl ⟨rfl,rfl,aaB,rfl⟩ (by omega) (by omega) ?_;intro A3 c3 u3 hC17;refine dK hK (gI.o _ hC17.b) fun hS=> ?_;clear hK K;refine aY 18 hS ?_;refine dW 19 fun K hK=> ?_;go_simp;refine dK hK (gI.o _ (hC17.b.trans ((wall _ _).mono hC17.b.size))) fun hS=> ?_;clear hK K;refine dW 20 fun K hK=> ?_;go_simp;refine sN hK ?_;clear hS hK K;go_wp2_with fail;go_ret;exact jo _ hC17
   case g7_12=>
    go_simp;have hC18:=hC6.mH
    try simp only[Pd]at hC18
    refine dK hK (gI.o _ hC18.b) fun hS=> ?_;clear hK K;refine dW 6 fun K hK=> ?_;go_simp;have hC19:=hC18.jE
    try simp only[Pd]at hC19
    refine dK hK (gI.o _ hC19.b) fun hS=> ?_;clear hK K;refine dW 11 fun K hK=> ?_;refine hC19.go2 (.tmp 9) (.tmp 13) 229 KO.o HD.o HD1.o rfl rfl ⟨rfl,rfl,Tryz.underlying229,rfl⟩ (by omega) (by omega) ?_;intro A2 c2 u2 hC20;refine dK hK (gI.o _ hC20.b) fun hS=> ?_;clear hK K;refine dW 17 fun K hK=> ?_;refine hC20.P8 (.tmp 15) (.tmp 19) 268 P9.o HE.o BZ.o rfl rfl ⟨rfl,rfl,aaB,rfl⟩ (by omega) (by omega) ?_;intro A3 c3 u3 hC21;refine dK hK (gI.o _ hC21.b) fun hS=> ?_;clear hK K;refine aY 18 hS ?_;refine dW 19 fun K hK=> ?_;go_simp;refine dK hK (gI.o _ (hC21.b.trans ((wall _ _).mono hC21.b.size))) fun hS=> ?_;clear hK K;refine dW 20 fun K hK=> ?_;go_simp;refine sN hK ?_;clear hS hK K;go_wp2_with fail;go_ret;exact jo _ hC21
  case g4_6=>
   go_simp;have hC22:=YV.jE
   try simp only[Pd]at hC22
   refine dK hK (gI.o _ hC22.b) fun hS=> ?_;clear hK K;refine sM 5 12 (fun K hK=> ?g23_5) fun K hK=> ?g23_12
   case g23_5=>
    refine hC22.go1 (.tmp 3) (.tmp 7) 267 Ym.o HN.o zV.o rfl rfl ⟨rfl,rfl,aaN,rfl⟩ (by omega) (by omega) ?_;intro A1 c1 u1 hC25;refine dK hK (gI.o _ hC25.b) fun hS=> ?_;clear hK K;refine sM 11 12 (fun K hK=> ?g26_11) fun K hK=> ?g26_12
    case g26_11=>
     refine hC25.go2 (.tmp 9) (.tmp 13) 229 KO.o HD.o HD1.o rfl rfl ⟨rfl,rfl,Tryz.underlying229,rfl⟩ (by omega) (by omega) ?_;intro A2 c2 u2 hC28;refine dK hK (gI.o _ hC28.b) fun hS=> ?_;clear hK K;refine dW 12 fun K hK=> ?_;go_simp;have hC29:=hC28.mH
     try simp only[Pd]at hC29
     refine dK hK (gI.o _ hC29.b) fun hS=> ?_;clear hK K;refine dW 17 fun K hK=> ?_;refine hC29.P8 (.tmp 15) (.tmp 19) 268 P9.o HE.o BZ.o rfl rfl ⟨rfl,rfl,aaB,rfl⟩ (by omega) (by omega) ?_;intro A3 c3 u3 hC30;refine dK hK (gI.o _ hC30.b) fun hS=> ?_;clear hK K;refine aY 18 hS ?_;refine dW 19 fun K hK=> ?_;go_simp;refine dK hK (gI.o _ (hC30.b.trans ((wall _ _).mono hC30.b.size))) fun hS=> ?_;clear hK K;refine dW 20 fun K hK=> ?_;go_simp;refine sN hK ?_;clear hS hK K;go_wp2_with fail;go_ret;exact jo _ hC30
    case g26_12=>
     go_simp;have hC31:=hC25.mH
     try simp only[Pd]at hC31
     refine dK hK (gI.o _ hC31.b) fun hS=> ?_;clear hK K;refine dW 11 fun K hK=> ?_;refine hC31.go2 (.tmp 9) (.tmp 13) 229 KO.o HD.o HD1.o rfl rfl ⟨rfl,rfl,Tryz.underlying229,rfl⟩ (by omega) (by omega) ?_;intro A2 c2 u2 hC32;refine dK hK (gI.o _ hC32.b) fun hS=> ?_;clear hK K;refine dW 17 fun K hK=> ?_;refine hC32.P8 (.tmp 15) (.tmp 19) 268 P9.o HE.o BZ.o rfl rfl ⟨rfl,rfl,aaB,rfl⟩ (by omega) (by omega) ?_;intro A3 c3 u3 hC33;refine dK hK (gI.o _ hC33.b) fun hS=> ?_;clear hK K;refine aY 18 hS ?_;refine dW 19 fun K hK=> ?_;go_simp;refine dK hK (gI.o _ (hC33.b.trans ((wall _ _).mono hC33.b.size))) fun hS=> ?_;clear hK K;refine dW 20 fun K hK=> ?_;go_simp;refine sN hK ?_;clear hS hK K;go_wp2_with fail;go_ret;exact jo _ hC33
   case g23_12=>
    go_simp;have hC34:=hC22.mH
    try simp only[Pd]at hC34
    refine dK hK (gI.o _ hC34.b) fun hS=> ?_;clear hK K;refine dW 5 fun K hK=> ?_;refine hC34.go1 (.tmp 3) (.tmp 7) 267 Ym.o HN.o zV.o rfl rfl ⟨rfl,rfl,aaN,rfl⟩ (by omega) (by omega) ?_;intro A1 c1 u1 hC35;refine dK hK (gI.o _ hC35.b) fun hS=> ?_;clear hK K;refine dW 11 fun K hK=> ?_;refine hC35.go2 (.tmp 9) (.tmp 13) 229 KO.o HD.o HD1.o rfl rfl ⟨rfl,rfl,Tryz.underlying229,rfl⟩ (by omega) (by omega) ?_;intro A2 c2 u2 hC36;refine dK hK (gI.o _ hC36.b) fun hS=> ?_;clear hK K;refine dW 17 fun K hK=> ?_;refine hC36.P8 (.tmp 15) (.tmp 19) 268 P9.o HE.o BZ.o rfl rfl ⟨rfl,rfl,aaB,rfl⟩ (by omega) (by omega) ?_;intro A3 c3 u3 hC37;refine dK hK (gI.o _ hC37.b) fun hS=> ?_;clear hK K;refine aY 18 hS ?_;refine dW 19 fun K hK=> ?_;go_simp;refine dK hK (gI.o _ (hC37.b.trans ((wall _ _).mono hC37.b.size))) fun hS=> ?_;clear hK K;refine dW 20 fun K hK=> ?_;go_simp;refine sN hK ?_;clear hS hK K;go_wp2_with fail;go_ret;exact jo _ hC37
  case g4_12=>
   go_simp;have hC38:=YV.mH
   try simp only[Pd]at hC38
   refine dK hK (gI.o _ hC38.b) fun hS=> ?_;clear hK K;refine sM 5 6 (fun K hK=> ?g39_5) fun K hK=> ?g39_6
   case g39_5=>
    refine hC38.go1 (.tmp 3) (.tmp 7) 267 Ym.o HN.o zV.o rfl rfl ⟨rfl,rfl,aaN,rfl⟩ (by omega) (by omega) ?_;intro A1 c1 u1 hC41;refine dK hK (gI.o _ hC41.b) fun hS=> ?_;clear hK K;refine dW 6 fun K hK=> ?_;go_simp;have hC42:=hC41.jE
    try simp only[Pd]at hC42
    refine dK hK (gI.o _ hC42.b) fun hS=> ?_;clear hK K;refine dW 11 fun K hK=> ?_;refine hC42.go2 (.tmp 9) (.tmp 13) 229 KO.o HD.o HD1.o rfl rfl ⟨rfl,rfl,Tryz.underlying229,rfl⟩ (by omega) (by omega) ?_;intro A2 c2 u2 hC43;refine dK hK (gI.o _ hC43.b) fun hS=> ?_;clear hK K;refine dW 17 fun K hK=> ?_;refine hC43.P8 (.tmp 15) (.tmp 19) 268 P9.o HE.o BZ.o rfl rfl ⟨rfl,rfl,aaB,rfl⟩ (by omega) (by omega) ?_;intro A3 c3 u3 hC44;refine dK hK (gI.o _ hC44.b) fun hS=> ?_;clear hK K;refine aY 18 hS ?_;refine dW 19 fun K hK=> ?_;go_simp;refine dK hK (gI.o _ (hC44.b.trans ((wall _ _).mono hC44.b.size))) fun hS=> ?_;clear hK K;refine dW 20 fun K hK=> ?_;go_simp;refine sN hK ?_;clear hS hK K;go_wp2_with fail;go_ret;exact jo _ hC44
   case g39_6=>
    go_simp;have hC45:=hC38.jE
    try simp only[Pd]at hC45
    refine dK hK (gI.o _ hC45.b) fun hS=> ?_;clear hK K;refine dW 5 fun K hK=> ?_;refine hC45.go1 (.tmp 3) (.tmp 7) 267 Ym.o HN.o zV.o rfl rfl ⟨rfl,rfl,aaN,rfl⟩ (by omega) (by omega) ?_;intro A1 c1 u1 hC46;refine dK hK (gI.o _ hC46.b) fun hS=> ?_;clear hK K;refine dW 11 fun K hK=> ?_;refine hC46.go2 (.tmp 9) (.tmp 13) 229 KO.o HD.o HD1.o rfl rfl ⟨rfl,rfl,Tryz.underlying229,rfl⟩ (by omega) (by omega) ?_;intro A2 c2 u2 hC47;refine dK hK (gI.o _ hC47.b) fun hS=> ?_;clear hK K;refine dW 17 fun K hK=> ?_;refine hC47.P8 (.tmp 15) (.tmp 19) 268 P9.o HE.o BZ.o rfl rfl ⟨rfl,rfl,aaB,rfl⟩ (by omega) (by omega) ?_;intro A3 c3 u3 hC48;refine dK hK (gI.o _ hC48.b) fun hS=> ?_;clear hK K;refine aY 18 hS ?_;refine dW 19 fun K hK=> ?_;go_simp;refine dK hK (gI.o _ (hC48.b.trans ((wall _ _).mono hC48.b.size))) fun hS=> ?_;clear hK K;refine dW 20 fun K hK=> ?_;go_simp;refine sN hK ?_;clear hS hK K;go_wp2_with fail;go_ret;exact jo _ hC48
 case g1_6=>
  go_simp;have hC49:=Ul.o.jE
  try simp only[Pd]at hC49
  refine dK hK (gI.o _ hC49.b) fun hS=> ?_;clear hK K;refine sM 0 12 (fun K hK=> ?g50_0) fun K hK=> ?g50_12
  case g50_0=>
   go_simp;have hC52:=hC49.BF
   try simp only[Pd]at hC52
   refine dK hK (gI.o _ hC52.b) fun hS=> ?_;clear hK K;refine sM 5 12 (fun K hK=> ?g53_5) fun K hK=> ?g53_12
   case g53_5=>
    refine hC52.go1 (.tmp 3) (.tmp 7) 267 Ym.o HN.o zV.o rfl rfl ⟨rfl,rfl,aaN,rfl⟩ (by omega) (by omega) ?_;intro A1 c1 u1 hC55;refine dK hK (gI.o _ hC55.b) fun hS=> ?_;clear hK K;refine sM 11 12 (fun K hK=> ?g56_11) fun K hK=> ?g56_12
    case g56_11=>
     refine hC55.go2 (.tmp 9) (.tmp 13) 229 KO.o HD.o HD1.o rfl rfl ⟨rfl,rfl,Tryz.underlying229,rfl⟩ (by omega) (by omega) ?_;intro A2 c2 u2 hC58;refine dK hK (gI.o _ hC58.b) fun hS=> ?_;clear hK K;refine dW 12 fun K hK=> ?_;go_simp;have hC59:=hC58.mH
     try simp only[Pd]at hC59
     refine dK hK (gI.o _ hC59.b) fun hS=> ?_;clear hK K;refine dW 17 fun K hK=> ?_;refine hC59.P8 (.tmp 15) (.tmp 19) 268 P9.o HE.o BZ.o rfl rfl ⟨rfl,rfl,aaB,rfl⟩ (by omega) (by omega) ?_;intro A3 c3 u3 hC60;refine dK hK (gI.o _ hC60.b) fun hS=> ?_;clear hK K;refine aY 18 hS ?_;refine dW 19 fun K hK=> ?_;go_simp;refine dK hK (gI.o _ (hC60.b.trans ((wall _ _).mono hC60.b.size))) fun hS=> ?_;clear hK K;refine dW 20 fun K hK=> ?_;go_simp;refine sN hK ?_;clear hS hK K;go_wp2_with fail;go_ret;exact jo _ hC60
    case g56_12=>
     go_simp;have hC61:=hC55.mH
     try simp only[Pd]at hC61
     refine dK hK (gI.o _ hC61.b) fun hS=> ?_;clear hK K;refine dW 11 fun K hK=> ?_;refine hC61.go2 (.tmp 9) (.tmp 13) 229 KO.o HD.o HD1.o rfl rfl ⟨rfl,rfl,Tryz.underlying229,rfl⟩ (by omega) (by omega) ?_;intro A2 c2 u2 hC62;refine dK hK (gI.o _ hC62.b) fun hS=> ?_;clear hK K;refine dW 17 fun K hK=> ?_;refine hC62.P8 (.tmp 15) (.tmp 19) 268 P9.o HE.o BZ.o rfl rfl ⟨rfl,rfl,aaB,rfl⟩ (by omega) (by omega) ?_;intro A3 c3 u3 hC63;refine dK hK (gI.o _ hC63.b) fun hS=> ?_;clear hK K;refine aY 18 hS ?_;refine dW 19 fun K hK=> ?_;go_simp;refine dK hK (gI.o _ (hC63.b.trans ((wall _ _).mono hC63.b.size))) fun hS=> ?_;clear hK K;refine dW 20 fun K hK=> ?_;go_simp;refine sN hK ?_;clear hS hK K;go_wp2_with fail;go_ret;exact jo _ hC63
   case g53_12=>
    go_simp;have hC64:=hC52.mH
    try simp only[Pd]at hC64
    refine dK hK (gI.o _ hC64.b) fun hS=> ?_;clear hK K;refine dW 5 fun K hK=> ?_;refine hC64.go1 (.tmp 3) (.tmp 7) 267 Ym.o HN.o zV.o rfl rfl ⟨rfl,rfl,aaN,rfl⟩ (by omega) (by omega) ?_;intro A1 c1 u1 hC65;refine dK hK (gI.o _ hC65.b) fun hS=> ?_;clear hK K;refine dW 11 fun K hK=> ?_;refine hC65.go2 (.tmp 9) (.tmp 13) 229 KO.o HD.o HD1.o rfl rfl ⟨rfl,rfl,Tryz.underlying229,rfl⟩ (by omega) (by omega) ?_;intro A2 c2 u2 hC66;refine dK hK (gI.o _ hC66.b) fun hS=> ?_;clear hK K;refine dW 17 fun K hK=> ?_;refine hC66.P8 (.tmp 15) (.tmp 19) 268 P9.o HE.o BZ.o rfl rfl ⟨rfl,rfl,aaB,rfl⟩ (by omega) (by omega) ?_;intro A3 c3 u3 hC67;refine dK hK (gI.o _ hC67.b) fun hS=> ?_;clear hK K;refine aY 18 hS ?_;refine dW 19 fun K hK=> ?_;go_simp;refine dK hK (gI.o _ (hC67.b.trans ((wall _ _).mono hC67.b.size))) fun hS=> ?_;clear hK K;refine dW 20 fun K hK=> ?_;go_simp;refine sN hK ?_;clear hS hK K;go_wp2_with fail;go_ret;exact jo _ hC67
  case g50_12=>
   go_simp;have hC68:=hC49.mH
   try simp only[Pd]at hC68
   refine dK hK (gI.o _ hC68.b) fun hS=> ?_;clear hK K;refine dW 0 fun K hK=> ?_;go_simp;have hC69:=hC68.BF
   try simp only[Pd]at hC69
   refine dK hK (gI.o _ hC69.b) fun hS=> ?_;clear hK K;refine dW 5 fun K hK=> ?_;refine hC69.go1 (.tmp 3) (.tmp 7) 267 Ym.o HN.o zV.o rfl rfl ⟨rfl,rfl,aaN,rfl⟩ (by omega) (by omega) ?_;intro A1 c1 u1 hC70;refine dK hK (gI.o _ hC70.b) fun hS=> ?_;clear hK K;refine dW 11 fun K hK=> ?_;refine hC70.go2 (.tmp 9) (.tmp 13) 229 KO.o HD.o HD1.o rfl rfl ⟨rfl,rfl,Tryz.underlying229,rfl⟩ (by omega) (by omega) ?_;intro A2 c2 u2 hC71;refine dK hK (gI.o _ hC71.b) fun hS=> ?_;clear hK K;refine dW 17 fun K hK=> ?_;refine hC71.P8 (.tmp 15) (.tmp 19) 268 P9.o HE.o BZ.o rfl rfl ⟨rfl,rfl,aaB,rfl⟩ (by omega) (by omega) ?_;intro A3 c3 u3 hC72;refine dK hK (gI.o _ hC72.b) fun hS=> ?_;clear hK K;refine aY 18 hS ?_;refine dW 19 fun K hK=> ?_;go_simp;refine dK hK (gI.o _ (hC72.b.trans ((wall _ _).mono hC72.b.size))) fun hS=> ?_;clear hK K;refine dW 20 fun K hK=> ?_;go_simp;refine sN hK ?_;clear hS hK K;go_wp2_with fail;go_ret;exact jo _ hC72
 case g1_12=>
  go_simp;have hC73:=Ul.o.mH
  try simp only[Pd]at hC73
  refine dK hK (gI.o _ hC73.b) fun hS=> ?_;clear hK K;refine sM 0 6 (fun K hK=> ?g74_0) fun K hK=> ?g74_6
  case g74_0=>
   go_simp;have hC76:=hC73.BF
   try simp only[Pd]at hC76
   refine dK hK (gI.o _ hC76.b) fun hS=> ?_;clear hK K;refine sM 5 6 (fun K hK=> ?g77_5) fun K hK=> ?g77_6
   case g77_5=>
    refine hC76.go1 (.tmp 3) (.tmp 7) 267 Ym.o HN.o zV.o rfl rfl ⟨rfl,rfl,aaN,rfl⟩ (by omega) (by omega) ?_;intro A1 c1 u1 hC79;refine dK hK (gI.o _ hC79.b) fun hS=> ?_;clear hK K;refine dW 6 fun K hK=> ?_;go_simp;have hC80:=hC79.jE
    try simp only[Pd]at hC80
    refine dK hK (gI.o _ hC80.b) fun hS=> ?_;clear hK K;refine dW 11 fun K hK=> ?_;refine hC80.go2 (.tmp 9) (.tmp 13) 229 KO.o HD.o HD1.o rfl rfl ⟨rfl,rfl,Tryz.underlying229,rfl⟩ (by omega) (by omega) ?_;intro A2 c2 u2 hC81;refine dK hK (gI.o _ hC81.b) fun hS=> ?_;clear hK K;refine dW 17 fun K hK=> ?_;refine hC81.P8 (.tmp 15) (.tmp 19) 268 P9.o HE.o BZ.o rfl rfl ⟨rfl,rfl,aaB,rfl⟩ (by omega) (by omega) ?_;intro A3 c3 u3 hC82;refine dK hK (gI.o _ hC82.b) fun hS=> ?_;clear hK K;refine aY 18 hS ?_;refine dW 19 fun K hK=> ?_;go_simp;refine dK hK (gI.o _ (hC82.b.trans ((wall _ _).mono hC82.b.size))) fun hS=> ?_;clear hK K;refine dW 20 fun K hK=> ?_;go_simp;refine sN hK ?_;clear hS hK K;go_wp2_with fail;go_ret;exact jo _ hC82
   case g77_6=>
    go_simp;have hC83:=hC76.jE
    try simp only[Pd]at hC83
    refine dK hK (gI.o _ hC83.b) fun hS=> ?_;clear hK K;refine dW 5 fun K hK=> ?_;refine hC83.go1 (.tmp 3) (.tmp 7) 267 Ym.o HN.o zV.o rfl rfl ⟨rfl,rfl,aaN,rfl⟩ (by omega) (by omega) ?_;intro A1 c1 u1 hC84;refine dK hK (gI.o _ hC84.b) fun hS=> ?_;clear hK K;refine dW 11 fun K hK=> ?_;refine hC84.go2 (.tmp 9) (.tmp 13) 229 KO.o HD.o HD1.o rfl rfl ⟨rfl,rfl,Tryz.underlying229,rfl⟩ (by omega) (by omega) ?_;intro A2 c2 u2 hC85;refine dK hK (gI.o _ hC85.b) fun hS=> ?_;clear hK K;refine dW 17 fun K hK=> ?_;refine hC85.P8 (.tmp 15) (.tmp 19) 268 P9.o HE.o BZ.o rfl rfl ⟨rfl,rfl,aaB,rfl⟩ (by omega) (by omega) ?_;intro A3 c3 u3 hC86;refine dK hK (gI.o _ hC86.b) fun hS=> ?_;clear hK K;refine aY 18 hS ?_;refine dW 19 fun K hK=> ?_;go_simp;refine dK hK (gI.o _ (hC86.b.trans ((wall _ _).mono hC86.b.size))) fun hS=> ?_;clear hK K;refine dW 20 fun K hK=> ?_;go_simp;refine sN hK ?_;clear hS hK K;go_wp2_with fail;go_ret;exact jo _ hC86
  case g74_6=>
   go_simp;have hC87:=hC73.jE
   try simp only[Pd]at hC87
   refine dK hK (gI.o _ hC87.b) fun hS=> ?_;clear hK K;refine dW 0 fun K hK=> ?_;go_simp;have hC88:=hC87.BF
   try simp only[Pd]at hC88
   refine dK hK (gI.o _ hC88.b) fun hS=> ?_;clear hK K;refine dW 5 fun K hK=> ?_;refine hC88.go1 (.tmp 3) (.tmp 7) 267 Ym.o HN.o zV.o rfl rfl ⟨rfl,rfl,aaN,rfl⟩ (by omega) (by omega) ?_;intro A1 c1 u1 hC89;refine dK hK (gI.o _ hC89.b) fun hS=> ?_;clear hK K;refine dW 11 fun K hK=> ?_;refine hC89.go2 (.tmp 9) (.tmp 13) 229 KO.o HD.o HD1.o rfl rfl ⟨rfl,rfl,Tryz.underlying229,rfl⟩ (by omega) (by omega) ?_;intro A2 c2 u2 hC90;refine dK hK (gI.o _ hC90.b) fun hS=> ?_;clear hK K;refine dW 17 fun K hK=> ?_;refine hC90.P8 (.tmp 15) (.tmp 19) 268 P9.o HE.o BZ.o rfl rfl ⟨rfl,rfl,aaB,rfl⟩ (by omega) (by omega) ?_;intro A3 c3 u3 hC91;refine dK hK (gI.o _ hC91.b) fun hS=> ?_;clear hK K;refine aY 18 hS ?_;refine dW 19 fun K hK=> ?_;go_simp;refine dK hK (gI.o _ (hC91.b.trans ((wall _ _).mono hC91.b.size))) fun hS=> ?_;clear hK K;refine dW 20 fun K hK=> ?_;go_simp;refine sN hK ?_;clear hS hK K;go_wp2_with fail;go_ret;exact jo _ hC91
theorem MC{w:World}{g:Nat}{vs:List Value}{t:TypeId}{z:Nat×Nat}(h:w.heap[g]? =some (.cells vs.toArray t z))(hm:vs.length≤maxLen):ah (fun x=>x=g) w (some ⟨g,0,none⟩) vs.length vs:=by
 refine⟨rfl,hm,fun _=>⟨g,0,rfl,rfl,(uh.1 h).1,fun i hi=> ?_⟩⟩;simp[World.cell?,h]
def RTr(w:World)(r:Nat):Prop:=
 ∃bn bd,w.heap[r]? =some (.cells #[.slice (some ⟨bn,0,none⟩) 1 1,.slice (some ⟨bd,0,none⟩) 1 1,.slice none 0 0] 270 (0,0))∧w.heap[bn]? =some (.cells #[.int .i64 0,.int .i64 2,.int .i64 1,.int .i64 0,.int .u64 0,.bool true] 35 (0,0))∧w.heap[bd]? =some (.cells #[.slice none 0 0] 32 (0,0))
def RSn(w:World)(s:Nat):Prop:=w.heap[s]? =some (.cells #[.int .i64 1,.slice none 0 0,.slice none 0 0] 273 (0,0))
def RSt(w:World)(p:Nat):Prop:=∃t s,p<w.heap.size∧(w.cell? ⟨p,0,none⟩=some (ptr t)∧w.cell? ⟨p,1,none⟩=some (ptr s)∧w.cell? ⟨p,2,none⟩=some (.int .u64 0))∧RTr w t∧RSn w s
section
variable{w w':World}{r s p:Nat}
theorem iI{C:Obj}{b:Nat}(h:w.heap[b]? =some C)(hb:Below w.heap.size w w'):w'.heap[b]? =some C:=(hb.block b (uh.1 h).1).trans h
theorem RTr.grow(h:RTr w r)(hb:Below w.heap.size w w'):RTr w' r:=by
 obtain⟨bn,bd,h1,h2,h3⟩:=h;exact⟨bn,bd,iI h1 hb,iI h2 hb,iI h3 hb⟩
theorem RSt.grow(h:RSt w p)(hb:Below w.heap.size w w'):RSt w' p:=by
 obtain⟨t,s,h1,h2,h3,h4⟩:=h;refine⟨t,s,Nat.lt_of_lt_of_le h1 hb.size,?_,h3.grow hb,iI h4 hb⟩;simp only[World.cell?,hb.block p h1]at h2⊢;exact h2
theorem rnewL(w:World):Calls Tryz.prog 107 #[] w fun e w'=>∃r,e= .returned (ptr r)∧RTr w' r∧Below w.heap.size w w':=by
 go_enter Tryz.func107,Tryz.ntmps107;go_wp2;go_ret;have h1:=(MapKept.heap_alloc w (.cells #[.int .i64 0,.int .i64 2,.int .i64 1,.int .i64 0,.int .u64 0,.bool true] 35)).1;have h2:=(MapKept.heap_alloc (w.alloc (.cells #[.int .i64 0,.int .i64 2,.int .i64 1,.int .i64 0,.int .u64 0,.bool true] 35)) (.cells #[.slice none 0 0] 32)).1;have h3:=(MapKept.heap_alloc ((w.alloc (.cells #[.int .i64 0,.int .i64 2,.int .i64 1,.int .i64 0,.int .u64 0,.bool true] 35)).alloc (.cells #[.slice none 0 0] 32)) (.cells #[.slice (some ⟨w.heap.size,0,none⟩) 1 1,.slice (some ⟨w.heap.size+1,0,none⟩) 1 1,.slice none 0 0] 270)).1;have b1:=wall w (.cells #[.int .i64 0,.int .i64 2,.int .i64 1,.int .i64 0,.int .u64 0,.bool true] 35);have b2:=wall (w.alloc (.cells #[.int .i64 0,.int .i64 2,.int .i64 1,.int .i64 0,.int .u64 0,.bool true] 35)) (.cells #[.slice none 0 0] 32);have b3:=wall ((w.alloc (.cells #[.int .i64 0,.int .i64 2,.int .i64 1,.int .i64 0,.int .u64 0,.bool true] 35)).alloc (.cells #[.slice none 0 0] 32)) (.cells #[.slice (some ⟨w.heap.size,0,none⟩) 1 1,.slice (some ⟨w.heap.size+1,0,none⟩) 1 1,.slice none 0 0] 270);have b4:=b1.trans ((b2.mono b1.size).trans (b3.mono (Nat.le_trans b1.size b2.size)));have h1':=iI (iI h1 b2) b3;have h2':=iI h2 b3;rw[Pd]at h2';rw[Pd,Pd]at h3;exact⟨_,rfl,⟨_,_,h3,h1',h2'⟩,b4⟩
theorem rsnewL(w:World):Calls Tryz.prog 108 #[] w fun e w'=>∃s,e= .returned (ptr s)∧RSn w' s∧Below w.heap.size w w':=by
 go_enter Tryz.func108,Tryz.ntmps108;go_wp2;go_ret;exact⟨_,rfl,(MapKept.heap_alloc w _).1,wall w _⟩
theorem ME(h:RTr w r):Calls Tryz.prog 109 #[ptr r] w (IE w):=by
 obtain⟨bn,bd,h1,h2,h3⟩:=h;have KM:=ab9 (rcopyL w r (uh.1 h1).1 h1 (MC (vs:=[.int .i64 0,.int .i64 2,.int .i64 1,.int .i64 0,.int .u64 0,.bool true]) h2 (by simp[maxLen])) (MC (vs:=[.slice none 0 0]) h3 (by simp[maxLen])) (ah.nil (fun _=>True) _ _) (by simp[Value.oneCell']) (by simp[Value.oneCell']) (by simp) (by omega) (by omega) (by omega));have H1:=ab9 h1;have H2:=ab9 h2;have c0:w.cell? ⟨r,0,none⟩=some (.slice (some ⟨bn,0,none⟩) 1 1):=by simp[World.cell?,h1]
 clear h1 h2 h3;go_enter Tryz.func109,Tryz.ntmps109;go_wp2_with fail;refine KM.o.mono ?_;rintro e w1 ⟨q,rfl,hb1⟩;have HB1:=ab9 hb1;clear hb1 KM c0;go_wp2_with fail
 go_loopw [4] (fun iv wr=>∃k:Nat,iv= .int .i64 k∧k≤1∧Below w.heap.size w wr) (fun iv _=>1-(intOf iv).toNat)
 case atStart=>exact⟨0,rfl,by omega,HB1.o⟩
 case round=>
  obtain⟨k,rfl,hk,hB⟩:=hrel;have g1:=iI H1.o hB;have g2:=iI H2.o hB;have c0:wr.cell? ⟨r,0,none⟩=some (.slice (some ⟨bn,0,none⟩) 1 1):=by simp[World.cell?,g1]
  have c5:wr.cell? ⟨bn,5,none⟩=some (.bool true):=by simp[World.cell?,g2]
  have HB:=ab9 hB;clear g1 g2 hB;rcases (show k=0∨k=1 by omega)with rfl|rfl
  ·go_wp2_with fail;go_roundw
   case rel=>exact⟨1,by go_num,by omega,HB.o⟩
   case measure=>simp[intOf]
  ·go_wp2_with fail;go_ret;exact⟨q,rfl,HB.o⟩
theorem Yn:(Tryz.prog.info? 404).map (fun i=>(i.zero,i.size,i.bytes))=some (some (.agg #[.int .i64 0,.slice none 0 0,.pointer none]),3,40):=by kernel_rfl
theorem rscopyL(h:RSn w s):Calls Tryz.prog 110 #[ptr s] w (IE w):=by
 obtain⟨iO,hiO⟩:∃i,Tryz.prog.info? 404=some i∧i.zero=some (.agg #[.int .i64 0,.slice none 0 0,.pointer none])∧i.size=3∧i.bytes=40:=aay Yn;have hs0:=(uh.1 h).1;have gI:acd (∀w',Below w.heap.size w w'→w'.cell? ⟨s,0,none⟩=some (.int .i64 1)∧w'.cell? ⟨s,1,none⟩=some (.slice none 0 0)∧w'.cell? ⟨s,2,none⟩=some (.slice none 0 0)):=fun w' hb=>by
  have h2:=iI h hb;refine⟨?_,?_,?_⟩<;>simp[World.cell?,h2]
 have HOI:=ab9 hiO;have Ul:=ab9 (xO.start (t1:=404) (t2:=404) (t3:=404) (k1:=3) (k2:=3) (k3:=3) w);clear h hiO;go_enter Tryz.func110,Tryz.ntmps110;go_wp2_with fail;refine Cv 16 ((fun w'=>w'.cell? ⟨s,0,none⟩=some (.int .i64 1)∧w'.cell? ⟨s,1,none⟩=some (.slice none 0 0)∧w'.cell? ⟨s,2,none⟩=some (.slice none 0 0))) ?_ fun hS=> ?_
 ·exact gI.o _ Ul.o.b
 refine aY 0 hS ?_;refine aY 1 hS ?_;refine aY 2 hS ?_;refine aY 3 hS ?_;refine aY 4 hS ?_;refine aY 5 hS ?_;refine aY 6 hS ?_;refine aY 7 hS ?_;refine aY 9 hS ?_;refine aY 10 hS ?_;refine aY 11 hS ?_;refine aY 12 hS ?_;refine dW 8 fun K hK=> ?_;go_simp;have hC1:=Ul.o.BF;refine dK hK (gI.o _ hC1.b) fun hS=> ?_;clear hK K;refine dW 13 fun K hK=> ?_;refine hC1.go1 (.tmp 11) (.tmp 15) 271 HOI.o (ah.nil (fun _=>True) _ _) (fun u hu=>by cases hu) rfl rfl ⟨rfl,rfl,Tryz.underlying271,rfl⟩ (by omega) (by omega) ?_;intro A1 c1 u1 hC2;refine dK hK (gI.o _ hC2.b) fun hS=> ?_;clear hK K;refine aY 14 hS ?_;refine dW 15 fun K hK=> ?_;go_simp;refine dK hK (gI.o _ (hC2.b.trans ((wall _ _).mono hC2.b.size))) fun hS=> ?_;clear hK K;refine dW 16 fun K hK=> ?_;go_simp;refine sN hK ?_;clear hS hK K;go_wp2_with fail;go_ret;exact⟨_,rfl,hC2.b.trans ((wall _ _).mono hC2.b.size)⟩
theorem rstnewL(w:World):Calls Tryz.prog 40 #[] w fun e w'=>∃p,e= .returned (ptr p)∧RSt w' p∧Below w.heap.size w w':=by
 go_enter Tryz.func40,Tryz.ntmps40;go_wp2_with fail;refine(rnewL w).mono ?_;rintro e w1 ⟨t,rfl,ht,hb1⟩;have HT:=ab9 ht;have HB1:=ab9 hb1;clear ht hb1;go_wp2_with fail;refine(rsnewL w1).mono ?_;rintro e w2 ⟨s,rfl,hs,hb2⟩;have HS:=ab9 hs;have HT2:=ab9 (HT.o.grow hb2);have HB2:=ab9 (HB1.o.trans (hb2.mono HB1.o.size));clear hs hb2;go_wp2_with fail;go_ret;have hb3:=wall w2 (.cells #[ptr t,ptr s,.int .u64 0,.int .i64 0,.int .i64 0,.slice none 0 0,.int .i64 0,.int .i64 0,.slice none 0 0,.int .i64 0,.int .i64 0,.slice none 0 0,.int .i64 0,.int .i64 0,.slice none 0 0,.int .i64 0,.int .i64 0,.slice none 0 0,.int .i64 0,.int .i64 0,.slice none 0 0,.int .i64 0,.int .i64 0,.slice none 0 0,.int .i64 0,.int .i64 0,.slice none 0 0] 184);have hx:=(MapKept.heap_alloc w2 (.cells #[ptr t,ptr s,.int .u64 0,.int .i64 0,.int .i64 0,.slice none 0 0,.int .i64 0,.int .i64 0,.slice none 0 0,.int .i64 0,.int .i64 0,.slice none 0 0,.int .i64 0,.int .i64 0,.slice none 0 0,.int .i64 0,.int .i64 0,.slice none 0 0,.int .i64 0,.int .i64 0,.slice none 0 0,.int .i64 0,.int .i64 0,.slice none 0 0,.int .i64 0,.int .i64 0,.slice none 0 0] 184)).1;refine⟨_,rfl,⟨t,s,by simp,⟨?_,?_,?_⟩,HT2.o.grow hb3,iI HS.o hb3⟩,HB2.o.trans (hb3.mono HB2.o.size)⟩<;>(simp only[World.cell?,hx];rfl)
theorem Ud(h:RSt w p):Calls Tryz.prog 41 #[ptr p] w (IE w):=by
 obtain⟨t,s,h1,h2,h3,h4⟩:=h;have gI:acd (∀w',Below w.heap.size w w'→w'.cell? ⟨p,0,none⟩=some (ptr t)∧w'.cell? ⟨p,1,none⟩=some (ptr s)∧w'.cell? ⟨p,2,none⟩=some (.int .u64 0)):=fun w' hb=>by
  simp only[World.cell?,hb.block p h1]at h2⊢;exact h2
 have HCM:=ab9 (fun(u:World) (hb:Below w.heap.size w u)=>ME (h3.grow hb));have YL:=ab9 (fun(u:World) (hb:Below w.heap.size w u)=>rscopyL (w:=u) (iI h4 hb));clear h2 h3 h4;go_enter Tryz.func41,Tryz.ntmps41;go_wp2_with fail;refine Cv 16 ((fun w'=>w'.cell? ⟨p,0,none⟩=some (ptr t)∧w'.cell? ⟨p,1,none⟩=some (ptr s)∧w'.cell? ⟨p,2,none⟩=some (.int .u64 0))) ?_ fun hS=> ?_
 ·exact gI.o _ (Below.refl _ w).drew
 refine aY 0 hS ?_;refine aY 1 hS ?_;refine aY 2 hS ?_;refine aY 3 hS ?_;refine aY 5 hS ?_;refine aY 6 hS ?_;refine aY 7 hS ?_;refine aY 8 hS ?_;refine aY 10 hS ?_;refine aY 11 hS ?_;refine aY 12 hS ?_;refine aY 13 hS ?_;refine dW 4 fun K hK=> ?_;go_simp;refine(HCM.o _ (Below.refl _ w).drew).mono ?_;rintro e w1 ⟨q1,rfl,hb1⟩;have HB1:acd (Below w.heap.size w w1):=ab9 ((Below.refl _ w).drew.trans hb1);clear hb1;go_wp2_with fail;refine dK hK (gI.o _ HB1.o) fun hS=> ?_;clear hK K;refine dW 9 fun K hK=> ?_;go_simp;refine(YL.o _ HB1.o).mono ?_;rintro e w2 ⟨q2,rfl,hb2⟩;have HB2:acd (Below w.heap.size w w2):=ab9 (HB1.o.trans (hb2.mono HB1.o.size));clear hb2;go_wp2_with fail;refine dK hK (gI.o _ HB2.o) fun hS=> ?_;clear hK K;refine aY 14 hS ?_;refine dW 15 fun K hK=> ?_;go_simp;refine dK hK (gI.o _ (HB2.o.trans ((wall _ _).mono HB2.o.size))) fun hS=> ?_;clear hK K;refine dW 16 fun K hK=> ?_;go_simp;refine sN hK ?_;clear hS hK K;go_wp2_with fail;go_ret;exact⟨_,rfl,HB2.o.trans ((wall _ _).mono HB2.o.size)⟩
def RVt(w:World)(v:Nat)(a b c d e f g h:Value):Prop:=w.heap[v]? =some (.cells #[a,b,c,d,e,f,g,h] 98 (0,0))
theorem IG{v:Nat}{a b c d e f g h:Value}(hx:RVt w v a b c d e f g h):(w.cell? ⟨v,0,none⟩=some a∧w.cell? ⟨v,1,none⟩=some b∧w.cell? ⟨v,2,none⟩=some c∧w.cell? ⟨v,3,none⟩=some d∧w.cell? ⟨v,4,none⟩=some e∧w.cell? ⟨v,5,none⟩=some f∧w.cell? ⟨v,6,none⟩=some g)∧∀k,w.frozen? ⟨v,k,none⟩=false:=by
 unfold RVt at hx;refine⟨⟨?_,?_,?_,?_,?_,?_,?_⟩,fun k=> ?_⟩<;>simp[World.cell?,World.frozen?,hx]
theorem Ue{v:Nat}{a g h:Value}(n:Int)(h1:1≤n)(hx:RVt w v a (.int .i64 n) (.int .i64 0) (.int .i64 0) (.int .i64 0) (.int .u64 1) g h):Calls Tryz.prog 42 #[.pointer (some ⟨v,1,none⟩),.int .i64 15] w fun e w'=>e= .returned (.bool true)∧Keeps (fun b=>b=v) w w':=by
 obtain⟨⟨c0,c1,c2,c3,c4,c5,c6⟩,cf⟩:=IG hx;have d1:decide (n≤0)=false:=by simp;omega
 clear hx;go_enter Tryz.func42,Tryz.ntmps42;go_wp2_with fail;refine xG ((fun w'=>w'.cell? ⟨v,1,none⟩=some (.int .i64 n)∧w'.cell? ⟨v,2,none⟩=some (.int .i64 0))) ?_ fun hS=> ?_
 ·exact⟨c1,c2⟩
 refine aR 0 hS ?_;refine aR 1 hS ?_;refine aR 2 hS ?_;refine aR 3 hS ?_;refine aR 4 hS ?_;refine aR 5 hS ?_;refine aR 6 hS ?_;refine aR 7 hS ?_;refine aR 8 hS ?_;refine wQ ?_;go_wp2;go_ret;have h9:=((Keeps.kX w ⟨v,3,none⟩ (.int .i64 15)).trans (Keeps.kX _ ⟨v,4,none⟩ (.int .i64 1)) (fun _ _ e=>e)).trans (Keeps.kX _ ⟨v,5,none⟩ (.int .u64 2)) (fun _ _ e=>e);exact⟨rfl,h9.os,h9.tape,h9.output,h9.size,h9.block⟩
theorem Ah{w0 w w':World}{v:Nat}(hb:Below w0.heap.size w0 w)(hv:w0.heap.size≤v)(hk:Keeps (fun b=>b=v) w w'):Below w0.heap.size w0 w':=
 hb.trans ⟨hk.os,hk.tape,hk.output,hk.size,fun b hb'=>hk.block b (Nat.lt_of_lt_of_le hb' hb.size) (fun e=>by omega)⟩
theorem rvnewL(n:Int)(h1:1≤n)(w:World):Calls Tryz.prog 14 #[.int .i64 n] w (IE w):=by
 go_enter Tryz.func14,Tryz.ntmps14;go_wp2_with fail;refine(rstnewL w).mono ?_;rintro e w1 ⟨p,rfl,hp,hb1⟩;have HP:=ab9 hp;have HB1:=ab9 hb1;clear hp hb1;go_wp2_with fail;obtain⟨w2,hw2⟩:∃w2,w2=w1.alloc (.cells #[ptr p,.int .i64 n,.int .i64 0,.int .i64 0,.int .i64 0,.int .u64 1,.slice none 0 0,.int .i64 0] 98):=⟨_,rfl⟩;have hb2:Below w1.heap.size w1 w2:=by rw[hw2];exact wall w1 _
 have hx2:RVt w2 w1.heap.size (ptr p) (.int .i64 n) (.int .i64 0) (.int .i64 0) (.int .i64 0) (.int .u64 1) (.slice none 0 0) (.int .i64 0):=by rw[hw2];exact(MapKept.heap_alloc w1 _).1
 obtain⟨v,hv⟩:∃v,v=w1.heap.size:=⟨_,rfl⟩;have hvle:w.heap.size≤v:=by rw[hv];exact HB1.o.size
 rw[←hw2];rw[←hv]at hx2⊢;clear hw2 hv;refine(Ud (HP.o.grow hb2)).mono ?_;rintro e w3 ⟨q,rfl,hb3⟩;have hx3:RVt w3 v (ptr p) (.int .i64 n) (.int .i64 0) (.int .i64 0) (.int .i64 0) (.int .u64 1) (.slice none 0 0) (.int .i64 0):=iI hx2 hb3;have hv3:v<w3.heap.size:=(uh.1 hx3).1;have hx4:RVt ((w3.setCell ⟨v,6,none⟩ (.slice (some ⟨w3.heap.size,0,none⟩) 1 1)).alloc (.cells #[ptr q] 92)) v (ptr p) (.int .i64 n) (.int .i64 0) (.int .i64 0) (.int .i64 0) (.int .u64 1) (.slice (some ⟨w3.heap.size,0,none⟩) 1 1) (.int .i64 0):=iI (aK hx3) (wall _ _);have hb4:Below w.heap.size w ((w3.setCell ⟨v,6,none⟩ (.slice (some ⟨w3.heap.size,0,none⟩) 1 1)).alloc (.cells #[ptr q] 92)):=(Ah ((HB1.o.trans (hb2.mono HB1.o.size)).trans (hb3.mono (Nat.le_trans HB1.o.size hb2.size))) hvle (Keeps.kX _ ⟨v,6,none⟩ _)).trans ((wall _ _).mono (by rw[size_set];exact Nat.le_trans HB1.o.size (Nat.le_trans hb2.size hb3.size)));obtain⟨⟨c0,c1,c2,c3,c4,c5,c6⟩,cf⟩:=IG hx3;have dh:=ab9 hb4;have LH:=ab9 (Ue n h1 hx4);clear hx2 hx3 hx4 hb4 hb2 hb3;go_wp2_with fail;refine LH.o.mono ?_;rintro e w5 ⟨rfl,hk5⟩;have dX:=ab9 (Ah dh.o hvle hk5);clear hk5 LH;go_wp2_with fail;go_ret;exact⟨v,rfl,dX.o⟩
end
end Go.Proofs.YtmflaonodghbcaaGreatDoor
