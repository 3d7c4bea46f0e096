/- The -/
import Derived.Test.YtjnhnlabpccgjaaGreatDoorM24
import Derived.Test.YtjnhnlabpccgjaaGreatDoorM16
import Derived.Test.YtjnhnlabpccgjaaGreatDoorM12
import Derived.Test.YtjnhnlabpccgjaaGreatDoorM18
import Derived.Test.YtjnhnlabpccgjaaGreatDoorM30
set_option maxRecDepth 100000
set_option maxHeartbeats 64000000
set_option linter.all false
namespace Go.Proofs.YtjnhnlabpccgjaaGreatDoor
open Go.ChangeShapes Go.WideShapes Go.ChangeAt Go.RowKit
def Apart(a b:Value):Prop:=∀g,a.ownBlock=some g→b.ownBlock≠some g
theorem Apart.symm{a b:Value}(h:Apart a b):Apart b a:=fun g h1 h2=>h g h2 h1
theorem Ay(a:Value):Apart a (.slice none 0 0):=fun g _ h=>by simp[Value.ownBlock]at h
structure w_(t1 t2 t3:TypeId)(k1 k2 k3:Nat)(w u:World)(v1:Value)(n1:Nat)(x1:List Value)(v2:Value)(n2:Nat)(x2:List Value)(v3:Value)(n3:Nat)(x3:List Value):Prop where
 o1:u.ownsRow w.heap.size t1 k1 v1 n1 x1
 o2:u.ownsRow w.heap.size t2 k2 v2 n2 x2
 o3:u.ownsRow w.heap.size t3 k3 v3 n3 x3
 d12:Apart v1 v2
 d13:Apart v1 v3
 d23:Apart v2 v3
 b:Below w.heap.size w u
section
variable{t1 t2 t3:TypeId}{k1 k2 k3:Nat}{w u u':World}{v1 v2 v3 v':Value}{n1 n2 n3 n':Nat}{x1 x2 x3 x':List Value}
theorem qC{B k n:Nat}{t:TypeId}{v:Value}{xs:List Value}(h:u.ownsRow B t k v n xs)(o:Obj):(u.alloc o).ownsRow B t k v n xs:=fG h fun b _ hbw=>abr u o b hbw
theorem pV{B k n:Nat}{t:TypeId}{v:Value}{xs:List Value}(h:u.ownsRow B t k v n xs):Apart (.slice (some ⟨u.heap.size,0,none⟩) 0 0) v:=fun g h1 h2=>by
 have h3:=lK h g h2;simp[Value.ownBlock]at h1;omega
theorem w_.start(w:World):w_ t1 t2 t3 k1 k2 k3 w w.drew (.slice none 0 0) 0 [] (.slice none 0 0) 0 [] (.slice none 0 0) 0 []:=
 ⟨⟨by simp,.inl ⟨rfl,rfl⟩⟩,⟨by simp,.inl ⟨rfl,rfl⟩⟩,⟨by simp,.inl ⟨rfl,rfl⟩⟩,Ay _,Ay _,Ay _,acv.drew⟩
theorem w_.Ea(h:w_ t1 t2 t3 k1 k2 k3 w u v1 n1 x1 v2 n2 x2 v3 n3 x3):w_ t1 t2 t3 k1 k2 k3 w (u.alloc (.cells #[] t1)) (.slice (some ⟨u.heap.size,0,none⟩) 0 0) 0 [] v2 n2 x2 v3 n3 x3:=
 ⟨qo (MapKept.heap_alloc u _).1 h.b.size,qC h.o2 _,qC h.o3 _,pV h.o2,pV h.o3,h.d23,h.b.trans ((wall u _).mono h.b.size)⟩
theorem w_.tX(h:w_ t1 t2 t3 k1 k2 k3 w u v1 n1 x1 v2 n2 x2 v3 n3 x3):w_ t1 t2 t3 k1 k2 k3 w (u.alloc (.cells #[] t2)) v1 n1 x1 (.slice (some ⟨u.heap.size,0,none⟩) 0 0) 0 [] v3 n3 x3:=
 ⟨qC h.o1 _,qo (MapKept.heap_alloc u _).1 h.b.size,qC h.o3 _,(pV h.o1).symm,h.d13,pV h.o3,h.b.trans ((wall u _).mono h.b.size)⟩
theorem w_.oQ(h:w_ t1 t2 t3 k1 k2 k3 w u v1 n1 x1 v2 n2 x2 v3 n3 x3):w_ t1 t2 t3 k1 k2 k3 w (u.alloc (.cells #[] t3)) v1 n1 x1 v2 n2 x2 (.slice (some ⟨u.heap.size,0,none⟩) 0 0) 0 []:=
 ⟨qC h.o1 _,qC h.o2 _,qo (MapKept.heap_alloc u _).1 h.b.size,h.d12,(pV h.o1).symm,(pV h.o2).symm,h.b.trans ((wall u _).mono h.b.size)⟩
theorem pW{B k n:Nat}{t:TypeId}{v own:Value}{xs:List Value}(h:u.ownsRow B t k v n xs)(hg:u.grownBy u' own.ownBlock)(ha:Apart own v):u'.ownsRow B t k v n xs:=
 fG h fun b hb hbw=>hg.block b hbw fun e=>ha b e.symm hb
theorem mD{B k n:Nat}{t:TypeId}{v own:Value}{xs:List Value}(h:u.ownsRow B t k v n xs)(ha:Apart own v)(hat:v'.ownBlock=own.ownBlock∨v'.ownBlock=some u.heap.size):Apart v' v:=fun g h1 h2=>by
 rcases hat with e|e
 ·exact ha g (e▸h1) h2
 ·have h3:=lK h g h2;rw[e]at h1;cases h1;omega
theorem below_grown{B:Nat}{own:Value}{k n:Nat}{t:TypeId}{xs:List Value}(hb:Below w.heap.size w u)(h:u.ownsRow w.heap.size t k own n xs)(hg:u.grownBy u' own.ownBlock):Below w.heap.size w u':=
 hb.trans ⟨hg.os,hg.tape,hg.output,hg.size,fun b hb'=>hg.block b (by have:=hb.size;omega) fun e=>by have:=dA h b e.symm;omega⟩
theorem w_.app1(h:w_ t1 t2 t3 k1 k2 k3 w u v1 n1 x1 v2 n2 x2 v3 n3 x3)(ho:u'.ownsRow w.heap.size t1 k1 v' n' x')(hg:u.grownBy u' v1.ownBlock)(hat:v'.ownBlock=v1.ownBlock∨v'.ownBlock=some u.heap.size):w_ t1 t2 t3 k1 k2 k3 w u' v' n' x' v2 n2 x2 v3 n3 x3:=
 ⟨ho,pW h.o2 hg h.d12,pW h.o3 hg h.d13,mD h.o2 h.d12 hat,mD h.o3 h.d13 hat,h.d23,below_grown (B:=0) h.b h.o1 hg⟩
theorem w_.app2(h:w_ t1 t2 t3 k1 k2 k3 w u v1 n1 x1 v2 n2 x2 v3 n3 x3)(ho:u'.ownsRow w.heap.size t2 k2 v' n' x')(hg:u.grownBy u' v2.ownBlock)(hat:v'.ownBlock=v2.ownBlock∨v'.ownBlock=some u.heap.size):w_ t1 t2 t3 k1 k2 k3 w u' v1 n1 x1 v' n' x' v3 n3 x3:=
 ⟨pW h.o1 hg h.d12.symm,ho,pW h.o3 hg h.d23,(mD h.o1 h.d12.symm hat).symm,h.d13,mD h.o3 h.d23 hat,below_grown (B:=0) h.b h.o2 hg⟩
theorem w_.app3(h:w_ t1 t2 t3 k1 k2 k3 w u v1 n1 x1 v2 n2 x2 v3 n3 x3)(ho:u'.ownsRow w.heap.size t3 k3 v' n' x')(hg:u.grownBy u' v3.ownBlock)(hat:v'.ownBlock=v3.ownBlock∨v'.ownBlock=some u.heap.size):w_ t1 t2 t3 k1 k2 k3 w u' v1 n1 x1 v2 n2 x2 v' n' x':=
 ⟨pW h.o1 hg h.d13.symm,pW h.o2 hg h.d23.symm,ho,h.d12,(mD h.o1 h.d13.symm hat).symm,(mD h.o2 h.d23.symm hat).symm,below_grown (B:=0) h.b h.o3 hg⟩
theorem w_.go1{P:Program}{S:Nat→Prop}{ops:Array Oper}{o:Oper}{a:Act}{K:Act→World→Prop}{Q:Exit→Act→World→Prop}{E:Prop}{i:TypeInfo}{z:Value}{Au m c:Nat}{A:Option Addr}{news:List Value}(h:w_ t1 t2 t3 k1 k2 k3 w u v1 0 [] v2 n2 x2 v3 n3 x3)(s y:Operand)(t:TypeId)
  (hi:P.info? t1=some i∧i.zero=some z∧i.size=k1∧i.bytes=Au)(hr:ah S w A (m*k1) news)(ho1:∀u∈news,u.oneCell'=true)(hx:a.eval y= .slice A m c)(hs:a.eval s=v1)(ho:o.guard=none∧o.op= .call {callee:= .builtin .append,args:= #[s,y],argTypes:= #[t,t]}∧P.underlying t=some (.slice t1)∧z.cells.size=k1)
  (hk:0<k1)(hm:m≤4194240∧Au≤48)
  (hn:∀A' c' u',w_ t1 t2 t3 k1 k2 k3 w u' (.slice A' (0+m) c') (0+m) ([]++news) v2 n2 x2 v3 n3 x3→K (a.put o.dst (.slice A' (0+m) c')) u'):if Region.wanted o (yielded ops a.tmps)=true then Oper.wp P o a u K Q else E:=by
 refine dF ho.1 s y t ho.2.1 w.heap.size t1 i z k1 Au ho.2.2.1 hi.1 hi.2.1 hi.2.2.1 hi.2.2.2 ho.2.2.2 hk v1 0 [] hs h.o1 A m c news hx (hr.below h.b acu) ho1 (by unfold maxLen;omega) ?_ h.b.size ?_
 ·have:=Nat.mul_le_mul (show 0+m≤4194240 by omega) hm.2;omega
 ·intro A' c' u' hown hgr hat;exact hn A' c' u' (h.app1 hown hgr hat)
theorem w_.go2{P:Program}{S:Nat→Prop}{ops:Array Oper}{o:Oper}{a:Act}{K:Act→World→Prop}{Q:Exit→Act→World→Prop}{E:Prop}{i:TypeInfo}{z:Value}{Au m c:Nat}{A:Option Addr}{news:List Value}(h:w_ t1 t2 t3 k1 k2 k3 w u v1 n1 x1 v2 0 [] v3 n3 x3)(s y:Operand)(t:TypeId)
  (hi:P.info? t2=some i∧i.zero=some z∧i.size=k2∧i.bytes=Au)(hr:ah S w A (m*k2) news)(ho1:∀u∈news,u.oneCell'=true)(hx:a.eval y= .slice A m c)(hs:a.eval s=v2)(ho:o.guard=none∧o.op= .call {callee:= .builtin .append,args:= #[s,y],argTypes:= #[t,t]}∧P.underlying t=some (.slice t2)∧z.cells.size=k2)
  (hk:0<k2)(hm:m≤4194240∧Au≤48)
  (hn:∀A' c' u',w_ t1 t2 t3 k1 k2 k3 w u' v1 n1 x1 (.slice A' (0+m) c') (0+m) ([]++news) v3 n3 x3→K (a.put o.dst (.slice A' (0+m) c')) u'):if Region.wanted o (yielded ops a.tmps)=true then Oper.wp P o a u K Q else E:=by
 refine dF ho.1 s y t ho.2.1 w.heap.size t2 i z k2 Au ho.2.2.1 hi.1 hi.2.1 hi.2.2.1 hi.2.2.2 ho.2.2.2 hk v2 0 [] hs h.o2 A m c news hx (hr.below h.b acu) ho1 (by unfold maxLen;omega) ?_ h.b.size ?_
 ·have:=Nat.mul_le_mul (show 0+m≤4194240 by omega) hm.2;omega
 ·intro A' c' u' hown hgr hat;exact hn A' c' u' (h.app2 hown hgr hat)
theorem w_.M0{P:Program}{S:Nat→Prop}{ops:Array Oper}{o:Oper}{a:Act}{K:Act→World→Prop}{Q:Exit→Act→World→Prop}{E:Prop}{i:TypeInfo}{z:Value}{Au m c:Nat}{A:Option Addr}{news:List Value}(h:w_ t1 t2 t3 k1 k2 k3 w u v1 n1 x1 v2 n2 x2 v3 0 [])(s y:Operand)(t:TypeId)
  (hi:P.info? t3=some i∧i.zero=some z∧i.size=k3∧i.bytes=Au)(hr:ah S w A (m*k3) news)(ho1:∀u∈news,u.oneCell'=true)(hx:a.eval y= .slice A m c)(hs:a.eval s=v3)(ho:o.guard=none∧o.op= .call {callee:= .builtin .append,args:= #[s,y],argTypes:= #[t,t]}∧P.underlying t=some (.slice t3)∧z.cells.size=k3)
  (hk:0<k3)(hm:m≤4194240∧Au≤48)
  (hn:∀A' c' u',w_ t1 t2 t3 k1 k2 k3 w u' v1 n1 x1 v2 n2 x2 (.slice A' (0+m) c') (0+m) ([]++news)→K (a.put o.dst (.slice A' (0+m) c')) u'):if Region.wanted o (yielded ops a.tmps)=true then Oper.wp P o a u K Q else E:=by
 refine dF ho.1 s y t ho.2.1 w.heap.size t3 i z k3 Au ho.2.2.1 hi.1 hi.2.1 hi.2.2.1 hi.2.2.2 ho.2.2.2 hk v3 0 [] hs h.o3 A m c news hx (hr.below h.b acu) ho1 (by unfold maxLen;omega) ?_ h.b.size ?_
 ·have:=Nat.mul_le_mul (show 0+m≤4194240 by omega) hm.2;omega
 ·intro A' c' u' hown hgr hat;exact hn A' c' u' (h.app3 hown hgr hat)
end
def Ib(F:Nat→Prop)(w:World)(r:Nat)(T:aA)(D:List (List UInt8))(E:List jT)(e:Ending)(w':World):Prop:=
 ∃q,e= .returned (ptr q)∧w.heap.size≤q∧Below w.heap.size w w'∧gX (fun b=>Off F r b∨(w.heap.size≤b∧b<w'.heap.size)) w' q T D E
theorem Yb{F:Nat→Prop}{r:Nat}{T:aA}{D:List (List UInt8)}{E:List jT}{w u:World}{a1 a2 a3:Option Addr}{m1 m2 m3 c1 c2 c3 n1 n2 n3:Nat}{vs:List Value}(h:gX F w r T D E)(hD:∀(i:Nat) (b:List UInt8),D[i]? =some b→∃(a:Option Addr) (c:Nat),vs[i]? =some (.slice a b.length c)∧ny b.length c∧ah (Off F r) w a b.length (b.map bv))
  (e1:n1=T.length)(e2:n2=D.length)(e3:n3=E.length)(hn:n1≤10000000∧n2≤10000000∧n3≤10000000)
  (hC:w_ 39 28 146 6 1 3 w u (.slice a1 m1 c1) n1 (T.flatMap dM) (.slice a2 m2 c2) n2 vs (.slice a3 m3 c3) n3 (E.flatMap fH)):
  Ib F w r T D E (.returned (ptr u.heap.size)) (u.alloc (.cells #[.slice a1 m1 c1,.slice a2 m2 c2,.slice a3 m3 c3] 113)):=by
 have hB:=hC.b.trans ((wall u (.cells #[.slice a1 m1 c1,.slice a2 m2 c2,.slice a3 m3 c3] 113)).mono hC.b.size);have hs:=hC.b.size;have hsz:(u.alloc (.cells #[.slice a1 m1 c1,.slice a2 m2 c2,.slice a3 m3 c3] 113)).heap.size=u.heap.size+1:=by simp
 obtain⟨f1,g1,b1,q1⟩:=ah.nX hC.o1 (by unfold maxLen;omega);obtain⟨f2,g2,b2,q2⟩:=ah.nX hC.o2 (by unfold maxLen;omega);obtain⟨f3,g3,b3,q3⟩:=ah.nX hC.o3 (by unfold maxLen;omega);subst f1 f2 f3;subst e1 e2 e3;have hmv:∀b,(w.heap.size≤b∧b<u.heap.size)→b<u.heap.size→Off (fun b=>Off F r b∨(w.heap.size≤b∧b<(u.alloc (.cells #[.slice a1 T.length c1,.slice a2 D.length c2,.slice a3 E.length c3] 113)).heap.size)) u.heap.size b∧(u.alloc (.cells #[.slice a1 T.length c1,.slice a2 D.length c2,.slice a3 E.length c3] 113)).heap[b]? =u.heap[b]? :=fun b hb hbu=>⟨⟨.inr ⟨hb.1,by rw[hsz];omega⟩,by omega⟩,abr u _ b hbu⟩;refine⟨u.heap.size,rfl,hs,hB,⟨⟨a1,c1,a2,c2,a3,c3,(MapKept.heap_alloc u _).1,g1,g2,g3,q1.move (by omega) hmv,⟨vs,?_,fun i b hb=> ?_⟩,q3.move (by omega) hmv,b3⟩,.inr ⟨hs,by omega⟩,fun b hb=> ?_⟩⟩
 ·have q2':=q2;rw[aaK]at q2';exact q2'.move (by omega) hmv
 ·obtain⟨a,c,h1,h2,h3⟩:=hD i b hb;exact⟨a,c,h1,h2,h3.move hB.size fun x hx hxw=>⟨⟨.inl hx,by omega⟩,hB.block x hxw⟩⟩
 ·rcases hb with hb|hb
  ·have:=h.low b hb.1;omega
  ·exact hb.2
section
variable{F:Nat→Prop}{r:Nat}{T:aA}{D:List (List UInt8)}{E:List jT}
theorem Ri(w:World)(h:gX F w r T D E)(hn:T.length≤64)(hd:D.length≤64)(he:E.length≤4194240):Calls Tryz.prog 176 #[ptr r] w (Ib F w r T D E):=by
 obtain⟨iN,hiN⟩:∃i,Tryz.prog.info? 39=some i∧i.zero=some (.agg #[.int .i64 0,.int .i64 0,.int .i64 0,.int .i64 0,.int .u64 0,.bool false])∧i.size=6∧i.bytes=48:=aam nodeInfo;obtain⟨iD,hiD⟩:∃i,Tryz.prog.info? 28=some i∧i.zero=some (.slice none 0 0)∧i.size=1∧i.bytes=24:=aam zo;obtain⟨iE,hiE⟩:∃i,Tryz.prog.info? 146=some i∧i.zero=some (.agg #[.int .i64 0,.string ⟨#[]⟩,.int .i64 0])∧i.size=3∧i.bytes=32:=aam Cu;obtain⟨aN,cN,aD,cD,aE,cE,h1,-,-,-,h8,⟨vs,h9,hvs⟩,h10,-⟩:=h.head;have hr0:=h.low r h.own;have HH:=acr h;have HV:=acr hvs;have hv1:∀u∈vs,u.oneCell'=true:=fun u hu=>by
  obtain⟨i,hi,rfl⟩:=List.mem_iff_getElem.1 hu;have hl:vs.length=D.length:=h9.length;obtain⟨a,c,hx,-⟩:=hvs i _ (List.getElem?_eq_getElem (by omega));rw[List.getElem?_eq_getElem hi]at hx;rw[aaH hx];rfl
 obtain⟨n1,e1⟩:∃n,n=T.length:=⟨_,rfl⟩;obtain⟨n2,e2⟩:∃n,n=D.length:=⟨_,rfl⟩;obtain⟨n3,e3⟩:∃n,n=E.length:=⟨_,rfl⟩;rw[←e1]at h1 h8 hn;rw[←e2]at h1 h9 hd;rw[←e3]at h1 h10 he;have iM:acs (∀w',Below w.heap.size w w'→w'.cell? ⟨r,0,none⟩=some (.slice aN n1 cN)∧w'.cell? ⟨r,1,none⟩=some (.slice aD n2 cD)∧w'.cell? ⟨r,2,none⟩=some (.slice aE n3 cE)):=fun w' hb=>by
  have h2:=(hb.block r hr0).trans h1;refine⟨?_,?_,?_⟩<;>simp[World.cell?,h2]
 have HN:=acr h8;have HD:=acr (show ah (Off F r) w aD (n2*1) vs by rw[aaK];exact h9);have HE:=acr h10;have UU:=acr hiN;have Jp:=acr hiD;have M4:=acr hiE;have BU:=acr (g_ T);have HD1:=acr hv1;have BX:=acr (m_ E);have HQ:=acr (And.intro e1 (And.intro e2 e3));have Gh:=acr (w_.start (t1:=39) (t2:=28) (t3:=146) (k1:=6) (k2:=1) (k3:=3) w);have mH:acs (∀(u:World) (a1 a2 a3:Option Addr) (m1 m2 m3 c1 c2 c3:Nat),w_ 39 28 146 6 1 3 w u (.slice a1 m1 c1) n1 (T.flatMap dM) (.slice a2 m2 c2) n2 vs (.slice a3 m3 c3) n3 (E.flatMap fH)→Ib F w r T D E (.returned (ptr u.heap.size)) (u.alloc (.cells #[.slice a1 m1 c1,.slice a2 m2 c2,.slice a3 m3 c3] 113))):=fun u a1 a2 a3 m1 m2 m3 c1 c2 c3 hC=>Yb h hvs e1 e2 e3 ⟨by omega,by omega,by omega⟩ hC;clear h h1 h8 h9 h10 hvs hv1 e1 e2 e3 hiN hiD hiE;go_enter Tryz.func176,Tryz.ntmps176;go_wp2_with fail;refine wQ 20 ((fun w'=>w'.cell? ⟨r,0,none⟩=some (.slice aN n1 cN)∧w'.cell? ⟨r,1,none⟩=some (.slice aD n2 cD)∧w'.cell? ⟨r,2,none⟩=some (.slice aE n3 cE))) ?_ fun hS=> ?_
 ·exact iM.o _ Gh.o.b
 refine aC 1 hS ?_;refine aC 2 hS ?_;refine aC 3 hS ?_;refine aC 4 hS ?_;refine aC 7 hS ?_;refine aC 8 hS ?_;refine aC 9 hS ?_;refine aC 10 hS ?_;refine aC 13 hS ?_;refine aC 14 hS ?_;refine aC 15 hS ?_;refine aC 16 hS ?_;refine rdL3 0 6 12 (fun K hK=> ?g1_0) (fun K hK=> ?g1_6) fun K hK=> ?g1_12
 case g1_0=>
  go_simp;have Rj:=Gh.o.Ea
  try simp only[Pe]at Rj
  refine bV hK (iM.o _ Rj.b) fun hS=> ?_;clear hK K;refine rdL3 5 6 12 (fun K hK=> ?g4_5) (fun K hK=> ?g4_6) fun K hK=> ?g4_12
  case g4_5=>
   refine Rj.go1 (.tmp 3) (.tmp 7) 110 UU.o HN.o BU.o rfl rfl ⟨rfl,rfl,Tryz.underlying110,rfl⟩ (by omega) (by omega) ?_;intro A1 c1 u1 hC6;refine bV hK (iM.o _ hC6.b) fun hS=> ?_;clear hK K;refine oI 6 12 (fun K hK=> ?g7_6) fun K hK=> ?g7_12
   case g7_6=>
    go_simp;have UW:=hC6.tX
    try simp only[Pe]at UW
    refine bV hK (iM.o _ UW.b) fun hS=> ?_;clear hK K;refine oI 11 12 (fun K hK=> ?g10_11) fun K hK=> ?g10_12
    case g10_11=>
     refine UW.go2 (.tmp 9) (.tmp 13) 46 Jp.o HD.o HD1.o rfl rfl ⟨rfl,rfl,Tryz.underlying46,rfl⟩ (by omega) (by omega) ?_;intro A2 c2 u2 Rk;refine bV hK (iM.o _ Rk.b) fun hS=> ?_;clear hK K;refine bU 12 fun K hK=> ?_;go_simp;have Fu:=Rk.oQ
     try simp only[Pe]at Fu
     refine bV hK (iM.o _ Fu.b) fun hS=> ?_;clear hK K;refine bU 17 fun K hK=> ?_;refine Fu.M0 (.tmp 15) (.tmp 19) 111 M4.o HE.o BX.o rfl rfl ⟨rfl,rfl,Tryz.underlying111,rfl⟩ (by omega) (by omega) ?_;intro A3 c3 u3 BZ;refine bV hK (iM.o _ BZ.b) fun hS=> ?_;clear hK K;refine aC 18 hS ?_;refine bU 19 fun K hK=> ?_;go_simp;refine bV hK (iM.o _ (BZ.b.trans ((wall _ _).mono BZ.b.size))) fun hS=> ?_;clear hK K;refine bU 20 fun K hK=> ?_;go_simp;refine nk hK ?_;clear hS hK K;go_wp2_with fail;go_ret;simp only[Nat.zero_add,List.nil_append]at BZ⊢;exact mH.o _ _ _ _ _ _ _ _ _ _ BZ
    case g10_12=>
     go_simp;have M5:=UW.oQ
     try simp only[Pe]at M5
     refine bV hK (iM.o _ M5.b) fun hS=> ?_;clear hK K;refine bU 11 fun K hK=> ?_;refine M5.go2 (.tmp 9) (.tmp 13) 46 Jp.o HD.o HD1.o rfl rfl ⟨rfl,rfl,Tryz.underlying46,rfl⟩ (by omega) (by omega) ?_;intro A2 c2 u2 hC16;refine bV hK (iM.o _ hC16.b) fun hS=> ?_;clear hK K;refine bU 17 fun K hK=> ?_;refine hC16.M0 (.tmp 15) (.tmp 19) 111 M4.o HE.o BX.o rfl rfl ⟨rfl,rfl,Tryz.underlying111,rfl⟩ (by omega) (by omega) ?_;intro A3 c3 u3 UY;refine bV hK (iM.o _ UY.b) fun hS=> ?_;clear hK K;refine aC 18 hS ?_;refine bU 19 fun K hK=> ?_;go_simp;refine bV hK (iM.o _ (UY.b.trans ((wall _ _).mono UY.b.size))) fun hS=> ?_;clear hK K;refine bU 20 fun K hK=> ?_;go_simp;refine nk hK ?_;clear hS hK K;go_wp2_with fail;go_ret;simp only[Nat.zero_add,List.nil_append]at UY⊢;exact mH.o _ _ _ _ _ _ _ _ _ _ UY
   case g7_12=>
    go_simp;have hC18:=hC6.oQ
    try simp only[Pe]at hC18
    refine bV hK (iM.o _ hC18.b) fun hS=> ?_;clear hK K;refine bU 6 fun K hK=> ?_;go_simp;have hC19:=hC18.tX
    try simp only[Pe]at hC19
    refine bV hK (iM.o _ hC19.b) fun hS=> ?_;clear hK K;refine bU 11 fun K hK=> ?_;refine hC19.go2 (.tmp 9) (.tmp 13) 46 Jp.o HD.o HD1.o rfl rfl ⟨rfl,rfl,Tryz.underlying46,rfl⟩ (by omega) (by omega) ?_;intro A2 c2 u2 hC20;refine bV hK (iM.o _ hC20.b) fun hS=> ?_;clear hK K;refine bU 17 fun K hK=> ?_;refine hC20.M0 (.tmp 15) (.tmp 19) 111 M4.o HE.o BX.o rfl rfl ⟨rfl,rfl,Tryz.underlying111,rfl⟩ (by omega) (by omega) ?_;intro A3 c3 u3 UZ;refine bV hK (iM.o _ UZ.b) fun hS=> ?_;clear hK K;refine aC 18 hS ?_;refine bU 19 fun K hK=> ?_;go_simp;refine bV hK (iM.o _ (UZ.b.trans ((wall _ _).mono UZ.b.size))) fun hS=> ?_;clear hK K;refine bU 20 fun K hK=> ?_;go_simp;refine nk hK ?_;clear hS hK K;go_wp2_with fail;go_ret;simp only[Nat.zero_add,List.nil_append]at UZ⊢;exact mH.o _ _ _ _ _ _ _ _ _ _ UZ
  case g4_6=>
   go_simp;have Yc:=Rj.tX
   try simp only[Pe]at Yc
   refine bV hK (iM.o _ Yc.b) fun hS=> ?_;clear hK K;refine oI 5 12 (fun K hK=> ?g23_5) fun K hK=> ?g23_12
   case g23_5=>
    refine Yc.go1 (.tmp 3) (.tmp 7) 110 UU.o HN.o BU.o rfl rfl ⟨rfl,rfl,Tryz.underlying110,rfl⟩ (by omega) (by omega) ?_;intro A1 c1 u1 hC25;refine bV hK (iM.o _ hC25.b) fun hS=> ?_;clear hK K;refine oI 11 12 (fun K hK=> ?g26_11) fun K hK=> ?g26_12
    case g26_11=>
     refine hC25.go2 (.tmp 9) (.tmp 13) 46 Jp.o HD.o HD1.o rfl rfl ⟨rfl,rfl,Tryz.underlying46,rfl⟩ (by omega) (by omega) ?_;intro A2 c2 u2 hC28;refine bV hK (iM.o _ hC28.b) fun hS=> ?_;clear hK K;refine bU 12 fun K hK=> ?_;go_simp;have hC29:=hC28.oQ
     try simp only[Pe]at hC29
     refine bV hK (iM.o _ hC29.b) fun hS=> ?_;clear hK K;refine bU 17 fun K hK=> ?_;refine hC29.M0 (.tmp 15) (.tmp 19) 111 M4.o HE.o BX.o rfl rfl ⟨rfl,rfl,Tryz.underlying111,rfl⟩ (by omega) (by omega) ?_;intro A3 c3 u3 U0;refine bV hK (iM.o _ U0.b) fun hS=> ?_;clear hK K;refine aC 18 hS ?_;refine bU 19 fun K hK=> ?_;go_simp;refine bV hK (iM.o _ (U0.b.trans ((wall _ _).mono U0.b.size))) fun hS=> ?_;clear hK K;refine bU 20 fun K hK=> ?_;go_simp;refine nk hK ?_;clear hS hK K;go_wp2_with fail;go_ret;simp only[Nat.zero_add,List.nil_append]at U0⊢;exact mH.o _ _ _ _ _ _ _ _ _ _ U0
    case g26_12=>
     go_simp;have hC31:=hC25.oQ
     try simp only[Pe]at hC31
     refine bV hK (iM.o _ hC31.b) fun hS=> ?_;clear hK K;refine bU 11 fun K hK=> ?_;refine hC31.go2 (.tmp 9) (.tmp 13) 46 Jp.o HD.o HD1.o rfl rfl ⟨rfl,rfl,Tryz.underlying46,rfl⟩ (by omega) (by omega) ?_;intro A2 c2 u2 hC32;refine bV hK (iM.o _ hC32.b) fun hS=> ?_;clear hK K;refine bU 17 fun K hK=> ?_;refine hC32.M0 (.tmp 15) (.tmp 19) 111 M4.o HE.o BX.o rfl rfl ⟨rfl,rfl,Tryz.underlying111,rfl⟩ (by omega) (by omega) ?_;intro A3 c3 u3 U1;refine bV hK (iM.o _ U1.b) fun hS=> ?_;clear hK K;refine aC 18 hS ?_;refine bU 19 fun K hK=> ?_;go_simp;refine bV hK (iM.o _ (U1.b.trans ((wall _ _).mono U1.b.size))) fun hS=> ?_;clear hK K;refine bU 20 fun K hK=> ?_;go_simp;refine nk hK ?_;clear hS hK K;go_wp2_with fail;go_ret;simp only[Nat.zero_add,List.nil_append]at U1⊢;exact mH.o _ _ _ _ _ _ _ _ _ _ U1
   case g23_12=>
    go_simp;have hC34:=Yc.oQ
    try simp only[Pe]at hC34
    refine bV hK (iM.o _ hC34.b) fun hS=> ?_;clear hK K;refine bU 5 fun K hK=> ?_;refine hC34.go1 (.tmp 3) (.tmp 7) 110 UU.o HN.o BU.o rfl rfl ⟨rfl,rfl,Tryz.underlying110,rfl⟩ (by omega) (by omega) ?_;intro A1 c1 u1 hC35;refine bV hK (iM.o _ hC35.b) fun hS=> ?_;clear hK K;refine bU 11 fun K hK=> ?_;refine hC35.go2 (.tmp 9) (.tmp 13) 46 Jp.o HD.o HD1.o rfl rfl ⟨rfl,rfl,Tryz.underlying46,rfl⟩ (by omega) (by omega) ?_;intro A2 c2 u2 hC36;refine bV hK (iM.o _ hC36.b) fun hS=> ?_;clear hK K;refine bU 17 fun K hK=> ?_;refine hC36.M0 (.tmp 15) (.tmp 19) 111 M4.o HE.o BX.o rfl rfl ⟨rfl,rfl,Tryz.underlying111,rfl⟩ (by omega) (by omega) ?_;intro A3 c3 u3 U2;refine bV hK (iM.o _ U2.b) fun hS=> ?_;clear hK K;refine aC 18 hS ?_;refine bU 19 fun K hK=> ?_;go_simp;refine bV hK (iM.o _ (U2.b.trans ((wall _ _).mono U2.b.size))) fun hS=> ?_;clear hK K;refine bU 20 fun K hK=> ?_;go_simp;refine nk hK ?_;clear hS hK K;go_wp2_with fail;go_ret;simp only[Nat.zero_add,List.nil_append]at U2⊢;exact mH.o _ _ _ _ _ _ _ _ _ _ U2
  case g4_12=>
   go_simp;have Yd:=Rj.oQ
   try simp only[Pe]at Yd
   refine bV hK (iM.o _ Yd.b) fun hS=> ?_;clear hK K;refine oI 5 6 (fun K hK=> ?g39_5) fun K hK=> ?g39_6
   case g39_5=>
    refine Yd.go1 (.tmp 3) (.tmp 7) 110 UU.o HN.o BU.o rfl rfl ⟨rfl,rfl,Tryz.underlying110,rfl⟩ (by omega) (by omega) ?_;intro A1 c1 u1 hC41;refine bV hK (iM.o _ hC41.b) fun hS=> ?_;clear hK K;refine bU 6 fun K hK=> ?_;go_simp;have hC42:=hC41.tX
    try simp only[Pe]at hC42
    refine bV hK (iM.o _ hC42.b) fun hS=> ?_;clear hK K;refine bU 11 fun K hK=> ?_;refine hC42.go2 (.tmp 9) (.tmp 13) 46 Jp.o HD.o HD1.o rfl rfl ⟨rfl,rfl,Tryz.underlying46,rfl⟩ (by omega) (by omega) ?_;intro A2 c2 u2 hC43;refine bV hK (iM.o _ hC43.b) fun hS=> ?_;clear hK K;refine bU 17 fun K hK=> ?_;refine hC43.M0 (.tmp 15) (.tmp 19) 111 M4.o HE.o BX.o rfl rfl ⟨rfl,rfl,Tryz.underlying111,rfl⟩ (by omega) (by omega) ?_;intro A3 c3 u3 U3;refine bV hK (iM.o _ U3.b) fun hS=> ?_;clear hK K;refine aC 18 hS ?_;refine bU 19 fun K hK=> ?_;go_simp;refine bV hK (iM.o _ (U3.b.trans ((wall _ _).mono U3.b.size))) fun hS=> ?_;clear hK K;refine bU 20 fun K hK=> ?_;go_simp;refine nk hK ?_;clear hS hK K;go_wp2_with fail;go_ret;simp only[Nat.zero_add,List.nil_append]at U3⊢;exact mH.o _ _ _ _ _ _ _ _ _ _ U3
   case g39_6=>
    go_simp;have hC45:=Yd.tX
    try simp only[Pe]at hC45
    refine bV hK (iM.o _ hC45.b) fun hS=> ?_;clear hK K;refine bU 5 fun K hK=> ?_;refine hC45.go1 (.tmp 3) (.tmp 7) 110 UU.o HN.o BU.o rfl rfl ⟨rfl,rfl,Tryz.underlying110,rfl⟩ (by omega) (by omega) ?_;intro A1 c1 u1 hC46;refine bV hK (iM.o _ hC46.b) fun hS=> ?_;clear hK K;refine bU 11 fun K hK=> ?_;refine hC46.go2 (.tmp 9) (.tmp 13) 46 Jp.o HD.o HD1.o rfl rfl ⟨rfl,rfl,Tryz.underlying46,rfl⟩ (by omega) (by omega) ?_;intro A2 c2 u2 hC47;refine bV hK (iM.o _ hC47.b) fun hS=> ?_;clear hK K;refine bU 17 fun K hK=> ?_;refine hC47.M0 (.tmp 15) (.tmp 19) 111 M4.o HE.o BX.o rfl rfl ⟨rfl,rfl,Tryz.underlying111,rfl⟩ (by omega) (by omega) ?_;intro A3 c3 u3 U4;refine bV hK (iM.o _ U4.b) fun hS=> ?_;clear hK K;refine aC 18 hS ?_;refine bU 19 fun K hK=> ?_;go_simp;refine bV hK (iM.o _ (U4.b.trans ((wall _ _).mono U4.b.size))) fun hS=> ?_;clear hK K;refine bU 20 fun K hK=> ?_;go_simp;refine nk hK ?_;clear hS hK K;go_wp2_with fail;go_ret;simp only[Nat.zero_add,List.nil_append]at U4⊢;exact mH.o _ _ _ _ _ _ _ _ _ _ U4
 case g1_6=>
  go_simp;have Ye:=Gh.o.tX
  try simp only[Pe]at Ye
  refine bV hK (iM.o _ Ye.b) fun hS=> ?_;clear hK K;refine oI 0 12 (fun K hK=> ?g50_0) fun K hK=> ?g50_12
  case g50_0=>
   go_simp;have Yf:=Ye.Ea
   try simp only[Pe]at Yf
   refine bV hK (iM.o _ Yf.b) fun hS=> ?_;clear hK K;refine oI 5 12 (fun K hK=> ?g53_5) fun K hK=> ?g53_12
   case g53_5=>
    refine Yf.go1 (.tmp 3) (.tmp 7) 110 UU.o HN.o BU.o rfl rfl ⟨rfl,rfl,Tryz.underlying110,rfl⟩ (by omega) (by omega) ?_;intro A1 c1 u1 hC55;refine bV hK (iM.o _ hC55.b) fun hS=> ?_;clear hK K;refine oI 11 12 (fun K hK=> ?g56_11) fun K hK=> ?g56_12
    case g56_11=>
     refine hC55.go2 (.tmp 9) (.tmp 13) 46 Jp.o HD.o HD1.o rfl rfl ⟨rfl,rfl,Tryz.underlying46,rfl⟩ (by omega) (by omega) ?_;intro A2 c2 u2 hC58;refine bV hK (iM.o _ hC58.b) fun hS=> ?_;clear hK K;refine bU 12 fun K hK=> ?_;go_simp;have hC59:=hC58.oQ
     try simp only[Pe]at hC59
     refine bV hK (iM.o _ hC59.b) fun hS=> ?_;clear hK K;refine bU 17 fun K hK=> ?_;refine hC59.M0 (.tmp 15) (.tmp 19) 111 M4.o HE.o BX.o rfl rfl ⟨rfl,rfl,Tryz.underlying111,rfl⟩ (by omega) (by omega) ?_;intro A3 c3 u3 U5;refine bV hK (iM.o _ U5.b) fun hS=> ?_;clear hK K;refine aC 18 hS ?_;refine bU 19 fun K hK=> ?_;go_simp;refine bV hK (iM.o _ (U5.b.trans ((wall _ _).mono U5.b.size))) fun hS=> ?_;clear hK K;refine bU 20 fun K hK=> ?_;go_simp;refine nk hK ?_;clear hS hK K;go_wp2_with fail;go_ret;simp only[Nat.zero_add,List.nil_append]at U5⊢;exact mH.o _ _ _ _ _ _ _ _ _ _ U5
    case g56_12=>
     go_simp;have hC61:=hC55.oQ
     try simp only[Pe]at hC61
     refine bV hK (iM.o _ hC61.b) fun hS=> ?_;clear hK K;refine bU 11 fun K hK=> ?_;refine hC61.go2 (.tmp 9) (.tmp 13) 46 Jp.o HD.o HD1.o rfl rfl ⟨rfl,rfl,Tryz.underlying46,rfl⟩ (by omega) (by omega) ?_;intro A2 c2 u2 hC62;refine bV hK (iM.o _ hC62.b) fun hS=> ?_;clear hK K;refine bU 17 fun K hK=> ?_;refine hC62.M0 (.tmp 15) (.tmp 19) 111 M4.o HE.o BX.o rfl rfl ⟨rfl,rfl,Tryz.underlying111,rfl⟩ (by omega) (by omega) ?_;intro A3 c3 u3 U6;refine bV hK (iM.o _ U6.b) fun hS=> ?_;clear hK K;refine aC 18 hS ?_;refine bU 19 fun K hK=> ?_;go_simp;refine bV hK (iM.o _ (U6.b.trans ((wall _ _).mono U6.b.size))) fun hS=> ?_;clear hK K;refine bU 20 fun K hK=> ?_;go_simp;refine nk hK ?_;clear hS hK K;go_wp2_with fail;go_ret;simp only[Nat.zero_add,List.nil_append]at U6⊢;exact mH.o _ _ _ _ _ _ _ _ _ _ U6
   case g53_12=>
    go_simp;have hC64:=Yf.oQ
    try simp only[Pe]at hC64
    refine bV hK (iM.o _ hC64.b) fun hS=> ?_;clear hK K;refine bU 5 fun K hK=> ?_;refine hC64.go1 (.tmp 3) (.tmp 7) 110 UU.o HN.o BU.o rfl rfl ⟨rfl,rfl,Tryz.underlying110,rfl⟩ (by omega) (by omega) ?_;intro A1 c1 u1 hC65;refine bV hK (iM.o _ hC65.b) fun hS=> ?_;clear hK K;refine bU 11 fun K hK=> ?_;refine hC65.go2 (.tmp 9) (.tmp 13) 46 Jp.o HD.o HD1.o rfl rfl ⟨rfl,rfl,Tryz.underlying46,rfl⟩ (by omega) (by omega) ?_;intro A2 c2 u2 hC66;refine bV hK (iM.o _ hC66.b) fun hS=> ?_;clear hK K;refine bU 17 fun K hK=> ?_;refine hC66.M0 (.tmp 15) (.tmp 19) 111 M4.o HE.o BX.o rfl rfl ⟨rfl,rfl,Tryz.underlying111,rfl⟩ (by omega) (by omega) ?_;intro A3 c3 u3 U7;refine bV hK (iM.o _ U7.b) fun hS=> ?_;clear hK K;refine aC 18 hS ?_;refine bU 19 fun K hK=> ?_;go_simp;refine bV hK (iM.o _ (U7.b.trans ((wall _ _).mono U7.b.size))) fun hS=> ?_;clear hK K;refine bU 20 fun K hK=> ?_;go_simp;refine nk hK ?_;clear hS hK K;go_wp2_with fail;go_ret;simp only[Nat.zero_add,List.nil_append]at U7⊢;exact mH.o _ _ _ _ _ _ _ _ _ _ U7
  case g50_12=>
   go_simp;have hC68:=Ye.oQ
   try simp only[Pe]at hC68
   refine bV hK (iM.o _ hC68.b) fun hS=> ?_;clear hK K;refine bU 0 fun K hK=> ?_;go_simp;have hC69:=hC68.Ea
   try simp only[Pe]at hC69
   refine bV hK (iM.o _ hC69.b) fun hS=> ?_;clear hK K;refine bU 5 fun K hK=> ?_;refine hC69.go1 (.tmp 3) (.tmp 7) 110 UU.o HN.o BU.o rfl rfl ⟨rfl,rfl,Tryz.underlying110,rfl⟩ (by omega) (by omega) ?_;intro A1 c1 u1 hC70;refine bV hK (iM.o _ hC70.b) fun hS=> ?_;clear hK K;refine bU 11 fun K hK=> ?_;refine hC70.go2 (.tmp 9) (.tmp 13) 46 Jp.o HD.o HD1.o rfl rfl ⟨rfl,rfl,Tryz.underlying46,rfl⟩ (by omega) (by omega) ?_;intro A2 c2 u2 hC71;refine bV hK (iM.o _ hC71.b) fun hS=> ?_;clear hK K;refine bU 17 fun K hK=> ?_;refine hC71.M0 (.tmp 15) (.tmp 19) 111 M4.o HE.o BX.o rfl rfl ⟨rfl,rfl,Tryz.underlying111,rfl⟩ (by omega) (by omega) ?_;intro A3 c3 u3 U8;refine bV hK (iM.o _ U8.b) fun hS=> ?_;clear hK K;refine aC 18 hS ?_;refine bU 19 fun K hK=> ?_;go_simp;refine bV hK (iM.o _ (U8.b.trans ((wall _ _).mono U8.b.size))) fun hS=> ?_;clear hK K;refine bU 20 fun K hK=> ?_;go_simp;refine nk hK ?_;clear hS hK K;go_wp2_with fail;go_ret;simp only[Nat.zero_add,List.nil_append]at U8⊢;exact mH.o _ _ _ _ _ _ _ _ _ _ U8
 case g1_12=>
  go_simp;have Yg:=Gh.o.oQ
  try simp only[Pe]at Yg
  refine bV hK (iM.o _ Yg.b) fun hS=> ?_;clear hK K;refine oI 0 6 (fun K hK=> ?g74_0) fun K hK=> ?g74_6
  case g74_0=>
   go_simp;have Yh:=Yg.Ea
   try simp only[Pe]at Yh
   refine bV hK (iM.o _ Yh.b) fun hS=> ?_;clear hK K;refine oI 5 6 (fun K hK=> ?g77_5) fun K hK=> ?g77_6
   case g77_5=>
    refine Yh.go1 (.tmp 3) (.tmp 7) 110 UU.o HN.o BU.o rfl rfl ⟨rfl,rfl,Tryz.underlying110,rfl⟩ (by omega) (by omega) ?_;intro A1 c1 u1 hC79;refine bV hK (iM.o _ hC79.b) fun hS=> ?_;clear hK K;refine bU 6 fun K hK=> ?_;go_simp;have hC80:=hC79.tX
    try simp only[Pe]at hC80
    refine bV hK (iM.o _ hC80.b) fun hS=> ?_;clear hK K;refine bU 11 fun K hK=> ?_;refine hC80.go2 (.tmp 9) (.tmp 13) 46 Jp.o HD.o HD1.o rfl rfl ⟨rfl,rfl,Tryz.underlying46,rfl⟩ (by omega) (by omega) ?_;intro A2 c2 u2 hC81;refine bV hK (iM.o _ hC81.b) fun hS=> ?_;clear hK K;refine bU 17 fun K hK=> ?_;refine hC81.M0 (.tmp 15) (.tmp 19) 111 M4.o HE.o BX.o rfl rfl ⟨rfl,rfl,Tryz.underlying111,rfl⟩ (by omega) (by omega) ?_;intro A3 c3 u3 U9;refine bV hK (iM.o _ U9.b) fun hS=> ?_;clear hK K;refine aC 18 hS ?_;refine bU 19 fun K hK=> ?_;go_simp;refine bV hK (iM.o _ (U9.b.trans ((wall _ _).mono U9.b.size))) fun hS=> ?_;clear hK K;refine bU 20 fun K hK=> ?_;go_simp;refine nk hK ?_;clear hS hK K;go_wp2_with fail;go_ret;simp only[Nat.zero_add,List.nil_append]at U9⊢;exact mH.o _ _ _ _ _ _ _ _ _ _ U9
   case g77_6=>
    go_simp;have hC83:=Yh.tX
    try simp only[Pe]at hC83
    refine bV hK (iM.o _ hC83.b) fun hS=> ?_;clear hK K;refine bU 5 fun K hK=> ?_;refine hC83.go1 (.tmp 3) (.tmp 7) 110 UU.o HN.o BU.o rfl rfl ⟨rfl,rfl,Tryz.underlying110,rfl⟩ (by omega) (by omega) ?_;intro A1 c1 u1 hC84;refine bV hK (iM.o _ hC84.b) fun hS=> ?_;clear hK K;refine bU 11 fun K hK=> ?_;refine hC84.go2 (.tmp 9) (.tmp 13) 46 Jp.o HD.o HD1.o rfl rfl ⟨rfl,rfl,Tryz.underlying46,rfl⟩ (by omega) (by omega) ?_;intro A2 c2 u2 hC85;refine bV hK (iM.o _ hC85.b) fun hS=> ?_;clear hK K;refine bU 17 fun K hK=> ?_;refine hC85.M0 (.tmp 15) (.tmp 19) 111 M4.o HE.o BX.o rfl rfl ⟨rfl,rfl,Tryz.underlying111,rfl⟩ (by omega) (by omega) ?_;intro A3 c3 u3 U_;refine bV hK (iM.o _ U_.b) fun hS=> ?_;clear hK K;refine aC 18 hS ?_;refine bU 19 fun K hK=> ?_;go_simp;refine bV hK (iM.o _ (U_.b.trans ((wall _ _).mono U_.b.size))) fun hS=> ?_;clear hK K;refine bU 20 fun K hK=> ?_;go_simp;refine nk hK ?_;clear hS hK K;go_wp2_with fail;go_ret;simp only[Nat.zero_add,List.nil_append]at U_⊢;exact mH.o _ _ _ _ _ _ _ _ _ _ U_
  case g74_6=>
   go_simp;have hC87:=Yg.tX
   try simp only[Pe]at hC87
   refine bV hK (iM.o _ hC87.b) fun hS=> ?_;clear hK K;refine bU 0 fun K hK=> ?_;go_simp;have hC88:=hC87.Ea
   try simp only[Pe]at hC88
   refine bV hK (iM.o _ hC88.b) fun hS=> ?_;clear hK K;refine bU 5 fun K hK=> ?_;refine hC88.go1 (.tmp 3) (.tmp 7) 110 UU.o HN.o BU.o rfl rfl ⟨rfl,rfl,Tryz.underlying110,rfl⟩ (by omega) (by omega) ?_;intro A1 c1 u1 hC89;refine bV hK (iM.o _ hC89.b) fun hS=> ?_;clear hK K;refine bU 11 fun K hK=> ?_;refine hC89.go2 (.tmp 9) (.tmp 13) 46 Jp.o HD.o HD1.o rfl rfl ⟨rfl,rfl,Tryz.underlying46,rfl⟩ (by omega) (by omega) ?_;intro A2 c2 u2 hC90;refine bV hK (iM.o _ hC90.b) fun hS=> ?_;clear hK K;refine bU 17 fun K hK=> ?_;refine hC90.M0 (.tmp 15) (.tmp 19) 111 M4.o HE.o BX.o rfl rfl ⟨rfl,rfl,Tryz.underlying111,rfl⟩ (by omega) (by omega) ?_;intro A3 c3 u3 Va;refine bV hK (iM.o _ Va.b) fun hS=> ?_;clear hK K;refine aC 18 hS ?_;refine bU 19 fun K hK=> ?_;go_simp;refine bV hK (iM.o _ (Va.b.trans ((wall _ _).mono Va.b.size))) fun hS=> ?_;clear hK K;refine bU 20 fun K hK=> ?_;go_simp;refine nk hK ?_;clear hS hK K;go_wp2_with fail;go_ret;simp only[Nat.zero_add,List.nil_append]at Va⊢;exact mH.o _ _ _ _ _ _ _ _ _ _ Va
end
theorem M6{S:aA}{id j:Int}(h:j≠id):jf (dO S id).2 j=jf S j:=by
 unfold dO;dsimp only;split
 ·have e:aj j (zT S id)=(aj j S).map fun x=>{x with names:=x.names.filter fun e=> !decide (e.2=id)}:=by
   unfold zT;rw[eP,if_neg h];exact CP (fun x:bJ=>{x with names:=x.names.filter fun e=> !decide (e.2=id)}) j S
  unfold jf;rw[e];cases aj j S with
  |none=>rfl
  |some x=>rfl
 ·rfl
theorem Rm(S:aA)(id:Int):jf (dO S id).2 id≠0:=by
 unfold dO;dsimp only;split
 ·have e:aj id (zT S id)=none:=by
   unfold zT;rw[eP,if_pos rfl]
  unfold jf;rw[e];decide
 ·assumption
theorem yc:∀(L:List Int) (S:aA) (j:Int),(j∈L∨jf S j≠0)→jf (L.foldl (fun S id=>(dO S id).2) S) j≠0
 |[],S,j,h=>by
  rcases h with h|h
  ·cases h
  ·exact h
 |a::r,S,j,h=>by
  rw[List.foldl_cons];refine yc r _ j ?_;by_cases hja:j=a
  ·subst hja;exact .inr (Rm S j)
  ·rcases h with h|h
   ·rcases aan.1 h with h|h
    ·exact absurd h hja
    ·exact .inl h
   ·exact .inr (by rw[M6 hja];exact h)
theorem Ic{T:aA}{id:Int}{x:bJ}(h:aj id T=some x)(hc:x.closed=true):jf T id≠0:=by
 unfold jf;rw[h];simp only[hc,abC];split<;>decide
theorem B_{T:aA}{k:Nat}{id:Int}(h:(kX T)[k]? =some id)(hc:jf T id≠0):bg T (k+1)=bg T k:=by
 rw[jw h];have h1:jf (bg T k) id≠0:=yc _ T id (.inr hc);unfold dO;rw[if_neg h1]
theorem gV.remark{o o':Mark}{j k:Nat}{w:World}{r:Nat}{T:aA}(h:gV o j w r T)(h1:∀b,b<w.heap.size→o b=j→o' b=k)(h2:∀b,b<w.heap.size→o b=0→o' b=0):gV o' k w r T:=by
 obtain⟨F,hR,hr,hF⟩:=h;exact⟨F,hR,h1 r (hR.low r hR.own) hr,fun b hb hbr=>h2 b (hR.low b hb) (hF b hb hbr)⟩
section
variable{W w:World}{o:Mark}{i r:Nat}{T:aA}
theorem Yi(h:gV o i w r T)(hM:Marks W o w)(hT:dZ T)(j:Nat):
  Calls Tryz.prog 176 #[ptr r] w fun e w'=>∃q o',e= .returned (ptr q)∧Step o (fun k=>k=j) w o' w'∧gV o' j w' q T∧Below w.heap.size w w':=by
 obtain⟨F,hR,hr,hF⟩:=h;have Jv:=iT hT;have hlen:=hT.len;refine(Ri w hR hlen (by rw[List.length_map];exact hlen) (by omega)).mono ?_;rintro e w' ⟨q,rfl,hq,hb,hR'⟩;have hqw:q<w'.heap.size:=hR'.low q (by exact hR'.own);obtain⟨o',hs,h1,h2⟩:=iQ hM j (fun b=>b=q) (fun b hb'=>by subst hb';exact⟨hq,hqw⟩) hb;refine⟨q,o',rfl,hs,⟨_,hR',h1 q rfl,fun b hb' hbq=> ?_⟩,hb⟩;rw[h2 b hbq];rcases hb' with hb'|hb'
 ·exact hF b hb'.1 hb'.2
 ·exact Decidable.byContradiction fun h0=>by have:=(hM.new b h0).2;omega
theorem gV.node(h:gV o i w r T){k:Nat}{q:Int×bJ}(hq:T[k]? =some q):∃b off c,w.cell? ⟨r,0,none⟩=some (.slice (some ⟨b,off,none⟩) T.length c)∧w.cell? ⟨b,off+k*6,none⟩=some (.int .i64 q.1)∧w.cell? ⟨b,off+k*6+1,none⟩=some (.int .i64 q.2.kind)∧w.cell? ⟨b,off+k*6+2,none⟩=some (.int .i64 q.2.links)∧w.cell? ⟨b,off+k*6+3,none⟩=some (.int .i64 q.2.b.length)∧w.cell? ⟨b,off+k*6+4,none⟩=some (.int .u64 q.2.aF)∧w.cell? ⟨b,off+k*6+5,none⟩=some (.bool q.2.closed):=by
 obtain⟨F,hR,hr,hF⟩:=h;obtain⟨b,off,c,h1,-,-,-,h2⟩:=hR.node hq;exact⟨b,off,c,h1,h2⟩
theorem gV.nodes(h:gV o i w r T):∃a c,w.cell? ⟨r,0,none⟩=some (.slice a T.length c):=by
 obtain⟨F,hR,hr,hF⟩:=h;obtain⟨a,c,h1,-⟩:=hR.nodes;exact⟨a,c,h1⟩
theorem Eb(h:gV o i w r T)(hM:Marks W o w)(hT:dZ T)(j:Nat)(hj:j≠0)(hij:i≠j)(hf:∀b,o b≠j):
  Calls Tryz.prog 122 #[ptr r] w fun e w'=>∃q o',e= .returned (ptr q)∧Step o (fun i=>i=j) w o' w'∧gV o' j w' q (aV T)∧Below w.heap.size w w':=by
 have HCP:=acr (Yi h hM hT j);have HM:=acr hM;have HT:=acr hT;have HJ:=acr hj;have HF:=acr hf;have HIJ:=acr hij;have HR0:=acr h;have hTl:=hT.len;clear h hM hT hj hf hij;go_enter Tryz.func122,Tryz.ntmps122;go_wp2_with fail;refine HCP.o.mono ?_;rintro e w1 ⟨q,o1,rfl,hs1,hT1,hb1⟩;have ko:=acr hs1;have nM:=acr (HM.o.step (fun e=>HJ.o e.symm) hs1);have HT1:=acr hT1;have HR1:=acr (HR0.o.step (fun e=>HJ.o e.symm) (fun e=>HIJ.o e) hs1);clear hs1 hT1 hb1;obtain⟨tl,htl⟩:∃tl,tl=T.length:=⟨_,rfl⟩;rw[←htl]at hTl;have Fb:=acr htl;clear htl;go_wp2_with fail
 go_loopw [4] (fun iv wr=>∃(k:Nat) (o2:Mark),iv= .int .i64 k∧k≤tl∧Step o (fun i=>i=j) w o2 wr∧gV o2 j wr q (bg T k)∧gV o2 i wr r T) (fun iv _=>tl-(intOf iv).toNat)
 case atStart=>
  exact⟨0,o1,rfl,Nat.zero_le _,ko.o,by rw[jX];exact HT1.o,HR1.o⟩
 case round=>
  obtain⟨k,o2,rfl,hk,hs,hTk,XD⟩:=hrel;have HS:=acr hs;have Mh:=acr hTk;have XE:=acr XD;obtain⟨a0,p0,hc0⟩:=XD.nodes;rw[←Fb.o]at hc0;clear hs hTk XD;by_cases hlt:k<tl
  ·have hd:decide (k<tl)=true:=by simpa using hlt
   obtain⟨y,hy⟩:∃y,T[k]? =some y:=⟨T[k]'(by rw[←Fb.o];exact hlt),List.getElem?_eq_getElem _⟩;obtain⟨b,off,c,hc0',d0,d1,d2,d3,d4,d5⟩:=XE.o.node hy;rw[←Fb.o,hc0]at hc0';simp only[Pd,aak,abR]at hc0';obtain⟨rfl,rfl⟩:=hc0';have hid:(kX T)[k]? =some y.1:=by unfold kX;rw[List.getElem?_map,hy];rfl
   have hyx:aj y.1 T=some y.2:=aS bY HT.o.sorted (aat hy);have HDR:=acr (Ya Mh.o (HM.o.step (fun e=>HJ.o e.symm) HS.o) (HT.o.bg k) y.1);have i0:(0:Int)≤(k:Int):=by omega
   have i1:(k:Int)<(tl:Int):=by omega
   have XF:=acr hid;have HYX:=acr hyx;clear hid hy hyx d1 d2 d3 d4;cases hcl:y.2.closed with
   |true=>
    rw[hcl]at d5;have ZW:=acr hcl;clear hcl;go_wp2_with fail;go_roundw
    case rel=>
     refine⟨k+1,o2,by go_num,by omega,HS.o,?_,XE.o⟩;rw[B_ XF.o (Ic HYX.o ZW.o)];exact Mh.o
    case measure=>simp[intOf];omega
   |false=>
    rw[hcl]at d5;clear hcl;go_wp2_with fail;refine HDR.o.mono ?_;rintro e w3 ⟨rfl,o3,hs3,Oe⟩;have Bb:=acr (HS.o.trans hs3);have HT3:=acr Oe;have HR3:=acr (XE.o.step (fun e=>HJ.o e.symm) (fun e=>HIJ.o e) hs3);clear hs3 Oe HDR;go_wp2_with fail;go_roundw
    case rel=>
     refine⟨k+1,o3,by go_num,by omega,Bb.o,?_,HR3.o⟩;rw[jw XF.o];exact HT3.o
    case measure=>simp[intOf];omega
  ·have hd:decide (k<tl)=false:=by simp;omega
   have HKT:=acr (show tl=k by omega);clear hlt;go_wp2_with fail;go_ret;have h9:=Mh.o;rw[←HKT.o,Fb.o,kP]at h9;refine⟨q,o2,rfl,HS.o,h9,?_⟩;exact HS.o.keep.gP acu fun x _ hx=>HF.o x hx
theorem vO(h:gV o i w r T)(hM:Marks W o w)(hT:dZ T):
  Calls Tryz.prog 122 #[ptr r] w fun e w'=>∃q,e= .returned (ptr q)∧gV o 0 w' q (aV T)∧Below w.heap.size w w':=by
 obtain⟨j,hj,hf⟩:=xH hM;have hij:i≠j:=by
  obtain⟨F,hR,hr,hF⟩:=h;exact fun e=>hf r (hr.trans e)
 refine(Eb h hM hT j hj hij hf).mono ?_;rintro e w' ⟨q,o',rfl,hs,hT',hb⟩;refine⟨q,rfl,hT'.remark (fun b hb' he=> ?_) (fun b hb' he=> ?_),hb⟩
 ·by_cases hlt:b<w.heap.size
  ·rw[hs.old b hlt]at he;exact absurd he (hf b)
  ·exact Decidable.byContradiction fun h0=>by have:=(hM.new b h0).2;omega
 ·by_cases hlt:b<w.heap.size
  ·rw[hs.old b hlt]at he;exact he
  ·exact Decidable.byContradiction fun h0=>by have:=(hM.new b h0).2;omega
end
end Go.Proofs.YtjnhnlabpccgjaaGreatDoor
