/- The reference's tree: Copy. Drop, again and again, plainly. The reference's tree: Copy under marks; Committed. -/
import Derived.Test.YtjnhnlabpccgjaaGreatM24
import Derived.Test.YtjnhnlabpccgjaaGreatM16
import Derived.Test.YtjnhnlabpccgjaaGreatM12
import Derived.Test.YtjnhnlabpccgjaaGreatM18
import Derived.Test.YtjnhnlabpccgjaaGreatM28
namespace Go.Proofs.YtjnhnlabpccgjaaGreat
open Go.ChangeShapes Go.WideShapes Go.ChangeAt Go.RowKit
set_option linter.unusedVariables false
set_option linter.unusedSimpArgs false
def Apart (a b:Value):Prop:=∀g,a.ownBlock=some g→b.ownBlock≠some g
theorem Apart.symm {a b:Value} (h:Apart a b):Apart b a:=fun g h1 h2=>h g h2 h1
theorem wC (a:Value):Apart a (.slice none 0 0):=fun g _ h=>by simp[Value.ownBlock]at h
structure sS (t1 t2 t3:TypeId) (k1 k2 k3:Nat) (w u:World) (v1:Value) (n1:Nat) (x1:List Value) (v2:Value) (n2:Nat) (x2:List Value) (v3:Value) (n3:Nat) (x3:List Value):Prop where
 o1:u.ownsRow w.heap.size t1 k1 v1 n1 x1
 o2:u.ownsRow w.heap.size t2 k2 v2 n2 x2
 o3:u.ownsRow w.heap.size t3 k3 v3 n3 x3
 d12:Apart v1 v2
 d13:Apart v1 v3
 d23:Apart v2 v3
 b:Below w.heap.size w u
section
variable {t1 t2 t3:TypeId} {k1 k2 k3:Nat} {w u u':World} {v1 v2 v3 v':Value} {n1 n2 n3 n':Nat} {x1 x2 x3 x':List Value}
theorem nK {B k n:Nat} {t:TypeId} {v:Value} {xs:List Value} (h:u.ownsRow B t k v n xs) (o:Obj):(u.alloc o).ownsRow B t k v n xs:=dh h fun b _ hbw=>Below.heap_alloc u o b hbw
theorem mW {B k n:Nat} {t:TypeId} {v:Value} {xs:List Value} (h:u.ownsRow B t k v n xs):Apart (.slice (some ⟨u.heap.size,0,none⟩) 0 0) v:=fun g h1 h2=>by
 have h3:=kJ h g h2
 simp[Value.ownBlock]at h1
 omega
theorem sS.start (w:World):sS t1 t2 t3 k1 k2 k3 w w.drew (.slice none 0 0) 0 [] (.slice none 0 0) 0 [] (.slice none 0 0) 0 []:=
 ⟨⟨by simp, .inl ⟨rfl,rfl⟩⟩,⟨by simp, .inl ⟨rfl,rfl⟩⟩,⟨by simp, .inl ⟨rfl,rfl⟩⟩,wC _,wC _,wC _,(Below.refl _ _).drew⟩
theorem sS.zV (h:sS t1 t2 t3 k1 k2 k3 w u v1 n1 x1 v2 n2 x2 v3 n3 x3):sS t1 t2 t3 k1 k2 k3 w (u.alloc (.cells #[] t1)) (.slice (some ⟨u.heap.size,0,none⟩) 0 0) 0 [] v2 n2 x2 v3 n3 x3:=
 ⟨oU (MapKept.heap_alloc u _).1 h.b.size,nK h.o2 _,nK h.o3 _,mW h.o2,mW h.o3,h.d23,h.b.trans ((wall u _).mono h.b.size)⟩
theorem sS.qd (h:sS t1 t2 t3 k1 k2 k3 w u v1 n1 x1 v2 n2 x2 v3 n3 x3):sS t1 t2 t3 k1 k2 k3 w (u.alloc (.cells #[] t2)) v1 n1 x1 (.slice (some ⟨u.heap.size,0,none⟩) 0 0) 0 [] v3 n3 x3:=
 ⟨nK h.o1 _,oU (MapKept.heap_alloc u _).1 h.b.size,nK h.o3 _,(mW h.o1).symm,h.d13,mW h.o3,h.b.trans ((wall u _).mono h.b.size)⟩
theorem sS.mF (h:sS t1 t2 t3 k1 k2 k3 w u v1 n1 x1 v2 n2 x2 v3 n3 x3):sS t1 t2 t3 k1 k2 k3 w (u.alloc (.cells #[] t3)) v1 n1 x1 v2 n2 x2 (.slice (some ⟨u.heap.size,0,none⟩) 0 0) 0 []:=
 ⟨nK h.o1 _,nK h.o2 _,oU (MapKept.heap_alloc u _).1 h.b.size,h.d12,(mW h.o1).symm,(mW h.o2).symm,h.b.trans ((wall u _).mono h.b.size)⟩
theorem mX {B k n:Nat} {t:TypeId} {v own:Value} {xs:List Value} (h:u.ownsRow B t k v n xs) (hg:u.grownBy u' own.ownBlock) (ha:Apart own v):u'.ownsRow B t k v n xs:=
 dh h fun b hb hbw=>hg.block b hbw fun e=>ha b e.symm hb
theorem ku {B k n:Nat} {t:TypeId} {v own:Value} {xs:List Value} (h:u.ownsRow B t k v n xs) (ha:Apart own v) (hat:v'.ownBlock=own.ownBlock∨v'.ownBlock=some u.heap.size):Apart v' v:=fun g h1 h2=>by
 rcases hat with e|e
 ·exact ha g (e▸h1) h2
 ·have h3:=kJ h g h2
  rw[e]at h1
  cases h1
  omega
theorem below_grown {B:Nat} {own:Value} {k n:Nat} {t:TypeId} {xs:List Value} (hb:Below w.heap.size w u) (h:u.ownsRow w.heap.size t k own n xs) (hg:u.grownBy u' own.ownBlock):Below w.heap.size w u':=
 hb.trans ⟨hg.os,hg.tape,hg.output,hg.size,fun b hb'=>hg.block b (by have:=hb.size;omega) fun e=>by have:=bY h b e.symm;omega⟩
theorem sS.app1 (h:sS t1 t2 t3 k1 k2 k3 w u v1 n1 x1 v2 n2 x2 v3 n3 x3) (ho:u'.ownsRow w.heap.size t1 k1 v' n' x') (hg:u.grownBy u' v1.ownBlock) (hat:v'.ownBlock=v1.ownBlock∨v'.ownBlock=some u.heap.size):sS t1 t2 t3 k1 k2 k3 w u' v' n' x' v2 n2 x2 v3 n3 x3:=
 ⟨ho,mX h.o2 hg h.d12,mX h.o3 hg h.d13,ku h.o2 h.d12 hat,ku h.o3 h.d13 hat,h.d23,below_grown (B:=0) h.b h.o1 hg⟩
theorem sS.app2 (h:sS t1 t2 t3 k1 k2 k3 w u v1 n1 x1 v2 n2 x2 v3 n3 x3) (ho:u'.ownsRow w.heap.size t2 k2 v' n' x') (hg:u.grownBy u' v2.ownBlock) (hat:v'.ownBlock=v2.ownBlock∨v'.ownBlock=some u.heap.size):sS t1 t2 t3 k1 k2 k3 w u' v1 n1 x1 v' n' x' v3 n3 x3:=
 ⟨mX h.o1 hg h.d12.symm,ho,mX h.o3 hg h.d23,(ku h.o1 h.d12.symm hat).symm,h.d13,ku h.o3 h.d23 hat,below_grown (B:=0) h.b h.o2 hg⟩
theorem sS.app3 (h:sS t1 t2 t3 k1 k2 k3 w u v1 n1 x1 v2 n2 x2 v3 n3 x3) (ho:u'.ownsRow w.heap.size t3 k3 v' n' x') (hg:u.grownBy u' v3.ownBlock) (hat:v'.ownBlock=v3.ownBlock∨v'.ownBlock=some u.heap.size):sS t1 t2 t3 k1 k2 k3 w u' v1 n1 x1 v2 n2 x2 v' n' x':=
 ⟨mX h.o1 hg h.d13.symm,mX h.o2 hg h.d23.symm,ho,h.d12,(ku h.o1 h.d13.symm hat).symm,(ku h.o2 h.d23.symm hat).symm,below_grown (B:=0) h.b h.o3 hg⟩
theorem sS.go1 {P:Program} {S:Nat→Prop} {ops:Array Oper} {o:Oper} {a:Act} {K:Act→World→Prop} {Q:Exit→Act→World→Prop} {E:Prop} {i:TypeInfo} {z:Value} {vZ m c:Nat} {A:Option Addr} {news:List Value} (h:sS t1 t2 t3 k1 k2 k3 w u v1 0 [] v2 n2 x2 v3 n3 x3) (s y:Operand) (t:TypeId)
  (hi:P.info? t1=some i∧i.zero=some z∧i.size=k1∧i.bytes=vZ) (hr:ah S w A (m*k1) news) (ho1:∀u∈news,u.oneCell'=true) (hx:a.eval y= .slice A m c) (hs:a.eval s=v1) (ho:o.guard=none∧o.op= .call {callee:= .builtin .append,args:= #[s,y],argTypes:= #[t,t]}∧P.underlying t=some (.slice t1)∧z.cells.size=k1)
  (hk:0<k1) (hm:m≤4194240∧vZ≤48)
  (hn:∀A' c' u',sS t1 t2 t3 k1 k2 k3 w u' (.slice A' (0+m) c') (0+m) ([]++news) v2 n2 x2 v3 n3 x3→K (a.put o.dst (.slice A' (0+m) c')) u'):if Region.wanted o (yielded ops a.tmps)=true then Oper.wp P o a u K Q else E:=by
 refine dz ho.1 s y t ho.2.1 w.heap.size t1 i z k1 vZ ho.2.2.1 hi.1 hi.2.1 hi.2.2.1 hi.2.2.2 ho.2.2.2 hk v1 0 [] hs h.o1 A m c news hx (hr.below h.b (Nat.le_refl _)) ho1 (by unfold maxLen;omega) ?_ h.b.size ?_
 ·have:=Nat.mul_le_mul (show 0+m≤4194240 by omega) hm.2
  omega
 ·intro A' c' u' hown hgr hat
  exact hn A' c' u' (h.app1 hown hgr hat)
theorem sS.go2 {P:Program} {S:Nat→Prop} {ops:Array Oper} {o:Oper} {a:Act} {K:Act→World→Prop} {Q:Exit→Act→World→Prop} {E:Prop} {i:TypeInfo} {z:Value} {vZ m c:Nat} {A:Option Addr} {news:List Value} (h:sS t1 t2 t3 k1 k2 k3 w u v1 n1 x1 v2 0 [] v3 n3 x3) (s y:Operand) (t:TypeId)
  (hi:P.info? t2=some i∧i.zero=some z∧i.size=k2∧i.bytes=vZ) (hr:ah S w A (m*k2) news) (ho1:∀u∈news,u.oneCell'=true) (hx:a.eval y= .slice A m c) (hs:a.eval s=v2) (ho:o.guard=none∧o.op= .call {callee:= .builtin .append,args:= #[s,y],argTypes:= #[t,t]}∧P.underlying t=some (.slice t2)∧z.cells.size=k2)
  (hk:0<k2) (hm:m≤4194240∧vZ≤48)
  (hn:∀A' c' u',sS t1 t2 t3 k1 k2 k3 w u' v1 n1 x1 (.slice A' (0+m) c') (0+m) ([]++news) v3 n3 x3→K (a.put o.dst (.slice A' (0+m) c')) u'):if Region.wanted o (yielded ops a.tmps)=true then Oper.wp P o a u K Q else E:=by
 refine dz ho.1 s y t ho.2.1 w.heap.size t2 i z k2 vZ ho.2.2.1 hi.1 hi.2.1 hi.2.2.1 hi.2.2.2 ho.2.2.2 hk v2 0 [] hs h.o2 A m c news hx (hr.below h.b (Nat.le_refl _)) ho1 (by unfold maxLen;omega) ?_ h.b.size ?_
 ·have:=Nat.mul_le_mul (show 0+m≤4194240 by omega) hm.2
  omega
 ·intro A' c' u' hown hgr hat
  exact hn A' c' u' (h.app2 hown hgr hat)
theorem sS.H7 {P:Program} {S:Nat→Prop} {ops:Array Oper} {o:Oper} {a:Act} {K:Act→World→Prop} {Q:Exit→Act→World→Prop} {E:Prop} {i:TypeInfo} {z:Value} {vZ m c:Nat} {A:Option Addr} {news:List Value} (h:sS t1 t2 t3 k1 k2 k3 w u v1 n1 x1 v2 n2 x2 v3 0 []) (s y:Operand) (t:TypeId)
  (hi:P.info? t3=some i∧i.zero=some z∧i.size=k3∧i.bytes=vZ) (hr:ah S w A (m*k3) news) (ho1:∀u∈news,u.oneCell'=true) (hx:a.eval y= .slice A m c) (hs:a.eval s=v3) (ho:o.guard=none∧o.op= .call {callee:= .builtin .append,args:= #[s,y],argTypes:= #[t,t]}∧P.underlying t=some (.slice t3)∧z.cells.size=k3)
  (hk:0<k3) (hm:m≤4194240∧vZ≤48)
  (hn:∀A' c' u',sS t1 t2 t3 k1 k2 k3 w u' v1 n1 x1 v2 n2 x2 (.slice A' (0+m) c') (0+m) ([]++news)→K (a.put o.dst (.slice A' (0+m) c')) u'):if Region.wanted o (yielded ops a.tmps)=true then Oper.wp P o a u K Q else E:=by
 refine dz ho.1 s y t ho.2.1 w.heap.size t3 i z k3 vZ ho.2.2.1 hi.1 hi.2.1 hi.2.2.1 hi.2.2.2 ho.2.2.2 hk v3 0 [] hs h.o3 A m c news hx (hr.below h.b (Nat.le_refl _)) ho1 (by unfold maxLen;omega) ?_ h.b.size ?_
 ·have:=Nat.mul_le_mul (show 0+m≤4194240 by omega) hm.2
  omega
 ·intro A' c' u' hown hgr hat
  exact hn A' c' u' (h.app3 hown hgr hat)
end
def Di (F:Nat→Prop) (w:World) (r:Nat) (T:aA) (D:List (List UInt8)) (E:List jm) (e:Ending) (w':World):Prop:=
 ∃q,e= .returned (ptr q)∧w.heap.size≤q∧Below w.heap.size w w'∧fJ (fun b=>Off F r b∨(w.heap.size≤b∧b<w'.heap.size)) w' q T D E
theorem R8 {F:Nat→Prop} {r:Nat} {T:aA} {D:List (List UInt8)} {E:List jm} {w u:World} {a1 a2 a3:Option Addr} {m1 m2 m3 c1 c2 c3 n1 n2 n3:Nat} {vs:List Value} (h:fJ F w r T D E) (hD:∀(i:Nat) (b:List UInt8),D[i]? =some b→∃(a:Option Addr) (c:Nat),vs[i]? =some (.slice a b.length c)∧kV b.length c∧ah (Off F r) w a b.length (b.map bv))
  (e1:n1=T.length) (e2:n2=D.length) (e3:n3=E.length) (hn:n1≤10000000∧n2≤10000000∧n3≤10000000)
  (hC:sS 101 23 103 6 1 3 w u (.slice a1 m1 c1) n1 (T.flatMap b_) (.slice a2 m2 c2) n2 vs (.slice a3 m3 c3) n3 (E.flatMap eB)):
  Di F w r T D E (.returned (ptr u.heap.size)) (u.alloc (.cells #[.slice a1 m1 c1, .slice a2 m2 c2, .slice a3 m3 c3] 97)):=by
 have hB:=hC.b.trans ((wall u (.cells #[.slice a1 m1 c1, .slice a2 m2 c2, .slice a3 m3 c3] 97)).mono hC.b.size)
 have hs:=hC.b.size
 have hsz:(u.alloc (.cells #[.slice a1 m1 c1, .slice a2 m2 c2, .slice a3 m3 c3] 97)).heap.size=u.heap.size+1:=by simp
 obtain⟨f1,g1,b1,q1⟩:=ah.lM hC.o1 (by unfold maxLen;omega)
 obtain⟨f2,g2,b2,q2⟩:=ah.lM hC.o2 (by unfold maxLen;omega)
 obtain⟨f3,g3,b3,q3⟩:=ah.lM hC.o3 (by unfold maxLen;omega)
 subst f1 f2 f3
 subst e1 e2 e3
 have hmv:∀b,(w.heap.size≤b∧b<u.heap.size)→b<u.heap.size→Off (fun b=>Off F r b∨(w.heap.size≤b∧b<(u.alloc (.cells #[.slice a1 T.length c1, .slice a2 D.length c2, .slice a3 E.length c3] 97)).heap.size)) u.heap.size b∧(u.alloc (.cells #[.slice a1 T.length c1, .slice a2 D.length c2, .slice a3 E.length c3] 97)).heap[b]? =u.heap[b]? :=fun b hb hbu=>⟨⟨.inr ⟨hb.1,by rw[hsz];omega⟩,by omega⟩,Below.heap_alloc u _ b hbu⟩
 refine⟨u.heap.size,rfl,hs,hB,⟨⟨a1,c1,a2,c2,a3,c3,(MapKept.heap_alloc u _).1,g1,g2,g3,q1.move (by omega) hmv,⟨vs,?_,fun i b hb=> ?_⟩,q3.move (by omega) hmv,b3⟩, .inr ⟨hs,by omega⟩,fun b hb=> ?_⟩⟩
 ·have q2':=q2
  rw[Nat.mul_one]at q2'
  exact q2'.move (by omega) hmv
 ·obtain⟨a,c,h1,h2,h3⟩:=hD i b hb
  exact⟨a,c,h1,h2,h3.move hB.size fun x hx hxw=>⟨⟨.inl hx,by omega⟩,hB.block x hxw⟩⟩
 ·rcases hb with hb|hb
  ·have:=h.low b hb.1
   omega
  ·exact hb.2
section
variable {F:Nat→Prop} {r:Nat} {T:aA} {D:List (List UInt8)} {E:List jm}
set_option maxRecDepth 100000 in
set_option maxHeartbeats 8000000 in
theorem Lm (w:World) (h:fJ F w r T D E) (hn:T.length≤64) (hd:D.length≤64) (he:E.length≤4194240):Calls Tryz.prog 141 #[ptr r] w (Di F w r T D E):=by
 obtain⟨iN,hiN⟩:∃i,Tryz.prog.info? 101=some i∧i.zero=some (.agg #[.int .i64 0, .int .i64 0, .int .i64 0, .int .i64 0, .int .u64 0, .bool false])∧i.size=6∧i.bytes=48:=info_parts nodeInfo
 obtain⟨iD,hiD⟩:∃i,Tryz.prog.info? 23=some i∧i.zero=some (.slice none 0 0)∧i.size=1∧i.bytes=24:=info_parts uO
 obtain⟨iE,hiE⟩:∃i,Tryz.prog.info? 103=some i∧i.zero=some (.agg #[.int .i64 0, .string ⟨#[]⟩, .int .i64 0])∧i.size=3∧i.bytes=32:=info_parts yw
 obtain⟨aN,cN,aD,cD,aE,cE,h1,-,-,-,h8,⟨vs,h9,hvs⟩,h10,-⟩:=h.head
 have hr0:=h.low r h.own
 have HH:=Lib.hid h
 have HV:=Lib.hid hvs
 have hv1:∀u∈vs,u.oneCell'=true:=fun u hu=>by
  obtain⟨i,hi,rfl⟩:=List.mem_iff_getElem.1 hu
  have hl:vs.length=D.length:=h9.length
  obtain⟨a,c,hx,-⟩:=hvs i _ (List.getElem?_eq_getElem (by omega))
  rw[List.getElem?_eq_getElem hi]at hx
  rw[Option.some.inj hx]
  rfl
 obtain⟨n1,e1⟩:∃n,n=T.length:=⟨_,rfl⟩
 obtain⟨n2,e2⟩:∃n,n=D.length:=⟨_,rfl⟩
 obtain⟨n3,e3⟩:∃n,n=E.length:=⟨_,rfl⟩
 rw[←e1]at h1 h8 hn
 rw[←e2]at h1 h9 hd
 rw[←e3]at h1 h10 he
 have iw:Hid (∀w',Below w.heap.size w w'→w'.cell? ⟨r,0,none⟩=some (.slice aN n1 cN)∧w'.cell? ⟨r,1,none⟩=some (.slice aD n2 cD)∧w'.cell? ⟨r,2,none⟩=some (.slice aE n3 cE)):=fun w' hb=>by
  have h2:=(hb.block r hr0).trans h1
  refine⟨?_,?_,?_⟩<;>simp[World.cell?,h2]
 have HN:=Lib.hid h8
 have HD:=Lib.hid (show ah (Off F r) w aD (n2*1) vs by rw[Nat.mul_one];exact h9)
 have HE:=Lib.hid h10
 have O6:=Lib.hid hiN
 have Es:=Lib.hid hiD
 have H_:=Lib.hid hiE
 have Bf:=Lib.hid (gu T)
 have HD1:=Lib.hid hv1
 have uQ:=Lib.hid (kR E)
 have HQ:=Lib.hid (And.intro e1 (And.intro e2 e3))
 have w_:=Lib.hid (sS.start (t1:=101) (t2:=23) (t3:=103) (k1:=6) (k2:=1) (k3:=3) w)
 have iX:Hid (∀(u:World) (a1 a2 a3:Option Addr) (m1 m2 m3 c1 c2 c3:Nat),sS 101 23 103 6 1 3 w u (.slice a1 m1 c1) n1 (T.flatMap b_) (.slice a2 m2 c2) n2 vs (.slice a3 m3 c3) n3 (E.flatMap eB)→Di F w r T D E (.returned (ptr u.heap.size)) (u.alloc (.cells #[.slice a1 m1 c1, .slice a2 m2 c2, .slice a3 m3 c3] 97))):=fun u a1 a2 a3 m1 m2 m3 c1 c2 c3 hC=>R8 h hvs e1 e2 e3 ⟨by omega,by omega,by omega⟩ hC
 clear h h1 h8 h9 h10 hvs hv1 e1 e2 e3 hiN hiD hiE
 go_enter Tryz.func141,Tryz.ntmps141
 go_wp2_with fail
 refine qF 20 ((fun w'=>w'.cell? ⟨r,0,none⟩=some (.slice aN n1 cN)∧w'.cell? ⟨r,1,none⟩=some (.slice aD n2 cD)∧w'.cell? ⟨r,2,none⟩=some (.slice aE n3 cE))) ?_ fun hS=> ?_
 ·exact iw.out _ w_.out.b
 refine ak 1 hS ?_
 refine ak 2 hS ?_
 refine ak 3 hS ?_
 refine ak 4 hS ?_
 refine ak 7 hS ?_
 refine ak 8 hS ?_
 refine ak 9 hS ?_
 refine ak 10 hS ?_
 refine ak 13 hS ?_
 refine ak 14 hS ?_
 refine ak 15 hS ?_
 refine ak 16 hS ?_
 refine X5 0 6 12 (fun K hK=> ?g1_0) (fun K hK=> ?g1_6) fun K hK=> ?Zd
 case g1_0=>
  go_simp
  have Lp:=w_.out.zV
  try simp only[World.size_alloc]at Lp
  refine bR hK (iw.out _ Lp.b) fun hS=> ?_
  clear hK K
  refine X5 5 6 12 (fun K hK=> ?g4_5) (fun K hK=> ?VP) fun K hK=> ?Ze
  case g4_5=>
   refine Lp.go1 (.tmp 3) (.tmp 7) 94 O6.out HN.out Bf.out rfl rfl ⟨rfl,rfl,Tryz.underlying94,rfl⟩ (by omega) (by omega) ?_
   intro A1 c1 u1 VQ
   refine bR hK (iw.out _ VQ.b) fun hS=> ?_
   clear hK K
   refine qN 6 12 (fun K hK=> ?g7_6) fun K hK=> ?Zf
   case g7_6=>
    go_simp
    have O7:=VQ.qd
    try simp only[World.size_alloc]at O7
    refine bR hK (iw.out _ O7.b) fun hS=> ?_
    clear hK K
    refine qN 11 12 (fun K hK=> ?VR) fun K hK=> ?VT
    case VR=>
     refine O7.go2 (.tmp 9) (.tmp 13) 45 Es.out HD.out HD1.out rfl rfl ⟨rfl,rfl,Tryz.underlying45,rfl⟩ (by omega) (by omega) ?_
     intro A2 c2 u2 Lr
     refine bR hK (iw.out _ Lr.b) fun hS=> ?_
     clear hK K
     refine bK 12 fun K hK=> ?_
     go_simp
     have Bh:=Lr.mF
     try simp only[World.size_alloc]at Bh
     refine bR hK (iw.out _ Bh.b) fun hS=> ?_
     clear hK K
     refine bK 17 fun K hK=> ?_
     refine Bh.H7 (.tmp 15) (.tmp 19) 95 H_.out HE.out uQ.out rfl rfl ⟨rfl,rfl,Tryz.underlying95,rfl⟩ (by omega) (by omega) ?_
     intro A3 c3 u3 xO
     refine bR hK (iw.out _ xO.b) fun hS=> ?_
     clear hK K
     refine ak 18 hS ?_
     refine bK 19 fun K hK=> ?_
     go_simp
     refine bR hK (iw.out _ (xO.b.trans ((wall _ _).mono xO.b.size))) fun hS=> ?_
     clear hK K
     refine bK 20 fun K hK=> ?_
     go_simp
     refine j_ hK ?_
     clear hS hK K
     go_wp2_with fail
     go_ret
     simp only[Nat.zero_add,List.nil_append]at xO⊢
     exact iX.out _ _ _ _ _ _ _ _ _ _ xO
    case VT=>
     go_simp
     have Ia:=O7.mF
     try simp only[World.size_alloc]at Ia
     refine bR hK (iw.out _ Ia.b) fun hS=> ?_
     clear hK K
     refine bK 11 fun K hK=> ?_
     refine Ia.go2 (.tmp 9) (.tmp 13) 45 Es.out HD.out HD1.out rfl rfl ⟨rfl,rfl,Tryz.underlying45,rfl⟩ (by omega) (by omega) ?_
     intro A2 c2 u2 Zg
     refine bR hK (iw.out _ Zg.b) fun hS=> ?_
     clear hK K
     refine bK 17 fun K hK=> ?_
     refine Zg.H7 (.tmp 15) (.tmp 19) 95 H_.out HE.out uQ.out rfl rfl ⟨rfl,rfl,Tryz.underlying95,rfl⟩ (by omega) (by omega) ?_
     intro A3 c3 u3 O8
     refine bR hK (iw.out _ O8.b) fun hS=> ?_
     clear hK K
     refine ak 18 hS ?_
     refine bK 19 fun K hK=> ?_
     go_simp
     refine bR hK (iw.out _ (O8.b.trans ((wall _ _).mono O8.b.size))) fun hS=> ?_
     clear hK K
     refine bK 20 fun K hK=> ?_
     go_simp
     refine j_ hK ?_
     clear hS hK K
     go_wp2_with fail
     go_ret
     simp only[Nat.zero_add,List.nil_append]at O8⊢
     exact iX.out _ _ _ _ _ _ _ _ _ _ O8
   case Zf=>
    go_simp
    have VU:=VQ.mF
    try simp only[World.size_alloc]at VU
    refine bR hK (iw.out _ VU.b) fun hS=> ?_
    clear hK K
    refine bK 6 fun K hK=> ?_
    go_simp
    have VW:=VU.qd
    try simp only[World.size_alloc]at VW
    refine bR hK (iw.out _ VW.b) fun hS=> ?_
    clear hK K
    refine bK 11 fun K hK=> ?_
    refine VW.go2 (.tmp 9) (.tmp 13) 45 Es.out HD.out HD1.out rfl rfl ⟨rfl,rfl,Tryz.underlying45,rfl⟩ (by omega) (by omega) ?_
    intro A2 c2 u2 Zh
    refine bR hK (iw.out _ Zh.b) fun hS=> ?_
    clear hK K
    refine bK 17 fun K hK=> ?_
    refine Zh.H7 (.tmp 15) (.tmp 19) 95 H_.out HE.out uQ.out rfl rfl ⟨rfl,rfl,Tryz.underlying95,rfl⟩ (by omega) (by omega) ?_
    intro A3 c3 u3 O9
    refine bR hK (iw.out _ O9.b) fun hS=> ?_
    clear hK K
    refine ak 18 hS ?_
    refine bK 19 fun K hK=> ?_
    go_simp
    refine bR hK (iw.out _ (O9.b.trans ((wall _ _).mono O9.b.size))) fun hS=> ?_
    clear hK K
    refine bK 20 fun K hK=> ?_
    go_simp
    refine j_ hK ?_
    clear hS hK K
    go_wp2_with fail
    go_ret
    simp only[Nat.zero_add,List.nil_append]at O9⊢
    exact iX.out _ _ _ _ _ _ _ _ _ _ O9
  case VP=>
   go_simp
   have R9:=Lp.qd
   try simp only[World.size_alloc]at R9
   refine bR hK (iw.out _ R9.b) fun hS=> ?_
   clear hK K
   refine qN 5 12 (fun K hK=> ?Zi) fun K hK=> ?VX
   case Zi=>
    refine R9.go1 (.tmp 3) (.tmp 7) 94 O6.out HN.out Bf.out rfl rfl ⟨rfl,rfl,Tryz.underlying94,rfl⟩ (by omega) (by omega) ?_
    intro A1 c1 u1 VY
    refine bR hK (iw.out _ VY.b) fun hS=> ?_
    clear hK K
    refine qN 11 12 (fun K hK=> ?VZ) fun K hK=> ?V3
    case VZ=>
     refine VY.go2 (.tmp 9) (.tmp 13) 45 Es.out HD.out HD1.out rfl rfl ⟨rfl,rfl,Tryz.underlying45,rfl⟩ (by omega) (by omega) ?_
     intro A2 c2 u2 Zj
     refine bR hK (iw.out _ Zj.b) fun hS=> ?_
     clear hK K
     refine bK 12 fun K hK=> ?_
     go_simp
     have V4:=Zj.mF
     try simp only[World.size_alloc]at V4
     refine bR hK (iw.out _ V4.b) fun hS=> ?_
     clear hK K
     refine bK 17 fun K hK=> ?_
     refine V4.H7 (.tmp 15) (.tmp 19) 95 H_.out HE.out uQ.out rfl rfl ⟨rfl,rfl,Tryz.underlying95,rfl⟩ (by omega) (by omega) ?_
     intro A3 c3 u3 O_
     refine bR hK (iw.out _ O_.b) fun hS=> ?_
     clear hK K
     refine ak 18 hS ?_
     refine bK 19 fun K hK=> ?_
     go_simp
     refine bR hK (iw.out _ (O_.b.trans ((wall _ _).mono O_.b.size))) fun hS=> ?_
     clear hK K
     refine bK 20 fun K hK=> ?_
     go_simp
     refine j_ hK ?_
     clear hS hK K
     go_wp2_with fail
     go_ret
     simp only[Nat.zero_add,List.nil_append]at O_⊢
     exact iX.out _ _ _ _ _ _ _ _ _ _ O_
    case V3=>
     go_simp
     have V5:=VY.mF
     try simp only[World.size_alloc]at V5
     refine bR hK (iw.out _ V5.b) fun hS=> ?_
     clear hK K
     refine bK 11 fun K hK=> ?_
     refine V5.go2 (.tmp 9) (.tmp 13) 45 Es.out HD.out HD1.out rfl rfl ⟨rfl,rfl,Tryz.underlying45,rfl⟩ (by omega) (by omega) ?_
     intro A2 c2 u2 Zk
     refine bR hK (iw.out _ Zk.b) fun hS=> ?_
     clear hK K
     refine bK 17 fun K hK=> ?_
     refine Zk.H7 (.tmp 15) (.tmp 19) 95 H_.out HE.out uQ.out rfl rfl ⟨rfl,rfl,Tryz.underlying95,rfl⟩ (by omega) (by omega) ?_
     intro A3 c3 u3 Pb
     refine bR hK (iw.out _ Pb.b) fun hS=> ?_
     clear hK K
     refine ak 18 hS ?_
     refine bK 19 fun K hK=> ?_
     go_simp
     refine bR hK (iw.out _ (Pb.b.trans ((wall _ _).mono Pb.b.size))) fun hS=> ?_
     clear hK K
     refine bK 20 fun K hK=> ?_
     go_simp
     refine j_ hK ?_
     clear hS hK K
     go_wp2_with fail
     go_ret
     simp only[Nat.zero_add,List.nil_append]at Pb⊢
     exact iX.out _ _ _ _ _ _ _ _ _ _ Pb
   case VX=>
    go_simp
    have V6:=R9.mF
    try simp only[World.size_alloc]at V6
    refine bR hK (iw.out _ V6.b) fun hS=> ?_
    clear hK K
    refine bK 5 fun K hK=> ?_
    refine V6.go1 (.tmp 3) (.tmp 7) 94 O6.out HN.out Bf.out rfl rfl ⟨rfl,rfl,Tryz.underlying94,rfl⟩ (by omega) (by omega) ?_
    intro A1 c1 u1 Zl
    refine bR hK (iw.out _ Zl.b) fun hS=> ?_
    clear hK K
    refine bK 11 fun K hK=> ?_
    refine Zl.go2 (.tmp 9) (.tmp 13) 45 Es.out HD.out HD1.out rfl rfl ⟨rfl,rfl,Tryz.underlying45,rfl⟩ (by omega) (by omega) ?_
    intro A2 c2 u2 Zm
    refine bR hK (iw.out _ Zm.b) fun hS=> ?_
    clear hK K
    refine bK 17 fun K hK=> ?_
    refine Zm.H7 (.tmp 15) (.tmp 19) 95 H_.out HE.out uQ.out rfl rfl ⟨rfl,rfl,Tryz.underlying95,rfl⟩ (by omega) (by omega) ?_
    intro A3 c3 u3 Pf
    refine bR hK (iw.out _ Pf.b) fun hS=> ?_
    clear hK K
    refine ak 18 hS ?_
    refine bK 19 fun K hK=> ?_
    go_simp
    refine bR hK (iw.out _ (Pf.b.trans ((wall _ _).mono Pf.b.size))) fun hS=> ?_
    clear hK K
    refine bK 20 fun K hK=> ?_
    go_simp
    refine j_ hK ?_
    clear hS hK K
    go_wp2_with fail
    go_ret
    simp only[Nat.zero_add,List.nil_append]at Pf⊢
    exact iX.out _ _ _ _ _ _ _ _ _ _ Pf
  case Ze=>
   go_simp
   have R_:=Lp.mF
   try simp only[World.size_alloc]at R_
   refine bR hK (iw.out _ R_.b) fun hS=> ?_
   clear hK K
   refine qN 5 6 (fun K hK=> ?Zn) fun K hK=> ?Zo
   case Zn=>
    refine R_.go1 (.tmp 3) (.tmp 7) 94 O6.out HN.out Bf.out rfl rfl ⟨rfl,rfl,Tryz.underlying94,rfl⟩ (by omega) (by omega) ?_
    intro A1 c1 u1 Zp
    refine bR hK (iw.out _ Zp.b) fun hS=> ?_
    clear hK K
    refine bK 6 fun K hK=> ?_
    go_simp
    have V7:=Zp.qd
    try simp only[World.size_alloc]at V7
    refine bR hK (iw.out _ V7.b) fun hS=> ?_
    clear hK K
    refine bK 11 fun K hK=> ?_
    refine V7.go2 (.tmp 9) (.tmp 13) 45 Es.out HD.out HD1.out rfl rfl ⟨rfl,rfl,Tryz.underlying45,rfl⟩ (by omega) (by omega) ?_
    intro A2 c2 u2 Zq
    refine bR hK (iw.out _ Zq.b) fun hS=> ?_
    clear hK K
    refine bK 17 fun K hK=> ?_
    refine Zq.H7 (.tmp 15) (.tmp 19) 95 H_.out HE.out uQ.out rfl rfl ⟨rfl,rfl,Tryz.underlying95,rfl⟩ (by omega) (by omega) ?_
    intro A3 c3 u3 Pg
    refine bR hK (iw.out _ Pg.b) fun hS=> ?_
    clear hK K
    refine ak 18 hS ?_
    refine bK 19 fun K hK=> ?_
    go_simp
    refine bR hK (iw.out _ (Pg.b.trans ((wall _ _).mono Pg.b.size))) fun hS=> ?_
    clear hK K
    refine bK 20 fun K hK=> ?_
    go_simp
    refine j_ hK ?_
    clear hS hK K
    go_wp2_with fail
    go_ret
    simp only[Nat.zero_add,List.nil_append]at Pg⊢
    exact iX.out _ _ _ _ _ _ _ _ _ _ Pg
   case Zo=>
    go_simp
    have V8:=R_.qd
    try simp only[World.size_alloc]at V8
    refine bR hK (iw.out _ V8.b) fun hS=> ?_
    clear hK K
    refine bK 5 fun K hK=> ?_
    refine V8.go1 (.tmp 3) (.tmp 7) 94 O6.out HN.out Bf.out rfl rfl ⟨rfl,rfl,Tryz.underlying94,rfl⟩ (by omega) (by omega) ?_
    intro A1 c1 u1 Zr
    refine bR hK (iw.out _ Zr.b) fun hS=> ?_
    clear hK K
    refine bK 11 fun K hK=> ?_
    refine Zr.go2 (.tmp 9) (.tmp 13) 45 Es.out HD.out HD1.out rfl rfl ⟨rfl,rfl,Tryz.underlying45,rfl⟩ (by omega) (by omega) ?_
    intro A2 c2 u2 Zt
    refine bR hK (iw.out _ Zt.b) fun hS=> ?_
    clear hK K
    refine bK 17 fun K hK=> ?_
    refine Zt.H7 (.tmp 15) (.tmp 19) 95 H_.out HE.out uQ.out rfl rfl ⟨rfl,rfl,Tryz.underlying95,rfl⟩ (by omega) (by omega) ?_
    intro A3 c3 u3 Ph
    refine bR hK (iw.out _ Ph.b) fun hS=> ?_
    clear hK K
    refine ak 18 hS ?_
    refine bK 19 fun K hK=> ?_
    go_simp
    refine bR hK (iw.out _ (Ph.b.trans ((wall _ _).mono Ph.b.size))) fun hS=> ?_
    clear hK K
    refine bK 20 fun K hK=> ?_
    go_simp
    refine j_ hK ?_
    clear hS hK K
    go_wp2_with fail
    go_ret
    simp only[Nat.zero_add,List.nil_append]at Ph⊢
    exact iX.out _ _ _ _ _ _ _ _ _ _ Ph
 case g1_6=>
  go_simp
  have Sb:=w_.out.qd
  try simp only[World.size_alloc]at Sb
  refine bR hK (iw.out _ Sb.b) fun hS=> ?_
  clear hK K
  refine qN 0 12 (fun K hK=> ?Zu) fun K hK=> ?V9
  case Zu=>
   go_simp
   have Sc:=Sb.zV
   try simp only[World.size_alloc]at Sc
   refine bR hK (iw.out _ Sc.b) fun hS=> ?_
   clear hK K
   refine qN 5 12 (fun K hK=> ?Zv) fun K hK=> ?V_
   case Zv=>
    refine Sc.go1 (.tmp 3) (.tmp 7) 94 O6.out HN.out Bf.out rfl rfl ⟨rfl,rfl,Tryz.underlying94,rfl⟩ (by omega) (by omega) ?_
    intro A1 c1 u1 Wd
    refine bR hK (iw.out _ Wd.b) fun hS=> ?_
    clear hK K
    refine qN 11 12 (fun K hK=> ?Wh) fun K hK=> ?Wi
    case Wh=>
     refine Wd.go2 (.tmp 9) (.tmp 13) 45 Es.out HD.out HD1.out rfl rfl ⟨rfl,rfl,Tryz.underlying45,rfl⟩ (by omega) (by omega) ?_
     intro A2 c2 u2 Zw
     refine bR hK (iw.out _ Zw.b) fun hS=> ?_
     clear hK K
     refine bK 12 fun K hK=> ?_
     go_simp
     have Wj:=Zw.mF
     try simp only[World.size_alloc]at Wj
     refine bR hK (iw.out _ Wj.b) fun hS=> ?_
     clear hK K
     refine bK 17 fun K hK=> ?_
     refine Wj.H7 (.tmp 15) (.tmp 19) 95 H_.out HE.out uQ.out rfl rfl ⟨rfl,rfl,Tryz.underlying95,rfl⟩ (by omega) (by omega) ?_
     intro A3 c3 u3 Pj
     refine bR hK (iw.out _ Pj.b) fun hS=> ?_
     clear hK K
     refine ak 18 hS ?_
     refine bK 19 fun K hK=> ?_
     go_simp
     refine bR hK (iw.out _ (Pj.b.trans ((wall _ _).mono Pj.b.size))) fun hS=> ?_
     clear hK K
     refine bK 20 fun K hK=> ?_
     go_simp
     refine j_ hK ?_
     clear hS hK K
     go_wp2_with fail
     go_ret
     simp only[Nat.zero_add,List.nil_append]at Pj⊢
     exact iX.out _ _ _ _ _ _ _ _ _ _ Pj
    case Wi=>
     go_simp
     have Wm:=Wd.mF
     try simp only[World.size_alloc]at Wm
     refine bR hK (iw.out _ Wm.b) fun hS=> ?_
     clear hK K
     refine bK 11 fun K hK=> ?_
     refine Wm.go2 (.tmp 9) (.tmp 13) 45 Es.out HD.out HD1.out rfl rfl ⟨rfl,rfl,Tryz.underlying45,rfl⟩ (by omega) (by omega) ?_
     intro A2 c2 u2 Zx
     refine bR hK (iw.out _ Zx.b) fun hS=> ?_
     clear hK K
     refine bK 17 fun K hK=> ?_
     refine Zx.H7 (.tmp 15) (.tmp 19) 95 H_.out HE.out uQ.out rfl rfl ⟨rfl,rfl,Tryz.underlying95,rfl⟩ (by omega) (by omega) ?_
     intro A3 c3 u3 Pk
     refine bR hK (iw.out _ Pk.b) fun hS=> ?_
     clear hK K
     refine ak 18 hS ?_
     refine bK 19 fun K hK=> ?_
     go_simp
     refine bR hK (iw.out _ (Pk.b.trans ((wall _ _).mono Pk.b.size))) fun hS=> ?_
     clear hK K
     refine bK 20 fun K hK=> ?_
     go_simp
     refine j_ hK ?_
     clear hS hK K
     go_wp2_with fail
     go_ret
     simp only[Nat.zero_add,List.nil_append]at Pk⊢
     exact iX.out _ _ _ _ _ _ _ _ _ _ Pk
   case V_=>
    go_simp
    have Wn:=Sc.mF
    try simp only[World.size_alloc]at Wn
    refine bR hK (iw.out _ Wn.b) fun hS=> ?_
    clear hK K
    refine bK 5 fun K hK=> ?_
    refine Wn.go1 (.tmp 3) (.tmp 7) 94 O6.out HN.out Bf.out rfl rfl ⟨rfl,rfl,Tryz.underlying94,rfl⟩ (by omega) (by omega) ?_
    intro A1 c1 u1 Zy
    refine bR hK (iw.out _ Zy.b) fun hS=> ?_
    clear hK K
    refine bK 11 fun K hK=> ?_
    refine Zy.go2 (.tmp 9) (.tmp 13) 45 Es.out HD.out HD1.out rfl rfl ⟨rfl,rfl,Tryz.underlying45,rfl⟩ (by omega) (by omega) ?_
    intro A2 c2 u2 Zz
    refine bR hK (iw.out _ Zz.b) fun hS=> ?_
    clear hK K
    refine bK 17 fun K hK=> ?_
    refine Zz.H7 (.tmp 15) (.tmp 19) 95 H_.out HE.out uQ.out rfl rfl ⟨rfl,rfl,Tryz.underlying95,rfl⟩ (by omega) (by omega) ?_
    intro A3 c3 u3 Pm
    refine bR hK (iw.out _ Pm.b) fun hS=> ?_
    clear hK K
    refine ak 18 hS ?_
    refine bK 19 fun K hK=> ?_
    go_simp
    refine bR hK (iw.out _ (Pm.b.trans ((wall _ _).mono Pm.b.size))) fun hS=> ?_
    clear hK K
    refine bK 20 fun K hK=> ?_
    go_simp
    refine j_ hK ?_
    clear hS hK K
    go_wp2_with fail
    go_ret
    simp only[Nat.zero_add,List.nil_append]at Pm⊢
    exact iX.out _ _ _ _ _ _ _ _ _ _ Pm
  case V9=>
   go_simp
   have Wo:=Sb.mF
   try simp only[World.size_alloc]at Wo
   refine bR hK (iw.out _ Wo.b) fun hS=> ?_
   clear hK K
   refine bK 0 fun K hK=> ?_
   go_simp
   have Wp:=Wo.zV
   try simp only[World.size_alloc]at Wp
   refine bR hK (iw.out _ Wp.b) fun hS=> ?_
   clear hK K
   refine bK 5 fun K hK=> ?_
   refine Wp.go1 (.tmp 3) (.tmp 7) 94 O6.out HN.out Bf.out rfl rfl ⟨rfl,rfl,Tryz.underlying94,rfl⟩ (by omega) (by omega) ?_
   intro A1 c1 u1 ZA
   refine bR hK (iw.out _ ZA.b) fun hS=> ?_
   clear hK K
   refine bK 11 fun K hK=> ?_
   refine ZA.go2 (.tmp 9) (.tmp 13) 45 Es.out HD.out HD1.out rfl rfl ⟨rfl,rfl,Tryz.underlying45,rfl⟩ (by omega) (by omega) ?_
   intro A2 c2 u2 ZB
   refine bR hK (iw.out _ ZB.b) fun hS=> ?_
   clear hK K
   refine bK 17 fun K hK=> ?_
   refine ZB.H7 (.tmp 15) (.tmp 19) 95 H_.out HE.out uQ.out rfl rfl ⟨rfl,rfl,Tryz.underlying95,rfl⟩ (by omega) (by omega) ?_
   intro A3 c3 u3 Pn
   refine bR hK (iw.out _ Pn.b) fun hS=> ?_
   clear hK K
   refine ak 18 hS ?_
   refine bK 19 fun K hK=> ?_
   go_simp
   refine bR hK (iw.out _ (Pn.b.trans ((wall _ _).mono Pn.b.size))) fun hS=> ?_
   clear hK K
   refine bK 20 fun K hK=> ?_
   go_simp
   refine j_ hK ?_
   clear hS hK K
   go_wp2_with fail
   go_ret
   simp only[Nat.zero_add,List.nil_append]at Pn⊢
   exact iX.out _ _ _ _ _ _ _ _ _ _ Pn
 case Zd=>
  go_simp
  have Sd:=w_.out.mF
  try simp only[World.size_alloc]at Sd
  refine bR hK (iw.out _ Sd.b) fun hS=> ?_
  clear hK K
  refine qN 0 6 (fun K hK=> ?ZC) fun K hK=> ?ZE
  case ZC=>
   go_simp
   have Sg:=Sd.zV
   try simp only[World.size_alloc]at Sg
   refine bR hK (iw.out _ Sg.b) fun hS=> ?_
   clear hK K
   refine qN 5 6 (fun K hK=> ?ZF) fun K hK=> ?ZG
   case ZF=>
    refine Sg.go1 (.tmp 3) (.tmp 7) 94 O6.out HN.out Bf.out rfl rfl ⟨rfl,rfl,Tryz.underlying94,rfl⟩ (by omega) (by omega) ?_
    intro A1 c1 u1 ZH
    refine bR hK (iw.out _ ZH.b) fun hS=> ?_
    clear hK K
    refine bK 6 fun K hK=> ?_
    go_simp
    have Wq:=ZH.qd
    try simp only[World.size_alloc]at Wq
    refine bR hK (iw.out _ Wq.b) fun hS=> ?_
    clear hK K
    refine bK 11 fun K hK=> ?_
    refine Wq.go2 (.tmp 9) (.tmp 13) 45 Es.out HD.out HD1.out rfl rfl ⟨rfl,rfl,Tryz.underlying45,rfl⟩ (by omega) (by omega) ?_
    intro A2 c2 u2 ZI
    refine bR hK (iw.out _ ZI.b) fun hS=> ?_
    clear hK K
    refine bK 17 fun K hK=> ?_
    refine ZI.H7 (.tmp 15) (.tmp 19) 95 H_.out HE.out uQ.out rfl rfl ⟨rfl,rfl,Tryz.underlying95,rfl⟩ (by omega) (by omega) ?_
    intro A3 c3 u3 Po
    refine bR hK (iw.out _ Po.b) fun hS=> ?_
    clear hK K
    refine ak 18 hS ?_
    refine bK 19 fun K hK=> ?_
    go_simp
    refine bR hK (iw.out _ (Po.b.trans ((wall _ _).mono Po.b.size))) fun hS=> ?_
    clear hK K
    refine bK 20 fun K hK=> ?_
    go_simp
    refine j_ hK ?_
    clear hS hK K
    go_wp2_with fail
    go_ret
    simp only[Nat.zero_add,List.nil_append]at Po⊢
    exact iX.out _ _ _ _ _ _ _ _ _ _ Po
   case ZG=>
    go_simp
    have Ws:=Sg.qd
    try simp only[World.size_alloc]at Ws
    refine bR hK (iw.out _ Ws.b) fun hS=> ?_
    clear hK K
    refine bK 5 fun K hK=> ?_
    refine Ws.go1 (.tmp 3) (.tmp 7) 94 O6.out HN.out Bf.out rfl rfl ⟨rfl,rfl,Tryz.underlying94,rfl⟩ (by omega) (by omega) ?_
    intro A1 c1 u1 ZJ
    refine bR hK (iw.out _ ZJ.b) fun hS=> ?_
    clear hK K
    refine bK 11 fun K hK=> ?_
    refine ZJ.go2 (.tmp 9) (.tmp 13) 45 Es.out HD.out HD1.out rfl rfl ⟨rfl,rfl,Tryz.underlying45,rfl⟩ (by omega) (by omega) ?_
    intro A2 c2 u2 ZK
    refine bR hK (iw.out _ ZK.b) fun hS=> ?_
    clear hK K
    refine bK 17 fun K hK=> ?_
    refine ZK.H7 (.tmp 15) (.tmp 19) 95 H_.out HE.out uQ.out rfl rfl ⟨rfl,rfl,Tryz.underlying95,rfl⟩ (by omega) (by omega) ?_
    intro A3 c3 u3 Pp
    refine bR hK (iw.out _ Pp.b) fun hS=> ?_
    clear hK K
    refine ak 18 hS ?_
    refine bK 19 fun K hK=> ?_
    go_simp
    refine bR hK (iw.out _ (Pp.b.trans ((wall _ _).mono Pp.b.size))) fun hS=> ?_
    clear hK K
    refine bK 20 fun K hK=> ?_
    go_simp
    refine j_ hK ?_
    clear hS hK K
    go_wp2_with fail
    go_ret
    simp only[Nat.zero_add,List.nil_append]at Pp⊢
    exact iX.out _ _ _ _ _ _ _ _ _ _ Pp
  case ZE=>
   go_simp
   have Wt:=Sd.qd
   try simp only[World.size_alloc]at Wt
   refine bR hK (iw.out _ Wt.b) fun hS=> ?_
   clear hK K
   refine bK 0 fun K hK=> ?_
   go_simp
   have Wu:=Wt.zV
   try simp only[World.size_alloc]at Wu
   refine bR hK (iw.out _ Wu.b) fun hS=> ?_
   clear hK K
   refine bK 5 fun K hK=> ?_
   refine Wu.go1 (.tmp 3) (.tmp 7) 94 O6.out HN.out Bf.out rfl rfl ⟨rfl,rfl,Tryz.underlying94,rfl⟩ (by omega) (by omega) ?_
   intro A1 c1 u1 ZL
   refine bR hK (iw.out _ ZL.b) fun hS=> ?_
   clear hK K
   refine bK 11 fun K hK=> ?_
   refine ZL.go2 (.tmp 9) (.tmp 13) 45 Es.out HD.out HD1.out rfl rfl ⟨rfl,rfl,Tryz.underlying45,rfl⟩ (by omega) (by omega) ?_
   intro A2 c2 u2 ZM
   refine bR hK (iw.out _ ZM.b) fun hS=> ?_
   clear hK K
   refine bK 17 fun K hK=> ?_
   refine ZM.H7 (.tmp 15) (.tmp 19) 95 H_.out HE.out uQ.out rfl rfl ⟨rfl,rfl,Tryz.underlying95,rfl⟩ (by omega) (by omega) ?_
   intro A3 c3 u3 Pq
   refine bR hK (iw.out _ Pq.b) fun hS=> ?_
   clear hK K
   refine ak 18 hS ?_
   refine bK 19 fun K hK=> ?_
   go_simp
   refine bR hK (iw.out _ (Pq.b.trans ((wall _ _).mono Pq.b.size))) fun hS=> ?_
   clear hK K
   refine bK 20 fun K hK=> ?_
   go_simp
   refine j_ hK ?_
   clear hS hK K
   go_wp2_with fail
   go_ret
   simp only[Nat.zero_add,List.nil_append]at Pq⊢
   exact iX.out _ _ _ _ _ _ _ _ _ _ Pq
end
theorem Ib {S:aA} {id j:Int} (h:j≠id):gK (cu S id).2 j=gK S j:=by
 unfold cu
 dsimp only
 split
 ·have e:aj j (vw S id)=(aj j S).map fun x=>{x with names:=x.names.filter fun e=> !decide (e.2=id)}:=by
   unfold vw
   rw[eu,if_neg h]
   exact yF (fun x:bq=>{x with names:=x.names.filter fun e=> !decide (e.2=id)}) j S
  unfold gK
  rw[e]
  cases aj j S with
  |none=>rfl
  |some x=>rfl
 ·rfl
theorem Ls (S:aA) (id:Int):gK (cu S id).2 id≠0:=by
 unfold cu
 dsimp only
 split
 ·have e:aj id (vw S id)=none:=by
   unfold vw
   rw[eu,if_pos rfl]
  unfold gK
  rw[e]
  decide
 ·assumption
theorem tT:∀(L:List Int) (S:aA) (j:Int),(j∈L∨gK S j≠0)→gK (L.foldl (fun S id=>(cu S id).2) S) j≠0
 |[],S,j,h=>by
  rcases h with h|h
  ·cases h
  ·exact h
 |a::r,S,j,h=>by
  rw[List.foldl_cons]
  refine tT r _ j ?_
  by_cases hja:j=a
  ·subst hja
   exact .inr (Ls S j)
  ·rcases h with h|h
   ·rcases List.mem_cons.1 h with h|h
    ·exact absurd h hja
    ·exact .inl h
   ·exact .inr (by rw[Ib hja];exact h)
theorem Dj {T:aA} {id:Int} {x:bq} (h:aj id T=some x) (hc:x.closed=true):gK T id≠0:=by
 unfold gK
 rw[h]
 simp only[hc,if_true]
 split<;>decide
theorem xP {T:aA} {k:Nat} {id:Int} (h:(iW T)[k]? =some id) (hc:gK T id≠0):aQ T (k+1)=aQ T k:=by
 rw[g_ h]
 have h1:gK (aQ T k) id≠0:=tT _ T id (.inr hc)
 unfold cu
 rw[if_neg h1]
theorem iY.remark {o o':Mark} {j k:Nat} {w:World} {r:Nat} {T:aA} (h:iY o j w r T) (h1:∀b,b<w.heap.size→o b=j→o' b=k) (h2:∀b,b<w.heap.size→o b=0→o' b=0):iY o' k w r T:=by
 obtain⟨F,hR,hr,hF⟩:=h
 exact⟨F,hR,h1 r (hR.low r hR.own) hr,fun b hb hbr=>h2 b (hR.low b hb) (hF b hb hbr)⟩
section
variable {W w:World} {o:Mark} {i r:Nat} {T:aA}
theorem Si (h:iY o i w r T) (hM:Marks W o w) (hT:eH T) (j:Nat):
  Calls Tryz.prog 141 #[ptr r] w fun e w'=>∃q o',e= .returned (ptr q)∧Step o (fun k=>k=j) w o' w'∧iY o' j w' q T∧Below w.heap.size w w':=by
 obtain⟨F,hR,hr,hF⟩:=h
 have Ky:=nG hT
 have hlen:=hT.len
 refine(Lm w hR hlen (by rw[List.length_map];exact hlen) (by omega)).mono ?_
 rintro e w' ⟨q,rfl,hq,hb,hR'⟩
 have hqw:q<w'.heap.size:=hR'.low q (by exact hR'.own)
 obtain⟨o',hs,h1,h2⟩:=jd hM j (fun b=>b=q) (fun b hb'=>by subst hb';exact⟨hq,hqw⟩) hb
 refine⟨q,o',rfl,hs,⟨_,hR',h1 q rfl,fun b hb' hbq=> ?_⟩,hb⟩
 rw[h2 b hbq]
 rcases hb' with hb'|hb'
 ·exact hF b hb'.1 hb'.2
 ·exact Decidable.byContradiction fun h0=>by have:=(hM.new b h0).2;omega
theorem iY.node (h:iY o i w r T) {k:Nat} {q:Int×bq} (hq:T[k]? =some q):∃b off c,w.cell? ⟨r,0,none⟩=some (.slice (some ⟨b,off,none⟩) T.length c)∧w.cell? ⟨b,off+k*6,none⟩=some (.int .i64 q.1)∧w.cell? ⟨b,off+k*6+1,none⟩=some (.int .i64 q.2.kind)∧w.cell? ⟨b,off+k*6+2,none⟩=some (.int .i64 q.2.links)∧w.cell? ⟨b,off+k*6+3,none⟩=some (.int .i64 q.2.b.length)∧w.cell? ⟨b,off+k*6+4,none⟩=some (.int .u64 q.2.aP)∧w.cell? ⟨b,off+k*6+5,none⟩=some (.bool q.2.closed):=by
 obtain⟨F,hR,hr,hF⟩:=h
 obtain⟨b,off,c,h1,-,-,-,h2⟩:=hR.node hq
 exact⟨b,off,c,h1,h2⟩
theorem iY.nodes (h:iY o i w r T):∃a c,w.cell? ⟨r,0,none⟩=some (.slice a T.length c):=by
 obtain⟨F,hR,hr,hF⟩:=h
 obtain⟨a,c,h1,-⟩:=hR.nodes
 exact⟨a,c,h1⟩
set_option maxRecDepth 100000 in
set_option maxHeartbeats 4000000 in
theorem zW (h:iY o i w r T) (hM:Marks W o w) (hT:eH T) (j:Nat) (hj:j≠0) (hij:i≠j) (hf:∀b,o b≠j):
  Calls Tryz.prog 89 #[ptr r] w fun e w'=>∃q o',e= .returned (ptr q)∧Step o (fun i=>i=j) w o' w'∧iY o' j w' q (bf T)∧Below w.heap.size w w':=by
 have X4:=Lib.hid (Si h hM hT j)
 have HM:=Lib.hid hM
 have HT:=Lib.hid hT
 have HJ:=Lib.hid hj
 have HF:=Lib.hid hf
 have HIJ:=Lib.hid hij
 have Vv:=Lib.hid h
 have Yp:=hT.len
 clear h hM hT hj hf hij
 go_enter Tryz.func89,Tryz.ntmps89
 go_wp2_with fail
 (with_reducible refine X4.out.mono ?_)
 rintro e w1 ⟨q,o1,rfl,hs1,hT1,hb1⟩
 have pK:=Lib.hid hs1
 have vR:=Lib.hid (HM.out.step (fun e=>HJ.out e.symm) hs1)
 have HT1:=Lib.hid hT1
 have HR1:=Lib.hid (Vv.out.step (fun e=>HJ.out e.symm) (fun e=>HIJ.out e) hs1)
 clear hs1 hT1 hb1
 obtain⟨tl,htl⟩:∃tl,tl=T.length:=⟨_,rfl⟩
 rw[←htl]at Yp
 have Bb:=Lib.hid htl
 clear htl
 go_wp2_with fail
 go_loopw [4] (fun iv wr=>∃(k:Nat) (o2:Mark),iv= .int .i64 k∧k≤tl∧Step o (fun i=>i=j) w o2 wr∧iY o2 j wr q (aQ T k)∧iY o2 i wr r T) (fun iv _=>tl-(intOf iv).toNat)
 case atStart=>
  exact⟨0,o1,rfl,Nat.zero_le _,pK.out,by rw[iR];exact HT1.out,HR1.out⟩
 case round=>
  obtain⟨k,o2,rfl,hk,hs,Yq,Bc⟩:=hrel
  have HS:=Lib.hid hs
  have DV:=Lib.hid Yq
  have F4:=Lib.hid Bc
  obtain⟨a0,p0,hc0⟩:=Bc.nodes
  rw[←Bb.out]at hc0
  clear hs Yq Bc
  by_cases hlt:k<tl
  ·have hd:decide (k<tl)=true:=by simpa using hlt
   obtain⟨y,hy⟩:∃y,T[k]? =some y:=⟨T[k]'(by rw[←Bb.out];exact hlt),List.getElem?_eq_getElem _⟩
   obtain⟨b,off,c,hc0',d0,d1,d2,d3,d4,d5⟩:=F4.out.node hy
   rw[←Bb.out,hc0]at hc0'
   simp only[Option.some.injEq,Value.slice.injEq,true_and]at hc0'
   obtain⟨rfl,rfl⟩:=hc0'
   have hid:(iW T)[k]? =some y.1:=by unfold iW;rw[List.getElem?_map,hy];rfl
   have hyx:aj y.1 T=some y.2:=aI bH HT.out.sorted (List.mem_of_getElem? hy)
   have HDR:=Lib.hid (R7 DV.out (HM.out.step (fun e=>HJ.out e.symm) HS.out) (HT.out.aQ k) y.1)
   have i0:(0:Int)≤(k:Int):=by omega
   have i1:(k:Int)<(tl:Int):=by omega
   have RA:=Lib.hid hid
   have HYX:=Lib.hid hyx
   clear hid hy hyx d1 d2 d3 d4
   cases hcl:y.2.closed with
   |true=>
    rw[hcl]at d5
    have QF:=Lib.hid hcl
    clear hcl
    go_wp2_with fail
    go_roundw
    case rel=>
     refine⟨k+1,o2,by go_num,by omega,HS.out,?_,F4.out⟩
     rw[xP RA.out (Dj HYX.out QF.out)]
     exact DV.out
    case measure=>simp[intOf];omega
   |false=>
    rw[hcl]at d5
    clear hcl
    go_wp2_with fail
    (with_reducible refine HDR.out.mono ?_)
    rintro e w3 ⟨rfl,o3,hs3,TR⟩
    have xG:=Lib.hid (HS.out.trans hs3)
    have HT3:=Lib.hid TR
    have HR3:=Lib.hid (F4.out.step (fun e=>HJ.out e.symm) (fun e=>HIJ.out e) hs3)
    clear hs3 TR HDR
    go_wp2_with fail
    go_roundw
    case rel=>
     refine⟨k+1,o3,by go_num,by omega,xG.out,?_,HR3.out⟩
     rw[g_ RA.out]
     exact HT3.out
    case measure=>simp[intOf];omega
  ·have hd:decide (k<tl)=false:=by simp;omega
   have HKT:=Lib.hid (show tl=k by omega)
   clear hlt
   go_wp2_with fail
   go_ret
   have h9:=DV.out
   rw[←HKT.out,Bb.out,ji]at h9
   refine⟨q,o2,rfl,HS.out,h9,?_⟩
   exact HS.out.keep.fD (Nat.le_refl _) fun x _ hx=>HF.out x hx
theorem zX (h:iY o i w r T) (hM:Marks W o w) (hT:eH T):
  Calls Tryz.prog 89 #[ptr r] w fun e w'=>∃q,e= .returned (ptr q)∧iY o 0 w' q (bf T)∧Below w.heap.size w w':=by
 obtain⟨j,hj,hf⟩:=ze hM
 have hij:i≠j:=by
  obtain⟨F,hR,hr,hF⟩:=h
  exact fun e=>hf r (hr.trans e)
 refine(zW h hM hT j hj hij hf).mono ?_
 rintro e w' ⟨q,o',rfl,hs,hT',hb⟩
 refine⟨q,rfl,hT'.remark (fun b hb' he=> ?_) (fun b hb' he=> ?_),hb⟩
 ·by_cases hlt:b<w.heap.size
  ·rw[hs.old b hlt]at he;exact absurd he (hf b)
  ·exact Decidable.byContradiction fun h0=>by have:=(hM.new b h0).2;omega
 ·by_cases hlt:b<w.heap.size
  ·rw[hs.old b hlt]at he;exact he
  ·exact Decidable.byContradiction fun h0=>by have:=(hM.new b h0).2;omega
end
end Go.Proofs.YtjnhnlabpccgjaaGreat
