/- The -/
import Derived.Test.YthillkfmdndedaaGreatDoorM43
set_option maxRecDepth 100000
set_option maxHeartbeats 64000000
set_option linter.all false
namespace Go.Proofs.YthillkfmdndedaaGreatDoor
open Go.ChangeShapes Go.WideShapes Go.ChangeAt Go.RowKit
def Apart(a b:Value):Prop:=∀g,a.ownBlock=some g->b.ownBlock≠some g
theorem Apart.symm{a b:Value}(h:Apart a b):Apart b a:=λ g u m=>h g m u
theorem Cq(a:Value):Apart a (.slice none 0 0):=λ g _ h=>by simp[Value.ownBlock]at h
structure yx(t1 t2 t3:TypeId)(k1 k2 k3:Nat)(w u:World)(v1:Value)(n1:Nat)(x1:List Value)(v2:Value)(n2:Nat)(x2:List Value)(v3:Value)(n3:Nat)(x3:List Value):Prop where
 o1:u.ownsRow w.heap.size t1 k1 v1 n1 x1
 o2:u.ownsRow w.heap.size t2 k2 v2 n2 x2
 o3:u.ownsRow w.heap.size t3 k3 v3 n3 x3
 d12:Apart v1 v2
 d13:Apart v1 v3
 d23:Apart v2 v3
 b:Below w.heap.size w u
section
variable{t1 t2 t3:TypeId}{k1 k2 k3:Nat}{w u u':World}{v1 v2 v3 v':Value}{n1 n2 n3 n':Nat}{x1 x2 x3 x':List Value}
theorem sN{B k n:Nat}{t:TypeId}{v:Value}{xs:List Value}(h:u.ownsRow B t k v n xs)(o:Obj):(u.alloc o).ownsRow B t k v n xs:=bK h λ b _ m=>Below.heap_alloc u o b m
theorem pX{B k n:Nat}{t:TypeId}{v:Value}{xs:List Value}(h:u.ownsRow B t k v n xs):Apart (.slice (some ⟨u.heap.size,0,none⟩) 0 0) v:=λ g y m=>by
 have z:=iK h g m;simp[Value.ownBlock]at y;omega
theorem yx.start(w:World):yx t1 t2 t3 k1 k2 k3 w w.drew (.slice none 0 0) 0 [] (.slice none 0 0) 0 [] (.slice none 0 0) 0 []:=
 ⟨⟨by simp,.inl ⟨rfl,rfl⟩⟩,⟨by simp,.inl ⟨rfl,rfl⟩⟩,⟨by simp,.inl ⟨rfl,rfl⟩⟩,Cq _,Cq _,Cq _,acu.drew⟩
theorem yx.Cr(h:yx t1 t2 t3 k1 k2 k3 w u v1 n1 x1 v2 n2 x2 v3 n3 x3):yx t1 t2 t3 k1 k2 k3 w (u.alloc (.cells #[] t1)) (.slice (some ⟨u.heap.size,0,none⟩) 0 0) 0 [] v2 n2 x2 v3 n3 x3:=
 ⟨sD (MapKept.heap_alloc u _).1 h.b.size,sN h.o2 _,sN h.o3 _,pX h.o2,pX h.o3,h.d23,h.b.trans ((wall u _).mono h.b.size)⟩
theorem yx.jQ(h:yx t1 t2 t3 k1 k2 k3 w u v1 n1 x1 v2 n2 x2 v3 n3 x3):yx t1 t2 t3 k1 k2 k3 w (u.alloc (.cells #[] t2)) v1 n1 x1 (.slice (some ⟨u.heap.size,0,none⟩) 0 0) 0 [] v3 n3 x3:=
 ⟨sN h.o1 _,sD (MapKept.heap_alloc u _).1 h.b.size,sN h.o3 _,(pX h.o1).symm,h.d13,pX h.o3,h.b.trans ((wall u _).mono h.b.size)⟩
theorem yx.ny(h:yx t1 t2 t3 k1 k2 k3 w u v1 n1 x1 v2 n2 x2 v3 n3 x3):yx t1 t2 t3 k1 k2 k3 w (u.alloc (.cells #[] t3)) v1 n1 x1 v2 n2 x2 (.slice (some ⟨u.heap.size,0,none⟩) 0 0) 0 []:=
 ⟨sN h.o1 _,sN h.o2 _,sD (MapKept.heap_alloc u _).1 h.b.size,h.d12,(pX h.o1).symm,(pX h.o2).symm,h.b.trans ((wall u _).mono h.b.size)⟩
theorem pY{B k n:Nat}{t:TypeId}{v own:Value}{xs:List Value}(h:u.ownsRow B t k v n xs)(A:u.grownBy u' own.ownBlock)(y:Apart own v):u'.ownsRow B t k v n xs:=
 bK h λ b z m=>A.block b m λ e=>y b e.symm z
theorem mM{B k n:Nat}{t:TypeId}{v own:Value}{xs:List Value}(h:u.ownsRow B t k v n xs)(A:Apart own v)(m:v'.ownBlock=own.ownBlock\/v'.ownBlock=some u.heap.size):Apart v' v:=λ g y z=>by
 rcases m with e|e
 ·exact A g (e▸y) z
 ·have C:=iK h g z;rw[e]at y;cases y;omega
theorem below_grown{B:Nat}{own:Value}{k n:Nat}{t:TypeId}{xs:List Value}(y:Below w.heap.size w u)(h:u.ownsRow w.heap.size t k own n xs)(m:u.grownBy u' own.ownBlock):Below w.heap.size w u':=
 y.trans ⟨m.os,m.tape,m.output,m.size,λ b z=>m.block b (by have:=y.size;omega) λ e=>by have:=aZ h b e.symm;omega⟩
theorem yx.app1(h:yx t1 t2 t3 k1 k2 k3 w u v1 n1 x1 v2 n2 x2 v3 n3 x3)(z:u'.ownsRow w.heap.size t1 k1 v' n' x')(y:u.grownBy u' v1.ownBlock)(m:v'.ownBlock=v1.ownBlock\/v'.ownBlock=some u.heap.size):yx t1 t2 t3 k1 k2 k3 w u' v' n' x' v2 n2 x2 v3 n3 x3:=
 ⟨z,pY h.o2 y h.d12,pY h.o3 y h.d13,mM h.o2 h.d12 m,mM h.o3 h.d13 m,h.d23,below_grown (B:=0) h.b h.o1 y⟩
theorem yx.app2(h:yx t1 t2 t3 k1 k2 k3 w u v1 n1 x1 v2 n2 x2 v3 n3 x3)(z:u'.ownsRow w.heap.size t2 k2 v' n' x')(y:u.grownBy u' v2.ownBlock)(m:v'.ownBlock=v2.ownBlock\/v'.ownBlock=some u.heap.size):yx t1 t2 t3 k1 k2 k3 w u' v1 n1 x1 v' n' x' v3 n3 x3:=
 ⟨pY h.o1 y h.d12.symm,z,pY h.o3 y h.d23,(mM h.o1 h.d12.symm m).symm,h.d13,mM h.o3 h.d23 m,below_grown (B:=0) h.b h.o2 y⟩
theorem yx.app3(h:yx t1 t2 t3 k1 k2 k3 w u v1 n1 x1 v2 n2 x2 v3 n3 x3)(z:u'.ownsRow w.heap.size t3 k3 v' n' x')(y:u.grownBy u' v3.ownBlock)(m:v'.ownBlock=v3.ownBlock\/v'.ownBlock=some u.heap.size):yx t1 t2 t3 k1 k2 k3 w u' v1 n1 x1 v2 n2 x2 v' n' x':=
 ⟨pY h.o1 y h.d13.symm,pY h.o2 y h.d23.symm,z,h.d12,(mM h.o1 h.d13.symm m).symm,(mM h.o2 h.d23.symm m).symm,below_grown (B:=0) h.b h.o3 y⟩
theorem yx.go1{P:Program}{S:Nat->Prop}{M:Array Oper}{o:Oper}{a:Act}{K:Act->World->Prop}{Q:Exit->Act->World->Prop}{E:Prop}{i:TypeInfo}{z:Value}{I m c:Nat}{A:Mx}{B:List Value}(h:yx t1 t2 t3 k1 k2 k3 w u v1 0 [] v2 n2 x2 v3 n3 x3)(s y:Operand)(t:TypeId)
  (D:P.info? t1=some i/\i.zero=some z/\i.size=k1/\i.bytes=I)(R:ah S w A (m*k1) B)(J:∀u∈B,u.oneCell'=true)(U:a.eval y= .slice A m c)(V:a.eval s=v1)(F:o.guard=none/\o.op= .call {callee:= .builtin .append,args:= #[s,y],argTypes:= #[t,t]}/\P.underlying t=some (.slice t1)/\z.cells.size=k1)
  (O:0<k1)(N:m<=4194240/\I<=48)
  (W:∀A' c' u',yx t1 t2 t3 k1 k2 k3 w u' (.slice A' (0+m) c') (0+m) ([]++B) v2 n2 x2 v3 n3 x3->K (a.put o.dst (.slice A' (0+m) c')) u'):if Region.wanted o (yielded M a.tmps)=true then Oper.wp P o a u K Q else E:=by
 refine dZ F.1 s y t F.2.1 w.heap.size t1 i z k1 I F.2.2.1 D.1 D.2.1 D.2.2.1 D.2.2.2 F.2.2.2 O v1 0 [] V h.o1 A m c B U (R.below h.b acs) J (by unfold maxLen;omega) ?_ h.b.size ?_
 ·have:=Nat.mul_le_mul (show 0+m<=4194240 by omega) N.2;omega
 ·intro A' c' u' C G H;exact W A' c' u' (h.app1 C G H)
theorem yx.go2{P:Program}{S:Nat->Prop}{M:Array Oper}{o:Oper}{a:Act}{K:Act->World->Prop}{Q:Exit->Act->World->Prop}{E:Prop}{i:TypeInfo}{z:Value}{I m c:Nat}{A:Mx}{B:List Value}(h:yx t1 t2 t3 k1 k2 k3 w u v1 n1 x1 v2 0 [] v3 n3 x3)(s y:Operand)(t:TypeId)
  (D:P.info? t2=some i/\i.zero=some z/\i.size=k2/\i.bytes=I)(R:ah S w A (m*k2) B)(J:∀u∈B,u.oneCell'=true)(U:a.eval y= .slice A m c)(V:a.eval s=v2)(F:o.guard=none/\o.op= .call {callee:= .builtin .append,args:= #[s,y],argTypes:= #[t,t]}/\P.underlying t=some (.slice t2)/\z.cells.size=k2)
  (O:0<k2)(N:m<=4194240/\I<=48)
  (W:∀A' c' u',yx t1 t2 t3 k1 k2 k3 w u' v1 n1 x1 (.slice A' (0+m) c') (0+m) ([]++B) v3 n3 x3->K (a.put o.dst (.slice A' (0+m) c')) u'):if Region.wanted o (yielded M a.tmps)=true then Oper.wp P o a u K Q else E:=by
 refine dZ F.1 s y t F.2.1 w.heap.size t2 i z k2 I F.2.2.1 D.1 D.2.1 D.2.2.1 D.2.2.2 F.2.2.2 O v2 0 [] V h.o2 A m c B U (R.below h.b acs) J (by unfold maxLen;omega) ?_ h.b.size ?_
 ·have:=Nat.mul_le_mul (show 0+m<=4194240 by omega) N.2;omega
 ·intro A' c' u' C G H;exact W A' c' u' (h.app2 C G H)
theorem yx.Qr{P:Program}{S:Nat->Prop}{M:Array Oper}{o:Oper}{a:Act}{K:Act->World->Prop}{Q:Exit->Act->World->Prop}{E:Prop}{i:TypeInfo}{z:Value}{I m c:Nat}{A:Mx}{B:List Value}(h:yx t1 t2 t3 k1 k2 k3 w u v1 n1 x1 v2 n2 x2 v3 0 [])(s y:Operand)(t:TypeId)
  (D:P.info? t3=some i/\i.zero=some z/\i.size=k3/\i.bytes=I)(R:ah S w A (m*k3) B)(J:∀u∈B,u.oneCell'=true)(U:a.eval y= .slice A m c)(V:a.eval s=v3)(F:o.guard=none/\o.op= .call {callee:= .builtin .append,args:= #[s,y],argTypes:= #[t,t]}/\P.underlying t=some (.slice t3)/\z.cells.size=k3)
  (O:0<k3)(N:m<=4194240/\I<=48)
  (W:∀A' c' u',yx t1 t2 t3 k1 k2 k3 w u' v1 n1 x1 v2 n2 x2 (.slice A' (0+m) c') (0+m) ([]++B)->K (a.put o.dst (.slice A' (0+m) c')) u'):if Region.wanted o (yielded M a.tmps)=true then Oper.wp P o a u K Q else E:=by
 refine dZ F.1 s y t F.2.1 w.heap.size t3 i z k3 I F.2.2.1 D.1 D.2.1 D.2.2.1 D.2.2.2 F.2.2.2 O v3 0 [] V h.o3 A m c B U (R.below h.b acs) J (by unfold maxLen;omega) ?_ h.b.size ?_
 ·have:=Nat.mul_le_mul (show 0+m<=4194240 by omega) N.2;omega
 ·intro A' c' u' C G H;exact W A' c' u' (h.app3 C G H)
end
def I9(w:World)(e:Ending)(w':World):Prop:=∃q,e= .returned (ptr q)/\Below w.heap.size w w'
theorem jS{w u:World}{F C v3:Value}{y A z:Nat}{B D E:List Value}(o:Obj)(m:yx 36 30 324 6 1 3 w u F y B C A D v3 z E):I9 w (.returned (ptr u.heap.size)) (u.alloc o):=
 ⟨_,rfl,m.b.trans ((wall u o).mono m.b.size)⟩
theorem U3:(Tryz.prog.info? 36).map (λ i=>(i.zero,i.size,i.bytes))=some (some (.agg #[.int .i64 0,.int .i64 0,.int .i64 0,.int .i64 0,.int .u64 0,.bool false]),6,48):=by kernel_rfl
theorem U4:(Tryz.prog.info? 30).map (λ i=>(i.zero,i.size,i.bytes))=some (some (.slice none 0 0),1,24):=by kernel_rfl
theorem Y_:(Tryz.prog.info? 324).map (λ i=>(i.zero,i.size,i.bytes))=some (some (.agg #[.int .i64 0,.string ⟨#[]⟩,.int .i64 0]),3,32):=by kernel_rfl
theorem rcopyL(w:World)(r:Nat)(mY:r<w.heap.size){S1 S2 S3:Nat->Prop}{aN aD aE:Mx}{n1 n2 n3 cN cD cE:Nat}{x1 x2 x3:List Value}(h1:w.heap[r]? =some (.cells #[.slice aN n1 cN,.slice aD n2 cD,.slice aE n3 cE] 270 (0,0)))
  (hN:ah S1 w aN (n1*6) x1)(hD:ah S2 w aD (n2*1) x2)(hE:ah S3 w aE (n3*3) x3)(mo:∀u∈x1,u.oneCell'=true)(mU:∀u∈x2,u.oneCell'=true)(mR:∀u∈x3,u.oneCell'=true)(hn:n1<=64)(hd:n2<=64)(he:n3<=64):Dy 184 #[ptr r] w (I9 w):=by
 obtain⟨iN,mq⟩:∃i,Tryz.prog.info? 36=some i/\i.zero=some (.agg #[.int .i64 0,.int .i64 0,.int .i64 0,.int .i64 0,.int .u64 0,.bool false])/\i.size=6/\i.bytes=48:=aaq U3;obtain⟨iD,mQ⟩:∃i,Tryz.prog.info? 30=some i/\i.zero=some (.slice none 0 0)/\i.size=1/\i.bytes=24:=aaq U4;obtain⟨iE,l9⟩:∃i,Tryz.prog.info? 324=some i/\i.zero=some (.agg #[.int .i64 0,.string ⟨#[]⟩,.int .i64 0])/\i.size=3/\i.bytes=32:=aaq Y_;have z:acr (∀w',Below w.heap.size w w'->w'.cell? ⟨r,0,none⟩=some (.slice aN n1 cN)/\w'.cell? ⟨r,1,none⟩=some (.slice aD n2 cD)/\w'.cell? ⟨r,2,none⟩=some (.slice aE n3 cE)):=λ w' hb=>by
  have h2:=(hb.block r mY).trans h1;refine⟨?_,?_,?_⟩<;>simp[World.cell?,h2]
 have HN:=acp hN;have F:=acp hD;have E:=acp hE;have Za:=acp mq;have D:=acp mQ;have B:=acp l9;have u_:=acp mo;have A:=acp mU;have C:=acp mR;have gM:=acp (yx.start (t1:=36) (t2:=30) (t3:=324) (k1:=6) (k2:=1) (k3:=3) w);clear h1 hN hD hE mo mU mR mq mQ l9;go_enter Tryz.func184,Tryz.ntmps184;go_wp2_with fail;refine vJ 20 ((λ w'=>w'.cell? ⟨r,0,none⟩=some (.slice aN n1 cN)/\w'.cell? ⟨r,1,none⟩=some (.slice aD n2 cD)/\w'.cell? ⟨r,2,none⟩=some (.slice aE n3 cE))) ?_ λ y=> ?_
 ·exact z.o _ gM.o.b
 refine aO 1 y ?_;refine aO 2 y ?_;refine aO 3 y ?_;refine aO 4 y ?_;refine aO 7 y ?_;refine aO 8 y ?_;refine aO 9 y ?_;refine aO 10 y ?_;refine aO 13 y ?_;refine aO 14 y ?_;refine aO 15 y ?_;refine aO 16 y ?_;refine rdL3 0 6 12 (λ K m=> ?g1_0) (λ K m=> ?g1_6) λ K m=> ?g1_12
 case g1_0=>
  go_simp;have fT:=gM.o.Cr
  try simp only[Pe]at fT
  refine b_ m (z.o _ fT.b) λ y=> ?_;clear m K;refine rdL3 5 6 12 (λ K m=> ?g4_5) (λ K m=> ?g4_6) λ K m=> ?g4_12
  case g4_5=>
   refine fT.go1 (.tmp 3) (.tmp 7) 267 Za.o HN.o u_.o rfl rfl ⟨rfl,rfl,aaR,rfl⟩ (by omega) (by omega) ?_;intro A1 c1 u1 l8;refine b_ m (z.o _ l8.b) λ y=> ?_;clear m K;refine nK 6 12 (λ K m=> ?g7_6) λ K m=> ?g7_12
   case g7_6=>
    go_simp;have gL:=l8.jQ
    try simp only[Pe]at gL
    refine b_ m (z.o _ gL.b) λ y=> ?_;clear m K;refine nK 11 12 (λ K m=> ?g10_11) λ K m=> ?g10_12
    case g10_11=>
     refine gL.go2 (.tmp 9) (.tmp 13) 232 D.o F.o A.o rfl rfl ⟨rfl,rfl,Tryz.underlying232,rfl⟩ (by omega) (by omega) ?_;intro O c2 J jL;refine b_ m (z.o _ jL.b) λ y=> ?_;clear m K;refine cu 12 λ K m=> ?_;go_simp;have aH:=jL.ny
     try simp only[Pe]at aH
     refine b_ m (z.o _ aH.b) λ y=> ?_;clear m K;refine cu 17 λ K m=> ?_;refine aH.Qr (.tmp 15) (.tmp 19) 268 B.o E.o C.o rfl rfl ⟨rfl,rfl,aaC,rfl⟩ (by omega) (by omega) ?_;intro A3 c3 u3 aC;refine b_ m (z.o _ aC.b) λ y=> ?_;clear m K;refine aO 18 y ?_;refine cu 19 λ K m=> ?_;go_simp;refine b_ m (z.o _ (aC.b.trans ((wall _ _).mono aC.b.size))) λ y=> ?_;clear m K;refine cu 20 λ K m=> ?_;go_simp;refine o_ m ?_;clear y m K;go_wp2_with fail;go_ret;exact jS _ aC
    case g10_12=>
     go_simp;have d9:=gL.ny
     try simp only[Pe]at d9
     refine b_ m (z.o _ d9.b) λ y=> ?_;clear m K;refine cu 11 λ K m=> ?_;refine d9.go2 (.tmp 9) (.tmp 13) 232 D.o F.o A.o rfl rfl ⟨rfl,rfl,Tryz.underlying232,rfl⟩ (by omega) (by omega) ?_;intro O c2 J jw;refine b_ m (z.o _ jw.b) λ y=> ?_;clear m K;refine cu 17 λ K m=> ?_;refine jw.Qr (.tmp 15) (.tmp 19) 268 B.o E.o C.o rfl rfl ⟨rfl,rfl,aaC,rfl⟩ (by omega) (by omega) ?_;intro A3 c3 u3 Q;refine b_ m (z.o _ Q.b) λ y=> ?_;clear m K;refine aO 18 y ?_;refine cu 19 λ K m=> ?_;go_simp;refine b_ m (z.o _ (Q.b.trans ((wall _ _).mono Q.b.size))) λ y=> ?_;clear m K;refine cu 20 λ K m=> ?_;go_simp;refine o_ m ?_;clear y m K;go_wp2_with fail;go_ret;exact jS _ Q
   case g7_12=>
    go_simp;have cB:=l8.ny
    try simp only[Pe]at cB
    refine b_ m (z.o _ cB.b) λ y=> ?_;clear m K;refine cu 6 λ K m=> ?_;go_simp;have bn:=cB.jQ
    try simp only[Pe]at bn
    refine b_ m (z.o _ bn.b) λ y=> ?_;clear m K;refine cu 11 λ K m=> ?_;refine bn.go2 (.tmp 9) (.tmp 13) 232 D.o F.o A.o rfl rfl ⟨rfl,rfl,Tryz.underlying232,rfl⟩ (by omega) (by omega) ?_;intro O c2 J kW;refine b_ m (z.o _ kW.b) λ y=> ?_;clear m K;refine cu 17 λ K m=> ?_;refine kW.Qr (.tmp 15) (.tmp 19) 268 B.o E.o C.o rfl rfl ⟨rfl,rfl,aaC,rfl⟩ (by omega) (by omega) ?_;intro A3 c3 u3 U;refine b_ m (z.o _ U.b) λ y=> ?_;clear m K;refine aO 18 y ?_;refine cu 19 λ K m=> ?_;go_simp;refine b_ m (z.o _ (U.b.trans ((wall _ _).mono U.b.size))) λ y=> ?_;clear m K;refine cu 20 λ K m=> ?_;go_simp;refine o_ m ?_;clear y m K;go_wp2_with fail;go_ret;exact jS _ U
  case g4_6=>
   go_simp;have R:=fT.jQ
   try simp only[Pe]at R
   refine b_ m (z.o _ R.b) λ y=> ?_;clear m K;refine nK 5 12 (λ K m=> ?g23_5) λ K m=> ?g23_12
   case g23_5=>
    refine R.go1 (.tmp 3) (.tmp 7) 267 Za.o HN.o u_.o rfl rfl ⟨rfl,rfl,aaR,rfl⟩ (by omega) (by omega) ?_;intro A1 c1 u1 bS;refine b_ m (z.o _ bS.b) λ y=> ?_;clear m K;refine nK 11 12 (λ K m=> ?g26_11) λ K m=> ?g26_12
    case g26_11=>
     refine bS.go2 (.tmp 9) (.tmp 13) 232 D.o F.o A.o rfl rfl ⟨rfl,rfl,Tryz.underlying232,rfl⟩ (by omega) (by omega) ?_;intro O c2 J jG;refine b_ m (z.o _ jG.b) λ y=> ?_;clear m K;refine cu 12 λ K m=> ?_;go_simp;have bD:=jG.ny
     try simp only[Pe]at bD
     refine b_ m (z.o _ bD.b) λ y=> ?_;clear m K;refine cu 17 λ K m=> ?_;refine bD.Qr (.tmp 15) (.tmp 19) 268 B.o E.o C.o rfl rfl ⟨rfl,rfl,aaC,rfl⟩ (by omega) (by omega) ?_;intro A3 c3 u3 aF;refine b_ m (z.o _ aF.b) λ y=> ?_;clear m K;refine aO 18 y ?_;refine cu 19 λ K m=> ?_;go_simp;refine b_ m (z.o _ (aF.b.trans ((wall _ _).mono aF.b.size))) λ y=> ?_;clear m K;refine cu 20 λ K m=> ?_;go_simp;refine o_ m ?_;clear y m K;go_wp2_with fail;go_ret;exact jS _ aF
    case g26_12=>
     go_simp;have bq:=bS.ny
     try simp only[Pe]at bq
     refine b_ m (z.o _ bq.b) λ y=> ?_;clear m K;refine cu 11 λ K m=> ?_;refine bq.go2 (.tmp 9) (.tmp 13) 232 D.o F.o A.o rfl rfl ⟨rfl,rfl,Tryz.underlying232,rfl⟩ (by omega) (by omega) ?_;intro O c2 J jc;refine b_ m (z.o _ jc.b) λ y=> ?_;clear m K;refine cu 17 λ K m=> ?_;refine jc.Qr (.tmp 15) (.tmp 19) 268 B.o E.o C.o rfl rfl ⟨rfl,rfl,aaC,rfl⟩ (by omega) (by omega) ?_;intro A3 c3 u3 av;refine b_ m (z.o _ av.b) λ y=> ?_;clear m K;refine aO 18 y ?_;refine cu 19 λ K m=> ?_;go_simp;refine b_ m (z.o _ (av.b.trans ((wall _ _).mono av.b.size))) λ y=> ?_;clear m K;refine cu 20 λ K m=> ?_;go_simp;refine o_ m ?_;clear y m K;go_wp2_with fail;go_ret;exact jS _ av
   case g23_12=>
    go_simp;have dn:=R.ny
    try simp only[Pe]at dn
    refine b_ m (z.o _ dn.b) λ y=> ?_;clear m K;refine cu 5 λ K m=> ?_;refine dn.go1 (.tmp 3) (.tmp 7) 267 Za.o HN.o u_.o rfl rfl ⟨rfl,rfl,aaR,rfl⟩ (by omega) (by omega) ?_;intro A1 c1 u1 iM;refine b_ m (z.o _ iM.b) λ y=> ?_;clear m K;refine cu 11 λ K m=> ?_;refine iM.go2 (.tmp 9) (.tmp 13) 232 D.o F.o A.o rfl rfl ⟨rfl,rfl,Tryz.underlying232,rfl⟩ (by omega) (by omega) ?_;intro O c2 J l6;refine b_ m (z.o _ l6.b) λ y=> ?_;clear m K;refine cu 17 λ K m=> ?_;refine l6.Qr (.tmp 15) (.tmp 19) 268 B.o E.o C.o rfl rfl ⟨rfl,rfl,aaC,rfl⟩ (by omega) (by omega) ?_;intro A3 c3 u3 S;refine b_ m (z.o _ S.b) λ y=> ?_;clear m K;refine aO 18 y ?_;refine cu 19 λ K m=> ?_;go_simp;refine b_ m (z.o _ (S.b.trans ((wall _ _).mono S.b.size))) λ y=> ?_;clear m K;refine cu 20 λ K m=> ?_;go_simp;refine o_ m ?_;clear y m K;go_wp2_with fail;go_ret;exact jS _ S
  case g4_12=>
   go_simp;have W:=fT.ny
   try simp only[Pe]at W
   refine b_ m (z.o _ W.b) λ y=> ?_;clear m K;refine nK 5 6 (λ K m=> ?g39_5) λ K m=> ?g39_6
   case g39_5=>
    refine W.go1 (.tmp 3) (.tmp 7) 267 Za.o HN.o u_.o rfl rfl ⟨rfl,rfl,aaR,rfl⟩ (by omega) (by omega) ?_;intro A1 c1 u1 jv;refine b_ m (z.o _ jv.b) λ y=> ?_;clear m K;refine cu 6 λ K m=> ?_;go_simp;have dG:=jv.jQ
    try simp only[Pe]at dG
    refine b_ m (z.o _ dG.b) λ y=> ?_;clear m K;refine cu 11 λ K m=> ?_;refine dG.go2 (.tmp 9) (.tmp 13) 232 D.o F.o A.o rfl rfl ⟨rfl,rfl,Tryz.underlying232,rfl⟩ (by omega) (by omega) ?_;intro O c2 J jl;refine b_ m (z.o _ jl.b) λ y=> ?_;clear m K;refine cu 17 λ K m=> ?_;refine jl.Qr (.tmp 15) (.tmp 19) 268 B.o E.o C.o rfl rfl ⟨rfl,rfl,aaC,rfl⟩ (by omega) (by omega) ?_;intro A3 c3 u3 N;refine b_ m (z.o _ N.b) λ y=> ?_;clear m K;refine aO 18 y ?_;refine cu 19 λ K m=> ?_;go_simp;refine b_ m (z.o _ (N.b.trans ((wall _ _).mono N.b.size))) λ y=> ?_;clear m K;refine cu 20 λ K m=> ?_;go_simp;refine o_ m ?_;clear y m K;go_wp2_with fail;go_ret;exact jS _ N
   case g39_6=>
    go_simp;have dM:=W.jQ
    try simp only[Pe]at dM
    refine b_ m (z.o _ dM.b) λ y=> ?_;clear m K;refine cu 5 λ K m=> ?_;refine dM.go1 (.tmp 3) (.tmp 7) 267 Za.o HN.o u_.o rfl rfl ⟨rfl,rfl,aaR,rfl⟩ (by omega) (by omega) ?_;intro A1 c1 u1 jo;refine b_ m (z.o _ jo.b) λ y=> ?_;clear m K;refine cu 11 λ K m=> ?_;refine jo.go2 (.tmp 9) (.tmp 13) 232 D.o F.o A.o rfl rfl ⟨rfl,rfl,Tryz.underlying232,rfl⟩ (by omega) (by omega) ?_;intro O c2 J ko;refine b_ m (z.o _ ko.b) λ y=> ?_;clear m K;refine cu 17 λ K m=> ?_;refine ko.Qr (.tmp 15) (.tmp 19) 268 B.o E.o C.o rfl rfl ⟨rfl,rfl,aaC,rfl⟩ (by omega) (by omega) ?_;intro A3 c3 u3 P;refine b_ m (z.o _ P.b) λ y=> ?_;clear m K;refine aO 18 y ?_;refine cu 19 λ K m=> ?_;go_simp;refine b_ m (z.o _ (P.b.trans ((wall _ _).mono P.b.size))) λ y=> ?_;clear m K;refine cu 20 λ K m=> ?_;go_simp;refine o_ m ?_;clear y m K;go_wp2_with fail;go_ret;exact jS _ P
 case g1_6=>
  go_simp;have ak:=gM.o.jQ
  try simp only[Pe]at ak
  refine b_ m (z.o _ ak.b) λ y=> ?_;clear m K;refine nK 0 12 (λ K m=> ?g50_0) λ K m=> ?g50_12
  case g50_0=>
   go_simp;have H:=ak.Cr
   try simp only[Pe]at H
   refine b_ m (z.o _ H.b) λ y=> ?_;clear m K;refine nK 5 12 (λ K m=> ?g53_5) λ K m=> ?g53_12
   case g53_5=>
    refine H.go1 (.tmp 3) (.tmp 7) 267 Za.o HN.o u_.o rfl rfl ⟨rfl,rfl,aaR,rfl⟩ (by omega) (by omega) ?_;intro A1 c1 u1 aJ;refine b_ m (z.o _ aJ.b) λ y=> ?_;clear m K;refine nK 11 12 (λ K m=> ?g56_11) λ K m=> ?g56_12
    case g56_11=>
     refine aJ.go2 (.tmp 9) (.tmp 13) 232 D.o F.o A.o rfl rfl ⟨rfl,rfl,Tryz.underlying232,rfl⟩ (by omega) (by omega) ?_;intro O c2 J l7;refine b_ m (z.o _ l7.b) λ y=> ?_;clear m K;refine cu 12 λ K m=> ?_;go_simp;have fK:=l7.ny
     try simp only[Pe]at fK
     refine b_ m (z.o _ fK.b) λ y=> ?_;clear m K;refine cu 17 λ K m=> ?_;refine fK.Qr (.tmp 15) (.tmp 19) 268 B.o E.o C.o rfl rfl ⟨rfl,rfl,aaC,rfl⟩ (by omega) (by omega) ?_;intro A3 c3 u3 Y;refine b_ m (z.o _ Y.b) λ y=> ?_;clear m K;refine aO 18 y ?_;refine cu 19 λ K m=> ?_;go_simp;refine b_ m (z.o _ (Y.b.trans ((wall _ _).mono Y.b.size))) λ y=> ?_;clear m K;refine cu 20 λ K m=> ?_;go_simp;refine o_ m ?_;clear y m K;go_wp2_with fail;go_ret;exact jS _ Y
    case g56_12=>
     go_simp;have dI:=aJ.ny
     try simp only[Pe]at dI
     refine b_ m (z.o _ dI.b) λ y=> ?_;clear m K;refine cu 11 λ K m=> ?_;refine dI.go2 (.tmp 9) (.tmp 13) 232 D.o F.o A.o rfl rfl ⟨rfl,rfl,Tryz.underlying232,rfl⟩ (by omega) (by omega) ?_;intro O c2 J kN;refine b_ m (z.o _ kN.b) λ y=> ?_;clear m K;refine cu 17 λ K m=> ?_;refine kN.Qr (.tmp 15) (.tmp 19) 268 B.o E.o C.o rfl rfl ⟨rfl,rfl,aaC,rfl⟩ (by omega) (by omega) ?_;intro A3 c3 u3 G;refine b_ m (z.o _ G.b) λ y=> ?_;clear m K;refine aO 18 y ?_;refine cu 19 λ K m=> ?_;go_simp;refine b_ m (z.o _ (G.b.trans ((wall _ _).mono G.b.size))) λ y=> ?_;clear m K;refine cu 20 λ K m=> ?_;go_simp;refine o_ m ?_;clear y m K;go_wp2_with fail;go_ret;exact jS _ G
   case g53_12=>
    go_simp;have dN:=H.ny
    try simp only[Pe]at dN
    refine b_ m (z.o _ dN.b) λ y=> ?_;clear m K;refine cu 5 λ K m=> ?_;refine dN.go1 (.tmp 3) (.tmp 7) 267 Za.o HN.o u_.o rfl rfl ⟨rfl,rfl,aaR,rfl⟩ (by omega) (by omega) ?_;intro A1 c1 u1 jy;refine b_ m (z.o _ jy.b) λ y=> ?_;clear m K;refine cu 11 λ K m=> ?_;refine jy.go2 (.tmp 9) (.tmp 13) 232 D.o F.o A.o rfl rfl ⟨rfl,rfl,Tryz.underlying232,rfl⟩ (by omega) (by omega) ?_;intro O c2 J lI;refine b_ m (z.o _ lI.b) λ y=> ?_;clear m K;refine cu 17 λ K m=> ?_;refine lI.Qr (.tmp 15) (.tmp 19) 268 B.o E.o C.o rfl rfl ⟨rfl,rfl,aaC,rfl⟩ (by omega) (by omega) ?_;intro A3 c3 u3 X;refine b_ m (z.o _ X.b) λ y=> ?_;clear m K;refine aO 18 y ?_;refine cu 19 λ K m=> ?_;go_simp;refine b_ m (z.o _ (X.b.trans ((wall _ _).mono X.b.size))) λ y=> ?_;clear m K;refine cu 20 λ K m=> ?_;go_simp;refine o_ m ?_;clear y m K;go_wp2_with fail;go_ret;exact jS _ X
  case g50_12=>
   go_simp;have aL:=ak.ny
   try simp only[Pe]at aL
   refine b_ m (z.o _ aL.b) λ y=> ?_;clear m K;refine cu 0 λ K m=> ?_;go_simp;have bf:=aL.Cr
   try simp only[Pe]at bf
   refine b_ m (z.o _ bf.b) λ y=> ?_;clear m K;refine cu 5 λ K m=> ?_;refine bf.go1 (.tmp 3) (.tmp 7) 267 Za.o HN.o u_.o rfl rfl ⟨rfl,rfl,aaR,rfl⟩ (by omega) (by omega) ?_;intro A1 c1 u1 l5;refine b_ m (z.o _ l5.b) λ y=> ?_;clear m K;refine cu 11 λ K m=> ?_;refine l5.go2 (.tmp 9) (.tmp 13) 232 D.o F.o A.o rfl rfl ⟨rfl,rfl,Tryz.underlying232,rfl⟩ (by omega) (by omega) ?_;intro O c2 J lX;refine b_ m (z.o _ lX.b) λ y=> ?_;clear m K;refine cu 17 λ K m=> ?_;refine lX.Qr (.tmp 15) (.tmp 19) 268 B.o E.o C.o rfl rfl ⟨rfl,rfl,aaC,rfl⟩ (by omega) (by omega) ?_;intro A3 c3 u3 I;refine b_ m (z.o _ I.b) λ y=> ?_;clear m K;refine aO 18 y ?_;refine cu 19 λ K m=> ?_;go_simp;refine b_ m (z.o _ (I.b.trans ((wall _ _).mono I.b.size))) λ y=> ?_;clear m K;refine cu 20 λ K m=> ?_;go_simp;refine o_ m ?_;clear y m K;go_wp2_with fail;go_ret;exact jS _ I
 case g1_12=>
  go_simp;have Z:=gM.o.ny
  try simp only[Pe]at Z
  refine b_ m (z.o _ Z.b) λ y=> ?_;clear m K;refine nK 0 6 (λ K m=> ?g74_0) λ K m=> ?g74_6
  case g74_0=>
   go_simp;have aB:=Z.Cr
   try simp only[Pe]at aB
   refine b_ m (z.o _ aB.b) λ y=> ?_;clear m K;refine nK 5 6 (λ K m=> ?g77_5) λ K m=> ?g77_6
   case g77_5=>
    refine aB.go1 (.tmp 3) (.tmp 7) 267 Za.o HN.o u_.o rfl rfl ⟨rfl,rfl,aaR,rfl⟩ (by omega) (by omega) ?_;intro A1 c1 u1 iO;refine b_ m (z.o _ iO.b) λ y=> ?_;clear m K;refine cu 6 λ K m=> ?_;go_simp;have dK:=iO.jQ
    try simp only[Pe]at dK
    refine b_ m (z.o _ dK.b) λ y=> ?_;clear m K;refine cu 11 λ K m=> ?_;refine dK.go2 (.tmp 9) (.tmp 13) 232 D.o F.o A.o rfl rfl ⟨rfl,rfl,Tryz.underlying232,rfl⟩ (by omega) (by omega) ?_;intro O c2 J kg;refine b_ m (z.o _ kg.b) λ y=> ?_;clear m K;refine cu 17 λ K m=> ?_;refine kg.Qr (.tmp 15) (.tmp 19) 268 B.o E.o C.o rfl rfl ⟨rfl,rfl,aaC,rfl⟩ (by omega) (by omega) ?_;intro A3 c3 u3 aA;refine b_ m (z.o _ aA.b) λ y=> ?_;clear m K;refine aO 18 y ?_;refine cu 19 λ K m=> ?_;go_simp;refine b_ m (z.o _ (aA.b.trans ((wall _ _).mono aA.b.size))) λ y=> ?_;clear m K;refine cu 20 λ K m=> ?_;go_simp;refine o_ m ?_;clear y m K;go_wp2_with fail;go_ret;exact jS _ aA
   case g77_6=>
    go_simp;have bT:=aB.jQ
    try simp only[Pe]at bT
    refine b_ m (z.o _ bT.b) λ y=> ?_;clear m K;refine cu 5 λ K m=> ?_;refine bT.go1 (.tmp 3) (.tmp 7) 267 Za.o HN.o u_.o rfl rfl ⟨rfl,rfl,aaR,rfl⟩ (by omega) (by omega) ?_;intro A1 c1 u1 iT;refine b_ m (z.o _ iT.b) λ y=> ?_;clear m K;refine cu 11 λ K m=> ?_;refine iT.go2 (.tmp 9) (.tmp 13) 232 D.o F.o A.o rfl rfl ⟨rfl,rfl,Tryz.underlying232,rfl⟩ (by omega) (by omega) ?_;intro O c2 J lC;refine b_ m (z.o _ lC.b) λ y=> ?_;clear m K;refine cu 17 λ K m=> ?_;refine lC.Qr (.tmp 15) (.tmp 19) 268 B.o E.o C.o rfl rfl ⟨rfl,rfl,aaC,rfl⟩ (by omega) (by omega) ?_;intro A3 c3 u3 M;refine b_ m (z.o _ M.b) λ y=> ?_;clear m K;refine aO 18 y ?_;refine cu 19 λ K m=> ?_;go_simp;refine b_ m (z.o _ (M.b.trans ((wall _ _).mono M.b.size))) λ y=> ?_;clear m K;refine cu 20 λ K m=> ?_;go_simp;refine o_ m ?_;clear y m K;go_wp2_with fail;go_ret;exact jS _ M
  case g74_6=>
   go_simp;have dV:=Z.jQ
   try simp only[Pe]at dV
   refine b_ m (z.o _ dV.b) λ y=> ?_;clear m K;refine cu 0 λ K m=> ?_;go_simp;have gy:=dV.Cr
   try simp only[Pe]at gy
   refine b_ m (z.o _ gy.b) λ y=> ?_;clear m K;refine cu 5 λ K m=> ?_;refine gy.go1 (.tmp 3) (.tmp 7) 267 Za.o HN.o u_.o rfl rfl ⟨rfl,rfl,aaR,rfl⟩ (by omega) (by omega) ?_;intro A1 c1 u1 jm;refine b_ m (z.o _ jm.b) λ y=> ?_;clear m K;refine cu 11 λ K m=> ?_;refine jm.go2 (.tmp 9) (.tmp 13) 232 D.o F.o A.o rfl rfl ⟨rfl,rfl,Tryz.underlying232,rfl⟩ (by omega) (by omega) ?_;intro O c2 J lN;refine b_ m (z.o _ lN.b) λ y=> ?_;clear m K;refine cu 17 λ K m=> ?_;refine lN.Qr (.tmp 15) (.tmp 19) 268 B.o E.o C.o rfl rfl ⟨rfl,rfl,aaC,rfl⟩ (by omega) (by omega) ?_;intro A3 c3 u3 V;refine b_ m (z.o _ V.b) λ y=> ?_;clear m K;refine aO 18 y ?_;refine cu 19 λ K m=> ?_;go_simp;refine b_ m (z.o _ (V.b.trans ((wall _ _).mono V.b.size))) λ y=> ?_;clear m K;refine cu 20 λ K m=> ?_;go_simp;refine o_ m ?_;clear y m K;go_wp2_with fail;go_ret;exact jS _ V
theorem M4{w:World}{g:Nat}{vs:List Value}{t:TypeId}{z:Nat×Nat}(h:w.heap[g]? =some (.cells vs.toArray t z))(m:vs.length<=maxLen):ah (λ x=>x=g) w (some ⟨g,0,none⟩) vs.length vs:=by
 refine⟨rfl,m,λ _=>⟨g,0,rfl,rfl,(qW.1 h).1,λ i u=> ?_⟩⟩;simp[World.cell?,h]
def RTr(w:World)(r:Nat):Prop:=
 ∃m u,w.heap[r]? =some (.cells #[.slice (some ⟨m,0,none⟩) 1 1,.slice (some ⟨u,0,none⟩) 1 1,.slice none 0 0] 270 (0,0))/\w.heap[m]? =some (.cells #[.int .i64 0,.int .i64 2,.int .i64 1,.int .i64 0,.int .u64 0,.bool true] 36 (0,0))/\w.heap[u]? =some (.cells #[.slice none 0 0] 30 (0,0))
def RSn(w:World)(s:Nat):Prop:=w.heap[s]? =some (.cells #[.int .i64 1,.slice none 0 0,.slice none 0 0] 273 (0,0))
def RSt(w:World)(p:Nat):Prop:=∃t s,p<w.heap.size/\(w.cell? ⟨p,0,none⟩=some (ptr t)/\w.cell? ⟨p,1,none⟩=some (ptr s)/\w.cell? ⟨p,2,none⟩=some (.int .u64 0))/\RTr w t/\RSn w s
section
variable{w w':World}{r s p:Nat}
theorem je{C:Obj}{b:Nat}(h:w.heap[b]? =some C)(m:Below w.heap.size w w'):w'.heap[b]? =some C:=(m.block b (qW.1 h).1).trans h
theorem RTr.grow(h:RTr w r)(m:Below w.heap.size w w'):RTr w' r:=by
 obtain⟨z,y,B,u,A⟩:=h;exact⟨z,y,je B m,je u m,je A m⟩
theorem RSt.grow(h:RSt w p)(m:Below w.heap.size w w'):RSt w' p:=by
 obtain⟨t,s,y,u,A,z⟩:=h;refine⟨t,s,Pd y m.size,?_,A.grow m,je z m⟩;simp only[World.cell?,m.block p y]at u⊢;exact u
theorem rnewL(w:World):Dy 113 #[] w λ e w'=>∃r,e= .returned (ptr r)/\RTr w' r/\Below w.heap.size w w':=by
 go_enter Tryz.func113,Tryz.ntmps113;go_wp2;go_ret;have D:=(MapKept.heap_alloc w (.cells #[.int .i64 0,.int .i64 2,.int .i64 1,.int .i64 0,.int .u64 0,.bool true] 36)).1;have C:=(MapKept.heap_alloc (w.alloc (.cells #[.int .i64 0,.int .i64 2,.int .i64 1,.int .i64 0,.int .u64 0,.bool true] 36)) (.cells #[.slice none 0 0] 30)).1;have B:=(MapKept.heap_alloc ((w.alloc (.cells #[.int .i64 0,.int .i64 2,.int .i64 1,.int .i64 0,.int .u64 0,.bool true] 36)).alloc (.cells #[.slice none 0 0] 30)) (.cells #[.slice (some ⟨w.heap.size,0,none⟩) 1 1,.slice (some ⟨w.heap.size+1,0,none⟩) 1 1,.slice none 0 0] 270)).1;have y:=wall w (.cells #[.int .i64 0,.int .i64 2,.int .i64 1,.int .i64 0,.int .u64 0,.bool true] 36);have u:=wall (w.alloc (.cells #[.int .i64 0,.int .i64 2,.int .i64 1,.int .i64 0,.int .u64 0,.bool true] 36)) (.cells #[.slice none 0 0] 30);have z:=wall ((w.alloc (.cells #[.int .i64 0,.int .i64 2,.int .i64 1,.int .i64 0,.int .u64 0,.bool true] 36)).alloc (.cells #[.slice none 0 0] 30)) (.cells #[.slice (some ⟨w.heap.size,0,none⟩) 1 1,.slice (some ⟨w.heap.size+1,0,none⟩) 1 1,.slice none 0 0] 270);have E:=y.trans ((u.mono y.size).trans (z.mono (Nat.le_trans y.size u.size)));have A:=je (je D u) z;have m:=je C z;rw[Pe]at m;rw[Pe,Pe]at B;exact⟨_,rfl,⟨_,_,B,A,m⟩,E⟩
theorem rsnewL(w:World):Dy 114 #[] w λ e w'=>∃s,e= .returned (ptr s)/\RSn w' s/\Below w.heap.size w w':=by
 go_enter Tryz.func114,Tryz.ntmps114;go_wp2;go_ret;exact⟨_,rfl,(MapKept.heap_alloc w _).1,wall w _⟩
theorem M5(h:RTr w r):Dy 115 #[ptr r] w (I9 w):=by
 obtain⟨C,O,u,A,G⟩:=h;have E:=acp (rcopyL w r (qW.1 u).1 u (M4 (vs:=[.int .i64 0,.int .i64 2,.int .i64 1,.int .i64 0,.int .u64 0,.bool true]) A (by simp[maxLen])) (M4 (vs:=[.slice none 0 0]) G (by simp[maxLen])) (ah.nil (λ _=>True) _ _) (by simp[Value.oneCell']) (by simp[Value.oneCell']) (by simp) (by omega) (by omega) (by omega));have I:=acp u;have J:=acp A;have F:w.cell? ⟨r,0,none⟩=some (.slice (some ⟨C,0,none⟩) 1 1):=by simp[World.cell?,u]
 clear u A G;go_enter Tryz.func115,Tryz.ntmps115;go_wp2_with fail;refine E.o.mono ?_;rintro e K ⟨q,rfl,m⟩;have z:=acp m;clear m E F;go_wp2_with fail
 go_loopw [4] (λ B wr=>∃k:Nat,B= .int .i64 k/\k<=1/\Below w.heap.size w wr) (λ B _=>1-(intOf B).toNat)
 case atStart=>exact⟨0,rfl,by omega,z.o⟩
 case round=>
  obtain⟨k,rfl,M,y⟩:=hrel;have g1:=je I.o y;have D:=je J.o y;have F:wr.cell? ⟨r,0,none⟩=some (.slice (some ⟨C,0,none⟩) 1 1):=by simp[World.cell?,g1]
  have N:wr.cell? ⟨C,5,none⟩=some (.bool true):=by simp[World.cell?,D]
  have H:=acp y;clear g1 D y;rcases (show k=0\/k=1 by omega)with rfl|rfl
  ·go_wp2_with fail;go_roundw
   case rel=>exact⟨1,by go_num,by omega,H.o⟩
   case measure=>simp[intOf]
  ·go_wp2_with fail;go_ret;exact⟨q,rfl,H.o⟩
theorem Zb:(Tryz.prog.info? 408).map (λ i=>(i.zero,i.size,i.bytes))=some (some (.agg #[.int .i64 0,.slice none 0 0,.pointer none]),3,40):=by kernel_rfl
theorem rscopyL(h:RSn w s):Dy 116 #[ptr s] w (I9 w):=by
 obtain⟨N,B⟩:∃i,Tryz.prog.info? 408=some i/\i.zero=some (.agg #[.int .i64 0,.slice none 0 0,.pointer none])/\i.size=3/\i.bytes=40:=aaq Zb;have F:=(qW.1 h).1;have D:acr (∀w',Below w.heap.size w w'->w'.cell? ⟨s,0,none⟩=some (.int .i64 1)/\w'.cell? ⟨s,1,none⟩=some (.slice none 0 0)/\w'.cell? ⟨s,2,none⟩=some (.slice none 0 0)):=λ w' H=>by
  have G:=je h H;refine⟨?_,?_,?_⟩<;>simp[World.cell?,G]
 have E:=acp B;have C:=acp (yx.start (t1:=408) (t2:=408) (t3:=408) (k1:=3) (k2:=3) (k3:=3) w);clear h B;go_enter Tryz.func116,Tryz.ntmps116;go_wp2_with fail;refine vJ 16 ((λ w'=>w'.cell? ⟨s,0,none⟩=some (.int .i64 1)/\w'.cell? ⟨s,1,none⟩=some (.slice none 0 0)/\w'.cell? ⟨s,2,none⟩=some (.slice none 0 0))) ?_ λ m=> ?_
 ·exact D.o _ C.o.b
 refine aO 0 m ?_;refine aO 1 m ?_;refine aO 2 m ?_;refine aO 3 m ?_;refine aO 4 m ?_;refine aO 5 m ?_;refine aO 6 m ?_;refine aO 7 m ?_;refine aO 9 m ?_;refine aO 10 m ?_;refine aO 11 m ?_;refine aO 12 m ?_;refine cu 8 λ K z=> ?_;go_simp;have A:=C.o.Cr;refine b_ z (D.o _ A.b) λ m=> ?_;clear z K;refine cu 13 λ K z=> ?_;refine A.go1 (.tmp 11) (.tmp 15) 271 E.o (ah.nil (λ _=>True) _ _) (λ u I=>by cases I) rfl rfl ⟨rfl,rfl,Tryz.underlying271,rfl⟩ (by omega) (by omega) ?_;intro O M J y;refine b_ z (D.o _ y.b) λ m=> ?_;clear z K;refine aO 14 m ?_;refine cu 15 λ K z=> ?_;go_simp;refine b_ z (D.o _ (y.b.trans ((wall _ _).mono y.b.size))) λ m=> ?_;clear z K;refine cu 16 λ K z=> ?_;go_simp;refine o_ z ?_;clear m z K;go_wp2_with fail;go_ret;exact⟨_,rfl,y.b.trans ((wall _ _).mono y.b.size)⟩
theorem rstnewL(w:World):Dy 45 #[] w λ e w'=>∃p,e= .returned (ptr p)/\RSt w' p/\Below w.heap.size w w':=by
 go_enter Tryz.func45,Tryz.ntmps45;go_wp2_with fail;refine(rnewL w).mono ?_;rintro e F ⟨t,rfl,E,y⟩;have I:=acp E;have z:=acp y;clear E y;go_wp2_with fail;refine(rsnewL F).mono ?_;rintro e C ⟨s,rfl,D,u⟩;have H:=acp D;have B:=acp (I.o.grow u);have A:=acp (z.o.trans (u.mono z.o.size));clear D u;go_wp2_with fail;go_ret;have m:=wall C (.cells #[ptr t,ptr s,.int .u64 0,.int .i64 0,.int .i64 0,.slice none 0 0,.int .i64 0,.int .i64 0,.slice none 0 0,.int .i64 0,.int .i64 0,.slice none 0 0,.int .i64 0,.int .i64 0,.slice none 0 0,.int .i64 0,.int .i64 0,.slice none 0 0,.int .i64 0,.int .i64 0,.slice none 0 0,.int .i64 0,.int .i64 0,.slice none 0 0,.int .i64 0,.int .i64 0,.slice none 0 0] 188);have G:=(MapKept.heap_alloc C (.cells #[ptr t,ptr s,.int .u64 0,.int .i64 0,.int .i64 0,.slice none 0 0,.int .i64 0,.int .i64 0,.slice none 0 0,.int .i64 0,.int .i64 0,.slice none 0 0,.int .i64 0,.int .i64 0,.slice none 0 0,.int .i64 0,.int .i64 0,.slice none 0 0,.int .i64 0,.int .i64 0,.slice none 0 0,.int .i64 0,.int .i64 0,.slice none 0 0,.int .i64 0,.int .i64 0,.slice none 0 0] 188)).1;refine⟨_,rfl,⟨t,s,by simp,⟨?_,?_,?_⟩,B.o.grow m,je H.o m⟩,A.o.trans (m.mono A.o.size)⟩<;>(simp only[World.cell?,G];rfl)
theorem U5(h:RSt w p):Dy 46 #[ptr p] w (I9 w):=by
 obtain⟨t,s,N,F,I,H⟩:=h;have E:acr (∀w',Below w.heap.size w w'->w'.cell? ⟨p,0,none⟩=some (ptr t)/\w'.cell? ⟨p,1,none⟩=some (ptr s)/\w'.cell? ⟨p,2,none⟩=some (.int .u64 0)):=λ w' B=>by
  simp only[World.cell?,B.block p N]at F⊢;exact F
 have G:=acp (λ(u:World) (B:Below w.heap.size w u)=>M5 (I.grow B));have O:=acp (λ(u:World) (B:Below w.heap.size w u)=>rscopyL (w:=u) (je H B));clear F I H;go_enter Tryz.func46,Tryz.ntmps46;go_wp2_with fail;refine vJ 16 ((λ w'=>w'.cell? ⟨p,0,none⟩=some (ptr t)/\w'.cell? ⟨p,1,none⟩=some (ptr s)/\w'.cell? ⟨p,2,none⟩=some (.int .u64 0))) ?_ λ m=> ?_
 ·exact E.o _ (Below.refl _ w).drew
 refine aO 0 m ?_;refine aO 1 m ?_;refine aO 2 m ?_;refine aO 3 m ?_;refine aO 5 m ?_;refine aO 6 m ?_;refine aO 7 m ?_;refine aO 8 m ?_;refine aO 10 m ?_;refine aO 11 m ?_;refine aO 12 m ?_;refine aO 13 m ?_;refine cu 4 λ K y=> ?_;go_simp;refine(G.o _ (Below.refl _ w).drew).mono ?_;rintro e J ⟨P,rfl,C⟩;have A:acr (Below w.heap.size w J):=acp ((Below.refl _ w).drew.trans C);clear C;go_wp2_with fail;refine b_ y (E.o _ A.o) λ m=> ?_;clear y K;refine cu 9 λ K y=> ?_;go_simp;refine(O.o _ A.o).mono ?_;rintro e M ⟨Q,rfl,D⟩;have z:acr (Below w.heap.size w M):=acp (A.o.trans (D.mono A.o.size));clear D;go_wp2_with fail;refine b_ y (E.o _ z.o) λ m=> ?_;clear y K;refine aO 14 m ?_;refine cu 15 λ K y=> ?_;go_simp;refine b_ y (E.o _ (z.o.trans ((wall _ _).mono z.o.size))) λ m=> ?_;clear y K;refine cu 16 λ K y=> ?_;go_simp;refine o_ y ?_;clear m y K;go_wp2_with fail;go_ret;exact⟨_,rfl,z.o.trans ((wall _ _).mono z.o.size)⟩
def RVt(w:World)(v:Nat)(a b c d e f g h:Value):Prop:=w.heap[v]? =some (.cells #[a,b,c,d,e,f,g,h] 101 (0,0))
theorem I_{v:Nat}{a b c d e f g h:Value}(m:RVt w v a b c d e f g h):(w.cell? ⟨v,0,none⟩=some a/\w.cell? ⟨v,1,none⟩=some b/\w.cell? ⟨v,2,none⟩=some c/\w.cell? ⟨v,3,none⟩=some d/\w.cell? ⟨v,4,none⟩=some e/\w.cell? ⟨v,5,none⟩=some f/\w.cell? ⟨v,6,none⟩=some g)/\∀k,w.frozen? ⟨v,k,none⟩=false:=by
 unfold RVt at m;refine⟨⟨?_,?_,?_,?_,?_,?_,?_⟩,λ k=> ?_⟩<;>simp[World.cell?,World.frozen?,m]
theorem U6{v:Nat}{a g h:Value}(n:Int)(G:1<=n)(y:RVt w v a (.int .i64 n) (.int .i64 0) (.int .i64 0) (.int .i64 0) (.int .u64 1) g h):Dy 47 #[.pointer (some ⟨v,1,none⟩),.int .i64 15] w λ e w'=>e= .returned (.bool true)/\Keeps (λ b=>b=v) w w':=by
 obtain⟨⟨F,A,z,H,I,C,B⟩,D⟩:=I_ y;have E:decide (n<=0)=false:=by simp;omega
 clear y;go_enter Tryz.func47,Tryz.ntmps47;go_wp2_with fail;refine su ((λ w'=>w'.cell? ⟨v,1,none⟩=some (.int .i64 n)/\w'.cell? ⟨v,2,none⟩=some (.int .i64 0))) ?_ λ m=> ?_
 ·exact⟨A,z⟩
 refine aM 0 m ?_;refine aM 1 m ?_;refine aM 2 m ?_;refine aM 3 m ?_;refine aM 4 m ?_;refine aM 5 m ?_;refine aM 6 m ?_;refine aM 7 m ?_;refine aM 8 m ?_;refine rH ?_;go_wp2;go_ret;have u:=((Keeps.jy w ⟨v,3,none⟩ (.int .i64 15)).trans (Keeps.jy _ ⟨v,4,none⟩ (.int .i64 1)) (λ _ _ e=>e)).trans (Keeps.jy _ ⟨v,5,none⟩ (.int .u64 2)) (λ _ _ e=>e);exact⟨rfl,u.os,u.tape,u.output,u.size,u.block⟩
theorem AA{u w w':World}{v:Nat}(z:Below u.heap.size u w)(A:u.heap.size<=v)(m:Keeps (λ b=>b=v) w w'):Below u.heap.size u w':=
 z.trans ⟨m.os,m.tape,m.output,m.size,λ b y=>m.block b (Pd y z.size) (λ e=>by omega)⟩
theorem rvnewL(n:Int)(R:1<=n)(w:World):Dy 17 #[.int .i64 n] w (I9 w):=by
 go_enter Tryz.func17,Tryz.ntmps17;go_wp2_with fail;refine(rstnewL w).mono ?_;rintro e C ⟨p,rfl,M,G⟩;have O:=acp M;have u:=acp G;clear M G;go_wp2_with fail;obtain⟨J,A⟩:∃J,J=C.alloc (.cells #[ptr p,.int .i64 n,.int .i64 0,.int .i64 0,.int .i64 0,.int .u64 1,.slice none 0 0,.int .i64 0] 101):=⟨_,rfl⟩;have m:Below C.heap.size C J:=by rw[A];exact wall C _
 have E:RVt J C.heap.size (ptr p) (.int .i64 n) (.int .i64 0) (.int .i64 0) (.int .i64 0) (.int .u64 1) (.slice none 0 0) (.int .i64 0):=by rw[A];exact(MapKept.heap_alloc C _).1
 obtain⟨v,K⟩:∃v,v=C.heap.size:=⟨_,rfl⟩;have B:w.heap.size<=v:=by rw[K];exact u.o.size
 rw[<-A];rw[<-K]at E⊢;clear A K;refine(U5 (O.o.grow m)).mono ?_;rintro e D ⟨q,rfl,z⟩;have y:RVt D v (ptr p) (.int .i64 n) (.int .i64 0) (.int .i64 0) (.int .i64 0) (.int .u64 1) (.slice none 0 0) (.int .i64 0):=je E z;have S:v<D.heap.size:=(qW.1 y).1;have I:RVt ((D.setCell ⟨v,6,none⟩ (.slice (some ⟨D.heap.size,0,none⟩) 1 1)).alloc (.cells #[ptr q] 95)) v (ptr p) (.int .i64 n) (.int .i64 0) (.int .i64 0) (.int .i64 0) (.int .u64 1) (.slice (some ⟨D.heap.size,0,none⟩) 1 1) (.int .i64 0):=je (aG y) (wall _ _);have H:Below w.heap.size w ((D.setCell ⟨v,6,none⟩ (.slice (some ⟨D.heap.size,0,none⟩) 1 1)).alloc (.cells #[ptr q] 95)):=(AA ((u.o.trans (m.mono u.o.size)).trans (z.mono (Nat.le_trans u.o.size m.size))) B (Keeps.jy _ ⟨v,6,none⟩ _)).trans ((wall _ _).mono (by rw[size_set];exact Nat.le_trans u.o.size (Nat.le_trans m.size z.size)));obtain⟨⟨X,Y,c2,Z,c4,V,U⟩,W⟩:=I_ y;have P:=acp H;have N:=acp (U6 n R I);clear E y I H m z;go_wp2_with fail;refine N.o.mono ?_;rintro e w5 ⟨rfl,F⟩;have Q:=acp (AA P.o B F);clear F N;go_wp2_with fail;go_ret;exact⟨v,rfl,Q.o⟩
end
theorem rplSize:(Tryz.prog.info? 51).map (·.size)=some 3:=by kernel_rfl
theorem ret_rpl{y:Func}{A u:Nat}{Q:Ending->World->Prop}{a:Act}{w:World}{b:Nat}{m:Array Value}{z:Value}(G:y.results= #[.cell A 51,.tmp u])(D:a.tmps.getD A undef= .pointer (some ⟨b,0,none⟩))(C:a.tmps.getD u undef=z)(B:a.defers=[])(E:w.heap[b]? =some (.cells m 51 (0,0)))(H:m.size=3)(F:Q (.returned (.tuple #[.agg m,z])) w):
  bodyPost Tryz.prog y Q .ret a w:=by
 subst C;exact aav (v:= .tuple #[.agg m,a.tmps.getD u undef]) (jX G D (aaS w b 51 51 _ (0,0) _ E Tryz.underlying51 rfl (by rw[H];exact rplSize))) B F
theorem rof_any(n:Nat)(u:64<=n)(B:n<=4096)(w:World):Dy 16 #[.int .i64 (n:Int)] w λ e w'=>e= .returned (.tuple #[.agg #[.int .i64 (n:Int),.int .i64 ((n:Int)/4),.int .i64 (((n:Int)-1-2*((n:Int)/4))/8)],.int .i64 0])/\Below w.heap.size w w':=by
 have y:decide ((n:Int)<64)=false:=aad (by omega);have z:decide ((4096:Int)<(n:Int))=false:=aad (by omega);have m:¬n<64:=by omega
 have A:¬4096<n:=by omega
 go_enter Tryz.func16,Tryz.ntmps16;go_wp2_with fail;exact ret_rpl rfl rfl rfl rfl (MapKept.heap_alloc w _).1 rfl ⟨rfl,wall w _⟩
theorem Zc(w:World):Dy 9 #[] w λ e w'=>∃a,e= .returned (.slice a 16 16)/\ah (λ x=>w.heap.size<=x/\x<w'.heap.size) w' a 16 (KD.map bv)/\Below w.heap.size w w':=by
 have u:=λ(w:World) (C:Array Value) (n c:Nat)=>Lib.run_convert_bytes_const (P:=Tryz.prog) w 30 5 C n c Tryz.underlying30 aa7;go_enter Tryz.func9,Tryz.ntmps9;go_wp2_with fail;go_ret;exact⟨_,rfl,(MZ (w:=w) (KD.map bv) _ (16,17) (by decide)).mono λ x (m:x=w.heap.size)=>by subst m;exact⟨Nat.le_refl _,by simp⟩,wall w _⟩
section
variable{W w:World}{o:Mark}{n d i B:Nat}
theorem RP{id b:I8}{C:Int}{k:Nat}{head:I8}{next m t:Int}(P:dw o i w d n b True C)(M:Marks W o w)(F:0<B)(H:i<B)(I:∀x,o x≠B+15)(S:Rest n id b k head next m t)(N:k<fM n):
  Dy 10 #[ptr d] w λ e w'=>∃v u A,e= .returned (.tuple #[ptr v,.int .i64 0])/\Step o (Mm B) w u w'/\eB W u i B (B+14) w' v n d ⟨b,C,Co t,1,⟨k,head,next,[⟨2,next,[]⟩]⟩,m,A,(k:Int),0,id⟩:=by
 obtain⟨D,x,y,z,V,X,E,R,J,G,K,rfl,rfl,rfl⟩:=S;refine(U0 P M F H I id x y z _ _ _ k E R J N).mono ?_;rintro e w' ⟨v,u,Q,O,U⟩;exact⟨v,u,z.seq,Q,O,U⟩
end
def newV(n:Nat)(b:I8)(c m:Int):oo:=⟨Qo n b KD,c,Co 0,1,⟨0,Aw KD,1,[⟨2,1,[]⟩]⟩,2,m,0,0,KD⟩
theorem J_{n:Nat}(u:64<=n){b:I8}(z:b.length=n*128)(y:((fU nH).length:Int)<=eT n){c:Int}(A:c<=10000)(m:Int):TkV n (newV n b c m) 0 0 0 1:=
 ⟨rfl,rfl,by show(1:Int)<=1+3*((0:Nat):Int);omega,by show c<=10000+3000*((0:Nat):Int);omega,⟨by omega,by omega⟩,Int.le_refl _,zu (Ck n u b KD z rfl y) u rfl y,Nat.le_refl _,⟨Int.le_refl _,by show(1:Int)<=1+100*((0:Nat):Int);omega⟩,⟨Int.le_refl _,by show(2:Int)<=2+((0:Nat):Int);omega⟩,Waits.one (next:=1) ⟨by omega,by omega⟩,eu _⟩
theorem M6{W w:World}{o:Mark}(hM:Marks W o w)(i B:Nat)(aJ:0<i)(aC:i<B)(Y:∀x,o x≠B+15)(n:Nat)(V:64<=n)(h1:n<=4096)(hr:((fU nH).length:Int)<=eT n):Dy 4 #[.int .i64 (n:Int)] w λ e w'=>∃d v q o' E,e= .returned (.tuple #[ptr d,ptr v,ptr q])/\Step o (Vm i B) w o' w'/\eB W o' i B (B+14) w' v n d (newV n (List.replicate (n*128) 0) 10000 E):=by
 have M:=acp (dk_new hM i (by omega) n V h1);have EM:=acp (λ u=>Zc u);have Ry:=acp (λ u=>rof_any n V h1 u);have X:=acp (λ u=>rvnewL ((((n:Int)-1-2*((n:Int)/4))/8)) (by omega) u);go_enter Tryz.func4,Tryz.ntmps4;go_wp2_with fail;refine M.o.mono ?_;rintro e w1 ⟨d,o1,rfl,H,U,aA⟩;have N:=hM.step (λ(e:(0:Nat)=i)=>by omega) H;have aB:=acp Y;have mo:=acp H;have ak:=acp U;have jL:=acp N;clear H U aA N M;go_wp2_with fail;refine(EM.o _).mono ?_;rintro e w2 ⟨a,rfl,O,A⟩;have C:=jL.o.grow A;have K:=acp (C_ (j:=B) (ak.o.grow A) C (by omega) (by omega) (by omega) (by omega) KD rfl hr a 16 (O.mono λ x S=>⟨by
  exact Wy λ h9=>by have:=(jL.o.new _ h9).2;omega,S.2⟩))
 have tF:=acp C;have aD:=acp (mo.o.trans (Step.grow jL.o A));clear O A C;go_wp2_with fail;refine K.o.mono ?_;rintro e w3 ⟨rfl,o3,I,G⟩;have Z:=acp ((aD.o.mono λ m D=>(.inl D:Fm i B m)).trans I);have Er:=tF.o.step (λ e=>by rcases e with e|e<;>omega) I;have hf:∀x,o3 x≠B+15:=λ x S=>by
  by_cases av:x<w.heap.size
  ·have:=Z.o.old x av;rw[S]at this;exact aB.o x this.symm
  ·have:=(Z.o.new x (by omega) (by rw[S];omega)).1;rw[S]at this;rcases this with e|e<;>omega
 have y:=zu (Ck n V (List.replicate (n*128) 0) KD (by simp) rfl hr) V rfl hr;have BK:=acp (RP G Er (by omega) aC hf y (by unfold fM;omega));have aH:=acp y;have aF:=acp G;have zT:=acp Er;clear I Er hf y G K;go_wp2_with fail;refine BK.o.mono ?_;rintro e w4 ⟨v,o4,E,rfl,J,P⟩;have VD:=acp P;have jl:acr (Step o (Vm i B) w o4 w4):=acp ((Z.o.mono λ m D=>by rcases D with D|D;exact .inl D;exact .inr ⟨by omega,by omega⟩).trans (J.mono λ m D=> .inr ⟨by omega,by omega⟩));clear J P BK;go_wp2_with fail;refine(Ry.o _).mono ?_;rintro e w5 ⟨rfl,F⟩;have R:=acp (VD.o.grow F);have dK:=acp F;clear F;go_wp2_with fail;refine(X.o _).mono ?_;rintro e w6 ⟨q,rfl,Q⟩;have z:=(wall w5 _).trans (Q.mono (wall w5 _).size);have NK:=acp (R.o.grow z);have nP:=acp z;clear Q z;go_wp2_with fail
 go_ret3
 exact⟨d,v,q,o4,E,rfl,(jl.o.trans (Step.grow VD.o.marks dK.o)).trans (Step.grow R.o.marks nP.o),NK.o⟩
def Zd(w:World)(n:Nat)(e:Ending)(w':World):Prop:=
 ∃d v q m V,e= .returned (.tuple #[ptr d,ptr v,ptr q])/\eB w m 1 2 16 w' v n d V/\TkV n V 0 0 0 1
theorem U7(n:Nat)(y:64<=n)(u:n<=4096)(z:((fU nH).length:Int)<=eT n)(w:World):Dy 4 #[.int .i64 (n:Int)] w (Zd w n):=by
 refine(M6 (X9 w) 1 2 (by omega) (by omega) (λ x e=>by simp at e) n y u z).mono ?_;rintro e w' ⟨d,v,q,A,m,u,-,B⟩;exact⟨d,v,q,A,_,u,B,J_ y (by simp) z (Int.le_refl _) m⟩
