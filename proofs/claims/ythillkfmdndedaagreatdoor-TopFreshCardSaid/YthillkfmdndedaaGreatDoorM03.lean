/- append -/
import Derived.Test.YthillkfmdndedaaGreatDoorM02
import Derived.Maps.AppendAt
import Derived.Deep.RegionLaw
import Derived.Maps.RangeWalk
set_option maxRecDepth 100000
set_option maxHeartbeats 64000000
set_option linter.all false
namespace Go.Proofs.YthillkfmdndedaaGreatDoor
open Go.ChangeShapes Go.WideShapes Go.ChangeAt Go.RowKit
theorem bg{w:World}{m:Nat}{e:TypeId}{u:Nat}{v:Value}{n:Nat}{xs:List Value}(h:w.ownsRow m e u v n xs):∃a c,v= .slice a n c/\n<=c:=by
 rcases h.2 with⟨rfl,rfl⟩|⟨g,z,y,rfl,_,_,h,_⟩
 ·exact⟨_,_,rfl,Nat.le_refl _⟩
 ·exact⟨_,_,rfl,h⟩
theorem aZ{w:World}{m:Nat}{e:TypeId}{u:Nat}{v:Value}{n:Nat}{xs:List Value}(h:w.ownsRow m e u v n xs):∀k,v.ownBlock=some k->m<=k:=by
 intro k y;rcases h.2 with⟨rfl,_⟩|⟨g,B,A,rfl,z,_⟩
 ·cases y
 ·cases y;exact z
theorem ah.cells{S:Nat->Prop}{w:World}{z:Addr}{m:Nat}{vs:List Value}(h:ah S w (some z) m vs):∀j u,vs[j]? =some u->w.cell? (z.add j)=some u:=by
 intro j u y;have D:=h.length;have A:j<m:=by rw[<-D];exact(aaj.1 y).1
 obtain⟨b,B,e,_,_,C⟩:=h.at_ (by omega);simp only[aae]at e;subst e;rw[add_plain,C j A,y]
theorem ah.take{S:Nat->Prop}{w:World}{a:Mx}{m:Nat}{vs:List Value}(h:ah S w a m vs)(n:Nat):ah S w a (min m n) (vs.take n):=by
 have B:=h.length;refine⟨by simp[B];omega,by have:=h.small;omega,λ C=> ?_⟩;obtain⟨b,u,e,y,A,z⟩:=h.at_ (by omega);exact⟨b,u,e,y,A,λ i D=>by rw[z i (by omega),aaB,if_pos (by omega)]⟩
theorem ah.drop{S:Nat->Prop}{w:World}{b m u:Nat}{vs:List Value}(h:ah S w (some ⟨b,m,none⟩) u vs)(n:Nat):ah S w (some ⟨b,m+n,none⟩) (u-n) (vs.drop n):=by
 have C:=h.length;refine⟨by simp[C],by have:=h.small;omega,λ E=> ?_⟩;obtain⟨D,y,e,z,B,A⟩:=h.at_ (by omega);simp only[aae,Addr.mk.injEq,abK]at e;obtain⟨rfl,rfl⟩:=e;exact⟨b,m+n,rfl,z,B,λ i F=>by rw[show m+n+i=m+(n+i)by omega,A (n+i) (by omega),abG]⟩
theorem ah.zero{S:Nat->Prop}{w:World}(a:Mx)(n:Nat)(vs:List Value)(u:n=0)(m:vs=[]):ah S w a n vs:=by
 subst u;subst m;exact ah.nil _ _ _
theorem ah.mU{w:World}{u:Nat}{e:TypeId}{a:Mx}{m n c:Nat}{xs:List Value}(h:w.ownsRow u e 1 (.slice a m c) n xs):m=n/\ah (λ x=>u<=x/\x<w.heap.size) w a n xs:=by
 obtain⟨G,z⟩:=h;rcases z with⟨z,rfl⟩|⟨g,C,E,z,B,y,K,F,J,D⟩
 ·simp only[aaH]at z;obtain⟨rfl,rfl,rfl⟩:=z;obtain rfl:xs=[]:=aac (by omega);exact⟨rfl,ah.nil _ _ _⟩
 ·simp only[aaH]at z;obtain⟨rfl,rfl,rfl⟩:=z;have A:=(qW.1 y).1;refine⟨rfl,by omega,by omega,λ H=>⟨g,0,rfl,⟨B,A⟩,A,λ i I=> ?_⟩⟩;simp only[World.cell?,y,Nat.zero_add];rw[<-D,aaB,if_pos (show i<m*1 by omega)];simp
theorem Je.row{F:Nat->Prop}{w:World}{n:Nat}{v:Value}{A:I8}(h:Je F w n v A):∃b c,v= .slice (some ⟨b,0,none⟩) n c/\n<=c/\ah F w (some ⟨b,0,none⟩) n (A.map bv):=by
 obtain⟨C,g,y,G,rfl,D,m,z,B,J,H⟩:=h;have u:=(qW.1 m).1;refine⟨g,y,rfl,B,by simpa using C,by omega,λ I=>⟨g,0,rfl,D,u,λ i E=> ?_⟩⟩;simp only[World.cell?,m,Nat.zero_add];rw[<-z,aaB,if_pos E];simp
theorem jA(m:I8):∀u∈m.map bv,u.oneCell'=true:=by
 intro u y;obtain⟨x,_,rfl⟩:=List.mem_map.1 y;rfl
theorem vM{P:Program}{S:Nat->Prop}{w:World}(D:Nat)(t V e:TypeId)(i:TypeInfo)(z:Value)(B:Nat)(O:P.underlying t=some (.slice e))(N:P.info? e=some i)(W:i.zero=some z)
  (H:i.size=1)(J:i.bytes=B)(Q:z.cells.size=1)(v:Value)(n:Nat)(xs:List Value)(C:w.ownsRow D e 1 v n xs)
  (A:Mx)(m c:Nat)(y:List Value)(I:ah S w A m y)(h1:∀u∈y,u.oneCell'=true)(R:n+m<=maxLen)(E:(n+m)*B<=140737488355328)(G:D<=w.heap.size):
  ∃A' c' w',(Builtin.append_ #[t,t] V #[v,.slice A m c]).run P w= .ok (.slice A' (n+m) c') w'/\w'.ownsRow D e 1 (.slice A' (n+m) c') (n+m) (xs++y)/\w.grownBy w' v.ownBlock/\
   (Value.slice A' (n+m) c'= .slice none 0 0↔v= .slice none 0 0/\m=0)/\((Value.slice A' (n+m) c').ownBlock=v.ownBlock\/(Value.slice A' (n+m) c').ownBlock=some w.heap.size):=by
 rcases A with _|Z
 ·have Y:m=0:=by
   rcases aaI m with K|K
   ·exact K
   ·obtain⟨_,_,h,_⟩:=I.at_ K;cases h
  subst Y;have hn:y=[]:=aac I.length;subst hn;obtain⟨A',c',rfl,_⟩:=bg C;refine⟨A',c',w,?_,by simpa using C,⟨rfl,rfl,rfl,Nat.le_refl _,λ _ _ _=>rfl⟩,by simp,Or.inl rfl⟩;rcases C.2 with⟨F,rfl⟩|⟨g,X,ak,F,_,_,M,_⟩
  ·simp only[aaH]at F;obtain⟨rfl,_,rfl⟩:=F;simp[Builtin.append_,abT O,sizeOf,typeInfo,N,Builtin.lenOf,Builtin.firstCells]
  ·simp only[aaH]at F;obtain⟨rfl,_,rfl⟩:=F;simp[Builtin.append_,abT O,sizeOf,typeInfo,N,Builtin.lenOf,Builtin.firstCells,M,storeCells]
 ·obtain⟨v',w',U,F,h3,h4,h5⟩:=run_append_own_at (P:=P) w D t V e i z 1 B O N W H J Q (by omega) v n xs C Z m c y (by simpa using I.length) I.cells h1 R E G;obtain⟨A',c',rfl,_⟩:=bg F;exact⟨A',c',w',U,F,h3,h4,h5⟩
theorem bU{P:Program}{S:Nat->Prop}{w:World}{H:Array Oper}{rest:List Oper}{o:Oper}{a:Act}{Q:Exit->Act->World->Prop}(N:o.guard=none)(s x:Operand)(t:TypeId)
  (ho:o.op= .call {callee:= .builtin .append,args:= #[s,x],argTypes:= #[t,t]})
  (C:Nat)(e:TypeId)(i:TypeInfo)(z:Value)(y:Nat)(W:P.underlying t=some (.slice e))(V:P.info? e=some i)(R:i.zero=some z)
  (F:i.size=1)(I:i.bytes=y)(J:z.cells.size=1)(v:Value)(n:Nat)(xs:List Value)(Y:a.eval s=v)(G:w.ownsRow C e 1 v n xs)
  (A:Mx)(m c:Nat)(B:List Value)(X:a.eval x= .slice A m c)(M:ah S w A m B)(h1:∀u∈B,u.oneCell'=true)(O:n+m<=maxLen)(D:(n+m)*y<=140737488355328)(E:C<=w.heap.size)
  (h:∀A' c' w',w'.ownsRow C e 1 (.slice A' (n+m) c') (n+m) (xs++B)->w.grownBy w' v.ownBlock->(Value.slice A' (n+m) c'= .slice none 0 0↔v= .slice none 0 0/\m=0)->((Value.slice A' (n+m) c').ownBlock=v.ownBlock\/(Value.slice A' (n+m) c').ownBlock=some w.heap.size)->wpList P H Q rest (a.put o.dst (.slice A' (n+m) c')) w'):
  wpList P H Q (o::rest) a w:=by
 refine abU N λ K U=> ?_;obtain⟨A',c',w',M,Z,h3,h4,h5⟩:=vM (P:=P) C t o.type e i z y W V R F I J v n xs G A m c B M h1 O D E;unfold Oper.wp execOp;simp only[ho,resolve,invoke,builtin,abV,acj,abP,ab1,aau,abn,Y,X,M];exact U _ _ (h A' c' w' Z h3 h4 h5)
theorem Df{P:Program}{S:Nat->Prop}{I:Array Oper}{o:Oper}{a:Act}{w:World}{K:Act->World->Prop}{Q:Exit->Act->World->Prop}{E:Prop}(O:o.guard=none)(s x:Operand)(t:TypeId)
  (ho:o.op= .call {callee:= .builtin .append,args:= #[s,x],argTypes:= #[t,t]})
  (C:Nat)(e:TypeId)(i:TypeInfo)(z:Value)(y:Nat)(W:P.underlying t=some (.slice e))(V:P.info? e=some i)(U:i.zero=some z)
  (G:i.size=1)(J:i.bytes=y)(M:z.cells.size=1)(v:Value)(n:Nat)(xs:List Value)(Z:a.eval s=v)(H:w.ownsRow C e 1 v n xs)
  (A:Mx)(m c:Nat)(B:List Value)(Y:a.eval x= .slice A m c)(N:ah S w A m B)(h1:∀u∈B,u.oneCell'=true)(R:n+m<=maxLen)(D:(n+m)*y<=140737488355328)(F:C<=w.heap.size)
  (h:∀A' c' w',w'.ownsRow C e 1 (.slice A' (n+m) c') (n+m) (xs++B)->w.grownBy w' v.ownBlock->(Value.slice A' (n+m) c'= .slice none 0 0↔v= .slice none 0 0/\m=0)->((Value.slice A' (n+m) c').ownBlock=v.ownBlock\/(Value.slice A' (n+m) c').ownBlock=some w.heap.size)->K (a.put o.dst (.slice A' (n+m) c')) w'):
  if Region.wanted o (yielded I a.tmps)=true then Oper.wp P o a w K Q else E:=by
 have X:Region.wanted o (yielded I a.tmps)=true:=by simp[Region.wanted,O]
 rw[if_pos X];obtain⟨A',c',w',N,h2,h3,h4,h5⟩:=vM (P:=P) C t o.type e i z y W V U G J M v n xs H A m c B N h1 R D F;unfold Oper.wp execOp;simp only[ho,resolve,invoke,builtin,abV,acj,abP,ab1,aau,abn,Z,Y,N];exact h A' c' w' h2 h3 h4 h5
theorem wY{w:World}(v:Value)(t:TypeId):ah (λ x=>x=w.heap.size) (w.alloc (.cells #[v] t)) (some ⟨w.heap.size,0,none⟩) 1 [v]:=by
 refine⟨rfl,by unfold maxLen;omega,λ _=>⟨_,0,rfl,rfl,by simp,λ i u=> ?_⟩⟩;obtain rfl:i=0:=by omega
 have m:(w.alloc (.cells #[v] t)).heap[w.heap.size]? =some (.cells #[v] t):=(MapKept.heap_alloc w _).1;simp only[World.cell?,m];rfl
theorem jr{w:World}(vs:List Value)(t:TypeId)(m:vs.length<=maxLen):ah (λ x=>x=w.heap.size) (w.alloc (.cells vs.toArray t)) (some ⟨w.heap.size,0,none⟩) vs.length vs:=by
 refine⟨rfl,m,λ _=>⟨_,0,rfl,rfl,by simp,λ i y=> ?_⟩⟩;have u:(w.alloc (.cells vs.toArray t)).heap[w.heap.size]? =some (.cells vs.toArray t):=(MapKept.heap_alloc w _).1;simp only[World.cell?,u];simp
theorem bK{w w':World}{B:Nat}{e:TypeId}{m:Nat}{v:Value}{n:Nat}{xs:List Value}(h:w.ownsRow B e m v n xs)(A:∀b,v.ownBlock=some b->b<w.heap.size->w'.heap[b]? =w.heap[b]?):w'.ownsRow B e m v n xs:=by
 refine⟨h.1,?_⟩;rcases h.2 with D|⟨g,y,z,rfl,C,u,rest⟩
 ·exact .inl D
 ·exact .inr ⟨g,y,z,rfl,C,(A g rfl (qW.1 u).1).trans u,rest⟩
theorem iK{w:World}{B:Nat}{e:TypeId}{m:Nat}{v:Value}{n:Nat}{xs:List Value}(h:w.ownsRow B e m v n xs):∀b,v.ownBlock=some b->b<w.heap.size:=by
 intro b y;rcases h.2 with⟨rfl,_⟩|⟨g,z,A,rfl,C,u,rest⟩
 ·cases y
 ·cases y;exact(qW.1 u).1
