/- Snapshots -/
import Derived.Test.YthillkfmdndedaaGreatDoorM19
set_option maxRecDepth 100000
set_option maxHeartbeats 64000000
set_option linter.all false
namespace Go.Proofs.YthillkfmdndedaaGreatDoor
open Go.ChangeShapes Go.WideShapes Go.ChangeAt Go.RowKit
structure mP where
 id:Int
 hash:List UInt8
 t:aS
structure qJ where
 l:List mP
 next:Int
 last:List UInt8
def EI:qJ:=⟨[],1,[]⟩
def EJ(K:aS->Prop)(o:Mark)(w:World)(vs:List Value)(x:mP):Prop:=
 ∃a c q,vs=[.int .i64 x.id,.slice a x.hash.length c,ptr q]/\x.hash.length<=c/\ah (λ b=>o b=0/\b<w.heap.size) w a x.hash.length (x.hash.map bv)/\dW o 0 w q x.t/\K x.t
def iB(K:aS->Prop)(o:Mark)(w:World):List Value->List mP->Prop
 |vs,[]=>vs=[]
 |vs,x::r=>∃u m,vs=u++m/\EJ K o w u x/\iB K o w m r
structure qx(K:aS->Prop)(o:Mark)(i:Nat)(w:World)(s:Nat)(S:qJ):Prop where
 at_:∃v la lc vals,w.heap[s]? =some (.cells #[v,.int .i64 S.next,.slice la S.last.length lc] 203 (0,0))/\o s=i/\s<w.heap.size/\
  w.ownsRow 0 201 3 v S.l.length vals/\(∀b,v.ownBlock=some b->o b=i/\b≠s/\b<w.heap.size)/\iB K o w vals S.l/\
  S.last.length<=lc/\ah (λ b=>o b=0/\b<w.heap.size) w la S.last.length (S.last.map bv)
abbrev BA:=iB fA
abbrev jD:=qx fA
theorem EJ.step{K:aS->Prop}{o z:Mark}{I:Nat->Prop}{w w':World}{vs:List Value}{x:mP}(h:EJ K o w vs x)(y:¬I 0)(m:Step o I w z w'):EJ K z w' vs x:=by
 obtain⟨a,c,q,D,B,F,A,E⟩:=h;exact⟨a,c,q,D,B,F.move m.keep.size λ b u C=>⟨⟨(m.old b u.2).trans u.1,Pd u.2 m.keep.size⟩,m.block u.2 (by rw[u.1];exact y)⟩,A.step y y m,E⟩
theorem iB.step{K:aS->Prop}{o m:Mark}{I:Nat->Prop}{w w':World}(y:¬I 0)(u:Step o I w m w'):∀{vs:List Value} {l:List mP},iB K o w vs l->iB K m w' vs l
 |_,[],h=>h
 |_,x::r,⟨C,A,D,z,B⟩=>⟨C,A,D,z.step y u,iB.step y u B⟩
theorem EJ.grow{K:aS->Prop}{o:Mark}{w w':World}{vs:List Value}{x:mP}(h:EJ K o w vs x)(u:Below w.heap.size w w'):EJ K o w' vs x:=by
 obtain⟨a,c,q,B,A,D,z,C⟩:=h;exact⟨a,c,q,B,A,D.move u.size λ b m y=>⟨⟨m.1,Pd m.2 u.size⟩,u.block b y⟩,z.grow u,C⟩
theorem iB.grow{K:aS->Prop}{o:Mark}{w w':World}(m:Below w.heap.size w w'):∀{vs:List Value} {l:List mP},iB K o w vs l->iB K o w' vs l
 |_,[],h=>h
 |_,x::r,⟨A,y,B,u,z⟩=>⟨A,y,B,u.grow m,iB.grow m z⟩
theorem EJ.len{K:aS->Prop}{o:Mark}{w:World}{vs:List Value}{x:mP}(h:EJ K o w vs x):vs.length=3:=by
 obtain⟨a,c,q,m,_⟩:=h;rw[m];rfl
theorem iB.len{K:aS->Prop}{o:Mark}{w:World}:∀{vs:List Value} {l:List mP},iB K o w vs l->vs.length=l.length*3
 |_,[],h=>by have m:_=[]:=h;rw[m];rfl
 |_,x::r,⟨A,z,m,u,y⟩=>by
  rw[m,List.length_append,u.len,y.len,List.length_cons];omega
theorem iB.append{K:aS->Prop}{o:Mark}{w:World}:∀{vs y:List Value} {l m:List mP},iB K o w vs l->iB K o w y m->iB K o w (vs++y) (l++m)
 |_,_,[],_,h,k=>by have u:_=[]:=h;rw[u];exact k
 |_,_,x::r,_,⟨C,A,u,z,B⟩,k=>⟨C,A++_,by rw[u,List.append_assoc],z,B.append k⟩
theorem iB.at_{K:aS->Prop}{o:Mark}{w:World}:∀{vs:List Value} {l:List mP} {k:Nat} {x:mP},iB K o w vs l->l[k]? =some x->∃a c q,vs[k*3]? =some (.int .i64 x.id)/\vs[k*3+1]? =some (.slice a x.hash.length c)/\vs[k*3+2]? =some (ptr q)/\x.hash.length<=c/\ah (λ b=>o b=0/\b<w.heap.size) w a x.hash.length (x.hash.map bv)/\dW o 0 w q x.t/\K x.t
 |_,[],k,x,_,m=>by simp at m
 |_,y::r,0,x,⟨I,H,A,z,F⟩,m=>by
  have B:y=x:=aat m;subst B;obtain⟨a,c,q,C,E,u,D,G⟩:=z;subst C A;exact⟨a,c,q,rfl,rfl,rfl,E,u,D,G⟩
 |_,y::r,k+1,x,⟨I,H,A,z,F⟩,m=>by
  obtain⟨a,c,q,C,E,u,D⟩:=iB.at_ F (k:=k) (x:=x) (by simpa using m);have J:=z.len;subst A;refine⟨a,c,q,?_,?_,?_,D⟩
  ·rw[aax (by omega),<-C];congr 1;omega
  ·rw[aax (by omega),<-E];congr 1;omega
  ·rw[aax (by omega),<-u];congr 1;omega
theorem iB.take{K:aS->Prop}{o:Mark}{w:World}:∀{vs:List Value} {l:List mP} (k:Nat),iB K o w vs l->iB K o w (vs.take (k*3)) (l.take k)
 |_,[],k,h=>by have m:_=[]:=h;rw[m];simp;exact rfl
 |_,y::r,0,_=>by simp;exact rfl
 |_,y::r,k+1,⟨B,z,m,u,A⟩=>by
  subst m;have C:=u.len;refine⟨B,z.take (k*3),?_,u,A.take k⟩;rw[List.take_append,List.take_of_length_le (by omega)];congr 2;omega
theorem iB.drop{K:aS->Prop}{o:Mark}{w:World}:∀{vs:List Value} {l:List mP} (k:Nat),iB K o w vs l->iB K o w (vs.drop (k*3)) (l.drop k)
 |_,[],k,h=>by have m:_=[]:=h;rw[m];simp;exact rfl
 |_,y::r,0,h=>by simpa using h
 |_,y::r,k+1,⟨B,C,m,z,A⟩=>by
  subst m;have D:=z.len;have u:=A.drop k;rw[List.drop_append,aay (by omega)];have e:(k+1)*3-B.length=k*3:=by omega
  rw[e];exact u
theorem qx.step{K:aS->Prop}{o D:Mark}{I:Nat->Prop}{j:Nat}{w w':World}{s:Nat}{S:qJ}(h:qx K o j w s S)(E:¬I 0)(C:¬I j)(m:Step o I w D w'):qx K D j w' s S:=by
 obtain⟨v,N,O,y,W,F,B,R,H,P,Q,U⟩:=h.at_;refine⟨v,N,O,y,(m.block B (by rw[F];exact C)).trans W,(m.old s B).trans F,Pd B m.keep.size,?_,λ b u=> ?_,P.step E m,Q,U.move m.keep.size λ b u V=>⟨⟨(m.old b u.2).trans u.1,Pd u.2 m.keep.size⟩,m.block u.2 (by rw[u.1];exact E)⟩⟩
 ·obtain⟨k1,k2⟩:=R;refine⟨k1,?_⟩;rcases k2 with k2|⟨g,z,A,G,Y,M,X⟩
  ·exact .inl k2
  ·have J:=H g (by rw[G];rfl);exact .inr ⟨g,z,A,G,Y,(m.block J.2.2 (by rw[J.1];exact C)).trans M,X⟩
 ·obtain⟨k1,k2,k3⟩:=H b u;exact⟨(m.old b k3).trans k1,k2,Pd k3 m.keep.size⟩
