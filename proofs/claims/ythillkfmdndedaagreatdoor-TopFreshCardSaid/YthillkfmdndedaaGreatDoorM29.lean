/- package -/
import Derived.Test.YthillkfmdndedaaGreatDoorM28
set_option maxRecDepth 100000
set_option maxHeartbeats 64000000
set_option linter.all false
namespace Go.Proofs.YthillkfmdndedaaGreatDoor
open Go.ChangeShapes Go.WideShapes Go.ChangeAt Go.RowKit
structure Mk5(i j k l n:Nat):Prop where
 mm:Mk i j k l
 ne:n≠0/\n≠i/\n≠j/\n≠k/\n≠l
def lV(o:Mark)(i j k l n:Nat)(w:World)(p:Nat)(q:tZ×dQ)(e:Ending)(w':World):Prop:=
 ∃u,BJ u q.1 e w'/\Step o (λ m=>m=i\/m=j\/m=k\/m=l\/m=n) w u w'/\bP u i j k w' p q.2
structure jF(W:World)(o:Mark)(i j k l n:Nat)(w:World)(p:Nat)(x:iI)(da:Mx)(dc:Nat)(o1:Mark)(w3:World)(M:dQ):Prop where
 mm:Mk5 i j k l n
 st:bP o1 i j k w3 p M
 marks:Marks W o1 w3
 step:Step o (λ m=>m=i\/m=j\/m=k\/m=l\/m=n) w o1 w3
 op:w3.heap[w.heap.size]? =some (.cells (opC x da dc) 32 (0,0))
 re:w3.heap[w.heap.size+1]? =some (.cells (eF (eD 0) none none 0 0) 38 (0,0))
 om:o1 w.heap.size=0
 rm:o1 (w.heap.size+1)=n
section
variable{W w w3 w4 w5:World}{o o1 o4:Mark}{i j k l n p:Nat}{M M':dQ}{x:iI}{da:Mx}{dc:Nat}
theorem jF.start(G:Mk5 i j k l n)(I:bP o i j k w p M)(E:Marks W o w)(x:iI)(da:Mx)(dc:Nat):∃o1,jF W o i j k l n w p x da dc o1 ((w.alloc (.cells (opC x da dc) 32)).alloc (.cells (eF (eD 0) none none 0 0) 38)) M:=by
 obtain⟨z,u⟩:∃z,z=(w.alloc (.cells (opC x da dc) 32)).alloc (.cells (eF (eD 0) none none 0 0) 38):=⟨_,rfl⟩;have D:Below w.heap.size w z:=by rw[u];exact(wall w _).trans ((wall _ _).mono (by simp))
 have C:z.heap[w.heap.size]? =some (.cells (opC x da dc) 32 (0,0)):=by
  rw[u];exact((wall _ _).block _ (by simp)).trans (MapKept.heap_alloc w _).1
 have A:z.heap[w.heap.size+1]? =some (.cells (eF (eD 0) none none 0 0) 38 (0,0)):=by
  rw[u];have:=(MapKept.heap_alloc (w.alloc (.cells (opC x da dc) 32)) (.cells (eF (eD 0) none none 0 0) 38)).1;rw[Pe]at this;exact this
 rw[<-u];obtain⟨H,O,J,Q,R⟩:=G.ne;obtain⟨o1,y,B,F⟩:=cK E n (λ b=>b=w.heap.size+1) (w':=z) (λ b K=>by subst K;exact⟨by omega,(qW.1 A).1⟩) D;exact⟨o1,G,I.step (λ e=>H e.symm) (λ e=>O e.symm) (λ e=>J e.symm) (λ e=>Q e.symm) y,E.step (λ e=>H e.symm) y,y.mono λ m N=> .inr (.inr (.inr (.inr N))),C,A,(F w.heap.size (by omega)).trans (Wy λ P=>by have:=(E.new _ P).2;omega),B _ rfl⟩
theorem jF.n0(m:Mk5 i j k l n):¬((0:Nat)=i\/0=j\/0=k\/0=l):=by
 obtain⟨u,A,z,y,-⟩:=m.mm.ne;omega
theorem jF.grow(h:jF W o i j k l n w p x da dc o1 w3 M)(m:Below w3.heap.size w3 w4):jF W o i j k l n w p x da dc o1 w4 M:=
 ⟨h.mm,h.st.grow h.marks m,h.marks.grow m,h.step.trans (Step.grow h.marks m),(m.block _ (qW.1 h.op).1).trans h.op,(m.block _ (qW.1 h.re).1).trans h.re,h.om,h.rm⟩
theorem jF.turn(h:jF W o i j k l n w p x da dc o1 w3 M)(u:Step o1 (λ m=>m=i\/m=j\/m=k\/m=l) w3 o4 w4)(B:bP o4 i j k w4 p M'):jF W o i j k l n w p x da dc o4 w4 M':=by
 obtain⟨D,E,F,G,H⟩:=h.mm.ne;have y:=jF.n0 h.mm;have z:=(qW.1 h.re).1;have A:=(qW.1 h.op).1;refine⟨h.mm,B,h.marks.step y u,h.step.trans (u.mono λ m C=>by omega),(u.block A (by rw[h.om];exact y)).trans h.op,(u.block z (by rw[h.rm];omega)).trans h.re,(u.old _ A).trans h.om,(u.old _ z).trans h.rm⟩
theorem jF.stays(h:jF W o i j k l n w p x da dc o1 w3 M)(y:Step o1 (λ m=>m=i\/m=j\/m=k\/m=l) w3 o4 w4){b:Nat}(u:o1 b=0/\b<w3.heap.size):w4.heap[b]? =w3.heap[b]? :=y.block u.2 (by rw[u.1];exact jF.n0 h.mm)
theorem jF.opb(h:jF W o i j k l n w p x da dc o1 w3 M):o1 w.heap.size=0/\w.heap.size<w3.heap.size:=⟨h.om,(qW.1 h.op).1⟩
theorem jF.Ro(h:jF W o i j k l n w p x da dc o1 w3 M):∃t,w3.cell? ⟨p,0,none⟩=some (ptr t)/\dW o1 j w3 t M.t/\∀o4 w4 y,Step o1 (λ m=>m=j) w3 o4 w4->dW o4 j w4 t y->jF W o i j k l n w p x da dc o4 w4 (M.tr y)/\w4.heap[p]? =w3.heap[p]? :=by
 obtain⟨t,s,v,z,B,F,A⟩:=h.st.at_;obtain⟨N,P,O,H,J,K,I,E,Q,C⟩:=h.mm.mm.ne;exact⟨t,(gV z).1,F,λ o4 w4 y u G=>⟨h.turn (u.mono λ m D=> .inr (.inl D)) (bP.tree (M:=M) h.mm.mm z B A h.st.own h.st.low u G),u.block h.st.low (by rw[h.st.own];exact λ e=>E e.symm)⟩⟩
theorem jF.callS(h:jF W o i j k l n w p x da dc o1 w3 M):∃t s,w3.cell? ⟨p,0,none⟩=some (ptr t)/\w3.cell? ⟨p,1,none⟩=some (ptr s)/\w3.cell? ⟨p,2,none⟩=some (.int .u64 M.now)/\dW o1 j w3 t M.t/\jD o1 i w3 s M.s/\∀o4 w4 S',Step o1 (λ m=>m=i) w3 o4 w4->jD o4 i w4 s S'->jF W o i j k l n w p x da dc o4 w4 (M.sn S')/\w4.heap[p]? =w3.heap[p]? :=by
 obtain⟨t,s,v,A,J,B,I⟩:=h.st.at_;obtain⟨O,Q,U,P,E,F,R,V,S,N⟩:=h.mm.mm.ne;obtain⟨z0,K,H,-⟩:=gV A;refine⟨t,s,z0,K,H,B,J,λ o4 w4 S' u D=> ?_⟩;have z:¬(λ m=>m=i) 0:=λ e=>O e.symm;have y:=u.block h.st.low (by rw[h.st.own];exact λ e=>F e.symm);exact⟨h.turn (u.mono λ m G=> .inl G) ⟨⟨t,s,v,y.trans A,D,B.step z (λ e=>E e.symm) u,λ q C=>(I q C).step z u⟩,(u.old p h.st.low).trans h.st.own,Pd h.st.low u.keep.size⟩,y⟩
theorem jF.clock(h:jF W o i j k l n w p x da dc o1 w3 M)(u:Int):w3.cell? ⟨p,2,none⟩=some (.int .u64 M.now)/\w3.frozen? ⟨p,2,none⟩=false/\jF W o i j k l n w p x da dc o1 (w3.setCell ⟨p,2,none⟩ (.int .u64 u)) {M with now:=u}:=by
 obtain⟨Y,R,I,P,Q,D,S,J,U,H⟩:=h.mm.mm.ne;obtain⟨t,s,v,C,G,N,F⟩:=h.st.at_;obtain⟨z0,X,E,z3,z4⟩:=gV C;have O:=size_set w3 ⟨p,2,none⟩ (.int .u64 u);have y:Step o1 (λ m=>m=k) w3 o1 (w3.setCell ⟨p,2,none⟩ (.int .u64 u)):=⟨λ _ _=>rfl,λ b V K=>absurd (h.marks.new b K).2 (by omega),(Keeps.jy w3 ⟨p,2,none⟩ _).mono λ x _ B=>by
  have B:x=p:=B;rw[B];exact h.st.own⟩
 have A:¬(λ m=>m=k) 0:=λ e=>I e.symm;refine⟨E,z4 2,h.turn (y.mono λ m z=> .inr (.inr (.inl z))) ⟨⟨t,s,v,?_,G.step A D y,N.step A J y,λ m z=>(F m z).step A y⟩,h.st.own,by have:=h.st.low;omega⟩⟩;have:=aG (i:=2) (v:= .int .u64 u) C;rw[st_now]at this;exact this
theorem Um(a b:Int)(w:World):Dy 70 #[.int .u64 a,.int .u64 b] w λ e w'=>e= .returned (.int .u64 (sH a b))/\Below w.heap.size w w':=by
 refine(XJ a b w).mono ?_;rintro e w' ⟨rfl,rfl⟩;refine⟨?_,Below.refl _ _⟩;have:EY a b=sH a b:=by
  unfold EY sH;split
  ·by_cases h:a<=b
   ·rw[if_pos h];omega
   ·rw[if_neg h];omega
  ·rfl
 rw[this]
theorem jF.fin{r:tZ}{z A:Mx}{B C:Nat}(h:jF W o i j k l n w p x da dc o1 w4 M)(E:jK w4 (w.heap.size+1) (eF r z A B C) 38 w5)(k1:r.data.length<=B)(k2:r.names.length<=C)(k3:ah (Free o1 w4) w4 z r.data.length (r.data.map bv))(D:aW (Free o1 w4) w4 A r.names.length (r.names.map strOf)):
  lV o i j k l n w p (r,M) (.returned (.agg (eF r z A B C))) w5:=by
 obtain⟨F,I,G,J,K⟩:=h.mm.ne;have u:=E.step h.marks h.rm;have y:¬(λ m=>m=n) 0:=λ e=>F e.symm;exact⟨o1,⟨_,rfl,z,A,B,C,rfl,k1,k2,k3.free y u,⟨D.row.free y u,D.short⟩⟩,h.step.trans (u.mono λ m H=> .inr (.inr (.inr (.inr H)))),h.st.step y (λ e=>I e.symm) (λ e=>G e.symm) (λ e=>J e.symm) u⟩
theorem jF.Dr{r:tZ}(h:jF W o i j k l n w p x da dc o1 w4 M)(m:jK w4 (w.heap.size+1) (eF r none none 0 0) 38 w5)(k1:r.data=[])(k2:r.names=[]):
  lV o i j k l n w p (r,M) (.returned (.agg (eF r none none 0 0))) w5:=
 h.fin m (by rw[k1];exact Nat.le_refl _) (by rw[k2];exact Nat.le_refl _) (by rw[k1];exact ah.nil _ _ _) (by rw[k2];exact jT _ _)
end
theorem BQ{a:I8}(h:(aT a).2=0):(aT a).1.length<=8:=by
 cases a with
 |nil=>simp[aT]
 |cons c r=>
  by_cases u:c≠47
  ·simp[aT,u]
  ·by_cases y:r=[]
   ·have e:aT (c::r)=([],0):=by unfold aT;dsimp only;rw[if_neg u,if_pos y]
    rw[e];simp
   ·by_cases m:bN (dJ r)=0
    ·have e:aT (c::r)=(dJ r,0):=by unfold aT;dsimp only;rw[if_neg u,if_neg y,if_pos m]
     rw[e];unfold bN at m;split at m
     ·simp at m
     ·split at m
      ·simp at m
      ·dsimp only;omega
    ·have e:aT (c::r)=([],bN (dJ r)):=by unfold aT;dsimp only;rw[if_neg u,if_neg y,if_neg m]
     rw[e];simp
theorem fu.zero{w w':World}{e:Ending}{u:Int}(h:fu w ([],u) e w'):∃a c,e= .returned (.tuple #[.slice a 0 c,.int .i64 u])/\Below w.heap.size w w':=by
 obtain⟨a,n,c,vs,z,m,C,A,B,y⟩:=h;have m:n=0:=m;subst m;exact⟨a,c,z,y⟩
structure Un(B:Nat)(w:World)(b off:Nat)(q:List Nm)(a0:Mx)(c0:Nat):Prop where
 cell:w.cell? ⟨b,off,none⟩=some (.slice a0 q.length c0)
 cap:q.length<=c0
 strs:aW (λ b=>B<=b/\b<w.heap.size) w a0 q.length (q.map strOf)
theorem fu.one{w w':World}{e:Ending}{q:List Nm}(h:fu w ([q],0) e w'):∃b m c a0 A,e= .returned (.tuple #[.slice (some ⟨b,m,none⟩) 1 c,.int .i64 0])/\w.heap.size<=b/\b<w'.heap.size/\Un w.heap.size w' b m q a0 A/\Below w.heap.size w w':=by
 obtain⟨a,n,c,vs,E,y,I,B,H,G⟩:=h;have y:n=1:=y;subst y;obtain⟨b,m,rfl,D,z,C⟩:=B.at_ (by omega);obtain⟨u,F,a0,A,rfl,k2,k3⟩:=H.2 0 q rfl;exact⟨b,m,c,a0,A,E,D.1,z,⟨(C 0 (by omega)).trans F,k2,k3⟩,G⟩
theorem fu.two{w w':World}{e:Ending}{q y:List Nm}(h:fu w ([q,y],0) e w'):∃b m c a0 z C A,e= .returned (.tuple #[.slice (some ⟨b,m,none⟩) 2 c,.int .i64 0])/\w.heap.size<=b/\b<w'.heap.size/\Un w.heap.size w' b m q a0 z/\Un w.heap.size w' b (m+1) y C A/\Below w.heap.size w w':=by
 obtain⟨a,n,c,vs,O,D,Q,M,I,K⟩:=h;have D:n=2:=D;subst D;obtain⟨b,m,rfl,N,E,H⟩:=M.at_ (by omega);obtain⟨u,J,a0,z,rfl,k2,k3⟩:=I.2 0 q rfl;obtain⟨P,F,C,A,rfl,B,G⟩:=I.2 1 y rfl;exact⟨b,m,c,a0,z,C,A,O,N.1,E,⟨(H 0 (by omega)).trans J,k2,k3⟩,⟨(H 1 (by omega)).trans F,B,G⟩,K⟩
theorem Px{a:I8}(h:(gB [a]).2=0):gB [a]=([(aT a).1],0)/\(aT a).2=0:=by
 unfold gB at h⊢;by_cases m:(aT a).2≠0
 ·rw[if_pos m]at h;exact absurd h m
 ·rw[if_neg m];exact⟨rfl,by simpa using m⟩
theorem Py{a b:I8}(h:(gB [a,b]).2=0):gB [a,b]=([(aT a).1,(aT b).1],0)/\(aT a).2=0/\(aT b).2=0:=by
 by_cases m:(aT a).2=0
 ·by_cases y:(aT b).2=0
  ·refine⟨yR _ λ t z=> ?_,m,y⟩;simp only[List.mem_cons,aaX,abM]at z;rcases z with rfl|rfl
   ·exact m
   ·exact y
  ·rw[oH [a,b] 1 b rfl (λ x u=>by simp at u;rw[u];exact m) y]at h;exact absurd h y
 ·rw[oH [a,b] 0 a rfl (λ x u=>by simp at u) m]at h;exact absurd h m
theorem bL{P:Program}{B:Array Oper}{o:Oper}{a:Act}{w:World}{K:Act->World->Prop}{Q:Exit->Act->World->Prop}{E:Prop}(C:o.guard=none)(z:TypeId)(x y:Operand)(J:o.op= .store z x y)
  (g:Nat)(m:Array Value)(G:a.eval x= .pointer (some ⟨g,0,none⟩))(I:a.eval y= .agg m)
  (u:Array Value)(D:w.heap[g]? =some (.cells u z (0,0)))(M:(P.info? z).map (·.size)=some m.size)
  (A:u.size=m.size)(H:m.all (·.oneCell')=true)
  (h:∀w',jK w g m z w'->K (a.put o.dst undef) w'):if Region.wanted o (yielded B a.tmps)=true then Oper.wp P o a w K Q else E:=by
 have F:Region.wanted o (yielded B a.tmps)=true:=by simp[Region.wanted,C]
 rw[if_pos F];exact wp_store_row z x y J g m G I z u D M A H (h _ (yJ w g u m z D))
structure uj(S:Nat->Prop)(W:World)(o:Mark)(i j k l n:Nat)(w:World)(p:Nat)(M:dQ)(cc:Int)(x:iI)(da:Mx)(dc:Nat)(m:Int):Prop where
 st:bP o i j k w p M
 marks:Marks W o w
 m5:Mk5 i j k l n
 ok:iJ cc M
 few:cc<=1000000000
 op:wM x
 row:ah S w da x.data.length (x.data.map bv)
 max:w.cell? ⟨2,0,none⟩=some (.int .i64 m)
 paths:(fE x).2=0
section
variable{W w w2 w3:World}{o o1:Mark}{i j k l n p:Nat}{M:dQ}{x:iI}{da:Mx}{dc:Nat}{S:Nat->Prop}{cc m:Int}{e:Ending}{q q':List Nm}
theorem uj.pre(h:uj S W o i j k l n w p M cc x da dc m):∃o1 w2,acr (jF W o i j k l n w p x da dc o1 w2 M)/\acr (ah S w2 da x.data.length (x.data.map bv))/\acr (Dy 54 #[ptr p,.agg (opC x da dc)] ((w.alloc (.cells (opC x da dc) 32)).alloc (.cells (eF (eD 0) none none 0 0) 38)) (fu w2 (fE x)))/\acr (iJ cc M)/\acr (wM x)/\acr (Mk5 i j k l n)/\cc<=1000000000:=by
 obtain⟨o1,y⟩:=jF.start h.m5 h.st h.marks x da dc;have u:Below w.heap.size w ((w.alloc (.cells (opC x da dc) 32)).alloc (.cells (eF (eD 0) none none 0 0) 38)):=(wall w _).trans ((wall _ _).mono (by simp));exact⟨o1,_,y,h.row.below u acs,IC p _ x da dc h.op m ((u.cell (p:=⟨2,0,none⟩) (aal w _ h.max)).trans h.max),h.ok,h.op,h.m5,h.few⟩
theorem jF.none_(h:jF W o i j k l n w p x da dc o1 w2 M)(A:fu w2 ([],0) e w3)(z:ah S w2 da x.data.length (x.data.map bv)):∃a3 m,e= .returned (.tuple #[.slice a3 0 m,.int .i64 0])/\acr (jF W o i j k l n w p x da dc o1 w3 M)/\acr (Below w2.heap.size w2 w3)/\acr (ah S w3 da x.data.length (x.data.map bv))/\w3.cell? ⟨w.heap.size,0,none⟩=some (.int .i64 x.kind):=by
 obtain⟨a3,m,B,u⟩:=A.zero;have y:=h.grow u;exact⟨a3,m,B,y,u,z.below u acs,by simp[World.cell?,y.op,opC]⟩
theorem jF.one(h:jF W o i j k l n w p x da dc o1 w2 M)(F:fu w2 ([q],0) e w3)(D:ah S w2 da x.data.length (x.data.map bv)):∃b m y a0 u,e= .returned (.tuple #[.slice (some ⟨b,m,none⟩) 1 y,.int .i64 0])/\acr (jF W o i j k l n w p x da dc o1 w3 M)/\acr (Below w2.heap.size w2 w3)/\acr (o1 b=0/\b<w3.heap.size)/\acr (Un w2.heap.size w3 b m q a0 u)/\acr (ah S w3 da x.data.length (x.data.map bv))/\w3.cell? ⟨w.heap.size,0,none⟩=some (.int .i64 x.kind)/\w3.cell? ⟨b,m,none⟩=some (.slice a0 q.length u):=by
 obtain⟨b,m,y,a0,u,G,H,A,B,z⟩:=F.one;have C:=h.grow z;exact⟨b,m,y,a0,u,G,C,z,⟨Wy λ E=>by have:=(h.marks.new b E).2;omega,A⟩,B,D.below z acs,by simp[World.cell?,C.op,opC],B.cell⟩
theorem jF.two(h:jF W o i j k l n w p x da dc o1 w2 M)(H:fu w2 ([q,q'],0) e w3)(G:ah S w2 da x.data.length (x.data.map bv)):∃b m D a0 y A z,e= .returned (.tuple #[.slice (some ⟨b,m,none⟩) 2 D,.int .i64 0])/\acr (jF W o i j k l n w p x da dc o1 w3 M)/\acr (Below w2.heap.size w2 w3)/\acr (o1 b=0/\b<w3.heap.size)/\acr (Un w2.heap.size w3 b m q a0 y)/\acr (Un w2.heap.size w3 b (m+1) q' A z)/\acr (ah S w3 da x.data.length (x.data.map bv))/\w3.cell? ⟨w.heap.size,0,none⟩=some (.int .i64 x.kind)/\w3.cell? ⟨b,m,none⟩=some (.slice a0 q.length y)/\w3.cell? ⟨b,m+1,none⟩=some (.slice A q'.length z):=by
 obtain⟨b,m,D,a0,y,A,z,I,J,C,E,u,B⟩:=H.two;have F:=h.grow B;exact⟨b,m,D,a0,y,A,z,I,F,B,⟨Wy λ K=>by have:=(h.marks.new b K).2;omega,C⟩,E,u,G.below B acs,by simp[World.cell?,F.op,opC],E.cell,u.cell⟩
theorem um(M:dQ)(e:fE x=([],0)):dA M x=Ui M x [] []:=by unfold dA;rw[e];rfl
theorem wO(M:dQ)(e:fE x=gB [x.path])(u:(fE x).2=0):∃m,fE x=([m],0)/\dA M x=Ui M x m []/\m.length<=8:=by
 rw[e]at u;obtain⟨y,z⟩:=Px u;exact⟨_,e.trans y,by unfold dA;rw[e,y];rfl,BQ z⟩
theorem X7(M:dQ)(e:fE x=gB [x.path,x.bT])(y:(fE x).2=0):∃u m,fE x=([u,m],0)/\dA M x=Ui M x u m/\u.length<=8/\m.length<=8:=by
 rw[e]at y;obtain⟨z,A,B⟩:=Py y;exact⟨_,_,e.trans z,by unfold dA;rw[e,z];rfl,BQ A,BQ B⟩
end
section
variable{W w:World}{o:Mark}{i j k l n p:Nat}{M:dQ}{S:Nat->Prop}{cc m:Int}{pa bT:I8}{fd at_ nn aL sn:Int}{dt:I8}{da:Mx}{dc:Nat}
theorem sdo_k1(h:uj S W o i j k l n w p M cc ⟨1,pa,bT,fd,at_,nn,aL,sn,dt⟩ da dc m):
  Dy 21 #[ptr p,.agg (opC ⟨1,pa,bT,fd,at_,nn,aL,sn,dt⟩ da dc)] w (lV o i j k l n w p (dA M ⟨1,pa,bT,fd,at_,nn,aL,sn,dt⟩)):=by
 obtain⟨o1,w2,E,O,F,h_,HX,HK,V⟩:=h.pre;obtain⟨G,C,u,av⟩:=wO M rfl h.paths;rw[C]at F;unfold opC eF eD at F;dsimp only[List.length_nil]at F O;have J:=acp u;clear h C u;unfold opC;go_enter aaQ,aaL;go_wp2_with fail;refine F.o.mono ?_;clear F;intro e w3 D;obtain⟨b,ak,c3,a0,Y,rfl,H,X,yu,U,Z,g0,aA⟩:=E.o.one D O.o;dsimp only at g0 Z;clear D E O;have u:dA M ⟨1,pa,bT,fd,at_,nn,aL,sn,dt⟩=jU M G:=J.o;replace J:=acp u;clear u;obtain⟨N,y⟩:∃N,N=jU M G:=⟨_,rfl⟩;have K:=acp (L_ H.o.st H.o.marks H.o.mm.mm h_.o.t.1 a0 G.length Y G U.o.strs U.o.cap (by omega));rw[<-y]at K;rw[<-y]at J;clear y;go_wp2_with fail;refine K.o.mono ?_;rintro e w4 ⟨o4,⟨v4,rfl,yU,yV,yX,yY,rfl,k1,k2,k3,P⟩,B,Q⟩;have A:=acp (H.o.turn B Q);have I:=acp (And.intro k1 (And.intro k2 (And.intro k3 P)));clear k1 k2 k3 P B Q K;go_wp2_with (refine aj (by rfl) 38 _ _ (by rfl) (w.heap.size+1) (eF (N.1) yU yV yX yY) (by rfl) (by rfl) _ A.o.re bC rfl (bE _ _ _ _ _) ?_;intro w5 z;have R:=acp z;clear z);exact bI rfl rfl rfl R.o.1 (by rw[J.o];exact A.o.fin R.o I.o.1 I.o.2.1 I.o.2.2.1 I.o.2.2.2)
theorem sdo_k2(h:uj S W o i j k l n w p M cc ⟨2,pa,bT,fd,at_,nn,aL,sn,dt⟩ da dc m):
  Dy 21 #[ptr p,.agg (opC ⟨2,pa,bT,fd,at_,nn,aL,sn,dt⟩ da dc)] w (lV o i j k l n w p (dA M ⟨2,pa,bT,fd,at_,nn,aL,sn,dt⟩)):=by
 obtain⟨o1,w2,F,X,G,h_,HX,HK,aA⟩:=h.pre;obtain⟨A,C,y,av⟩:=wO M rfl h.paths;rw[C]at G;unfold opC eF eD at G;dsimp only[List.length_nil]at G X;have P:=acp y;clear h C y;unfold opC;go_enter aaQ,aaL;go_wp2_with fail;refine G.o.mono ?_;clear G;intro e Z I;obtain⟨b,E,c3,a0,Q,rfl,HD,ak,yu,zD,lC,g0,N⟩:=F.o.one I X.o;dsimp only at g0 lC;clear I F X;have Y:=acp (HD.o.grow acu.drew);have t_:=Y.o.marks;have yZ:=acp (zD.o.strs.below acu.drew acs);obtain⟨t,z0,Dl,B⟩:=Y.o.Ro;have Pz:Z.cell? ⟨p,0,none⟩=some (ptr t):=z0;have Nu:=acp B;have y:dA M ⟨2,pa,bT,fd,at_,nn,aL,sn,dt⟩=(eD (dF M.t A 2).1.2,M.tr (dF M.t A 2).2):=P.o;replace P:=acp y;clear y;have HC:=acp (Q6 Dl t_ HK.o.mm.ne.2.1 h_.o.t.1 a0 A.length Q A 2 yZ.o zD.o.cap (by omega));obtain⟨U,O⟩:∃U,U=dF M.t A 2:=⟨_,rfl⟩;rw[<-O]at HC P;clear O B Dl t_ z0;go_wp2_with fail;refine su ((λ w'=>w'.cell? ⟨p,0,none⟩=some (ptr t)/\w'.cell? ⟨b,E,none⟩=some (.slice a0 A.length Q))) ?_ λ u=> ?_
 ·exact⟨Pz,N⟩
 refine aM 0 u ?_;refine aM 1 u ?_;refine aM 2 u ?_;refine aM 3 u ?_;refine aM 4 u ?_;refine aM 5 u ?_;refine aM 6 u ?_;refine lJ 7 λ K hK=> ?_;go_simp;refine HC.o.mono ?_;rintro e V ⟨rfl,o4,z,sP⟩;obtain⟨D,AP⟩:=Nu.o _ _ _ z sP;have R:=acp D;have J:V.heap[b]? =Z.heap[b]? :=Y.o.stays (z.mono λ m hm=> .inr (.inl hm)) yu.o;have uo:V.heap[p]? =Z.heap[p]? :=AP;clear D z sP AP HC;have jl:acr ((λ w'=>w'.cell? ⟨p,0,none⟩=some (ptr t)/\w'.cell? ⟨b,E,none⟩=some (.slice a0 A.length Q)) V):=⟨(World.cell?_of_block uo).trans Pz,(World.cell?_of_block J).trans N⟩;clear J uo;go_wp2_with fail;refine kV hK (jl.o) λ u=> ?_;clear hK K;refine aM 8 u ?_;refine aM 9 u ?_;refine aM 10 u ?_;refine aM 11 u ?_;refine aM 12 u ?_;refine rH ?_;go_wp2_with fail;refine(g_ _ _).mono ?_;rintro e w9 ⟨rfl,dG⟩;unfold AU;have Al:=acp (R.o.grow dG);clear dG;go_wp2_with (refine aj (by rfl) 38 _ _ (by rfl) (w.heap.size+1) (eF (eD (U.1.2)) none none 0 0) (by rfl) (by rfl) _ Al.o.re bC rfl (bE _ _ _ _ _) ?_;intro w5 H;have gL:=acp H;clear H);exact bI rfl rfl rfl gL.o.1 (by rw[P.o];exact Al.o.Dr gL.o rfl rfl)
theorem sdo_k3(h:uj S W o i j k l n w p M cc ⟨3,pa,bT,fd,at_,nn,aL,sn,dt⟩ da dc m):
  Dy 21 #[ptr p,.agg (opC ⟨3,pa,bT,fd,at_,nn,aL,sn,dt⟩ da dc)] w (lV o i j k l n w p (dA M ⟨3,pa,bT,fd,at_,nn,aL,sn,dt⟩)):=by
 obtain⟨o1,w2,F,Y,G,h_,HX,HK,aA⟩:=h.pre;obtain⟨A,D,u,av⟩:=wO M rfl h.paths;rw[D]at G;unfold opC eF eD at G;dsimp only[List.length_nil]at G Y;have R:=acp u;clear h D u;unfold opC;go_enter aaQ,aaL;go_wp2_with fail;refine G.o.mono ?_;clear G;intro e Z J;obtain⟨b,E,c3,a0,U,rfl,HD,ak,yu,zD,lC,g0,O⟩:=F.o.one J Y.o;dsimp only at g0 lC;clear J F Y;have B:=acp (HD.o.grow acu.drew);have t_:=B.o.marks;have yZ:=acp (zD.o.strs.below acu.drew acs);have u:dA M ⟨3,pa,bT,fd,at_,nn,aL,sn,dt⟩=jE M A sn:=R.o;replace R:=acp u;clear u;have HC:=acp (TW B.o.st t_ HK.o.mm h_.o.t.1 (by have:=h_.o.s.few;omega) a0 A.length U A yZ.o sn (λ T hT=>Ak (h_.o.JO hT).1 A));obtain⟨V,P⟩:∃V,V=jE M A sn:=⟨_,rfl⟩;have g7:Z.cell? ⟨w.heap.size,7,none⟩=some (.int .i64 sn):=by simp[World.cell?,HD.o.op,opC]
 rw[<-P]at HC R;clear P t_;go_wp2_with fail;refine vJ 7 ((λ w'=>w'.cell? ⟨b,E,none⟩=some (.slice a0 A.length U)/\w'.cell? ⟨w.heap.size,7,none⟩=some (.int .i64 sn))) ?_ λ z=> ?_
 ·exact⟨O,g7⟩
 refine aO 0 z ?_;refine aO 1 z ?_;refine aO 2 z ?_;refine aO 3 z ?_;refine aO 4 z ?_;refine aO 5 z ?_;refine cu 6 λ K I=> ?_;go_simp;refine HC.o.mono ?_;rintro e X ⟨o4,⟨v4,rfl,yU,yV,yX,yY,rfl,k1,k2,k3,k4⟩,y,pF⟩;have C:=acp (B.o.turn y pF);have Q:=acp (And.intro k1 (And.intro k2 (And.intro k3 k4)));have N:X.heap[b]? =Z.heap[b]? :=B.o.stays y yu.o;have nG:X.heap[w.heap.size]? =Z.heap[w.heap.size]? :=B.o.stays y B.o.opb;clear k1 k2 k3 k4 y pF HC;have jl:acr ((λ w'=>w'.cell? ⟨b,E,none⟩=some (.slice a0 A.length U)/\w'.cell? ⟨w.heap.size,7,none⟩=some (.int .i64 sn)) X):=⟨(World.cell?_of_block N).trans O,(World.cell?_of_block nG).trans g7⟩;clear N nG;go_wp2_with fail;refine b_ I (jl.o) λ z=> ?_;clear I K;refine cu 7 λ K I=> ?_;refine bL rfl 38 _ _ rfl (w.heap.size+1) (eF (V.1) yU yV yX yY) rfl rfl _ C.o.re bC rfl (bE _ _ _ _ _) ?_;intro w5 H;have gL:=acp H;clear H;refine o_ I ?_;clear z I K;go_wp2_with fail;exact bI rfl rfl rfl gL.o.1 (by rw[R.o];exact C.o.fin gL.o Q.o.1 Q.o.2.1 Q.o.2.2.1 Q.o.2.2.2)
theorem sdo_k4(h:uj S W o i j k l n w p M cc ⟨4,pa,bT,fd,at_,nn,aL,sn,dt⟩ da dc m):
  Dy 21 #[ptr p,.agg (opC ⟨4,pa,bT,fd,at_,nn,aL,sn,dt⟩ da dc)] w (lV o i j k l n w p (dA M ⟨4,pa,bT,fd,at_,nn,aL,sn,dt⟩)):=by
 obtain⟨o1,w2,E,O,H,h_,HX,HK,R⟩:=h.pre;have A:fE ⟨4,pa,bT,fd,at_,nn,aL,sn,dt⟩=([],0):=rfl;have u:=um M A;rw[A]at H;unfold opC eF eD at H;dsimp only[List.length_nil]at H O;have K:=acp u;clear h A u;unfold opC;go_enter aaQ,aaL;go_wp2_with fail;refine H.o.mono ?_;clear H;intro e z D;obtain⟨a3,c3,rfl,y,U,X,g0⟩:=E.o.none_ D O.o;dsimp only at g0 X;clear D E O;have u:dA M ⟨4,pa,bT,fd,at_,nn,aL,sn,dt⟩=(wN M ⟨4,pa,bT,fd,at_,nn,aL,sn,dt⟩,M):=K.o;replace K:=acp u;clear u;obtain⟨N,G⟩:∃N,N=wN M ⟨4,pa,bT,fd,at_,nn,aL,sn,dt⟩:=⟨_,rfl⟩;have I:=acp (TT y.o.st y.o.marks ⟨4,pa,bT,fd,at_,nn,aL,sn,dt⟩ HX.o (λ q f V=>by have:=(h_.o.fd q f V).2.2;omega) da dc);unfold opC at I;rw[<-G]at I K;clear G;have g1:z.cell? ⟨w.heap.size,1,none⟩=some (.string (strOf pa)):=by simp[World.cell?,y.o.op,opC]
 have g2:z.cell? ⟨w.heap.size,2,none⟩=some (.string (strOf bT)):=by simp[World.cell?,y.o.op,opC]
 have g3:z.cell? ⟨w.heap.size,3,none⟩=some (.int .i64 fd):=by simp[World.cell?,y.o.op,opC]
 have g4:z.cell? ⟨w.heap.size,4,none⟩=some (.int .i64 at_):=by simp[World.cell?,y.o.op,opC]
 have g5:z.cell? ⟨w.heap.size,5,none⟩=some (.int .i64 nn):=by simp[World.cell?,y.o.op,opC]
 have g6:z.cell? ⟨w.heap.size,6,none⟩=some (.int .u64 aL):=by simp[World.cell?,y.o.op,opC]
 have g7:z.cell? ⟨w.heap.size,7,none⟩=some (.int .i64 sn):=by simp[World.cell?,y.o.op,opC]
 have g8:z.cell? ⟨w.heap.size,8,none⟩=some (.slice da dt.length dc):=by simp[World.cell?,y.o.op,opC]
 go_wp2_with fail;refine I.o.mono ?_;rintro e w4 ⟨⟨v4,rfl,Z,yV,yX,Y,rfl,k1,k2,k3,P⟩,F⟩;have C:=acp (y.o.grow F);have J:=acp (And.intro k1 (And.intro k2 (And.intro k3 P)));clear k1 k2 k3 P I F;go_wp2_with (refine aj (by rfl) 38 _ _ (by rfl) (w.heap.size+1) (eF (N) Z yV yX Y) (by rfl) (by rfl) _ C.o.re bC rfl (bE _ _ _ _ _) ?_;intro w5 B;have Q:=acp B;clear B);exact bI rfl rfl rfl Q.o.1 (by rw[K.o];exact C.o.fin Q.o J.o.1 J.o.2.1 J.o.2.2.1 J.o.2.2.2)
end
section
variable{W w:World}{o:Mark}{i j k l n p:Nat}{M:dQ}{S:Nat->Prop}{cc m:Int}{pa bT:I8}{fd at_ nn aL sn:Int}{dt:I8}{da:Mx}{dc:Nat}
theorem sdo_k5(h:uj S W o i j k l n w p M cc ⟨5,pa,bT,fd,at_,nn,aL,sn,dt⟩ da dc m):
  Dy 21 #[ptr p,.agg (opC ⟨5,pa,bT,fd,at_,nn,aL,sn,dt⟩ da dc)] w (lV o i j k l n w p (dA M ⟨5,pa,bT,fd,at_,nn,aL,sn,dt⟩)):=by
 obtain⟨o1,w2,F,P,H,O,HX,HK,Y⟩:=h.pre;have A:fE ⟨5,pa,bT,fd,at_,nn,aL,sn,dt⟩=([],0):=rfl;have y:=um M A;rw[A]at H;unfold opC eF eD at H;dsimp only[List.length_nil]at H P;have K:=acp y;clear h A y;unfold opC;go_enter aaQ,aaL;go_wp2_with fail;refine H.o.mono ?_;clear H;intro e z E;obtain⟨a3,c3,rfl,u,Z,X,g0⟩:=F.o.none_ E P.o;dsimp only at g0 X;clear E F P;have y:dA M ⟨5,pa,bT,fd,at_,nn,aL,sn,dt⟩=kr M ⟨5,pa,bT,fd,at_,nn,aL,sn,dt⟩:=K.o;replace K:=acp y;clear y;obtain⟨N,G⟩:∃N,N=kr M ⟨5,pa,bT,fd,at_,nn,aL,sn,dt⟩:=⟨_,rfl⟩;have I:=acp (Pf u.o.st u.o.marks u.o.mm.mm O.o.t.1 ⟨5,pa,bT,fd,at_,nn,aL,sn,dt⟩ HX.o (λ q f V=>gG (by have:=O.o.fd q f V;have:=this.1;omega) (by have:=O.o.fd q f V;have:=this.2.1;omega)) da dc X.o);unfold opC at I;rw[<-G]at I K;clear G;have g1:z.cell? ⟨w.heap.size,1,none⟩=some (.string (strOf pa)):=by simp[World.cell?,u.o.op,opC]
 have g2:z.cell? ⟨w.heap.size,2,none⟩=some (.string (strOf bT)):=by simp[World.cell?,u.o.op,opC]
 have g3:z.cell? ⟨w.heap.size,3,none⟩=some (.int .i64 fd):=by simp[World.cell?,u.o.op,opC]
 have g4:z.cell? ⟨w.heap.size,4,none⟩=some (.int .i64 at_):=by simp[World.cell?,u.o.op,opC]
 have g5:z.cell? ⟨w.heap.size,5,none⟩=some (.int .i64 nn):=by simp[World.cell?,u.o.op,opC]
 have g6:z.cell? ⟨w.heap.size,6,none⟩=some (.int .u64 aL):=by simp[World.cell?,u.o.op,opC]
 have g7:z.cell? ⟨w.heap.size,7,none⟩=some (.int .i64 sn):=by simp[World.cell?,u.o.op,opC]
 have g8:z.cell? ⟨w.heap.size,8,none⟩=some (.slice da dt.length dc):=by simp[World.cell?,u.o.op,opC]
 go_wp2_with fail;refine I.o.mono ?_;rintro e w4 ⟨o4,⟨v4,rfl,yU,yV,yX,yY,rfl,k1,k2,k3,Q⟩,D,R⟩;have C:=acp (u.o.turn D R);have J:=acp (And.intro k1 (And.intro k2 (And.intro k3 Q)));clear k1 k2 k3 Q I D R;go_wp2_with (refine aj (by rfl) 38 _ _ (by rfl) (w.heap.size+1) (eF (N.1) yU yV yX yY) (by rfl) (by rfl) _ C.o.re bC rfl (bE _ _ _ _ _) ?_;intro w5 B;have U:=acp B;clear B);exact bI rfl rfl rfl U.o.1 (by rw[K.o];exact C.o.fin U.o J.o.1 J.o.2.1 J.o.2.2.1 J.o.2.2.2)
theorem sdo_k6(h:uj S W o i j k l n w p M cc ⟨6,pa,bT,fd,at_,nn,aL,sn,dt⟩ da dc m):
  Dy 21 #[ptr p,.agg (opC ⟨6,pa,bT,fd,at_,nn,aL,sn,dt⟩ da dc)] w (lV o i j k l n w p (dA M ⟨6,pa,bT,fd,at_,nn,aL,sn,dt⟩)):=by
 obtain⟨o1,w2,E,N,H,U,HX,HK,X⟩:=h.pre;have A:fE ⟨6,pa,bT,fd,at_,nn,aL,sn,dt⟩=([],0):=rfl;have y:=um M A;rw[A]at H;unfold opC eF eD at H;dsimp only[List.length_nil]at H N;have F:=acp y;clear h A y;unfold opC;go_enter aaQ,aaL;go_wp2_with fail;refine H.o.mono ?_;clear H;intro e z D;obtain⟨a3,c3,rfl,u,Y,Z,g0⟩:=E.o.none_ D N.o;dsimp only at g0 Z;clear D E N;have y:dA M ⟨6,pa,bT,fd,at_,nn,aL,sn,dt⟩=JN (ku M ⟨6,pa,bT,fd,at_,nn,aL,sn,dt⟩):=F.o;replace F:=acp y;clear y;obtain⟨K,G⟩:∃K,K=ku M ⟨6,pa,bT,fd,at_,nn,aL,sn,dt⟩:=⟨_,rfl⟩;have I:=acp (Ph u.o.st u.o.marks u.o.mm.mm ⟨6,pa,bT,fd,at_,nn,aL,sn,dt⟩ HX.o (λ q f R=>gG (by have:=U.o.fd q f R;have:=this.1;omega) (by have:=U.o.fd q f R;have:=this.2.1;omega)) da dc);unfold opC at I;rw[<-G]at I F;unfold JN at F;clear G;have g1:z.cell? ⟨w.heap.size,1,none⟩=some (.string (strOf pa)):=by simp[World.cell?,u.o.op,opC]
 have g2:z.cell? ⟨w.heap.size,2,none⟩=some (.string (strOf bT)):=by simp[World.cell?,u.o.op,opC]
 have g3:z.cell? ⟨w.heap.size,3,none⟩=some (.int .i64 fd):=by simp[World.cell?,u.o.op,opC]
 have g4:z.cell? ⟨w.heap.size,4,none⟩=some (.int .i64 at_):=by simp[World.cell?,u.o.op,opC]
 have g5:z.cell? ⟨w.heap.size,5,none⟩=some (.int .i64 nn):=by simp[World.cell?,u.o.op,opC]
 have g6:z.cell? ⟨w.heap.size,6,none⟩=some (.int .u64 aL):=by simp[World.cell?,u.o.op,opC]
 have g7:z.cell? ⟨w.heap.size,7,none⟩=some (.int .i64 sn):=by simp[World.cell?,u.o.op,opC]
 have g8:z.cell? ⟨w.heap.size,8,none⟩=some (.slice da dt.length dc):=by simp[World.cell?,u.o.op,opC]
 go_wp2_with fail;refine I.o.mono ?_;rintro e w4 ⟨rfl,o4,C,P⟩;have J:=acp (u.o.turn C P);clear C P I;go_wp2_with fail;refine(g_ _ _).mono ?_;rintro e w9 ⟨rfl,V⟩;unfold AU;have O:=acp (J.o.grow V);clear V;go_wp2_with (refine aj (by rfl) 38 _ _ (by rfl) (w.heap.size+1) (eF (eD (K.1)) none none 0 0) (by rfl) (by rfl) _ O.o.re bC rfl (bE _ _ _ _ _) ?_;intro w5 B;have Q:=acp B;clear B);exact bI rfl rfl rfl Q.o.1 (by rw[F.o];exact O.o.Dr Q.o rfl rfl)
theorem sdo_k7(h:uj S W o i j k l n w p M cc ⟨7,pa,bT,fd,at_,nn,aL,sn,dt⟩ da dc m):
  Dy 21 #[ptr p,.agg (opC ⟨7,pa,bT,fd,at_,nn,aL,sn,dt⟩ da dc)] w (lV o i j k l n w p (dA M ⟨7,pa,bT,fd,at_,nn,aL,sn,dt⟩)):=by
 obtain⟨o1,w2,N,jo,P,h_,HX,HK,aC⟩:=h.pre;obtain⟨B,A,I,z,aB,aA⟩:=X7 M rfl h.paths;rw[I]at P;unfold opC eF eD at P;dsimp only[List.length_nil]at P jo;have iT:=acp z;clear h I z;unfold opC;go_enter aaQ,aaL;go_wp2_with fail;refine P.o.mono ?_;clear P;intro e w3 R;obtain⟨b,u,c3,a0,Y,a1,Z,rfl,HD,av,yu,zD,u_,lC,g0,U,O⟩:=N.o.two R jo.o;dsimp only at g0 lC;clear R N jo;have ni:=acp (HD.o.grow acu.drew);have t_:=ni.o.marks;have yZ:=acp (zD.o.strs.below acu.drew acs);have mQ:=acp (u_.o.strs.below acu.drew acs);obtain⟨t,z0,Dl,H⟩:=ni.o.Ro;have Pz:w3.cell? ⟨p,0,none⟩=some (ptr t):=z0;have Nu:=acp H;have z:dA M ⟨7,pa,bT,fd,at_,nn,aL,sn,dt⟩=(eD (iy M.t B A).1,M.tr (iy M.t B A).2):=iT.o;replace iT:=acp z;clear z;have HC:=acp (om_link Dl t_ HK.o.mm.ne.2.1 h_.o.t.1 a0 B.length Y B a1 A.length Z A yZ.o mQ.o u_.o.cap (by omega));obtain⟨rr,V⟩:∃rr,rr=iy M.t B A:=⟨_,rfl⟩;rw[<-V]at HC iT;clear V H Dl t_ z0;go_wp2_with fail;refine vJ 12 ((λ w'=>w'.cell? ⟨p,0,none⟩=some (ptr t)/\w'.cell? ⟨b,u,none⟩=some (.slice a0 B.length Y)/\w'.cell? ⟨b,u+1,none⟩=some (.slice a1 A.length Z))) ?_ λ y=> ?_
 ·exact⟨Pz,U,O⟩
 refine aO 0 y ?_;refine aO 1 y ?_;refine aO 2 y ?_;refine aO 3 y ?_;refine aO 4 y ?_;refine aO 5 y ?_;refine aO 6 y ?_;refine aO 7 y ?_;refine aO 8 y ?_;refine aO 9 y ?_;refine cu 10 λ K C=> ?_;go_simp;refine HC.o.mono ?_;rintro e G ⟨rfl,o4,D,sP⟩;obtain⟨J,AP⟩:=Nu.o _ _ _ D sP;have ak:=acp J;have E:G.heap[b]? =w3.heap[b]? :=ni.o.stays (D.mono λ m hm=> .inr (.inl hm)) yu.o;have uo:G.heap[p]? =w3.heap[p]? :=AP;clear J D sP AP HC;have F:acr ((λ w'=>w'.cell? ⟨p,0,none⟩=some (ptr t)/\w'.cell? ⟨b,u,none⟩=some (.slice a0 B.length Y)/\w'.cell? ⟨b,u+1,none⟩=some (.slice a1 A.length Z)) G):=⟨(World.cell?_of_block uo).trans Pz,(World.cell?_of_block E).trans U,(World.cell?_of_block E).trans O⟩;clear E uo;go_wp2_with fail;refine b_ C (F.o) λ y=> ?_;clear C K;refine cu 11 λ K C=> ?_;go_simp;refine(g_ _ _).mono ?_;rintro e w9 ⟨rfl,X⟩;unfold AU;have Al:=acp (ak.o.grow X);have GN:acr ((λ w'=>w'.cell? ⟨p,0,none⟩=some (ptr t)/\w'.cell? ⟨b,u,none⟩=some (.slice a0 B.length Y)/\w'.cell? ⟨b,u+1,none⟩=some (.slice a1 A.length Z)) w9):=⟨(X.cell (aal G _ F.o.1)).trans F.o.1,(X.cell (aal G _ F.o.2.1)).trans F.o.2.1,(X.cell (aal G _ F.o.2.2)).trans F.o.2.2⟩;clear X;go_wp2_with fail;refine b_ C (GN.o) λ y=> ?_;clear C K;refine cu 12 λ K C=> ?_;refine bL rfl 38 _ _ rfl (w.heap.size+1) (eF (eD (rr.1)) none none 0 0) rfl rfl _ Al.o.re bC rfl (bE _ _ _ _ _) ?_;intro w5 Q;have gL:=acp Q;clear Q;refine o_ C ?_;clear y C K;go_wp2_with fail;exact bI rfl rfl rfl gL.o.1 (by rw[iT.o];exact Al.o.Dr gL.o rfl rfl)
theorem sdo_k8(h:uj S W o i j k l n w p M cc ⟨8,pa,bT,fd,at_,nn,aL,sn,dt⟩ da dc m):
  Dy 21 #[ptr p,.agg (opC ⟨8,pa,bT,fd,at_,nn,aL,sn,dt⟩ da dc)] w (lV o i j k l n w p (dA M ⟨8,pa,bT,fd,at_,nn,aL,sn,dt⟩)):=by
 obtain⟨o1,w2,D,N,G,R,HX,HK,X⟩:=h.pre;obtain⟨A,B,u,av⟩:=wO M rfl h.paths;rw[B]at G;unfold opC eF eD at G;dsimp only[List.length_nil]at G N;have E:=acp u;clear h B u;unfold opC;go_enter aaQ,aaL;go_wp2_with fail;refine G.o.mono ?_;clear G;intro e w3 C;obtain⟨b,ak,c3,a0,Z,rfl,H,Y,yu,U,lC,g0,aA⟩:=D.o.one C N.o;dsimp only at g0 lC;clear C D N;have u:dA M ⟨8,pa,bT,fd,at_,nn,aL,sn,dt⟩=JN (jd M A):=E.o;replace E:=acp u;clear u;obtain⟨K,F⟩:∃K,K=jd M A:=⟨_,rfl⟩;have J:=acp (Mg H.o.st H.o.marks H.o.mm.mm R.o.t.1 a0 A.length Z A U.o.strs U.o.cap (by omega) (Ak R.o.t.1 A));rw[<-F]at J E;unfold JN at E;clear F;go_wp2_with fail;refine J.o.mono ?_;rintro e w4 ⟨rfl,o4,z,P⟩;have I:=acp (H.o.turn z P);clear z P J;go_wp2_with fail;refine(g_ _ _).mono ?_;rintro e w9 ⟨rfl,V⟩;unfold AU;have O:=acp (I.o.grow V);clear V;go_wp2_with (refine aj (by rfl) 38 _ _ (by rfl) (w.heap.size+1) (eF (eD (K.1)) none none 0 0) (by rfl) (by rfl) _ O.o.re bC rfl (bE _ _ _ _ _) ?_;intro w5 y;have Q:=acp y;clear y);exact bI rfl rfl rfl Q.o.1 (by rw[E.o];exact O.o.Dr Q.o rfl rfl)
end
section
variable{W w:World}{o:Mark}{i j k l n p:Nat}{M:dQ}{S:Nat->Prop}{cc m:Int}{pa bT:I8}{fd at_ nn aL sn:Int}{dt:I8}{da:Mx}{dc:Nat}
theorem sdo_k9(h:uj S W o i j k l n w p M cc ⟨9,pa,bT,fd,at_,nn,aL,sn,dt⟩ da dc m):
  Dy 21 #[ptr p,.agg (opC ⟨9,pa,bT,fd,at_,nn,aL,sn,dt⟩ da dc)] w (lV o i j k l n w p (dA M ⟨9,pa,bT,fd,at_,nn,aL,sn,dt⟩)):=by
 obtain⟨o1,w2,H,jo,I,h_,HX,HK,aA⟩:=h.pre;obtain⟨z,E,u,av⟩:=wO M rfl h.paths;rw[E]at I;unfold opC eF eD at I;dsimp only[List.length_nil]at I jo;have V:=acp u;clear h E u;unfold opC;go_enter aaQ,aaL;go_wp2_with fail;refine I.o.mono ?_;clear I;intro e w3 N;obtain⟨b,C,c3,a0,U,rfl,HD,ak,yu,zD,lC,g0,P⟩:=H.o.one N jo.o;dsimp only at g0 lC;clear N H jo;have ni:=acp (HD.o.grow acu.drew);have t_:=ni.o.marks;have yZ:=acp (zD.o.strs.below acu.drew acs);obtain⟨t,z0,Dl,D⟩:=ni.o.Ro;have Pz:w3.cell? ⟨p,0,none⟩=some (ptr t):=z0;have Nu:=acp D;have u:dA M ⟨9,pa,bT,fd,at_,nn,aL,sn,dt⟩=(eD (fC M.t z).1,M.tr (fC M.t z).2):=V.o;replace V:=acp u;clear u;have HC:=acp (Xc Dl t_ HK.o.mm.ne.2.1 h_.o.t.1 a0 z.length U z yZ.o zD.o.cap (by omega));obtain⟨Z,R⟩:∃Z,Z=fC M.t z:=⟨_,rfl⟩;rw[<-R]at HC V;clear R D Dl t_ z0;go_wp2_with fail;refine vJ 9 ((λ w'=>w'.cell? ⟨p,0,none⟩=some (ptr t)/\w'.cell? ⟨b,C,none⟩=some (.slice a0 z.length U))) ?_ λ y=> ?_
 ·exact⟨Pz,P⟩
 refine aO 0 y ?_;refine aO 1 y ?_;refine aO 2 y ?_;refine aO 3 y ?_;refine aO 4 y ?_;refine aO 5 y ?_;refine aO 6 y ?_;refine cu 7 λ K A=> ?_;go_simp;refine HC.o.mono ?_;rintro e G ⟨rfl,o4,B,sP⟩;obtain⟨F,AP⟩:=Nu.o _ _ _ B sP;have Y:=acp F;have O:G.heap[b]? =w3.heap[b]? :=ni.o.stays (B.mono λ m hm=> .inr (.inl hm)) yu.o;have uo:G.heap[p]? =w3.heap[p]? :=AP;clear F B sP AP HC;have Q:acr ((λ w'=>w'.cell? ⟨p,0,none⟩=some (ptr t)/\w'.cell? ⟨b,C,none⟩=some (.slice a0 z.length U)) G):=⟨(World.cell?_of_block uo).trans Pz,(World.cell?_of_block O).trans P⟩;clear O uo;go_wp2_with fail;refine b_ A (Q.o) λ y=> ?_;clear A K;refine cu 8 λ K A=> ?_;go_simp;refine(g_ _ _).mono ?_;rintro e w9 ⟨rfl,X⟩;unfold AU;have Al:=acp (Y.o.grow X);have GN:acr ((λ w'=>w'.cell? ⟨p,0,none⟩=some (ptr t)/\w'.cell? ⟨b,C,none⟩=some (.slice a0 z.length U)) w9):=⟨(X.cell (aal G _ Q.o.1)).trans Q.o.1,(X.cell (aal G _ Q.o.2)).trans Q.o.2⟩;clear X;go_wp2_with fail;refine b_ A (GN.o) λ y=> ?_;clear A K;refine cu 9 λ K A=> ?_;refine bL rfl 38 _ _ rfl (w.heap.size+1) (eF (eD (Z.1)) none none 0 0) rfl rfl _ Al.o.re bC rfl (bE _ _ _ _ _) ?_;intro w5 J;have gL:=acp J;clear J;refine o_ A ?_;clear y A K;go_wp2_with fail;exact bI rfl rfl rfl gL.o.1 (by rw[V.o];exact Al.o.Dr gL.o rfl rfl)
theorem sdo_k10(h:uj S W o i j k l n w p M cc ⟨10,pa,bT,fd,at_,nn,aL,sn,dt⟩ da dc m):
  Dy 21 #[ptr p,.agg (opC ⟨10,pa,bT,fd,at_,nn,aL,sn,dt⟩ da dc)] w (lV o i j k l n w p (dA M ⟨10,pa,bT,fd,at_,nn,aL,sn,dt⟩)):=by
 obtain⟨o1,w2,N,jo,P,h_,HX,HK,aC⟩:=h.pre;obtain⟨B,A,I,z,aB,aA⟩:=X7 M rfl h.paths;rw[I]at P;unfold opC eF eD at P;dsimp only[List.length_nil]at P jo;have iT:=acp z;clear h I z;unfold opC;go_enter aaQ,aaL;go_wp2_with fail;refine P.o.mono ?_;clear P;intro e w3 R;obtain⟨b,u,c3,a0,Y,a1,Z,rfl,HD,av,yu,zD,u_,lC,g0,U,O⟩:=N.o.two R jo.o;dsimp only at g0 lC;clear R N jo;have ni:=acp (HD.o.grow acu.drew);have t_:=ni.o.marks;have yZ:=acp (zD.o.strs.below acu.drew acs);have mQ:=acp (u_.o.strs.below acu.drew acs);obtain⟨t,z0,Dl,H⟩:=ni.o.Ro;have Pz:w3.cell? ⟨p,0,none⟩=some (ptr t):=z0;have Nu:=acp H;have z:dA M ⟨10,pa,bT,fd,at_,nn,aL,sn,dt⟩=(eD (dz M.t B A).1,M.tr (dz M.t B A).2):=iT.o;replace iT:=acp z;clear z;have HC:=acp (Tk Dl t_ HK.o.mm.ne.2.1 h_.o.t a0 B.length Y B a1 A.length Z A yZ.o mQ.o zD.o.cap (by omega) u_.o.cap (by omega));obtain⟨rr,V⟩:∃rr,rr=dz M.t B A:=⟨_,rfl⟩;rw[<-V]at HC iT;clear V H Dl t_ z0;go_wp2_with fail;refine vJ 12 ((λ w'=>w'.cell? ⟨p,0,none⟩=some (ptr t)/\w'.cell? ⟨b,u,none⟩=some (.slice a0 B.length Y)/\w'.cell? ⟨b,u+1,none⟩=some (.slice a1 A.length Z))) ?_ λ y=> ?_
 ·exact⟨Pz,U,O⟩
 refine aO 0 y ?_;refine aO 1 y ?_;refine aO 2 y ?_;refine aO 3 y ?_;refine aO 4 y ?_;refine aO 5 y ?_;refine aO 6 y ?_;refine aO 7 y ?_;refine aO 8 y ?_;refine aO 9 y ?_;refine cu 10 λ K C=> ?_;go_simp;refine HC.o.mono ?_;rintro e G ⟨rfl,o4,D,sP⟩;obtain⟨J,AP⟩:=Nu.o _ _ _ D sP;have ak:=acp J;have E:G.heap[b]? =w3.heap[b]? :=ni.o.stays (D.mono λ m hm=> .inr (.inl hm)) yu.o;have uo:G.heap[p]? =w3.heap[p]? :=AP;clear J D sP AP HC;have F:acr ((λ w'=>w'.cell? ⟨p,0,none⟩=some (ptr t)/\w'.cell? ⟨b,u,none⟩=some (.slice a0 B.length Y)/\w'.cell? ⟨b,u+1,none⟩=some (.slice a1 A.length Z)) G):=⟨(World.cell?_of_block uo).trans Pz,(World.cell?_of_block E).trans U,(World.cell?_of_block E).trans O⟩;clear E uo;go_wp2_with fail;refine b_ C (F.o) λ y=> ?_;clear C K;refine cu 11 λ K C=> ?_;go_simp;refine(g_ _ _).mono ?_;rintro e w9 ⟨rfl,X⟩;unfold AU;have Al:=acp (ak.o.grow X);have GN:acr ((λ w'=>w'.cell? ⟨p,0,none⟩=some (ptr t)/\w'.cell? ⟨b,u,none⟩=some (.slice a0 B.length Y)/\w'.cell? ⟨b,u+1,none⟩=some (.slice a1 A.length Z)) w9):=⟨(X.cell (aal G _ F.o.1)).trans F.o.1,(X.cell (aal G _ F.o.2.1)).trans F.o.2.1,(X.cell (aal G _ F.o.2.2)).trans F.o.2.2⟩;clear X;go_wp2_with fail;refine b_ C (GN.o) λ y=> ?_;clear C K;refine cu 12 λ K C=> ?_;refine bL rfl 38 _ _ rfl (w.heap.size+1) (eF (eD (rr.1)) none none 0 0) rfl rfl _ Al.o.re bC rfl (bE _ _ _ _ _) ?_;intro w5 Q;have gL:=acp Q;clear Q;refine o_ C ?_;clear y C K;go_wp2_with fail;exact bI rfl rfl rfl gL.o.1 (by rw[iT.o];exact Al.o.Dr gL.o rfl rfl)
theorem sdo_k11(h:uj S W o i j k l n w p M cc ⟨11,pa,bT,fd,at_,nn,aL,sn,dt⟩ da dc m):
  Dy 21 #[ptr p,.agg (opC ⟨11,pa,bT,fd,at_,nn,aL,sn,dt⟩ da dc)] w (lV o i j k l n w p (dA M ⟨11,pa,bT,fd,at_,nn,aL,sn,dt⟩)):=by
 obtain⟨o1,w2,H,jo,I,h_,HX,HK,aA⟩:=h.pre;obtain⟨D,F,u,av⟩:=wO M rfl h.paths;rw[F]at I;unfold opC eF eD at I;dsimp only[List.length_nil]at I jo;have Y:=acp u;clear h F u;unfold opC;go_enter aaQ,aaL;go_wp2_with fail;refine I.o.mono ?_;clear I;intro e z P;obtain⟨b,G,c3,a0,Z,rfl,A,ak,yu,zD,lC,g0,Q⟩:=H.o.one P jo.o;dsimp only at g0 lC;clear P H jo;have V:=acp (A.o.grow acu.drew);have t_:=V.o.marks;have yZ:=acp (zD.o.strs.below acu.drew acs);have u:dA M ⟨11,pa,bT,fd,at_,nn,aL,sn,dt⟩=(rO M ⟨11,pa,bT,fd,at_,nn,aL,sn,dt⟩ D,M):=Y.o;replace Y:=acp u;clear u;have X:=acp (Iu V.o.st t_ h_.o.t.1 (by have:=h_.o.s.few;omega) ⟨11,pa,bT,fd,at_,nn,aL,sn,dt⟩ da dc a0 D.length Z D yZ.o (λ T hT=>Ak (h_.o.JO hT).1 D));obtain⟨rr,R⟩:∃rr,rr=rO M ⟨11,pa,bT,fd,at_,nn,aL,sn,dt⟩ D:=⟨_,rfl⟩;unfold opC at X;have g1:z.cell? ⟨w.heap.size,1,none⟩=some (.string (strOf pa)):=by simp[World.cell?,A.o.op,opC]
 have g2:z.cell? ⟨w.heap.size,2,none⟩=some (.string (strOf bT)):=by simp[World.cell?,A.o.op,opC]
 have g3:z.cell? ⟨w.heap.size,3,none⟩=some (.int .i64 fd):=by simp[World.cell?,A.o.op,opC]
 have g4:z.cell? ⟨w.heap.size,4,none⟩=some (.int .i64 at_):=by simp[World.cell?,A.o.op,opC]
 have g5:z.cell? ⟨w.heap.size,5,none⟩=some (.int .i64 nn):=by simp[World.cell?,A.o.op,opC]
 have g6:z.cell? ⟨w.heap.size,6,none⟩=some (.int .u64 aL):=by simp[World.cell?,A.o.op,opC]
 have g7:z.cell? ⟨w.heap.size,7,none⟩=some (.int .i64 sn):=by simp[World.cell?,A.o.op,opC]
 have g8:z.cell? ⟨w.heap.size,8,none⟩=some (.slice da dt.length dc):=by simp[World.cell?,A.o.op,opC]
 rw[<-R]at X Y;clear R t_;go_wp2_with fail;refine vJ 6 ((λ w'=>w'.cell? ⟨b,G,none⟩=some (.slice a0 D.length Z)/\w'.cell? ⟨w.heap.size,0,none⟩=some (.int .i64 11)/\w'.cell? ⟨w.heap.size,1,none⟩=some (.string (strOf pa))/\w'.cell? ⟨w.heap.size,2,none⟩=some (.string (strOf bT))/\w'.cell? ⟨w.heap.size,3,none⟩=some (.int .i64 fd)/\w'.cell? ⟨w.heap.size,4,none⟩=some (.int .i64 at_)/\w'.cell? ⟨w.heap.size,5,none⟩=some (.int .i64 nn)/\w'.cell? ⟨w.heap.size,6,none⟩=some (.int .u64 aL)/\w'.cell? ⟨w.heap.size,7,none⟩=some (.int .i64 sn)/\w'.cell? ⟨w.heap.size,8,none⟩=some (.slice da dt.length dc))) ?_ λ C=> ?_
 ·exact⟨Q,g0,g1,g2,g3,g4,g5,g6,g7,g8⟩
 refine aO 0 C ?_;refine aO 1 C ?_;refine aO 2 C ?_;refine aO 3 C ?_;refine aO 4 C ?_;refine cu 5 λ K O=> ?_;go_simp;refine X.o.mono ?_;rintro e w4 ⟨⟨v4,rfl,yU,yV,yX,yY,rfl,k1,k2,k3,k4⟩,B⟩;have E:=acp (V.o.grow B);have U:=acp (And.intro k1 (And.intro k2 (And.intro k3 k4)));have N:w4.heap[b]? =z.heap[b]? :=B.block b yu.o.2;have y:w4.heap[w.heap.size]? =z.heap[w.heap.size]? :=B.block _ V.o.opb.2;clear k1 k2 k3 k4 X;have jl:acr ((λ w'=>w'.cell? ⟨b,G,none⟩=some (.slice a0 D.length Z)/\w'.cell? ⟨w.heap.size,0,none⟩=some (.int .i64 11)/\w'.cell? ⟨w.heap.size,1,none⟩=some (.string (strOf pa))/\w'.cell? ⟨w.heap.size,2,none⟩=some (.string (strOf bT))/\w'.cell? ⟨w.heap.size,3,none⟩=some (.int .i64 fd)/\w'.cell? ⟨w.heap.size,4,none⟩=some (.int .i64 at_)/\w'.cell? ⟨w.heap.size,5,none⟩=some (.int .i64 nn)/\w'.cell? ⟨w.heap.size,6,none⟩=some (.int .u64 aL)/\w'.cell? ⟨w.heap.size,7,none⟩=some (.int .i64 sn)/\w'.cell? ⟨w.heap.size,8,none⟩=some (.slice da dt.length dc)) w4):=⟨(World.cell?_of_block N).trans Q,(World.cell?_of_block y).trans g0,(World.cell?_of_block y).trans g1,(World.cell?_of_block y).trans g2,(World.cell?_of_block y).trans g3,(World.cell?_of_block y).trans g4,(World.cell?_of_block y).trans g5,(World.cell?_of_block y).trans g6,(World.cell?_of_block y).trans g7,(World.cell?_of_block y).trans g8⟩;clear B y;go_wp2_with fail;refine b_ O (jl.o) λ C=> ?_;clear O K;refine cu 6 λ K O=> ?_;refine bL rfl 38 _ _ rfl (w.heap.size+1) (eF (rr) yU yV yX yY) rfl rfl _ E.o.re bC rfl (bE _ _ _ _ _) ?_;intro w5 J;have gL:=acp J;clear J;refine o_ O ?_;clear C O K;go_wp2_with fail;exact bI rfl rfl rfl gL.o.1 (by rw[Y.o];exact E.o.fin gL.o U.o.1 U.o.2.1 U.o.2.2.1 U.o.2.2.2)
theorem sdo_k12(h:uj S W o i j k l n w p M cc ⟨12,pa,bT,fd,at_,nn,aL,sn,dt⟩ da dc m):
  Dy 21 #[ptr p,.agg (opC ⟨12,pa,bT,fd,at_,nn,aL,sn,dt⟩ da dc)] w (lV o i j k l n w p (dA M ⟨12,pa,bT,fd,at_,nn,aL,sn,dt⟩)):=by
 obtain⟨o1,w2,H,jo,I,h_,HX,HK,aA⟩:=h.pre;obtain⟨D,F,u,av⟩:=wO M rfl h.paths;rw[F]at I;unfold opC eF eD at I;dsimp only[List.length_nil]at I jo;have Y:=acp u;clear h F u;unfold opC;go_enter aaQ,aaL;go_wp2_with fail;refine I.o.mono ?_;clear I;intro e z P;obtain⟨b,G,c3,a0,Z,rfl,A,ak,yu,zD,lC,g0,Q⟩:=H.o.one P jo.o;dsimp only at g0 lC;clear P H jo;have V:=acp (A.o.grow acu.drew);have t_:=V.o.marks;have yZ:=acp (zD.o.strs.below acu.drew acs);have u:dA M ⟨12,pa,bT,fd,at_,nn,aL,sn,dt⟩=(rO M ⟨12,pa,bT,fd,at_,nn,aL,sn,dt⟩ D,M):=Y.o;replace Y:=acp u;clear u;have X:=acp (Iu V.o.st t_ h_.o.t.1 (by have:=h_.o.s.few;omega) ⟨12,pa,bT,fd,at_,nn,aL,sn,dt⟩ da dc a0 D.length Z D yZ.o (λ T hT=>Ak (h_.o.JO hT).1 D));obtain⟨rr,R⟩:∃rr,rr=rO M ⟨12,pa,bT,fd,at_,nn,aL,sn,dt⟩ D:=⟨_,rfl⟩;unfold opC at X;have g1:z.cell? ⟨w.heap.size,1,none⟩=some (.string (strOf pa)):=by simp[World.cell?,A.o.op,opC]
 have g2:z.cell? ⟨w.heap.size,2,none⟩=some (.string (strOf bT)):=by simp[World.cell?,A.o.op,opC]
 have g3:z.cell? ⟨w.heap.size,3,none⟩=some (.int .i64 fd):=by simp[World.cell?,A.o.op,opC]
 have g4:z.cell? ⟨w.heap.size,4,none⟩=some (.int .i64 at_):=by simp[World.cell?,A.o.op,opC]
 have g5:z.cell? ⟨w.heap.size,5,none⟩=some (.int .i64 nn):=by simp[World.cell?,A.o.op,opC]
 have g6:z.cell? ⟨w.heap.size,6,none⟩=some (.int .u64 aL):=by simp[World.cell?,A.o.op,opC]
 have g7:z.cell? ⟨w.heap.size,7,none⟩=some (.int .i64 sn):=by simp[World.cell?,A.o.op,opC]
 have g8:z.cell? ⟨w.heap.size,8,none⟩=some (.slice da dt.length dc):=by simp[World.cell?,A.o.op,opC]
 rw[<-R]at X Y;clear R t_;go_wp2_with fail;refine vJ 6 ((λ w'=>w'.cell? ⟨b,G,none⟩=some (.slice a0 D.length Z)/\w'.cell? ⟨w.heap.size,0,none⟩=some (.int .i64 12)/\w'.cell? ⟨w.heap.size,1,none⟩=some (.string (strOf pa))/\w'.cell? ⟨w.heap.size,2,none⟩=some (.string (strOf bT))/\w'.cell? ⟨w.heap.size,3,none⟩=some (.int .i64 fd)/\w'.cell? ⟨w.heap.size,4,none⟩=some (.int .i64 at_)/\w'.cell? ⟨w.heap.size,5,none⟩=some (.int .i64 nn)/\w'.cell? ⟨w.heap.size,6,none⟩=some (.int .u64 aL)/\w'.cell? ⟨w.heap.size,7,none⟩=some (.int .i64 sn)/\w'.cell? ⟨w.heap.size,8,none⟩=some (.slice da dt.length dc))) ?_ λ C=> ?_
 ·exact⟨Q,g0,g1,g2,g3,g4,g5,g6,g7,g8⟩
 refine aO 0 C ?_;refine aO 1 C ?_;refine aO 2 C ?_;refine aO 3 C ?_;refine aO 4 C ?_;refine cu 5 λ K O=> ?_;go_simp;refine X.o.mono ?_;rintro e w4 ⟨⟨v4,rfl,yU,yV,yX,yY,rfl,k1,k2,k3,k4⟩,B⟩;have E:=acp (V.o.grow B);have U:=acp (And.intro k1 (And.intro k2 (And.intro k3 k4)));have N:w4.heap[b]? =z.heap[b]? :=B.block b yu.o.2;have y:w4.heap[w.heap.size]? =z.heap[w.heap.size]? :=B.block _ V.o.opb.2;clear k1 k2 k3 k4 X;have jl:acr ((λ w'=>w'.cell? ⟨b,G,none⟩=some (.slice a0 D.length Z)/\w'.cell? ⟨w.heap.size,0,none⟩=some (.int .i64 12)/\w'.cell? ⟨w.heap.size,1,none⟩=some (.string (strOf pa))/\w'.cell? ⟨w.heap.size,2,none⟩=some (.string (strOf bT))/\w'.cell? ⟨w.heap.size,3,none⟩=some (.int .i64 fd)/\w'.cell? ⟨w.heap.size,4,none⟩=some (.int .i64 at_)/\w'.cell? ⟨w.heap.size,5,none⟩=some (.int .i64 nn)/\w'.cell? ⟨w.heap.size,6,none⟩=some (.int .u64 aL)/\w'.cell? ⟨w.heap.size,7,none⟩=some (.int .i64 sn)/\w'.cell? ⟨w.heap.size,8,none⟩=some (.slice da dt.length dc)) w4):=⟨(World.cell?_of_block N).trans Q,(World.cell?_of_block y).trans g0,(World.cell?_of_block y).trans g1,(World.cell?_of_block y).trans g2,(World.cell?_of_block y).trans g3,(World.cell?_of_block y).trans g4,(World.cell?_of_block y).trans g5,(World.cell?_of_block y).trans g6,(World.cell?_of_block y).trans g7,(World.cell?_of_block y).trans g8⟩;clear B y;go_wp2_with fail;refine b_ O (jl.o) λ C=> ?_;clear O K;refine cu 6 λ K O=> ?_;refine bL rfl 38 _ _ rfl (w.heap.size+1) (eF (rr) yU yV yX yY) rfl rfl _ E.o.re bC rfl (bE _ _ _ _ _) ?_;intro w5 J;have gL:=acp J;clear J;refine o_ O ?_;clear C O K;go_wp2_with fail;exact bI rfl rfl rfl gL.o.1 (by rw[Y.o];exact E.o.fin gL.o U.o.1 U.o.2.1 U.o.2.2.1 U.o.2.2.2)
end
