/- package -/
import Derived.Test.YthillkfmdndedaaGreatDoorM24
set_option maxRecDepth 100000
set_option maxHeartbeats 64000000
set_option linter.all false
namespace Go.Proofs.YthillkfmdndedaaGreatDoor
open Go.ChangeShapes Go.WideShapes Go.ChangeAt Go.RowKit
structure Nz where
 wr:Bool
 id:Int
 b:List UInt8
structure dQ where
 t:aS
 s:qJ
 now:Int
 fds:Nat->Option Nz
def nH:dQ:=⟨mO,EI,0,λ _=>none⟩
def yM(o:Mark)(w:World)(v:Value):Option Nz->Prop
 |none=>v= .pointer none
 |some f=>∃q a c,v=ptr q/\o q=0/\q<w.heap.size/\w.heap[q]? =some (.cells #[.bool f.wr,.int .i64 f.id,.slice a f.b.length c] 205 (0,0))/\f.b.length<=c/\ah (Free o w) w a f.b.length (f.b.map bv)
def Dq(t s:Nat)(now:Int)(v:Nat->Value):Array Value:= #[ptr t,ptr s,.int .u64 now,v 0,v 1,v 2,v 3,v 4,v 5,v 6,v 7]
structure bP(o:Mark)(i j k:Nat)(w:World)(p:Nat)(M:dQ):Prop where
 at_:∃t s v,w.heap[p]? =some (.cells (Dq t s M.now v) 110 (0,0))/\jD o i w s M.s/\dW o j w t M.t/\∀n,n<8->yM o w (v n) (M.fds n)
 own:o p=k
 low:p<w.heap.size
theorem yM.step{o z:Mark}{I:Nat->Prop}{w w':World}{v:Value}{f:Option Nz}(h:yM o w v f)(A:¬I 0)(m:Step o I w z w'):yM z w' v f:=by
 cases f with
 |none=>exact h
 |some f=>
  obtain⟨q,a,c,C,y,u,B,E,D⟩:=h;exact⟨q,a,c,C,(m.old q u).trans y,Pd u m.keep.size,(m.block u (by rw[y];exact A)).trans B,E,D.free A m⟩
theorem yM.grow{o:Mark}{w w':World}{v:Value}{f:Option Nz}(h:yM o w v f)(u:Below w.heap.size w w'):yM o w' v f:=by
 cases f with
 |none=>exact h
 |some f=>
  obtain⟨q,a,c,C,B,z,A,E,D⟩:=h;exact⟨q,a,c,C,B,Pd z u.size,(u.block q z).trans A,E,D.move u.size λ b m y=>⟨⟨m.1,Pd m.2 u.size⟩,u.block b y⟩⟩
theorem bP.step{o y:Mark}{I:Nat->Prop}{i j k:Nat}{w w':World}{p:Nat}{M:dQ}(h:bP o i j k w p M)(u:¬I 0)(E:¬I i)(A:¬I j)(z:¬I k)(m:Step o I w y w'):bP y i j k w' p M:=by
 obtain⟨t,s,v,D,C,G,B⟩:=h.at_;exact⟨⟨t,s,v,(m.block h.low (by rw[h.own];exact z)).trans D,C.step u E m,G.step u A m,λ n F=>(B n F).step u m⟩,(m.old p h.low).trans h.own,Pd h.low m.keep.size⟩
theorem bP.grow{W:World}{o:Mark}{i j k:Nat}{w w':World}{p:Nat}{M:dQ}(h:bP o i j k w p M)(u:Marks W o w)(m:Below w.heap.size w w'):bP o i j k w' p M:=
 h.step (I:=λ _=>False) (λ e=>e) (λ e=>e) (λ e=>e) (λ e=>e) (Step.grow u m)
theorem gV{w:World}{p t s:Nat}{now:Int}{v:Nat->Value}(h:w.heap[p]? =some (.cells (Dq t s now v) 110 (0,0))):w.cell? ⟨p,0,none⟩=some (ptr t)/\w.cell? ⟨p,1,none⟩=some (ptr s)/\w.cell? ⟨p,2,none⟩=some (.int .u64 now)/\(∀n,n<8->w.cell? ⟨p,3+n,none⟩=some (v n))/\∀j,w.frozen? ⟨p,j,none⟩=false:=by
 refine⟨?_,?_,?_,λ n m=> ?_,λ j=> ?_⟩
 ·simp[World.cell?,h,Dq]
 ·simp[World.cell?,h,Dq]
 ·simp[World.cell?,h,Dq]
 ·rcases (show n=0\/n=1\/n=2\/n=3\/n=4\/n=5\/n=6\/n=7 by omega)with rfl|rfl|rfl|rfl|rfl|rfl|rfl|rfl<;>simp[World.cell?,h,Dq]
 ·simp[World.frozen?,h]
theorem st_put(t s:Nat)(now:Int)(v:Nat->Value)(n:Nat)(u:n<8)(x:Value):(Dq t s now v).setIfInBounds (3+n) x=Dq t s now (λ m=>if m=n then x else v m):=by
 rcases (show n=0\/n=1\/n=2\/n=3\/n=4\/n=5\/n=6\/n=7 by omega)with rfl|rfl|rfl|rfl|rfl|rfl|rfl|rfl<;>rfl
theorem st_now(t s:Nat)(now u:Int)(v:Nat->Value):(Dq t s now v).setIfInBounds 2 (.int .u64 u)=Dq t s u v:=rfl
def gW(M:dQ)(n:Int)(wr:Bool):Option Nz:=if 0<=n/\n<8 then(match M.fds n.toNat with|some f=>if f.wr=wr then some f else none|none=>none)else none
def Rh(M:dQ)(v:Int):Prop:=(v= -1/\∀n,n<8->M.fds n≠none)\/∃n:Nat,n<8/\v=n/\M.fds n=none/\∀m,m<n->M.fds m≠none
def AU(z:Int):Value:= .agg #[.int .i64 z,.int .i64 0,.slice none 0 0,.slice none 0 0,.int .i64 0,.int .i64 0,.int .i64 0,.int .i64 0,.int .u64 0,.bool false]
theorem g_(z:Int)(w:World):Dy 55 #[.int .i64 z] w λ e w'=>e= .returned (AU z)/\Below w.heap.size w w':=by
 go_enter Tryz.func55,Tryz.ntmps55;go_wp2;refine aav (v:=AU z) (by simp[results,Tryz.results55,AU,go_sem]) rfl ⟨rfl,wall w _⟩
section
variable{W w:World}{o:Mark}{i j k p:Nat}{M:dQ}
def LW(o:Mark)(w:World)(M:dQ)(n:Int)(b:Bool)(e:Ending):Prop:=
 (gW M n b=none/\e= .returned (.tuple #[.pointer none,.bool false]))\/∃f v,gW M n b=some f/\e= .returned (.tuple #[v,.bool true])/\yM o w v (some f)
theorem EU(h:bP o i j k w p M)(n:Int)(b:Bool):Dy 53 #[ptr p,.int .i64 n,.bool b] w λ e w'=>w'=w/\LW o w M n b e:=by
 obtain⟨t,s,v,O,X,Z,K⟩:=h.at_;obtain⟨c0,c1,c2,J,S⟩:=gV O;have V:=acp K;have W:=acp J;clear h O X Z K J S;by_cases B:n<0
 ·have u:acr (gW M n b=none):=by have:gW M n b=none:=by unfold gW;rw[if_neg (by omega)]
                                 exact acp this
  have H:decide (n<0)=true:=by simpa using B
  go_enter ab5,abX;go_wp2_with fail
  go_ret2
  exact⟨rfl,.inl ⟨u.o,rfl⟩⟩
 ·by_cases Q:8<=n
  ·have u:acr (gW M n b=none):=by have:gW M n b=none:=by unfold gW;rw[if_neg (by omega)]
                                  exact acp this
   have H:decide (n<0)=false:=by simpa using B
   have G:decide (8<=n)=true:=by simpa using Q
   go_enter ab5,abX;go_wp2_with fail
   go_ret2
   exact⟨rfl,.inl ⟨u.o,rfl⟩⟩
  ·obtain⟨m,rfl⟩:∃m:Nat,n=m:=⟨n.toNat,by omega⟩;have I:m<8:=by omega
   have C:=W.o m I;have y:=V.o m I;have u:gW M m b=match M.fds m with|some f=>if f.wr=b then some f else none|none=>none:=by
    unfold gW;rw[if_pos (by omega)];rfl
   have H:decide ((m:Int)<0)=false:=by simp
   have G:decide (8<=(m:Int))=false:=by simp;omega
   have i0:(0:Int)<=m:=by omega
   have i1:(m:Int)<8:=by omega
   cases E:M.fds m with
   |none=>
    rw[E]at y u;have D:v m= .pointer none:=y;rw[D]at C;have z:=acp u;clear y u E D;go_enter ab5,abX;go_wp2_with fail
    go_ret2
    exact⟨rfl,.inl ⟨z.o,rfl⟩⟩
   |some f=>
    rw[E]at y u;have F:=acp y;obtain⟨q,a,c,D,U,R,A,_,_⟩:=y;rw[D]at C F;have q0:w.cell? ⟨q,0,none⟩=some (.bool f.wr):=by simp[World.cell?,A]
    obtain⟨Y,P,N⟩:=f;have z:=acp u;clear u E D A;cases Y with
    |false=>
     cases b with
     |false=>
      go_enter ab5,abX;go_wp2_with fail
      go_ret2
      exact⟨rfl,.inr ⟨⟨false,P,N⟩,_,z.o.trans (if_pos trivial),rfl,F.o⟩⟩
     |true=>
      go_enter ab5,abX;go_wp2_with fail
      go_ret2
      exact⟨rfl,.inl ⟨z.o.trans (if_neg (by simp)),rfl⟩⟩
    |true=>
     cases b with
     |false=>
      go_enter ab5,abX;go_wp2_with fail
      go_ret2
      exact⟨rfl,.inl ⟨z.o.trans (if_neg (by simp)),rfl⟩⟩
     |true=>
      go_enter ab5,abX;go_wp2_with fail
      go_ret2
      exact⟨rfl,.inr ⟨⟨true,P,N⟩,_,z.o.trans (if_pos trivial),rfl,F.o⟩⟩
end
def jk(S:qJ)(T:aS):(Int×Int)×qJ:=
 if 8<=S.l.length then((0,4),S)else
 ((S.next,0),⟨S.l++[⟨S.next,jh (S.last++iA (bX T)),bX T⟩],S.next+1,jh (S.last++iA (bX T))⟩)
theorem LX{T:aS}(m:fA T):(iA T).length<=6000000:=by
 have z:=Bu m T (λ q u=>u);have y:=m.len;unfold iA;rw[List.length_append,ay];omega
section
variable{W w:World}{o:Mark}{i j s p:Nat}{S:qJ}{T:aS}
open Classical in
theorem Xz{y:World}{v v8:Value}{z:List Value}{x:mP}{a9:Mx}{c9 q:Nat}(X:Marks W o w)(hi:i≠0)(F:o s=i)(G:s<w.heap.size)(J:∀b,v.ownBlock=some b->o b=i/\b≠s/\b<w.heap.size)
  (Z:BA o w z S.l)(hh:y.heap[s]? =some (.cells #[v8,.int .i64 (S.next+1),.slice a9 x.hash.length c9] 203 (0,0)))(C:y.ownsRow 0 201 3 v8 (S.l.length+1) (z++[.int .i64 x.id,.slice a9 x.hash.length c9,ptr q]))
  (U:v8.ownBlock=v.ownBlock\/∃b,v8.ownBlock=some b/\w.heap.size<=b)(P:Keeps (λ b=>b=s\/v.ownBlock=some b) w y)
  (V:x.hash.length<=c9)(lX:ah (λ b=>w.heap.size<=b/\b<y.heap.size/\v8.ownBlock≠some b) y a9 x.hash.length (x.hash.map bv))(hq:∃g D N Q nb,aK g D y q N Q nb x.t/\∀b,g b≠ .none\/D b->o b=0/\v8.ownBlock≠some b)(hT:fA x.t):
  ∃A,Step o (λ k=>k=i) w A y/\jD A i y s ⟨S.l++[x],S.next+1,x.hash⟩:=by
 obtain⟨A,I⟩:∃A:Mark,∀b,A b=if v8.ownBlock=some b/\w.heap.size<=b then i else o b:=⟨_,λ _=>rfl⟩;have Y:∀b,v8.ownBlock=some b->b<y.heap.size:=iK C;have B:Step o (λ k=>k=i) w A y:=by
  refine⟨λ b m=>by rw[I,if_neg (λ h=>by omega)],λ b m M=> ?_,P.mono λ b m h=> ?_⟩
  ·by_cases h:v8.ownBlock=some b/\w.heap.size<=b
   ·rw[I,if_pos h];exact⟨rfl,Y b h.1⟩
   ·rw[I,if_neg h]at M;have:=(X.new b M).2;omega
  ·rcases h with h|h
   ·rw[h];exact F
   ·exact(J b h).1
 have R:¬(λ k=>k=i) 0:=λ e=>hi e.symm;have u:∀b,o b=0->v8.ownBlock≠some b->A b=0:=λ b O M=>by rw[I,if_neg (λ h=>M h.1)];exact O
 have Ri:∀b,w.heap.size<=b->o b=0:=λ b m=>Wy λ O=>by have:=(X.new b O).2;omega
 have E:ah (λ b=>A b=0/\b<y.heap.size) y a9 x.hash.length (x.hash.map bv):=lX.mono λ b m=>⟨u b (Ri b m.1) m.2.2,m.2.1⟩;refine⟨A,B,⟨v8,a9,c9,z++[.int .i64 x.id,.slice a9 x.hash.length c9,ptr q],hh,(B.old s G).trans F,Pd G P.size,?_,λ b m=> ?_,?_,V,E⟩⟩
 ·rw[List.length_append];exact C
 ·rcases U with H|⟨b',H,h2⟩
  ·rw[H]at m;obtain⟨k1,k2,k3⟩:=J b m;exact⟨(B.old b k3).trans k1,k2,Pd k3 P.size⟩
  ·rw[H]at m;cases m;exact⟨by rw[I,if_pos ⟨H,h2⟩],by omega,Y _ H⟩
 ·refine iB.append (Z.step R B) ⟨_,[],by simp,⟨a9,c9,q,rfl,V,E,?_,hT⟩,rfl⟩;obtain⟨g,D,N,Q,nb,hA,K⟩:=hq;exact⟨g,D,N,Q,nb,hA,λ b m=>u b (K b (.inl m)).1 (K b (.inl m)).2,λ b m=>u b (K b (.inr m)).1 (K b (.inr m)).2⟩
theorem XA(y:jD o i w s S)(bn:dW o j w p T)(hM:Marks W o w)(hi:i≠0)(hT:fA T)(Bv:S.l.length<=8)(ko:S.last.length<=64)(jy:0<=S.next)(ig:S.next<=1000000000):
  Dy 68 #[ptr s,ptr p] w λ e w'=>e= .returned (.tuple #[.int .i64 (jk S T).1.1,.int .i64 (jk S T).1.2])/\∃o',Step o (λ k=>k=i) w o' w'/\jD o' i w' s (jk S T).2:=by
 have HS:=acp y;have HM:=acp hM;obtain⟨v,la,lc,V,h1,h2,h3,h4,h5,h6,h7,h8⟩:=y.at_;obtain⟨a,c,rfl,aH⟩:=bg h4;have q0:w.cell? ⟨s,0,none⟩=some (.slice a S.l.length c):=by simp[World.cell?,h1]
 by_cases F:8<=S.l.length
 ·have e1:jk S T=((0,4),S):=by unfold jk;rw[if_pos F]
  rw[e1];have hd:decide ((8:Int)<=(S.l.length:Int))=true:=by simp;omega
  obtain⟨n,Z⟩:∃n,n=S.l.length:=⟨_,rfl⟩;rw[<-Z]at q0 hd;clear y hM h1 h2 h4 h5 h6 h7 h8 aH F e1 Bv Z bn hT;go_enter Tryz.func68,Tryz.ntmps68;go_wp2_with fail
  go_ret2
  exact⟨rfl,o,Step.grow HM.o acu,HS.o⟩
 ·have e1:jk S T=((S.next,0),⟨S.l++[⟨S.next,jh (S.last++iA (bX T)),bX T⟩],S.next+1,jh (S.last++iA (bX T))⟩):=by unfold jk;rw[if_neg F]
  rw[e1];have hd:decide ((8:Int)<=(S.l.length:Int))=false:=by simp;omega
  have q1:w.cell? ⟨s,1,none⟩=some (.int .i64 S.next):=by simp[World.cell?,h1]
  have q2:w.cell? ⟨s,2,none⟩=some (.slice la S.last.length lc):=by simp[World.cell?,h1]
  have HC:=acp (rJ bn hM hT);have HH:=acp h1;have lX:=acp h4;have ZV:=acp h6;have kN:=acp h8;have Xy:=acp h7;have jm:=acp h2;have iE:=acp h5;have bq:=hT.bX;have iT:=acp bq;have lI:=LX bq;obtain⟨n,Z⟩:∃n,n=S.l.length:=⟨_,rfl⟩;obtain⟨m,hm⟩:∃m,m=S.last.length:=⟨_,rfl⟩;obtain⟨z,X⟩:∃z,z=S.next:=⟨_,rfl⟩;rw[<-X]at jy ig q1;rw[<-hm]at q2 ko;rw[<-Z]at q0 hd aH Bv;have HN:=acp Z;have DR:=acp hm;have DT:=acp X;clear y hM h1 h2 h4 h5 h6 h7 h8 F e1 Z hm bn hT bq X;go_enter Tryz.func68,Tryz.ntmps68;go_wp2_with fail;refine HC.o.mono ?_;rintro e w1 ⟨q,rfl,bf,O⟩;have jL:=acp bf;have E:=acp O;have JJ:=acp (JF (bf.grow acu.drew) iT.o);have aC:s<w1.heap.size:=by have:=O.size;omega
  have vK:acr (∀w',Below w1.heap.size w1 w'->w'.cell? ⟨s,2,none⟩=some (.slice la m lc)/\w'.frozen? ⟨s,2,none⟩=false):=λ w' u=>by
   have fK:=(u.block s aC).trans ((O.block s h3).trans HH.o);refine⟨?_,by simp[World.frozen?,fK]⟩;rw[DR.o];simp[World.cell?,fK]
  have c0:=(O.cell (p:=⟨s,0,none⟩) h3).trans q0;have c1:=(O.cell (p:=⟨s,1,none⟩) h3).trans q1;obtain⟨R,bS⟩:∃R,R=iA (bX T):=⟨_,rfl⟩;rw[<-bS]at JJ lI;have dV:=acp bS;clear bf O bS q0 q1 q2;go_wp2_with fail;refine vJ 12 ((λ w'=>w'.cell? ⟨s,2,none⟩=some (.slice la m lc)/\w'.frozen? ⟨s,2,none⟩=false)) ?_ λ y=> ?_
  ·exact vK.o _ acu.drew
  refine aO 0 y ?_;refine aO 1 y ?_;refine aO 2 y ?_;refine aO 3 y ?_;refine aO 4 y ?_;refine aO 5 y ?_;refine cu 6 λ K A=> ?_;go_simp;refine JJ.o.mono ?_;rintro e w2 ⟨a2,n2,c2,rfl,l7,bD,iM⟩;have O_:Below w1.heap.size w1 w2:=acu.drew.trans iM;have iN:R.length=n2:=by simpa using bD.length
  have JK:=acp (Em la m lc S.last a2 n2 c2 R w2 (by rw[DR.o];exact kN.o.below (E.o.trans (O_.mono E.o.size)) acs) bD (by omega));have kg:=acp iN;clear bD iM iN;go_wp2_with fail;refine b_ A (vK.o _ O_) λ y=> ?_;clear A K;refine cu 7 λ K A=> ?_;go_simp;refine b_ A (vK.o _ (O_.trans ((wall w2 _).mono O_.size))) λ y=> ?_;clear A K;refine cu 8 λ K A=> ?_;go_simp;refine JK.o.mono ?_;rintro e w3 ⟨a3,c3,rfl,cB,jo,dI⟩;have TH:Below w1.heap.size w1 w3:=O_.trans (dI.mono O_.size);have zF:=acp (xH a3 (m+n2) c3 (S.last++R) w3 jo (by have:=kg.o;omega) cB.1);clear cB jo dI;go_wp2_with fail;refine b_ A (vK.o _ TH) λ y=> ?_;clear A K;refine cu 9 λ K A=> ?_;go_simp;refine zF.o.mono ?_;rintro e B ⟨a4,I,H,rfl,l8,gy,jv⟩;have Pb:Below w1.heap.size w1 B:=TH.trans (jv.mono TH.size);go_wp2_with fail;refine b_ A (vK.o _ Pb) λ y=> ?_;clear A K;refine aO 10 y ?_;refine aO 11 y ?_;refine cu 12 λ K A=> ?_;go_simp;refine o_ A ?_;clear y A K;have dG:B.heap[s]? =some (.cells #[.slice a n c,.int .i64 z,.slice la m lc] 203 (0,0)):=by
   have:=(Pb.block s aC).trans ((E.o.block s h3).trans HH.o);rw[HN.o,DR.o,DT.o];exact this
  have aN:(B.setCell ⟨s,2,none⟩ (.slice a4 I H)).heap[s]? =some (.cells #[.slice a n c,.int .i64 z,.slice a4 I H] 203 (0,0)):=aG dG;have jw:Keeps (λ b=>b=s) w (B.setCell ⟨s,2,none⟩ (.slice a4 I H)):=(gI (E.o.trans (Pb.mono E.o.size))).trans (Keeps.jy B ⟨s,2,none⟩ _) λ x _ G=>G;have BI:ah (λ b=>w.heap.size<=b/\b<B.heap.size) (B.setCell ⟨s,2,none⟩ (.slice a4 I H)) a4 I ((jh (S.last++R)).map bv):=gy.move (by rw[size_set];exact Nat.le_refl _) λ b u M=>⟨⟨by have:=TH.size;have:=E.o.size;omega,u.2⟩,aI _ _ _ _ (by have:=TH.size;simp only;omega)⟩;have KY:=(jL.o.grow Pb);have jl:(B.setCell ⟨s,2,none⟩ (.slice a4 I H)).heap.size=B.heap.size:=size_set _ _ _;have Kv:w.heap.size<=B.heap.size:=Nat.le_trans E.o.size Pb.size;have aF:∀b,b<B.heap.size->b≠s->(B.setCell ⟨s,2,none⟩ (.slice a4 I H)).heap[b]? =B.heap[b]? :=λ b _ Z=>aI _ _ _ _ Z;have aA:Keeps (λ b=>b=s) B (B.setCell ⟨s,2,none⟩ (.slice a4 I H)):=Keeps.jy B ⟨s,2,none⟩ _;generalize B.setCell ⟨s,2,none⟩ (.slice a4 I H)=J at*;have dK:=acp aA;clear aA;obtain⟨i3,iD⟩:∃i,Tryz.prog.info? 201=some i/\i.zero=some (.agg #[.int .i64 0,.slice none 0 0,.pointer none])/\i.size=3/\i.bytes=40:=aaq (by kernel_rfl);have ak:=acp iD;have gL:=acp aN;have Kq:=acp jw;have oD:=acp BI;have Wo:=acp KY;have d9:=acp aF;have dn:=acp Pb;have U:s<J.heap.size:=by omega
  have lN:=acp jl;clear jl;have NA:acr (∀w':World,w'.heap[s]? =J.heap[s]? ->w'.cell? ⟨s,0,none⟩=some (.slice a n c)/\w'.cell? ⟨s,1,none⟩=some (.int .i64 z)/\w'.cell? ⟨s,2,none⟩=some (.slice a4 I H)/\w'.frozen? ⟨s,0,none⟩=false):=λ w' fT=>by
   rw[aN]at fT;refine⟨?_,?_,?_,?_⟩<;>simp[World.cell?,World.frozen?,fT]
  have gM:acr (J.ownsRow 0 201 3 (.slice a n c) n V):=by
   have C:=bK lX.o (w':=J) λ b u M=>Kq.o.block b M (iE.o b u).2.1;rw[HN.o];exact C
  have aD:∀b,(Value.slice a n c).ownBlock=some b->o b=i/\b≠s/\b<w.heap.size:=λ b u=>iE.o b (by rw[HN.o]at u;exact u);have XB:=acp aD;clear iD dG aN jw BI KY aF O_ TH Pb gy jv c0 c1 aD;go_wp2_with fail;refine vJ 19 ((λ w'=>w'.cell? ⟨s,0,none⟩=some (.slice a n c)/\w'.cell? ⟨s,1,none⟩=some (.int .i64 z)/\w'.cell? ⟨s,2,none⟩=some (.slice a4 I H)/\w'.frozen? ⟨s,0,none⟩=false)) ?_ λ y=> ?_
  ·exact NA.o _ rfl
  refine aO 0 y ?_;refine aO 1 y ?_;refine aO 2 y ?_;refine aO 3 y ?_;refine aO 4 y ?_;refine aO 5 y ?_;refine aO 6 y ?_;refine aO 7 y ?_;refine aO 8 y ?_;refine aO 9 y ?_;refine aO 10 y ?_;refine aO 11 y ?_;refine aO 12 y ?_;refine aO 13 y ?_;refine aO 14 y ?_;refine cu 15 λ K A=> ?_;go_simp;have sO:Below J.heap.size J (J.drew.alloc (.cells #[.int .i64 z,.slice a4 I H,ptr q] 201)):=acu.drew.alloc acs _;refine b_ A (NA.o _ (sO.block s U)) λ y=> ?_;clear A K;refine cu 16 λ K A=> ?_;refine dZ (by rfl) (.tmp 35) (.tmp 46) 198 (by rfl) 0 201 i3 _ 3 40 Tryz.underlying198 ak.o.1 ak.o.2.1 ak.o.2.2.1 ak.o.2.2.2 rfl (by omega) (.slice a n c) n V (by rfl) (bK gM.o λ b u M=>sO.block b M) (some ⟨J.heap.size,0,none⟩) 1 1 [.int .i64 z,.slice a4 I H,ptr q] (by rfl) (jr (w:=J.drew) [.int .i64 z,.slice a4 I H,ptr q] 201 (by simp[maxLen])) (by simp[Value.oneCell']) (by unfold maxLen;omega) (by omega) (Nat.zero_le _) ?_;intro P Q N CU NC TI;have vV:N.heap[s]? =J.heap[s]? :=(NC.block s (Pd U sO.size) (λ e=>(XB.o s e.symm).2.1 rfl)).trans (sO.block s U);have aL:=acp CU;have dM:=acp TI;have jG:acr (Keeps (λ b=>(Value.slice a n c).ownBlock=some b) J N):=(gI sO).trans (Keeps.grown NC) λ x _ G=>G;have l5:J.heap.size+1<=N.heap.size:=by have:=NC.size;simp at this;omega
  clear CU TI NC;refine b_ A (NA.o _ vV) λ y=> ?_;clear A K;refine aO 17 y ?_;refine aO 18 y ?_;refine cu 19 λ K A=> ?_;go_simp;refine o_ A ?_;clear y A K;have yN:(N.setCell ⟨s,0,none⟩ (.slice P (n+1) Q)).heap[s]? =some (.cells #[.slice P (n+1) Q,.int .i64 z,.slice a4 I H] 203 (0,0)):=aG (vV.trans gL.o);have dN:acr (Keeps (λ b=>b=s) N (N.setCell ⟨s,0,none⟩ (.slice P (n+1) Q))):=acp (Keeps.jy N ⟨s,0,none⟩ (.slice P (n+1) Q));have XC:(N.setCell ⟨s,0,none⟩ (.slice P (n+1) Q)).heap.size=N.heap.size:=size_set _ _ _;have lC:=acp XC;clear XC;generalize N.setCell ⟨s,0,none⟩ (.slice P (n+1) Q)=w9 at*;have q1:w9.cell? ⟨s,1,none⟩=some (.int .i64 z):=by simp[World.cell?,yN]
  have qf:w9.frozen? ⟨s,1,none⟩=false:=by simp[World.frozen?,yN]
  have e1:IntKind.i64.wrap (z+1)=z+1:=aaf _ (by omega);have e2:IntKind.i64.wrap (z+1-1)=z:=by rw[show z+1-1=z by omega];exact aaf _ (by omega)
  have jc:(w9.setCell ⟨s,1,none⟩ (.int .i64 (z+1))).heap[s]? =some (.cells #[.slice P (n+1) Q,.int .i64 (z+1),.slice a4 I H] 203 (0,0)):=aG yN;have l6:(w9.setCell ⟨s,1,none⟩ (.int .i64 (z+1))).cell? ⟨s,1,none⟩=some (.int .i64 (z+1)):=by simp[World.cell?,jc]
  have nS:=acp jc;clear vV yN jc sO;go_wp2_with fail
  go_ret2
  have Y:(jh (S.last++R)).length=I:=by simpa using oD.o.length
  have aJ:Keeps (λ b=>b=s\/(Value.slice a n c).ownBlock=some b) B (w9.setCell ⟨s,1,none⟩ (.int .i64 (z+1))):=by
   have k1:Keeps (λ b=>b=s\/(Value.slice a n c).ownBlock=some b) B J:=dK.o.mono λ x _ G=>Or.inl G;have k2:Keeps (λ b=>b=s\/(Value.slice a n c).ownBlock=some b) J N:=jG.o.mono λ x _ G=>Or.inr G;have k3:Keeps (λ b=>b=s\/(Value.slice a n c).ownBlock=some b) N w9:=dN.o.mono λ x _ G=>Or.inl G;have k4:Keeps (λ b=>b=s\/(Value.slice a n c).ownBlock=some b) w9 (w9.setCell ⟨s,1,none⟩ (.int .i64 (z+1))):=(Keeps.jy w9 ⟨s,1,none⟩ _).mono λ x _ G=>Or.inl G;exact((k1.trans k2 λ x _ G=>G).trans k3 λ x _ G=>G).trans k4 λ x _ G=>G
  have kW:Keeps (λ b=>b=s\/(Value.slice a n c).ownBlock=some b) w (w9.setCell ⟨s,1,none⟩ (.int .i64 (z+1))):=(gI (E.o.trans (dn.o.mono E.o.size))).trans aJ λ x _ G=>G;have bT:(Value.slice P (n+1) Q).ownBlock=(Value.slice a n c).ownBlock\/(Value.slice P (n+1) Q).ownBlock=some (J.heap.size+1):=by
   rcases dM.o with C|C
   ·exact .inl C
   ·right;rw[C];simp
  have hz:=lN.o;have aB:(w9.setCell ⟨s,1,none⟩ (.int .i64 (z+1))).heap.size=N.heap.size:=(size_set _ _ _).trans lC.o;have ZL:∀b,b<B.heap.size->o b=0->(Value.slice P (n+1) Q).ownBlock≠some b:=λ b u h0 he=>by
   rcases bT with C|C
   ·rw[C]at he;have:=(XB.o b he).1;exact hi (by rw[<-this,h0])
   ·rw[C]at he;cases he;omega
  have Ri:∀b,w.heap.size<=b->o b=0:=λ b u=>Wy λ h0=>by have:=(HM.o.new b h0).2;omega
  have iO:∀b,o b=0->¬(b=s\/(Value.slice a n c).ownBlock=some b):=λ b h0 h=>by
   rcases h with h|h
   ·have:=jm.o;rw[<-h,h0]at this;exact hi this.symm
   ·have:=(XB.o b h).1;rw[h0]at this;exact hi this.symm
  refine⟨by rw[DT.o];rfl,?_⟩;rw[<-dV.o];obtain⟨g,D,mb,ib,nb,hA,hg,hD⟩:=Wo.o;refine Xz (x:=⟨S.next,jh (S.last++R),bX T⟩) (v:= .slice a n c) (v8:= .slice P (n+1) Q) (a9:=a4) (c9:=H) (q:=q) HM.o hi jm.o h3 XB.o ZV.o ?_ ?_ ?_ kW (by show(jh (S.last++R)).length<=H;omega) ?_ ⟨g,D,mb,ib,nb,hA.keeps aJ λ b u=>iO b ?_,λ b u=> ?_⟩ iT.o
  ·have C:=nS.o;rw[DT.o,<-Y]at C;rw[DT.o];exact C
  ·show World.ownsRow _ 0 _ 3 (.slice P (n+1) Q) (S.l.length+1) (V++[.int .i64 S.next,.slice a4 (jh (S.last++R)).length H,ptr q]);rw[Y,<-DT.o,<-HN.o];refine bK aL.o λ b u M=> ?_;have av:b≠s:=λ e=>by
    rcases bT with C|C
    ·rw[C]at u;exact(XB.o b u).2.1 e
    ·rw[C]at u;cases u;omega
   exact(aI _ _ _ _ av).trans (dN.o.block b M av)
  ·rcases bT with C|C
   ·exact .inl C
   ·exact .inr ⟨_,C,by omega⟩
  ·show ah _ _ a4 (jh (S.last++R)).length ((jh (S.last++R)).map bv);rw[Y];have l9:B.heap.size<=J.heap.size:=by omega
   refine oD.o.move (by rw[aB];omega) λ b u M=>⟨⟨u.1,by rw[aB];omega,ZL b u.2 (Ri b u.1)⟩,?_⟩;have Z:=iO b (Ri b u.1);have av:b≠s:=λ e=>Z (.inl e);exact(aJ.block b u.2 Z).trans (d9.o b u.2 av).symm
  ·rcases u with u|u
   ·exact hg b u
   ·exact hD b u
  ·have h0:o b=0:=by
    rcases u with u|u
    ·exact hg b u
    ·exact hD b u
   refine⟨h0,ZL b ?_ h0⟩;rcases u with u|u
   ·exact hA.low b u
   ·exact hA.qM b u
end
theorem TJ(m y A C D B z u:Value)(w:World):(Instr.index 108 (.agg #[m,y,A,C,D,B,z,u]) (.int .i64 0)).run Tryz.prog w= .ok m w:=by
 kernel_rfl
theorem TK(y m A C D B z u:Value)(w:World):(Instr.index 108 (.agg #[y,m,A,C,D,B,z,u]) (.int .i64 1)).run Tryz.prog w= .ok m w:=by
 kernel_rfl
theorem TL(z y m C D B A u:Value)(w:World):(Instr.index 108 (.agg #[z,y,m,C,D,B,A,u]) (.int .i64 2)).run Tryz.prog w= .ok m w:=by
 kernel_rfl
theorem TM(z y B m D C A u:Value)(w:World):(Instr.index 108 (.agg #[z,y,B,m,D,C,A,u]) (.int .i64 3)).run Tryz.prog w= .ok m w:=by
 kernel_rfl
theorem TN(z y B D m C A u:Value)(w:World):(Instr.index 108 (.agg #[z,y,B,D,m,C,A,u]) (.int .i64 4)).run Tryz.prog w= .ok m w:=by
 kernel_rfl
theorem TP(z y B C D m A u:Value)(w:World):(Instr.index 108 (.agg #[z,y,B,C,D,m,A,u]) (.int .i64 5)).run Tryz.prog w= .ok m w:=by
 kernel_rfl
theorem TQ(z y A C D B m u:Value)(w:World):(Instr.index 108 (.agg #[z,y,A,C,D,B,m,u]) (.int .i64 6)).run Tryz.prog w= .ok m w:=by
 kernel_rfl
theorem TR(y u A C D B z m:Value)(w:World):(Instr.index 108 (.agg #[y,u,A,C,D,B,z,m]) (.int .i64 7)).run Tryz.prog w= .ok m w:=by
 kernel_rfl
theorem LY(v:Nat->Value)(n:Nat)(m:n<8)(w:World):(Instr.index 108 (.agg #[v 0,v 1,v 2,v 3,v 4,v 5,v 6,v 7]) (.int .i64 n)).run Tryz.prog w= .ok (v n) w:=by
 match n,m with
 |0,_=>exact TJ _ _ _ _ _ _ _ _ w
 |1,_=>exact TK _ _ _ _ _ _ _ _ w
 |2,_=>exact TL _ _ _ _ _ _ _ _ w
 |3,_=>exact TM _ _ _ _ _ _ _ _ w
 |4,_=>exact TN _ _ _ _ _ _ _ _ w
 |5,_=>exact TP _ _ _ _ _ _ _ _ w
 |6,_=>exact TQ _ _ _ _ _ _ _ _ w
 |7,_=>exact TR _ _ _ _ _ _ _ _ w
section
variable{W w:World}{o:Mark}{i j k p:Nat}{M:dQ}
theorem LZ(h:bP o i j k w p M):Dy 121 #[ptr p] w λ e w'=>∃n,e= .returned (.int .i64 n)/\Rh M n/\w'=w:=by
 obtain⟨t,s,v,J,Q,R,I⟩:=h.at_;obtain⟨W,X,c2,u,N⟩:=gV J;have U:=u 0 (by omega);have e4:=u 1 (by omega);have V:=u 2 (by omega);have Z:=u 3 (by omega);have Y:=u 4 (by omega);have e8:=u 5 (by omega);have e9:=u 6 (by omega);have P:=u 7 (by omega);have O:=acp I;clear h J Q R I u N;go_enter Tryz.func121,Tryz.ntmps121;go_wp2_with fail
 go_loopw [9] (λ F wr=>∃n:Nat,n<=8/\F= .int .i64 n/\(∀m,m<n->M.fds m≠none)/\wr=w) (λ F _=>8-(intOf F).toNat)
 case atStart=>exact⟨0,by omega,rfl,λ m K=>by omega,rfl⟩
 case round=>
  obtain⟨n,hn,rfl,z,rfl⟩:=hrel;have H:=acp z;clear z;by_cases E:n<8
  ·have S:decide ((n:Int)<8)=true:=by simp;omega
   have B:=LY v n E wr;have A:=O.o n E;have i0:(0:Int)<=n:=by omega
   cases y:M.fds n with
   |none=>
    rw[y]at A;have C:v n= .pointer none:=A;rw[C]at B;have G:=acp y;clear A C y;go_wp2_with fail;go_ret;exact⟨n,rfl,.inr ⟨n,E,rfl,G.o,H.o⟩,rfl⟩
   |some f=>
    rw[y]at A;obtain⟨q,fa,fc,C,_⟩:=A;rw[C]at B;have G:=acp y;clear C y;go_wp2_with fail;go_roundw
    case rel=>
     refine⟨n+1,by omega,by go_num,λ m K=> ?_,trivial⟩;by_cases D:m=n
     ·rw[D,G.o];simp
     ·exact H.o m (by omega)
    case measure=>simp[intOf];omega
  ·obtain rfl:n=8:=by omega
   go_wp2_with fail;go_ret;exact⟨-1,rfl,.inl ⟨rfl,H.o⟩,rfl⟩
end
def Ip(S:qJ)(id:Int):Option mP:=S.l.find? λ x=>decide (x.id=id)
theorem EN.none_{S:qJ}{id:Int}(h:∀x∈S.l,x.id≠id):Ip S id=none:=by
 unfold Ip;rw[abo];intro x m;simpa using h x m
theorem EN.some_:∀{l:List mP} {id:Int} {k:Nat} {x:mP},l[k]? =some x->x.id=id->(∀u∈l.take k,u.id≠id)->l.find? (λ x=>decide (x.id=id))=some x
 |[],_,k,x,h,_,_=>by simp at h
 |y::r,id,0,x,h,z,_=>by
  have e:y=x:=by simpa using h
  subst e;simp[z]
 |y::r,id,k+1,x,h,z,A=>by
  have B:y.id≠id:=A y (by simp);rw[List.find?_cons_of_neg (by simpa using B)];exact EN.some_ (k:=k) (by simpa using h) z λ u m=>A u (by simp[m])
def GetRet(o:Mark)(w:World)(S:qJ)(id:Int)(e:Ending)(w':World):Prop:=
 Below w.heap.size w w'/\((Ip S id=none/\e= .returned (.tuple #[.pointer none,.bool false]))\/∃x q,Ip S id=some x/\e= .returned (.tuple #[ptr q,.bool true])/\dW o 0 w' q x.t/\fA x.t)
section
variable{W w:World}{o:Mark}{i s:Nat}{S:qJ}
theorem get_any(R:jD o i w s S)(Z:Marks W o w)(Bv:S.l.length<=1000)(id:Int):Dy 191 #[ptr s,.int .i64 id] w (GetRet o w S id):=by
 have HM:=acp Z;obtain⟨v,la,lc,ak,h1,h2,h3,M,h5,Y,h7,h8⟩:=R.at_;obtain⟨a,c,rfl,G⟩:=bg M;obtain⟨-,-,z⟩:=ah.kg M (by unfold maxLen;omega);have HF:=acp (LH R id Bv);have HH:=acp h1;have ZV:=acp Y;have dV:=acp z;obtain⟨n,P⟩:∃n,n=S.l.length:=⟨_,rfl⟩;have J:=acp P;rw[<-P]at G Bv;clear R Z h1 h2 M h5 Y h7 h8 z P;go_enter Tryz.func191,Tryz.ntmps191;go_wp2_with fail;refine HF.o.mono ?_;rintro e w1 ⟨v,rfl,hf,F⟩;have m:=acp F;clear F;rcases hf with⟨rfl,y⟩|⟨k,x,rfl,H,E,y⟩
 ·have Xg:=acp y;clear y;go_wp2_with fail
  go_ret2
  exact⟨m.o,.inl ⟨EN.none_ Xg.o,rfl⟩⟩
 ·have av:k<n:=by rw[J.o];exact(aaj.1 H).1
  have B:=dV.o;rw[<-J.o]at B;obtain⟨g,A,rfl,K,_,u⟩:=B.at_ (by omega);obtain⟨ha,aA,q,e0,e1,e2,e3,e4,e5,U⟩:=ZV.o.at_ H;have d2:w1.cell? ⟨g,A+k*3+2,none⟩=some (ptr q):=(m.o.cell (p:=⟨g,A+k*3+2,none⟩) K.2).trans ((u (k*3+2) (by omega)).trans e2);have D:=m.o.block s h3;have c0:w1.cell? ⟨s,0,none⟩=some (.slice (some ⟨g,A,none⟩) n c):=by
   have:=D.trans HH.o;rw[J.o];simp[World.cell?,this]
  have jL:=acp (HM.o.step (I:=λ _=>False) (λ e=>e) (Step.grow HM.o m.o));have K8:=acp (Xe (e5.grow m.o) jL.o U);have N:=acp (EN.some_ H E y);have O:=acp U;have X:¬((k:Int)<0):=by omega
  have i0:(0:Int)<=k:=by omega
  have i1:(k:Int)<n:=by omega
  clear H E y u e0 e1 e2 e3 e4 e5 U B D;go_wp2_with fail;refine K8.o.mono ?_;rintro e w2 ⟨q2,rfl,H9,C⟩;have V:=acp H9;have Q:=acp (m.o.trans (C.mono m.o.size));clear H9 C;go_wp2_with fail
  go_ret2
  exact⟨Q.o,.inr ⟨x,q2,N.o,rfl,V.o,O.o⟩⟩
end
structure iI where
 kind:Int
 path:List UInt8
 bT:List UInt8
 fd:Int
 at_:Int
 n:Int
 aL:Int
 snap:Int
 data:List UInt8
def opC(x:iI)(u:Mx)(m:Nat):Array Value:= #[.int .i64 x.kind,.string (strOf x.path),.string (strOf x.bT),.int .i64 x.fd,.int .i64 x.at_,.int .i64 x.n,.int .u64 x.aL,.int .i64 x.snap,.slice u x.data.length m]
structure wM(x:iI):Prop where
 wk:(Lit.int .i64 x.kind).wf=true
 wf:(Lit.int .i64 x.fd).wf=true
 wa:(Lit.int .i64 x.at_).wf=true
 wn:(Lit.int .i64 x.n).wf=true
 ws:(Lit.int .i64 x.snap).wf=true
 wt:0<=x.aL/\x.aL<=18446744073709551615
 wp:x.path.length<4294967281
 wq:x.bT.length<4294967281
 wd:x.data.length<=1000000000
structure tZ where
 er:Int
 n:Int
 data:List UInt8
 names:List Nm
 node:Option (Int×fI)
def eD(z:Int):tZ:=⟨z,0,[],[],none⟩
def eF(r:tZ)(u y:Mx)(z m:Nat):Array Value:= #[.int .i64 r.er,.int .i64 r.n,.slice u r.data.length z,.slice y r.names.length m,
 .int .i64 (match r.node with|some q=>q.1|none=>0),.int .i64 (match r.node with|some q=>q.2.kind|none=>0),.int .i64 (match r.node with|some q=>q.2.links|none=>0),.int .i64 (match r.node with|some q=>(q.2.b.length:Int)|none=>0),.int .u64 (match r.node with|some q=>q.2.aL|none=>0),.bool (match r.node with|some q=>q.2.closed|none=>false)]
def n_(o:Mark)(w:World)(v:Value)(r:tZ):Prop:=
 ∃y u z m,v= .agg (eF r y u z m)/\r.data.length<=z/\r.names.length<=m/\ah (Free o w) w y r.data.length (r.data.map bv)/\aW (Free o w) w u r.names.length (r.names.map strOf)
theorem jT(S:Nat->Prop)(w:World):aW S w none 0 []:=⟨ah.nil _ _ _,λ v m=>by cases m⟩
theorem n_.no(o:Mark)(w:World)(z:Int):n_ o w (AU z) (eD z):=
 ⟨none,none,0,0,rfl,Nat.le_refl _,Nat.le_refl _,ah.nil _ _ _,jT _ _⟩
theorem bE(r:tZ)(u y:Mx)(z m:Nat):(eF r u y z m).all (·.oneCell')=true:=by simp[eF,Value.oneCell']
theorem n_.no_(o:Mark)(w:World)(z:Int):n_ o w (.agg (eF (eD z) none none 0 0)) (eD z):=
 ⟨none,none,0,0,rfl,Nat.le_refl _,Nat.le_refl _,ah.nil _ _ _,jT _ _⟩
theorem bC:(Tryz.prog.info? 38).map (·.size)=some 10:=by kernel_rfl
theorem bI{A:Func}{B:Nat}{Q:Ending->World->Prop}{a:Act}{w:World}{b:Nat}{r:tZ}{z m:Mx}{u y:Nat}(G:A.results= #[.cell B 38])(D:a.tmps.getD B undef= .pointer (some ⟨b,0,none⟩))(C:a.defers=[])(E:w.heap[b]? =some (.cells (eF r z m u y) 38 (0,0)))(F:Q (.returned (.agg (eF r z m u y))) w):
  bodyPost Tryz.prog A Q .ret a w:=
 aav (v:= .agg (eF r z m u y)) (pQ G D (aaS w b 38 38 _ (0,0) _ E Tryz.underlying38 rfl bC)) C F
theorem XD{S:Nat->Prop}(a:Mx)(l c:Nat)(C:I8)(A N:Nat)(w:World)(V:l<=1000000000)(M:l<=c)(R:A<=9223372036854775807)(U:N<=9223372036854775807)(H:ah S w a l (C.map bv)):
  Dy 129 #[.slice a l c,.int .i64 A,.int .i64 N] w (tC w ((C.drop A).take N) 0):=by
 have Q:(0:Int)<=(A:Int):=by omega
 have P:(0:Int)<=(N:Int):=by omega
 have z3:decide ((A:Int)<0)=false:=by simp
 have z4:decide ((N:Int)<0)=false:=by simp
 have J:=acp H;have K:C.length=l:=by have:=H.length;simpa using this
 have O:=acp K;clear H K;by_cases F:c=min A l
 ·subst F;go_enter abA,abt;go_wp2_with fail;refine(gP (S:=S) _ _ _ ((C.drop A).take N) _ (by omega) (H6 _ A N O.o (by omega) (by omega))).mono ?_;rintro e I ⟨G,E,D,rfl,z,u,m⟩;have y:=acp u;have B:=acp m;clear u m;go_wp2_with fail
  go_ret2
  exact⟨G,E,D,rfl,z,y.o,B.o⟩
 ·cases a with
  |none=>
   go_enter abA,abt;go_wp2_with fail;refine(gP (S:=S) _ _ _ ((C.drop A).take N) _ (by omega) (Hz A N J.o (by omega))).mono ?_;rintro e I ⟨G,E,D,rfl,z,u,m⟩;have y:=acp u;have B:=acp m;clear u m;go_wp2_with fail
   go_ret2
   exact⟨G,E,D,rfl,z,y.o,B.o⟩
  |some W=>
   go_enter abA,abt;go_wp2_with fail;refine(gP (S:=S) _ _ _ ((C.drop A).take N) _ (by omega) (Hy A N J.o (by omega) (by omega))).mono ?_;rintro e I ⟨G,E,D,rfl,z,u,m⟩;have y:=acp u;have B:=acp m;clear u m;go_wp2_with fail
   go_ret2
   exact⟨G,E,D,rfl,z,y.o,B.o⟩
theorem TS{S:Nat->Prop}(a:Mx)(l c:Nat)(u:I8)(at_ n:Int)(w:World)(B:l<=1000000000)(m:l<=c)(y:(Lit.int .i64 at_).wf=true)(z:(Lit.int .i64 n).wf=true)(A:ah S w a l (u.map bv)):
  Dy 129 #[.slice a l c,.int .i64 at_,.int .i64 n] w (tC w (qU u at_ n) (vP at_ n)):=by
 simp only[Lit.wf,IntKind.min,IntKind.max,IntKind.signed,IntKind.bits,aaW,aap]at y z;by_cases h:at_<0\/n<0
 ·unfold qU vP;rw[if_pos h,if_pos h];exact K7 a l c at_ n w h
 ·unfold qU vP;rw[if_neg h,if_neg h];have:=XD (S:=S) a l c u at_.toNat n.toNat w B m (by simp at y;omega) (by simp at z;omega) A;rw[show((at_.toNat:Nat):Int)=at_ by omega,show((n.toNat:Nat):Int)=n by omega]at this;exact this
def wN(M:dQ)(x:iI):tZ:=match gW M x.fd false with
 |none=>eD 26
 |some f=>⟨vP x.at_ x.n,(qU f.b x.at_ x.n).length,qU f.b x.at_ x.n,[],none⟩
def BJ(o:Mark)(r:tZ)(e:Ending)(w':World):Prop:=∃v,e= .returned v/\n_ o w' v r
section
variable{W w:World}{o:Mark}{i j k p:Nat}{M:dQ}
theorem TT(h:bP o i j k w p M)(hM:Marks W o w)(x:iI)(hx:wM x)(B:∀n f,M.fds n=some f->f.b.length<=1000000000)(Y:Mx)(X:Nat):
  Dy 59 #[ptr p,.agg (opC x Y X)] w λ e w'=>BJ o (wN M x) e w'/\Below w.heap.size w w':=by
 have HM:=acp hM;have HW:acr (∀w' b,Below w.heap.size w w'->Dy 53 #[ptr p,.int .i64 x.fd,.bool b] w' λ e P=>P=w'/\LW o w' M x.fd b e):=λ w' b B=>EU (h.grow hM B) x.fd b;have HX:=acp hx;have HB:=acp B;clear h hM hx B;unfold opC;go_enter Tryz.func59,Tryz.ntmps59;go_wp2_with fail;obtain⟨G,C⟩:∃G,G=(w.alloc (.cells (opC x Y X) 32)).alloc (.cells (eF (eD 0) none none 0 0) 38):=⟨_,rfl⟩;have J:Below w.heap.size w G:=by rw[C];exact(wall w _).trans ((wall _ _).mono (by simp))
 have xI:acr (Dy 53 #[ptr p,.int .i64 x.fd,.bool false] ((w.alloc (.cells (opC x Y X) 32)).alloc (.cells (eF (eD 0) none none 0 0) 38)) λ e P=>P=G/\LW o G M x.fd false e):=by rw[<-C];exact HW.o G false J
 unfold opC eF eD at xI;dsimp only[List.length_nil]at xI;have R:G.heap[w.heap.size]? =some (.cells (opC x Y X) 32 (0,0)):=by
  rw[C];exact((wall _ _).block _ (by simp)).trans (MapKept.heap_alloc w _).1
 have aB:G.heap[w.heap.size+1]? =some (.cells (eF (eD 0) none none 0 0) 38 (0,0)):=by
  rw[C];have:=(MapKept.heap_alloc (w.alloc (.cells (opC x Y X) 32)) (.cells (eF (eD 0) none none 0 0) 38)).1;rw[Pe]at this;exact this
 refine xI.o.mono ?_;rintro e N ⟨rfl,rF⟩;have BK:=acp R;have tO:=acp aB;have z:=acp J;clear R aB J C xI;rcases rF with⟨y,rfl⟩|⟨f,fv,y,rfl,aJ⟩
 ·have U:wN M x=eD 26:=by unfold wN;rw[y]
  have E:=acp U;clear y U;go_wp2_with fail;refine(g_ _ _).mono ?_;rintro e w4 ⟨rfl,D⟩;unfold AU;have dI:=acp (z.o.trans (D.mono z.o.size));have I:=acp ((D.block _ (qW.1 tO.o).1).trans tO.o);go_wp2_with (refine aj (by rfl) 38 _ _ (by rfl) (w.heap.size+1) (eF (eD 26) none none 0 0) (by rfl) (by rfl) _ I.o bC rfl (bE _ _ _ _ _) ?_;intro w5 A;have F:=acp A;clear A);refine bI rfl rfl rfl F.o.1 ⟨⟨_,rfl,?_⟩,F.o.below dI.o (by omega)⟩;rw[E.o];exact n_.no_ _ _ _
 ·have U:wN M x=⟨vP x.at_ x.n,(qU f.b x.at_ x.n).length,qU f.b x.at_ x.n,[],none⟩:=by unfold wN;rw[y]
  have E:=acp U;have av:f.b.length<=1000000000:=by
   unfold gW at y;split at y
   ·split at y
    ·split at y
     ·cases y;exact HB.o _ _ (by assumption)
     ·cases y
    ·cases y
   ·cases y
  obtain⟨q,fa,fc,rfl,aH,aF,Z,aA,aD⟩:=aJ;have WS:=acp Z;have V:=acp (TS fa f.b.length fc f.b x.at_ x.n N.drew av aA HX.o.wa HX.o.wn (aD.below acu.drew acs));have HK:acr (∀w':World,Below N.heap.size N w'->w'.cell? ⟨q,2,none⟩=some (.slice fa f.b.length fc)/\w'.cell? ⟨w.heap.size,4,none⟩=some (.int .i64 x.at_)/\w'.cell? ⟨w.heap.size,5,none⟩=some (.int .i64 x.n)):=λ w' B=>by
   have h1:=(B.block q aF).trans WS.o;have h2:=(B.block _ (qW.1 BK.o).1).trans BK.o;refine⟨?_,?_,?_⟩<;>simp[World.cell?,h1,h2,opC]
  clear y U aH Z aA aD av;obtain⟨S,H⟩:∃S,S=qU f.b x.at_ x.n:=⟨_,rfl⟩;obtain⟨pe,Q⟩:∃pe,pe=vP x.at_ x.n:=⟨_,rfl⟩;rw[<-H,<-Q]at V;rw[<-H,<-Q]at E;clear H Q;go_wp2_with fail;refine su ((λ w'=>w'.cell? ⟨q,2,none⟩=some (.slice fa f.b.length fc)/\w'.cell? ⟨w.heap.size,4,none⟩=some (.int .i64 x.at_)/\w'.cell? ⟨w.heap.size,5,none⟩=some (.int .i64 x.n))) ?_ λ m=> ?_
  ·exact HK.o _ acu.drew
  refine aM 0 m ?_;refine aM 1 m ?_;refine aM 2 m ?_;refine aM 3 m ?_;refine aM 4 m ?_;refine aM 5 m ?_;refine aM 6 m ?_;refine aM 7 m ?_;refine lJ 8 λ K hK=> ?_;go_simp;refine V.o.mono ?_;rintro e w4 ⟨a4,n4,c4,rfl,ak,O,D⟩;have aL:S.length=n4:=by have:=O.length;simpa using this
  subst aL;have u:Below N.heap.size N w4:=acu.drew.trans D;have dI:=acp (z.o.trans (u.mono z.o.size));have aC:=acp u;have I:=acp ((u.block _ (qW.1 tO.o).1).trans tO.o);have ZN:=acp ak;have dV:=acp O;clear ak O D u;go_wp2_with fail;refine kV hK (HK.o _ aC.o) λ m=> ?_;clear hK K;refine aM 9 m ?_;refine aM 10 m ?_;refine aM 11 m ?_;refine aM 12 m ?_;refine aM 13 m ?_;refine rH ?_;clear m;go_wp2_with (refine aj (by rfl) 38 _ _ (by rfl) (w.heap.size+1) (eF ⟨pe,S.length,S,[],none⟩ a4 none c4 0) (by rfl) (by rfl) _ I.o bC rfl (bE _ _ _ _ _) ?_;intro w5 A;have F:=acp A;clear A);refine bI rfl rfl rfl F.o.1 ⟨⟨_,rfl,?_⟩,F.o.below dI.o (by omega)⟩;rw[E.o];have bn:=z.o.size;have bf:=(qW.1 tO.o).1;refine⟨a4,none,c4,0,rfl,ZN.o,Nat.le_refl _,?_,jT _ _⟩;refine dV.o.move (by rw[F.o.2.2];exact Nat.le_refl _) λ b B aN=>⟨⟨Wy λ h0=> ?_,by rw[F.o.2.2];exact B.2⟩,F.o.2.1.block b aN (λ e:b=w.heap.size+1=> ?_)⟩
  ·have:=(HM.o.new b h0).2;have h3:N.heap.size<=b:=B.1;omega
  ·have h3:N.heap.size<=b:=B.1;omega
end
structure Mk(i j k l:Nat):Prop where
 ne:i≠0/\j≠0/\k≠0/\l≠0/\i≠j/\i≠k/\i≠l/\j≠k/\j≠l/\k≠l
theorem jK.step{o:Mark}{l:Nat}{u y:World}{g:Nat}{E:Array Value}{t:TypeId}{W:World}(F:Marks W o u)(A:jK u g E t y)(C:o g=l):Step o (λ m=>m=l) u o y:=by
 obtain⟨_,B,H⟩:=A;refine⟨λ _ _=>rfl,λ b G D=>absurd (F.new b D).2 (by omega),B.mono λ x _ (z:x=g)=>by rw[z];exact C⟩
section
variable{W w:World}{o:Mark}{i j k l p:Nat}{M:dQ}
theorem bP.tree{A:Mark}{w':World}{t s:Nat}{v:Nat->Value}{C:aS}(D:Mk i j k l)(H:w.heap[p]? =some (.cells (Dq t s M.now v) 110 (0,0)))(F:jD o i w s M.s)(E:∀n,n<8->yM o w (v n) (M.fds n))(y:o p=k)(u:p<w.heap.size)(z:Step o (λ m=>m=j) w A w')(O:dW A j w' t C):bP A i j k w' p {M with t:=C}:=by
 obtain⟨S,J,U,P,G,R,Q,K,V,I⟩:=D.ne;have B:¬(λ m=>m=j) 0:=λ e=>J e.symm;exact⟨⟨t,s,v,(z.block u (by rw[y];exact λ e=>K e.symm)).trans H,F.step B G z,O,λ n N=>(E n N).step B z⟩,(z.old p u).trans y,Pd u z.keep.size⟩
def Iq(o:Mark)(i j k l:Nat)(w:World)(p:Nat)(q:tZ×dQ)(e:Ending)(w':World):Prop:=
 ∃u,BJ u q.1 e w'/\Step o (λ m=>m=i\/m=j\/m=k\/m=l) w u w'/\bP u i j k w' p q.2
def kr(M:dQ)(x:iI):tZ×dQ:=match gW M x.fd true with
 |none=>(eD 26,M)
 |some f=>if 600<x.data.length then(eD 3,M)else
  (if (dP M.t f.id x.data).1≠0 then eD (dP M.t f.id x.data).1 else⟨0,x.data.length,[],[],none⟩,{M with t:=(dP M.t f.id x.data).2})
theorem Pf{S:Nat->Prop}(A:bP o i j k w p M)(hM:Marks W o w)(hk:Mk i j k l)(dV:fA M.t)(x:iI)(hx:wM x)(aL:∀n f,M.fds n=some f->(Lit.int .i64 f.id).wf=true)(H:Mx)(J:Nat)(dn:ah S w H x.data.length (x.data.map bv)):
  Dy 60 #[ptr p,.agg (opC x H J)] w (Iq o i j k l w p (kr M x)):=by
 have dG:=acp hk;have h_:=acp dV;have HX:=acp hx;have HM:=acp hM;have HS:=acp A;have TU:=acp aL;have jo:=acp dn;clear A hM hk dV hx aL dn;unfold opC;go_enter Tryz.func60,Tryz.ntmps60;go_wp2_with fail;obtain⟨V,P⟩:∃V,V=(w.alloc (.cells (opC x H J) 32)).alloc (.cells (eF (eD 0) none none 0 0) 38):=⟨_,rfl⟩;have aD:Below w.heap.size w V:=by rw[P];exact(wall w _).trans ((wall _ _).mono (by simp))
 have cB:V.heap[w.heap.size]? =some (.cells (opC x H J) 32 (0,0)):=by
  rw[P];exact((wall _ _).block _ (by simp)).trans (MapKept.heap_alloc w _).1
 have aH:V.heap[w.heap.size+1]? =some (.cells (eF (eD 0) none none 0 0) 38 (0,0)):=by
  rw[P];have:=(MapKept.heap_alloc (w.alloc (.cells (opC x H J) 32)) (.cells (eF (eD 0) none none 0 0) 38)).1;rw[Pe]at this;exact this
 obtain⟨n1,n2,n3,n4,n5,n6,n7,n8,n9,aJ⟩:=dG.o.ne;obtain⟨o1,Y,bS,dN⟩:=cK HM.o l (λ b=>b=w.heap.size+1) (w':=V) (λ b Z=>by subst Z;exact⟨by omega,(qW.1 aH).1⟩) aD;have aA:bP o1 i j k V p M:=HS.o.step (λ e=>n4 e.symm) n7 n9 aJ Y;have d9:Marks W o1 V:=HM.o.step (λ e=>n4 e.symm) Y;have xI:acr (Dy 53 #[ptr p,.int .i64 x.fd,.bool true] ((w.alloc (.cells (opC x H J) 32)).alloc (.cells (eF (eD 0) none none 0 0) 38)) λ e jm=>jm=V/\LW o1 V M x.fd true e):=by rw[<-P];exact acp (EU aA x.fd true)
 unfold opC eF eD at xI;dsimp only[List.length_nil]at xI;have BK:=acp cB;have tO:=acp aH;have gy:=acp aD;have mo:=acp aA;have jL:=acp d9;have yO:=acp (bS _ rfl);have iE:acr (o1 w.heap.size=0):=acp ((dN w.heap.size (by omega)).trans (Wy λ h9=>by have:=(HM.o.new _ h9).2;omega));have mQ:=acp Y;clear cB aH aD P aA d9 bS dN Y;refine xI.o.mono ?_;rintro e X ⟨rfl,rF⟩;clear xI;have uV:acr (∀(z:tZ) (w4 Q:World),Below X.heap.size X w4->jK w4 (w.heap.size+1) (eF z none none 0 0) 38 Q->z.data=[]->z.names=[]->Iq o i j k l w p (z,M) (.returned (.agg (eF z none none 0 0))) Q):=λ z w4 Q Z hs U C=>by
  have sQ:=jL.o.step (I:=λ _=>False) (λ e=>e) (Step.grow jL.o Z);have R:=hs.step sQ yO.o;have pF:=(mo.o.grow jL.o Z).step (λ e=>n4 e.symm) n7 n9 aJ R;refine⟨o1,⟨_,rfl,none,none,0,0,rfl,by rw[U];exact Nat.le_refl _,by rw[C];exact Nat.le_refl _,by rw[U];exact ah.nil _ _ _,by rw[C];exact jT _ _⟩,((mQ.o.trans (Step.grow jL.o Z)).trans R).mono λ m hm=> .inr (.inr (.inr hm)),pF⟩
 rcases rF with⟨B,rfl⟩|⟨f,fv,B,rfl,bD⟩
 ·have hr:kr M x=(eD 26,M):=by unfold kr;rw[B]
  have E:=acp hr;clear B hr;go_wp2_with fail;refine(g_ _ _).mono ?_;rintro e w4 ⟨rfl,F⟩;unfold AU;have dI:=acp F;have D:=acp ((F.block _ (qW.1 tO.o).1).trans tO.o);clear F;go_wp2_with (refine aj (by rfl) 38 _ _ (by rfl) (w.heap.size+1) (eF (eD 26) none none 0 0) (by rfl) (by rfl) _ D.o bC rfl (bE _ _ _ _ _) ?_;intro Q y;have gL:=acp y;clear y);exact bI rfl rfl rfl gL.o.1 (by rw[E.o];exact uV.o _ _ _ dI.o gL.o rfl rfl)
 ·by_cases G:600<x.data.length
  ·have hr:kr M x=(eD 3,M):=by unfold kr;rw[B];simp only[if_pos G]
   have E:=acp hr;have hd:decide ((600:Int)<(x.data.length:Int))=true:=by simp;omega
   have c8:X.cell? ⟨w.heap.size,8,none⟩=some (.slice H x.data.length J):=by simp[World.cell?,BK.o,opC]
   clear B hr bD G;go_wp2_with fail;refine(g_ _ _).mono ?_;rintro e w4 ⟨rfl,F⟩;unfold AU;have dI:=acp F;have D:=acp ((F.block _ (qW.1 tO.o).1).trans tO.o);clear F;go_wp2_with (refine aj (by rfl) 38 _ _ (by rfl) (w.heap.size+1) (eF (eD 3) none none 0 0) (by rfl) (by rfl) _ D.o bC rfl (bE _ _ _ _ _) ?_;intro Q y;have gL:=acp y;clear y);exact bI rfl rfl rfl gL.o.1 (by rw[E.o];exact uV.o _ _ _ dI.o gL.o rfl rfl)
  ·have hd:decide ((600:Int)<(x.data.length:Int))=false:=by simp;omega
   have hr:kr M x=(if (dP M.t f.id x.data).1≠0 then eD (dP M.t f.id x.data).1 else⟨0,x.data.length,[],[],none⟩,{M with t:=(dP M.t f.id x.data).2}):=by unfold kr;rw[B];simp only[if_neg G]
   have E:=acp hr;have XE:(Lit.int .i64 f.id).wf=true:=by
    unfold gW at B;split at B
    ·split at B
     ·split at B
      ·cases B;exact TU.o _ _ (by assumption)
      ·cases B
     ·cases B
    ·cases B
   obtain⟨q,fa,fc,rfl,gM,iN,aF,jw,O⟩:=bD;obtain⟨t,s,v,h1,h2,h3,h4⟩:=(mo.o.grow jL.o acu.drew).at_;have bT:X.heap[p]? =some (.cells (Dq t s M.now v) 110 (0,0)):=h1;obtain⟨z0,z1,z2,z3,z4⟩:=gV bT;have y1:X.cell? ⟨q,1,none⟩=some (.int .i64 f.id):=by simp[World.cell?,aF]
   have c8:X.cell? ⟨w.heap.size,8,none⟩=some (.slice H x.data.length J):=by simp[World.cell?,BK.o,opC]
   have ig:X.drew.heap[q]? =some (.cells #[.bool f.wr,.int .i64 f.id,.slice fa f.b.length fc] 205 (0,0)):=aF;have fK:X.drew.heap[w.heap.size]? =some (.cells (opC x H J) 32 (0,0)):=BK.o;have t_:=jL.o.step (I:=λ _=>False) (λ e=>e) (Step.grow jL.o acu.drew);have ZX:=acp (Te h3 t_ n2 h_.o f.id H x.data.length J x.data XE (jo.o.below (gy.o.trans acu.drew) acs) HX.o.wd);have HC:acr (∀w':World,w'.heap[w.heap.size]? =some (.cells (opC x H J) 32 (0,0))->w'.heap[q]? =some (.cells #[.bool f.wr,.int .i64 f.id,.slice fa f.b.length fc] 205 (0,0))->w'.heap[p]? =some (.cells (Dq t s M.now v) 110 (0,0))->w'.cell? ⟨p,0,none⟩=some (ptr t)/\w'.cell? ⟨q,1,none⟩=some (.int .i64 f.id)/\w'.cell? ⟨w.heap.size,8,none⟩=some (.slice H x.data.length J)):=λ w' e1 e2 e3=>by
    refine⟨?_,?_,?_⟩<;>simp[World.cell?,e1,e2,e3,opC,Dq]
   have HQ:=acp (And.intro gM (And.intro iN ig));have ak:=acp h1;have jc:=acp h2;have jv:=acp h4;have iD:=acp fK;have TV:=acp t_;have jy:=gy.o.size;have iM:=(qW.1 tO.o).1;have aB:=acp iM;have dM:=mo.o.low;clear B hr G gM aF jw O h1 bT h2 h3 h4 ig fK t_ XE z0 z1 z2 z3 z4 y1;obtain⟨ae,fT⟩:∃ae,ae=(dP M.t f.id x.data).1:=⟨_,rfl⟩;rw[<-fT]at ZX E;clear fT;go_wp2_with fail;refine su ((λ w'=>w'.cell? ⟨p,0,none⟩=some (ptr t)/\w'.cell? ⟨q,1,none⟩=some (.int .i64 f.id)/\w'.cell? ⟨w.heap.size,8,none⟩=some (.slice H x.data.length J))) ?_ λ A=> ?_
   ·exact HC.o _ iD.o HQ.o.2.2 ak.o
   refine aM 0 A ?_;refine aM 1 A ?_;refine aM 2 A ?_;refine aM 3 A ?_;refine aM 4 A ?_;refine aM 5 A ?_;refine aM 6 A ?_;refine aM 7 A ?_;refine aM 8 A ?_;refine aM 9 A ?_;refine lJ 10 λ K hK=> ?_;go_simp;refine ZX.o.mono ?_;rintro e w4 ⟨rfl,o4,u,sP⟩;have av:¬(λ m=>m=j) 0:=λ e=>n2 e.symm;have O:=(u.block HQ.o.2.1 (by rw[HQ.o.1];exact av)).trans HQ.o.2.2;have AP:=(u.block dM (by rw[mo.o.own];exact λ e=>n8 e.symm)).trans ak.o;have aN:=iE.o;have nG:=(u.block (b:=w.heap.size) (Nat.lt_trans (Nat.lt_succ_self _) aB.o) (by rw[aN];exact av)).trans iD.o;have bq:=(u.block (b:=w.heap.size+1) aB.o (by rw[yO.o];exact λ e=>n9 e.symm)).trans tO.o;have pF:=bP.tree (M:=M) dG.o ak.o jc.o jv.o mo.o.own dM u sP;have sQ:=TV.o.step av u;have jl:=acp pF;have sW:=acp sQ;have bn:=acp u;have iO:=acp ((u.old _ aB.o).trans yO.o);have D:=acp bq;have JK:=acp (HC.o _ nG O AP);have jG:=(HC.o _ nG O AP).2.2;clear O AP aN nG bq pF sQ u sP;go_wp2_with fail;refine kV hK (JK.o) λ A=> ?_;clear hK K;refine aM 11 A ?_;refine rH ?_;clear A;have N:acr (∀(z:tZ) (Q w6:World),Below w4.heap.size w4 Q->jK Q (w.heap.size+1) (eF z none none 0 0) 38 w6->z.data=[]->z.names=[]->Iq o i j k l w p (z,{M with t:=(dP M.t f.id x.data).2}) (.returned (.agg (eF z none none 0 0))) w6):=λ z Q w6 Z hs U C=>by
    have Kn:=sW.o.step (I:=λ _=>False) (λ e=>e) (Step.grow sW.o Z);have R:=hs.step Kn iO.o;have iT:=(jl.o.grow sW.o Z).step (λ e=>n4 e.symm) n7 n9 aJ R;have Pg:Step o1 (λ m=>m=i\/m=j\/m=k\/m=l) X o4 w6:=((Step.behind jL.o acu.drew (bn.o.mono λ m hm=> .inr (.inl hm))).trans (Step.grow sW.o Z)).trans (R.mono λ m hm=> .inr (.inr (.inr hm)));refine⟨o4,⟨_,rfl,none,none,0,0,rfl,by rw[U];exact Nat.le_refl _,by rw[C];exact Nat.le_refl _,by rw[U];exact ah.nil _ _ _,by rw[C];exact jT _ _⟩,(mQ.o.mono λ m hm=> .inr (.inr (.inr hm))).trans Pg,iT⟩
   by_cases hz:ae=0
   ·have HZ:=acp hz;have C:(ae !=0)=false:=by simpa using hz
    clear hz;go_wp2_with (refine aj (by rfl) 38 _ _ (by rfl) (w.heap.size+1) (eF ⟨0,x.data.length,[],[],none⟩ none none 0 0) (by rfl) (by rfl) _ D.o bC rfl (bE _ _ _ _ _) ?_;intro Q y;have gL:=acp y;clear y);exact bI rfl rfl rfl gL.o.1 (by rw[E.o,if_neg (λ h=>h HZ.o)];exact N.o _ _ _ acu gL.o rfl rfl)
   ·have HZ:=acp hz;have C:(ae !=0)=true:=by simpa using hz
    clear hz;go_wp2_with fail;refine(g_ _ _).mono ?_;rintro e Q ⟨rfl,aC⟩;unfold AU;have dK:=acp aC;have oD:=acp ((aC.block _ (qW.1 D.o).1).trans D.o);clear aC;go_wp2_with ((refine aj (by rfl) 38 _ _ (by rfl) (w.heap.size+1) (eF (eD ae) none none 0 0) (by rfl) (by rfl) _ oD.o bC rfl (bE _ _ _ _ _) ?_);intro w6 bf;have kW:=acp bf;clear bf);exact bI rfl rfl rfl kW.o.1 (by rw[E.o,if_pos HZ.o];exact N.o _ _ _ dK.o kW.o rfl rfl)
end
