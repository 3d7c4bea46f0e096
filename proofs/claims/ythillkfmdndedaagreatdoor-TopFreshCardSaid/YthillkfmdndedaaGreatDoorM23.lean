/- Trees -/
import Derived.Test.YthillkfmdndedaaGreatDoorM22
import Derived.Test.YthillkfmdndedaaGreatDoorM20
set_option maxRecDepth 100000
set_option maxHeartbeats 64000000
set_option linter.all false
namespace Go.Proofs.YthillkfmdndedaaGreatDoor
open Go.ChangeShapes Go.WideShapes Go.ChangeAt Go.RowKit
section
variable{W w:World}{o:Mark}{i p:Nat}{T:aS}
theorem om_link{S S':Nat->Prop}(h:dW o i w p T)(M:Marks W o w)(J:i≠0)(I:fA T)(a:Mx)(n c:Nat)(y:List Nm)(B:Mx)(u c':Nat)(m:List Nm)(E:aW S w a n (y.map strOf))(A:aW S' w B u (m.map strOf))(z:u<=c')(C:u<=1000000):
  Dy 62 #[ptr p,.slice a n c,.slice B u c'] w (gN o i w p (iy T y m).2 (.int .i64 (iy T y m).1)):=by
 obtain⟨g,D,N,O,nb,H,G,F⟩:=h;exact(link_at a n c y B u c' m w H I E A z C).mono λ e w' K=>gN.of M J G F K
theorem Tj{S:Nat->Prop}(h:dW o i w p T)(H:Marks W o w)(F:i≠0)(E:fA T)(a:Mx)(n c:Nat)(m:List Nm)(y:aW S w a n (m.map strOf))(z:n<=c)(u:n<=1000000):
  Dy 135 #[ptr p,.slice a n c] w (gN o i w p (dY T m).2 (.int .i64 (dY T m).1)):=by
 obtain⟨g,D,I,J,nb,C,B,A⟩:=h;exact(SG a n c m w C E y z u).mono λ e w' G=>gN.of H F B A G
theorem Xc{S:Nat->Prop}(h:dW o i w p T)(H:Marks W o w)(F:i≠0)(E:fA T)(a:Mx)(n c:Nat)(m:List Nm)(y:aW S w a n (m.map strOf))(z:n<=c)(u:n<=1000000):
  Dy 64 #[ptr p,.slice a n c] w (gN o i w p (fC T m).2 (.int .i64 (fC T m).1)):=by
 obtain⟨g,D,I,J,nb,C,B,A⟩:=h;exact(Wt a n c m w C E y z u).mono λ e w' G=>gN.of H F B A G
theorem Tk{S S':Nat->Prop}(h:dW o i w p T)(O:Marks W o w)(M:i≠0)(E:gT T)(a:Mx)(n c:Nat)(z:List Nm)(C:Mx)(y c':Nat)(m:List Nm)(G:aW S w a n (z.map strOf))(B:aW S' w C y (m.map strOf))(H:n<=c)(F:n<=1000000)(A:y<=c')(u:y<=1000000):
  Dy 65 #[ptr p,.slice a n c,.slice C y c'] w (gN o i w p (dz T z m).2 (.int .i64 (dz T z m).1)):=by
 obtain⟨g,D,P,Q,nb,K,J,I⟩:=h;exact(Ti a n c z C y c' m w K E G B H F A u).mono λ e w' N=>gN.of O M J I N
theorem om_seal(h:dW o i w p T)(G:Marks W o w)(E:i≠0)(id m:Int)(u:(Lit.int .i64 id).wf=true)(z:0<=m)(y:m<=18446744073709551615):
  Dy 131 #[ptr p,.int .i64 id,.int .u64 m] w (gN o i w p (gu T id m).2 (.int .i64 (gu T id m).1)):=by
 obtain⟨g,D,H,I,nb,C,B,A⟩:=h;exact(seal_at id m w C u z y).mono λ e w' F=>gN.of G E B A F
theorem om_keep(h:dW o i w p T)(I:Marks W o w)(G:i≠0)(F:fA T)(id m:Int)(u:(Lit.int .i64 id).wf=true)(z:0<=m)(y:m<=18446744073709551615):
  Dy 140 #[ptr p,.int .i64 id,.int .u64 m] w (gN o i w p (iX T id m).2 (.int .i64 (iX T id m).1)):=by
 obtain⟨g,D,J,K,nb,E,C,B⟩:=h;exact(keep_at id m w E u z y (λ x A=>(F.each id x A).aL)).mono λ e w' H=>gN.of I G C B H
theorem om_drop(h:dW o i w p T)(A:Marks W o w)(B:i≠0)(E:OkW T)(id:Int)(m:(Lit.int .i64 id).wf=true):
  Dy 167 #[ptr p,.int .i64 id] w (gN o i w p (fJ T id).2 (.int .i64 (fJ T id).1)):=by
 obtain⟨g,D,F,G,nb,z,y,u⟩:=h;exact(drop_at id E w z m).mono λ e w' C=>gN.of A B y u C
theorem Xd(h:dW o i w p T)(y:OkW T)(u:∀k x,au k T=some x->x.names.length<=65535):Dy 100 #[ptr p] w (gH w (iA T)):=by
 obtain⟨g,D,z,A,nb,m,C,B⟩:=h;exact LC w m y u
theorem JF(h:dW o i w p T)(u:fA T):Dy 100 #[ptr p] w (gH w (iA T)):=by
 obtain⟨g,D,y,z,nb,m,B,A⟩:=h;exact save_at w m u
theorem om_ids(h:dW o i w p T)(u:OkW T):Dy 166 #[ptr p] w (zX w (lT T)):=by
 obtain⟨g,D,y,z,nb,m,B,A⟩:=h;exact Jy w m (by have:=u.len;omega)
open Classical in
theorem cK{W w w':World}{o:Mark}(E:Marks W o w)(j:Nat)(G:Nat->Prop)(z:∀b,G b->w.heap.size<=b/\b<w'.heap.size)(C:Below w.heap.size w w'):∃u,Step o (λ i=>i=j) w u w'/\(∀b,G b->u b=j)/\(∀b,¬G b->u b=o b):=by
 obtain⟨u,y⟩:∃u:Mark,∀b,u b=if G b then j else o b:=⟨_,λ _=>rfl⟩;refine⟨u,⟨λ b m=> ?_,λ b m A=> ?_,(Keeps.below C).mono λ x B D=>absurd B (by omega)⟩,λ b m=>by rw[y,if_pos m],λ b m=>by rw[y,if_neg m]⟩
 ·rw[y,if_neg (λ h=>by have:=z b h;omega)]
 ·by_cases h:G b
  ·rw[y,if_pos h];exact⟨rfl,(z b h).2⟩
  ·rw[y,if_neg h]at A;have:=(E.new b A).2;omega
theorem Q_(h:dW o i w p T)(M:Marks W o w)(K:OkW T)(j:Nat):
  Dy 51 #[ptr p] w λ e w'=>∃q y,e= .returned (ptr q)/\Step o (λ i=>i=j) w y w'/\dW y j w' q T/\Below w.heap.size w w':=by
 obtain⟨g,D,N,O,nb,F,Q,G⟩:=h;refine(Q7 w F K).mono ?_;rintro e w' ⟨q,E,J,H,z,rfl,u,A,C⟩;obtain⟨y,B,I,P⟩:=cK M j (λ b=>E b≠ .none) (λ b m=>⟨A b m,u.low b m⟩) C;refine⟨q,y,rfl,B,⟨E,D,J,H,z,u,λ b m=>I b m,λ b m=> ?_⟩,C⟩;rw[B.old b (F.qM b m)];exact G b m
theorem Xe(h:dW o i w p T)(J:Marks W o w)(I:OkW T):
  Dy 51 #[ptr p] w λ e w'=>∃q,e= .returned (ptr q)/\dW o 0 w' q T/\Below w.heap.size w w':=by
 obtain⟨g,D,K,M,nb,G,N,B⟩:=h;refine(Q7 w G I).mono ?_;rintro e w' ⟨q,F,H,E,y,rfl,u,z,C⟩;refine⟨q,rfl,⟨F,D,H,E,y,u,λ b m=> ?_,B⟩,C⟩;have:=z b m;by_cases A:o b=0
 ·exact A
 ·have:=(J.new b A).2;omega
end
theorem Xf(o:Mark):∀(n b:Nat),b<n->o b<=((List.range n).map o).sum
 |n+1,b,h=>by
  rw[ach,aas,List.sum_append];simp only[aau,abn,List.sum_cons,List.sum_nil];by_cases m:b=n
  ·rw[m];omega
  ·have:=Xf o n b (by omega);omega
theorem OT{W w:World}{o:Mark}(m:Marks W o w):∃j,j≠0/\∀b,o b≠j:=by
 refine⟨((List.range w.heap.size).map o).sum+1,by omega,λ b y=> ?_⟩;have u:=(m.new b (by omega)).2;have:=Xf o w.heap.size b u;omega
def bO(T:aS)(k:Nat):aS:=((lT T).take k).foldl (λ S id=>(fJ S id).2) T
theorem nX(T:aS):bO T 0=T:=by unfold bO;rw[List.take_zero];rfl
theorem nY{T:aS}{k:Nat}{id:Int}(h:(lT T)[k]? =some id):bO T (k+1)=(fJ (bO T k) id).2:=by
 unfold bO;obtain⟨m,e⟩:=aaj.1 h;rw[aai m,List.foldl_append,e];rfl
theorem pO{T:aS}:bO T T.length=bX T:=by
 unfold bO bX;rw[List.take_of_length_le (by unfold lT;rw[List.length_map];omega)]
theorem OkW.bO{T:aS}(h:OkW T):∀k,OkW (bO T k)
 |0=>by rw[nX];exact h
 |k+1=>by
  cases m:(lT T)[k]? with
  |some id=>rw[nY m];exact(h.bO k).fJ id
  |none=>
   have:Go.Proofs.YthillkfmdndedaaGreatDoor.bO T (k+1)=Go.Proofs.YthillkfmdndedaaGreatDoor.bO T k:=by
    have u:=aci.1 m;unfold Go.Proofs.YthillkfmdndedaaGreatDoor.bO;rw[List.take_of_length_le u,List.take_of_length_le (by omega)]
   rw[this];exact h.bO k
theorem fA.bO{T:aS}(h:fA T):∀k,fA (bO T k)
 |0=>by rw[nX];exact h
 |k+1=>by
  cases m:(lT T)[k]? with
  |some id=>rw[nY m];exact(h.bO k).fJ id
  |none=>
   have:Go.Proofs.YthillkfmdndedaaGreatDoor.bO T (k+1)=Go.Proofs.YthillkfmdndedaaGreatDoor.bO T k:=by
    have u:=aci.1 m;unfold Go.Proofs.YthillkfmdndedaaGreatDoor.bO;rw[List.take_of_length_le u,List.take_of_length_le (by omega)]
   rw[this];exact h.bO k
theorem gT.bO{T:aS}(h:gT T):∀k,gT (bO T k)
 |0=>by rw[nX];exact h
 |k+1=>by
  cases m:(lT T)[k]? with
  |some id=>rw[nY m];exact(h.bO k).fJ id
  |none=>
   have:Go.Proofs.YthillkfmdndedaaGreatDoor.bO T (k+1)=Go.Proofs.YthillkfmdndedaaGreatDoor.bO T k:=by
    have u:=aci.1 m;unfold Go.Proofs.YthillkfmdndedaaGreatDoor.bO;rw[List.take_of_length_le u,List.take_of_length_le (by omega)]
   rw[this];exact h.bO k
theorem fA.bX{T:aS}(h:fA T):fA (bX T):=by rw[<-pO];exact h.bO _
theorem OkW.bX{T:aS}(h:OkW T):OkW (bX T):=by rw[<-pO];exact h.bO _
theorem gT.bX{T:aS}(h:gT T):gT (bX T):=by rw[<-pO];exact h.bO _
section
variable{W w:World}{o:Mark}{i p:Nat}{T:aS}
theorem yt(h:dW o i w p T)(V:Marks W o w)(S:OkW T)(j:Nat)(hj:j≠0)(hf:∀b,o b≠j):
  Dy 99 #[ptr p] w λ e w'=>∃q o',e= .returned (ptr q)/\Step o (λ i=>i=j) w o' w'/\dW o' j w' q (bX T)/\Below w.heap.size w w':=by
 have K8:=acp (Q_ h V S j);have HM:=acp V;have R:=acp S;have I:=acp hj;have HF:=acp hf;have av:=S.len;clear h V S hj hf;go_enter Tryz.func99,Tryz.ntmps99;go_wp2_with fail;refine K8.o.mono ?_;rintro e w1 ⟨q,o1,rfl,D,F,aD⟩;have mo:=acp D;have jL:=acp (HM.o.step (λ e=>I.o e.symm) D);have ak:=acp F;have EM:=acp (om_ids F R.o);clear D F aD;go_wp2_with fail;refine EM.o.mono ?_;rintro e w2 ⟨a,aL,rfl,P,m,A⟩;have z:(lT T).length=T.length:=by unfold lT;rw[List.length_map]
 rw[z]at P m;rw[z];obtain⟨u,E⟩:∃u,u=T.length:=⟨_,rfl⟩;rw[<-E]at av P m⊢;have WJ:=acp E;have dV:=acp m;have aJ:=acp (mo.o.then_ HM.o (λ e=>I.o e.symm) A);have aB:=acp (ak.o.grow A);clear A m E z;have aH:=acp ((dV.o.oF jL.o));clear dV;go_wp2_with fail
 go_loopw [4,12] (λ _ iv wr=>∃(k:Nat) (O:Mark),iv= .int .i64 k/\k<=u/\Step o (λ i=>i=j) w O wr/\dW O j wr q (bO T k)/\ah (Free O wr) wr a u ((lT T).map (Value.int .i64))) (λ _ iv _=>u-(intOf iv).toNat)
 case atStart=>
  exact⟨0,o1,rfl,Nat.zero_le _,aJ.o,by rw[nX];exact aB.o,aH.o⟩
 case round=>
  obtain⟨k,O,rfl,hk,hs,J,GD⟩:=hrel;have Q:=acp hs;have M:=acp J;have OU:=acp GD;clear hs J GD;by_cases B:k<u
  ·have hd:decide ((k:Int)<(u:Int))=true:=by simpa using B
   obtain⟨id,y⟩:∃id,(lT T)[k]? =some id:=⟨(lT T)[k]'(by unfold lT;rw[List.length_map,<-WJ.o];exact B),List.getElem?_eq_getElem _⟩;obtain⟨b,X,rfl,aC,aF,hc⟩:=OU.o.at_ (by omega);have C:=hc k B;rw[List.getElem?_map,y]at C;have U:wr.cell? ⟨b,X+k,none⟩=some (.int .i64 id):=C;have N:(Lit.int .i64 id).wf=true:=by
    have hm:=aaD y;unfold lT at hm;obtain⟨q',Y,rfl⟩:=List.mem_map.1 hm;have:=R.o.ids q'.1 q'.2 (fq iR R.o.sorted Y);simp[Lit.wf,IntKind.min,IntKind.max,IntKind.signed,IntKind.bits];omega
   have H:=acp (om_drop M.o (HM.o.step (λ e=>I.o e.symm) Q.o) I.o (R.o.bO k) id N);have i0:(0:Int)<=(k:Int):=by omega
   have i1:(k:Int)<(u:Int):=by omega
   have K:=acp y;clear y aC aF hc C N;go_wp2_with fail;refine H.o.mono ?_;rintro e w3 ⟨rfl,o3,G,Dl⟩;have xR:=acp (Q.o.trans G);have Z:=acp Dl;have aA:=acp (OU.o.free (λ e=>I.o e.symm) G);clear G Dl H;go_wp2_with fail;go_roundw
   case rel=>
    refine⟨k+1,o3,by go_num,by omega,xR.o,?_,aA.o⟩;rw[nY K.o];exact Z.o
   case measure=>simp[intOf];omega
  ·have hd:decide ((k:Int)<(u:Int))=false:=by simp;omega
   obtain rfl:u=k:=by omega
   go_wp2_with fail;go_ret;have h9:=M.o;rw[WJ.o,pO]at h9;refine⟨q,O,rfl,Q.o,h9,?_⟩;exact Q.o.keep.bS acs λ x _ hx=>HF.o x hx
theorem rJ(h:dW o i w p T)(y:Marks W o w)(G:OkW T):
  Dy 99 #[ptr p] w λ e w'=>∃q,e= .returned (ptr q)/\dW o 0 w' q (bX T)/\Below w.heap.size w w':=by
 obtain⟨j,E,D⟩:=OT y;refine(yt h y G j E D).mono ?_;rintro e w' ⟨q,H,rfl,C,B,F⟩;refine⟨q,rfl,B.remark (λ b z u=> ?_) (λ b z u=> ?_),F⟩
 ·by_cases m:b<w.heap.size
  ·rw[C.old b m]at u;exact absurd u (D b)
  ·exact Wy λ A=>by have:=(y.new b A).2;omega
 ·by_cases m:b<w.heap.size
  ·rw[C.old b m]at u;exact u
  ·exact Wy λ A=>by have:=(y.new b A).2;omega
end
section
variable{W w:World}{o:Mark}{i s:Nat}{S:qJ}
theorem qx.grow{K:aS->Prop}(h:qx K o i w s S){w':World}(u:Marks W o w)(m:Below w.heap.size w w'):qx K o i w' s S:=
 h.step (I:=λ _=>False) (λ h=>h) (λ h=>h) (Step.grow u m)
theorem qx.lt{K:aS->Prop}(h:qx K o i w s S):s<w.heap.size:=by
 obtain⟨v,F,y,m,G,B,u,A,D,C,z,E⟩:=h.at_;exact u
theorem Tm(y:Marks W o w)(j:Nat)(C:j≠0):Dy 98 #[] w λ e w'=>∃s m,e= .returned (ptr s)/\Step o (λ k=>k=j) w m w'/\jD m j w' s EI/\Below w.heap.size w w':=by
 have A:=acp y;clear y;go_enter Tryz.func98,Tryz.ntmps98;go_wp2;go_ret;obtain⟨m,z,B,D⟩:=cK A.o j (λ b=>b=w.heap.size) (w':=w.alloc (.cells #[.slice none 0 0,.int .i64 1,.slice none 0 0] 203)) (λ b u=>by subst u;simp) (wall w _);refine⟨w.heap.size,m,rfl,z,⟨.slice none 0 0,none,0,[],(MapKept.heap_alloc w _).1,B _ rfl,by simp,⟨rfl,.inl ⟨rfl,rfl⟩⟩,λ b u=>by simp[Value.ownBlock]at u,rfl,Nat.le_refl _,ah.nil _ _ _⟩,wall w _⟩
def EN(l:List mP)(id v:Int):Prop:=
 (v= -1/\∀x∈l,x.id≠id)\/∃(k:Nat) (x:mP),v=k/\l[k]? =some x/\x.id=id/\∀m∈l.take k,m.id≠id
theorem Tn(z:Int)(y A:Value)(id:Int)(m:Nat)(w:World)(B:w.cell? ⟨m,0,none⟩=some (.int .i64 id))(u:m<w.heap.size):Dy 198 #[.agg #[.int .i64 z,y,A],ptr m] w λ e w'=>e= .returned (.bool (z==id))/\Below w.heap.size w w':=by
 have C:(w.alloc (.cells #[.int .i64 z,y,A] 201)).cell? ⟨m,0,none⟩=some (.int .i64 id):=((wall w _).cell (p:=⟨m,0,none⟩) u).trans B;go_enter Tryz.func198,Tryz.ntmps198;go_wp2;go_ret;exact⟨rfl,wall w _⟩
theorem Tp{a:Mx}{n c:Nat}{A:List Value}{l:List mP}(id:Int)(I:Nat)(Y:l.length=n)(Z:ah (λ b=>b<w.heap.size) w a (n*3) A)(V:BA o w A l)(hn:n<=1000)(hc:w.cell? ⟨I,0,none⟩=some (.int .i64 id))(Q:I<w.heap.size):
  Dy 197 #[.slice a n c,.func (.func 198) #[] #[ptr I]] w λ e w'=>∃v,e= .returned (.int .i64 v)/\EN l id v/\Below w.heap.size w w':=by
 have HR:=acp Z;have HO:=acp V;have HL:=acp Y;clear Z V Y;go_enter Tryz.func197,Tryz.ntmps197;go_wp2
 go_loopw [5,8] (λ _ P wr=>∃k:Nat,k<=n/\P= .int .i64 k/\(∀x∈l.take k,x.id≠id)/\Below w.heap.size w wr) (λ _ P _=>n-(intOf P).toNat)
 case atStart=>exact⟨0,by omega,rfl,by simp,Below.refl _ _⟩
 case round=>
  obtain⟨k,hk,rfl,G,C⟩:=hrel;have R:=acp G;have M:=acp C;clear G;by_cases S:k<n
  ·obtain⟨g,u,rfl,B,_,m⟩:=HR.o.at_ (by omega);obtain⟨x,J⟩:∃x,l[k]? =some x:=⟨l[k]'(by rw[HL.o];exact S),List.getElem?_eq_getElem _⟩;obtain⟨W,K,q,X,e1,e2,_⟩:=HO.o.at_ J;have d0:wr.cell? ⟨g,u+k*3,none⟩=some (.int .i64 x.id):=(C.cell (p:=⟨g,u+k*3,none⟩) B).trans ((m (k*3) (by omega)).trans X);have d1:wr.cell? ⟨g,u+k*3+1,none⟩=some (.slice W x.hash.length K):=(C.cell (p:=⟨g,u+k*3+1,none⟩) B).trans ((m (k*3+1) (by omega)).trans e1);have d2:wr.cell? ⟨g,u+k*3+2,none⟩=some (ptr q):=(C.cell (p:=⟨g,u+k*3+2,none⟩) B).trans ((m (k*3+2) (by omega)).trans e2);have HX:=acp J;have H:=(C.cell (p:=⟨I,0,none⟩) Q).trans hc;have N:=acp (Tn x.id (.slice W x.hash.length K) (ptr q) id I wr H (by have:=C.size;omega));have i0:(0:Int)<=(k:Int):=by omega
   have i1:(k:Int)<(n:Int):=by omega
   have hd:decide ((k:Int)<(n:Int))=true:=by simpa using i1
   clear J m X e1 e2 H C;by_cases F:x.id=id
   ·have z:(x.id==id)=true:=by simpa using F
    rw[z]at N;have U:=acp F;clear F z;go_wp2_with fail;refine N.o.mono ?_;rintro e w1 ⟨rfl,D⟩;go_wp2_with fail;go_ret;exact⟨k,rfl,.inr ⟨k,x,rfl,HX.o,U.o,R.o⟩,M.o.trans (D.mono M.o.size)⟩
   ·have z:(x.id==id)=false:=by simpa using F
    rw[z]at N;have U:=acp F;clear F z;go_wp2_with fail;refine N.o.mono ?_;rintro e w1 ⟨rfl,D⟩;go_wp2_with fail;go_roundw
    case rel=>
     refine⟨k+1,by omega,by go_num,λ y E=> ?_,M.o.trans (D.mono M.o.size)⟩;obtain⟨O,ek⟩:=aaj.1 HX.o;rw[aai O,ek]at E;rcases aaA.1 E with E|E
     ·exact R.o y E
     ·simp only[List.mem_singleton]at E;rw[E];exact U.o
    case measure=>simp[intOf];omega
  ·have hd:decide ((k:Int)<(n:Int))=false:=by simp;omega
   go_wp2_with fail;go_ret;refine⟨-1,rfl,.inl ⟨rfl,λ x J=>R.o x ?_⟩,M.o⟩;rw[List.take_of_length_le (by have:=HL.o;omega)];exact J
theorem LH(h:jD o i w s S)(id:Int)(H:S.l.length<=1000):Dy 141 #[ptr s,.int .i64 id] w λ e w'=>∃v,e= .returned (.int .i64 v)/\EN S.l id v/\Below w.heap.size w w':=by
 obtain⟨v,U,W,z,G,M,P,D,O,E,K,N⟩:=h.at_;obtain⟨a,c,rfl,B⟩:=bg D;obtain⟨-,-,m⟩:=ah.kg D (by unfold maxLen;omega);have C:w.cell? ⟨s,0,none⟩=some (.slice a S.l.length c):=by simp[World.cell?,G]
 obtain⟨n,y⟩:∃n,n=S.l.length:=⟨_,rfl⟩;rw[<-y]at C m B H;have u:=(wall w (.cells #[.int .i64 id] 3));have V:=(u.cell (p:=⟨s,0,none⟩) P).trans C;have I:=acp (Tp (w:=w.alloc (.cells #[.int .i64 id] 3)) (a:=a) (n:=n) (c:=c) id w.heap.size y.symm ((m.below u acs).mono λ b X=>by simp;omega) (show BA o _ z S.l from iB.grow u E) H mh (by simp));clear h G M D O E K N m u C y;go_enter Tryz.func141,Tryz.ntmps141;go_wp2_with fail;refine I.o.mono ?_;rintro e R ⟨v,rfl,F,A⟩;have J:=acp F;have Q:=acp A;clear F A;go_wp2_with fail;go_ret;exact⟨v,rfl,J.o,(wall w _).trans (Q.o.mono (by simp))⟩
end
abbrev bor(a b:Int):Int:=bits .or .u32 a b
abbrev EO(a b:Int):Int:=bits .xor .u32 a b
abbrev jZ(a b:Int):Int:=bits .and .u32 a b
def EP(x:Int)(s:Nat):Int:=bor (x*2^s%4294967296) (x/2^(32-s))
theorem nZ(x k:Int)(s:Nat)(w:World)(u:bits .and .u64 (IntKind.u64.wrap k) 31=(s:Int))(y:0<s)(D:s<32):Dy 262 #[.int .u32 x,.int .i64 k] w λ e w'=>e= .returned (.int .u32 (EP x s))/\w=w':=by
 have z:(0:Int)<=(s:Int):=by omega
 have C:(s:Int)<=32:=by omega
 have A:IntKind.u64.wrap (32-(s:Int))=32-(s:Int):=by simp[IntKind.wrap,IntKind.bits,IntKind.signed];omega
 have m:(0:Int)<=32-(s:Int):=by omega
 have B:32-(s:Int)<=32:=by omega
 go_enter Tryz.func262,Tryz.ntmps262;go_wp2;go_ret;exact⟨rfl,rfl⟩
def loadM(a b c d:UInt8):Int:=bor (bor (bor (bor 0 ((d.toNat:Int)%4294967296)) ((c.toNat:Int)%4294967296*256%4294967296)) ((b.toNat:Int)%4294967296*65536%4294967296)) ((a.toNat:Int)%4294967296*16777216%4294967296)
theorem Xh{S:Nat->Prop}(A:Mx)(n c:Nat)(m:I8)(w:World)(y:ah S w A n (m.map bv))(W:4<=n):Dy 261 #[.slice A n c] w λ e w'=>e= .returned (.int .u32 (loadM (m.getD 0 0) (m.getD 1 0) (m.getD 2 0) (m.getD 3 0)))/\w=w':=by
 obtain⟨b,u,rfl,-,-,z⟩:=y.at_ (by omega);have M:m.length=n:=by simpa using y.length
 have B:=y.small;unfold maxLen at B;have q:∀i,i<4->w.cell? ⟨b,u+i,none⟩=some (bv (m.getD i 0)):=λ i I=>by
  rw[z i (by omega),List.getElem?_map,List.getElem?_eq_getElem (by omega),aa4,List.getElem?_eq_getElem (by omega)];rfl
 have H:w.cell? ⟨b,u,none⟩=some (.int .u8 ((m.getD 0 0).toNat:Int)):=q 0 (by omega);have C:w.cell? ⟨b,u+1,none⟩=some (.int .u8 ((m.getD 1 0).toNat:Int)):=q 1 (by omega);have E:w.cell? ⟨b,u+2,none⟩=some (.int .u8 ((m.getD 2 0).toNat:Int)):=q 2 (by omega);have J:w.cell? ⟨b,u+3,none⟩=some (.int .u8 ((m.getD 3 0).toNat:Int)):=q 3 (by omega);generalize m.getD 0 0=Q at*;generalize m.getD 1 0=K at*;generalize m.getD 2 0=O at*;generalize m.getD 3 0=V at*;have X:((n:Int)==3)=false:=by simp;omega
 have P:((n:Int)==2)=false:=by simp;omega
 have D:((n:Int)==1)=false:=by simp;omega
 have R:((n:Int)==0)=false:=by simp;omega
 have U:(3:Int)<(n:Int):=by omega
 have G:(2:Int)<(n:Int):=by omega
 have F:(1:Int)<(n:Int):=by omega
 have N:(0:Int)<(n:Int):=by omega
 clear q z y;go_enter Tryz.func261,Tryz.ntmps261;go_wp2;go_ret;exact⟨rfl,rfl⟩
def kM:List Int:=[1116352408,1899447441,3049323471,3921009573,961987163,1508970993,2453635748,2870763221,3624381080,310598401,607225278,1426881987,1925078388,2162078206,2614888103,3248222580,3835390401,4022224774,264347078,604807628,770255983,1249150122,1555081692,1996064986,2554220882,2821834349,2952996808,3210313671,3336571891,3584528711,113926993,338241895,666307205,773529912,1294757372,1396182291,1695183700,1986661051,2177026350,2456956037,2730485921,2820302411,3259730800,3345764771,3516065817,3600352804,4094571909,275423344,430227734,506948616,659060556,883997877,958139571,1322822218,1537002063,1747873779,1955562222,2024104815,2227730452,2361852424,2428436474,2756734187,3204031479,3329325298]
def Gg:List Int:=[1779033703,3144134277,1013904242,2773480762,1359893119,2600822924,528734635,1541459225]
abbrev gU(z:Int):Value:= .int .u32 z
abbrev Tq(z:Int):Int:=z%4294967296
def Ra(b:I8)(i:Nat):Int:=loadM ((b.drop (i*4)).getD 0 0) ((b.drop (i*4)).getD 1 0) ((b.drop (i*4)).getD 2 0) ((b.drop (i*4)).getD 3 0)
def sg0(x:Int):Int:=EO (EO (EP x 25) (EP x 14)) (x/8)
def sg1(x:Int):Int:=EO (EO (EP x 15) (EP x 13)) (x/1024)
def Rb(m:List Int):Int:=Tq (Tq (Tq (m.getD (m.length-16) 0+sg0 (m.getD (m.length-15) 0))+m.getD (m.length-7) 0)+sg1 (m.getD (m.length-2) 0))
def gq(b:I8):Nat->List Int
 |0=>(List.range 16).map (Ra b)
 |n+1=>gq b n++[Rb (gq b n)]
theorem yK(b:I8):∀n,(gq b n).length=16+n
 |0=>by simp[gq]
 |n+1=>by unfold gq;rw[List.length_append,yK b n];simp;omega
structure OV where
 a:Int
 c:Int
 d:Int
 e:Int
 f:Int
 g:Int
 h:Int
 j:Int
def bnot(x:Int):Int:=bits .xor .u32 (if IntKind.u32.signed=true then-1 else IntKind.u32.max) x
def tM(s:OV)(k w:Int):Int:=Tq (s.j+EO (EO (EP s.f 26) (EP s.f 21)) (EP s.f 7)+EO (jZ s.f s.g) (jZ (bnot s.f) s.h)+k+w)
def uM(s:OV):Int:=Tq (EO (EO (EP s.a 30) (EP s.a 19)) (EP s.a 10)+EO (EO (jZ s.a s.c) (jZ s.a s.d)) (jZ s.c s.d))
def OW(s:OV)(k w:Int):OV:=⟨Tq (tM s k w+uM s),s.a,s.c,s.d,Tq (s.e+tM s k w),s.f,s.g,s.h⟩
def tV(s:OV)(m:List Int):Nat->OV
 |0=>s
 |n+1=>OW (tV s m n) (kM.getD n 0) (m.getD n 0)
def OV.list(s:OV):List Int:=[s.a,s.c,s.d,s.e,s.f,s.g,s.h,s.j]
def OV.of(h:List Int):OV:=⟨h.getD 0 0,h.getD 1 0,h.getD 2 0,h.getD 3 0,h.getD 4 0,h.getD 5 0,h.getD 6 0,h.getD 7 0⟩
def kK(h:List Int)(b:I8):List Int:=List.zipWith (λ x y=>Tq (x+y)) h (tV (OV.of h) (gq b 48) 64).list
theorem qy(h:List Int)(b:I8)(m:h.length=8):(kK h b).length=8:=by unfold kK;rw[List.length_zipWith,m];rfl
def runM(h:List Int):Nat->I8->List Int
 |0,_=>h
 |n+1,b=>runM (kK h (b.take 64)) n (b.drop 64)
theorem kL:∀(n:Nat) (h:List Int) (b:I8),h.length=8->(runM h n b).length=8
 |0,h,b,m=>m
 |n+1,h,b,m=>kL n _ _ (qy h _ m)
def Ku(m:List Int):Array Value:=((m++List.replicate (64-m.length) 0).map gU).toArray
theorem Xi(m:List Int)(x:Int)(h:m.length<64):(Ku m).setIfInBounds m.length (gU x)=Ku (m++[x]):=by
 unfold Ku;rw[aan];congr 1;have e:64-m.length=(64-(m++[x]).length)+1:=by simp;omega
 rw[e,List.replicate_succ,aas,aas,aau,List.set_append_right _ _ (by simp)];simp
theorem wsA_get(m:List Int)(i:Nat)(h:i<m.length):(Ku m)[i]? =some (gU (m.getD i 0)):=by
 unfold Ku;rw[aam,List.getElem?_map,aaY h,aa4,List.getElem?_eq_getElem h];rfl
theorem Ae{w:World}{b i:Nat}{m:List Int}(u:w.heap[b]? =some (.cells (Ku m) 331 (0,0)))(h:i<m.length):w.cell? ⟨b,i,none⟩=some (gU (m.getD i 0)):=by
 rw[<-wsA_get m i h];simp[World.cell?,u]
theorem Rc{w:World}{b i:Nat}{m:List Int}(u:w.heap[b]? =some (.cells (Ku m) 331 (0,0)))(h:m.length<=i)(y:i<64):w.cell? ⟨b,i,none⟩=some (.int .u32 0):=by
 have:(Ku m)[i]? =some (.int .u32 0):=by
  unfold Ku;rw[aam,List.getElem?_map,aax h,abm,if_pos (by omega)];rfl
 rw[<-this];simp[World.cell?,u]
theorem Xj{w:World}{b:Nat}{m:List Int}(u:w.heap[b]? =some (.cells (Ku m) 331 (0,0)))(h:m.length<64)(x:Int):(w.setCell ⟨b,m.length,none⟩ (gU x)).heap[b]? =some (.cells (Ku (m++[x])) 331 (0,0)):=by
 rw[aG u,Xi m x h]
theorem Il{B:Nat}{w wr:World}(u:Below B w wr)(m:B<=wr.heap.size){x:Nat}(A:B<=x)(i:Nat)(v:Value):Below B w (wr.setCell ⟨x,i,none⟩ v):=
 u.trans ((Keeps.jy wr ⟨x,i,none⟩ v).bS m λ y z (C:y=x)=>by omega)
theorem eight{α:Type}{l:List α}(h:l.length=8):∃a b c d e f g i,l=[a,b,c,d,e,f,g,i]:=by
 match l,h with
 |[a,b,c,d,e,f,g,i],_=>exact⟨a,b,c,d,e,f,g,i,rfl⟩
theorem mix_set{A B:List Int}{tail:List Value}{k:Nat}(u:A.length=8)(y:B.length=8)(m:k<8):(((A.take k++B.drop k).map gU++tail).toArray).setIfInBounds k (gU (A.getD k 0))=((A.take (k+1)++B.drop (k+1)).map gU++tail).toArray:=by
 obtain⟨a0,N,E,a3,a4,a5,D,I,rfl⟩:=eight u;obtain⟨F,J,z,M,G,H,C,K,rfl⟩:=eight y;rw[aan]
 match k,m with
 |0,_=>rfl
 |1,_=>rfl
 |2,_=>rfl
 |3,_=>rfl
 |4,_=>rfl
 |5,_=>rfl
 |6,_=>rfl
 |7,_=>rfl
theorem Rf{A B:List Int}{tail:List Value}{k:Nat}(u:A.length=8)(y:B.length=8)(m:k<8):(((A.take k++B.drop k).map gU++tail).toArray)[k]? =some (gU (B.getD k 0)):=by
 obtain⟨a0,N,E,a3,a4,a5,D,I,rfl⟩:=eight u;obtain⟨F,J,z,M,G,H,C,K,rfl⟩:=eight y;rw[aam]
 match k,m with
 |0,_=>rfl
 |1,_=>rfl
 |2,_=>rfl
 |3,_=>rfl
 |4,_=>rfl
 |5,_=>rfl
 |6,_=>rfl
 |7,_=>rfl
theorem Tt{A:List Int}{k:Nat}(m:A.length=8)(u:k<8):((A.map gU).toArray)[k]? =some (gU (A.getD k 0)):=by
 have:=Rf (A:=A) (B:=A) (tail:=[]) m m u;rw[aaT,aaz]at this;exact this
theorem OX{h:List Int}{b:I8}{k:Nat}(u:h.length=8)(m:k<8):(kK h b).getD k 0=Tq (h.getD k 0+(tV (OV.of h) (gq b 48) 64).list.getD k 0):=by
 unfold kK;obtain⟨a0,B,C,a3,a4,a5,A,z,rfl⟩:=eight u;generalize tV _ _ _=y
 match k,m with
 |0,_=>rfl
 |1,_=>rfl
 |2,_=>rfl
 |3,_=>rfl
 |4,_=>rfl
 |5,_=>rfl
 |6,_=>rfl
 |7,_=>rfl
theorem BF{P:Program}{f:FuncId}{m:Array Value}{w:World}{v:Value}(h:Calls P f m w λ e w'=>e= .returned v/\w=w'):Calls P f m w λ e w'=>e= .returned v/\w'=w:=h.mono λ e w' ⟨y,u⟩=>⟨y,u.symm⟩
theorem hBQD{B:Nat}{w m:World}(h:Below B w m):Below B w m.drew:=⟨h.os,h.tape,h.output,h.size,h.block⟩
theorem Af{S:Nat->Prop}(u kb ko:Nat)(ty:TypeId)(h:List Int)(tail:List Value)(ad:Mx)(n c:Nat)(m:I8)(w:World)(hl:h.length=8)(C:w.heap[u]? =some (.cells (h.map gU++tail).toArray ty (0,0)))(hK:∀i,i<64->w.cell? ⟨kb,ko+i,none⟩=some (gU (kM.getD i 0)))(fT:kb<w.heap.size)(hr:ah S w ad n (m.map bv))(hn:64<=n)(nC:n<=c):
  Dy 244 #[.pointer (some ⟨u,0,none⟩),.slice ad n c,.pointer (some ⟨kb,ko,none⟩)] w λ e w'=>e= .returned (.tuple #[])/\w'.heap[u]? =some (.cells ((kK h m).map gU++tail).toArray ty (0,0))/\Keeps (λ x=>x=u) w w':=by
 obtain⟨V,h1,h2,h3,h4,h5,h6,X,rfl⟩:∃V h1 h2 h3 h4 h5 h6 X,h=[V,h1,h2,h3,h4,h5,h6,X]:=by
  match h,hl with
  |[V,h1,h2,h3,h4,h5,h6,X],_=>exact⟨V,h1,h2,h3,h4,h5,h6,X,rfl⟩
 have HS:=acp C;have HK:=acp hK;have r7:=acp (λ x w=>nZ x (-7) 25 w (by kernel_rfl) (by omega) (by omega));have lI:=acp (λ x w=>nZ x (-18) 14 w (by kernel_rfl) (by omega) (by omega));have kN:=acp (λ x w=>nZ x (-17) 15 w (by kernel_rfl) (by omega) (by omega));have l6:=acp (λ x w=>nZ x (-19) 13 w (by kernel_rfl) (by omega) (by omega));have r6:=acp (λ x w=>nZ x (-6) 26 w (by kernel_rfl) (by omega) (by omega));have jl:=acp (λ x w=>nZ x (-11) 21 w (by kernel_rfl) (by omega) (by omega));have jw:=acp (λ x w=>nZ x (-25) 7 w (by kernel_rfl) (by omega) (by omega));have r2:=acp (λ x w=>nZ x (-2) 30 w (by kernel_rfl) (by omega) (by omega));have jL:=acp (λ x w=>nZ x (-13) 19 w (by kernel_rfl) (by omega) (by omega));have kW:=acp (λ x w=>nZ x (-22) 10 w (by kernel_rfl) (by omega) (by omega));have HR:=acp hr;have hm:=hr.small;unfold maxLen at hm;clear C hK hr hl;go_enter Tryz.func244,Tryz.ntmps244;go_wp2_with fail
 go_loopw [7,26] (λ _ iv wr=>∃k:Nat,iv= .int .i64 k/\k<=16/\wr.heap[w.heap.size]? =some (.cells (Ku ((List.range k).map (Ra m))) 331 (0,0))/\Below w.heap.size w wr) (λ _ iv _=>16-(intOf iv).toNat)
 case atStart=>
  exact⟨0,rfl,by omega,(MapKept.heap_alloc w _).1,wall w _⟩
 case round=>
  obtain⟨k,rfl,hk,G,hb⟩:=hrel;by_cases D:k<16
  ·have hd:decide ((k:Int)<16)=true:=by simp;omega
   obtain⟨rb,ro,rfl,jy,nQ,kg⟩:=HR.o.at_ (by omega);have e1:IntKind.i64.wrap ((k:Int)*4)=(k:Int)*4:=aaf _ (by omega);have g0:(0:Int)<=(k:Int)*4:=by omega
   have g1:(k:Int)*4<=(n:Int):=by omega
   have g2:(n:Int)<=(c:Int):=by omega
   have g3:¬c=k*4:=by omega
   have g4:((k:Int)*4).toNat=k*4:=by omega
   have aN:=acp (Xh (some ⟨rb,ro+k*4,none⟩) (n-k*4) (c-k*4) (m.drop (k*4)) wr (by have:=(HR.o.below hb acs).drop (k*4);rwa [<-aaU]at this) (by omega));have aH:wr.frozen? ⟨w.heap.size,k,none⟩=false:=by simp[World.frozen?,G]
   have hz:wr.cell? ⟨w.heap.size,k,none⟩=some (.int .u32 0):=Rc G (by simp) (by omega);have HW:=acp G;have N:=acp hb;obtain⟨wd,dV⟩:∃wd,wd=Ra m k:=⟨_,rfl⟩;change acr (Calls _ _ _ _ λ e w'=>e= .returned (.int .u32 (Ra m k))/\wr=w')at aN;rw[<-dV]at aN;have Vx:=acp dV;have l5:(k:Int)<64:=by omega
   have k0:(0:Int)<=(k:Int):=by omega
   have ht:((k:Int)).toNat=k:=by omega
   clear G hb dV kg jy;go_wp2_with fail;refine aN.o.mono ?_;rintro e w2 ⟨rfl,rfl⟩;go_wp2_with fail;go_roundw
   case rel=>
    refine⟨k+1,by go_num,by omega,?_,?_⟩
    ·have h9:=Xj HW.o (by simp;omega) wd;rw[List.length_map,List.length_range]at h9;rw[ach,aas,aau,abn,<-Vx.o];exact h9
    ·exact Il N.o N.o.size acs _ _
   case measure=>simp[intOf];omega
  ·have aF:k=16:=by omega
   have hd:decide ((k:Int)<16)=false:=by simp;omega
   rw[aF]at G;have HW:=acp G;clear aF;have N:=acp hb;clear G hb hk D;go_wp2_with fail
   go_loopw [8,9,10,11,12] (λ iv _ _ _ _ wr=>∃i:Nat,iv= .int .i64 i/\16<=i/\i<=64/\wr.heap[w.heap.size]? =some (.cells (Ku (gq m (i-16))) 331 (0,0))/\Below w.heap.size w wr) (λ iv _ _ _ _ _=>64-(intOf iv).toNat)
   case atStart=>exact⟨16,rfl,by omega,by omega,HW.o,N.o⟩
   case round=>
    obtain⟨i,rfl,iN,iM,G,hb⟩:=hrel;have HW:=acp G;have N:=acp hb;by_cases D:i<64
    ·have hd:decide ((i:Int)<64)=true:=by simp;omega
     have O:=yK m (i-16);have gL:=Ae G (show i-15<_ by rw[O];omega);have s2:=Ae G (show i-2<_ by rw[O];omega);have bS:=Ae G (show i-16<_ by rw[O];omega);have s7:=Ae G (show i-7<_ by rw[O];omega);have hz:=Rc G (show(gq m (i-16)).length<=i by rw[O];omega) D;have aH:wr.frozen? ⟨w.heap.size,i,none⟩=false:=by simp[World.frozen?,G]
     have mR:IntKind.i64.wrap ((i:Int)-15)=(i:Int)-15:=aaf _ (by omega);have e2:IntKind.i64.wrap ((i:Int)-2)=(i:Int)-2:=aaf _ (by omega);have ni:IntKind.i64.wrap ((i:Int)-16)=(i:Int)-16:=aaf _ (by omega);have e7:IntKind.i64.wrap ((i:Int)-7)=(i:Int)-7:=aaf _ (by omega);have mU:((i:Int)-15).toNat=i-15:=by omega
     have n2:((i:Int)-2).toNat=i-2:=by omega
     have mq:((i:Int)-16).toNat=i-16:=by omega
     have n7:((i:Int)-7).toNat=i-7:=by omega
     have mY:(0:Int)<=(i:Int)-15:=by omega
     have nJ:(0:Int)<=(i:Int)-2:=by omega
     have nP:(0:Int)<=(i:Int)-16:=by omega
     have g7:(0:Int)<=(i:Int)-7:=by omega
     have nA:(i:Int)-15<64:=by omega
     have l2:(i:Int)-2<64:=by omega
     have mQ:(i:Int)-16<64:=by omega
     have l7:(i:Int)-7<64:=by omega
     have li:(i:Int)<64:=by omega
     have nG:(16:Int)<=(i:Int):=by omega
     have q7:(7:Int)<=(i:Int):=by omega
     have gi:(0:Int)<=(i:Int):=by omega
     have ig:=acp O;clear G hb O;obtain⟨jv,Y⟩:∃z,z=(gq m (i-16)).getD (i-15) 0:=⟨_,rfl⟩;obtain⟨w2,bD⟩:∃z,z=(gq m (i-16)).getD (i-2) 0:=⟨_,rfl⟩;obtain⟨bf,ak⟩:∃z,z=(gq m (i-16)).getD (i-16) 0:=⟨_,rfl⟩;obtain⟨w7,dM⟩:∃z,z=(gq m (i-16)).getD (i-7) 0:=⟨_,rfl⟩;rw[<-Y]at gL;rw[<-bD]at s2;rw[<-ak]at bS;rw[<-dM]at s7;have R:=acp (And.intro Y (And.intro bD (And.intro ak dM)));clear Y bD ak dM;go_wp2_with fail
     go_quiet (fail)
     have jm:(wr.drewN nq).cell? ⟨w.heap.size,i-16,none⟩=some (.int .u32 bf):=bS;have t7:(wr.drewN nq).cell? ⟨w.heap.size,i-7,none⟩=some (.int .u32 w7):=s7;have tz:(wr.drewN nq).cell? ⟨w.heap.size,i,none⟩=some (.int .u32 0):=hz;have tf:(wr.drewN nq).frozen? ⟨w.heap.size,i,none⟩=false:=aH;have J:(wr.drewN nq).heap[w.heap.size]? =some (.cells (Ku (gq m (i-16))) 331 (0,0)):=HW.o;have I:Below w.heap.size w (wr.drewN nq):=⟨N.o.os,N.o.tape,N.o.output,N.o.size,N.o.block⟩;generalize wr.drewN nq=wq at*;have av:=acp J;have Q:=acp I;clear J I gL s2 bS s7 hz aH;go_wp2_with (first|(go_at_call 262;(first|(with_reducible refine(r7.o _ _).mono ?_)|(with_reducible refine(lI.o _ _).mono ?_)|(with_reducible refine(kN.o _ _).mono ?_)|(with_reducible refine(l6.o _ _).mono ?_));rintro e w' ⟨rfl,rfl⟩));refine vJ 15 ((λ w'=>w'.cell? ⟨w.heap.size,i-16,none⟩=some (.int .u32 bf)/\w'.cell? ⟨w.heap.size,i-7,none⟩=some (.int .u32 w7)/\w'.cell? ⟨w.heap.size,i,none⟩=some (.int .u32 0)/\w'.frozen? ⟨w.heap.size,i,none⟩=false)) ?_ λ C=> ?_
     ·exact⟨jm,t7,tz,tf⟩
     refine aO 0 C ?_;refine aO 1 C ?_;refine aO 2 C ?_;refine aO 3 C ?_;refine aO 4 C ?_;refine aO 5 C ?_;refine aO 6 C ?_;refine aO 7 C ?_;refine aO 8 C ?_;refine aO 9 C ?_;refine aO 10 C ?_;refine aO 11 C ?_;refine aO 12 C ?_;refine aO 13 C ?_;refine aO 14 C ?_;refine cu 15 λ K hK=> ?_;go_simp;refine o_ hK ?_;clear C hK K;go_wp2_with fail;go_roundw
     case rel=>
      refine⟨i+1,by go_num,by omega,by omega,?_,?_⟩
      ·have h9:=Xj (w:=wq.drew) av.o (by rw[ig.o];omega) (Rb (gq m (i-16)));have e9:i+1-16=(i-16)+1:=by omega
       have e8:(gq m (i-16)).length=i:=by rw[ig.o];omega
       rw[e8]at h9;rw[e9];unfold gq;have e7:Rb (gq m (i-16))=Tq (Tq (Tq (bf+sg0 jv)+w7)+sg1 w2):=by
        unfold Rb;rw[e8,R.o.1,R.o.2.1,R.o.2.2.1,R.o.2.2.2]
       rw[e7]at h9⊢;exact h9
      ·exact Il (hBQD Q.o) Q.o.size acs _ _
     case measure=>simp[intOf];omega
    ·have aA:i=64:=by omega
     have hd:decide ((i:Int)<64)=false:=by simp;omega
     rw[aA]at HW;have R:acr (wr.heap[w.heap.size]? =some (.cells (Ku (gq m 48)) 331 (0,0))):=HW.o;have bq:u<w.heap.size:=(qW.1 HS.o).1;have iD:∀q,q<w.heap.size->wr.heap[q]? =w.heap[q]? :=λ q hq=>hb.block q hq;have F:wr.heap[u]? =some (.cells (List.map gU [V,h1,h2,h3,h4,h5,h6,X]++tail).toArray ty (0,0)):=(iD u bq).trans HS.o;have c0:wr.cell? ⟨u,0,none⟩=some (.int .u32 V):=by simp[World.cell?,F]
     have c1:wr.cell? ⟨u,1,none⟩=some (.int .u32 h1):=by simp[World.cell?,F]
     have c2:wr.cell? ⟨u,2,none⟩=some (.int .u32 h2):=by simp[World.cell?,F]
     have c3:wr.cell? ⟨u,3,none⟩=some (.int .u32 h3):=by simp[World.cell?,F]
     have c4:wr.cell? ⟨u,4,none⟩=some (.int .u32 h4):=by simp[World.cell?,F]
     have c5:wr.cell? ⟨u,5,none⟩=some (.int .u32 h5):=by simp[World.cell?,F]
     have c6:wr.cell? ⟨u,6,none⟩=some (.int .u32 h6):=by simp[World.cell?,F]
     have c7:wr.cell? ⟨u,7,none⟩=some (.int .u32 X):=by simp[World.cell?,F]
     clear G hb iN iM D aA HW iD F;go_wp2_with fail
     go_quiet (fail)
     have J:(wr.drewN nq).heap[w.heap.size]? =some (.cells (Ku (gq m 48)) 331 (0,0)):=R.o;have I:Below w.heap.size w (wr.drewN nq):=⟨N.o.os,N.o.tape,N.o.output,N.o.size,N.o.block⟩;generalize wr.drewN nq=wq at*;have av:=acp J;have Q:=acp I;clear J I c0 c1 c2 c3 c4 c5 c6 c7;go_wp2_with fail
     go_loopw [13,14,15,16,17,18,19,20,21,22,23,112] (λ va vc vd ve vf vg vh vj _ _ _ kv wx=>∃(k:Nat) (st:OV),kv= .int .i64 k/\k<=64/\st=tV ⟨V,h1,h2,h3,h4,h5,h6,X⟩ (gq m 48) k/\va= .int .u32 st.a/\vc= .int .u32 st.c/\vd= .int .u32 st.d/\ve= .int .u32 st.e/\vf= .int .u32 st.f/\vg= .int .u32 st.g/\vh= .int .u32 st.h/\vj= .int .u32 st.j/\wx.heap[w.heap.size]? =some (.cells (Ku (gq m 48)) 331 (0,0))/\Below w.heap.size w wx) (λ _ _ _ _ _ _ _ _ _ _ _ kv _=>64-(intOf kv).toNat)
     case atStart=>exact⟨0,_,rfl,by omega,rfl,rfl,rfl,rfl,rfl,rfl,rfl,rfl,rfl,av.o,Q.o⟩
     case round=>
      obtain⟨k,⟨sa,sc,sd,se,P,sg,sh,sj⟩,rfl,hk,cB,rfl,rfl,rfl,rfl,rfl,rfl,rfl,rfl,aD,W⟩:=hrel;have dN:=acp cB;have jG:=acp aD;have E:=acp W;simp only;by_cases D:k<64
      ·have hd:decide ((k:Int)<64)=true:=by simp;omega
       obtain⟨ww,bn⟩:∃ww,ww=(gq m 48).getD k 0:=⟨_,rfl⟩;obtain⟨kk,dK⟩:∃kk,kk=kM.getD k 0:=⟨_,rfl⟩;have lC:wr.cell? ⟨w.heap.size,k,none⟩=some (.int .u32 ww):=by
        rw[bn];exact Ae aD (by rw[yK];omega)
       have lX:wr.cell? ⟨kb,ko+k,none⟩=some (.int .u32 kk):=by
        rw[dK];exact(W.cell (p:=⟨kb,ko+k,none⟩) fT).trans (HK.o k D)
       have iO:=acp (And.intro bn dK);have l9:kb<wr.heap.size:=Pd fT W.size;have l5:(k:Int)<64:=by omega
       have k0:(0:Int)<=(k:Int):=by omega
       have ht:((k:Int)).toNat=k:=by omega
       clear bn dK cB aD W;go_wp2_with fail
       go_quiet ((go_at_call 262;first|(with_reducible exact Calls.quiet_of_same (BF (r6.o P _)))|(with_reducible exact Calls.quiet_of_same (BF (jl.o P _)))|(with_reducible exact Calls.quiet_of_same (BF (jw.o P _)))))
       have J:(wr.drewN nq).heap[w.heap.size]? =some (.cells (Ku (gq m 48)) 331 (0,0)):=jG.o;have I:Below w.heap.size w (wr.drewN nq):=⟨E.o.os,E.o.tape,E.o.output,E.o.size,E.o.block⟩;generalize wr.drewN nq=wq at*;have av:=acp J;have Q:=acp I;clear J I lC lX;go_wp2_with (first|(go_at_call 262;(first|(with_reducible refine(r2.o _ _).mono ?_)|(with_reducible refine(jL.o _ _).mono ?_)|(with_reducible refine(kW.o _ _).mono ?_));rintro e w' ⟨rfl,rfl⟩));go_roundw
       case rel=>
        refine⟨k+1,OW ⟨sa,sc,sd,se,P,sg,sh,sj⟩ kk ww,by go_num,by omega,?_,rfl,rfl,rfl,rfl,rfl,rfl,rfl,rfl,av.o,Q.o⟩;show _=OW (tV ⟨V,h1,h2,h3,h4,h5,h6,X⟩ (gq m 48) k) (kM.getD k 0) ((gq m 48).getD k 0);rw[<-dN.o,iO.o.1,iO.o.2]
       case measure=>simp[intOf];omega
      ·have JG:k=64:=by omega
       have hd:decide ((k:Int)<64)=false:=by simp;omega
       rw[JG]at dN;clear JG hk D cB aD W;have iT:u<wr.heap.size:=Pd bq E.o.size;go_wp2_with fail;have dn:=(MapKept.heap_alloc wr (.cells #[.int .u32 sa,.int .u32 sc,.int .u32 sd,.int .u32 se,.int .u32 P,.int .u32 sg,.int .u32 sh,.int .u32 sj] 154)).1;have dG:=wall wr (.cells #[.int .u32 sa,.int .u32 sc,.int .u32 sd,.int .u32 se,.int .u32 P,.int .u32 sg,.int .u32 sh,.int .u32 sj] 154);have gM:=Pe wr (.cells #[.int .u32 sa,.int .u32 sc,.int .u32 sd,.int .u32 se,.int .u32 P,.int .u32 sg,.int .u32 sh,.int .u32 sj] 154);have d9:Keeps (λ x=>x=u) w (wr.alloc (.cells #[.int .u32 sa,.int .u32 sc,.int .u32 sd,.int .u32 se,.int .u32 P,.int .u32 sg,.int .u32 sh,.int .u32 sj] 154)):=(Keeps.below (E.o.trans (dG.mono E.o.size))).mono λ x hx nE=>absurd hx (by omega);have dI:(wr.alloc (.cells #[.int .u32 sa,.int .u32 sc,.int .u32 sd,.int .u32 se,.int .u32 P,.int .u32 sg,.int .u32 sh,.int .u32 sj] 154)).heap[u]? =some (.cells (List.map gU [V,h1,h2,h3,h4,h5,h6,X]++tail).toArray ty (0,0)):=(dG.block u iT).trans ((E.o.block u bq).trans HS.o);obtain⟨nb,Z⟩:∃nb,nb=wr.heap.size:=⟨_,rfl⟩;have l8:w.heap.size<=nb:=by rw[Z];exact E.o.size
       rw[<-Z]at dn gM⊢;generalize wr.alloc (.cells #[.int .u32 sa,.int .u32 sc,.int .u32 sd,.int .u32 se,.int .u32 P,.int .u32 sg,.int .u32 sh,.int .u32 sj] 154)=w1 at*;have hL:([sa,sc,sd,se,P,sg,sh,sj]:List Int)=(tV (OV.of [V,h1,h2,h3,h4,h5,h6,X]) (gq m 48) 64).list:=by
        have:=aaK OV.list dN.o;exact this
       have U:w1.heap[nb]? =some (.cells ((([sa,sc,sd,se,P,sg,sh,sj]:List Int).map gU).toArray) 154 (0,0)):=dn;obtain⟨L,aL⟩:∃L:List Int,L=[sa,sc,sd,se,P,sg,sh,sj]:=⟨_,rfl⟩;rw[<-aL]at U hL;have Kr:=acp hL;have jo:acr (L.length=8):=by rw[aL];rfl
       obtain⟨H,aB⟩:∃H:List Int,H=[V,h1,h2,h3,h4,h5,h6,X]:=⟨_,rfl⟩;have M:acr (H.length=8):=by rw[aB];rfl
       rw[<-aB]at dI Kr;have lN:=acp aB;have mo:=acp dI;have yH:=acp d9;have jc:=acp U;clear dn dG gM d9 dI hL U aL aB Z
       go_loopw [24,25,187] (λ _ _ kv wx=>∃k:Nat,kv= .int .i64 k/\k<=8/\wx.heap[u]? =some (.cells (((kK H m).take k++H.drop k).map gU++tail).toArray ty (0,0))/\wx.heap[nb]? =some (.cells ((L.map gU).toArray) 154 (0,0))/\Keeps (λ x=>x=u) w wx) (λ _ _ kv _=>8-(intOf kv).toNat)
       case atStart=>exact⟨0,rfl,by omega,by simpa using mo.o,jc.o,yH.o⟩
       case round=>
        obtain⟨k,rfl,hk,aC,aJ,gy⟩:=hrel;have bT:=acp aC;have DT:=acp aJ;have iE:=acp gy;by_cases D:k<8
        ·have hd:decide ((k:Int)<8)=true:=by simp;omega
         have Dp:=qy H m M.o;obtain⟨x,hx⟩:∃x,x=L.getD k 0:=⟨_,rfl⟩;obtain⟨y,hy⟩:∃y,y=H.getD k 0:=⟨_,rfl⟩;have d1:wr.cell? ⟨nb,k,none⟩=some (.int .u32 x):=by
          rw[hx];have:=Tt jo.o D;simp only[World.cell?,aJ];exact this
         have d2:wr.cell? ⟨u,k,none⟩=some (.int .u32 y):=by
          rw[hy];have:=Rf (A:=kK H m) (B:=H) (tail:=tail) Dp M.o D;simp only[World.cell?,aC];exact this
         have df:wr.frozen? ⟨u,k,none⟩=false:=by simp[World.frozen?,aC]
         have fK:=acp (And.intro hx hy);have k8:(k:Int)<8:=by omega
         have k0:(0:Int)<=(k:Int):=by omega
         have ht:((k:Int)).toNat=k:=by omega
         clear hx hy aC aJ gy Dp;go_wp2_with fail;refine vJ 9 ((λ w'=>w'.cell? ⟨u,k,none⟩=some (.int .u32 y)/\w'.frozen? ⟨u,k,none⟩=false)) ?_ λ C=> ?_
         ·exact⟨d2,df⟩
         refine aO 0 C ?_;refine aO 1 C ?_;refine aO 2 C ?_;refine aO 3 C ?_;refine aO 4 C ?_;refine aO 5 C ?_;refine aO 6 C ?_;refine aO 7 C ?_;refine aO 8 C ?_;refine cu 9 λ K hK=> ?_;go_simp;refine o_ hK ?_;clear C hK K;go_wp2_with fail;go_roundw
         case rel=>
          have Dp:=qy H m M.o;have e9:Tq (y+x)=(kK H m).getD k 0:=by
           rw[OX M.o D,<-Kr.o,fK.o.1,fK.o.2]
          refine⟨k+1,by go_num,by omega,?_,?_,?_⟩
          ·rw[<-mix_set Dp M.o D,<-e9];exact aG (w:=wr.drew) bT.o
          ·refine(aI wr.drew ⟨u,k,none⟩ _ nb ?_).trans DT.o;show nb≠u;omega
          ·exact((iE.o.trans (show Keeps (λ x=>x=u) wr wr.drew from⟨rfl,rfl,rfl,Nat.le_refl _,λ _ _ _=>rfl⟩) λ x _ hx=>hx).trans (Keeps.jy wr.drew ⟨u,k,none⟩ _) λ x _ hx=>hx)
         case measure=>simp[intOf];omega
        ·have hd:decide ((k:Int)<8)=false:=by simp;omega
         have Ny:k=8:=by omega
         rw[Ny]at bT;go_wp2_with fail
         go_end0
         refine⟨rfl,?_,iE.o⟩;have h9:=bT.o;have e1:(kK H m).take 8=kK H m:=List.take_of_length_le (by rw[qy H m M.o];omega);have e2:H.drop 8=[]:=aay (by rw[M.o];omega);rw[e1,e2,aaz,lN.o]at h9;exact h9
