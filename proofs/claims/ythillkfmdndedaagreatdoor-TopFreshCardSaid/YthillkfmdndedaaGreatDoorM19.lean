/- What -/
import Derived.Test.YthillkfmdndedaaGreatDoorM18
set_option maxRecDepth 100000
set_option maxHeartbeats 64000000
set_option linter.all false
namespace Go.Proofs.YthillkfmdndedaaGreatDoor
open Go.ChangeShapes Go.WideShapes Go.ChangeAt Go.RowKit
structure NdM where
 id:Int
 kind:Int
 links:Int
 size:Int
 aL:Int
 closed:Bool
def zeroN:NdM:=⟨0,0,0,0,0,false⟩
def Oy(n:NdM):Prop:=(n.kind=1/\n.size<=4096/\n.aL<=1099511627776)\/(n.kind=2/\n.size=0/\n.aL=0/\n.closed=true)
instance(n:NdM):Decidable (Oy n):=by unfold Oy;infer_instance
def Oz(b:I8):NdM×Rd:=
 let a:=fD (b,0) 2
 let k:=fD a.2 1
 let l:=fD k.2 2
 let s:=fD l.2 2
 let t:=fD s.2 8
 let c:=Ii t.2
 (⟨a.1,k.1,l.1,s.1,t.1,c.1⟩,c.2)
def decodeM(b:I8):NdM×Int:=if Lh (Oz b).2=0/\Oy (Oz b).1 then((Oz b).1,0)else(zeroN,12)
def QZ:Nat->Rd->Nm->List (Nm×Int)->Option (List (Nm×Int)×Rd)
 |0,s,_,acc=>some (acc,s)
 |k+1,s,m,acc=>
  let a:=vY s
  let b:=fD a.2 2
  if b.2.2≠0\/gF a.1=false\/bytesBefore m a.1=false then none else QZ k b.2 a.1 (acc++[(a.1,b.1)])
def itOf(n:NdM)(b:I8)(names:List (Nm×Int)):fI:=⟨n.kind,n.links,n.aL,n.closed,b,names⟩
def readM(s:Rd):Option ((Int×fI)×Rd):=
 let a:=vY s
 let n:=decodeM a.1
 let b:=vY a.2
 let c:=fD b.2 2
 if n.2≠0\/(b.1.length:Int)≠n.1.size then none else
 if n.1.kind=1 then(if c.1=0 then some ((n.1.id,itOf n.1 b.1 []),c.2)else none)else
 match QZ c.1.toNat c.2 [] []with
 |none=>none
 |some q=>some ((n.1.id,itOf n.1 b.1 q.1),q.2)
def WL:Nat->Rd->Int->aS->Option (aS×Rd)
 |0,s,_,acc=>some (acc,s)
 |k+1,s,m,acc=>(readM s).elim none λ q=>if q.1.1<=m then none else WL k q.2 q.1.1 (acc++[q.1])
def parseM(b:I8):Option aS:=
 match WL (fD (b,0) 2).1.toNat (fD (b,0) 2).2 (-1) []with
 |none=>none
 |some q=>if Lh q.2=0 then some q.1 else none
abbrev S_:=List (Int×Nat)
def wK(C:S_)(j:Int):Nat:=(au j C).getD 0
def zc(T:aS)(C:S_):Nat:=T.countP λ q=>decide (q.2.kind=2)&&decide (wK C q.1=0)
def Ta(C:S_)(k:Int):S_:=dO qK k (wK C k+1) C
theorem Ab(C:S_)(k j:Int):wK (Ta C k) j=wK C j+if j=k then 1 else 0:=by
 unfold Ta;unfold wK;rw[fO];by_cases h:j=k
 ·subst h;rw[if_pos rfl,if_pos rfl];rfl
 ·rw[if_neg h,if_neg h];rfl
theorem OA{C:S_}(h:bA qK C)(k:Int):bA qK (Ta C k):=h.dO iR k _
def JC(T:aS):Nat->Int->List Int
 |0,_=>[]
 |n+1,id=>(bM T id).flatMap λ e=>e.2::(if bQ T e.2=2 then JC T n e.2 else[])
def WM(T:aS):Nat->Int->Prop
 |0,id=>bM T id=[]
 |n+1,id=>∀e∈bM T id,(au e.2 T).isSome=true/\e.2≠0/\(bQ T e.2=2->WM T n e.2)
def EF(T:aS)(C:S_)(n:Nat)(id:Int):Prop:=WM T n id/\∀k∈JC T n id,bQ T k=2->wK C k+(JC T n id).count k<=1
def Dn(T:aS)(n:Nat)(e:Nm×Int):List Int:=e.2::(if bQ T e.2=2 then JC T n e.2 else[])
def EntOk(T:aS)(n:Nat)(e:Nm×Int):Prop:=(au e.2 T).isSome=true/\e.2≠0/\(bQ T e.2=2->WM T n e.2)
structure yj(T:aS)(n:Nat)(C:S_)(D:List (Nm×Int))(C':S_):Prop where
 sorted:bA qK C'
 cnt:∀j,wK C' j=wK C j+(D.flatMap (Dn T n)).count j
 ok:∀e∈D,EntOk T n e
 one:∀k∈D.flatMap (Dn T n),bQ T k=2->wK C' k<=1
theorem yj.nil{T:aS}{n:Nat}{C:S_}(h:bA qK C):yj T n C [] C:=⟨h,λ j=>rfl,λ e u=>(by cases u),λ k m=>(by cases m)⟩
theorem xD{T:aS}{n:Nat}(D:List (Nm×Int))(e:Nm×Int):(D++[e]).flatMap (Dn T n)=D.flatMap (Dn T n)++Dn T n e:=by simp
theorem yj.file{T:aS}{n:Nat}{C H:S_}{D:List (Nm×Int)}(h:yj T n C D H){e:Nm×Int}(K:(au e.2 T).isSome=true)(J:e.2≠0)(F:bQ T e.2≠2):yj T n C (D++[e]) (Ta H e.2):=by
 have I:Dn T n e=[e.2]:=by unfold Dn;rw[if_neg F]
 refine⟨OA h.sorted _,λ j=> ?_,λ y m=> ?_,λ k u A=> ?_⟩
 ·rw[Ab,h.cnt j,xD,I,List.count_append,List.count_singleton];by_cases G:j=e.2
  ·subst G;simp;omega
  ·simp[G,aa6 G]
 ·rcases aaA.1 m with m|m
  ·exact h.ok y m
  ·simp only[List.mem_singleton]at m;subst m;exact⟨K,J,λ E=>absurd E F⟩
 ·rw[xD,I]at u;have z:k≠e.2:=λ E=>F (E▸A);rw[Ab,if_neg z,Nat.add_zero];rcases aaA.1 u with B|B
  ·exact h.one k B A
  ·simp only[List.mem_singleton]at B;exact absurd B z
theorem yj.dir{T:aS}{n:Nat}{C E G:S_}{D:List (Nm×Int)}(h:yj T n C D E){e:Nm×Int}(S:(au e.2 T).isSome=true)(R:e.2≠0)(P:bQ T e.2=2)(O:wK E e.2=0)
  (Q:bA qK G)(K:∀j,wK G j=wK (Ta E e.2) j+(JC T n e.2).count j)(N:EF T (Ta E e.2) n e.2):yj T n C (D++[e]) G:=by
 have M:Dn T n e=e.2::JC T n e.2:=by unfold Dn;rw[if_pos P]
 have F:∀j,wK G j=wK E j+(Dn T n e).count j:=λ j=>by
  rw[K j,Ab,M,List.count_cons];by_cases H:j=e.2
  ·subst H;simp;omega
  ·simp[H,aa6 H]
 have J:∀k∈Dn T n e,bQ T k=2->wK G k<=1:=λ k m u=>by
  rw[K k];rw[M]at m;by_cases I:k∈JC T n e.2
  ·exact N.2 k I u
  ·rcases List.mem_cons.1 m with z|z
   ·subst z;rw[List.count_eq_zero_of_not_mem I,Ab,if_pos rfl,O];exact Nat.le_refl _
   ·exact absurd z I
 refine⟨Q,λ j=> ?_,λ y B=> ?_,λ k m u=> ?_⟩
 ·rw[xD,List.count_append,F j,h.cnt j,Nat.add_assoc]
 ·rcases aaA.1 B with B|B
  ·exact h.ok y B
  ·simp only[List.mem_singleton]at B;subst B;exact⟨S,R,λ _=>N.1⟩
 ·by_cases z:k∈Dn T n e
  ·exact J k z u
  ·rw[xD]at m;rcases aaA.1 m with A|A
   ·rw[F k,List.count_eq_zero_of_not_mem z,Nat.add_zero];exact h.one k A u
   ·exact absurd A z
theorem yj.all{T:aS}{n:Nat}{C u:S_}{id:Int}(h:yj T n C (bM T id) u):EF T C (n+1) id/\∀j,wK u j=wK C j+(JC T (n+1) id).count j:=by
 refine⟨⟨λ e z=>h.ok e z,λ k y m=> ?_⟩,λ j=>h.cnt j⟩;have:=h.one k y m;rw[h.cnt k]at this;exact this
def OB(T:aS):Prop:=bQ T 0=2/\T.length<=64/\EF T [(0,1)] 8 0/\∀q∈T,(((if q.1=0 then 1 else 0)+(JC T 8 0).count q.1:Nat):Int)=q.2.links/\¬(q.2.links=0/\q.2.closed=true)
def tQ(w:World)(p:Nat)(T:aS)(w':World):Prop:=
 ∃g D m u nb,aK g D w' p m u nb T/\(∀b,g b≠ .none->w.heap.size<=b)/\(∀b,D b->w.heap.size<=b)/\Below w.heap.size w w'
theorem oz{P:Program}{A:Region.Mode}{y:Array Oper}{Q:Exit->Act->World->Prop}{S S':World->Prop}(h:∀w,S' w->S w):
  ∀(u:Nat) (m:Array Bool) (a:Act) (w:World),wpAnyH P A y Q S' u m a w->wpAnyH P A y Q S u m a w
 |0,_,_,_,z=>z
 |u+1,_,_,_,z=>⟨z.1,λ i C=>wpOp_mono (λ _ _ B=>⟨h _ B.1,oz h u _ _ _ B.2⟩) (z.2 i C)⟩
open Go
theorem aM{P:Program}{u:Array Oper}{Q:Exit->Act->World->Prop}{A:Region.Mode}{S:World->Prop}(i:Nat){z:Oper}{v:Value}{y:Nat}{m C:Array Bool}{a D:Act}{w:World}
  (I:S w)(h:wpAnyH P A u Q S y C D w)
  (M:u[i]? =some z:=by simp only[aam,aaw,aar];rfl)
  (H:Region.noSelect u=true:=by kernel_rfl)(N:Region.free A u m i=true:=by kernel_rfl)(F:(Region.ready A u m).contains i=true:=by kernel_rfl)
  (J:∀c a w,Q (.panic c) (a.put z.dst v) w->Q (.panic c) a w:=by exact λ _ _ _ h=>h)
  (E:Region.wanted z (yielded u a.tmps)=true:=by rfl)
  (K:∀w,S w->(execOp a.eval z).run P w= .ok (.value v) w:=by intro w B;(try dsimp only at B);go_simp;(try with_reducible rfl))
  (O:m.setIfInBounds i true=C:=by(try simp only[aan,aaO,aaP]);rfl)
  (G:a.put z.dst v=D:=by(try simp only[Act.put,aan,aaO,aaP]);rfl)
  :wpAnyH P A u Q S (y+1) m a w:=
 wpAnyH_take M H N F J (Or.inl ⟨E,K⟩) I (by rw[O,G];exact h)
theorem lJ{P:Program}{u:Array Oper}{Q:Exit->Act->World->Prop}{A:Region.Mode}{S:World->Prop}(i:Nat){o:Oper}{y:Nat}{m:Array Bool}{a:Act}{w:World}
  (h:∀z:Act->World->Prop,Shut (∀a w,S w->(S w->wpAnyH P A u Q S y (m.setIfInBounds i true) a w)->z a w)->if Region.wanted o (yielded u a.tmps)=true then Oper.wp P o a w z Q else z (a.put o.dst undef) w)
  (C:u[i]? =some o:=by simp only[aam,aaw,aar];rfl)(B:Region.ready A u m=[i]:=by kernel_rfl):wpAnyH P A u Q S (y+1) m a w:=
 wpAnyH_ready B (by simp) (AllReadyH.cons C h AllReadyH.nil)
theorem kV{P:Program}{y:Array Oper}{Q:Exit->Act->World->Prop}{B:Region.Mode}{S:World->Prop}{i:Nat}{u:Nat}{m z:Array Bool}{a A:Act}{w:World}{K:Act->World->Prop}
  (E:Shut (∀a w,S w->(S w->wpAnyH P B y Q S u (m.setIfInBounds i true) a w)->K a w))(D:S w)(h:S w->wpAnyH P B y Q S u z A w)
  (F:m.setIfInBounds i true=z:=by(try simp only[aan,aaO,aaP]);rfl)
  (C:a=A:=by(try simp only[Act.put,aan,aaO,aaP]);rfl):K a w:=by
 subst F C;exact E a w D h
theorem rH{P:Program}{y:Array Oper}{Q:Exit->Act->World->Prop}{z:Region.Mode}{S:World->Prop}{u:Nat}{m:Array Bool}{a:Act}{w:World}(h:Q .normal a w)(A:Region.ready z y m=[]:=by kernel_rfl):wpAnyH P z y (NoPanic Q) S u m a w:=
 wpAnyH_done A (NoPanic.normal h) _
theorem su{P:Program}{m:Array Oper}{Q:Exit->Act->World->Prop}(S:World->Prop){id:Nat}{a:Act}{w:World}(y:S w.drew)
  (h:S w.drew->wpAnyH P .any m (NoPanic Q) S m.size (Array.replicate m.size false) a w.drew)(u:P.follows .mixedOrders=true:=by kernel_rfl):(Code.region id m true).wp P Q a w:=
 wp_region_noPanic (wp_region_held_drew u y h)
abbrev Lp(i m:Nat)(a:Mx)(c:Nat)(v:Value):Array Value:= #[.int .i64 0,.int .i64 2,.int .i64 1,.int .i64 0,.int .u64 0,.bool true,.slice a 0 c,v]
theorem tread0{w0 w:World}{x:Nat}{r:I8}(h:EC w0 w x (qO Lm++(qO []++(bF 0 2++r)))):Dy 276 #[ptr x] w λ e w'=>∃i m,e= .returned (.tuple #[ptr i,.bool true])/\EC w0 w' x r/\Keeps (λ b=>b=x) w w'/\jJ (λ _=>False) w' 0 i m (dh 2)/\w.heap.size<=i/\i<w'.heap.size/\w.heap.size<=m/\m<w'.heap.size/\i≠m:=by
 have iT:=h.at_.lt;have aL:=acp (z_ h rfl (by decide));clear h;go_enter Tryz.func276,Tryz.ntmps276;go_wp2_with fail;refine aL.o.mono ?_;rintro e w1 ⟨a1,c1,rfl,gy,bS,lN,aA⟩;have HD:=acp (ndec0 a1 Lm.length c1 w1 (by decide) bS);have Y:=acp lN;have yH:=acp aA;clear gy bS lN aA aL;go_wp2_with fail;refine HD.o.mono ?_;rintro e y ⟨rfl,H⟩;obtain⟨J,Q⟩:∃J,J=y.alloc (.cells yh 36):=⟨_,rfl⟩;have ZL:J.heap[y.heap.size]? =some (.cells yh 36 (0,0)):=by rw[Q];exact(MapKept.heap_alloc y _).1
 have aN:Below y.heap.size y J:=by rw[Q];exact wall y _
 have jl:w.heap.size<=y.heap.size:=Nat.le_trans yH.o.size H.size;have Gy:=H.trans (aN.mono H.size);have av:acr (Keeps (λ b=>b=x) w J):=acp (yH.o.trans (Keeps.below Gy) λ z hz Z=>by have:=yH.o.size;omega);have iD:=acp (Y.o.grow Gy);have iO:x<y.heap.size:=Pd Y.o.at_.lt H.size;have bf:=(qW.1 ZL).1;have HQ:acr (∀w':World,w'.heap[y.heap.size]? =J.heap[y.heap.size]? ->w'.cell? ⟨y.heap.size,0,none⟩=some (.int .i64 0)/\w'.cell? ⟨y.heap.size,1,none⟩=some (.int .i64 2)/\w'.cell? ⟨y.heap.size,2,none⟩=some (.int .i64 1)/\w'.cell? ⟨y.heap.size,3,none⟩=some (.int .i64 0)/\w'.cell? ⟨y.heap.size,4,none⟩=some (.int .u64 0)/\w'.cell? ⟨y.heap.size,5,none⟩=some (.bool true)):=λ w' h9=>by
  have h8:=h9.trans ZL;refine⟨?_,?_,?_,?_,?_,?_⟩<;>simp[World.cell?,h8]
 have aD:=acp (z_ (iD.o.grow (Below.refl J.heap.size J).drew) (l:=[]) (r:=bF 0 2++r) rfl (by decide));have gL:=acp Q;clear H aN Gy ZL Q HD Y yH;go_wp2_with fail;rw[<-gL.o];refine su ((λ w'=>w'.cell? ⟨y.heap.size,0,none⟩=some (.int .i64 0)/\w'.cell? ⟨y.heap.size,1,none⟩=some (.int .i64 2)/\w'.cell? ⟨y.heap.size,2,none⟩=some (.int .i64 1)/\w'.cell? ⟨y.heap.size,3,none⟩=some (.int .i64 0)/\w'.cell? ⟨y.heap.size,4,none⟩=some (.int .u64 0)/\w'.cell? ⟨y.heap.size,5,none⟩=some (.bool true))) ?_ λ hS=> ?_
 ·exact HQ.o _ rfl
 refine aM 0 hS ?_;refine aM 1 hS ?_;refine lJ 2 λ K hK=> ?_;go_simp;refine aD.o.mono ?_;rintro e u ⟨a4,X,rfl,bD,-,Dm,B⟩;have M:Keeps (λ b=>b=x) J u:=⟨B.os,B.tape,B.output,B.size,B.block⟩;have aF:=acp M;have Ns:=acp bD;have aJ:=acp Dm;have aH:J.heap.size<=u.heap.size:=B.size;have ak:=M.block _ bf (show ¬y.heap.size=x by omega);clear bD Dm B M aD;go_wp2_with fail;refine kV hK (HQ.o _ ak) λ hS=> ?_;clear hK K;refine aM 3 hS ?_;refine lJ 4 λ K hK=> ?_;go_simp;have JD:=((wall u (.cells (Lp 0 0 a4 X (.map none)) 196)).block _ (Pd bf aH)).trans ak;refine kV hK (HQ.o _ JD) λ hS=> ?_;clear hK K;refine aM 5 hS ?_;refine rH ?_;obtain⟨G,oC⟩:∃G,G=u.alloc (.cells (Lp 0 0 a4 X (.map none)) 196):=⟨_,rfl⟩;have O:G.heap[u.heap.size]? =some (.cells (Lp 0 0 a4 X (.map none)) 196 (0,0)):=by rw[oC];exact(MapKept.heap_alloc u _).1
 have W:Below u.heap.size u G:=by rw[oC];exact wall u _
 rw[<-oC]at JD;obtain⟨-,V,-,iM,-,-⟩:=HQ.o _ JD;have d9:G.cell? ⟨u.heap.size,6,none⟩=some (.slice a4 0 X):=iL O 6;have bq:=acp JD;have jc:x<u.heap.size:=aJ.o.at_.lt;have Kq:acr (Keeps (λ b=>b=x) w G):=acp ((av.o.trans aF.o λ z _ hz=>hz).trans (Keeps.below W) λ z hz Z=>by have:=av.o.size;omega);have S:=acp (aJ.o.grow W);have dG:=acp O;have iE:u.heap.size<G.heap.size:=(qW.1 O).1;rw[<-oC];clear oC O W hS ak JD;go_wp2_with fail
 go_quiet (fail)
 have dn:Keeps (λ b=>b=x) w (G.drewN nq):=⟨Kq.o.os,Kq.o.tape,Kq.o.output,Kq.o.size,Kq.o.block⟩;have dK:EC w0 (G.drewN nq) x (bF 0 2++r):=⟨S.o.new,S.o.at_.kept acs rfl λ _ _ _=>rfl,⟨S.o.below.os,S.o.below.tape,S.o.below.output,S.o.below.size,S.o.below.block⟩⟩;have R:(G.drewN nq).heap[u.heap.size]? =some (.cells (Lp 0 0 a4 X (.map none)) 196 (0,0)):=dG.o;have bT:(G.drewN nq).heap[y.heap.size]? =J.heap[y.heap.size]? :=bq.o;have ZM:u.heap.size<(G.drewN nq).heap.size:=iE;clear V iM d9 dG bq Kq S;generalize G.drewN nq=w6 at*;have HS:=acp (jC dK 0 rfl (by omega) (by omega));have cB:=acp dn;clear dK dn;go_wp2_with fail;refine HS.o.mono ?_;rintro e A ⟨rfl,Q0,I⟩;have gM:=I.size;have C:=(I.block _ ZM (show ¬u.heap.size=x by omega)).trans R;obtain⟨-,V,-⟩:=HQ.o _ ((I.block y.heap.size (by omega) (show ¬y.heap.size=x by omega)).trans bT);have N:=acp (cB.o.trans I λ b _ hb=>hb);have fK:= @ab3 Tryz.prog;have dV:A.frozen? ⟨u.heap.size,7,none⟩=false:=by simp only[World.frozen?,C];rfl
 have Lr:A.cell? ⟨u.heap.size,7,none⟩=some (.map none):=iL C 7;have dM:u.heap.size<A.heap.size:=Pd ZM gM;have bn:=acp C;have uW:=acp Q0;clear Q0 I C R bT HS cB;go_wp2_with fail;obtain⟨P,E⟩:∃P,P=(A.setCell ⟨u.heap.size,7,none⟩ (.map (some A.heap.size))).alloc (.map #[] 0):=⟨_,rfl⟩;have D:(A.setCell ⟨u.heap.size,7,none⟩ (.map (some A.heap.size))).heap.size=A.heap.size:=size_set _ _ _;rw[<-E];have vV:P.heap.size=A.heap.size+1:=by rw[E,Pe,D]
 have Q5:MapAt dD P A.heap.size []:=by
  have:=MapAt.made (F:=dD) (A.setCell ⟨u.heap.size,7,none⟩ (.map (some A.heap.size)));rw[D]at this;rw[E];exact this
 have U:Keeps (λ b=>b=u.heap.size) A P:=by
  rw[E];exact(Keeps.jy A ⟨u.heap.size,7,none⟩ _).trans (Keeps.below (wall _ _)) λ z hz Z=>by rw[D]at Z;omega
 have aB:P.heap[u.heap.size]? =some (.cells (Lp 0 0 a4 X (.map (some A.heap.size))) 196 (0,0)):=by
  rw[E,(wall (A.setCell ⟨u.heap.size,7,none⟩ (.map (some A.heap.size))) _).block _ (by rw[D];exact dM),aG bn.o];rfl
 have dI:=N.o.size;have aC:w.heap.size<=u.heap.size:=Nat.le_trans av.o.size aH;have ig:x<A.heap.size:=uW.o.at_.lt;have fT:=acp (show Keeps (λ b=>b=x) w P from⟨U.os.trans N.o.os,U.tape.trans N.o.tape,U.output.trans N.o.output,by omega,λ b hb hn=>(U.block b (by omega) (show ¬b=u.heap.size by omega)).trans (N.o.block b hb hn)⟩);have Gd:acr (EC w0 P x r):=acp ⟨uW.o.new,uW.o.at_.kept (by omega) (U.block x ig (show ¬x=u.heap.size by omega)) λ b hb iN=>U.block b iN (show ¬b=u.heap.size by omega),uW.o.below.trans (U.bS uW.o.below.size λ z hz (e:z=u.heap.size)=>by have:=uW.o.new;omega)⟩;have Nt:=acp Q5;have dN:=acp aB;have HC:=acp Ns.o;clear E Q5 aB U dV Lr fK V;go_wp2_with fail
 go_loopw [8,46] (λ lv iv wr=>iv= .int .i64 0/\wr=P) (λ _ _ _=>0)
 case atStart=>exact⟨rfl,rfl⟩
 case round=>
  obtain⟨rfl,rfl⟩:=hrel;go_wp2_with fail
  go_ret2
  refine⟨u.heap.size,A.heap.size,rfl,Gd.o,fT.o,⟨⟨a4,X,dN.o,HC.o,⟨rfl,Nat.zero_le _,λ h9=>absurd h9 (by simp[dh])⟩⟩,λ _=>Nt.o⟩,aC,by omega,dI,by omega,by omega⟩
section
variable{P:Program}{K:TypeId}{κ:Type}[DecidableEq κ](F:AZ P K κ)
variable{w:World}{ops:Array Oper}{rest:List Oper}{o:Oper}{a:Act}{Q:Exit->Act->World->Prop}
theorem Gz(B:Region.wanted o (yielded ops a.tmps)=true)(m x v:Operand)(t e:TypeId)(z:o.op=Op.insert t m x v)(G:P.underlying t=some (.map K e))
  {b:Nat}{l:List (κ×Value)}(C:a.eval m= .map (some b))(I:MapAt F w b l)(H:l.length<maxLen)(k:κ)(val:Value)(A:a.eval x=F.val k)(D:a.eval v=val)(y:F.ok k)
  (h:∀w',MapAt F w' b (dO F.lt k val l)->w.mapTurned w' b->wpList P ops Q rest (a.put o.dst undef) w'):wpList P ops Q (o::rest) a w:=by
 refine abb B λ J E=> ?_;obtain⟨w',u,r1,r2⟩:=MapAt.rU F G I H k val y;unfold Oper.wp;simp[execOp,z,C,A,D,u,Result.andThen];exact E _ _ (h w' r1 r2)
theorem MapAt.WO{t e:TypeId}(E:P.underlying t=some (.map K e)){z:Value}(D:(zeroValue e).run P w= .ok z w){b:Nat}{l:List (κ×Value)}(G:MapAt F w b l)(k:κ)(B:F.ok k):
  (Instr.lookup t (.map (some b)) (F.val k) false).run P w= .ok ((au k l).getD z) w:=by
 obtain⟨v,ps,m,C⟩:=World.ownsMap.lookup G F.law E D (zd:= .held z) (zp:=[]) rfl (F.of k B);rw[Jg]at C;have A:v=(au k l).getD z:=by
  simp only[ou,aae,Prod.mk.injEq]at C;have:=C.1;cases y:au k l with
  |none=>rw[y]at this;simpa using this
  |some u=>rw[y]at this;simpa using this
 rw[A]at m;exact m
end
section
variable{g:Nat->Own}{D:Nat->Prop}{p mb:Nat}{ib nb:Int->Nat}
theorem EG:au (0:Int) mO=some (dh 2):=rfl
theorem EH(ib:Int->Nat):au (0:Int) (mO.map λ q=>(q.1,(ptr (ib q.1):Value)))=some (ptr (ib 0)):=rfl
theorem tlinks0(w:World)(h:aK g D w p mb ib nb mO)(U:Nat):Dy 299 #[ptr p,.int .i64 0,.int .i64 0,.map (some U)] w λ e w'=>e= .returned (.bool true)/\Below w.heap.size w w':=by
 obtain⟨X,P,W⟩:=h.cell;have H:aY.ok 0:=gG (by omega) (by omega);have C:=h.item 0 _ EG;obtain⟨c0,c1,c2,c3,c4,c5,S,O⟩:=C.cell;rw[show dS (dh 2) (nb 0)= .map (some (nb 0))from rfl]at S;have R:=acp (EH ib);have M:=acp h.map;have N:=acp (C.names rfl);clear h C;go_enter Tryz.func299,Tryz.ntmps299;go_wp2_with (first|(at_lookup;refine aX aY rfl _ _ 190 193 rfl Tryz.underlying190 (Tryz.bD _) rfl M.o 0 rfl H ?_;rw[R.o])|(at_range;refine jI dD rfl _ 194 3 rfl aah rfl N.o ?_;intro Y E u B))
 go_frame
 have y:=acp u;clear u B
 go_loopw [10,11,12] (λ _ _ _ wr=>∃left A,dR dD wr (nb 0) w.heap.size (bJ (dh 2)) left A/\Keeps (λ b=>b=w.heap.size) Y wr) (λ _ _ _ wr=>wr.rangeLeft (nb 0) w.heap.size)
 case atStart=>exact⟨_,_,E,Keeps.refl _ _⟩
 case round=>
  obtain⟨left,A,K,I⟩:=hrel;have V:=acp K;have Q:=acp I;clear K I;go_wp2_with (first|(at_next;refine kE dD rfl _ rfl rfl V.o ?_ ?_))
  ·intro m;clear m;go_wp2_with fail;go_ret;exact⟨rfl,y.o.trans (Q.o.bS y.o.size λ z Z (e:z=w.heap.size)=>by omega)⟩
  ·intro k v w4 J Wv F G;cases G
def RtRel0(ib:Int->Nat)(mb r:Nat)(u wr:World):Prop:=
 ∃(left:Int->Bool) (m:Nat),dR aY wr mb r (mO.map λ q=>(q.1,ptr (ib q.1))) left m/\Keeps (λ b=>b=r) u wr
theorem tright0(w:World)(h:aK g D w p mb ib nb mO):Dy 277 #[ptr p] w λ e w'=>e= .returned (.bool true)/\Below w.heap.size w w':=by
 obtain⟨cB,bn,bD⟩:=h.cell;have u:aY.ok 0:=gG (by omega) (by omega);have iM:=acp h.map;have HG:=acp (EH ib);obtain⟨-,c1,-,-,-,-,-,bf⟩:=(h.item 0 _ EG).cell;rw[show(dh 2).kind=2 from rfl]at c1;have av:acr ((mO.map λ q=>(q.1,ptr (ib q.1))).length=1):=rfl;have Z:= @ab3 Tryz.prog;have aF:=acp (MapAt.made (F:=aY) w);have HH:=acp h;clear h;go_enter Tryz.func277,Tryz.ntmps277;go_wp2_with (first|(at_lookup;refine aR aY rfl _ _ 190 193 rfl Tryz.underlying190 (Tryz.bD _) rfl iM.o 0 rfl u ?_;rw[HG.o])|(at_len;refine kD aY rfl _ 190 193 rfl Tryz.underlying190 rfl iM.o ?_;rw[av.o])|(refine Gz aY rfl _ _ _ 383 3 rfl Tryz.underlying383 rfl aF.o (by unfold maxLen;simp) 0 (.int .i64 1) rfl rfl u ?_;intro w1 R X;have jL:=acp R;have aA:=acp X;clear R X));have K:Below w.heap.size w w1:=(wall w (.map #[] 0)).trans ((Keeps.turned aA.o).bS (by simp) λ z m (e:z=w.heap.size)=>by omega);have Y:=acp K;have O:MapAt aY w1 w.heap.size [(0,.int .i64 1)]:=jL.o;have W:=HH.o.below K acs;have oP:=acp (tlinks0 w1 W w.heap.size);have E:=acp O;clear K O W Z;go_wp2_with fail;refine oP.o.mono ?_;rintro e M ⟨rfl,H⟩;have B:=acp (Y.o.trans (H.mono Y.o.size));have tF:=acp (E.o.kept (H.block _ E.o.lt));have y:=acp (HH.o.below B.o acs);have sw:=acp y.o.map;have Q:=tF.o.lt;have aJ:=sw.o.lt;have aN:=y.o.cell.1;clear H oP;go_wp2_with (at_range;refine jI aY rfl _ 190 193 rfl Tryz.underlying190 rfl sw.o ?_;intro w3 JE V bT)
 go_frame
 have G:=acp V;have aC:=acp JE;clear V JE
 go_loopw [6,7] (λ _ _ wr=>RtRel0 ib mb M.heap.size w3 wr) (λ _ _ wr=>wr.rangeLeft mb M.heap.size)
 case atStart=>exact⟨_,_,aC.o,Keeps.refl _ _⟩
 case round=>
  obtain⟨left,aL,hR,hK⟩:=hrel;have HR:=acp hR;have HK:=acp hK;clear hR hK;go_wp2_with (first|(at_next;refine kE aY rfl _ rfl rfl HR.o ?_ ?_))
  ·intro J;clear J;go_wp2_with fail;go_ret;exact⟨rfl,B.o.trans ((G.o.mono B.o.size).trans (HK.o.bS (by omega) λ z m (e:z=M.heap.size)=>by have:=B.o.size;omega))⟩
  ·intro k v I U Wv ak C lN S N aD aB;have aH:k=0/\v=ptr (ib 0):=by
    by_cases hk:k=0
    ·subst hk;rw[EH]at C;exact⟨rfl,(aat C).symm⟩
    ·rw[pV.2 (λ q hq e=>hk (by rw[<-e];simp[mO]at hq;rw[hq]))]at C;cases C
   obtain⟨rfl,rfl⟩:=aH;have A:Keeps (λ b=>b=M.heap.size) w3 I:=HK.o.trans N λ z _ m=>m;have Gt:aK g D I p mb ib nb mO:=(y.o.below G.o acs).keeps A λ z m (e:z=M.heap.size)=>by
    rcases m with m|m
    ·have:=y.o.low z m;omega
    ·have:=y.o.qM z m;omega
   obtain⟨-,-,y2,-,-,y5,-,bq⟩:=(Gt.item 0 _ EG).cell;rw[show(dh 2).links=1 from rfl]at y2;have Od:MapAt aY I w.heap.size [(0,.int .i64 1)]:=(tF.o.kept (G.o.block _ Q)).kept (A.block _ (by omega) (by omega));have bS:∀n,(Instr.lookup 383 (.map (some w.heap.size)) (.int .i64 0) false).run Tryz.prog (I.drewN n)= .ok (.int .i64 1) (I.drewN n):=λ n=>MapAt.WO (F:=aY) (w:=I.drewN n) (t:=383) Tryz.underlying383 (Tryz.gM _) (Od.kept rfl) 0 u;have P:=acp lN;have Gw:=acp S;have qN:=acp A;have e3:aY.val 0= .int .i64 0:=rfl;rw[e3]at aB⊢;clear e3 lN S A Gt Od N aD;go_wp2_with fail
   go_quiet (fail)
   go_wp2_with fail;go_roundw
   case rel=>exact⟨_,U,P.o.kept rfl rfl,Keeps.trans qN.o (fp':=λ b=>b=M.heap.size) ⟨rfl,rfl,rfl,Nat.le_refl _,λ _ _ _=>rfl⟩ λ z _ m=>m⟩
   case measure=>
    have h4:=P.o.kept (w':=I.drewN nq) rfl rfl;rw[h4.measure,HR.o.measure];exact Gw.o
end
theorem Tc:iA mO=bF 1 2++(qO Lm++(qO []++(bF 0 2++[]))):=by kernel_rfl
def gR(p u i m:Nat)(b:Nat):Own:=if b=p then .head else if b=u then .items else if b=i then .item 0 else if b=m then .names 0 else .none
theorem Td{w:World}{p y i m:Nat}(D:w.heap[p]? =some (.cells #[.map (some y)] 192 (0,0)))(E:MapAt aY w y [(0,ptr i)])(C:jJ (λ _=>False) w 0 i m (dh 2))(H:y≠p)(G:i≠p)(K:i≠y)(F:m≠p)(J:m≠y)(I:m≠i):aK (gR p y i m) (λ _=>False) w p y (λ _=>i) (λ _=>m) mO:=by
 have u:∀k x,au k mO=some x->k=0/\x=dh 2:=λ k x h=>by
  unfold mO at h;rw[iG]at h;by_cases B:(0:Int)=k
  ·rw[if_pos B]at h;exact⟨B.symm,by cases h;rfl⟩
  ·rw[if_neg B]at h;cases h
 refine⟨D,E,λ k x A=> ?_,if_pos rfl,by unfold gR;rw[if_neg H,if_pos rfl],λ k x A=> ?_,λ k x A _=> ?_,λ _ h=>h.elim,λ b z=> ?_,λ _ h=>h.elim⟩
 ·obtain⟨rfl,rfl⟩:=u k x A;exact C
 ·obtain⟨rfl,rfl⟩:=u k x A;unfold gR;rw[if_neg G,if_neg K,if_pos rfl]
 ·obtain⟨rfl,rfl⟩:=u k x A;unfold gR;rw[if_neg F,if_neg J,if_neg I,if_pos rfl]
 ·unfold gR at z;split at z
  ·subst_vars;exact(qW.1 D).1
  ·split at z
   ·subst_vars;exact E.lt
   ·split at z
    ·subst_vars;exact C.cell.2.2.2.2.2.2.2
    ·split at z
     ·subst_vars;exact(C.names rfl).lt
     ·exact absurd rfl z
def LdR(w u z:World)(x:Nat)(A y:Value)(wr:World):Prop:=
 (y= .int .i64 0/\A= .int .i64 (-1)/\wr=z)\/(y= .int .i64 1/\∃i m,EC w wr x []/\aK (gR (u.heap.size+1) u.heap.size i m) (λ _=>False) wr (u.heap.size+1) u.heap.size (λ _=>i) (λ _=>m) mO/\u.heap.size<=i/\u.heap.size<=m)
theorem tload0{S:Nat->Prop}(a:Mx)(n c:Nat)(w:World)(hn:n<=1000)(V:ah S w a n ((iA mO).map bv)):
  Dy 251 #[.slice a n c] w λ e w'=>∃p,e= .returned (.tuple #[ptr p,.int .i64 0])/\tQ w p mO w':=by
 rw[Tc]at V;have HN:=acp (yI w w acu a n c _ (by omega) V);have R:= @ab3 Tryz.prog;clear V;go_enter Tryz.func251,Tryz.ntmps251;go_wp2_with fail;refine HN.o.mono ?_;rintro e u ⟨x,rfl,hx,lN,O⟩;have aJ:=lN.at_.lt;have K:=acp lN;have aF:=O.size;clear lN O HN;go_wp2_with fail;obtain⟨H,y⟩:∃H,H=(u.alloc (.map #[] 0)).alloc (.cells #[.map (some u.heap.size)] 192):=⟨_,rfl⟩;rw[<-y];have J:Below u.heap.size u H:=by rw[y];exact(wall u _).trans ((wall _ _).mono (by simp))
 have aN:H.heap.size=u.heap.size+2:=by rw[y];simp
 have M:H.heap[u.heap.size+1]? =some (.cells #[.map (some u.heap.size)] 192 (0,0)):=by
  rw[y];have:=(MapKept.heap_alloc (u.alloc (.map #[] 0)) (.cells #[.map (some u.heap.size)] 192)).1;rw[Pe]at this;exact this
 have I:MapAt aY H u.heap.size []:=by rw[y];exact(MapAt.made (F:=aY) u).kept ((wall _ _).block _ (by simp))
 have HS:=acp (jC (K.o.grow J) 1 rfl (by omega) (by omega));have WQ:=acp M;have tF:=acp I;clear y J M I R K;go_wp2_with fail;refine HS.o.mono ?_;rintro e w3 ⟨rfl,JE,C⟩;have aD:=acp ((C.block _ (by omega) (show ¬u.heap.size+1=x by omega)).trans WQ.o);have zT:=acp (tF.o.kept (C.block _ (by omega) (show ¬u.heap.size=x by omega)));have av:=acp JE;have bD:=C.size;clear JE C HS WQ tF;go_wp2_with fail
 go_loopw [6,7,8,16] (λ lv _ _ iv wr=>LdR w u w3 x lv iv wr) (λ _ _ _ iv _=>1-(intOf iv).toNat)
 case atStart=>exact .inl ⟨rfl,rfl,rfl⟩
 case round=>
  rcases hrel with⟨rfl,rfl,rfl⟩|⟨rfl,i,m,hR,hT,hi,hm⟩
  ·have HI:=acp (tread0 av.o);go_wp2_with fail;refine HI.o.mono ?_;rintro e P ⟨i,m,rfl,Dm,B,G,bq,Z,bf,U,Y⟩;obtain⟨c0,-⟩:=G.cell;have Q:=(B.block (u.heap.size+1) (by omega) (show ¬u.heap.size+1=x by omega)).trans aD.o;have aL:P.cell? ⟨u.heap.size+1,0,none⟩=some (.map (some u.heap.size)):=by simp[World.cell?,Q]
   have sW:=acp (zT.o.kept (B.block u.heap.size (by omega) (show ¬u.heap.size=x by omega)));have X:aY.ok 0:=gG (by omega) (by omega);have ak:=acp Q;have W:=acp G;have D:=acp Dm;have aH:=B.size;clear Q G Dm B HI;go_wp2_with (at_mapUpdate;refine mW aY rfl _ _ _ 190 193 rfl Tryz.underlying190 rfl sW.o (by unfold maxLen;simp) 0 (ptr i) rfl rfl X ?_;intro w5 Kn KY;have CQ:=acp Kn;have Wo:=acp KY;clear Kn KY);go_roundw
   case rel=>
    have bn:=iw Wo.o;have N:∀b,b<P.heap.size->b≠u.heap.size->w5.heap[b]? =P.heap[b]? :=λ b A aC=>eU Wo.o b A aC;refine .inr ⟨by go_num,i,m,?_,Td ((N _ (by omega) (by omega)).trans ak.o) CQ.o (W.o.move (by omega) (N _ Z (by omega)) (λ _=>N _ U (by omega)) λ _ h=>h.elim) (by omega) (by omega) (by omega) (by omega) (by omega) (aa6 Y),by omega,by omega⟩;exact⟨D.o.new,D.o.at_.kept (by omega) (N x (by omega) (by omega)) λ b A aA=>N b aA (by omega),D.o.below.trans ((Keeps.turned Wo.o).bS (by omega) λ z hz (e:z=u.heap.size)=>by omega)⟩
   case measure=>simp[intOf]
  ·have HE:=acp (Ox hR);have pE:=acp (tright0 wr hT);have HT:=acp hT;have HB:=acp hR.below;clear hR hT;go_wp2_with fail;refine HE.o.mono ?_;rintro e _ ⟨rfl,rfl⟩;go_wp2_with fail;refine pE.o.mono ?_;rintro e P ⟨rfl,E⟩;have aB:=acp (HT.o.below E acs);have dI:=acp (HB.o.trans (E.mono HB.o.size));clear E pE HE;go_wp2_with fail
   go_ret2
   refine⟨_,rfl,_,_,_,_,_,aB.o,λ b A=> ?_,λ b A=>A.elim,dI.o⟩;unfold gR at A;split at A
   ·omega
   ·split at A
    ·omega
    ·split at A
     ·omega
     ·split at A
      ·omega
      ·exact absurd rfl A
abbrev Mark:=Nat->Nat
structure Marks(W:World)(o:Mark)(w:World):Prop where
 new:∀b,o b≠0->W.heap.size<=b/\b<w.heap.size
 below:Below W.heap.size W w
structure Step(o:Mark)(I:Nat->Prop)(w:World)(o':Mark)(w':World):Prop where
 old:∀b,b<w.heap.size->o' b=o b
 new:∀b,w.heap.size<=b->o' b≠0->I (o' b)/\b<w'.heap.size
 keep:Keeps (λ b=>I (o b)) w w'
theorem Marks.step{W w w':World}{o A:Mark}{I:Nat->Prop}(h:Marks W o w)(D:¬I 0)(y:Step o I w A w'):Marks W A w':=by
 refine⟨λ b z=> ?_,h.below.trans (y.keep.bS h.below.size λ x E (u:I (o x))=> ?_)⟩
 ·by_cases m:b<w.heap.size
  ·rw[y.old b m]at z;exact⟨(h.new b z).1,Pd m y.keep.size⟩
  ·have B:=(y.new b (by omega) z).2;have:=h.below.size;exact⟨by omega,B⟩
 ·have C:o x≠0:=λ e=>D (by rw[e]at u;exact u);have:=(h.new x C).1;omega
theorem Marks.grow{W w w':World}{o:Mark}(h:Marks W o w)(m:Below w.heap.size w w'):Marks W o w':=
 ⟨λ b u=>⟨(h.new b u).1,Pd (h.new b u).2 m.size⟩,h.below.trans (m.mono h.below.size)⟩
theorem Step.mono{w w':World}{o u:Mark}{I J:Nat->Prop}(h:Step o I w u w')(m:∀i,I i->J i):Step o J w u w':=
 ⟨h.old,λ b y z=>⟨m _ (h.new b y z).1,(h.new b y z).2⟩,h.keep.mono λ x _ A=>m _ A⟩
theorem Step.grow{W w w':World}{o:Mark}{I:Nat->Prop}(h:Marks W o w)(m:Below w.heap.size w w'):Step o I w o w':=
 ⟨λ _ _=>rfl,λ b m z=>by have:=(h.new b z).2;omega,(Keeps.below m).mono λ x u y=>absurd u (by omega)⟩
theorem Step.trans{w z C:World}{o A D:Mark}{I:Nat->Prop}(h:Step o I w A z)(k:Step A I z D C):Step o I w D C:=by
 have F:=h.keep.size;refine⟨λ b u=>(k.old b (by omega)).trans (h.old b u),λ b u y=> ?_,h.keep.trans k.keep λ x E (m:I (A x))=>by rw[h.old x E]at m;exact m⟩;by_cases B:b<z.heap.size
 ·rw[k.old b B]at y⊢;exact⟨(h.new b u y).1,Pd (h.new b u y).2 k.keep.size⟩
 ·exact k.new b (by omega) y
theorem Step.then_{W w m u:World}{o y:Mark}{I:Nat->Prop}(B:Marks W o w)(z:¬I 0)(h:Step o I w y m)(A:Below m.heap.size m u):Step o I w y u:=h.trans (Step.grow (B.step z h) A)
theorem Step.behind{W w m u:World}{o y:Mark}{I:Nat->Prop}(A:Marks W o w)(z:Below w.heap.size w m)(h:Step o I m y u):Step o I w y u:=(Step.grow A z).trans h
theorem Step.block{w w':World}{o m:Mark}{I:Nat->Prop}(h:Step o I w m w'){b:Nat}(u:b<w.heap.size)(y:¬I (o b)):w'.heap[b]? =w.heap[b]? :=h.keep.block b u y
def Free(o:Mark)(w:World)(b:Nat):Prop:=o b=0/\b<w.heap.size
theorem ah.free{o y:Mark}{I:Nat->Prop}{w w':World}{a:Mx}{n:Nat}{vs:List Value}(h:ah (Free o w) w a n vs)(z:¬I 0)(u:Step o I w y w'):ah (Free y w') w' a n vs:=
 h.move u.keep.size λ b m A=>⟨⟨(u.old b m.2).trans m.1,Pd m.2 u.keep.size⟩,u.block m.2 (by rw[m.1];exact z)⟩
theorem ah.oF{W w w':World}{o:Mark}{a:Mx}{n:Nat}{vs:List Value}(y:Marks W o w)(h:ah (λ x=>w.heap.size<=x/\x<w'.heap.size) w' a n vs):ah (Free o w') w' a n vs:=
 h.mono λ b u=>⟨Wy λ m=>by have:=(y.new b m).2;omega,u.2⟩
def dW(o:Mark)(i:Nat)(w:World)(p:Nat)(T:aS):Prop:=
 ∃g D m u nb,aK g D w p m u nb T/\(∀b,g b≠ .none->o b=i)/\(∀b,D b->o b=0)
theorem dW.step{o C:Mark}{I:Nat->Prop}{j:Nat}{w w':World}{p:Nat}{T:aS}(h:dW o j w p T)(G:¬I 0)(u:¬I j)(y:Step o I w C w'):dW C j w' p T:=by
 obtain⟨g,D,E,F,nb,z,B,A⟩:=h;refine⟨g,D,E,F,nb,z.keeps y.keep λ b m=> ?_,λ b m=>(y.old b (z.low b m)).trans (B b m),λ b m=>(y.old b (z.qM b m)).trans (A b m)⟩;rcases m with m|m
 ·rw[B b m];exact u
 ·rw[A b m];exact G
theorem dW.grow{o:Mark}{j:Nat}{w w':World}{p:Nat}{T:aS}(h:dW o j w p T)(y:Below w.heap.size w w'):dW o j w' p T:=by
 obtain⟨g,D,m,u,nb,B,A,z⟩:=h;exact⟨g,D,m,u,nb,B.below y acs,A,z⟩
theorem dW.remark{o u:Mark}{j k:Nat}{w:World}{p:Nat}{T:aS}(h:dW o j w p T)(F:∀b,b<w.heap.size->o b=j->u b=k)(B:∀b,b<w.heap.size->o b=0->u b=0):dW u k w p T:=by
 obtain⟨g,D,z,A,nb,y,E,C⟩:=h;exact⟨g,D,z,A,nb,y,λ b m=>F b (y.low b m) (E b m),λ b m=>B b (y.qM b m) (C b m)⟩
def gN(o:Mark)(i:Nat)(w:World)(p:Nat)(u:aS)(v:Value)(e:Ending)(w':World):Prop:=
 e= .returned v/\∃m,Step o (λ j=>j=i) w m w'/\dW m i w' p u
open Classical in
theorem gN.of{W w w':World}{o:Mark}{i p H:Nat}{I:aS}{v:Value}{e:Ending}{g:Nat->Own}{D:Nat->Prop}(S:Marks W o w)(R:i≠0)(J:∀b,g b≠ .none->o b=i)(P:∀b,D b->o b=0)(N:Turn g D w p H I v e w'):gN o i w p I v e w':=by
 obtain⟨rfl,B,K,Q,E,y,G,A,M⟩:=N;obtain⟨C,z⟩:∃C:Mark,∀b,C b=if b<w.heap.size then o b else if B b≠ .none then i else 0:=⟨_,λ _=>rfl⟩;refine⟨rfl,C,⟨λ b u=>by rw[z,if_pos u],λ b u F=> ?_,M.mono λ x _ O=>J x O⟩,B,K,H,Q,E,y,λ b u=> ?_,λ b u=> ?_⟩
 ·rw[z,if_neg (by omega)]at F⊢;by_cases h:B b≠ .none
  ·rw[if_pos h];exact⟨rfl,y.low b h⟩
  ·rw[if_neg h]at F;exact absurd rfl F
 ·rw[z];by_cases m:b<w.heap.size
  ·rw[if_pos m];rcases G b u with h|h
   ·exact J b h
   ·omega
  ·rw[if_neg m,if_pos u]
 ·rw[z];by_cases m:b<w.heap.size
  ·rw[if_pos m];rcases A b u with h|h
   ·exact P b h
   ·omega
  ·rw[if_neg m,if_neg (by rw[y.data b u];simp)]
section
variable{W w:World}{o:Mark}{i p:Nat}{T:aS}
theorem Q6{S:Nat->Prop}(h:dW o i w p T)(H:Marks W o w)(F:i≠0)(E:fA T)(a:Mx)(n c:Nat)(m:List Nm)(kind:Int)(y:aW S w a n (m.map strOf))(z:n<=c)(u:n<=1000000):
  Dy 57 #[ptr p,.slice a n c,.int .i64 kind] w (gN o i w p (dF T m kind).2 (.tuple #[.int .i64 (dF T m kind).1.1,.int .i64 (dF T m kind).1.2])):=by
 obtain⟨g,D,I,J,nb,C,B,A⟩:=h;exact(make_at a n c m kind w C E y z u).mono λ e w' G=>gN.of H F B A G
theorem Te{S:Nat->Prop}(h:dW o i w p T)(I:Marks W o w)(F:i≠0)(E:fA T)(id:Int)(a:Mx)(l c:Nat)(m:I8)(u:(Lit.int .i64 id).wf=true)(y:ah S w a l (m.map bv))(H:l<=1000000000):
  Dy 130 #[ptr p,.int .i64 id,.slice a l c] w (gN o i w p (dP T id m).2 (.int .i64 (dP T id m).1)):=by
 obtain⟨g,D,J,K,nb,C,B,A⟩:=h;exact(SE id a l c m w C (λ x z=>(E.each id x z).size) u y H).mono λ e w' G=>gN.of I F B A G
end
theorem aK.addD{g:Nat->Own}{D:Nat->Prop}{w w':World}{p C:Nat}{E nb:Int->Nat}{T:aS}(h:aK g D w p C E nb T){k:Int}{x:fI}{i n:Nat}(Y:w.heap.size<=i)(W:w.heap.size<=n)(Q:i≠n)(U:i<w'.heap.size)(O:x.kind=2->n<w'.heap.size)(K:au k T=none)
  (V:MapAt aY w' C (dO qK k (ptr i) (T.map λ q=>(q.1,ptr (E q.1)))))(B:w.heap.size<=w'.heap.size)(z:∀b,b<w.heap.size->b≠C->w'.heap[b]? =w.heap[b]?)(X:jJ D w' k i n x):
  aK (λ b=>if b=i then .item k else if b=n/\x.kind=2 then .names k else g b) D w' p C (λ j=>if j=k then i else E j) (λ j=>if j=k then n else nb j) (dO qK k x T):=by
 have P:∀b,g b≠ .none->b≠i/\b≠n:=λ b z=>by have:=h.low b z;omega
 have A:∀b,g b≠ .none->(if b=i then Own.item k else if b=n/\x.kind=2 then .names k else g b)=g b:=λ b z=>by
  obtain⟨N,I⟩:=P b z;rw[if_neg N,if_neg (λ h=>I h.1)]
 have R:g p≠ .none:=by rw[h.uT];simp
 have J:g C≠ .none:=by rw[h.lI];simp
 refine⟨(z p (h.low p R) (λ e=>by have:=h.uT;rw[e,h.lI]at this;cases this)).trans h.head,?_,?_,(A p R).trans h.uT,(A C J).trans h.lI,?_,?_,?_,?_,λ b z=>Pd (h.qM b z) B⟩
 ·have Z:(dO qK k x T).map (λ q=>(q.1,ptr ((λ j=>if j=k then i else E j) q.1)))=dO qK k (ptr i) (T.map λ q=>(q.1,ptr (E q.1))):=by
   rw[Bd qK (λ j _=>ptr ((λ j=>if j=k then i else E j) j))];simp only[if_pos];congr 1;apply aaF;intro q S;have:q.1≠k:=pV.1 K q S;rw[if_neg this]
  rw[Z];exact V
 ·intro j y m;rw[fO]at m;by_cases u:j=k
  ·subst u;rw[if_pos rfl]at m;cases m;simp only[if_pos];exact X
  ·rw[if_neg u]at m;simp only[if_neg u];have t1:=h.qL j y m;refine(h.item j y m).move B (z _ (h.low _ (by rw[t1];simp)) (λ e=>by rw[e,h.lI]at t1;cases t1)) (λ H=>z _ (h.low _ (by rw[h.oO j y m H];simp)) (λ e=>by have t2:=h.oO j y m H;rw[e,h.lI]at t2;cases t2)) ?_;intro b F M;exact⟨F,z b M (λ e=>by have:=h.data b F;rw[e,h.lI]at this;cases this)⟩
 ·intro j y m;rw[fO]at m;by_cases u:j=k
  ·subst u;simp
  ·rw[if_neg u]at m;have t1:=h.qL j y m;simp only[if_neg u];rw[A _ (by rw[t1];simp)];exact t1
 ·intro j y m H;rw[fO]at m;by_cases u:j=k
  ·subst u;rw[if_pos rfl]at m;cases m;simp only[if_pos];rw[if_neg (aa6 Q),if_pos ⟨trivial,H⟩]
  ·rw[if_neg u]at m;have t1:=h.oO j y m H;simp only[if_neg u];rw[A _ (by rw[t1];simp)];exact t1
 ·intro b F;have:=h.qM b F;rw[if_neg (by omega),if_neg (by omega)];exact h.data b F
 ·intro b G;by_cases N:b=i
  ·omega
  ·by_cases I:b=n/\x.kind=2
   ·have:=O I.2;omega
   ·simp only[if_neg N,if_neg I]at G;exact Pd (h.low b G) B
def rz(left:Int->Bool)(T:aS):aS:=T.filter λ q=> !left q.1
theorem Bz(left:Int->Bool)(T:aS)(k:Int):au k (rz left T)=if left k=true then none else au k T:=by
 unfold rz
 induction T with
 |nil=>simp[au]
 |cons y r ih=>
  rw[abf,iG];by_cases u:left y.1=true
  ·simp only[u,Bool.not_true,Bool.false_eq_true,if_false];rw[ih];by_cases m:y.1=k
   ·subst m;rw[if_pos u,if_pos u]
   ·rw[if_neg m]
  ·simp only[u,Bool.not_false,if_true];rw[iG,ih];by_cases m:y.1=k
   ·subst m;rw[if_pos rfl,if_neg u,if_pos rfl]
   ·rw[if_neg m,if_neg m]
theorem Ac{T:aS}(h:bA qK T)(left:Int->Bool):bA qK (rz left T):=List.Pairwise.filter _ h
theorem Ls{left:Int->Bool}{T:aS}(h:∀q∈T,left q.1=true):rz left T=[]:=by
 unfold rz;rw[List.filter_eq_nil_iff];intro q m;simp[h q m]
theorem Tf{left:Int->Bool}{T:aS}(h:∀k,left k=false):rz left T=T:=by
 unfold rz;rw[abC];intro q _;simp[h q.1]
theorem OC{left:Int->Bool}{T:aS}(u:bA qK T){k:Int}{x:fI}(y:au k T=some x)(h:left k=true):dO qK k x (rz left T)=rz (λ z=>left z&& !decide (z=k)) T:=by
 refine KJ iR ((Ac u left).dO iR k x) (Ac u _) λ j=> ?_;rw[fO,Bz,Bz];by_cases m:j=k
 ·subst m;rw[if_pos rfl,y];simp
 ·rw[if_neg m];simp[m]
def bX(T:aS):aS:=(lT T).foldl (λ S id=>(fJ S id).2) T
theorem sD{w:World}{m g:Nat}{e:TypeId}{k:Nat}(y:w.heap[g]? =some (.cells #[] e))(u:m<=g):w.ownsRow m e k (.slice (some ⟨g,0,none⟩) 0 0) 0 []:=by
 refine⟨by simp,.inr ⟨g,0,#[],rfl,u,y,Nat.le_refl _,Nat.zero_le _,by simp,by simp⟩⟩
theorem ah.kg{w:World}{u:Nat}{e:TypeId}{k:Nat}{a:Mx}{m n c:Nat}{xs:List Value}(h:w.ownsRow u e k (.slice a m c) n xs)(B:n*k<=maxLen):m=n/\n<=c/\ah (λ x=>u<=x/\x<w.heap.size) w a (n*k) xs:=by
 obtain⟨E,z⟩:=h;rcases z with⟨z,rfl⟩|⟨g,D,H,z,C,y,I,J,M,G⟩
 ·simp only[aaH]at z;obtain⟨rfl,rfl,rfl⟩:=z;have:xs=[]:=aac (by omega);subst this;rw[Nat.zero_mul];exact⟨rfl,Nat.le_refl _,ah.nil _ _ _⟩
 ·simp only[aaH]at z;obtain⟨rfl,rfl,rfl⟩:=z;have A:=(qW.1 y).1;refine⟨rfl,I,E,B,λ K=>⟨g,0,rfl,⟨C,A⟩,A,λ i F=> ?_⟩⟩;simp only[World.cell?,y,Nat.zero_add];rw[<-G,aaB,if_pos F];simp
theorem oQ{P:Program}{S:Nat->Prop}{w:World}(D:Nat)(t V e:TypeId)(i:TypeInfo)(z:Value)(k B:Nat)(O:P.underlying t=some (.slice e))(N:P.info? e=some i)(X:i.zero=some z)
  (H:i.size=k)(J:i.bytes=B)(Q:z.cells.size=k)(W:0<k)(v:Value)(n:Nat)(xs:List Value)(C:w.ownsRow D e k v n xs)
  (A:Mx)(m c:Nat)(y:List Value)(I:ah S w A (m*k) y)(h1:∀u∈y,u.oneCell'=true)(R:n+m<=maxLen)(E:(n+m)*B<=140737488355328)(G:D<=w.heap.size):
  ∃A' c' w',(Builtin.append_ #[t,t] V #[v,.slice A m c]).run P w= .ok (.slice A' (n+m) c') w'/\w'.ownsRow D e k (.slice A' (n+m) c') (n+m) (xs++y)/\w.grownBy w' v.ownBlock/\
   ((Value.slice A' (n+m) c').ownBlock=v.ownBlock\/(Value.slice A' (n+m) c').ownBlock=some w.heap.size):=by
 rcases A with _|ad
 ·have Z:m=0:=by
   rcases aaI m with K|K
   ·exact K
   ·obtain⟨_,_,h,_⟩:=I.at_ (Nat.mul_pos K W);cases h
  subst Z;have hn:y=[]:=aac (by rw[I.length];omega);subst hn;obtain⟨A',c',rfl,_⟩:=bg C;refine⟨A',c',w,?_,by simpa using C,⟨rfl,rfl,rfl,Nat.le_refl _,λ _ _ _=>rfl⟩,Or.inl rfl⟩;rcases C.2 with⟨F,rfl⟩|⟨g,Y,ak,F,_,_,M,_⟩
  ·simp only[aaH]at F;obtain⟨rfl,_,rfl⟩:=F;simp[Builtin.append_,abT O,sizeOf,typeInfo,N,Builtin.lenOf,Builtin.firstCells]
  ·simp only[aaH]at F;obtain⟨rfl,_,rfl⟩:=F;simp[Builtin.append_,abT O,sizeOf,typeInfo,N,Builtin.lenOf,Builtin.firstCells,M,storeCells]
 ·obtain⟨v',w',U,F,h3,h4,h5⟩:=run_append_own_at (P:=P) w D t V e i z k B O N X H J Q W v n xs C ad m c y I.length I.cells h1 R E G;obtain⟨A',c',rfl,_⟩:=bg F;exact⟨A',c',w',U,F,h3,h5⟩
theorem jM{P:Program}{S:Nat->Prop}{w:World}{H:Array Oper}{rest:List Oper}{o:Oper}{a:Act}{Q:Exit->Act->World->Prop}(N:o.guard=none)(s x:Operand)(t:TypeId)
  (ho:o.op= .call {callee:= .builtin .append,args:= #[s,x],argTypes:= #[t,t]})
  (C:Nat)(e:TypeId)(i:TypeInfo)(z:Value)(k y:Nat)(W:P.underlying t=some (.slice e))(V:P.info? e=some i)(R:i.zero=some z)
  (F:i.size=k)(I:i.bytes=y)(J:z.cells.size=k)(X:0<k)(v:Value)(n:Nat)(xs:List Value)(Z:a.eval s=v)(G:w.ownsRow C e k v n xs)
  (A:Mx)(m c:Nat)(B:List Value)(Y:a.eval x= .slice A m c)(M:ah S w A (m*k) B)(h1:∀u∈B,u.oneCell'=true)(O:n+m<=maxLen)(D:(n+m)*y<=140737488355328)(E:C<=w.heap.size)
  (h:∀A' c' w',w'.ownsRow C e k (.slice A' (n+m) c') (n+m) (xs++B)->w.grownBy w' v.ownBlock->((Value.slice A' (n+m) c').ownBlock=v.ownBlock\/(Value.slice A' (n+m) c').ownBlock=some w.heap.size)->wpList P H Q rest (a.put o.dst (.slice A' (n+m) c')) w'):
  wpList P H Q (o::rest) a w:=by
 refine abU N λ K U=> ?_;obtain⟨A',c',w',M,h2,h3,h4⟩:=oQ (P:=P) C t o.type e i z k y W V R F I J X v n xs G A m c B M h1 O D E;unfold Oper.wp execOp;simp only[ho,resolve,invoke,builtin,abV,acj,abP,ab1,aau,abn,Z,Y,M];exact U _ _ (h A' c' w' h2 h3 h4)
theorem dZ{P:Program}{S:Nat->Prop}{I:Array Oper}{o:Oper}{a:Act}{w:World}{K:Act->World->Prop}{Q:Exit->Act->World->Prop}{E:Prop}(O:o.guard=none)(s x:Operand)(t:TypeId)
  (ho:o.op= .call {callee:= .builtin .append,args:= #[s,x],argTypes:= #[t,t]})
  (C:Nat)(e:TypeId)(i:TypeInfo)(z:Value)(k y:Nat)(W:P.underlying t=some (.slice e))(V:P.info? e=some i)(U:i.zero=some z)
  (G:i.size=k)(J:i.bytes=y)(M:z.cells.size=k)(Y:0<k)(v:Value)(n:Nat)(xs:List Value)(hs:a.eval s=v)(H:w.ownsRow C e k v n xs)
  (A:Mx)(m c:Nat)(B:List Value)(Z:a.eval x= .slice A m c)(N:ah S w A (m*k) B)(h1:∀u∈B,u.oneCell'=true)(R:n+m<=maxLen)(D:(n+m)*y<=140737488355328)(F:C<=w.heap.size)
  (h:∀A' c' w',w'.ownsRow C e k (.slice A' (n+m) c') (n+m) (xs++B)->w.grownBy w' v.ownBlock->((Value.slice A' (n+m) c').ownBlock=v.ownBlock\/(Value.slice A' (n+m) c').ownBlock=some w.heap.size)->K (a.put o.dst (.slice A' (n+m) c')) w'):
  if Region.wanted o (yielded I a.tmps)=true then Oper.wp P o a w K Q else E:=by
 have X:Region.wanted o (yielded I a.tmps)=true:=by simp[Region.wanted,O]
 rw[if_pos X];obtain⟨A',c',w',N,h2,h3,h4⟩:=oQ (P:=P) C t o.type e i z k y W V U G J M Y v n xs H A m c B N h1 R D F;unfold Oper.wp execOp;simp only[ho,resolve,invoke,builtin,abV,acj,abP,ab1,aau,abn,hs,Z,N];exact h A' c' w' h2 h3 h4
theorem dU{P:Program}{S:Nat->Prop}{w:World}{H:Array Oper}{rest:List Oper}{o:Oper}{a:Act}{Q:Exit->Act->World->Prop}(O:o.guard=none)(s x:Operand)(t:TypeId)
  (ho:o.op= .call {callee:= .builtin .append,args:= #[s,x],argTypes:= #[t,t]})
  (y:Nat)(e:TypeId)(i:TypeInfo)(z:Value)(k B:Nat)(X:P.underlying t=some (.slice e))(W:P.info? e=some i)(U:i.zero=some z)
  (G:i.size=k)(J:i.bytes=B)(M:z.cells.size=k)(Y:0<k)(v:Value)(n:Nat)(xs:List Value)(hs:a.eval s=v)(E:w.ownsRow y e k v n xs)
  (A:Mx)(m c:Nat)(C:List Value)(Z:a.eval x= .slice A m c)(N:ah S w A (m*k) C)(h1:∀u∈C,u.oneCell'=true)(R:n+m<=maxLen)(D:(n+m)*B<=140737488355328)(F:y<=w.heap.size)
  (h:∀A' c' w',w'.ownsRow y e k (.slice A' (n+m) c') (n+m) (xs++C)->Below y w w'->wpList P H Q rest (a.put o.dst (.slice A' (n+m) c')) w'):
  wpList P H Q (o::rest) a w:=by
 refine abU O λ K V=> ?_;obtain⟨A',c',w',N,h2,I,h4⟩:=oQ (P:=P) y t o.type e i z k B X W U G J M Y v n xs E A m c C N h1 R D F;unfold Oper.wp execOp;simp only[ho,resolve,invoke,builtin,abV,acj,abP,ab1,aau,abn,hs,Z,N];exact V _ _ (h A' c' w' h2 ⟨I.os,I.tape,I.output,I.size,λ b hb=>I.block b (by omega) (λ e=>by have:=aZ E b e.symm;omega)⟩)
theorem f_{w w':World}{m:Nat}{e:TypeId}{k:Nat}{v:Value}{n:Nat}{xs:List Value}(h:w.ownsRow m e k v n xs)(B:Below w.heap.size w w'):w'.ownsRow m e k v n xs:=by
 obtain⟨D,y⟩:=h;refine⟨D,?_⟩;rcases y with y|⟨g,z,A,y,C,u,E⟩
 ·exact .inl y
 ·exact .inr ⟨g,z,A,y,C,(B.block g (qW.1 u).1).trans u,E⟩
