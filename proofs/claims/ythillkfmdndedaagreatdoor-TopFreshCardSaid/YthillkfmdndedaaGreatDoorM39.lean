/- log -/
import Derived.Test.YthillkfmdndedaaGreatDoorM38
import Derived.Test.YthillkfmdndedaaGreatDoorM35
set_option maxRecDepth 100000
set_option maxHeartbeats 64000000
set_option linter.all false
namespace Go.Proofs.YthillkfmdndedaaGreatDoor
open Go.ChangeShapes Go.WideShapes Go.ChangeAt Go.RowKit Go.Shelf
attribute [local go_sem] Oper.semAt_some
def nu(n k:Nat):Nat:=1+2*(n/4)+k*8
def fM(n:Nat):Nat:=(n-1-2*(n/4))/8
theorem FH{n k:Nat}(u:64<=n)(m:k<fM n):nu n k+8<=n:=by unfold fM at m;unfold nu;omega
theorem MO(n k:Nat)(u:64<=n)(y:n<=4096)(m:k<fM n)(w:World):Dy 151 #[.agg (aU n),.int .i64 (k:Int)] w λ e w'=>e= .returned (.tuple #[.int .i64 (nu n k:Int),.int .i64 0])/\Below w.heap.size w w':=by
 have h:=PX n u y k (by omega) (by unfold fM at m;omega) w
 rwa [show 1+2*((n:Int)/4)+(k:Int)*8=(nu n k:Int)by unfold nu;omega]at h
theorem jQ(w m:World)(A B:Obj)(h:m=(w.alloc A).alloc B):m.heap.size=w.heap.size+2/\Below w.heap.size w m/\m.heap[w.heap.size]? =some A:=by
 have a0:=World.alloc_heap_new w A;have u:(w.alloc A).heap.size=w.heap.size+1:=Pe _ _;subst h;refine⟨by rw[Pe,u],((Below.refl _ w).alloc acs _).alloc (by omega) _,?_⟩;rw[Below.heap_alloc _ _ _ (by omega)];exact a0
theorem ny(w m:World)(A B C:Obj)(h:m=((w.alloc A).alloc B).alloc C):m.heap.size=w.heap.size+3/\Below w.heap.size w m/\m.heap[w.heap.size]? =some A/\m.heap[w.heap.size+1]? =some B/\m.heap[w.heap.size+2]? =some C:=by
 have a0:=World.alloc_heap_new w A;have u:=World.alloc_heap_new (w.alloc A) B;have y:=World.alloc_heap_new ((w.alloc A).alloc B) C;have D:(w.alloc A).heap.size=w.heap.size+1:=Pe _ _;have z:((w.alloc A).alloc B).heap.size=w.heap.size+2:=by rw[Pe,D]
 rw[D]at u;rw[z]at y;subst h;refine⟨by rw[Pe,z],((((Below.refl _ w).alloc acs _).alloc (by omega) _).alloc (by omega) _),?_,?_,y⟩
 ·rw[Below.heap_alloc _ _ _ (by omega),Below.heap_alloc _ _ _ (by omega)];exact a0
 ·rw[Below.heap_alloc _ _ _ (by omega)];exact u
theorem YD{W w:World}{o:Mark}{i d n:Nat}{S:I8}{cl:Prop}{c:Int}(h:dw o i w d n S cl c)(hM:Marks W o w)(hi:i≠0)(hc:c<=100000000000)(k:Nat)(R:k<fM n)(a:Mx)(P:Nat)(U:I8)(V:U.length=8*128)(hr:ah (λ x=>o x≠i) w a 1024 (U.map bv))(bn:1024<=P):
  Dy 84 #[ptr d,.agg (aU n),.int .i64 (k:Int),.slice a 1024 P] w (lZ o i w d n (splice S (nu n k*128) U) True (c+(8:Nat)) (.tuple #[])):=by
 have C:=h.len;have av:=FH C.2.1 R;have mR:=acp (λ w'=>MO n k C.2.1 C.2.2 R w');obtain⟨first,ak⟩:∃first,first=nu n k:=⟨_,rfl⟩
 rw[<-ak]at av mR⊢;clear ak R;obtain⟨F0,sb,Q,l0,M0,hD,hF,h1,h2,h3,h4⟩:=h.at_;have hD:=hD.slim;obtain⟨N,J⟩:∃N:Nat->Prop,N=λ x=>F0 x/\(x=Q\/∃c t m,w.heap[x]? =some (.cells c t m)):=⟨_,rfl⟩;rw[<-J]at hD;have aB:∀x,N x->o x=i:=λ x u=>by rw[J]at u;exact hF x u.1
 have aH:∀x,N x->x=Q\/∃c t m,w.heap[x]? =some (.cells c t m):=λ x u=>by rw[J]at u;exact u.2
 clear J;obtain⟨b,A,rfl,-,dV,-⟩:=hr.at_ (by omega);have HD:=acp hD;have HR:=acp hr;clear h hr hF hD;unfold aU at mR⊢;refine(abB (n:=6)).1 ?_;refine callsIn_of_wp_marks Tryz.func84 rfl trivial ?_ rfl;simp only[Tryz.ntmps84,abR,List.length_cons,List.length_nil,Nat.reduceAdd,Nat.reduceSub,Array.replicate_succ,Array.replicate_zero,List.push_toArray,List.append_toArray,List.nil_append,ab2]
 gi_wp2
 obtain⟨wA,YE⟩:∃wA,wA=((w.alloc (.cells #[ptr d] 23)).alloc (.cells #[.int .i64 (n:Int),.int .i64 ((n:Int)/4),.int .i64 (((n:Int)-1-2*((n:Int)/4))/8)] 58)):=⟨_,rfl⟩;rw[<-YE];obtain⟨dG,Dv,kA⟩:=jQ _ _ _ _ YE;have ZW:=acp YE;clear YE;refine⟨trivial,?_⟩;refine(abB.2 (mR.o _)).mono ?_;rintro e B ⟨rfl,Ky⟩;have d9:=Ky.size;have Z:=Dv.trans (Ky.mono (by omega));have kB:=(Ky.block w.heap.size (by omega)).trans kA
 gi_wp2
 refine⟨trivial,?_⟩;refine(abB.2 (IW _ _ _ _)).mono ?_;rintro e w' ⟨rfl,rfl⟩
 gi_wp2
 obtain⟨G,I⟩:∃G,G=(((B.alloc (.cells #[.int .i64 (first:Int)] 3)).alloc (.cells #[.slice (some ⟨b,A,none⟩) 1024 P] 30)).alloc (.cells #[.int .i64 128] 3)):=⟨_,rfl⟩;rw[<-I];obtain⟨dN,F,k1,k2,k3⟩:=ny _ _ _ _ _ I;have dI:=acp I;clear I;have k0:G.heap[w.heap.size]? =some (.cells #[ptr d] 23):=(F.block _ (by omega)).trans kB;have F:=Z.trans (F.mono (by omega));have k2:G.cell? ⟨B.heap.size+1,0,none⟩=some (.slice (some ⟨b,A,none⟩) 1024 P):=by simp[World.cell?,k2]
 have k3:G.cell? ⟨B.heap.size+2,0,none⟩=some (.int .i64 128):=by simp[World.cell?,k3]
 have z:∀x,N x->x<w.heap.size:=λ x u=>HD.o.low x u;have dn:dB N G d sb Q l0 M0:=HD.o.below F acs;have aC:∀x,N x->x=Q\/∃c t m,G.heap[x]? =some (.cells c t m):=λ x u=>by rw[F.block x (z x u)];exact aH x u
 have aF:Q<w.heap.size:=z Q HD.o.own.2.2;have aD:=acp F
 refine wpIn_rangeFunc_ownG (α:=Fin 8) rfl (by omega) (gf:=159) (lb:= #[.pointer (some ⟨B.heap.size+1,0,none⟩),.pointer (some ⟨B.heap.size+2,0,none⟩)]) rfl trivial (enters_of Tryz.func159 (by kernel_rfl) rfl)
  (C8 Fence.wide (6-1) trivial rfl (by omega) (B.heap.size+1) (B.heap.size+2) b A P 8 (by omega) bn G (by omega) (by omega) k2 k3) (λ h k=>h.trans k) (λ W l o o' hl _ _ _=>Z8.put (s:=G.heap.size) (by omega) (by omega) W l o o' hl) acu (λ _=>rfl)
  (λ M W=>wT N G d sb Q B.heap.size n first S U c M W) (λ _ _ _=>False) (wT.own (by omega) (by omega)) (λ _ _ _ _ _ hs _ _=>hs.elim) (wT.start dn aC h1 h2 h4 k1 (by rw[C.1];omega))
  (λ x=>{tmps:= #[ptr d,.agg #[.int .i64 (n:Int),.int .i64 ((n:Int)/4),.int .i64 (((n:Int)-1-2*((n:Int)/4))/8)],.int .i64 k,.slice (some ⟨b,A,none⟩) 1024 P,.pointer (some ⟨w.heap.size,0,none⟩),.pointer (some ⟨w.heap.size+1,0,none⟩),undef,undef,.pointer (some ⟨B.heap.size,0,none⟩),.int .i64 0,.slice (some ⟨b,A+x.val*128,none⟩) 128 128,.tuple #[.int .i64 first,.int .i64 0],.agg #[.int .i64 (n:Int),.int .i64 ((n:Int)/4),.int .i64 (((n:Int)-1-2*((n:Int)/4))/8)],.int .i64 k,.tuple #[.int .i64 first,.int .i64 0],.int .i64 first,.int .i64 0,.slice (some ⟨b,A,none⟩) 1024 P,.func (.func 159) #[] #[.pointer (some ⟨B.heap.size+1,0,none⟩),.pointer (some ⟨B.heap.size+2,0,none⟩)],.slice (some ⟨b,A+x.val*128,none⟩) 128 128,undef,undef,undef,undef,undef,undef,undef,undef],defers:=[]}) ?assign ?body ?done ?stop
 case assign=>
  intro l x W K hK;dsimp only[Fz]
  gi_wp2
  exact hK
 case body=>
  intro l M x W H bf;have cB:∀y,y<G.heap.size->w.heap.size<=y->y≠B.heap.size->W.heap[y]? =G.heap[y]? :=λ y hy dK bS=>H.keep.block y hy λ u=>by
   rcases u with u|u
   ·have:=z y u;omega
   ·exact bS u
  have c0:W.cell? ⟨w.heap.size,0,none⟩=some (ptr d):=by simp[World.cell?,cB w.heap.size (by omega) (by omega) (by omega),k0]
  have O:ah (λ _=>True) W (some ⟨b,A+x.val*128,none⟩) 128 ((rowsOf U x.val).map bv):=by
   have h9:ah (λ x=>o x≠i) W (some ⟨b,A,none⟩) 1024 (U.map bv):=HR.o.kept (by have:=H.keep.size;omega) λ y hy bT=>(H.keep.block y (by omega) λ u=>by
    rcases u with u|u
    ·exact hy (aB y u)
    ·omega).trans (aD.o.block y bT)
   have h8:=(h9.drop (x.val*128)).take 128;have u:=x.isLt;rw[aa3 (by omega),<-aaU,<-aaJ]at h8;exact h8.mono λ _ _=>trivial
  have hw:=H.write x bf av V C.1 (by omega) (by omega) (by omega) (λ h9=>by have:=z _ h9;omega) (some ⟨b,A+x.val*128,none⟩) 128 O;have E:=H.box;obtain⟨q,hq⟩:∃q,q=first+M.length:=⟨_,rfl⟩
  rw[<-hq]at hw E;have e1:wrap64 ((q:Int)+1)=((q+1:Nat):Int):=by unfold wrap64;omega
  have c1:W.cell? ⟨B.heap.size,0,none⟩=some (.int .i64 (q:Int)):=by simp[World.cell?,E]
  have HW:=acp hw;have HI:=acp H;have nR:=acp E;have dM:1<=6-1-1:=by omega
  clear hw H hq O E
  gi_wp2
  refine⟨trivial,?_⟩;refine(CallsIn.inRound l (abB.2 HW.o)).mono ?_;rintro e X ⟨rfl,E,aJ,MN,Y⟩;have c2:X.cell? ⟨B.heap.size,0,none⟩=some (.int .i64 (q:Int)):=(World.cell?_of_block E).trans c1;have f2:X.frozen? ⟨B.heap.size,0,none⟩=false:=by simp[World.frozen?,E,nR.o]
  have aN:=acp Y;clear Y
  gi_wp2
  have aA:∀y,w.heap.size<=y->¬N y:=λ y hy u=>by have:=z y u;omega
  refine⟨aJ.trans ((KeepsOthers.setCell _ _ _).from _),⟨?_,?_⟩,aN.o⟩
  ·exact World.cell?_of_block (a:=⟨B.heap.size+1,0,none⟩) ((aI X ⟨B.heap.size,0,none⟩ _ _ (by simp)).trans (MN _ (by dsimp only;omega) (aA _ (by dsimp only;omega))))
  ·exact World.cell?_of_block (a:=⟨B.heap.size+2,0,none⟩) ((aI X ⟨B.heap.size,0,none⟩ _ _ (by simp)).trans (MN _ (by dsimp only;omega) (aA _ (by dsimp only;omega))))
 case done=>
  rintro D xs W aL rfl H hK;have c0:W.cell? ⟨w.heap.size,0,none⟩=some (ptr d):=by
   have h9:=H.keep.block w.heap.size (by omega) λ u=>by
    rcases u with u|u
    ·have:=z _ u;omega
    ·omega
   simp[World.cell?,h9,k0]
  have uK:=acp (H.flush hM hi aB aD.o z (by omega) aL hK aF rfl V)
  gi_wp2
  refine⟨trivial,?_⟩;refine(abB.2 uK.o).mono ?_;rintro e X ⟨rfl,bD,bq⟩
  gi_wp2
  refine⟨by simp,.inl ⟨_,_,rfl,run_takeDeferred bD,?_⟩⟩;exact⟨_,results_none rfl _ _ _,bq _⟩
 case stop=>
  rintro D c M W _ _ h _;exact h.elim
open Go.ChangeShapes Go.WideShapes Go.ChangeAt Go.RowKit
structure jq where
 sealed:Nat
 head:List UInt8
 next:Int
 wait:List RecM
def Ce(n d:Nat)(L:jq)(m:Mx)(u:Nat)(v:Value):Array Value:= #[ptr d,.int .i64 (n:Int),.int .i64 ((n:Int)/4),.int .i64 (((n:Int)-1-2*((n:Int)/4))/8),.int .i64 (L.sealed:Int),.slice m 32 u,.int .u64 L.next,v]
structure gK(o:Mark)(i:Nat)(w:World)(p n d:Nat)(L:jq):Prop where
 at_:∃ha hc v vals,w.heap[p]? =some (.cells (Ce n d L ha hc v) 146 (0,0))/\ah (Free o w) w ha 32 (L.head.map bv)/\32<=hc/\w.ownsRow 0 71 3 v L.wait.length vals/\(∀b,v.ownBlock=some b->o b=i/\b≠p/\b<w.heap.size)/\iU (Free o w) w vals L.wait
 own:o p=i
section
variable{W w w':World}{o o':Mark}{i p n d:Nat}{L:jq}
theorem gK.lt(h:gK o i w p n d L):p<w.heap.size:=by
 obtain⟨y,z,v,m,u,_⟩:=h.at_;exact(qW.1 u).1
theorem gK.step{I:Nat->Prop}(h:gK o i w p n d L)(B:¬I 0)(C:¬I i)(m:Step o I w o' w'):gK o' i w' p n d L:=by
 have u:=h.lt;obtain⟨F,H,v,y,K,J,N,G,D,M⟩:=h.at_;refine⟨⟨F,H,v,y,(m.block u (by rw[h.own];exact C)).trans K,J.free B m,N,bK G λ b z A=>m.block A (by rw[(D b z).1];exact C),λ b z=> ?_,M.imp λ _ _ _ E=>E.free B m⟩,(m.old p u).trans h.own⟩;obtain⟨k1,k2,k3⟩:=D b z;exact⟨(m.old b k3).trans k1,k2,Pd k3 m.keep.size⟩
theorem gK.grow(h:gK o i w p n d L)(u:Marks W o w)(m:Below w.heap.size w w'):gK o i w' p n d L:=h.step (I:=λ _=>False) (λ h=>h) (λ h=>h) (Step.grow u m)
theorem gK.YF(h:gK o i w p n d L):L.head.length=32:=by
 obtain⟨y,z,v,m,A,u,_⟩:=h.at_;simpa using u.length
theorem gK.cells(h:gK o i w p n d L):∃m y v,32<=y/\ah (Free o w) w m 32 (L.head.map bv)/\∀u,Below w.heap.size w u->u.cell? ⟨p,0,none⟩=some (ptr d)/\u.cell? ⟨p,1,none⟩=some (.int .i64 (n:Int))/\u.cell? ⟨p,2,none⟩=some (.int .i64 ((n:Int)/4))/\u.cell? ⟨p,3,none⟩=some (.int .i64 (((n:Int)-1-2*((n:Int)/4))/8))/\u.cell? ⟨p,4,none⟩=some (.int .i64 (L.sealed:Int))/\u.cell? ⟨p,5,none⟩=some (.slice m 32 y)/\u.cell? ⟨p,6,none⟩=some (.int .u64 L.next)/\u.cell? ⟨p,7,none⟩=some v/\(∃a c,v= .slice a L.wait.length c/\L.wait.length<=c):=by
 have A:=h.lt;obtain⟨m,y,v,B,F,D,H,C,_⟩:=h.at_;obtain⟨a,c,e,z⟩:=bg C;refine⟨m,y,v,H,D,λ u E=> ?_⟩;have G:=(E.block p A).trans F;refine⟨?_,?_,?_,?_,?_,?_,?_,?_,a,c,e,z⟩<;>simp[World.cell?,G,Ce]
theorem FI(h:gK o i w p n d L)(G:0<=L.next/\L.next<=1099511627776)(D:L.wait.length<=1000):Dy 25 #[ptr p] w λ e w'=>e= .returned (.int .u64 (L.next+(L.wait.length:Int)))/\Below w.heap.size w w':=by
 obtain⟨I,J,v,-,-,m⟩:=h.cells;obtain⟨-,-,-,-,-,-,-,-,a,c,rfl,-⟩:=m w acu;obtain⟨N,C⟩:∃N,N=L.wait.length:=⟨_,rfl⟩;obtain⟨X,z⟩:∃X,X=L.next:=⟨_,rfl⟩;rw[<-C,<-z]at m⊢;rw[<-C]at D;rw[<-z]at G;have B:∀u:World,Below w.heap.size w u->u.cell? ⟨p,6,none⟩=some (.int .u64 X):=λ u A=>(m u A).2.2.2.2.2.2.1;have F:∀u:World,Below w.heap.size w u->u.cell? ⟨p,7,none⟩=some (.slice a N c):=λ u A=>(m u A).2.2.2.2.2.2.2.1;have K:IntKind.u64.wrap (N:Int)=(N:Int):=by simp[IntKind.wrap,IntKind.bits,IntKind.signed];omega
 have E:IntKind.u64.wrap (X+(N:Int))=X+(N:Int):=by simp[IntKind.wrap,IntKind.bits,IntKind.signed];omega
 clear h m C z;go_enter Tryz.func25,Tryz.ntmps25;go_wp2_with fail;refine su ((λ w'=>Below w.heap.size w w')) ?_ λ y=> ?_
 ·exact acu.drew
 refine aM 0 y ?_;refine aM 1 y ?_;refine aM 2 y ?_;refine aM 3 y ?_;refine aM 4 y ?_;refine aM 5 y ?_;refine aM 6 y ?_;refine aM 7 y ?_;refine aM 8 y ?_;refine aM 9 y ?_;refine aM 10 y ?_;refine aM 11 y ?_;refine rH ?_;have H:=acp y;clear y B F;go_wp2_with fail;go_ret;exact⟨rfl,H.o⟩
theorem YG(h:gK o i w p n d L)(O:64<=n/\n<=4096)(E:L.sealed<=fM n):Dy 82 #[ptr p] w λ e w'=>e= .returned (.int .i64 ((fM n-L.sealed:Nat):Int))/\Below w.heap.size w w':=by
 obtain⟨I,J,v,-,-,m⟩:=h.cells;obtain⟨N,G⟩:∃N,N=L.sealed:=⟨_,rfl⟩;rw[<-G]at m E⊢;have z:((n:Int)-1-2*((n:Int)/4))/8=(fM n:Int):=by unfold fM;omega
 have D:fM n<=4096:=by unfold fM;omega
 rw[z]at m;obtain⟨K,F⟩:∃K,K=fM n:=⟨_,rfl⟩;rw[<-F]at m E D⊢;have A:∀u:World,Below w.heap.size w u->u.cell? ⟨p,3,none⟩=some (.int .i64 (K:Int)):=λ u B=>(m u B).2.2.2.1;have C:∀u:World,Below w.heap.size w u->u.cell? ⟨p,4,none⟩=some (.int .i64 (N:Int)):=λ u B=>(m u B).2.2.2.2.1;have M:IntKind.i64.wrap ((K:Int)-(N:Int))=((K-N:Nat):Int):=by rw[aaf _ (by omega)];omega
 clear h m G F z;go_enter Tryz.func82,Tryz.ntmps82;go_wp2_with fail;refine su ((λ w'=>Below w.heap.size w w')) ?_ λ y=> ?_
 ·exact acu.drew
 refine aM 0 y ?_;refine aM 1 y ?_;refine aM 2 y ?_;refine aM 3 y ?_;refine aM 4 y ?_;refine aM 5 y ?_;refine aM 6 y ?_;refine aM 7 y ?_;refine aM 8 y ?_;refine aM 9 y ?_;refine aM 10 y ?_;refine rH ?_;have H:=acp y;clear y A C;go_wp2_with fail;go_ret;exact⟨rfl,H.o⟩
theorem FK(h:gK o i w p n d L):Dy 88 #[ptr p] w λ e w'=>e= .returned (.int .i64 (L.sealed:Int))/\w=w':=by
 obtain⟨y,z,v,-,-,m⟩:=h.cells;obtain⟨-,-,-,-,u,-⟩:=m w acu;clear h m;go_enter Tryz.func88,Tryz.ntmps88;go_wp2_with fail;go_ret;exact⟨rfl,rfl⟩
theorem UN(h:gK o i w p n d L):Dy 87 #[ptr p] w λ e w'=>e= .returned (.int .i64 (L.wait.length:Int))/\w=w':=by
 obtain⟨u,y,v,-,-,m⟩:=h.cells;obtain⟨-,-,-,-,-,-,-,z,a,c,rfl,-⟩:=m w acu;clear h m;go_enter Tryz.func87,Tryz.ntmps87;go_wp2_with fail;go_ret;exact⟨rfl,rfl⟩
theorem Qg(h:gK o i w p n d L):Dy 30 #[ptr p] w λ e w'=>∃a c,e= .returned (.slice a 32 c)/\32<=c/\ah (λ b=>w.heap.size<=b/\b<w'.heap.size) w' a 32 (L.head.map bv)/\Below w.heap.size w w':=by
 obtain⟨E,F,v,-,C,m⟩:=h.cells;obtain⟨-,-,-,-,-,M,-⟩:=m w acu;have D:=acp (gP E 32 F L.head w (by omega) C);have I:=h.YF;clear h m C;go_enter Tryz.func30,Tryz.ntmps30;go_wp2_with fail;refine D.o.mono ?_;rintro e K ⟨J,H,G,rfl,A,u,y⟩;obtain rfl:H=32:=by have:=u.length;rw[List.length_map,I]at this;exact this.symm
 have z:=acp u;have B:=acp y;clear u y D;go_wp2_with fail;go_ret;exact⟨J,G,rfl,A,z.o,B.o⟩
theorem l_did(h:gK o i w p n d L)(hM:Marks W o w)(hi:i≠0)(x:Rz)(hx:UD x)(hs:L.sealed<=10000)(pa ra:Mx)(pc rc:Nat)(hp:ah (λ b=>o b≠i) w pa 32 (x.prev.map bv))(K:ah (λ b=>o b≠i) w ra 32 (x.root.map bv)):
  Dy 86 #[ptr p,.agg (CZ x pa pc ra rc)] w λ e w'=>e= .returned (.tuple #[])/\Step o (λ k=>k=i) w o w'/\gK o i w' p n d ⟨L.sealed+1,jh (uP x),x.first+x.count,L.wait⟩:=by
 have bn:=h.lt;have E:=h.own;obtain⟨ha,hc,v,aA,h1,h2,h3,h4,Z,h6⟩:=h.at_;obtain⟨N,hN⟩:∃N,N=L.sealed:=⟨_,rfl⟩;have e1:IntKind.i64.wrap ((N:Int)+1)=(N:Int)+1:=by rw[aaf _ (by omega)]
 have g1:=hx.first;have g2:=hx.count;have e2:IntKind.u64.wrap x.count=x.count:=by simp[IntKind.wrap,IntKind.bits,IntKind.signed];omega
 have e3:IntKind.u64.wrap (x.first+x.count)=x.first+x.count:=by simp[IntKind.wrap,IntKind.bits,IntKind.signed];omega
 obtain⟨D,YE⟩:∃D,D=w.setCell ⟨p,4,none⟩ (.int .i64 ((N:Int)+1)):=⟨_,rfl⟩;have I:Keeps (λ b=>b=p) w D:=by rw[YE];exact Keeps.jy w ⟨p,4,none⟩ _
 have aF:D.heap.size=w.heap.size:=by rw[YE,size_set]
 have av:D.heap[p]? =some (.cells (Ce n d ⟨L.sealed+1,L.head,L.next,L.wait⟩ ha hc v) 146 (0,0)):=by
  rw[YE,aG h1,hN];rfl
 obtain⟨R,J⟩:∃R,R=D.alloc (.cells (CZ x pa pc ra rc) 150):=⟨_,rfl⟩;have F:Below D.heap.size D R:=by rw[J];exact wall D _
 have Q:R.heap[w.heap.size]? =some (.cells (CZ x pa pc ra rc) 150 (0,0)):=by rw[J,<-aF];exact(MapKept.heap_alloc D _).1
 have bf:w.heap.size<R.heap.size:=(qW.1 Q).1;have aC:=(F.block p (by omega)).trans av;have q4:w.cell? ⟨p,4,none⟩=some (.int .i64 (N:Int)):=by simp[World.cell?,h1,Ce,hN]
 have f4:w.frozen? ⟨p,4,none⟩=false:=by simp[World.frozen?,h1]
 have P:∀{a:Mx} {bs:I8},ah (λ b=>o b≠i) w a 32 (bs.map bv)->ah (λ b=>o b≠i) R a 32 (bs.map bv):=λ K=>(K.kept I.size λ b m u=>I.block b u λ(e:b=p)=>m (by rw[e];exact E)).below F acs;have U:=acp (P5 x hx pa ra pc rc R (P hp) (P K));have X:=acp J;have ZW:=acp YE;have H:=acp I;have B:=acp F;have WQ:=acp aC;have Tx:=acp Q;have bS:=acp h2;have HV:=acp (And.intro h4 (And.intro Z h6));have HM:=acp hM;have bT:=BZ hx;unfold CZ at U X⊢;rw[YE]at X;have HN:=acp hN;clear h hx hp K h1 h2 h4 Z h6 YE J Q aC av I F hM P hN;go_enter Tryz.func86,Tryz.ntmps86;go_wp2_with fail;rw[<-X.o];refine U.o.mono ?_;rintro e O ⟨a3,n3,c3,rfl,aD,V,G⟩;obtain rfl:n3=32:=by have:=V.length;rw[List.length_map,eu]at this;exact this.symm
 have y:=(G.block p (by omega)).trans WQ.o;have ak:=(G.block _ bf).trans Tx.o;have q5:O.cell? ⟨p,5,none⟩=some (.slice ha 32 hc):=by simp[World.cell?,y,Ce]
 have f5:O.frozen? ⟨p,5,none⟩=false:=by simp[World.frozen?,y]
 have q6:O.cell? ⟨p,6,none⟩=some (.int .u64 L.next):=by simp[World.cell?,y,Ce]
 have f6:O.frozen? ⟨p,6,none⟩=false:=by simp[World.frozen?,y]
 obtain⟨c0,c1,c2,bD,c4,c5⟩:=Fx ak;have aN:=acp y;have aL:=acp V;have A:=acp G;clear V G y ak U;go_wp2_with fail
 go_end0
 obtain⟨Y,M⟩:∃Y,Y=(O.setCell ⟨p,5,none⟩ (.slice a3 32 c3)).setCell ⟨p,6,none⟩ (.int .u64 (x.first+x.count)):=⟨_,rfl⟩;rw[<-M];have z:Keeps (λ b=>b=p) O Y:=by rw[M];exact Keeps.set2 O p 5 6 _ _
 have aH:Y.heap[p]? =some (.cells (Ce n d ⟨L.sealed+1,jh (uP x),x.first+x.count,L.wait⟩ a3 c3 v) 146 (0,0)):=by
  rw[M,aG (aG aN.o)];rfl
 have cB:=A.o.size;have bq:=B.o.size;have aJ:=z.size;have C:∀b,b<w.heap.size->b≠p->Y.heap[b]? =w.heap[b]? :=λ b m aB=>(z.block b (by omega) aB).trans ((A.o.block b (by omega)).trans ((B.o.block b (by omega)).trans (H.o.block b m aB)));have S:∀{a:Mx} {n:Nat} {vs:List Value},ah (Free o w) w a n vs->ah (Free o Y) Y a n vs:=λ K=>K.move (by omega) λ b m u=>⟨⟨m.1,by omega⟩,C b u λ e=>by rw[e]at m;exact hi (E.symm.trans m.1)⟩;obtain⟨h4,Z,h6⟩:=HV.o;refine⟨rfl,⟨λ _ _=>rfl,λ b m hn=>by have:=(HM.o.new b hn).2;omega,⟨z.os.trans (A.o.os.trans (B.o.os.trans H.o.os)),z.tape.trans (A.o.tape.trans (B.o.tape.trans H.o.tape)),z.output.trans (A.o.output.trans (B.o.output.trans H.o.output)),by omega,λ b m hn=>C b m λ e=>hn (by rw[e];exact E)⟩⟩,⟨⟨a3,c3,v,aA,aH,?_,aD,bK h4 λ b m u=>C b u (Z b m).2.1,λ b m=>⟨(Z b m).1,(Z b m).2.1,by have:=(Z b m).2.2;omega⟩,h6.imp λ _ _ _ K=>S K⟩,E⟩⟩;refine(aL.o.move aJ λ b m u=>⟨⟨Wy λ h9=>by have:=(HM.o.new b h9).2;omega,by omega⟩,z.block b u λ(e:b=p)=>by omega⟩)
end
def secs(b:I8)(first k:Nat):List UInt8:=(b.drop (first*128)).take (k*128)
theorem IZ(b:I8)(first k:Nat):secs b first (k+1)=secs b first k++rowsOf b (first+k):=by
 unfold secs rowsOf;rw[show(k+1)*128=k*128+128 by omega,List.take_add,aaV,show(first+k)*128=first*128+k*128 by omega]
theorem FL{o:Mark}{i d n:Nat}{b:I8}{cl:Prop}{c:Int}{w:World}(h:dw o i w d n b cl c)(k:Nat)(V:k<fM n):
  Dy 110 #[ptr d,.agg (aU n),.int .i64 (k:Int)] w λ e w'=>∃a c,e= .returned (.slice a 1024 c)/\1024<=c/\ah (λ x=>w.heap.size<=x/\x<w'.heap.size) w' a 1024 ((secs b (nu n k) 8).map bv)/\Below w.heap.size w w':=by
 have D:=h.len;have R:=FH D.2.1 V;have W:=acp (λ w'=>MO n k D.2.1 D.2.2 V w');obtain⟨first,H⟩:∃first,first=nu n k:=⟨_,rfl⟩
 rw[<-H]at R W⊢;have GK:=acp (λ(j:Nat) (hj:j<n) (u:World) (C:Below w.heap.size w u)=>J3 (h.grow C) j hj);obtain⟨M,B⟩:∃M,M=w.alloc (.cells (aU n) 58):=⟨_,rfl⟩;have K:acr (Below w.heap.size w M):=by rw[B];exact wall w _
 have F:=acp B;have HL:=acp D.1;obtain⟨i0,hi,O,Y,X⟩:=aaq Tryz.vL;have aD:=D.2.2;unfold aU at W F⊢;clear h H B D V;go_enter Tryz.func110,Tryz.ntmps110;go_wp2_with fail;rw[<-F.o];refine(W.o M).mono ?_;rintro e w2 ⟨rfl,G⟩;have P:=acp (K.o.trans (G.mono K.o.size));clear G;go_wp2_with fail
 go_loopw [9,10] (λ v U wr=>∃j:Nat,j<=8/\U= .int .i64 j/\wr.ownsRow w.heap.size 5 1 v (j*128) ((secs b first j).map bv)/\Below w.heap.size w wr) (λ _ U _=>8-(intOf U).toNat)
 case atStart=>exact⟨0,by omega,rfl,⟨by simp[secs],.inl ⟨rfl,rfl⟩⟩,P.o⟩
 case round=>
  obtain⟨j,hj,rfl,z,C⟩:=hrel;have Q:=acp C;have HO:=acp z;obtain⟨av,cv,rfl,N⟩:=bg z;have aA:=C.size;clear z;by_cases aB:j<8
  ·have hd:decide ((j:Int)<8)=true:=aak (by omega);obtain⟨m,Z⟩:∃m,m=first+j:=⟨_,rfl⟩
   have DR:=acp Z;have e1:IntKind.i64.wrap ((first:Int)+(j:Int))=(m:Int):=by rw[aaf _ (by omega)];omega
   have HC:=acp (GK.o m (by omega) _ C);have aC:(rowsOf b m).length=128:=kR HL.o (by omega);clear C Z;go_wp2_with fail;refine HC.o.mono ?_;rintro e w3 ⟨a3,c3,rfl,ak,J,A⟩;have S:=acp J;have LV:=acp (f_ HO.o A);have E:=acp (Q.o.trans (A.mono Q.o.size));have aF:=A.size;clear J A HC;go_wp2_with (at_builtin;refine bU (by rfl) _ _ 30 (by rfl) w.heap.size 5 i0 (.int .u8 0) 1 Tryz.underlying30 hi O Y X rfl _ _ _ (by rfl) LV.o a3 128 c3 ((rowsOf b m).map bv) (by rfl) S.o (jA _) (by unfold maxLen;omega) (by omega) (by omega) ?_;intro A' c' w4 kN I _ _;have Xw:=acp kN;have Z0:=acp I;clear kN I);go_roundw
   case rel=>
    refine⟨j+1,by omega,by go_num,?_,E.o.trans ((Keeps.grown Z0.o).bS E.o.size λ y hy e=>by have:=aZ LV.o y e;omega)⟩;rw[IZ,<-DR.o,aas,show(j+1)*128=j*128+128 by omega];exact Xw.o
   case measure=>simp[intOf];omega
  ·have hd:decide ((j:Int)<8)=false:=aad (by omega);obtain rfl:j=8:=by omega
   clear C;go_wp2_with fail;go_ret;exact⟨av,cv,rfl,N,(ah.mU HO.o).2,Q.o⟩
theorem Av{B B' n k:Nat}{e:TypeId}{v:Value}{m:List Value}{w:World}(h:w.ownsRow B e k v n m)(C:B'<=B):w.ownsRow B' e k v n m:=
 ⟨h.1,h.2.imp id λ⟨g,u,y,A,D,z⟩=>⟨g,u,y,A,by omega,z⟩⟩
theorem FM{B n:Nat}{v:Value}{m:List Value}{w:World}(E:w.ownsRow B 71 3 v n m)(G:∀u∈m,u.oneCell'=true)(Y:n<=1000):
  Dy 81 #[v] w λ e w'=>∃N,e= .returned N/\w'.ownsRow w.heap.size 71 3 N n m/\Below w.heap.size w w':=by
 obtain⟨X,Q,H,J,I⟩:=aaq Tryz.DW;obtain⟨a,c,rfl,M⟩:=bg E;obtain⟨-,-,D⟩:=ah.kg E (by unfold maxLen;omega);have O:=λ w=>Lib.run_eql_slice_nil (P:=Tryz.prog) w 143 71 a n c 0 0 Tryz.underlying143;rcases a with _|R
 ·have A:n=0:=by
   rcases aaI n with A|A
   ·exact A
   ·obtain⟨_,_,h,_⟩:=D.at_ (Nat.mul_pos A (by omega:0<3));cases h
  subst A;obtain rfl:m=[]:=aac (by have:=D.length;omega);clear E D G;go_enter Tryz.func81,Tryz.ntmps81;go_wp2_with fail;go_ret;exact⟨_,rfl,⟨rfl,.inl ⟨rfl,rfl⟩⟩,Below.refl _ _⟩
 ·have z:Below w.heap.size w (w.alloc (.cells #[] 71)):=wall w _;have W:=acp (D.move z.size λ b K V=>⟨K.2,z.block b K.2⟩);have S:=acp (sD (k:=3) (MapKept.heap_alloc w (.cells #[] 71)).1 acs);have U:=acp G;have C:=acp z;clear E D G z;go_enter Tryz.func81,Tryz.ntmps81;go_wp2_with (at_builtin;refine dU (by rfl) _ _ 143 (by rfl) w.heap.size 71 X _ 3 40 Tryz.underlying143 Q H J I rfl (by omega) _ _ _ (by rfl) S.o (some R) n c m (by rfl) W.o U.o (by unfold maxLen;omega) (by omega) (by have:=C.o.size;omega) ?_;intro A' c' Z y F);go_ret;rw[Nat.zero_add]at y;exact⟨_,by simp,y,C.o.trans F⟩
open Classical in
theorem J4{W w w1 wA wB N K F:World}{o:Mark}{i p n d m:Nat}{L:jq}{ha:Mx}{hc:Nat}{Z:Mx}{cv:Nat}{y:List Value}{x:RecM}{aB M:Mx}{cB H:Nat}(hi:i≠0)(U:o p=i)(hM:Marks W o w)(hm:m=L.wait.length)(k2:ah (Free o w) w ha 32 (L.head.map bv))(k3:32<=hc)(k4:w.ownsRow 0 71 3 (.slice Z m cv) m y)(Y:∀b,(Value.slice Z m cv).ownBlock=some b->o b=i/\b≠p/\b<w.heap.size)(k6:iU (Free o w) w y L.wait)
  (D:Below w.heap.size w w1)(X:Keeps (λ b=>b=w.heap.size) w1 N)(aF:N.heap.size=wB.heap.size)(ak:K.heap[p]? =some (.cells (Ce n d L ha hc (.slice Z m cv)) 146 (0,0)))(S:Keeps (λ b=>(Value.slice Z m cv).ownBlock=some b) N K)(aD:N.heap.size+1<=K.heap.size)
  (G:K.ownsRow 0 71 3 (.slice M (m+1) H) (m+1) (y++[.int .i64 x.kind,.int .u64 x.seq,.slice aB x.body.length cB]))(P:(Value.slice M (m+1) H).ownBlock=(Value.slice Z m cv).ownBlock\/(Value.slice M (m+1) H).ownBlock=some (N.heap.size+1))(YH:ah (λ b=>wA.heap.size<=b/\b<wB.heap.size) N aB x.body.length (x.body.map bv))(aA:x.body.length<=cB)(aC:w.heap.size<wA.heap.size)(hp:p<w.heap.size)(R:F=K.setCell ⟨p,7,none⟩ (.slice M (m+1) H)):∃I,Step o (λ k=>k=i) w I F/\gK I i F p n d ⟨L.sealed,L.head,L.next,L.wait++[x]⟩:=by
 have s1:=D.size;have s2:=X.size;have s3:F.heap.size=K.heap.size:=by rw[R,size_set]
 have B:∀b,b≠p->F.heap[b]? =K.heap[b]? :=λ b u=>by rw[R];exact aI K ⟨p,7,none⟩ _ b u
 have hk:∀b,b<w.heap.size->o b≠i->F.heap[b]? =w.heap[b]? :=λ b u Q=>(B b λ e=>Q (by rw[e];exact U)).trans ((S.block b (by omega) λ e=>Q (Y b e).1).trans ((X.block b (by omega) λ(e:b=_)=>by omega).trans (D.block b u)));have J:∀b,w.heap.size<=b->o b=0:=λ b u=>Wy λ O=>by have:=(hM.new b O).2;omega
 obtain⟨I,ho⟩:∃I:Mark,∀b,I b=if w.heap.size<=b/\(Value.slice M (m+1) H).ownBlock=some b then i else o b:=⟨_,λ _=>rfl⟩;have z:∀b,b<w.heap.size->I b=o b:=λ b u=>by rw[ho,if_neg λ h=>by omega]
 have C:∀{a:Mx} {n:Nat} {vs:List Value},ah (Free o w) w a n vs->ah (Free I F) F a n vs:=λ hr=>hr.move (by omega) λ b u E=>⟨⟨(z b E).trans u.1,by omega⟩,hk b E λ e=>hi (e.symm.trans u.1)⟩;have V:=iK G;refine⟨I,⟨z,λ b u Q=> ?_,⟨?_,?_,?_,by omega,hk⟩⟩,⟨⟨ha,hc,.slice M (m+1) H,_,?_,C k2,k3,?_,λ b u=> ?_,(k6.imp λ _ _ _ hr=>C hr).append ⟨_,[],rfl,⟨aB,cB,rfl,aA,?_⟩,rfl⟩⟩,(z p hp).trans U⟩⟩
 ·rw[ho]at Q⊢;by_cases O:w.heap.size<=b/\(Value.slice M (m+1) H).ownBlock=some b
  ·rw[if_pos O];exact⟨rfl,by have:=V b O.2;omega⟩
  ·rw[if_neg O]at Q;exact absurd (J b u) Q
 ·rw[R];exact S.os.trans (X.os.trans D.os)
 ·rw[R];exact S.tape.trans (X.tape.trans D.tape)
 ·rw[R];exact S.output.trans (X.output.trans D.output)
 ·rw[R,aG ak];rfl
 ·have O:F.ownsRow 0 71 3 (.slice M (m+1) H) (m+1) (y++[.int .i64 x.kind,.int .u64 x.seq,.slice aB x.body.length cB]):=bK G λ b u E=>B b λ e=>by
   rcases P with A|A
   ·rw[A]at u;exact(Y b u).2.1 e
   ·rw[A]at u;have:=aat u;omega
  rw[show(L.wait++[x]).length=m+1 by rw[List.length_append,aaM,hm]];exact O
 ·rcases P with A|A
  ·have h7:=Y b (by rw[<-A];exact u);exact⟨(z b h7.2.2).trans h7.1,h7.2.1,by omega⟩
  ·have h7:b=N.heap.size+1:=by rw[A]at u;exact(aat u).symm
   exact⟨by rw[ho,if_pos ⟨by omega,u⟩],by omega,by have:=V b u;omega⟩
 ·refine YH.move (by omega) λ b u E=>⟨⟨?_,by omega⟩,(B b (by omega)).trans (S.block b E λ e=>by have:=(Y b e).2.2;omega)⟩;rw[ho,if_neg λ h=> ?_]
  ·exact J b (by omega)
  ·rcases P with A|A
   ·rw[A]at h;have:=(Y b h.2).2.2;omega
   ·rw[A]at h;have:=aat h.2;omega
section
variable{W w:World}{o:Mark}{i p n d:Nat}{L:jq}
theorem YI{S:Nat->Prop}(h:gK o i w p n d L)(hM:Marks W o w)(hi:i≠0)(hn:64<=n/\n<=4096)(hs:L.sealed<fM n)(iM:0<=L.next/\L.next<=1099511627776)(tH:L.wait.length<=90)(dK:∀x∈L.wait,wP x)(x:RecM)(hx:wP x)(I:x.seq=L.next+(L.wait.length:Int))(aC:iC (L.wait++[x])<=942)(a:Mx)(c:Nat)(hr:ah S w a x.body.length (x.body.map bv))(hc:x.body.length<=c):
  Dy 24 #[ptr p,.agg (vw x a c)] w λ e w'=>e= .returned (.int .i64 0)/\∃o',Step o (λ k=>k=i) w o' w'/\gK o' i w' p n d ⟨L.sealed,L.head,L.next,L.wait++[x]⟩:=by
 have jv:=h.lt;have jG:=h.own;have mo:=hx.body;obtain⟨m,hm⟩:∃m,m=L.wait.length:=⟨_,rfl⟩;rw[<-hm]at I tH;obtain⟨A,Y⟩:∃A,A=w.alloc (.cells (vw x a c) 71):=⟨_,rfl⟩;have J:Below w.heap.size w A:=by rw[Y];exact wall w _
 have ak:A.heap[w.heap.size]? =some (.cells (vw x a c) 71 (0,0)):=by rw[Y];exact(MapKept.heap_alloc w _).1
 have iE:w.heap.size<A.heap.size:=(qW.1 ak).1;have yO:acr (∀u,Below A.heap.size A u->gK o i u p n d L):=acp λ u C=>h.grow hM (J.trans (C.mono J.size));have hq:∀u:World,Below A.heap.size A u->u.cell? ⟨w.heap.size,0,none⟩=some (.int .i64 x.kind)/\u.cell? ⟨w.heap.size,1,none⟩=some (.int .u64 x.seq)/\u.cell? ⟨w.heap.size,2,none⟩=some (.slice a x.body.length c):=λ u C=>wQ ((C.block _ iE).trans ak);have lN:∀u:World,Below A.heap.size A u->u.cell? ⟨w.heap.size,0,none⟩=some (.int .i64 x.kind):=λ u C=>(hq u C).1;have kg:∀u:World,Below A.heap.size A u->u.cell? ⟨w.heap.size,1,none⟩=some (.int .u64 x.seq):=λ u C=>(hq u C).2.1;have fK:∀u:World,Below A.heap.size A u->u.cell? ⟨w.heap.size,2,none⟩=some (.slice a x.body.length c):=λ u C=>(hq u C).2.2;have HQ:=acp hq;have pE:=acp (λ w'=>kQ x hx a c w');have DT:acr (∀u,Below A.heap.size A u->Dy 25 #[ptr p] u λ e u'=>e= .returned (.int .u64 x.seq)/\Below u.heap.size u u'):=acp λ u C=>by
  rw[I,hm];exact FI (yO.o u C) iM (by omega)
 obtain⟨M1,dN⟩:∃M1,M1=m+1:=⟨_,rfl⟩;obtain⟨R,hR⟩:∃R,R=fM n-L.sealed:=⟨_,rfl⟩;have l8:((R:Int)==0)=false:=by simp;omega
 have dM:decide ((m:Int)<(M1:Int))=true:=aak (by omega);have l9:decide (m<M1)=true:=aak (by omega);have Fj:acr (∀u,Below A.heap.size A u->Dy 82 #[ptr p] u λ e u'=>e= .returned (.int .i64 (R:Int))/\Below u.heap.size u u'):=acp λ u C=>by
  rw[hR];exact YG (yO.o u C) hn (by omega)
 obtain⟨i0,gL,bq,aA,bS⟩:=aaq Tryz.DW;have HI:=acp (And.intro gL (And.intro bq (And.intro aA bS)));have jL:=acp dN;obtain⟨ha,iT,v,E,k1,k2,k3,k4,k5,k6⟩:=h.at_;obtain⟨Z,V,rfl,iO⟩:=bg k4;rw[<-hm]at k1 k4 k5 iO;have aH:=(J.block p jv).trans k1;have FJ:∀u:World,Below A.heap.size A u->u.cell? ⟨p,7,none⟩=some (.slice Z m V):=λ u C=>by
  have h9:=(C.block p (by omega)).trans aH;simp[World.cell?,h9,Ce]
 have ko:=acp aH;have HK:=acp (And.intro k2 (And.intro k3 (And.intro k4 (And.intro k5 k6))));have wm:acr (∀u,Below A.heap.size A u->Dy 81 #[.slice Z m V] u λ e u'=>∃v',e= .returned v'/\u'.ownsRow u.heap.size 71 3 v' m E/\Below u.heap.size u u'):=acp λ u C=>FM (f_ (f_ k4 J) (by exact C)) k6.one (by omega);have dn:=acp Y;have H:=acp J;have qP:=acp ak;have HH:=acp h;have HM:=acp hM;have DR:=acp hm;have h_:=acp dK;have lC:=acp hx;have kN:=acp I;have iN:=acp aC;have dV:=acp (fB hr);unfold vw at pE dn⊢;clear h hM dK hx hr Y ak hm I J aC hq dN hR gL bq aA bS k1 k2 k4 k5 k6 aH;go_enter Tryz.func24,Tryz.ntmps24;go_wp2_with fail;rw[<-dn.o];refine su ((λ w'=>Below A.heap.size A w')) ?_ λ z=> ?_
 ·exact acu.drew
 refine aM 0 z ?_;refine lJ 1 λ K B=> ?_;go_simp;refine(pE.o _).mono ?_;rintro e w2 ⟨rfl,dI⟩;have d9:=acp (z.trans (dI.mono z.size));clear dI;go_wp2_with fail;refine kV B (d9.o) λ z=> ?_;clear B K;refine aM 2 z ?_;refine aM 3 z ?_;refine aM 4 z ?_;refine aM 5 z ?_;refine aM 6 z ?_;refine lJ 7 λ K B=> ?_;go_simp;refine(DT.o _ z).mono ?_;rintro e w3 ⟨rfl,bf⟩;have X:=acp (z.trans (bf.mono z.size));clear bf;go_wp2_with fail;refine kV B (X.o) λ z=> ?_;clear B K;refine aM 8 z ?_;refine aM 9 z ?_;refine rH ?_;clear z d9;go_wp2_with fail;have gM:acr (∀u,Below A.heap.size A u->iU (λ _=>True) u (E++[.int .i64 x.kind,.int .u64 x.seq,.slice a x.body.length c]) (L.wait++[x])):=acp λ u C=>by
  obtain⟨_,_,_,_,k6⟩:=HK.o;have G:=H.o.trans (C.mono H.o.size);exact(k6.imp λ _ _ _ hr=>(hr.below G acs).mono λ _ _=>trivial).append ⟨_,[],rfl,⟨a,c,rfl,hc,(dV.o.below G acs).mono λ _ _=>trivial⟩,rfl⟩
 have TU:acr (∀u A8 c8,Below A.heap.size A u->u.ownsRow A.heap.size 71 3 (.slice A8 (m+1) c8) (m+1) (E++[.int .i64 x.kind,.int .u64 x.seq,.slice a x.body.length c])->Dy 80 #[.slice A8 (m+1) c8] u λ e u'=>e= .returned (.int .i64 (M1:Int))/\Below u.heap.size u u'):=acp λ u A8 c8 C ho=>by
  obtain⟨-,-,h3⟩:=ah.kg ho (by unfold maxLen;omega);have h4:=Fq (Q:=λ _=>True) (L.wait++[x]) (λ y hy=>by
   rcases aaA.1 hy with hy|hy
   ·exact h_.o y hy
   ·rw[List.mem_singleton]at hy;rw[hy];exact lC.o) A8 (m+1) c8 u ⟨_,h3.mono λ _ _=>trivial,gM.o u C⟩ (by omega)
  have e9:BX 942 (L.wait++[x])=M1:=by rw[Aq 942 _ iN.o,List.length_append,aaM,<-DR.o,<-jL.o]
  rw[e9]at h4;exact h4
 refine vJ 15 ((λ w'=>Below A.heap.size A w')) ?_ λ z=> ?_
 ·exact X.o.drew
 refine aO 0 z ?_;refine aO 1 z ?_;refine aO 2 z ?_;refine aO 3 z ?_;refine aO 5 z ?_;refine aO 9 z ?_;refine aO 10 z ?_;refine aO 11 z ?_;refine aO 12 z ?_;refine aO 13 z ?_;refine nK 4 6 (λ K B=> ?wa) λ K B=> ?wb
 case' wa=>
  go_simp;refine(wm.o _ z).mono ?_;rintro e w4 ⟨v4,rfl,nG,M⟩;obtain⟨a4,c4,rfl,jm⟩:=bg nG;have F:=z.trans (M.mono z.size);have Im:Below A.heap.size A (w4.alloc (.cells #[.int .i64 x.kind,.int .u64 x.seq,.slice a x.body.length c] 71)):=F.alloc F.size _;have JI:=acp (f_ (Av (B':=A.heap.size) nG z.size) (wall w4 (.cells #[.int .i64 x.kind,.int .u64 x.seq,.slice a x.body.length c] 71)));have I4:acr (ah (λ _=>True) (w4.alloc (.cells #[.int .i64 x.kind,.int .u64 x.seq,.slice a x.body.length c] 71)) (some ⟨w4.heap.size,0,none⟩) (1*3) [.int .i64 x.kind,.int .u64 x.seq,.slice a x.body.length c]):=acp ((jr (w:=w4) [.int .i64 x.kind,.int .u64 x.seq,.slice a x.body.length c] 71 (by simp[maxLen])).mono λ _ _=>trivial);clear nG M;go_wp2_with fail;refine b_ B (F) λ z=> ?_;clear B K;refine cu 6 λ K B=> ?_;go_simp;refine b_ B (Im) λ z=> ?_;clear B K;obtain⟨w5,oC⟩:∃w5,w5=w4.alloc (.cells #[.int .i64 x.kind,.int .u64 x.seq,.slice a x.body.length c] 71):=⟨_,rfl⟩;rw[<-oC]at Im JI I4 z⊢;obtain⟨gl,N⟩:∃gl,gl=w4.heap.size:=⟨_,rfl⟩;rw[<-N]at I4⊢;clear oC N F
 case' wb=>
  go_simp;have F:Below A.heap.size A (w3.alloc (.cells #[.int .i64 x.kind,.int .u64 x.seq,.slice a x.body.length c] 71)).drew:=(X.o.alloc X.o.size _).drew;have aF:ah (λ _=>True) (w3.alloc (.cells #[.int .i64 x.kind,.int .u64 x.seq,.slice a x.body.length c] 71)).drew (some ⟨w3.heap.size,0,none⟩) (1*3) [.int .i64 x.kind,.int .u64 x.seq,.slice a x.body.length c]:=((jr (w:=w3) [.int .i64 x.kind,.int .u64 x.seq,.slice a x.body.length c] 71 (by simp[maxLen])).below acu.drew acs).mono λ _ _=>trivial;refine b_ B (F) λ z=> ?_;clear B K;obtain⟨u4,bn⟩:∃u4,u4=(w3.alloc (.cells #[.int .i64 x.kind,.int .u64 x.seq,.slice a x.body.length c] 71)).drew:=⟨_,rfl⟩;rw[<-bn]at F aF z⊢;clear bn;refine cu 4 λ K B=> ?_;go_simp;refine(wm.o _ z).mono ?_;rintro e w5 ⟨v4,rfl,nG,M⟩;obtain⟨a4,c4,rfl,jm⟩:=bg nG;have Im:Below A.heap.size A w5:=z.trans (M.mono z.size);have JI:=acp (Av (B':=A.heap.size) nG z.size);have I4:=acp (aF.below M acs);clear nG M aF;go_wp2_with fail;refine b_ B (Im) λ z=> ?_;clear B K;obtain⟨gl,N⟩:∃gl,gl=w3.heap.size:=⟨_,rfl⟩;rw[<-N]at I4⊢;clear N F
 all_goals
  refine cu 7 λ K B=> ?_;refine dZ (by rfl) (.tmp 20) (.tmp 22) 143 (by rfl) A.heap.size 71 i0 _ 3 40 Tryz.underlying143 HI.o.1 HI.o.2.1 HI.o.2.2.1 HI.o.2.2.2 rfl (by omega) (.slice a4 m c4) m E (by rfl) JI.o (some ⟨gl,0,none⟩) 1 1 [.int .i64 x.kind,.int .u64 x.seq,.slice a x.body.length c] (by rfl) I4.o (by simp[Value.oneCell']) (by unfold maxLen;omega) (by omega) Im.size ?_;intro A8 c8 w8 CU NC TI;have Dp:Below A.heap.size A w8:=Im.trans ((Keeps.grown NC).bS Im.size λ y hy e=>by have:=aZ JI.o y e;omega);have ZQ:=acp CU;clear CU NC TI JI I4;refine b_ B (Dp) λ z=> ?_;clear B K;refine cu 8 λ K B=> ?_;go_simp;refine(TU.o _ _ _ z ZQ.o).mono ?_;rintro e w9 ⟨rfl,dG⟩;have DZ:Below A.heap.size A w9:=z.trans (dG.mono z.size);clear dG;go_wp2_with fail;refine b_ B (DZ) λ z=> ?_;clear B K;refine aO 14 z ?_;refine cu 15 λ K B=> ?_;go_simp;refine o_ B ?_;clear z B K;have pK:=acp DZ;clear ZQ Dp Im DZ;have Rv:=acp (Fj.o w9 pK.o);go_wp2_with fail;refine Rv.o.mono ?_;rintro e wA ⟨rfl,Dv⟩;have sU:=acp (pK.o.trans (Dv.mono pK.o.size));clear Dv;have c2:=fK wA sU.o;go_wp2_with fail;have iD:=acp (gP a x.body.length c x.body wA (by omega) (dV.o.below (H.o.trans (sU.o.mono H.o.size)) acs));refine iD.o.mono ?_;rintro e wB ⟨aB,nB,cB,rfl,lI,YH,Ky⟩;obtain rfl:nB=x.body.length:=by have:=YH.length;rw[List.length_map]at this;exact this.symm
  have jo:=acp YH;have O:=acp (sU.o.trans (Ky.mono sU.o.size));have Z6:=(O.o.block _ iE).trans qP.o;have q2:wB.cell? ⟨w.heap.size,2,none⟩=some (.slice a x.body.length c):=by simp[World.cell?,Z6,vw]
  have f2:wB.frozen? ⟨w.heap.size,2,none⟩=false:=by simp[World.frozen?,Z6]
  clear YH Ky iD c2;go_wp2_with fail;obtain⟨D,YJ⟩:∃D,D=wB.setCell ⟨w.heap.size,2,none⟩ (.slice aB x.body.length cB):=⟨_,rfl⟩;have AV:Keeps (λ b=>b=w.heap.size) wB D:=by rw[YJ];exact Keeps.jy wB ⟨w.heap.size,2,none⟩ _
  have aD:D.heap[w.heap.size]? =some (.cells (vw x aB cB) 71 (0,0)):=by
   rw[YJ,aG Z6];rfl
  have ig:D.heap.size=wB.heap.size:=by rw[YJ,size_set]
  rw[<-YJ];have U:D.heap[p]? =some (.cells (Ce n d L ha iT (.slice Z m V)) 146 (0,0)):=(AV.block p (by have:=O.o.size;omega) (λ(e:p=_)=>by omega)).trans ((O.o.block p (by omega)).trans ko.o);have aJ:p<D.heap.size:=(qW.1 U).1;have aL:w.heap.size<D.heap.size:=(qW.1 aD).1;have NA:acr (∀w':World,w'.heap[p]? =D.heap[p]? ->w'.heap[w.heap.size]? =D.heap[w.heap.size]? ->w'.cell? ⟨p,7,none⟩=some (.slice Z m V)/\w'.frozen? ⟨p,7,none⟩=false/\w'.cell? ⟨w.heap.size,0,none⟩=some (.int .i64 x.kind)/\w'.cell? ⟨w.heap.size,1,none⟩=some (.int .u64 x.seq)/\w'.cell? ⟨w.heap.size,2,none⟩=some (.slice aB x.body.length cB)):=acp λ w' h1 h2=>by
   rw[U]at h1;rw[aD]at h2;refine⟨?_,?_,?_,?_,?_⟩<;>simp[World.cell?,World.frozen?,h1,h2,Ce,vw]
  have l6:=sU.o.size;have bT:acr (ah (λ b=>wA.heap.size<=b/\b<wB.heap.size) D aB x.body.length (x.body.map bv)):=acp (jo.o.kept AV.size λ b C G=>AV.block b G λ(e:b=_)=>by omega);have aN:Keeps (λ b=>b=w.heap.size) A D:=(Keeps.trans (fp:=λ b=>b=w.heap.size) (fp':=λ b=>b=w.heap.size) ⟨O.o.os,O.o.tape,O.o.output,O.o.size,λ b C _=>O.o.block b C⟩ AV λ _ _ h=>h);have LG:=acp aN;have fT:=acp U;have jc:=acp ig;have l5:=O.o.size;have l7:=H.o.size;have bD:acr (D.ownsRow 0 71 3 (.slice Z m V) m E):=acp (by
   obtain⟨_,_,k4,k5,_⟩:=HK.o;exact bK k4 λ b C G=>(aN.block b (by omega) (λ e=>by omega)).trans (H.o.block b G))
  have Kq:acr (∀b,(Value.slice Z m V).ownBlock=some b->o b=i/\b≠p/\b<w.heap.size):=acp HK.o.2.2.2.1;clear YJ AV aD U Z6 q2 f2 aN lN kg fK FJ ig;refine vJ 10 ((λ w'=>w'.cell? ⟨p,7,none⟩=some (.slice Z m V)/\w'.frozen? ⟨p,7,none⟩=false/\w'.cell? ⟨w.heap.size,0,none⟩=some (.int .i64 x.kind)/\w'.cell? ⟨w.heap.size,1,none⟩=some (.int .u64 x.seq)/\w'.cell? ⟨w.heap.size,2,none⟩=some (.slice aB x.body.length cB))) ?_ λ z=> ?_
  ·exact NA.o _ rfl rfl
  refine aO 0 z ?_;refine aO 1 z ?_;refine aO 2 z ?_;refine aO 3 z ?_;refine aO 4 z ?_;refine aO 5 z ?_;refine cu 6 λ K B=> ?_;go_simp;have P:Below D.heap.size D (D.drew.alloc (.cells #[.int .i64 x.kind,.int .u64 x.seq,.slice aB x.body.length cB] 71)):=acu.drew.alloc acs _;refine b_ B (NA.o _ (P.block p aJ) (P.block _ aL)) λ z=> ?_;clear B K;refine cu 7 λ K B=> ?_;refine dZ (by rfl) (.tmp 55) (.tmp 57) 143 (by rfl) 0 71 i0 _ 3 40 Tryz.underlying143 HI.o.1 HI.o.2.1 HI.o.2.2.1 HI.o.2.2.2 rfl (by omega) (.slice Z m V) m E (by rfl) (bK bD.o λ b C G=>P.block b G) (some ⟨D.heap.size,0,none⟩) 1 1 [.int .i64 x.kind,.int .u64 x.seq,.slice aB x.body.length cB] (by rfl) (jr (w:=D.drew) [.int .i64 x.kind,.int .u64 x.seq,.slice aB x.body.length cB] 71 (by simp[maxLen])) (by simp[Value.oneCell']) (by unfold maxLen;omega) (by omega) (Nat.zero_le _) ?_;intro AD cD wD MP YK YL;have gy:wD.heap[p]? =D.heap[p]? :=(YK.block p (Pd aJ P.size) (λ e=>(Kq.o p e.symm).2.1 rfl)).trans (P.block p aJ);have jy:wD.heap[w.heap.size]? =D.heap[w.heap.size]? :=(YK.block _ (Pd aL P.size) (λ e=>by have:=(Kq.o _ e.symm).2.2;omega)).trans (P.block _ aL);have lX:=acp MP;have kW:=acp YL;have jw:=acp (gy.trans fT.o);have jl:acr (Keeps (λ b=>(Value.slice Z m V).ownBlock=some b) D wD):=acp ((gI P).trans (Keeps.grown YK) λ x _ hx=>hx);have mq:D.heap.size+1<=wD.heap.size:=by have:=YK.size;simp at this;omega
  clear MP YL YK P;refine b_ B (NA.o _ gy jy) λ z=> ?_;clear B K;refine aO 8 z ?_;refine aO 9 z ?_;refine cu 10 λ K B=> ?_;go_simp;refine o_ B ?_;clear z B K;go_wp2_with fail;go_ret;refine⟨rfl,?_⟩;obtain⟨wE,Fw⟩:∃wE,wE=wD.setCell ⟨p,7,none⟩ (.slice AD (m+1) cD):=⟨_,rfl⟩;rw[<-Fw];have VB:=kN.o;exact J4 hi jG HM.o DR.o HK.o.1 HK.o.2.1 HK.o.2.2.1 HK.o.2.2.2.1 HK.o.2.2.2.2 H.o LG.o jc.o jw.o jl.o (by omega) lX.o (kW.o.imp id λ e=>e.trans (aaK some (Pe D _))) bT.o lI (by have:=sU.o.size;omega) (by omega) Fw
end
section
variable{W w w':World}{o o':Mark}{i j p n d:Nat}{L:jq}
theorem gK.clear(h:gK o i w p n d L)(J:Marks W o w)(G:i≠0):gK o i (w.setCell ⟨p,7,none⟩ (.slice none 0 0)) p n d ⟨L.sealed,L.head,L.next,[]⟩/\Step o (λ k=>k=i) w o (w.setCell ⟨p,7,none⟩ (.slice none 0 0)):=by
 have u:=h.own;obtain⟨A,C,v,z,F,D,I,K,N,M⟩:=h.at_;have y:∀b,b≠p->(w.setCell ⟨p,7,none⟩ (.slice none 0 0)).heap[b]? =w.heap[b]? :=λ b m=>aI w ⟨p,7,none⟩ _ b m;have B:(w.setCell ⟨p,7,none⟩ (.slice none 0 0)).heap.size=w.heap.size:=size_set _ _ _;refine⟨⟨⟨A,C,.slice none 0 0,[],?_,D.move (by omega) λ b m E=>⟨⟨m.1,by omega⟩,y b λ e=>G (by rw[<-u,<-e];exact m.1)⟩,I,⟨rfl,.inl ⟨rfl,rfl⟩⟩,λ b m=>(by cases m),rfl⟩,u⟩,⟨λ _ _=>rfl,λ b m H=>by have:=(J.new b H).2;omega,(Keeps.jy w ⟨p,7,none⟩ _).mono λ b _ (e:b=p)=>by rw[e];exact u⟩⟩;rw[aG F];rfl
theorem gK.cell7(h:gK o i w p n d L):∃v,w.cell? ⟨p,7,none⟩=some v/\w.frozen? ⟨p,7,none⟩=false:=by
 obtain⟨y,z,v,m,u,_⟩:=h.at_;exact⟨v,by simp[World.cell?,u,Ce],by simp[World.frozen?,u]⟩
def J5(o:Mark)(i j:Nat)(w:World)(p d n:Nat)(b:I8)(c:Int)(L:jq)(v:Value)(e:Ending)(w':World):Prop:=
 e= .returned v/\∃o',Step o (λ k=>k=i\/k=j) w o' w'/\dw o' j w' d n b True c/\gK o' i w' p n d L
theorem YM{b:I8}{cl:Prop}{c:Int}(h:gK o i w p n d L)(hD:dw o j w d n b cl c)(hM:Marks W o w)(hi:i≠0)(Y:j≠0)(P:i≠j)(hs:L.sealed<fM n)(F:MC L.sealed L.next L.head L.wait)(hc:c<=1000000000):
  Dy 28 #[ptr p] w (J5 o i j w p d n (splice b (nu n L.sealed*128) (P6 L.sealed L.next L.head L.wait)) (c+8) ⟨L.sealed+1,jh (uP (rP L.sealed L.next L.head L.wait)),L.next+(L.wait.length:Int),[]⟩ (.int .i64 0)):=by
 have cB:=h.lt;have ig:=h.own;have gM:=hD.len;have iE:fM n<=512:=by unfold fM;omega
 obtain⟨ha,H,v,aA,k1,k2,k3,k4,k5,k6⟩:=h.at_;obtain⟨av,cv,rfl,gy⟩:=bg k4;obtain⟨-,-,k7⟩:=ah.kg k4 (by have:=F.few;unfold maxLen;omega);obtain⟨m,hm⟩:∃m,m=L.wait.length:=⟨_,rfl⟩;have iD:0<m:=by
  rcases aaI m with h0|h0
  ·exact absurd (aac (by omega)) F.more
  ·exact h0
 rw[<-hm]at k1 k7;have d0:((m:Int)==0)=false:=by simp;omega
 have G:∀u:World,Below w.heap.size w u->u.heap[p]? =some (.cells (Ce n d L ha H (.slice av m cv)) 146 (0,0)):=λ u A=>(A.block p cB).trans k1;have bn:∀u:World,Below w.heap.size w u->u.cell? ⟨p,0,none⟩=some (ptr d):=λ u A=>by simp[World.cell?,G u A,Ce]
 have aH:∀u:World,Below w.heap.size w u->u.cell? ⟨p,1,none⟩=some (.int .i64 (n:Int)):=λ u A=>by simp[World.cell?,G u A,Ce]
 have bf:∀u:World,Below w.heap.size w u->u.cell? ⟨p,2,none⟩=some (.int .i64 ((n:Int)/4)):=λ u A=>by simp[World.cell?,G u A,Ce]
 have bq:∀u:World,Below w.heap.size w u->u.cell? ⟨p,3,none⟩=some (.int .i64 (((n:Int)-1-2*((n:Int)/4))/8)):=λ u A=>by simp[World.cell?,G u A,Ce]
 have aC:∀u:World,Below w.heap.size w u->u.cell? ⟨p,4,none⟩=some (.int .i64 (L.sealed:Int)):=λ u A=>by simp[World.cell?,G u A,Ce]
 have JD:∀u:World,Below w.heap.size w u->u.cell? ⟨p,5,none⟩=some (.slice ha 32 H):=λ u A=>by simp[World.cell?,G u A,Ce]
 have bT:∀u:World,Below w.heap.size w u->u.cell? ⟨p,6,none⟩=some (.int .u64 L.next):=λ u A=>by simp[World.cell?,G u A,Ce]
 have FJ:∀u:World,Below w.heap.size w u->u.cell? ⟨p,7,none⟩=some (.slice av m cv):=λ u A=>by simp[World.cell?,G u A,Ce]
 have xU:acr (∀u,Below w.heap.size w u->Dy 83 #[.int .i64 (L.sealed:Int),.int .u64 L.next,.slice ha 32 H,.slice av m cv] u (PW u (P6 L.sealed L.next L.head L.wait))):=acp λ u A=>UF (Q:=λ _=>True) (S:=Free o w) L.sealed L.next L.head L.wait F ha H av m cv u (k2.below A acs) ⟨aA,(k7.mono λ _ _=>trivial).below A acs,(k6.imp λ _ _ _ hr=>hr.mono λ _ _=>trivial).below A⟩;have HH:=acp h;have HD:=acp hD;have HM:=acp hM;have h_:=acp F;have DR:=acp hm;have c7:=FJ w acu;clear h hD hM F hm G k1 k2 k4 k5 k6 k7;go_enter Tryz.func28,Tryz.ntmps28;go_wp2_with fail;refine su ((λ w'=>Below w.heap.size w w')) ?_ λ z=> ?_
 ·exact acu.drew
 refine aM 0 z ?_;refine aM 1 z ?_;refine aM 2 z ?_;refine aM 3 z ?_;refine aM 4 z ?_;refine aM 5 z ?_;refine aM 6 z ?_;refine aM 7 z ?_;refine aM 8 z ?_;refine aM 9 z ?_;refine aM 10 z ?_;refine aM 11 z ?_;refine aM 12 z ?_;refine aM 13 z ?_;refine aM 14 z ?_;refine aM 15 z ?_;refine lJ 16 λ K hK=> ?_;go_simp;refine(xU.o _ z).mono ?_;rintro e D ⟨a2,n2,c2,rfl,bD,J,aJ⟩;have B:=acp (z.trans (aJ.mono z.size));have bS:=acp J;clear aJ J;go_wp2_with fail;refine kV hK (B.o) λ z=> ?_;clear hK K;refine aM 17 z ?_;refine aM 18 z ?_;refine aM 19 z ?_;refine aM 20 z ?_;refine aM 21 z ?_;refine rH ?_;clear z c7;go_wp2_with fail;obtain rfl:n2=1024:=by have:=bS.o.length;rw[List.length_map,JV h_.o]at this;exact this.symm
 have C:=B.o.size;have V:acr (∀u,Below D.heap.size D u->ah (Free o u) u a2 1024 ((P6 L.sealed L.next L.head L.wait).map bv)):=acp λ u A=>(bS.o.below A acs).mono λ y hy=>⟨Wy λ h9=>by have:=(HM.o.new y h9).2;have h8:w.heap.size<=y:=hy.1;omega,by have:=A.size;omega⟩;have aB:acr (∀u,Below D.heap.size D u->Dy 84 #[ptr d,.agg #[.int .i64 (n:Int),.int .i64 ((n:Int)/4),.int .i64 (((n:Int)-1-2*((n:Int)/4))/8)],.int .i64 (L.sealed:Int),.slice a2 1024 c2] u (lZ o j u d n (splice b (nu n L.sealed*128) (P6 L.sealed L.next L.head L.wait)) True (c+8) (.tuple #[]))):=acp λ u A=>YD (HD.o.grow (B.o.trans (A.mono C))) (HM.o.grow (B.o.trans (A.mono C))) Y (by omega) L.sealed hs a2 c2 _ (JV h_.o) ((V.o u A).mono λ y hy=>by rw[hy.1];exact λ e=>Y e.symm) bD;have fT:∀u:World,Below D.heap.size D u->u.cell? ⟨p,0,none⟩=some (ptr d):=λ u A=>bn u (B.o.trans (A.mono C));have dM:∀u:World,Below D.heap.size D u->u.cell? ⟨p,1,none⟩=some (.int .i64 (n:Int)):=λ u A=>aH u (B.o.trans (A.mono C));have J:∀u:World,Below D.heap.size D u->u.cell? ⟨p,2,none⟩=some (.int .i64 ((n:Int)/4)):=λ u A=>bf u (B.o.trans (A.mono C));have dV:∀u:World,Below D.heap.size D u->u.cell? ⟨p,3,none⟩=some (.int .i64 (((n:Int)-1-2*((n:Int)/4))/8)):=λ u A=>bq u (B.o.trans (A.mono C));have dn:∀u:World,Below D.heap.size D u->u.cell? ⟨p,4,none⟩=some (.int .i64 (L.sealed:Int)):=λ u A=>aC u (B.o.trans (A.mono C));clear bn aH bf bq aC JD bT FJ xU;refine vJ 13 ((λ w'=>Below D.heap.size D w')) ?_ λ z=> ?_
 ·exact acu.drew
 refine aO 0 z ?_;refine aO 1 z ?_;refine aO 2 z ?_;refine aO 3 z ?_;refine aO 4 z ?_;refine aO 5 z ?_;refine aO 6 z ?_;refine aO 7 z ?_;refine aO 8 z ?_;refine aO 9 z ?_;refine aO 10 z ?_;refine aO 11 z ?_;refine aO 12 z ?_;refine cu 13 λ K hK=> ?_;go_simp;refine(aB.o _ z).mono ?_;rintro e w3 ⟨rfl,o3,E,ak⟩;go_wp2_with fail;have M:=B.o.trans (z.mono C);have aF:=HM.o.grow M;have xR:acr (Step o (λ k=>k=i\/k=j) w o3 w3):=acp ((Step.grow HM.o M).trans (E.mono λ k hk=> .inr hk));have zT:=acp (aF.step (λ e=>Y e.symm) E);have dK:=acp ((HH.o.grow HM.o M).step (λ e=>Y e.symm) (λ e=>P e) E);have dN:=acp ((V.o _ z).free (λ e=>Y e.symm) E);have dI:=acp ak;clear E ak M aF;refine o_ hK ?_;clear z hK K;clear fT dM J dV dn aB V;go_wp2_with fail;refine(MF h_.o a2 1024 c2 w3 dN.o bD).mono ?_;rintro e N ⟨pa,pc,ra,rc,v4,rfl,aL,aD,-,-,X⟩;unfold CZ;obtain⟨Z,oC⟩:∃Z,Z=N.alloc (.cells (CZ (rP L.sealed L.next L.head L.wait) pa pc ra rc) 150):=⟨_,rfl⟩;have U:Below N.heap.size N Z:=by rw[oC];exact wall N _
 have aN:Z.heap[N.heap.size]? =some (.cells (CZ (rP L.sealed L.next L.head L.wait) pa pc ra rc) 150 (0,0)):=by rw[oC];exact(MapKept.heap_alloc N _).1
 have YN:=X.trans (U.mono X.size);have CQ:=acp (zT.o.grow YN);have I4:=acp (dK.o.grow zT.o YN);have gL:=acp (xR.o.then_ HM.o (λ e=>by rcases e with e|e;exact hi e.symm;exact Y e.symm) YN);have d9:=acp (dI.o.grow YN);have O:∀{a:Mx} {bs:I8},ah (λ b=>w3.heap.size<=b/\b<N.heap.size) N a 32 (bs.map bv)->ah (λ b=>o3 b≠i) Z a 32 (bs.map bv):=λ hr=>(hr.below U acs).mono λ y hy e=>by
  have:=(zT.o.new y (by rw[e];exact hi)).2;omega
 have ni:acr (Dy 86 #[ptr p,.agg (CZ (rP L.sealed L.next L.head L.wait) pa pc ra rc)] Z _):=acp (l_did I4.o CQ.o hi (rP L.sealed L.next L.head L.wait) (IV h_.o) (by omega) pa ra pc rc (O aL) (O aD));obtain⟨c0,c1,fK,c3,c4,c5⟩:=Fx aN;unfold CZ at oC ni;clear X U aN YN aL aD O;go_wp2_with fail;rw[<-oC];clear oC;refine ni.o.mono ?_;rintro e w6 ⟨rfl,I,R⟩;obtain⟨v6,q7,f7⟩:=R.cell7;have Kt:=CQ.o.step (λ e=>hi e.symm) I;have wm:=acp (R.clear Kt hi);have kW:=acp (gL.o.trans (I.mono λ k hk=> .inl hk));have dG:=acp (d9.o.step (λ e=>P e.symm) I);clear I R Kt ni c0 c1 fK c3 c4 c5;go_wp2_with fail;go_ret;exact⟨rfl,o3,kW.o.trans (wm.o.2.mono λ k hk=> .inl hk),dG.o.step (λ e=>P e.symm) wm.o.2,wm.o.1⟩
end
