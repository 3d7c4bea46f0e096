/- Arguments -/
import Derived.Deep.Slices
import Derived.Deep.Fields
import Derived.Deep.Grids
import Derived.ChangeSame
import Derived.Test.YthillkfmdndedaaGreatDoorM48
import Derived.Test.YthillkfmdndedaaGreatDoorM47
set_option maxRecDepth 100000
set_option maxHeartbeats 64000000
set_option linter.all false
namespace Go.Proofs.YthillkfmdndedaaGreatDoor
open Go.Joins Go.ChangeShapes Go.WideShapes Go.ChangeAt Go.RowKit Go.Deep
section
variable{H:Type}{enc:TypeId×Value->H}{P:Program}{w:World}{base:Nat}{spare:Nat->Bool}{held:Bool}
theorem AJ{t e:TypeId}{B:Array Field}{I:Nat}{Y:List Value}{x:DataW H×List MemPlace}(ht:P.underlying t=some (.slice e))(he:P.underlying e=some (.struct B))
  (J:oneCellFields P B=true)(hC:P.cellsOf e=B.size)(h:DataW.trod enc P w base spare held I t Y=some x):
  (Y=[.slice none 0 0]/\x=(.nil,[]))\/
  ∃(a:Addr) (u z m:Nat) (D:Nat->DataW H) (K:Nat->List MemPlace),Y=[.slice (some a) u z]/\base<=a.block/\u<=z/\z<=maxLen/\m=(if spare a.block then z else u)/\
   x=(.slice ((List.range u).map D) ((List.range (m-u)).map λ j=>D (u+j)),MemPlace.row a (m*B.size)++(List.range m).flatMap K)/\
   ∀i,i<m->∃(C:List (DataW H×List MemPlace)) (n:Nat),D i= .agg (C.map (·.1))/\K i=C.flatMap (·.2)/\C.length=B.size/\
    ∀(j:Nat) (f:Field),B[j]? =some f->∃(v:Value) (y:DataW H×List MemPlace),w.cell? (a.add (i*B.size+j))=some v/\C[j]? =some y/\DataW.trod enc P w base spare held n f.type [v]=some y:=by
 rcases open_slice ht h with h0|⟨a,u,z,m,n,D,K,S,hb,hl,hm,N,hx,hi⟩
 ·exact .inl h0
 ·refine .inr ⟨a,u,z,m,D,K,S,hb,hl,hm,N,by rw[hC]at hx;exact hx,λ i U=> ?_⟩;obtain⟨A,Z,R⟩:=hi i U;rw[hC]at Z;obtain⟨C,n',av,X,ak,O,hf⟩:=DataW.trod_struct he R;obtain⟨_,aA,W⟩:=World.cells?_some Z;simp only[Prod.mk.injEq]at X;refine⟨C,n',X.1,X.2,O,λ j f M=> ?_⟩;obtain⟨ho,hk⟩:=hone_of J j f M;have Q:j<B.size:=(qW.1 M).1;have E:=W j Q;have hv:A[j]? =some (A[j]'(by omega)):=List.getElem?_eq_getElem (by omega);have V:=hf j f M;rw[ho,hk]at V;have F:(A.drop j).take 1=[A[j]'(by omega)]:=by
   rw[abg (by omega)];rfl
  rw[F]at V;have G:C[j]? =some (C[j]'(by omega)):=List.getElem?_eq_getElem (by omega);refine⟨_,_,?_,G,V.trans G⟩;rw[<-Go.Deep.add_add,E,hv]
end
section
variable{H:Type}{enc:TypeId×Value->H}{W:World}
def byteOf(z:Int):UInt8:=UInt8.ofNat z.toNat
theorem Vl{z:Int}(h:(Lit.int .u8 z).wf=true):bv (byteOf z)= .int .u8 z:=by
 simp[Lit.wf,IntKind.min,IntKind.max,IntKind.signed,IntKind.bits]at h;unfold bv byteOf;rw[UInt8.toNat_ofNat'];congr 1;omega
abbrev Old(W:World)(x:Nat):Prop:=x<W.heap.size
theorem Nh{D:Nat}{v:Value}{x:DataW H×List MemPlace}(h:DataW.trod enc Tryz.prog W 0 (λ _=>true) true D 30 [v]=some x)(l:∀p∈x.2,p.block<W.heap.size):
  ∃a m z N,v= .slice a m z/\m<=z/\ah (Old W) W a m ((N:I8).map bv):=by
 rcases open_ints Tryz.underlying30 aa7 (by kernel_rfl) h with⟨y,G⟩|⟨a,m,z,J,y,_,P,Q,M,G,u,F⟩
 ·simp only[abk,abK]at y;subst y;exact⟨none,0,0,[],rfl,Nat.le_refl _,ah.nil _ _ _⟩
 ·simp only[abk,abK]at y;subst y;subst G;simp only[if_true]at M;refine⟨some a,m,z,(J.take m).map byteOf,rfl,P,by simp;omega,by omega,λ R=> ?_⟩;obtain⟨b,E,C⟩:=a;have A:C=none:=by simpa[Addr.add]using World.cell?_spot (u 0 (by omega))
  subst A;have I:b<W.heap.size:=l (.cell b E) (MemPlace.mem_row.2 ⟨0,by omega,by simp⟩);refine⟨b,E,rfl,I,I,λ i O=> ?_⟩;have K:=u i (by omega);rw[add_plain]at K;have B:i<J.length:=by omega
  rw[K,List.map_map,List.getElem?_map,aaB,if_pos O,List.getElem?_eq_getElem B];simp only[aao,Function.comp,List.getD,List.getElem?_eq_getElem B,Option.getD_some];rw[Vl (F _ (List.getElem_mem B))]
end
section
variable{H:Type}{P:Program}
theorem wX{e:TypeId}:∀{l:List (DataW H)} {d:DataW H},d∈l->∀n∈d.weights P e,n∈DataW.weightsAll P e l
 |x::r,d,h,n,m=>by
  rcases List.mem_cons.1 h with rfl|h
  ·exact abj _ m
  ·exact abS _ (wX h n m)
theorem nD:∀{z:List TypeId} {y:List (DataW H)} {j:Nat} {t:TypeId} {d:DataW H},z[j]? =some t->y[j]? =some d->∀n∈d.weights P t,n∈DataW.weightsEach P z y
 |C::z,B::y,0,t,d,u,m,n,A=>by
  simp only[aar,aae]at u m;subst u m;exact abj _ A
 |C::z,B::y,j+1,t,d,u,m,n,A=>by
  simp only[aaw]at u m;exact abS _ (nD u m n A)
 |[],_,_,_,_,u,_,_,_=>by simp at u
 |_::_,[],_,_,_,_,m,_,_=>by simp at m
theorem Ki{t e:TypeId}(u:P.underlying t=some (.slice e))(m rest:List (DataW H)):(m.length+rest.length)*P.bytesOf e∈(DataW.slice m rest).weights P t:=by
 unfold DataW.weights;rw[u];exact List.mem_cons_self
theorem Kj{t e:TypeId}(y:P.underlying t=some (.slice e)){m rest:List (DataW H)}{d:DataW H}(u:d∈m){n:Nat}(z:n∈d.weights P e):n∈(DataW.slice m rest).weights P t:=by
 unfold DataW.weights;rw[y];exact abv _ (abj _ (wX u n z))
theorem Kk{t:TypeId}{u:Array Field}(z:P.underlying t=some (.struct u)){m:List (DataW H)}{j:Nat}{f:Field}{d:DataW H}(A:u[j]? =some f)(y:m[j]? =some d){n:Nat}(B:n∈d.weights P f.type):n∈(DataW.agg m).weights P t:=by
 unfold DataW.weights;rw[z];refine nD (j:=j) (t:=f.type) (d:=d) ?_ y n B;rw[List.getElem?_map,Array.getElem?_toList,A];rfl
end
section
variable{H:Type}{enc:TypeId×Value->H}{W:World}
theorem bytes8:Tryz.prog.bytesOf 5=1:=by kernel_rfl
theorem Ni{z:Nat}{v:Value}{x:DataW H×List MemPlace}(h:DataW.trod enc Tryz.prog W 0 (λ _=>true) true z 30 [v]=some x)(l:∀p∈x.2,p.block<W.heap.size)(G:∀n∈x.1.weights Tryz.prog 30,n<=reachBytes):
  ∃a m y C,v= .slice a m y/\m<=y/\ah (Old W) W a m ((C:I8).map bv)/\m<=140737488351232:=by
 obtain⟨a,m,y,C,rfl,B,J⟩:=Nh h l;refine⟨a,m,y,C,rfl,B,J,?_⟩;rcases open_ints Tryz.underlying30 aa7 (by kernel_rfl) h with⟨u,D⟩|⟨M,F,E,K,u,_,O,N,I,D,_,_⟩
 ·simp only[abk,abK,aaH]at u;obtain⟨_,rfl,_⟩:=u;omega
 ·simp only[abk,abK,aaH]at u;obtain⟨_,rfl,_⟩:=u;subst D;have A:=G _ (Ki Tryz.underlying30 _ _);rw[bytes8]at A;simp only[if_true]at I;unfold lits at A;simp only[List.length_map,List.length_take,List.length_drop]at A;unfold reachBytes at A;omega
end
structure Jb(x:iI):Prop where
 wk:(Lit.int .i64 x.kind).wf=true
 wf:(Lit.int .i64 x.fd).wf=true
 wa:(Lit.int .i64 x.at_).wf=true
 wn:(Lit.int .i64 x.n).wf=true
 ws:(Lit.int .i64 x.snap).wf=true
 wt:0<=x.aL/\x.aL<=18446744073709551615
 wp:x.path.length<=maxLen
 wq:x.bT.length<=maxLen
 wd:x.data.length<=140737488351232
structure OpAt(W:World)(g off:Nat)(x:iI)(da:Mx)(dc:Nat):Prop where
 cells:W.cell? ⟨g,off,none⟩=some (.int .i64 x.kind)/\W.cell? ⟨g,off+1,none⟩=some (.string (strOf x.path))/\W.cell? ⟨g,off+2,none⟩=some (.string (strOf x.bT))/\W.cell? ⟨g,off+3,none⟩=some (.int .i64 x.fd)/\W.cell? ⟨g,off+4,none⟩=some (.int .i64 x.at_)/\W.cell? ⟨g,off+5,none⟩=some (.int .i64 x.n)/\W.cell? ⟨g,off+6,none⟩=some (.int .u64 x.aL)/\W.cell? ⟨g,off+7,none⟩=some (.int .i64 x.snap)/\W.cell? ⟨g,off+8,none⟩=some (.slice da x.data.length dc)
 ok:Jb x
 cap:x.data.length<=dc
 row:ah (λ b=>b<W.heap.size) W da x.data.length (x.data.map bv)
def R6(W:World)(a:Mx)(m:Nat):Prop:=
 m<=maxLen/\(0<m->∃b u,a=some ⟨b,u,none⟩/\b<W.heap.size/\∀k,k<m->∃x y z,OpAt W b (u+k*9) x y z)
theorem OpAt.up{W w:World}{g m:Nat}{x:iI}{A:Mx}{z:Nat}(h:OpAt W g m x A z)(u:Below W.heap.size W w)(y:g<W.heap.size):w.cell? ⟨g,m,none⟩=some (.int .i64 x.kind)/\w.cell? ⟨g,m+1,none⟩=some (.string (strOf x.path))/\w.cell? ⟨g,m+2,none⟩=some (.string (strOf x.bT))/\w.cell? ⟨g,m+3,none⟩=some (.int .i64 x.fd)/\w.cell? ⟨g,m+4,none⟩=some (.int .i64 x.at_)/\w.cell? ⟨g,m+5,none⟩=some (.int .i64 x.n)/\w.cell? ⟨g,m+6,none⟩=some (.int .u64 x.aL)/\w.cell? ⟨g,m+7,none⟩=some (.int .i64 x.snap)/\w.cell? ⟨g,m+8,none⟩=some (.slice A x.data.length z):=by
 obtain⟨G,F,D,J,C,I,H,B,E⟩:=h.cells;exact⟨(u.cell (p:=⟨g,m,none⟩) y).trans G,(u.cell (p:=⟨g,m+1,none⟩) y).trans F,(u.cell (p:=⟨g,m+2,none⟩) y).trans D,(u.cell (p:=⟨g,m+3,none⟩) y).trans J,(u.cell (p:=⟨g,m+4,none⟩) y).trans C,(u.cell (p:=⟨g,m+5,none⟩) y).trans I,(u.cell (p:=⟨g,m+6,none⟩) y).trans H,(u.cell (p:=⟨g,m+7,none⟩) y).trans B,(u.cell (p:=⟨g,m+8,none⟩) y).trans E⟩
theorem QE{z:Int}(h:(Lit.int .u64 z).wf=true):0<=z/\z<=18446744073709551615:=by
 simp[Lit.wf,IntKind.min,IntKind.max,IntKind.signed,IntKind.bits]at h;omega
theorem Db(s:ByteArray):strOf s.data.toList=s:=by cases s;rfl
section
variable{H:Type}{enc:TypeId×Value->H}{W:World}
theorem Zx{K:Nat}{v:Value}{x:DataW H×List MemPlace}(h:DataW.trod enc Tryz.prog W 0 (λ _=>true) true K 22 [v]=some x)(l:∀p∈x.2,p.block<W.heap.size)(hw:∀n∈x.1.weights Tryz.prog 22,n<=reachBytes):
  ∃a A B,v= .slice a A B/\A<=B/\R6 W a A:=by
 rcases AJ Tryz.underlying22 Tryz.underlying32 (by kernel_rfl) (by kernel_rfl) h with⟨z,hx⟩|⟨a,A,B,m,D,Pl,z,_,hl,hm,G,hx,V⟩
 ·simp only[abk,abK]at z;subst z;exact⟨none,0,0,rfl,Nat.le_refl _,by simp,λ h=>by omega⟩
 ·simp only[abk,abK]at z;subst z;subst hx;simp only[if_true]at G;subst G;refine⟨some a,A,m,rfl,hl,by omega,λ h0=> ?_⟩;have F:∀(i:Nat) (E:List (DataW H×List MemPlace)) (j:Nat) (y:DataW H×List MemPlace),i<m->Pl i=E.flatMap (·.2)->E[j]? =some y->∀p∈y.2,p.block<W.heap.size:=by
   intro i E j y P hp hy p N;refine l p (abS _ (List.mem_flatMap.2 ⟨i,aa9.2 P,?_⟩));rw[hp];exact List.mem_flatMap.2 ⟨y,aaD hy,N⟩
  obtain⟨b,I,J⟩:=a;have C:J=none:=by
   obtain⟨E,n,_,_,_,u⟩:=V 0 (by omega);obtain⟨v,y,hc,_⟩:=u 0 _ rfl;simpa[Addr.add]using World.cell?_spot hc
  subst C;have hb:b<W.heap.size:=l (.cell b I) (abj _ (MemPlace.mem_row.2 ⟨0,by simp;omega,by simp⟩));refine⟨b,I,rfl,hb,λ k hk=> ?_⟩;obtain⟨E,n,hD,hP,ak,u⟩:=V k (by omega);obtain⟨v0,y0,R,e0,t0⟩:=u 0 _ rfl;obtain⟨v1,y1,S,e1,t1⟩:=u 1 _ rfl;obtain⟨v2,y2,c2,e2,t2⟩:=u 2 _ rfl;obtain⟨v3,y3,c3,e3,t3⟩:=u 3 _ rfl;obtain⟨v4,y4,X,e4,t4⟩:=u 4 _ rfl;obtain⟨v5,y5,Q,e5,t5⟩:=u 5 _ rfl;obtain⟨v6,y6,c6,e6,t6⟩:=u 6 _ rfl;obtain⟨v7,y7,c7,e7,t7⟩:=u 7 _ rfl;obtain⟨v8,y8,c8,e8,t8⟩:=u 8 _ rfl;obtain⟨z0,f0,_,g0⟩:=ab0 aa2 t0;obtain⟨s1,f1,_,g1⟩:=DataW.trod_string aa8 t1;obtain⟨s2,Y,_,g2⟩:=DataW.trod_string aa8 t2;obtain⟨z3,Z,_,g3⟩:=ab0 aa2 t3;obtain⟨z4,f4,_,g4⟩:=ab0 aa2 t4;obtain⟨z5,f5,_,g5⟩:=ab0 aa2 t5;obtain⟨z6,f6,_,g6⟩:=ab0 Tryz.underlying29 t6;obtain⟨z7,f7,_,g7⟩:=ab0 aa2 t7;obtain⟨a8,n8,k8,bs,rfl,q8,U,M⟩:=Ni t8 (F k E 8 y8 (by omega) hP e8) (λ n hn=>hw n (Kj Tryz.underlying22 (d:=D k) (List.mem_map.2 ⟨k,aa9.2 hk,rfl⟩) (by
   rw[hD];exact Kk Tryz.underlying32 (j:=8) rfl (d:=y8.1) (by rw[List.getElem?_map,e8];rfl) hn)))
  simp only[abk,abK]at f0 f1 Y Z f4 f5 f6 f7;subst f0 f1 Y Z f4 f5 f6 f7;rw[add_plain]at R S c2 c3 X Q c6 c7 c8;have O:bs.length=n8:=by simpa using U.length
  subst O;refine⟨⟨z0,s1.data.toList,s2.data.toList,z3,z4,z5,z6,z7,bs⟩,a8,k8,⟨⟨R,?_,?_,?_,?_,?_,?_,?_,?_⟩,⟨g0,g3,g4,g5,g7,QE g6,?_,?_,M⟩,q8,U⟩⟩
  ·rw[Nat.add_assoc];dsimp only;rw[Db];exact S
  ·rw[Nat.add_assoc];dsimp only;rw[Db];exact c2
  ·rw[Nat.add_assoc];exact c3
  ·rw[Nat.add_assoc];exact X
  ·rw[Nat.add_assoc];exact Q
  ·rw[Nat.add_assoc];exact c6
  ·rw[Nat.add_assoc];exact c7
  ·rw[Nat.add_assoc];exact c8
  ·dsimp only;rw[Array.length_toList];exact g1
  ·dsimp only;rw[Array.length_toList];exact g2
end
open Go.ChangeShapes Go.WideShapes Go.ChangeAt Go.RowKit
structure F9(x y:iI):Prop where
 kind:y.kind=x.kind
 path:y.path∈gD
 bT:y.bT∈gD
 fd:y.fd=bH x.fd 0 3
 at_:y.at_=bH x.at_ 0 50
 n:y.n=bH x.n 0 60
 aL:y.aL=x.aL%12
 snap:0<=y.snap/\y.snap<=4
 data:y.data=x.data.take 40
theorem F9.ok{x y:iI}(h:F9 x y)(m:Jb x):wM y:=by
 have E:=kU x.fd 0 3 (by omega);have A:=kU x.at_ 0 50 (by omega);have D:=kU x.n 0 60 (by omega);have z:=rD h.path;have C:=rD h.bT;have B:=m.wt;have u:=h.snap;refine⟨by rw[h.kind];exact m.wk,by rw[h.fd];exact gG (by omega) (by omega),by rw[h.at_];exact gG (by omega) (by omega),by rw[h.n];exact gG (by omega) (by omega),gG (by omega) (by omega),by rw[h.aL];omega,by omega,by omega,by rw[h.data,List.length_take];omega⟩
theorem Dc(z:Int):(Lit.int .i64 (IntKind.i64.wrap z)).wf=true:=by
 have m:=Int.emod_nonneg (z+9223372036854775808) (show(18446744073709551616:Int)≠0 by omega);have u:=Int.emod_lt_of_pos (z+9223372036854775808) (show(0:Int)<18446744073709551616 by omega);simp[Lit.wf,IntKind.wrap,IntKind.min,IntKind.max,IntKind.signed,IntKind.bits];omega
theorem qH:(Tryz.prog.info? 32).map (·.size)=some 9:=by kernel_rfl
theorem oq(x:iI)(u:Mx)(m:Nat):(opC x u m).all (·.oneCell')=true:=by simp[opC,Value.oneCell']
theorem zy{z:Func}{y:Nat}{Q:Ending->World->Prop}{a:Act}{w:World}{b:Nat}{x:iI}{m:Mx}{u:Nat}(D:z.results= #[.cell y 32])(B:a.tmps.getD y undef= .pointer (some ⟨b,0,none⟩))(A:a.defers=[])(C:w.heap[b]? =some (.cells (opC x m u) 32 (0,0)))(E:Q (.returned (.agg (opC x m u))) w):
  bodyPost Tryz.prog z Q .ret a w:=
 aav (v:= .agg (opC x m u)) (pQ D B (aaS w b 32 32 _ (0,0) _ C Tryz.underlying32 rfl qH)) A E
theorem QF{n:Nat}(w:World)(a:Addr)(v:Value)(m:n<=w.heap.size)(h:n<=a.block):Below n w (w.setCell a v):=
 (Keeps.jy w a v).bS m λ x u (e:x=a.block)=>by omega
structure uH(w w5:World)(az:Nat)(x y:iI)(da:Mx)(dc:Nat):Prop where
 kind:w5.cell? ⟨w.heap.size,0,none⟩=some (.int .i64 x.kind)
 snap:w5.cell? ⟨w.heap.size,7,none⟩=some (.int .i64 x.snap)
 cells:w5.heap[az]? =some (.cells (opC y da dc) 32 (0,0))
 res:w5.heap[w.heap.size+1]? =some (.cells #[.int .i64 0,.string ⟨#[]⟩,.string ⟨#[]⟩,.int .i64 0,.int .i64 0,.int .i64 0,.int .u64 0,.int .i64 0,.slice none 0 0] 32 (0,0))
 below:Below w.heap.size w w5
 ne:az≠w.heap.size+1/\az≠w.heap.size/\w.heap.size<=az
theorem uH.all{w u:World}{m:Nat}{x y:iI}{z:Mx}{A:Nat}(h:uH w u m x y z A):u.cell? ⟨m,0,none⟩=some (.int .i64 y.kind)/\u.cell? ⟨m,1,none⟩=some (.string (strOf y.path))/\u.cell? ⟨m,2,none⟩=some (.string (strOf y.bT))/\u.cell? ⟨m,3,none⟩=some (.int .i64 y.fd)/\u.cell? ⟨m,4,none⟩=some (.int .i64 y.at_)/\u.cell? ⟨m,5,none⟩=some (.int .i64 y.n)/\u.cell? ⟨m,6,none⟩=some (.int .u64 y.aL)/\u.cell? ⟨m,7,none⟩=some (.int .i64 y.snap)/\u.cell? ⟨m,8,none⟩=some (.slice z y.data.length A)/\u.frozen? ⟨m,7,none⟩=false:=by
 have:=h.cells;unfold opC at this;refine⟨?_,?_,?_,?_,?_,?_,?_,?_,?_,?_⟩<;>simp[World.cell?,World.frozen?,this]
theorem uH.put{w u:World}{m:Nat}{x y:iI}{z:Mx}{A:Nat}(h:uH w u m x y z A):(u.setCell ⟨m,7,none⟩ (.int .i64 0)).heap[w.heap.size+1]? =some (.cells #[.int .i64 0,.string ⟨#[]⟩,.string ⟨#[]⟩,.int .i64 0,.int .i64 0,.int .i64 0,.int .u64 0,.int .i64 0,.slice none 0 0] 32 (0,0))/\Below w.heap.size w (u.setCell ⟨m,7,none⟩ (.int .i64 0)):=
 ⟨(aI u ⟨m,7,none⟩ (.int .i64 0) (w.heap.size+1) (λ e=>h.ne.1 e.symm)).trans h.res,h.below.trans (QF u ⟨m,7,none⟩ (.int .i64 0) h.below.size h.ne.2.2)⟩
theorem uH.of{w m wb E:World}{F:Nat}{x y:iI}{D:Mx}{C:Nat}(A:Below w.heap.size w m)(z:m.heap[w.heap.size]? =some (.cells (opC x D C) 32 (0,0)))
  (u:m.heap[w.heap.size+1]? =some (.cells #[.int .i64 0,.string ⟨#[]⟩,.string ⟨#[]⟩,.int .i64 0,.int .i64 0,.int .i64 0,.int .u64 0,.int .i64 0,.slice none 0 0] 32 (0,0)))(B:Below m.heap.size m wb)(N:m.heap.size<=F)(J:jK wb F (opC y D C) 32 E):uH w E F x y D C:=by
 have M:=(qW.1 z).1;have K:=(qW.1 u).1;obtain⟨k1,k2,k3⟩:=J;have I:=B.size;have H:E.heap[w.heap.size]? =some (.cells (opC x D C) 32 (0,0)):=((k2.block _ (by omega) (by omega)).trans (B.block _ M)).trans z;have G:Below w.heap.size w E:=jK.below ⟨k1,k2,k3⟩ (A.trans (B.mono A.size)) (by omega);refine⟨by simp[World.cell?,H,opC],by simp[World.cell?,H,opC],k1,((k2.block _ (by omega) (by omega)).trans (B.block _ K)).trans u,G,by omega⟩
def Kl(S:Nat->Prop)(w:World)(x:iI)(u:Mx)(e:Ending)(w':World):Prop:=
 ∃y m,e= .returned (.agg (opC y u m))/\F9 x y/\y.data.length<=m/\ah S w' u y.data.length (y.data.map bv)/\Below w.heap.size w w'
theorem qI{S:Nat->Prop}{w F:World}{x y:iI}{D:Mx}{C:Nat}{m:I8}{E H:I8}(N:Jb x)(I:x.data.length<=C)(A:ah S w D x.data.length (x.data.map bv))(B:m=x.data.take 40)(U:E∈gD)(Q:H∈gD)
  (P:y.snap=bH x.snap 0 4\/y.snap=0)(X:y.kind=x.kind)(e2:(y.path,y.bT)=(E,H))(J:(y.fd,y.at_,y.n)=(bH x.fd 0 3,bH x.at_ 0 50,bH x.n 0 60))(u:y.aL=x.aL.tmod 12)(z:y.data=m)(G:Below w.heap.size w F):Kl S w x D (.returned (.agg (opC y D C))) F:=by
 have W:y.aL=x.aL%12:=u.trans (Int.tmod_eq_emod_of_nonneg N.wt.1);obtain⟨ep,Y⟩:=Prod.mk.inj e2;obtain⟨R,K⟩:=Prod.mk.inj J;obtain⟨O,Z⟩:=Prod.mk.inj K;have V:=kU x.snap 0 4 (by omega);have M:y.data.length=min x.data.length 40:=by rw[z,B,List.length_take,Nat.min_comm]
 refine⟨y,C,rfl,⟨X,by rw[ep];exact U,by rw[Y];exact Q,R,O,Z,W,by rcases P with h|h<;>omega,by rw[z,B]⟩,by omega,?_,G⟩;have:=(A.take 40).below G acs;rw[M,z,B,aaJ];exact this
theorem oL{m x:World}(h:acr (Below m.heap.size m x)):acr (Below m.heap.size m (x.alloc (.cells #[.int .i64 0,.string ⟨#[]⟩,.string ⟨#[]⟩,.int .i64 0,.int .i64 0,.int .i64 0,.int .u64 0,.int .i64 0,.slice none 0 0] 32)))/\acr ((x.alloc (.cells #[.int .i64 0,.string ⟨#[]⟩,.string ⟨#[]⟩,.int .i64 0,.int .i64 0,.int .i64 0,.int .u64 0,.int .i64 0,.slice none 0 0] 32)).heap[x.heap.size]? =some (.cells #[.int .i64 0,.string ⟨#[]⟩,.string ⟨#[]⟩,.int .i64 0,.int .i64 0,.int .i64 0,.int .u64 0,.int .i64 0,.slice none 0 0] 32 (0,0))/\m.heap.size<=x.heap.size):=
 ⟨abh h.o h.o.size _,(MapKept.heap_alloc _ _).1,h.o.size⟩
theorem Zy{S:Nat->Prop}(w:World)(I:Int)(X bT:I8)(H at_ E M sn:Int)(O:I8)(hx:Jb ⟨I,X,bT,H,at_,E,M,sn,O⟩)(D:Mx)(F:Nat)(aB:O.length<=F)(ak:ah S w D O.length (O.map bv)):
  Dy 18 #[.agg (opC ⟨I,X,bT,H,at_,E,M,sn,O⟩ D F)] w (Kl S w ⟨I,X,bT,H,at_,E,M,sn,O⟩ D):=by
 obtain⟨W,V⟩:∃W,W=(w.alloc (.cells (opC ⟨I,X,bT,H,at_,E,M,sn,O⟩ D F) 32)).alloc (.cells #[.int .i64 0,.string ⟨#[]⟩,.string ⟨#[]⟩,.int .i64 0,.int .i64 0,.int .i64 0,.int .u64 0,.int .i64 0,.slice none 0 0] 32):=⟨_,rfl⟩;have aF:Below w.heap.size w W:=by rw[V];exact(acu.alloc acs _).trans ((acu.alloc acs _).mono (by simp))
 have Y:W.heap[w.heap.size]? =some (.cells (opC ⟨I,X,bT,H,at_,E,M,sn,O⟩ D F) 32 (0,0)):=by
  rw[V];exact((acu.alloc acs _).block _ (by simp)).trans (MapKept.heap_alloc w _).1
 have aJ:W.heap[w.heap.size+1]? =some (.cells #[.int .i64 0,.string ⟨#[]⟩,.string ⟨#[]⟩,.int .i64 0,.int .i64 0,.int .i64 0,.int .u64 0,.int .i64 0,.slice none 0 0] 32 (0,0)):=by
  rw[V];have:=(MapKept.heap_alloc (w.alloc (.cells (opC ⟨I,X,bT,H,at_,E,M,sn,O⟩ D F) 32)) (.cells #[.int .i64 0,.string ⟨#[]⟩,.string ⟨#[]⟩,.int .i64 0,.int .i64 0,.int .i64 0,.int .u64 0,.int .i64 0,.slice none 0 0] 32)).1;rw[Pe]at this;exact this
 have J:acr (∀w3,Below W.heap.size W w3->(λ w'=>w'.cell? ⟨w.heap.size,0,none⟩=some (.int .i64 I)/\w'.cell? ⟨w.heap.size,1,none⟩=some (.string (strOf X))/\w'.cell? ⟨w.heap.size,2,none⟩=some (.string (strOf bT))/\w'.cell? ⟨w.heap.size,3,none⟩=some (.int .i64 H)/\w'.cell? ⟨w.heap.size,4,none⟩=some (.int .i64 at_)/\w'.cell? ⟨w.heap.size,5,none⟩=some (.int .i64 E)/\w'.cell? ⟨w.heap.size,6,none⟩=some (.int .u64 M)/\w'.cell? ⟨w.heap.size,7,none⟩=some (.int .i64 sn)/\w'.cell? ⟨w.heap.size,8,none⟩=some (.slice D O.length F)) w3):=λ w3 Z=>by
  have:=(Z.block _ (qW.1 Y).1).trans Y;unfold opC at this;refine⟨?_,?_,?_,?_,?_,?_,?_,?_,?_⟩<;>simp[World.cell?,this]
 have R:=acp hx;have tO:=acp aJ;have BK:=acp Y;have bf:=acp aF;have aD:=acp V;have jo:=acp ak;have YR:=acp aB;have aN:acr ((Lit.int .i64 (IntKind.i64.wrap (((strOf X).size:Int)+at_.tmod 7))).wf=true):=Dc _;have bn:acr ((Lit.int .i64 (IntKind.i64.wrap (((strOf bT).size:Int)+E.tmod 7))).wf=true):=Dc _;obtain⟨B,U⟩:∃B,B=O.take 40:=⟨_,rfl⟩;have N:=acp U;have nQ:acr (∀w:World,Dy 50 #[.slice D O.length F,.int .i64 40] w λ e w'=>e= .returned (.slice D B.length F)/\w=w'):=λ w=>by
  have:=cut_any D O.length F 40 aB (by omega) ak.small w;rw[show min O.length 40=B.length by rw[U,List.length_take,Nat.min_comm]]at this;exact this
 clear hx aJ aF Y ak aB U;unfold opC at aD;unfold opC;go_enter Tryz.func18,Tryz.ntmps18;go_wp2_with fail;rw[<-aD.o];clear aD V;refine vJ 38 ((λ w'=>w'.cell? ⟨w.heap.size,0,none⟩=some (.int .i64 I)/\w'.cell? ⟨w.heap.size,1,none⟩=some (.string (strOf X))/\w'.cell? ⟨w.heap.size,2,none⟩=some (.string (strOf bT))/\w'.cell? ⟨w.heap.size,3,none⟩=some (.int .i64 H)/\w'.cell? ⟨w.heap.size,4,none⟩=some (.int .i64 at_)/\w'.cell? ⟨w.heap.size,5,none⟩=some (.int .i64 E)/\w'.cell? ⟨w.heap.size,6,none⟩=some (.int .u64 M)/\w'.cell? ⟨w.heap.size,7,none⟩=some (.int .i64 sn)/\w'.cell? ⟨w.heap.size,8,none⟩=some (.slice D O.length F))) ?_ λ u=> ?_
 ·exact J.o _ acu.drew
 obtain⟨x,av⟩:∃x,x=W.drew:=⟨_,rfl⟩;have A:acr (Below W.heap.size W x):=by rw[av];exact acp acu.drew
 rw[<-av]at u⊢;clear av;refine aO 0 u ?_;refine aO 1 u ?_;refine aO 2 u ?_;refine aO 3 u ?_;refine aO 4 u ?_;refine aO 5 u ?_;refine aO 6 u ?_;refine aO 7 u ?_;refine aO 8 u ?_;refine aO 10 u ?_;refine aO 11 u ?_;refine aO 12 u ?_;refine aO 13 u ?_;refine aO 14 u ?_;refine aO 15 u ?_;refine aO 16 u ?_;refine aO 18 u ?_;refine aO 19 u ?_;refine aO 21 u ?_;refine aO 22 u ?_;refine aO 24 u ?_;refine aO 25 u ?_;refine aO 27 u ?_;refine aO 28 u ?_;refine aO 29 u ?_;refine aO 30 u ?_;refine aO 31 u ?_;refine aO 33 u ?_;refine aO 34 u ?_;refine nK 9 37 (λ K m=> ?_) λ K m=> ?_;rotate_left;go_simp;obtain⟨A,G⟩:=oL A;refine b_ m (J.o _ A.o) λ u=> ?_;clear m K
 all_goals (try refine cu 9 λ K m=> ?_)
 all_goals
  go_simp;refine(Ng _ aN.o _).mono ?_;rintro e y ⟨s1,hs,rfl,Z⟩;have u_:=acp hs
  try have G:=acp (And.intro ((Z.block _ (qW.1 G.o.1).1).trans G.o.1) G.o.2)
  have A:=acp (A.o.trans (Z.mono A.o.size));clear hs Z;go_wp2_with fail;refine b_ m (J.o _ A.o) λ u=> ?_;clear m K
 rotate_right
 refine nK 17 37 (λ K m=> ?_) λ K m=> ?_;rotate_left;go_simp;obtain⟨A,G⟩:=oL A;refine b_ m (J.o _ A.o) λ u=> ?_;clear m K
 all_goals (try refine cu 17 λ K m=> ?_)
 all_goals
  go_simp;refine(Ng _ bn.o _).mono ?_;rintro e y ⟨s2,hs,rfl,Z⟩;have NH:=acp hs
  try have G:=acp (And.intro ((Z.block _ (qW.1 G.o.1).1).trans G.o.1) G.o.2)
  have A:=acp (A.o.trans (Z.mono A.o.size));clear hs Z;go_wp2_with fail;refine b_ m (J.o _ A.o) λ u=> ?_;clear m K
 rotate_right
 refine nK 20 37 (λ K m=> ?_) λ K m=> ?_;rotate_left;go_simp;obtain⟨A,G⟩:=oL A;refine b_ m (J.o _ A.o) λ u=> ?_;clear m K
 all_goals (try refine cu 20 λ K m=> ?_)
 all_goals
  go_simp;refine(qG H 0 3 _ R.o.wf (by omega) (by omega) (by omega)).mono ?_;rintro e _ ⟨rfl,rfl⟩;go_wp2_with fail;refine b_ m (J.o _ A.o) λ u=> ?_;clear m K
 rotate_right
 refine nK 23 37 (λ K m=> ?_) λ K m=> ?_;rotate_left;go_simp;obtain⟨A,G⟩:=oL A;refine b_ m (J.o _ A.o) λ u=> ?_;clear m K
 all_goals (try refine cu 23 λ K m=> ?_)
 all_goals
  go_simp;refine(qG at_ 0 50 _ R.o.wa (by omega) (by omega) (by omega)).mono ?_;rintro e _ ⟨rfl,rfl⟩;go_wp2_with fail;refine b_ m (J.o _ A.o) λ u=> ?_;clear m K
 rotate_right
 refine nK 26 37 (λ K m=> ?_) λ K m=> ?_;rotate_left;go_simp;obtain⟨A,G⟩:=oL A;refine b_ m (J.o _ A.o) λ u=> ?_;clear m K
 all_goals (try refine cu 26 λ K m=> ?_)
 all_goals
  go_simp;refine(qG E 0 60 _ R.o.wn (by omega) (by omega) (by omega)).mono ?_;rintro e _ ⟨rfl,rfl⟩;go_wp2_with fail;refine b_ m (J.o _ A.o) λ u=> ?_;clear m K
 rotate_right
 refine nK 32 37 (λ K m=> ?_) λ K m=> ?_;rotate_left;go_simp;obtain⟨A,G⟩:=oL A;refine b_ m (J.o _ A.o) λ u=> ?_;clear m K
 all_goals (try refine cu 32 λ K m=> ?_)
 all_goals
  go_simp;refine(qG sn 0 4 _ R.o.ws (by omega) (by omega) (by omega)).mono ?_;rintro e _ ⟨rfl,rfl⟩;go_wp2_with fail;refine b_ m (J.o _ A.o) λ u=> ?_;clear m K
 rotate_right
 refine nK 35 37 (λ K m=> ?_) λ K m=> ?_;rotate_left;go_simp;obtain⟨A,G⟩:=oL A;refine b_ m (J.o _ A.o) λ u=> ?_;clear m K
 all_goals (try refine cu 35 λ K m=> ?_)
 all_goals
  go_simp;refine(nQ.o _).mono ?_;rintro e _ ⟨rfl,rfl⟩;go_wp2_with fail;refine b_ m (J.o _ A.o) λ u=> ?_;clear m K
 rotate_right
 all_goals (refine aO 36 u ?_)
 refine cu 37 λ K m=> ?_;go_simp;obtain⟨A,G⟩:=oL A;refine b_ m (J.o _ A.o) λ u=> ?_;clear m K
 all_goals
  refine cu 38 λ K m=> ?_;refine bL rfl 32 _ _ rfl _ (opC ⟨I,s1,s2,bH H 0 3,bH at_ 0 50,bH E 0 60,M.tmod 12,bH sn 0 4,B⟩ D F) rfl rfl _ G.o.1 qH rfl (oq _ _ _) ?_;intro w5 aH;have Q:=acp (uH.of bf.o BK.o tO.o A.o G.o.2 aH);clear aH;refine o_ m ?_;clear u m K;have y0:=Q.o.kind;have y7:=Q.o.snap;obtain⟨z0,z1,z2,z3,z4,z5,z6,z7,z8,zf⟩:=Q.o.all;dsimp only at y0 y7 z0 z1 z2 z3 z4 z5 z6 z7 z8;obtain⟨rT,jG⟩:=Q.o.put;have P:=acp (And.intro rT jG);clear rT jG;by_cases h3:I=3
  ·subst h3;cases hs:(sn.tmod 3 !=0)
   case false=>
    go_wp2_with (refine aj (by rfl) 32 _ _ (by rfl) (w.heap.size+1) (opC ⟨3,s1,s2,bH H 0 3,bH at_ 0 50,bH E 0 60,M.tmod 12,bH sn 0 4,B⟩ D F) (by rfl) (by rfl) _ Q.o.res qH rfl (oq _ _ _) ?_;intro w6 z;have C:=acp z;clear z);exact zy rfl rfl rfl C.o.1 (qI R.o YR.o jo.o N.o u_.o NH.o (.inl rfl) rfl rfl rfl rfl rfl (C.o.below Q.o.below (ab7 _)))
   case true=>
    go_wp2_with (refine aj (by rfl) 32 _ _ (by rfl) (w.heap.size+1) (opC ⟨3,s1,s2,bH H 0 3,bH at_ 0 50,bH E 0 60,M.tmod 12,0,B⟩ D F) (by rfl) (by rfl) _ P.o.1 qH rfl (oq _ _ _) ?_;intro w6 z;have C:=acp z;clear z);exact zy rfl rfl rfl C.o.1 (qI R.o YR.o jo.o N.o u_.o NH.o (.inr rfl) rfl rfl rfl rfl rfl (C.o.below P.o.2 (ab7 _)))
  ·have e3:(I==3)=false:=by simpa using h3
   clear h3;by_cases aC:I=11
   ·subst aC;cases hs:(sn.tmod 3 !=0)
    case false=>
     go_wp2_with (refine aj (by rfl) 32 _ _ (by rfl) (w.heap.size+1) (opC ⟨11,s1,s2,bH H 0 3,bH at_ 0 50,bH E 0 60,M.tmod 12,bH sn 0 4,B⟩ D F) (by rfl) (by rfl) _ Q.o.res qH rfl (oq _ _ _) ?_;intro w6 z;have C:=acp z;clear z);exact zy rfl rfl rfl C.o.1 (qI R.o YR.o jo.o N.o u_.o NH.o (.inl rfl) rfl rfl rfl rfl rfl (C.o.below Q.o.below (ab7 _)))
    case true=>
     go_wp2_with (refine aj (by rfl) 32 _ _ (by rfl) (w.heap.size+1) (opC ⟨11,s1,s2,bH H 0 3,bH at_ 0 50,bH E 0 60,M.tmod 12,0,B⟩ D F) (by rfl) (by rfl) _ P.o.1 qH rfl (oq _ _ _) ?_;intro w6 z;have C:=acp z;clear z);exact zy rfl rfl rfl C.o.1 (qI R.o YR.o jo.o N.o u_.o NH.o (.inr rfl) rfl rfl rfl rfl rfl (C.o.below P.o.2 (ab7 _)))
   ·have bq:(I==11)=false:=by simpa using aC
    clear aC;by_cases aA:I=12
    ·subst aA;cases hs:(sn.tmod 3 !=0)
     case false=>
      go_wp2_with (refine aj (by rfl) 32 _ _ (by rfl) (w.heap.size+1) (opC ⟨12,s1,s2,bH H 0 3,bH at_ 0 50,bH E 0 60,M.tmod 12,bH sn 0 4,B⟩ D F) (by rfl) (by rfl) _ Q.o.res qH rfl (oq _ _ _) ?_;intro w6 z;have C:=acp z;clear z);exact zy rfl rfl rfl C.o.1 (qI R.o YR.o jo.o N.o u_.o NH.o (.inl rfl) rfl rfl rfl rfl rfl (C.o.below Q.o.below (ab7 _)))
     case true=>
      go_wp2_with (refine aj (by rfl) 32 _ _ (by rfl) (w.heap.size+1) (opC ⟨12,s1,s2,bH H 0 3,bH at_ 0 50,bH E 0 60,M.tmod 12,0,B⟩ D F) (by rfl) (by rfl) _ P.o.1 qH rfl (oq _ _ _) ?_;intro w6 z;have C:=acp z;clear z);exact zy rfl rfl rfl C.o.1 (qI R.o YR.o jo.o N.o u_.o NH.o (.inr rfl) rfl rfl rfl rfl rfl (C.o.below P.o.2 (ab7 _)))
    ·have bD:(I==12)=false:=by simpa using aA
     clear aA;go_wp2_with (refine aj (by rfl) 32 _ _ (by rfl) (w.heap.size+1) (opC ⟨I,s1,s2,bH H 0 3,bH at_ 0 50,bH E 0 60,M.tmod 12,bH sn 0 4,B⟩ D F) (by rfl) (by rfl) _ Q.o.res qH rfl (oq _ _ _) ?_;intro w6 z;have C:=acp z;clear z);exact zy rfl rfl rfl C.o.1 (qI R.o YR.o jo.o N.o u_.o NH.o (.inl rfl) rfl rfl rfl rfl rfl (C.o.below Q.o.below (ab7 _)))
theorem Zz{S:Nat->Prop}(w:World)(x:iI)(B:Jb x)(m:Mx)(y:Nat)(u:x.data.length<=y)(z:ah S w m x.data.length (x.data.map bv)):
  Dy 18 #[.agg (opC x m y)] w (Kl S w x m):=by
 obtain⟨C,A,D,H,at_,G,E,sn,F⟩:=x;exact Zy w C A D H at_ G E sn F B m y u z
theorem infoOp:(Tryz.prog.info? 32).map (λ i=>(i.zero,i.size,i.bytes))=some (some (.agg #[.int .i64 0,.string ⟨#[]⟩,.string ⟨#[]⟩,.int .i64 0,.int .i64 0,.int .i64 0,.int .u64 0,.int .i64 0,.slice none 0 0]),9,104):=by kernel_rfl
theorem F9.fit{x y:iI}(h:F9 x y)(m:Jb x):mF y:=by
 have E:=kU x.fd 0 3 (by omega);have A:=kU x.at_ 0 50 (by omega);have D:=kU x.n 0 60 (by omega);have z:=rD h.path;have C:=rD h.bT;have B:=m.wt;have u:=h.snap;exact⟨by rw[h.kind];exact m.wk,by omega,by omega,by rw[h.data,List.length_take];omega,by rw[h.fd];omega,by rw[h.at_];omega,by rw[h.n];omega,by omega,by rw[h.aL];omega⟩
def OpsC(W:World):List Value->List iI->Prop
 |vs,[]=>vs=[]
 |vs,x::r=>∃y u m,vs=(opC x y u).toList++m/\x.data.length<=u/\ah (Old W) W y x.data.length (x.data.map bv)/\OpsC W m r
theorem OpsC.len{W:World}:∀{vs:List Value} {l:List iI},OpsC W vs l->vs.length=l.length*9
 |_,[],h=>by have m:_=[]:=h;rw[m];rfl
 |_,x::r,⟨A,C,z,m,y,B,u⟩=>by
  rw[m,List.length_append,u.len,List.length_cons];show 9+_=_;omega
theorem OpsC.add{W:World}{x:iI}{m:Mx}{z:Nat}(B:x.data.length<=z)(A:ah (Old W) W m x.data.length (x.data.map bv)):∀{vs:List Value} {l:List iI},OpsC W vs l->OpsC W (vs++(opC x m z).toList) (l++[x])
 |_,[],h=>by have u:_=[]:=h;rw[u];exact⟨m,z,[],by simp,B,A,rfl⟩
 |_,y::r,⟨C,G,F,u,E,H,D⟩=>⟨C,G,F++_,by rw[u,List.append_assoc],E,H,OpsC.add B A D⟩
theorem OpsC.at_{W:World}:∀{vs:List Value} {l:List iI} {k:Nat} {x:iI},OpsC W vs l->l[k]? =some x->∃z u,x.data.length<=u/\ah (Old W) W z x.data.length (x.data.map bv)/\∀j,j<9->vs[k*9+j]? =(opC x z u)[j]?
 |_,[],k,x,_,m=>by simp at m
 |_,y::r,0,x,⟨z,u,K,A,E,F,D⟩,m=>by
  have B:y=x:=aat m;subst B;refine⟨z,u,E,F,λ j C=> ?_⟩;rw[A,aaY (by show _<9;omega),Array.getElem?_toList];congr 1;omega
 |_,y::r,k+1,x,⟨z,u,K,A,E,F,D⟩,m=>by
  obtain⟨J,H,I,M,G⟩:=OpsC.at_ D (k:=k) (x:=x) (by simpa using m);refine⟨J,H,I,M,λ j C=> ?_⟩;rw[A,aax (by show 9<=_;omega),<-G j C];congr 1;show(k+1)*9+j-9=_;omega
def Ga(W w:World)(u:Nat)(e:Ending)(w':World):Prop:=
 ∃a n c z m,e= .returned (.slice a n c)/\n<=u/\z.length=n/\(∀y∈z,mF y)/\OpsC W m z/\ah (λ b=>w.heap.size<=b/\b<w'.heap.size) w' a (n*9) m/\Below w.heap.size w w'
theorem Vn{W w:World}(m:Nat)(hm:m<=60)(hb:Below W.heap.size W w)(a:Mx)(A aN:Nat)(H:R6 W a A):
  Dy 5 #[.slice a A aN,.int .i64 (m:Int)] w (Ga W w m):=by
 obtain⟨i0,hi,aA,aJ,aH⟩:=aaq infoOp;have HI:=acp (And.intro hi (And.intro aA (And.intro aJ aH)));have bf:=H.1;unfold maxLen at bf;have HO:=acp H;have HB:=acp hb;clear hi aA aJ aH H hb;go_enter Tryz.func5,Tryz.ntmps5;go_wp2_with fail
 go_loopw [5,6] (λ ov iv wr=>∃(k c:Nat) (R:Mx) (S:List iI) (u:List Value),iv= .int .i64 k/\ov= .slice R k c/\k<=m/\S.length=k/\(∀y∈S,mF y)/\OpsC W u S/\wr.ownsRow w.heap.size 32 9 (.slice R k c) k u/\Below w.heap.size w wr) (λ _ iv _=>m-(intOf iv).toNat)
 case atStart=>exact⟨0,0,none,[],[],rfl,rfl,by omega,rfl,λ y hy=>(by cases hy),rfl,⟨rfl,.inl ⟨rfl,rfl⟩⟩,Below.refl _ _⟩
 case round=>
  obtain⟨k,c,R,S,u,rfl,rfl,hk,E,C,D,K,N⟩:=hrel;have HF:=acp (And.intro E (And.intro C D));have aD:=acp K;have AQ:=acp N;have bS:=N.size;clear E C D K N;by_cases bq:k<A/\k<m
  ·obtain⟨av,bT⟩:=bq;obtain⟨b,cB,rfl,bD,aF⟩:=HO.o.2 (by omega);obtain⟨x,P,dc,U⟩:=aF k av;obtain⟨d0,d1,d2,d3,d4,d5,d6,d7,d8⟩:=U.up (HB.o.trans (AQ.o.mono HB.o.size)) bD;have HX:=acp U;have V:decide ((k:Int)<(A:Int))=true:=by simp;omega
   have bn:decide ((k:Int)<(m:Int))=true:=by simp;omega
   have dn:(0:Int)<=(k:Int):=by omega
   have i1:(k:Int)<(A:Int):=by omega
   have O:=acp (Zz wr x U.ok P dc U.cap (U.row.below (HB.o.trans (AQ.o.mono HB.o.size)) acs));unfold opC at O;clear U aF;go_wp2_with fail;refine O.o.mono ?_;rintro e Q ⟨y,G,rfl,J,M,aB,I⟩;have dG:=I.size;have HY:=acp (J.fit HX.o.ok);have dV:acr (ah (Old W) W P y.data.length (y.data.map bv)):=acp (by
    have h9:=HX.o.row.take 40;rw[show min x.data.length 40=y.data.length by rw[J.data,List.length_take,Nat.min_comm],<-aaJ,<-J.data]at h9;exact h9)
   have Y:=acp M;have aL:=acp (AQ.o.trans (I.mono AQ.o.size));have F:acr ((Q.alloc (.cells (opC y P G) 32)).ownsRow w.heap.size 32 9 (.slice R k c) k u):=acp (f_ (f_ aD.o I) (wall _ _));have ak:acr (ah (λ b=>b=Q.heap.size) (Q.alloc (.cells (opC y P G) 32)) (some ⟨Q.heap.size,0,none⟩) (1*9) [.int .i64 y.kind,.string (strOf y.path),.string (strOf y.bT),.int .i64 y.fd,.int .i64 y.at_,.int .i64 y.n,.int .u64 y.aL,.int .i64 y.snap,.slice P y.data.length G]):=acp (jr (w:=Q) (opC y P G).toList 32 (by show 9<=maxLen;unfold maxLen;omega));unfold opC at F ak;clear J M aB I O d0 d1 d2 d3 d4 d5 d6 d7 d8;unfold opC;go_wp2_with (at_builtin;refine jM rfl _ _ 22 rfl w.heap.size 32 i0 _ 9 104 Tryz.underlying22 HI.o.1 HI.o.2.1 HI.o.2.2.1 HI.o.2.2.2 rfl (by omega) (.slice R k c) k u rfl F.o (some ⟨Q.heap.size,0,none⟩) 1 1 [.int .i64 y.kind,.string (strOf y.path),.string (strOf y.bT),.int .i64 y.fd,.int .i64 y.at_,.int .i64 y.n,.int .u64 y.aL,.int .i64 y.snap,.slice P y.data.length G] (by rfl) ak.o (by simp[Value.oneCell']) (by unfold maxLen;omega) (by omega) (by simp;omega) ?_;intro A1 k1 w4 kN aC Z;have Xw:=acp kN;have Z0:=acp aC;clear kN aC Z);go_roundw
   case rel=>
    obtain⟨E,C,D⟩:=HF.o;refine⟨k+1,_,_,S++[y],_,by go_num,rfl,by omega,by rw[List.length_append,aaM];omega,λ z hz=> ?_,OpsC.add Y.o dV.o D,Xw.o,?_⟩
    ·rw[aaA,List.mem_singleton]at hz;rcases hz with hz|rfl
     ·exact C z hz
     ·exact HY.o
    ·exact(aL.o.trans ((wall Q _).mono (by omega))).trans ((Keeps.grown Z0.o).bS (B:=w.heap.size) (by rw[Pe];omega) λ y hy e=>by have:=aZ F.o y e;omega)
   case measure=>simp[intOf];omega
  ·obtain⟨E,C,D⟩:=HF.o;have X:=(ah.kg aD.o (by unfold maxLen;omega)).2.2;have uV:acr (Ga W w m (.returned (.slice R k c)) wr):=acp ⟨R,k,c,S,u,rfl,hk,E,C,D,X,AQ.o⟩;clear E C D X;by_cases av:k<A
   ·have V:decide ((k:Int)<(A:Int))=true:=by simp;omega
    have bn:decide ((k:Int)<(m:Int))=false:=by simp;omega
    go_wp2_with fail;go_ret;exact uV.o
   ·have V:decide ((k:Int)<(A:Int))=false:=by simp;omega
    go_wp2_with fail;go_ret;exact uV.o
theorem Vo{E J G F:Nat->Prop}(r:tZ)(A y z m:Mx)(C D B u:Nat)(w:World)
  (K:ah E w A r.data.length (r.data.map bv))(I:ah J w z r.data.length (r.data.map bv))(N:aW G w y r.names.length (r.names.map strOf))(H:aW F w m r.names.length (r.names.map strOf)):
  Dy 12 #[.agg (eF r A y C D),.agg (eF r z m B u)] w λ M w'=>M= .returned (.bool true)/\Below w.heap.size w w':=
 QC r.er r.n r.data (r.names.map strOf) r.data.length r.names.length _ _ _ _ _ _ A y z m C D B u w K I N H
section
variable{W w w':World}{o o':Mark}{i B sb v n d k:Nat}{V:oo}{x:iI}
theorem Jc(h:eB W o i B sb w v n d V):Dy 7 #[ptr v] w λ e w'=>∃a c,e= .returned (.slice a 32 c)/\32<=c/\ah (λ b=>w.heap.size<=b/\b<w'.heap.size) w' a 32 (V.L.head.map bv)/\Below w.heap.size w w':=by
 obtain⟨q,p,J,O,I,K,z,E,A,C⟩:=h.at_;obtain⟨N,P,M,-⟩:=kS z;have D:=acp (Qg A);clear h z E A C;go_enter Tryz.func7,Tryz.ntmps7;go_wp2_with fail;refine D.o.mono ?_;rintro e H ⟨a,c,rfl,m,u,y⟩;have G:=acp y;have F:=acp u;clear y u;go_wp2_with fail;go_ret;exact⟨a,c,rfl,m,F.o,G.o⟩
theorem Nk{b:I8}{u:Prop}{c:Int}(h:dw o i w d n b u c):Dy 13 #[ptr d] w λ e w'=>∃a m,e= .returned (.slice a b.length m)/\ah (λ x=>w.heap.size<=x/\x<w'.heap.size) w' a b.length (b.map bv)/\Below w.heap.size w w':=by
 obtain⟨F,sb,D,l,M,A,G,E,z,H⟩:=h.at_;rw[<-z];refine(Qc w A).mono ?_;rintro e w' ⟨v,rfl,y,B⟩;obtain⟨g,c,rfl,-,C⟩:=y.row;exact⟨_,c,rfl,C,B⟩
theorem vd_G(h:eB W o i B sb w v n d V)(G:0<i)(J:i<B)(z:sb=B\/sb=B+14)(u:D6 n k V)(K:k<=1000)(D:mF x)(E:Mx)(A:Nat)(C:ah (Free o w) w E x.data.length (x.data.map bv))(y:x.data.length<=A)(m:Int)(H:W.cell? ⟨2,0,none⟩=some (.int .i64 m))(F:Value)(I:F= .agg (opC x E A)):
  D6 n (k+1) (jV n V x).2/\Dy 6 #[ptr v,F] w (FZ W o i B w v n d (jV n V x).2 (jV n V x).1):=by
 subst I;obtain⟨q,p,N,P,M,O,-,k2,-⟩:=h.at_;exact⟨Ke u (by omega) k2.ok.next.1 D,M9 h (by omega) (by omega) J z (by have:=u.cs;omega) x (fit_ok D) D u.log (by omega) (by have:=u.c;omega) ⟨u.gen.1,by have:=u.gen.2;omega⟩ (u.ids.do_ k2.ok.next.1 x) E A C m y H⟩
theorem Gb(u:Marks W o w){a:Mx}{m:Nat}{vs:List Value}(z:ah (Old W) W a m vs):ah (Free o w) w a m vs:=
 (z.below u.below acs).mono λ b (A:b<W.heap.size)=>⟨Wy λ y=>by have:=(u.new b y).1;omega,Pd A u.below.size⟩
theorem Km{I:Nat->Prop}{m:Nat}(h:Step (λ _=>0) I W o w)(A:m≠0)(z:¬I m):∀x,o x≠m:=λ x y=>by
 by_cases u:x<W.heap.size
 ·have:=h.old x u;omega
 ·exact z (y▸(h.new x (by omega) (by omega)).1)
theorem Jd{S:Nat->Prop}{a:Mx}{m j:Nat}{y:List Value}{B:List iI}(C:ah S w a (m*9) y)(E:OpsC W y B)(H:B[j]? =some x)(K:j<m):∃b u A z,a=some ⟨b,u,none⟩/\x.data.length<=z/\ah (Old W) W A x.data.length (x.data.map bv)/\w.cell? ⟨b,u+j*9,none⟩=some (.int .i64 x.kind)/\w.cell? ⟨b,u+j*9+1,none⟩=some (.string (strOf x.path))/\w.cell? ⟨b,u+j*9+2,none⟩=some (.string (strOf x.bT))/\w.cell? ⟨b,u+j*9+3,none⟩=some (.int .i64 x.fd)/\w.cell? ⟨b,u+j*9+4,none⟩=some (.int .i64 x.at_)/\w.cell? ⟨b,u+j*9+5,none⟩=some (.int .i64 x.n)/\w.cell? ⟨b,u+j*9+6,none⟩=some (.int .u64 x.aL)/\w.cell? ⟨b,u+j*9+7,none⟩=some (.int .i64 x.snap)/\w.cell? ⟨b,u+j*9+8,none⟩=some (.slice A x.data.length z):=by
 obtain⟨A,z,G,F,J⟩:=E.at_ H;obtain⟨b,u,rfl,-,-,D⟩:=C.at_ (by omega);have e:=λ i (I:i<9)=>(D (j*9+i) (by omega)).trans (J i I);exact⟨b,u,A,z,rfl,G,F,e 0 (by omega),e 1 (by omega),e 2 (by omega),e 3 (by omega),e 4 (by omega),e 5 (by omega),e 6 (by omega),e 7 (by omega),e 8 (by omega)⟩
end
theorem Gc{o:Mark}{w:World}{r g:Nat}{x:iI}{m:Mx}{u:Nat}(h:Z_ r o w g x m u):w.cell? ⟨g,0,none⟩=some (.int .i64 x.kind)/\w.cell? ⟨g,1,none⟩=some (.string (strOf x.path))/\w.cell? ⟨g,2,none⟩=some (.string (strOf x.bT))/\w.cell? ⟨g,3,none⟩=some (.int .i64 x.fd)/\w.cell? ⟨g,4,none⟩=some (.int .i64 x.at_)/\w.cell? ⟨g,5,none⟩=some (.int .i64 x.n)/\w.cell? ⟨g,6,none⟩=some (.int .u64 x.aL)/\w.cell? ⟨g,7,none⟩=some (.int .i64 x.snap)/\w.cell? ⟨g,8,none⟩=some (.slice m x.data.length u):=
 zw h.at_
theorem Nl{H:Type}{enc:TypeId×Value->H}{W:World}{y:Nat}{v0:Value}{z:DataW H}{A:List MemPlace}(F:DataW.Trod enc Tryz.prog W 0 (λ _=>true) true 22 v0 z A)(E:∀x∈A,x.block<W.heap.size)(D:Value.okWide Tryz.prog W .any y 22 v0)(C:∀n∈z.weights Tryz.prog 22,n<=reachBytes):
  ∃a m u,v0= .slice a m u/\m<=u/\R6 W a m:=by
 obtain⟨a0,m,u,rfl⟩:=okWide_slice Tryz.underlying22 D;obtain⟨B,G⟩:=F;exact Zx G E C
theorem R7{n:Nat}(u:64<=n){b:I8}(z:b.length=n*128)(y:((fU nH).length:Int)<=eT n)(B:0<fM n){c:Int}(C:c<=100000)(m:Int):D6 n 30 (newV n b c m):=by
 have h:=(D6.begun (J_ u z y (c:=10000) (Int.le_refl _) m) B).mono (k':=30) (by omega);have e:(newV n b c m).c=c:=rfl;have A:(newV n b c m).c<=10000+3000*((30:Nat):Int):=by rw[e];omega
 exact⟨h.log,h.cs,A,h.gen,h.ids⟩
theorem R8:((fU nH).length:Int)<=eT 200:=by decide
theorem Nn{W w:World}{o:Mark}(C:Marks W o w)(i B:Nat)(m:0<i)(y:i<B)(u:∀x,o x≠B+15):Dy 4 #[.int .i64 200] w λ e w'=>∃d v q A z,e= .returned (.tuple #[ptr d,ptr v,ptr q])/\Step o (Vm i B) w A w'/\eB W A i B (B+14) w' v 200 d (newV 200 (List.replicate (200*128) 0) 10000 z):=
 M6 C i B m y u 200 (by omega) (by omega) R8
theorem R9{W w:World}(z:Below W.heap.size W w)(a:Mx)(m y:Nat)(u:R6 W a m):Dy 5 #[.slice a m y,.int .i64 20] w (Ga W w 20):=Vn 20 (by omega) z a m y u
abbrev Ma(j:Nat):Nat->Prop:=λ m=>j<=m/\m<=j+21
def ZA(W:World)(o:Mark)(j:Nat)(w:World)(n d:Nat)(id:I8)(c:Int)(z:uD)(k:Nat)(L:dQ)(q:Bool)(e:Ending)(w':World):Prop:=
 ∃m,Step o (Ma j) w m w'/\cond q (∃q p y B u A,e= .returned (.tuple #[ptr q,ptr p,.agg (sM n y B z.gen z.seq k 0 u A),.int .i64 0])/\vo W m (j+14) w' q c (gJ (gJ L))/\gK m (j+20) w' p n d ⟨k,z.head,z.seq+1,[]⟩/\ah (Free m w') w' y 16 (id.map bv)/\ah (Free m w') w' u 32 (z.head.map bv))
  (e= .returned (.tuple #[.pointer none,.pointer none,.agg rQ,.int .i64 40]))
theorem ZB{S S':Nat->Prop}{a y:Mx}{n z c c':Nat}{u m:I8}{w:World}{q:Bool}(B:q=decide (u=m))(h:ah S w a n (u.map bv))(C:ah S' w y z (m.map bv)):
  Dy 112 #[.slice a n c,.slice y z c'] w λ e w'=>e= .returned (.bool q)/\w=w':=by
 by_cases A:u=m
 ·subst A;rw[B,aak rfl];exact qB a y n z c c' u w h C
 ·rw[B,aad A];exact IU a y n z c c' u m A w h C
section
variable{W w:World}{o:Mark}{i j n d B:Nat}
theorem Vp{b:I8}{cl:Prop}{cw c:Int}(hD:dw o i w d n b cl cw)(hM:Marks W o w)(hj:0<j)(bn:i<j)(hf:∀x,o x≠j+15)(id:I8)(x y z:uD)(M N L:dQ)(k:Nat)(hI:RF n b id c x y M N)(hN:RG x y z M N L)(hL:Last n b id z k)(hd:I8)(a:Mx)(ac:Nat)(hr:ah (Free o w) w a 32 (hd.map bv))(q:Bool)(hq:q=decide (z.head=hd)):
  Dy 42 #[ptr d,.slice a 32 ac] w (ZA W o j w n d id c z k L q):=by
 obtain⟨w1,H⟩:∃w1,w1=w.alloc (.cells rQ 60):=⟨_,rfl⟩;have aH:Below w.heap.size w w1:=by rw[H];exact wall w _
 have Y:w1.heap[w.heap.size]? =some (.cells rQ 60 (0,0)):=by rw[H];exact(MapKept.heap_alloc w _).1
 have aB:w.heap.size<w1.heap.size:=(qW.1 Y).1;obtain⟨o1,F,aA,bf⟩:=cK hM (j+21) (λ y=>y=w.heap.size) (w':=w1) (λ y hy=>by subst hy;omega) aH;have X:¬(0=j+21):=by omega
 have S:=hM.step X F;have Y1:=acp (FU (hD.step (by omega) F) S hj bn (miss hf (by omega) (λ e=>by omega) F) id x y z M N L k hI hN hL);have bq:=acp (hr.free X F);have yH:=acp (aA _ rfl);have Xk:=acp F;have qP:=acp Y;have HM:=acp hM;have jL:=acp S;unfold rQ at H;have aN:=acp H;clear hD hM hI hN hL hr aH Y F aA bf S H hf;go_enter Tryz.func42,Tryz.ntmps42;go_wp2_with fail;rw[<-aN.o];refine Y1.o.mono ?_;rintro e A ⟨qs,p,ia,ic,Z,V,o2,rfl,D,G,aC,ak,aL⟩;have aF:¬Mm j 0:=λ e=>by have:=e.1;omega
 obtain⟨u,E⟩:∃u,u=A.alloc (.cells (sM n ia ic z.gen z.seq k 0 Z V) 60):=⟨_,rfl⟩;have B:Below A.heap.size A u:=by rw[E];exact wall A _
 have I:u.heap[A.heap.size]? =some (.cells (sM n ia ic z.gen z.seq k 0 Z V) 60 (0,0)):=by rw[E];exact(MapKept.heap_alloc A _).1
 have av:A.heap.size<u.heap.size:=(qW.1 I).1;have dn:=D.keep.size;have xR:=acp (D.then_ jL.o aF B);have P:=acp (G.grow B);have bD:=acp (aC.grow G.marks B);have aD:=acp (ak.grow' B G.marks);have R:=acp (aL.grow' B G.marks);have cB:=acp ((bq.o.free aF D).grow' B G.marks);have Jl:o2 w.heap.size=j+21:=(D.old _ aB).trans yH.o;have J:u.heap[w.heap.size]? =some (.cells rQ 60 (0,0)):=(B.block _ (by omega)).trans ((D.block aB (by rw[yH.o];exact λ e=>by have:=e.2;omega)).trans qP.o);have pU:=acp J;have zT:=acp Jl;have Q8:=acp I;have Iz:=acp (ZB (c:=V) (c':=ac) hq R.o cB.o);obtain⟨f0,f1,f2,f3,f4,f5,f6,f7,f8⟩:=lW I;unfold sM at E⊢;have bS:=acp E;rw[E]at f0 f1 f2 f3 f4 f5 f6 f7 f8;clear D G aC ak aL B I Jl J E hq Y1;go_wp2_with fail;rw[<-bS.o]at f0 f1 f2 f3 f4 f5 f6 f7 f8⊢;refine Iz.o.mono ?_;rintro e _ ⟨rfl,rfl⟩;clear Iz;have h0:¬(0=j+21):=X;have st:Step o (Ma j) w o2 u:=(Xk.o.mono λ m hm=>⟨by omega,by omega⟩).trans (xR.o.mono λ m hm=>⟨hm.1,by have:=hm.2;omega⟩);have aJ:=acp st;clear st;cases q
 ·go_wp2_with (refine aj (by rfl) 60 _ _ (by rfl) w.heap.size rQ (by rfl) (by rfl) _ pU.o rR rfl (by simp[rQ,Value.oneCell']) ?_;intro wG O;have HG:=acp O;have Q:=acp (O.step P.o.marks zT.o);clear O);refine J9 rfl rfl rfl rfl rfl rfl HG.o.1 rfl ?_;exact⟨o2,aJ.o.trans (Q.o.mono λ m hm=>⟨by omega,by omega⟩),rfl⟩
 ·go_wp2_with fail;refine su ((λ w'=>w'.cell? ⟨A.heap.size,0,none⟩=some (.int .i64 (n:Int))/\w'.cell? ⟨A.heap.size,1,none⟩=some (.int .i64 ((n:Int)/4))/\w'.cell? ⟨A.heap.size,2,none⟩=some (.int .i64 (((n:Int)-1-2*((n:Int)/4))/8))/\w'.cell? ⟨A.heap.size,3,none⟩=some (.slice ia 16 ic)/\w'.cell? ⟨A.heap.size,4,none⟩=some (.int .u64 z.gen)/\w'.cell? ⟨A.heap.size,5,none⟩=some (.int .u64 z.seq)/\w'.cell? ⟨A.heap.size,6,none⟩=some (.int .i64 (k:Int))/\w'.cell? ⟨A.heap.size,7,none⟩=some (.int .i64 0)/\w'.cell? ⟨A.heap.size,8,none⟩=some (.slice Z 32 V))) ?_ λ U=> ?_
  ·exact lW (((Below.refl u.heap.size u).drew.block _ av).trans Q8.o)
  refine aM 0 U ?_;refine aM 1 U ?_;refine aM 2 U ?_;refine aM 3 U ?_;refine aM 4 U ?_;refine lJ 5 λ K hK=> ?_;refine bL (by rfl) 60 (.tmp 6) (.tmp 34) (by rfl) w.heap.size (sM n ia ic z.gen z.seq k 0 Z V) (by rfl) (by rfl) _ (((Below.refl u.heap.size u).drew.block _ (by omega)).trans pU.o) rR rfl (xO _ _ _ _ _ _ _ _ _) ?_;intro wG O;have Q:=acp (O.step (P.o.marks.grow (Below.refl u.heap.size u).drew) zT.o);have HG:=acp O;have bT:wG.heap[A.heap.size]? =some (.cells (sM n ia ic z.gen z.seq k 0 Z V) 60 (0,0)):=(O.2.1.block A.heap.size (by have:u.heap.size=u.drew.heap.size:=rfl;omega) (λ e:A.heap.size=w.heap.size=>by omega)).trans (((Below.refl u.heap.size u).drew.block _ av).trans Q8.o);clear O;refine kV hK (lW bT) λ U=> ?_;clear hK K;refine aM 6 U ?_;refine rH ?_;go_wp2_with fail;refine J9 rfl rfl rfl rfl rfl rfl HG.o.1 rfl ?_;have C:=(Below.refl u.heap.size u).drew;exact⟨o2,(aJ.o.then_ HM.o (λ e=>by have:=e.1;omega) C).trans (Q.o.mono λ m hm=>⟨by omega,by omega⟩),qs,p,ia,ic,Z,V,rfl,⟨(P.o.grow C).st.step h0 (by omega) (by omega) (by omega) Q.o,(P.o.grow C).marks.step h0 Q.o,P.o.ok⟩,(bD.o.grow P.o.marks C).step h0 (by omega) Q.o,(aD.o.grow' C P.o.marks).free h0 Q.o,(R.o.grow' C P.o.marks).free h0 Q.o⟩
theorem Vq{id b:I8}{cw:Int}{k:Nat}{head:I8}{next R t:Int}(X:dw o i w d n b True cw)(U:Marks W o w)(hB:0<B)(hi:i<B)(hf:∀x,o x≠B+15)(hR:Rest n id b k head next R t)(hk:k<fM n)(M:I8)(a:Mx)(ac:Nat)(hr:ah (Free o w) w a 32 (M.map bv)):
  Dy 11 #[ptr d,.slice a 32 ac] w λ e w'=>∃v o',e= .returned (.tuple #[v,.int .i64 (if head=M then 0 else 40)])/\Step o (Ma B) w o' w':=by
 obtain⟨ak,x,y,z,tx,ty,P,hN,N,aA,av,rfl,rfl,rfl⟩:=hR;obtain⟨q,E⟩:∃q,q=decide (z.head=M):=⟨_,rfl⟩;have K:=acp (Vp X U hB hi hf id x y z _ _ _ k P hN N M a ac hr q E);have aB:0<=z.seq:=by
  rcases hN with⟨h3,rfl,-⟩|⟨h3,rfl,-⟩
  ·exact P.ok0.mark.seq.1
  ·exact P.ok1.mark.seq.1
 have VB:=N.seq;have Z:=N.zero k acs hk;have HD:=acp X;have HM:=acp U;have H:¬Ma B 0:=λ e=>by have:=e.1;omega
 clear X U P hN N hr;unfold ZA at K;cases q
 ·rw[if_neg (of_decide_eq_false E.symm)];clear E;go_enter Tryz.func11,Tryz.ntmps11;go_wp2_with fail;refine K.o.mono ?_;rintro e D ⟨o1,A,(rfl:e=_)⟩;have O:=acp A;clear A K;unfold rQ;go_wp2_with fail
  go_ret2
  exact⟨_,o1,rfl,O.o.then_ HM.o H (wall D _)⟩
 ·rw[if_pos (of_decide_eq_true E.symm)];clear E;go_enter Tryz.func11,Tryz.ntmps11;go_wp2_with fail;refine K.o.mono ?_;rintro e D ⟨o1,A,qs,p,ia,ic,ha,hc,rfl,F,I,G,Y⟩;have O:=acp A;have Q:=acp F;have yO:=acp I;have V:=acp G;clear A F I G Y K;unfold sM;go_wp2_with fail;have u:Below D.heap.size D (D.alloc (.cells (sM n ia ic z.gen z.seq k 0 ha hc) 60)):=wall D _;have C:=FY (B:=B) ((HD.o.step (λ e=>by have:=e.1;omega) O.o).grow u) (Q.o.grow u) (yO.o.grow Q.o.marks u) hB hi (by omega) hk Z (by omega) z.gen z.seq k 0 id ia ha ic hc (V.o.grow' u Q.o.marks);unfold sM at C;refine C.mono ?_;rintro e w3 ⟨v,o3,rfl,J,S⟩;have xR:=acp (((O.o.then_ HM.o H u).trans (J.mono λ m hm=>⟨by omega,by omega⟩)));unfold sM at xR;clear J S C u;go_wp2_with fail
  go_ret2
  exact⟨_,o3,rfl,xR.o⟩
end
