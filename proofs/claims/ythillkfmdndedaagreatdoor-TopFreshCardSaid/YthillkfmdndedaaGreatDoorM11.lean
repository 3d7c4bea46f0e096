/- package -/
import Derived.Test.YthillkfmdndedaaGreatDoorM03
import Derived.Test.YthillkfmdndedaaGreatDoorM04
import Derived.Test.YthillkfmdndedaaGreatDoorM10
import Derived.WalkLawsBesides
import Derived.Deep.CutBlock
import Derived.Deep.DeepCutAuto
set_option maxRecDepth 100000
set_option maxHeartbeats 64000000
set_option linter.all false
namespace Go.Proofs.YthillkfmdndedaaGreatDoor
open Go.ChangeShapes Go.WideShapes Go.ChangeAt Go.RowKit
def bF(n:Int):Nat->List UInt8
 |0=>[]
 |s+1=>UInt8.ofNat ((n/2^(8*s)).toNat%256)::bF n s
structure bV(B:Nat)(w:World)(x:Nat)(v:Value)(bs:I8):Prop where
 head:w.heap[x]? =some (.cells #[v] 229 (0,0))
 own:w.ownsRow B 5 1 v bs.length (bs.map bv)
 low:B<=x
 apart:v.ownBlock≠some x
def lG(B:Nat)(w:World)(x:Nat)(v:Value)(u:I8)(m:Value)(w':World):Prop:=
 bV B w' x m u/\Keeps (λ b=>b=x\/v.ownBlock=some b) w w'/\∀b,m.ownBlock=some b->v.ownBlock=some b\/w.heap.size<=b
def pz(B:Nat)(w:World)(x:Nat)(v:Value)(m:I8)(e:Ending)(w':World):Prop:=e= .returned (.tuple #[])/\∃u,lG B w x v m u w'
section
variable{B x:Nat}{w w1 w2:World}{v v1 v2:Value}{bs bs1 bs2:I8}
theorem bV.lt(h:bV B w x v bs):x<w.heap.size:=(qW.1 h.head).1
theorem bV.cell(h:bV B w x v bs):w.cell? ⟨x,0,none⟩=some v:=by simp[World.cell?,h.head]
theorem bV.frozen(h:bV B w x v bs):w.frozen? ⟨x,0,none⟩=false:=by simp[World.frozen?,h.head]
theorem bV.kept(h:bV B w x v bs)(z:w.heap.size<=w1.heap.size)(u:w1.heap[x]? =w.heap[x]?)(m:∀b,v.ownBlock=some b->w1.heap[b]? =w.heap[b]?):bV B w1 x v bs:=
 ⟨u.trans h.head,bK h.own λ b y _=>m b y,h.low,h.apart⟩
theorem bV.below(h:bV B w x v bs)(m:Below w.heap.size w w1):bV B w1 x v bs:=
 h.kept m.size (m.block x h.lt) λ b u=>m.block b (iK h.own b u)
theorem lG.refl(h:bV B w x v bs):lG B w x v bs v w:=⟨h,Keeps.refl _ _,λ b m=> .inl m⟩
theorem lG.trans(h:lG B w x v bs1 v1 w1)(k:lG B w1 x v1 bs2 v2 w2):lG B w x v bs2 v2 w2:=by
 obtain⟨E,y,C⟩:=h;obtain⟨k1,k2,k3⟩:=k;have D:=y.size;refine⟨k1,y.trans k2 λ b z u=> ?_,λ b z=> ?_⟩
 ·rcases u with m|m
  ·exact .inl m
  ·rcases C b m with A|A
   ·exact .inr A
   ·omega
 ·rcases k3 b z with m|m
  ·exact C b m
  ·exact .inr (by omega)
theorem lG.below(h:lG B w x v bs v1 w1)(u:Below w1.heap.size w1 w2):lG B w x v bs v1 w2:=by
 obtain⟨A,m,z⟩:=h;exact⟨A.below u,m.trans (Keeps.below u) (λ b y C=>by have:=m.size;omega),z⟩
end
theorem QK{B x:Nat}{wr wa z:World}{E D:Value}{N u:I8}(h:bV B wr x E N)(A:Below wr.heap.size wr wa)(G:z.ownsRow B 5 1 D u.length (u.map bv))(C:wa.grownBy z E.ownBlock)(H:D.ownBlock=E.ownBlock\/D.ownBlock=some wa.heap.size):lG B wr x E u D (z.setCell ⟨x,0,none⟩ D):=by
 have M:=h.lt;have J:=A.size;have Q:=C.size;have I:z.heap[x]? =some (.cells #[E] 229 (0,0)):=(C.block x (by omega) (λ e=>h.apart e.symm)).trans ((A.block x M).trans h.head);have F:D.ownBlock≠some x:=by
  rcases H with m|m
  ·rw[m];exact h.apart
  ·rw[m];intro e;simp only[aae]at e;omega
 refine⟨⟨?_,bK G λ b y P=>aI z _ _ _ (λ e=>F (by rw[y,e])),h.low,F⟩,⟨C.os.trans A.os,C.tape.trans A.tape,C.output.trans A.output,by rw[size_set];omega,λ b y K=> ?_⟩,λ b y=> ?_⟩
 ·simp only[World.setCell,Array.getElem?_modify,I];simp
 ·have m:b≠x:=λ e=>K (.inl e);have O:E.ownBlock≠some b:=λ e=>K (.inr e);exact(aI z _ _ _ m).trans ((C.block b (by omega) (λ e=>O e.symm)).trans (A.block b y))
 ·rcases H with m|m
  ·exact .inl (m▸y)
  ·rw[m]at y;cases y;exact .inr J
theorem Ho{n:Int}(z:0<=n)(k:Nat):IntKind.u8.wrap (n/2^(8*(k:Int)).toNat)=((UInt8.ofNat ((n/2^(8*k)).toNat%256)).toNat:Int):=by
 have m:(8*(k:Int)).toNat=8*k:=by omega
 rw[m];have u:0<=n/2^(8*k):=Int.ediv_nonneg z (Int.pow_nonneg (by decide));generalize n/2^(8*k)=y at u;have A:(UInt8.ofNat (y.toNat%256)).toNat=y.toNat%256:=by simp
 rw[A];simp only[IntKind.wrap,IntKind.bits,IntKind.signed];simp;omega
theorem DI{B x:Nat}{w:World}{v:Value}{C:I8}(h:bV B w x v C)(n:Int)(s:Nat)(hn:0<=n)(av:n<=18446744073709551615)(hs:s<=8)(hl:C.length<=100000000):
  Dy 146 #[ptr x,.int .u64 n,.int .i64 s] w (pz B w x v (C++bF n s)):=by
 obtain⟨i8,hi⟩:∃i,Tryz.prog.info? 5=some i/\i.zero=some (.int .u8 0)/\i.size=1/\i.bytes=1:=aaq (by kernel_rfl);have R:=acp hi;have HW:=acp h;clear h hi;go_enter Tryz.func146,Tryz.ntmps146;go_wp2
 go_loopw [6] (λ W wr=>∃(k:Nat) (y:I8) (A:Value),k<=s/\W= .int .i64 ((k:Int)-1)/\y++bF n k=bF n s/\y.length+k=s/\lG B w x v (C++y) A wr) (λ W _=>((intOf W)+1).toNat)
 case atStart=>exact⟨s,[],v,Nat.le_refl _,by go_num,rfl,by simp,by simpa using lG.refl HW.o⟩
 case round=>
  obtain⟨k,y,A,hk,rfl,z,aD,Q⟩:=hrel;have u:=acp Q;have c0:=Q.1.cell;have f0:=Q.1.frozen;clear Q;cases k with
  |zero=>
   have V:=acp z;have e0:((0:Nat):Int)-1= -1:=by omega
   rw[e0];clear z;go_wp2_with fail
   go_end0
   refine⟨rfl,A,?_⟩;have O:=V.o;unfold bF at O;rw[aaz]at O;cases s with
   |zero=>
    have:y=[]:=aac (by omega);subst this;exact u.o
   |succ s=>
    rw[<-show y=bF n (s+1)from by rw[O];rfl];exact u.o
  |succ k=>
   have aC:(0:Int)<=k:=by omega
   have e1:((k+1:Nat):Int)-1=(k:Int):=by omega
   rw[e1];have e2:IntKind.i64.wrap (8*(k:Int))=8*(k:Int):=aaf _ (by omega);have aA:decide ((0:Int)<=(k:Int))=true:=by simp
   have F:=Ho hn k;obtain⟨E,G⟩:∃E,E=UInt8.ofNat ((n/2^(8*k)).toNat%256):=⟨_,rfl⟩;rw[<-G]at F;have U:=acp G;have V:=acp z;have vK:acr (∀w',Below wr.heap.size wr w'->w'.cell? ⟨x,0,none⟩=some A/\w'.frozen? ⟨x,0,none⟩=false):=λ w' Y=>⟨(u.o.1.below Y).cell,(u.o.1.below Y).frozen⟩;obtain⟨N,S⟩:∃N,N=(C++y).length:=⟨_,rfl⟩;have ak:N<=100000008:=by rw[S,List.length_append];omega
   have Z:acr (wr.ownsRow B 5 1 A N ((C++y).map bv)):=by rw[S];exact u.o.1.own
   have CB:=acp S;have aB:B<=wr.heap.size:=Nat.le_of_lt (Nat.lt_of_le_of_lt u.o.1.low u.o.1.lt);clear G z S;go_wp2_with fail;refine vJ 14 ((λ w'=>w'.cell? ⟨x,0,none⟩=some A/\w'.frozen? ⟨x,0,none⟩=false)) ?_ λ m=> ?_
   ·exact vK.o _ acu.drew
   refine aO 0 m ?_;refine aO 1 m ?_;refine aO 2 m ?_;refine aO 3 m ?_;refine aO 4 m ?_;refine aO 5 m ?_;refine aO 6 m ?_;refine aO 7 m ?_;refine aO 8 m ?_;refine aO 9 m ?_;refine cu 10 λ K D=> ?_;go_simp;have P:Below wr.heap.size wr (wr.drew.alloc (.cells #[bv E] 5)):=acu.drew.alloc acs _;refine b_ D (vK.o _ P) λ m=> ?_;clear D K;refine cu 11 λ K D=> ?_;refine Df (by rfl) (.tmp 17) (.tmp 23) 30 (by rfl) B 5 i8 _ 1 Tryz.underlying30 R.o.1 R.o.2.1 R.o.2.2.1 R.o.2.2.2 rfl A N ((C++y).map bv) (by rfl) (bK Z.o λ b Y F=>P.block b F) (some ⟨wr.heap.size,0,none⟩) 1 1 [bv E] (by rfl) (wY (w:=wr.drew) (bv E) 5) (by simp[bv,Value.oneCell']) (by unfold maxLen;omega) (by omega) (by simp;omega) ?_;intro A1 c1 X H J _ I;have M:X.heap[x]? =some (.cells #[A] 229 (0,0)):=(J.block x (Pd u.o.1.lt P.size) (λ e=>u.o.1.apart e.symm)).trans ((P.block x u.o.1.lt).trans u.o.1.head);have hu:X.cell? ⟨x,0,none⟩=some A/\X.frozen? ⟨x,0,none⟩=false:=⟨by simp[World.cell?,M],by simp[World.frozen?,M]⟩;refine b_ D (hu) λ m=> ?_;clear D K;refine aO 12 m ?_;refine aO 13 m ?_;refine cu 14 λ K D=> ?_;go_simp;refine o_ D ?_;clear m D K;go_wp2;go_roundw
   case rel=>
    refine⟨k,y++[E],.slice A1 (N+1) c1,by omega,by go_num,?_,by simp;omega,u.o.trans (QK u.o.1 P ?_ J I)⟩
    ·rw[List.append_assoc,<-V.o,U.o];rfl
    ·have O:(C++(y++[E])).length=N+1:=by rw[CB.o];simp;omega
     rw[O];simpa using H
   case measure=>simp[intOf]
theorem iR:qh qK:=VQ
theorem nO{T:aS}(z:bA qK T){d:Int}{x:fI}(f:fI->fI)(m:au d T=some x)(k:Int):iH (cZ d f T) k+cn k x=iH T k+cn k (f x):=by
 induction T with
 |nil=>cases m
 |cons y r ih=>
  have C:=z.apart iR;obtain⟨D,E⟩:=aaE.1 C;rw[iG]at m;by_cases u:y.1=d
  ·rw[if_pos u]at m;cases m;have A:cZ d f r=r:=by
    unfold cZ
    conv=>rhs;rw[<-List.map_id r]
    apply aaF;intro q B;have:=D q B;rw[if_neg (λ e=>this (u.trans e.symm))];rfl
   have e:cZ d f (y::r)=(y.1,f y.2)::r:=by
    have:cZ d f (y::r)=(if y.1=d then(y.1,f y.2)else y)::cZ d f r:=rfl;rw[this,A,if_pos u]
   rw[e];simp[iH];omega
  ·rw[if_neg u]at m;have:=ih (aaE.1 z).2 m;have e:cZ d f (y::r)=y::cZ d f r:=by
    have:cZ d f (y::r)=(if y.1=d then(y.1,f y.2)else y)::cZ d f r:=rfl;rw[this,if_neg u]
   rw[e];simp[iH]at this⊢;omega
theorem Hq(x:Int×fI):∀(T:aS) (k:Int),iH (lH qK x T) k=iH T k+cn k x.2
 |[],k=>by simp[lH,iH]
 |y::r,k=>by
  unfold lH;split
  ·simp[iH];omega
  ·have:=Hq x r k;simp[iH]at this⊢;omega
theorem Bj{T:aS}(z:bA qK T){d:Int}{x:fI}(m:au d T=some x)(k:Int):iH (bZ d T) k+cn k x=iH T k:=by
 induction T with
 |nil=>cases m
 |cons y r ih=>
  have C:=z.apart iR;obtain⟨D,E⟩:=aaE.1 C;rw[iG]at m;by_cases u:y.1=d
  ·rw[if_pos u]at m;cases m;have A:bZ d r=r:=by
    unfold bZ;rw[abC];intro q B;have:=D q B;simp only[Bool.not_eq_true',aa1];exact λ e=>this (u.trans e.symm)
   have e:bZ d (y::r)=r:=by
    have:bZ d (y::r)=if (!decide (y.1=d))=true then y::bZ d r else bZ d r:=by simp[bZ,abf]
    rw[this,A];simp[u]
   rw[e];simp[iH];omega
  ·rw[if_neg u]at m;have:=ih (aaE.1 z).2 m;have e:bZ d (y::r)=y::bZ d r:=by
    have:bZ d (y::r)=if (!decide (y.1=d))=true then y::bZ d r else bZ d r:=by simp[bZ,abf]
    rw[this];simp[u]
   rw[e];simp[iH]at this⊢;omega
theorem cn_le{T:aS}{k j:Int}{x:fI}(u:au j T=some x):cn k x<=iH T k:=by
 have m:=fH u;have:∀(l:aS),(j,x)∈l->cn k x<=(l.map λ q=>cn k q.2).sum:=by
  intro l
  induction l with
  |nil=>simp
  |cons y r ih=>
   intro h;simp only[aau,List.sum_cons];rcases List.mem_cons.1 h with rfl|h
   ·exact Nat.le_add_right _ _
   ·have:=ih h;omega
 exact this T m
theorem DJ{T:aS}{k:Int}(h:iH T k=0){j:Int}{x:fI}(u:au j T=some x):∀e∈x.names,e.2≠k:=by
 have m:cn k x=0:=by have:=cn_le (k:=k) u;omega
 unfold cn at m;rw[ab9]at m;intro e y;have:=m e y;simpa using this
theorem Dg.cZ{T:aS}(h:Dg T){k:Int}{x:fI}{f:fI->fI}(C:au k T=some x)(H:QJ (f x))(G:(f x).kind=x.kind)(F:∀e∈(f x).names,(au e.2 T).isSome=true/\e.2≠0):Dg (Go.Proofs.YthillkfmdndedaaGreatDoor.cZ k f T):=by
 have z:∀j y,au j (Go.Proofs.YthillkfmdndedaaGreatDoor.cZ k f T)=some y->(j=k/\y=f x)\/(j≠k/\au j T=some y):=λ j y m=>by
  rw[bB]at m;by_cases A:j=k
  ·subst A;rw[if_pos rfl,C]at m;simp only[aao,aae]at m;exact .inl ⟨rfl,m.symm⟩
  ·rw[if_neg A]at m;exact .inr ⟨A,m⟩
 have u:∀j,(au j T).isSome=true->(au j (Go.Proofs.YthillkfmdndedaaGreatDoor.cZ k f T)).isSome=true:=λ j A=>by
  rw[bB];split<;>simp[A]
 refine⟨KR k f h.sorted,?_,λ j y m=> ?_,λ j y m e D=> ?_,by rw[KQ];exact h.len,λ j y m=> ?_⟩
 ·have B:=h.root;unfold bQ at B⊢;rw[bB];by_cases E:(0:Int)=k
  ·subst E;rw[if_pos rfl,C];rw[C]at B;exact G.trans B
  ·rw[if_neg E];exact B
 ·rcases z j y m with⟨rfl,rfl⟩|⟨_,m⟩
  ·exact H
  ·exact h.each j y m
 ·rcases z j y m with⟨rfl,rfl⟩|⟨_,m⟩
  ·exact⟨u _ (F e D).1,(F e D).2⟩
  ·exact⟨u _ (h.leads j y m e D).1,(h.leads j y m e D).2⟩
 ·rcases z j y m with⟨rfl,rfl⟩|⟨_,m⟩
  ·exact h.ids j x C
  ·exact h.ids j y m
theorem fA.cZ{T:aS}(h:fA T){k:Int}{x:fI}{f:fI->fI}(u:au k T=some x)(B:QJ (f x))(m:(f x).kind=x.kind)(A:∀e∈(f x).names,(au e.2 T).isSome=true/\e.2≠0)
  (z:∀j y,au j (Go.Proofs.YthillkfmdndedaaGreatDoor.cZ k f T)=some y->j≠0->(iH (Go.Proofs.YthillkfmdndedaaGreatDoor.cZ k f T) j:Int)=y.links):fA (Go.Proofs.YthillkfmdndedaaGreatDoor.cZ k f T):=⟨h.toDg.cZ u B m A,z⟩
theorem fA.Bl{T:aS}(h:fA T){k:Int}{x:fI}{f:fI->fI}(z:au k T=some x)(E:QJ (f x))(D:(f x).kind=x.kind)(C:(f x).names=x.names)(F:(f x).links=x.links):fA (Go.Proofs.YthillkfmdndedaaGreatDoor.cZ k f T):=by
 refine h.cZ z E D (by rw[C];exact h.leads k x z) λ j y m B=> ?_;have A:cn j (f x)=cn j x:=by unfold cn;rw[C]
 have:=nO h.sorted f z j;rw[A]at this;have e:iH (Go.Proofs.YthillkfmdndedaaGreatDoor.cZ k f T) j=iH T j:=by omega
 rw[e];rw[bB]at m;by_cases u:j=k
 ·subst u;rw[if_pos rfl,z]at m;simp only[aao,aae]at m;rw[<-m,F];exact h.counts j x z B
 ·rw[if_neg u]at m;exact h.counts j y m B
theorem VU:∀(m:Nat) (T:aS),bA qK T->(∀i:Nat,1<=i->i<=m->(au (i:Int) T).isSome=true)->m<=T.length
 |0,_,_,_=>Nat.zero_le _
 |m+1,T,u,h=>by
  obtain⟨x,y⟩:=aag.1 (h (m+1) (by omega) (by omega));have C:=vO iR u y;have B:=VU m (bZ ((m+1:Nat):Int) T) (u.bZ _) (λ i z A=>by
   rw[eG,if_neg (by omega)];exact h i z (by omega))
  omega
theorem NY{T:aS}(H:bA qK T):∃f:Nat,Ec T=f/\1<=f/\f<=T.length+1/\au (f:Int) T=none/\∀i:Nat,1<=i->i<f->(au (i:Int) T).isSome=true:=by
 unfold Ec;cases C:(((List.range (T.length+1)).map λ n:Nat=>(n:Int)+1).find? λ n=>(au n T).isNone)with
 |none=>
  exfalso;have J:=abo.1 C;have:=VU (T.length+1) T H (λ i B I=>by
   have:=J (i:Int) (List.mem_map.2 ⟨i-1,by simp;omega,by omega⟩);cases z:au (i:Int) T with
   |none=>rw[z]at this;simp at this
   |some v=>rfl)
  omega
 |some n=>
  rw[List.find?_eq_some_iff_append]at C;obtain⟨M,xs,G,u,y⟩:=C;have F:(xs++n::G).length=T.length+1:=by rw[<-u];simp
  have m:∀i (B:i<xs.length+1),(xs++n::G)[i]? =some ((i:Int)+1):=λ i B=>by
   rw[<-u];simp only[List.length_append,List.length_cons]at F;simp[List.getElem?_range (show i<T.length+1 by omega)]
  have A:n=(xs.length:Int)+1:=by
   have:=m xs.length (by omega);simpa using this
  simp only[List.length_append,List.length_cons]at F;refine⟨xs.length+1,by simp[A],by omega,by omega,?_,λ i B K=> ?_⟩
  ·have:((xs.length+1:Nat):Int)=n:=by omega
   rw[this];simpa using M
  ·have E:=m (i-1) (by omega);rw[aaY (by omega)]at E;have D:=y _ (aaD E);have e:((i-1:Nat):Int)+1=i:=by omega
   rw[e]at D;cases z:au (i:Int) T with
   |none=>rw[z]at D;simp at D
   |some v=>rfl
theorem fA.free{T:aS}(h:fA T):∃f:Nat,Ec T=f/\1<=f/\f<=T.length+1/\au (f:Int) T=none/\∀i:Nat,1<=i->i<f->(au (i:Int) T).isSome=true:=NY h.sorted
theorem KV{α:Type}{l:List (Int×α)}{k:Int}(v:α)(h:au k l=none):(dO qK k v l).length=l.length+1:=by
 unfold dO;rw[Cv,A_ h]
theorem VW{α:Type}(t:α->Int)(m:Nat):∀(u:List Int) (E:List α),(∀e∈E,t e∈u)->(∀k∈u,E.countP (λ e=>decide (t e=k))<=m)->E.length<=m*u.length
 |[],E,h,_=>by
  cases E with
  |nil=>simp
  |cons e r=>have:=h e (by simp);simp at this
 |k::u,E,h,A=>by
  have C:=VW t m u (E.filter λ e=> !decide (t e=k)) (λ e y=>by
   obtain⟨C,B⟩:=aaG.1 y;rcases List.mem_cons.1 (h e C)with z|z
   ·simp[z]at B
   ·exact z) (λ j D=>by
    rw[List.countP_filter];refine Nat.le_trans (List.countP_mono_left λ e _ y=> ?_) (A j (by simp[D]));simp at y⊢;exact y.1)
  have B:=A k (by simp);have z:E.length=E.countP (λ e=>decide (t e=k))+(E.filter λ e=> !decide (t e=k)).length:=by
   rw[<-List.countP_eq_length_filter];exact(List.length_eq_countP_add_countP (λ e=>decide (t e=k))).trans (by
    have:List.countP (λ a=>decide (¬decide (t a=k)=true)) E=List.countP (λ e=> !decide (t e=k)) E:=List.countP_congr (λ e _=>by simp);rw[this])
  rw[List.length_cons,Nat.mul_succ];omega
theorem fA.few{T:aS}(h:fA T){k:Int}{x:fI}(u:au k T=some x):x.names.length<=4096:=by
 have E:=VW (λ e:Nm×Int=>e.2) 64 (T.map (·.1)) x.names (λ e z=>by
  obtain⟨y,m⟩:=aag.1 (h.leads k x u e z).1;exact List.mem_map.2 ⟨_,fH m,rfl⟩) (λ j C=>by
   by_cases A:j=0
   ·subst A;have:x.names.countP (λ e=>decide (e.2=0))=0:=by
     rw[ab9];intro e z;have:=(h.leads k x u e z).2;simpa using this
    omega
   ·obtain⟨q,B,rfl⟩:=List.mem_map.1 C;have m:=fq iR h.sorted B;have F:=h.counts _ _ m A;have G:=(h.each _ _ m).links;have D:=cn_le (k:=q.1) u;unfold cn at D;omega)
 have:=h.len;rw[List.length_map]at E;omega
theorem vQ{T:aS}(u:bA qK T){k j:Int}{x y:fI}(h:au j (dO qK k x T)=some y):(j=k/\y=x)\/(j≠k/\au j T=some y):=by
 rw[fO]at h;by_cases m:j=k
 ·rw[if_pos m]at h;exact .inl ⟨m,by simpa using h.symm⟩
 ·rw[if_neg m]at h;exact .inr ⟨m,h⟩
theorem Hr{kind:Int}(m:kind=1\/kind=2):QJ (dh kind):=by
 refine⟨m,λ _=>rfl,λ h=>⟨rfl,?_,rfl,rfl⟩,(λ h=>by cases h),by simp[dh,bA],by simp[dh],by simp[dh],by simp[dh],by simp[dh]⟩;have:kind=2:=h;simp[dh,this]
theorem Dg.add{T:aS}(h:Dg T){f:Int}{kind:Int}(C:kind=1\/kind=2)(B:au f T=none)(E:0<=f)(D:f<=65535)(F:T.length<64):Dg (dO qK f (dh kind) T):=by
 refine⟨h.sorted.dO iR _ _,?_,λ j y m=> ?_,λ j y m e A=> ?_,by rw[KV _ B];omega,λ j y m=> ?_⟩
 ·obtain⟨x,u,z⟩:=nM h.root;unfold bQ;rw[fO,if_neg (λ e=>by rw[e,B]at u;cases u),u];exact z
 ·rcases vQ h.sorted m with⟨rfl,rfl⟩|⟨_,m⟩
  ·exact Hr C
  ·exact h.each j y m
 ·rcases vQ h.sorted m with⟨rfl,rfl⟩|⟨_,m⟩
  ·cases A
  ·have:=h.leads j y m e A;refine⟨?_,this.2⟩;rw[fO];split
   ·rfl
   ·exact this.1
 ·rcases vQ h.sorted m with⟨rfl,rfl⟩|⟨_,m⟩
  ·exact⟨E,D⟩
  ·exact h.ids j y m
theorem VX{T:aS}{f kind:Int}(m:au f T=none)(k:Int):iH (dO qK f (dh kind) T) k=iH T k:=by
 unfold dO;rw[A_ m,Hq];simp[cn,dh]
theorem QL(n:Nm)(id k:Int):∀l:List (Nm×Int),(lH bytesBefore (n,id) l).countP (λ e=>decide (e.2=k))=l.countP (λ e=>decide (e.2=k))+if id=k then 1 else 0
 |[]=>by simp[lH,aby]
 |y::r=>by
  unfold lH;split
  ·simp[aby]
  ·simp only[aby,QL n id k r];omega
theorem NZ{x:fI}{n:Nm}{id:Int}(h:au n x.names=none)(k:Int):cn k {x with names:=dO bytesBefore n id x.names}=cn k x+if id=k then 1 else 0:=by
 unfold cn dO;simp only;rw[A_ h,QL]
theorem Sq{T:aS}(h:Dg T){f:Int}(C:au f T=none):iH T f=0:=by
 have:∀l:aS,(∀q∈l,cn f q.2=0)->iH l f=0:=by
  intro l
  induction l with
  |nil=>intro _;rfl
  |cons y r ih=>
   intro A;have m:=ih (λ q u=>A q (by simp[u]));have D:=A y (by simp);unfold iH at m⊢;simp only[aau,List.sum_cons];omega
 refine this T λ q u=> ?_;unfold cn;rw[ab9];intro e B z;have m:=h.leads _ _ (fq iR h.sorted u) e B;simp only[aap]at z;rw[z,C]at m;cases m.1
theorem ok1_set{x:fI}(h:QJ x)(z:x.kind=2){n:Nm}(y:gF n=true)(id:Int):QJ {x with names:=dO bytesBefore n id x.names}:=by
 refine⟨h.kind,λ m=> ?_,h.dir,h.gone,h.sorted.dO Sd _ _,λ e u=> ?_,h.size,h.links,h.aL⟩
 ·have:x.kind=1:=m;omega
 ·rcases (qc bytesBefore).1 u with m|m
  ·rw[m];exact y
  ·exact h.good e (aaG.1 m).1
theorem Sr{x:fI}{n:Nm}{id:Int}{P:Nm×Int->Prop}(h:∀e∈x.names,P e)(y:P (n,id)):∀e∈dO bytesBefore n id x.names,P e:=by
 intro e u;rcases (qc bytesBefore).1 u with m|m
 ·rw[m];exact y
 ·exact h e (aaG.1 m).1
theorem Dg.set{T:aS}(h:Dg T){d:Int}{x:fI}{n:Nm}{id:Int}(m:au d T=some x)(y:x.kind=2)(z:gF n=true)(u:(au id T).isSome=true/\id≠0):Dg (setName T d n id):=
 h.cZ m (ok1_set (h.each d x m) y z id) rfl (Sr (h.leads d x m) u)
theorem fA.make{T:aS}(h:fA T){d kind f:Int}{x:fI}{n:Nm}(Q:kind=1\/kind=2)(D:au f T=none)(U:1<=f)(R:f<=65535)(P:T.length<64)(G:au d T=some x)(H:x.kind=2)(S:gF n=true)(F:au n x.names=none):
  fA (setName (dO qK f (dh kind) T) d n f):=by
 have N:=h.toDg.add Q D (by omega) R P;have J:d≠f:=λ e=>by rw[e,D]at G;cases G
 have m:au d (dO qK f (dh kind) T)=some x:=by rw[fO,if_neg J];exact G
 have I:au f (dO qK f (dh kind) T)=some (dh kind):=by rw[fO,if_pos rfl]
 refine⟨N.set m H S ⟨by rw[I];rfl,by omega⟩,λ j y u O=> ?_⟩;have W:=nO N.sorted (λ x=>{x with names:=dO bytesBefore n f x.names}) m j;have M:=NZ (id:=f) F j;have V:=VX (kind:=kind) D j;have C:∀z,au j (dO qK f (dh kind) T)=some z->z.links=y.links->(iH (setName (dO qK f (dh kind) T) d n f) j:Int)=y.links:=by
  intro z E B;unfold setName;rcases vQ h.sorted E with⟨rfl,rfl⟩|⟨K,E⟩
  ·have:=Sq h.toDg D;rw[if_pos rfl]at M;have e:iH (Go.Proofs.YthillkfmdndedaaGreatDoor.cZ d (λ x=>{x with names:=dO bytesBefore n j x.names}) (dO qK j (dh kind) T)) j=1:=by omega
   rw[e,<-B];rfl
  ·rw[if_neg (aa6 K)]at M;have:=h.counts j z E O;have e:iH (Go.Proofs.YthillkfmdndedaaGreatDoor.cZ d (λ x=>{x with names:=dO bytesBefore n f x.names}) (dO qK f (dh kind) T)) j=iH T j:=by omega
   rw[e,this,B]
 unfold setName at u;rw[bB]at u;by_cases A:j=d
 ·subst A;rw[if_pos rfl,m]at u;simp only[aao,aae]at u;exact C x m (by rw[<-u])
 ·rw[if_neg A]at u;exact C y u rfl
theorem Tryz.bD(w:World):(zeroValue 193).run Tryz.prog w= .ok (.pointer none) w:=by kernel_rfl
theorem Tryz.gM(w:World):(zeroValue 3).run Tryz.prog w= .ok (.int .i64 0) w:=by kernel_rfl
theorem gG{k:Int}(m:0<=k)(u:k<=1000000):aY.ok k:=by
 simp[aY,Lit.wf,IntKind.min,IntKind.max,IntKind.signed,IntKind.bits];omega
theorem Ef{a b:Int}{c d:Int}(h:(a,c)=(b,d)):Ending.returned (.tuple #[.int .i64 a,.int .i64 c])= .returned (.tuple #[.int .i64 b,.int .i64 d]):=by
 cases h;rfl
theorem N7{T:aS}{id:Int}{x:fI}{m:List Nm}{k:Nat}{n:Nm}{j:Int}(z:au id T=some x)(u:x.kind=2)(B:m[k]? =some n)(A:au n x.names=some j):aP T id (m.drop k)=aP T j (m.drop (k+1)):=by
 obtain⟨y,e⟩:=aaj.1 B;rw[abg y,e,aP,z];simp only[u,if_pos,A]
theorem N8{T:aS}{id:Int}{x:fI}{u:List Nm}{k:Nat}{n:Nm}(z:au id T=some x)(m:x.kind≠2)(A:u[k]? =some n):aP T id (u.drop k)=(0,23):=by
 obtain⟨y,e⟩:=aaj.1 A;rw[abg y,e,aP,z];simp only[if_neg m]
theorem N9{T:aS}{id:Int}{x:fI}{u:List Nm}{k:Nat}{n:Nm}(z:au id T=some x)(m:x.kind=2)(B:u[k]? =some n)(A:au n x.names=none):aP T id (u.drop k)=(0,20):=by
 obtain⟨y,e⟩:=aaj.1 B;rw[abg y,e,aP,z];simp only[m,if_pos,A]
theorem rV{S:Nat->Prop}{g:Nat->Own}{D:Nat->Prop}{p mb:Nat}{ib nb:Int->Nat}{T:aS}(a:Mx)(n c:Nat)(B:List Nm)(w:World)(h:aK g D w p mb ib nb T)(hT:OkW T)(O:aW S w a n (B.map strOf)):
  Dy 132 #[ptr p,.slice a n c] w λ e w'=>e= .returned (.tuple #[.int .i64 (aP T 0 B).1,.int .i64 (aP T 0 B).2])/\w=w':=by
 have J:B.length=n:=by have:=O.length;simpa using this
 have ak:=O.row.small;unfold maxLen at ak;obtain⟨aF,aB,aD⟩:=h.cell;have V:=acp h;have X:=acp hT;have HS:=acp O;have HL:=acp J;clear h hT O J;go_enter Tryz.func132,Tryz.ntmps132;go_wp2
 go_loop [6,14] (λ s i=>∃(k:Nat) (id:Int),k<=n/\i= .int .i64 k/\s= .int .i64 id/\(au id T).isSome=true/\aP T id (B.drop k)=aP T 0 B) (λ _ i=>n-(intOf i).toNat)
 case atStart=>exact⟨0,0,by omega,rfl,rfl,nN X.o,by simp⟩
 case round=>
  obtain⟨k,id,hk,rfl,rfl,K,M⟩:=hrel;obtain⟨x,hx⟩:=aag.1 K;have N:=acp M;have F:=acp hx;clear M K hx;have rE:=X.o.ids id x F.o;have G:aY.ok id:=gG rE.1 (by omega);obtain⟨c0,c1,c2,c3,c4,c5,c7,aA⟩:=(V.o.item id x F.o).cell;have E:au id (T.map λ q=>(q.1,ptr (ib q.1)))=some (ptr (ib id)):=by rw[eH,F.o];rfl
  have U:=acp E;clear E;have A:=acp V.o.map;by_cases W:k<n
  ·obtain⟨b,av,s,rfl,_,aC,I,Z,P⟩:=HS.o.cell k W;obtain⟨y,C,rfl⟩:∃y,B[k]? =some y/\strOf y=s:=by
    rw[List.getElem?_map]at I;cases hq:B[k]? with
    |none=>rw[hq]at I;cases I
    |some y=>rw[hq]at I;exact⟨y,rfl,by simpa using I⟩
   have Q:=acp C;have mY:dD.ok y:=by show y.length<=maxLen;rw[<-jf];exact Z
   clear I C;by_cases m:x.kind=2
   ·have Y:dS x (nb id)= .map (some (nb id)):=if_pos m;rw[Y]at c7;rw[m]at c1;have fK:=acp ((V.o.item id x F.o).names m);cases H:au y x.names with
    |none=>
     have z:au y (bJ x)=none:=by rw[eY,H];rfl
     have R:=acp z;have u:=acp (N9 F.o m Q.o H);clear z H Y m;go_wp2_with (first|(at_lookup;refine aX aY rfl _ _ 190 193 rfl Tryz.underlying190 (Tryz.bD _) rfl A.o id rfl G ?_;rw[U.o])|(at_lookup;refine aR dD rfl _ _ 194 3 rfl aah (Tryz.gM _) rfl fK.o y rfl mY ?_;rw[R.o]))
     go_ret2
     exact⟨Ef (by rw[<-N.o,u.o]),rfl⟩
    |some j=>
     have z:au y (bJ x)=some (.int .i64 j):=by rw[eY,H];rfl
     have R:=acp z;have u:=acp (N7 F.o m Q.o H);have HJ:=acp ((X.o.leads id x F.o _ (fH H)).1);clear z H Y m;go_wp2_with (first|(at_lookup;refine aX aY rfl _ _ 190 193 rfl Tryz.underlying190 (Tryz.bD _) rfl A.o id rfl G ?_;rw[U.o])|(at_lookup;refine aR dD rfl _ _ 194 3 rfl aah (Tryz.gM _) rfl fK.o y rfl mY ?_;rw[R.o]))
     go_round
     case rel=>exact⟨k+1,j,by omega,by go_num,rfl,HJ.o,by rw[<-u.o];exact N.o⟩
     case measure=>simp[intOf];omega
   ·have e1:(x.kind==2)=false:=by simpa using m
    have u:=acp (N8 F.o m Q.o);clear m c7;go_wp2_with (first|(at_lookup;refine aX aY rfl _ _ 190 193 rfl Tryz.underlying190 (Tryz.bD _) rfl A.o id rfl G ?_;rw[U.o]))
    go_ret2
    exact⟨Ef (by rw[<-N.o,u.o]),rfl⟩
  ·clear c7;go_wp2
   go_ret2
   exact⟨Ef (by rw[<-N.o,List.drop_of_length_le (by have:=HL.o;omega)];rfl),rfl⟩
def ql(T:aS)(u:Int->Nat)(m:List Nm)(w:World)(e:Ending)(w':World):Prop:=
 e= .returned (.tuple #[if (aQ T m).2.2=0 then ptr (u (aQ T m).1)else .pointer none,.string (strOf (aQ T m).2.1),.int .i64 (aQ T m).2.2])/\Below w.heap.size w w'
theorem w_{S:Nat->Prop}{g:Nat->Own}{D:Nat->Prop}{p mb:Nat}{ib nb:Int->Nat}{T:aS}(a:Mx)(n c:Nat)(u:List Nm)(w:World)(h:aK g D w p mb ib nb T)(hT:fA T)(hS:aW S w a n (u.map strOf))(hc:n<=c)(uJ:n<=1000000):
  Dy 123 #[ptr p,.slice a n c] w (ql T ib u w):=by
 have W:u.length=n:=by have:=hS.length;simpa using this
 have HH:=acp h;have HT:=acp hT;have HL:=acp W;have H:=NV a n c (u.map strOf) w hS (by omega) hc;have HP:=acp H;clear h hT hS W H;by_cases M:u=[]
 ·subst M;go_enter Tryz.func123,Tryz.ntmps123;go_wp2_with fail;refine HP.o.mono ?_;rintro e w1 (⟨_,rfl,rfl⟩|⟨_,_,x,C,_⟩)
  ·go_wp2_with fail
   go_ret3
   exact⟨rfl,Below.refl _ _⟩
  ·cases C
 ·have F:=acp M;clear M;go_enter Tryz.func123,Tryz.ntmps123;go_wp2_with fail;refine HP.o.mono ?_;rintro e w1 (⟨h0,_⟩|⟨gb,aC,x,C,rfl,Z,E,G⟩)
  ·exact absurd (List.map_eq_nil_iff.1 h0) F.o
  ·have aB:(u.map strOf).dropLast=u.dropLast.map strOf:=by simp[List.map_dropLast]
   rw[aB]at E;have aD:x=strOf (u.getLastD []):=by
    rw[List.getLast?_map]at C;cases R:u.getLast? with
    |none=>rw[R]at C;cases C
    |some y=>
     rw[R]at C;simp only[aao,aae]at C;rw[<-C];cases u with
     |nil=>cases R
     |cons z r=>rw[abO (by simp)]at R;simp only[aae]at R;rw[<-R,acf,abO (by simp)];rfl
   subst aD;obtain⟨m,hm⟩:∃m,m=(u.map strOf).length-1:=⟨_,rfl⟩;obtain⟨nl,N⟩:∃nl,nl=u.getLastD []:=⟨_,rfl⟩;rw[<-hm]at E Z⊢;rw[<-N]at C⊢;have aF:=acp N;clear hm N;have aJ:=G.size;have O:=HH.o.below G acs;have V:=acp (rV (some ⟨gb,0,none⟩) m aC u.dropLast w1 O HT.o E);have P:=acp O;have Q:=acp G;clear O G C aB E HP Z;obtain⟨bq,bf,bn⟩:=P.o.cell;have K:=acp P.o.map;by_cases J:(aP T 0 u.dropLast).2=0
   ·obtain⟨y,hy⟩:=aag.1 (mI HT.o u.dropLast 0 (nN HT.o) J);have Y:=acp J;obtain⟨d,hd⟩:∃d,d=(aP T 0 u.dropLast).1:=⟨_,rfl⟩;rw[<-hd]at hy V;rw[J]at V;have HD:=acp hd;have HY:=acp hy;clear hy J hd;have rE:=HT.o.ids d y HY.o;have X:aY.ok d:=gG rE.1 (by omega);obtain⟨c0,c1,c2,c3,c4,c5,c7,aN⟩:=(P.o.item d y HY.o).cell;have I:au d (T.map λ q=>(q.1,ptr (ib q.1)))=some (ptr (ib d)):=by rw[eH,HY.o];rfl
    have HG:=acp I;have aA:bQ T (aP T 0 u.dropLast).1=y.kind:=by rw[<-HD.o];unfold bQ;rw[HY.o]
    have av:=acp aA;clear I aA c7;by_cases B:y.kind=2
    ·have A:aQ T u=(d,nl,0):=by
      unfold aQ;rw[if_neg F.o,if_neg (by rw[Y.o];simp),if_pos (av.o.trans B),<-HD.o,<-aF.o]
     have U:=acp A;rw[B]at c1;clear B A;go_wp2_with fail;refine V.o.mono ?_;rintro e w2 ⟨rfl,rfl⟩;go_wp2_with (first|(at_lookup;refine aX aY rfl _ _ 190 193 rfl Tryz.underlying190 (Tryz.bD _) rfl K.o d rfl X ?_;rw[HG.o]))
     go_ret3
     exact⟨by rw[U.o];rfl,Q.o⟩
    ·have A:aQ T u=(0,[],23):=by
      unfold aQ;rw[if_neg F.o,if_neg (by rw[Y.o];simp),if_neg (by rw[av.o];exact B)]
     have U:=acp A;have e1:(y.kind==2)=false:=by simpa using B
     clear B A;go_wp2_with fail;refine V.o.mono ?_;rintro e w2 ⟨rfl,rfl⟩;go_wp2_with (first|(at_lookup;refine aX aY rfl _ _ 190 193 rfl Tryz.underlying190 (Tryz.bD _) rfl K.o d rfl X ?_;rw[HG.o]))
     go_ret3
     exact⟨by rw[U.o];rfl,Q.o⟩
   ·have A:aQ T u=(0,[],(aP T 0 u.dropLast).2):=by
     unfold aQ;rw[if_neg F.o,if_pos J]
    have aH:((aP T 0 u.dropLast).2==0)=false:=by simpa using J
    have U:=acp A;have Y:=acp J;generalize ak:aP T 0 u.dropLast=r at V aH Y U;have aL:=acp ak;clear A J ak;go_wp2_with fail;refine V.o.mono ?_;rintro e w2 ⟨rfl,rfl⟩;go_wp2_with fail
    go_ret3
    exact⟨by rw[U.o,if_neg Y.o];rfl,Q.o⟩
def Turn(g:Nat->Own)(D:Nat->Prop)(w:World)(p z:Nat)(B:aS)(v:Value)(e:Ending)(w':World):Prop:=
 e= .returned v/\∃y u A m,aK y u w' p z A m B/\(∀b,y b≠ .none->g b≠ .none\/w.heap.size<=b)/\(∀b,u b->D b\/w.heap.size<=b)/\Keeps (λ b=>g b≠ .none) w w'
theorem Turn.same{g:Nat->Own}{D:Nat->Prop}{w w':World}{p m:Nat}{u nb:Int->Nat}{T:aS}{v:Value}{e:Ending}(h:aK g D w p m u nb T)(y:Below w.heap.size w w')(A:e= .returned v):Turn g D w p m T v e w':=
 ⟨A,g,D,u,nb,h.below y acs,λ b h=> .inl h,λ b h=> .inl h,(Keeps.below y).mono λ x z B=>absurd z (by omega)⟩
theorem kH{T:aS}{p:List Nm}(C:fA T)(h:(aQ T p).2.2=0):∃x,au (aQ T p).1 T=some x/\x.kind=2/\(aQ T p).2.1∈p:=by
 unfold aQ at h⊢;by_cases m:p=[]
 ·rw[if_pos m]at h;cases h
 ·rw[if_neg m]at h⊢;by_cases y:(aP T 0 p.dropLast).2≠0
  ·rw[if_pos y]at h;exact absurd h y
  ·rw[if_neg y]at h⊢;by_cases u:bQ T (aP T 0 p.dropLast).1=2
   ·rw[if_pos u];obtain⟨x,B,A⟩:=nM u;refine⟨x,B,A,?_⟩;cases p with
    |nil=>exact absurd rfl m
    |cons z r=>simp[acf,abO]
   ·rw[if_neg u]at h;cases h
theorem jg{p:List Nm}(h:bN p=0):∀n∈p,gF n=true:=by
 unfold bN at h;split at h
 ·cases h
 ·rename_i y;intro n u;have m:(p.any λ x=> !gF x)=false:=by simpa only[Bool.not_eq_true]using y
  have:=List.any_eq_false.1 m n u;simpa using this
theorem rX{p:List Nm}(h:bN p=0):p.length<=8:=by
 unfold bN at h;split at h
 ·cases h
 ·split at h
  ·cases h
  ·omega
theorem vR(l:I8)(h:gF l=true):l.length<=16:=by
 simp only[gF,aaW,aap]at h;exact h.1.1.2
theorem KW(p:List Nm):iY [p]=bN p:=by
 unfold iY iY;by_cases h:bN p≠0
 ·rw[if_pos h]
 ·rw[if_neg h];omega
theorem VY(p q:List Nm):iY [p,q]=mH p q:=by
 unfold iY mH;by_cases h:bN p≠0
 ·rw[if_pos h,if_pos h]
 ·rw[if_neg h,if_neg h,KW]
theorem mh{w:World}{v:Value}{t:TypeId}:(w.alloc (.cells #[v] t)).cell? ⟨w.heap.size,0,none⟩=some v:=by
 simp only[World.cell?,(MapKept.heap_alloc w _).1];rfl
theorem pI{w:World}{u v:Value}{t:TypeId}:(w.alloc (.cells #[u,v] t)).cell? ⟨w.heap.size,0,none⟩=some u/\(w.alloc (.cells #[u,v] t)).cell? ⟨w.heap.size,1,none⟩=some v:=by
 simp only[World.cell?,(MapKept.heap_alloc w _).1];exact⟨rfl,rfl⟩
theorem wall(w:World)(o:Obj):Below w.heap.size w (w.alloc o):=acu.alloc acs _
theorem zM{S:Nat->Prop}(a:Mx)(n c:Nat)(m:List Nm)(w:World)(u:aW S w a n (m.map strOf)):
  Dy 122 #[.slice (some ⟨w.heap.size,0,none⟩) 1 1] (w.alloc (.cells #[.slice a n c] 34)) λ e w'=>e= .returned (.int .i64 (bN m))/\Below w.heap.size w w':=by
 refine(Hl (S:=S) w.heap.size 1 [m] _ rfl (by omega) (by simp) (λ k z=> ?_)).mono ?_
 ·obtain rfl:k=0:=by omega
  exact⟨a,n,c,m,mh,u.below (wall w _) acs,rfl⟩
 ·rintro e w' ⟨rfl,y⟩;rw[KW];exact⟨rfl,(wall w _).trans (y.mono (by simp))⟩
theorem KX{S S':Nat->Prop}(a:Mx)(n c:Nat)(u:List Nm)(z:Mx)(A c':Nat)(m:List Nm)(w:World)(B:aW S w a n (u.map strOf))(y:aW S' w z A (m.map strOf)):
  Dy 122 #[.slice (some ⟨w.heap.size,0,none⟩) 2 2] (w.alloc (.cells #[.slice a n c,.slice z A c'] 34)) λ e w'=>e= .returned (.int .i64 (mH u m))/\Below w.heap.size w w':=by
 refine(Hl (S:=λ x=>S x\/S' x) w.heap.size 2 [u,m] _ rfl (by omega) (by simp) (λ k D=> ?_)).mono ?_
 ·rcases (show k=0\/k=1 by omega)with rfl|rfl
  ·exact⟨a,n,c,u,pI.1,(B.below (wall w _) acs).mono λ _=> .inl,rfl⟩
  ·exact⟨z,A,c',m,pI.2,(y.below (wall w _) acs).mono λ _=> .inr,rfl⟩
 ·rintro e w' ⟨rfl,C⟩;rw[VY];exact⟨rfl,(wall w _).trans (C.mono (by simp))⟩
theorem Gs{w w':World}{b:Nat}(h:w.mapTurned w' b):Keeps (λ x=>x=b) w w':=Keeps.turned h
theorem eU{w w':World}{b:Nat}(h:w.mapTurned w' b)(x:Nat)(m:x<w.heap.size)(u:x≠b):w'.heap[x]? =w.heap[x]? :=(Gs h).block x m u
theorem eX{w w':World}{b:Nat}(h:w.mapTurned w' b):Keeps (λ x=>x=b) w w':=Keeps.turned h
theorem aK.names{g:Nat->Own}{D:Nat->Prop}{w w':World}{p B:Nat}{E nb:Int->Nat}{T:aS}(h:aK g D w p B E nb T){d:Int}{x:fI}{l:List (Nm×Int)}(y:au d T=some x)(K:x.kind=2)(J:MapAt dD w' (nb d) (bJ {x with names:=l}))(A:w.mapTurned w' (nb d))(f:fI->fI)(C:f x={x with names:=l}):
  aK g D w' p B E nb (Go.Proofs.YthillkfmdndedaaGreatDoor.cZ d f T):=by
 have M:=iw A;have H:=h.oO d x y K;refine h.cZ y (by rw[C]) (λ _ h=>h) (λ b m=>⟨h.data b m,by rw[M];exact h.qM b m⟩) (by omega) (λ b m G u=>eU A b m (λ e=>u (by rw[e];exact H))) ?_;have m:∀b,b<w.heap.size->g b≠ .names d->w'.heap[b]? =w.heap[b]? :=λ b m u=>eU A b m (λ e=>u (by rw[e];exact H));have I:=h.item d x y;have F:=h.qL d x y;obtain⟨a,c,G,u,O⟩:=I.cells;rw[C];refine⟨⟨a,c,(m _ (h.low _ (by rw[F];simp)) (by rw[F];simp)).trans G,u,O.kept (by omega) λ b N z=>m b z (by rw[h.data b N];simp)⟩,λ _=>J⟩
theorem aK.set{g:Nat->Own}{D:Nat->Prop}{w w':World}{p m:Nat}{u nb:Int->Nat}{T:aS}(h:aK g D w p m u nb T){d id:Int}{x:fI}{n:Nm}(z:au d T=some x)(y:x.kind=2)(B:MapAt dD w' (nb d) (dO dD.lt n (.int .i64 id) (bJ x)))(A:w.mapTurned w' (nb d)):
  aK g D w' p m u nb (setName T d n id):=by
 refine h.names (l:=dO bytesBefore n id x.names) z y ?_ A _ rfl;have e:bJ {x with names:=dO bytesBefore n id x.names}=dO dD.lt n (.int .i64 id) (bJ x):=Bd bytesBefore (λ(_:Nm) (i:Int)=>Value.int .i64 i) n id x.names;rw[e];exact B
theorem aK.cut{g:Nat->Own}{D:Nat->Prop}{w w':World}{p m:Nat}{u nb:Int->Nat}{T:aS}(h:aK g D w p m u nb T){d:Int}{x:fI}{n:Nm}(z:au d T=some x)(y:x.kind=2)(B:MapAt dD w' (nb d) (bZ n (bJ x)))(A:w.mapTurned w' (nb d)):
  aK g D w' p m u nb (aV T d n):=by
 refine h.names (l:=bZ n x.names) z y ?_ A _ rfl;have e:bJ {x with names:=bZ n x.names}=bZ n (bJ x):=Bc (λ(_:Nm) (i:Int)=>Value.int .i64 i) n x.names;rw[e];exact B
theorem VZ{g:Nat->Own}{D:Nat->Prop}{w y G:World}{p F:Nat}{J nb:Int->Nat}{T:aS}{f kind:Int}(h:aK g D w p F J nb T)(R:au f T=none)(Q:jJ (λ _=>False) y f w.heap.size (w.heap.size+1) (dh kind))(A:Below w.heap.size w y)(U:w.heap.size<y.heap.size)(C:kind=2->w.heap.size+1<y.heap.size)
  (S:MapAt aY G F (dO aY.lt f (ptr w.heap.size) (T.map λ q=>(q.1,ptr (J q.1)))))(O:y.mapTurned G F):
  ∃g1 E z,aK g1 D G p F E z (dO qK f (dh kind) T)/\(∀b,g1 b≠ .none->g b≠ .none\/w.heap.size<=b)/\Keeps (λ b=>g b≠ .none) w G/\∀j,j≠f->E j=J j/\z j=nb j:=by
 have P:=iw O;have m:=eX O;have V:=h.map.lt;refine⟨_,_,_,h.add (i:=w.heap.size) (n:=w.heap.size+1) (x:=dh kind) (k:=f) acs (by omega) (by omega) (by omega) (λ I=>by have:=C I;omega) R rfl S (by omega) (λ b u M=>(m.block b (by omega) M).trans (A.block b u)) (Q.move (by omega) (m.block _ U (by omega)) (λ I=>m.block _ (C I) (by omega)) (λ _ h=>h.elim)),λ b B=> ?_,⟨m.os.trans A.os,m.tape.trans A.tape,m.output.trans A.output,by omega,λ b u K=>(m.block b (by omega) (λ e=>K (by rw[e,h.lI];simp))).trans (A.block b u)⟩,λ j N=>⟨by simp[N],by simp[N]⟩⟩;by_cases H:w.heap.size<=b
 ·exact .inr H
 ·simp only[if_neg (show ¬b=w.heap.size by omega),if_neg (show ¬(b=w.heap.size+1/\(dh kind).kind=2)by omega)]at B;exact .inl B
theorem V4{g g1:Nat->Own}{w y F G:World}{E:Nat}(u:Below w.heap.size w y)(B:∀b,g1 b≠ .none->g b≠ .none\/y.drew.heap.size<=b)(m:Keeps (λ b=>g b≠ .none) y.drew F)(J:F.mapTurned G E)(C:g1 E≠ .none):
  (∀b,g1 b≠ .none->g b≠ .none\/w.heap.size<=b)/\Keeps (λ b=>g b≠ .none) w G:=by
 have H:=u.size;have A:=eX J;have K:y.heap.size<=F.heap.size:=m.size;have M:=A.size;refine⟨λ b D=>(B b D).imp id λ h=>Nat.le_trans H h,A.os.trans (m.os.trans u.os),A.tape.trans (m.tape.trans u.tape),A.output.trans (m.output.trans u.output),by omega,λ b D z=> ?_⟩;have I:b≠E:=λ e=>by
  rcases B b (by rw[e];exact C)with h|h
  ·exact z h
  ·have:y.heap.size<=b:=h;omega
 exact(A.block b (by omega) I).trans ((m.block b (show b<y.heap.size by omega) z).trans (u.block b D))
theorem make_at{S:Nat->Prop}{g:Nat->Own}{D:Nat->Prop}{p K:Nat}{ib nb:Int->Nat}{T:aS}(a:Mx)(n c:Nat)(m:List Nm)(kind:Int)(w:World)(h:aK g D w p K ib nb T)(hT:fA T)(hS:aW S w a n (m.map strOf))(hc:n<=c)(uJ:n<=1000000):
  Dy 57 #[ptr p,.slice a n c,.int .i64 kind] w (Turn g D w p K (dF T m kind).2 (.tuple #[.int .i64 (dF T m kind).1.1,.int .i64 (dF T m kind).1.2])):=by
 have W:=acp h;have HT:=acp hT;have HS:=acp hS;have HF:=acp (zM (S:=S) a n c m w hS);clear h hT hS;by_cases hf:bN m=0
 ·have uK:=acp hf;rw[hf]at HF;clear hf;by_cases X:kind=1\/kind=2
  ·have HK:=acp X;have rW:=acp (λ N (hb:Below w.heap.size w N)=>w_ a n c m N (W.o.below hb acs) HT.o (HS.o.below hb acs) hc uJ);by_cases V:(aQ T m).2.2=0
   ·obtain⟨x,hx,dI,aB⟩:=kH HT.o V;have C:=jg uK.o _ aB;have jy:=acp V;obtain⟨⟨d,O,z⟩,hq⟩:∃q,q=aQ T m:=⟨_,rfl⟩;unfold ql at rW;rw[<-hq]at V hx aB C rW;obtain rfl:z=0:=V;have HQ:=acp hq;have HX:=acp hx;have HG:=acp C;have zN:=acp dI;clear hq hx C dI aB;have rE:=HT.o.ids d x HX.o;have jv:=HT.o.len;have mY:dD.ok O:=by
     have:=vR O HG.o;show O.length<=maxLen;unfold maxLen;omega
    have Sv:acr (∀k,(64<=T.length->k=4)->(T.length<64->k=0)->ow T m kind=if (au O x.names).isSome then 21 else k):=λ k h4 h0=>by
     unfold ow;have e1:bM T d=x.names:=by unfold bM;rw[HX.o]
     rw[if_neg (by rw[uK.o];simp),if_neg (λ h=>h X),<-HQ.o,if_neg (by simp),e1];by_cases R:64<=T.length
     ·rw[if_pos R,h4 R]
     ·rw[if_neg R,h0 (by omega)]
    have vS:acr (∀H,Below w.heap.size w H->H.cell? ⟨ib d,7,none⟩=some (.map (some (nb d)))/\MapAt dD H (nb d) (bJ x)/\H.cell? ⟨p,0,none⟩=some (.map (some K))/\MapAt aY H K (T.map λ q=>(q.1,ptr (ib q.1)))):=λ H hb=>by
     have h2:=W.o.below hb acs;have hi:=h2.item d x HX.o;obtain⟨_,_,_,_,_,_,c7,_⟩:=hi.cell;unfold dS at c7;rw[if_pos zN.o]at c7;exact⟨c7,hi.names zN.o,h2.cell.1,h2.map⟩
    cases hj:au O x.names with
    |some j=>
     have C:au O (bJ x)=some (.int .i64 j):=by rw[eY,hj];rfl
     have Jk:=acp C;have G:dF T m kind=((0,21),T):=by
      have:ow T m kind=21:=by rw[Sv.o (if 64<=T.length then 4 else 0) (λ h=>if_pos h) (λ h=>if_neg (by omega)),hj];rfl
      unfold dF;rw[this];simp
     have U:=acp G;clear G hj C;rcases X with rfl|rfl
     all_goals
      go_enter Tryz.func57,acn;go_wp2_with fail;refine HF.o.mono ?_;rintro e N ⟨rfl,A⟩;have u:=acp A;clear A;go_wp2_with fail;refine(rW.o N u.o).mono ?_;rintro e H ⟨rfl,E⟩
      (first|rw[if_pos rfl]|rw[if_pos trivial])
      have F:=acp (u.o.trans (E.mono u.o.size));clear E;obtain⟨c7,fK,_,_⟩:=vS.o H F.o;have Bo:=acp fK;clear fK;go_wp2_with (at_lookup;refine aR dD rfl _ _ 194 3 rfl aah (Tryz.gM _) rfl Bo.o O rfl mY ?_;rw[Jk.o])
      go_ret2
      rw[U.o];exact Turn.same W.o F.o rfl
    |none=>
     have C:au O (bJ x)=none:=by rw[eY,hj];rfl
     have Jk:=acp C;have HJ:=acp hj;clear C hj;by_cases R:64<=T.length
     ·have G:dF T m kind=((0,4),T):=by
       have:ow T m kind=4:=by rw[Sv.o 4 (λ _=>rfl) (λ h=>by omega),HJ.o];rfl
       unfold dF;rw[this];simp
      have U:=acp G;have dM:decide ((T.length:Int)<64)=false:=by simp;omega
      have bT:decide ((64:Int)<=(T.length:Int))=true:=by simp;omega
      clear G;rcases X with rfl|rfl
      all_goals
       go_enter Tryz.func57,acn;go_wp2_with fail;refine HF.o.mono ?_;rintro e N ⟨rfl,A⟩;have u:=acp A;clear A;go_wp2_with fail;refine(rW.o N u.o).mono ?_;rintro e H ⟨rfl,E⟩
       (first|rw[if_pos rfl]|rw[if_pos trivial])
       have F:=acp (u.o.trans (E.mono u.o.size));clear E;obtain⟨c7,fK,c0,I⟩:=vS.o H F.o;have Bo:=acp fK;have iM:=acp I;clear fK I;go_wp2_with (first|(at_lookup;refine aR dD rfl _ _ 194 3 rfl aah (Tryz.gM _) rfl Bo.o O rfl mY ?_;rw[Jk.o])|(at_len;refine kD aY rfl _ 190 193 rfl Tryz.underlying190 rfl iM.o ?_;rw[List.length_map]))
       go_ret2
       rw[U.o];exact Turn.same W.o F.o rfl
     ·have G:dF T m kind=((Ec T,0),yD T m kind):=by
       have:ow T m kind=0:=by rw[Sv.o 0 (λ h=>absurd h R) (λ h=>rfl),HJ.o];rfl
       unfold dF;rw[if_pos this]
      unfold yD at G;rw[<-HQ.o]at G;obtain⟨f,d9,kg,jG,dG,dV⟩:=HT.o.free;rw[d9]at G;have U:=acp G;have av:=acp dG;have gL:=acp dV;have dM:decide ((T.length:Int)<64)=true:=by simp;omega
      have bT:decide ((64:Int)<=(T.length:Int))=false:=by simp;omega
      have rF:d≠(f:Int):=λ e=>by have:=HX.o;rw[e,av.o]at this;cases this
      have V6:=acp rF;clear G dG dV d9 rF;have aL:aY.ok (f:Int):=gG (by omega) (by omega);have HK:=acp X;rcases X with rfl|rfl
      all_goals
       go_enter Tryz.func57,acn;go_wp2_with fail;refine HF.o.mono ?_;rintro e N ⟨rfl,A⟩;have u:=acp A;clear A;go_wp2_with fail;refine(rW.o N u.o).mono ?_;rintro e H ⟨rfl,E⟩
       (first|rw[if_pos rfl]|rw[if_pos trivial])
       have F:=acp (u.o.trans (E.mono u.o.size));clear E;obtain⟨c7,fK,c0,I⟩:=vS.o H F.o;have Bo:=acp fK;have iM:=acp I;clear fK I;go_wp2_with (first|(at_lookup;refine aR dD rfl _ _ 194 3 rfl aah (Tryz.gM _) rfl Bo.o O rfl mY ?_;rw[Jk.o])|(at_len;refine kD aY rfl _ 190 193 rfl Tryz.underlying190 rfl iM.o ?_;rw[List.length_map]))
       go_loop [14] (λ s=>∃j:Nat,1<=j/\j<=f/\s= .int .i64 j) (λ s=>f-(intOf s).toNat)
       case atStart=>exact⟨1,by omega,by omega,rfl⟩
       case round=>
        obtain⟨j,fT,jL,rfl⟩:=hrel;have ak:aY.ok (j:Int):=gG (by omega) (by omega);by_cases bq:j<f
        ·obtain⟨y,hy⟩:=aag.1 (gL.o j fT bq);have CF:acr (au (j:Int) (T.map λ q=>(q.1,ptr (ib q.1)))=some (ptr (ib j))):=by rw[eH,hy];rfl
         clear hy;go_wp2_with (at_lookup;refine aX aY rfl _ _ 190 193 rfl Tryz.underlying190 (Tryz.bD _) rfl iM.o (j:Int) rfl ak ?_;rw[CF.o])
         go_round
         case rel=>exact⟨j+1,by omega,by omega,by go_num⟩
         case measure=>simp[intOf];omega
        ·obtain rfl:f=j:=by omega
         have CF:acr (au (f:Int) (T.map λ q=>(q.1,ptr (ib q.1)))=none):=by rw[eH,av.o];rfl
         go_wp2_with (at_lookup;refine aX aY rfl _ _ 190 193 rfl Tryz.underlying190 (Tryz.bD _) rfl iM.o (f:Int) rfl ak ?_;rw[CF.o]);have aD:=acp (W.o.below F.o acs);have aA:=aD.o.cell.2.1;have jm:=aD.o.cell.2.2;have cB:p≠K:=λ e=>by have h1:=W.o.uT;rw[e,W.o.lI]at h1;cases h1
         have dK:∀v J,Below H.drew.heap.size H.drew J->∃Z,(Instr.mapUpdate 190 (.map (some K)) (.int .i64 (f:Int)) v).run Tryz.prog J= .ok () Z/\MapAt aY Z K (dO aY.lt (f:Int) v (T.map λ q=>(q.1,ptr (ib q.1))))/\J.mapTurned Z K:=by
          intro v J B;have gy:MapAt aY J K (T.map λ q=>(q.1,ptr (ib q.1))):=iM.o.kept (B.block K jm);exact gy.rU aY Tryz.underlying190 (by rw[List.length_map];unfold maxLen;omega) (f:Int) v aL
         have jo:=acp dK;have iT:=acp cB;have P:∀J,Below H.drew.heap.size H.drew J->J.cell? ⟨p,0,none⟩=some (.map (some K)):=λ J B=>(B.cell (p:=⟨p,0,none⟩) aA).trans c0;have V7:∀J Z,Below H.drew.heap.size H.drew J->J.mapTurned Z K->Z.cell? ⟨p,0,none⟩=some (.map (some K)):=λ J Z B hT=>(World.cell?_of_block (w:=J) (w':=Z) (a:=⟨p,0,none⟩) (eU hT p (Pd aA B.size) iT.o)).trans ((B.cell (p:=⟨p,0,none⟩) aA).trans c0);have vK:=acp P;have bf:=acp V7;have jw:=acp (λ w=>Bh (f:Int) 1 w);clear dK cB P V7
         go_region_held3 (λ w'=>w'.cell? ⟨p,0,none⟩=some (.map (some K))) (first|exact c0|exact vK.o _ B|exact bf.o _ _ B sP) ((first|(go_at_call 124;refine(Bh (f:Int) _ _).mono ?_;rintro e J ⟨rfl,dn,B,bS,aJ⟩)|(obtain⟨Z,Ht,sQ,sP⟩:=jo.o (ptr H.heap.size) J B;rw[Ht];go_simp)))
         have gM:=acp dn;have iO:=acp B;have xR:=acp bS;have jl:=acp aJ;have sW:=acp sQ;have ig:=acp sP;clear dn B bS aJ sQ sP Ht;obtain⟨g1,iN,bD,Gt,aN,aH,dN⟩:=VZ (aD.o.below acu.drew acs) av.o gM.o iO.o xR.o (by first|exact jl.o|exact λ _=>jl.o trivial) sW.o ig.o;have Y:∀kd,au d (dO qK (f:Int) (dh kd) T)=some x:=λ kd=>by rw[fO,if_neg V6.o];exact HX.o
         obtain⟨_,_,_,_,_,_,aC,_⟩:=(Gt.item d x (Y _)).cell;have Q:=(Gt.item d x (Y _)).names zN.o;unfold dS at aC;rw[if_pos zN.o,(dN d V6.o).1]at aC;obtain⟨nd,M⟩:∃nd,nd=bD d:=⟨_,rfl⟩;rw[<-M]at aC Q;have iD:=acp Gt;have jc:=acp aN;have qN:=acp aH;have Vt:=acp Y;have aF:=acp Q;have ZJ:=acp M;have Sw:acr ((bJ x).length<maxLen):=by
          have h1:=HT.o.few HX.o;have h2:(bJ x).length<maxLen:=by unfold bJ maxLen;rw[List.length_map];omega
          exact h2
         clear Gt aN aH Y Q M dN;go_wp2_with (at_mapUpdate;refine mW dD rfl _ _ _ 194 3 rfl aah rfl aF.o Sw.o O (.int .i64 (f:Int)) rfl rfl mY ?_;intro w5 Kn KY)
         go_ret2
         rw[U.o];have Gt:=iD.o;have M:=ZJ.o;have C:g1 nd≠ .none:=by rw[M,Gt.oO d x (Vt.o _) zN.o];simp
         obtain⟨e1,e2⟩:=V4 F.o jc.o qN.o KY C;subst M;exact⟨rfl,g1,D,iN,bD,Gt.set (Vt.o _) zN.o Kn KY,e1,λ b h=> .inl h,e2⟩
   ·have iE:((aQ T m).2.2==0)=false:=by simpa using V
    have bn:((aQ T m).2.2 !=0)=true:=by simpa using V
    have G:dF T m kind=((0,(aQ T m).2.2),T):=by
     have:ow T m kind=(aQ T m).2.2:=by unfold ow;rw[if_neg (by rw[uK.o];simp),if_neg (λ h=>h X),if_pos V]
     unfold dF;rw[this,if_neg V]
    have U:=acp G;have HP:=acp V;unfold ql at rW;generalize aQ T m=q at*;clear G V;rcases X with rfl|rfl
    all_goals
     go_enter Tryz.func57,acn;go_wp2_with fail;refine HF.o.mono ?_;rintro e N ⟨rfl,A⟩;have u:=acp A;clear A;go_wp2_with fail;refine(rW.o N u.o).mono ?_;rintro e H ⟨rfl,E⟩;rw[if_neg HP.o];have F:=acp E;clear E;go_wp2_with fail
     go_ret2
     rw[U.o];exact Turn.same W.o (u.o.trans (F.o.mono u.o.size)) rfl
  ·have HK:=acp X;have e1:(kind !=1)=true:=by simp;omega
   have e2:(kind !=2)=true:=by simp;omega
   have G:dF T m kind=((0,30),T):=by
    have:ow T m kind=30:=by unfold ow;rw[if_neg (by rw[uK.o];simp),if_pos HK.o]
    unfold dF;rw[this];simp
   have U:=acp G;clear G X;go_enter Tryz.func57,acn;go_wp2_with fail;refine HF.o.mono ?_;rintro e N ⟨rfl,A⟩;go_wp2_with fail
   go_ret2
   rw[U.o];exact Turn.same W.o A rfl
 ·have G:dF T m kind=((0,bN m),T):=by
   have:ow T m kind=bN m:=by unfold ow;rw[if_pos hf]
   unfold dF;rw[this,if_neg hf]
  have iE:(bN m==0)=false:=by simpa using hf
  have bn:(bN m !=0)=true:=by simpa using hf
  have U:=acp G;clear G hf;go_enter Tryz.func57,acn;go_wp2_with fail;refine HF.o.mono ?_;rintro e N ⟨rfl,A⟩;go_wp2_with fail
  go_ret2
  rw[U.o];exact Turn.same W.o A rfl
