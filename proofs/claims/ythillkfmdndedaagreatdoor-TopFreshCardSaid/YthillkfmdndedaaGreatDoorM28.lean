/- package -/
import Derived.Test.YthillkfmdndedaaGreatDoorM27
set_option maxRecDepth 100000
set_option maxHeartbeats 64000000
set_option linter.all false
namespace Go.Proofs.YthillkfmdndedaaGreatDoor
open Go.ChangeShapes Go.WideShapes Go.ChangeAt Go.RowKit
def Rl(x:iI):List (I8):=
 if x.kind=7\/x.kind=10 then[x.path,x.bT]else
 if x.kind=1\/x.kind=2\/x.kind=3\/x.kind=8\/x.kind=9\/x.kind=11\/x.kind=12\/x.kind=13 then[x.path]else[]
def gB:List (I8)->List (List Nm)×Int
 |[]=>([],0)
 |a::r=>if (aT a).2≠0 then([],(aT a).2)else if (gB r).2≠0 then([],(gB r).2)else((aT a).1::(gB r).1,0)
def fE(x:iI):List (List Nm)×Int:=if 1<=x.kind/\x.kind<=17 then gB (Rl x)else([],30)
def gX(S:qJ)(id now:Int):Int×qJ:=match S.l.findIdx? (λ x=>decide (x.id=id))with
 |none=>(29,S)
 |some k=>match S.l[k]? with
  |none=>(29,S)
  |some x=>if Pm x.t now=true then(28,S)else(0,Uf S k)
def sH(now tick:Int):Int:=if tick<=1099511627776 then(if now<=tick then tick else now)else now
def JN(q:Int×dQ):tZ×dQ:=(eD q.1,q.2)
def dQ.tr(M:dQ)(T:aS):dQ:={M with t:=T}
def dQ.sn(M:dQ)(S:qJ):dQ:={M with s:=S}
def Ui(M:dQ)(x:iI)(p q:List Nm):tZ×dQ:=
 if x.kind=1 then jU M p else
 if x.kind=2 then(eD (dF M.t p 2).1.2,M.tr (dF M.t p 2).2)else
 if x.kind=3 then jE M p x.snap else
 if x.kind=4 then(wN M x,M)else
 if x.kind=5 then kr M x else
 if x.kind=6 then JN (ku M x)else
 if x.kind=7 then(eD (iy M.t p q).1,M.tr (iy M.t p q).2)else
 if x.kind=8 then JN (jd M p)else
 if x.kind=9 then(eD (fC M.t p).1,M.tr (fC M.t p).2)else
 if x.kind=10 then(eD (dz M.t p q).1,M.tr (dz M.t p q).2)else
 if x.kind=11\/x.kind=12 then(rO M x p,M)else
 if x.kind=13 then JN (ng M p x.aL)else
 if x.kind=14 then(⟨(jk M.s M.t).1.2,(jk M.s M.t).1.1,[],[],none⟩,M.sn (jk M.s M.t).2)else
 if x.kind=15 then(eD (gX M.s x.snap M.now).1,M.sn (gX M.s x.snap M.now).2)else
 if x.kind=16 then(eD 0,{M with now:=sH M.now x.aL})else(eD 0,M)
def dA(M:dQ)(x:iI):tZ×dQ:=
 if (fE x).2≠0 then(eD (fE x).2,M)else Ui M x ((fE x).1.getD 0 []) ((fE x).1.getD 1 [])
theorem JM.eq{S S':qJ}{id now A:Int}(h:JM S id now A S'):gX S id now=(A,S'):=by
 unfold gX;rcases h with⟨rfl,rfl,m⟩|⟨k,x,u,y,m,h⟩
 ·have:S'.l.findIdx? (λ x=>decide (x.id=id))=none:=by
   rw[acd];intro x u;simpa using m x u
  rw[this]
 ·have:S.l.findIdx? (λ x=>decide (x.id=id))=some k:=by
   obtain⟨B,e⟩:=aaj.1 u;rw[List.findIdx?_eq_some_iff_getElem];refine⟨B,by rw[e];simpa using y,λ j D=> ?_⟩;have C:S.l[j]'(by omega)∈S.l.take k:=by
    rw[List.mem_take_iff_getElem];exact⟨j,by omega,rfl⟩
   simpa using m _ C
  rw[this];dsimp only;rw[u];dsimp only;rcases h with⟨z,rfl,rfl⟩|⟨z,rfl,rfl⟩
  ·rw[if_pos z]
  ·rw[if_neg (by rw[z];simp)]
def FdOk(f:Nz):Prop:=0<=f.id/\f.id<=65535/\f.b.length<=4096
structure GL(S:qJ):Prop where
 few:S.l.length<=8
 last:S.last.length<=64
 each:∀x∈S.l,gT x.t
structure iJ(c:Int)(M:dQ):Prop where
 t:gT M.t
 s:GL M.s
 next:0<=M.s.next/\M.s.next<=c
 now:0<=M.now/\M.now<=1099511627776
 fd:∀n f,M.fds n=some f->FdOk f
theorem iJ.mono{c d:Int}{M:dQ}(h:iJ c M)(m:c<=d):iJ d M:=⟨h.t,h.s,⟨h.next.1,by have:=h.next.2;omega⟩,h.now,h.fd⟩
theorem iJ.new:iJ 1 nH:=⟨gT.new,⟨by decide,by decide,λ x m=>by cases m⟩,⟨by decide,by decide⟩,⟨by decide,by decide⟩,λ n f h=>by cases h⟩
theorem iJ.tr{c:Int}{M:dQ}(h:iJ c M){T:aS}(m:gT T):iJ c (M.tr T):=⟨m,h.s,h.next,h.now,h.fd⟩
theorem iJ.put{c:Int}{M:dQ}(h:iJ c M)(n:Nat)(f:Option Nz)(z:∀g,f=some g->FdOk g):iJ c (M.put n f):=
 ⟨h.t,h.s,h.next,h.now,λ m g u=>by
  have u:(if m=n then f else M.fds m)=some g:=u;by_cases y:m=n
  ·rw[if_pos y]at u;exact z g u
  ·rw[if_neg y]at u;exact h.fd m g u⟩
theorem Rm(m:I8):(jh m).length<=64:=by rw[eu];omega
theorem GL.take{S:qJ}(h:GL S){T:aS}(y:gT T):GL (jk S T).2:=by
 unfold jk;by_cases u:8<=S.l.length
 ·rw[if_pos u];exact h
 ·rw[if_neg u];refine⟨by simp;omega,Rm _,λ x m=> ?_⟩;rcases aaA.1 m with m|m
  ·exact h.each x m
  ·rw[List.mem_singleton.1 m];exact y.bX
theorem Pp(S:qJ)(T:aS):(jk S T).2.next=S.next\/(jk S T).2.next=S.next+1:=by
 unfold jk;split
 ·exact .inl rfl
 ·exact .inr rfl
theorem GL.cut{S:qJ}(h:GL S)(k:Nat):GL (Uf S k):=by
 refine⟨?_,h.last,λ x m=> ?_⟩
 ·have:=h.few;show(S.l.take k++S.l.drop (k+1)).length<=8;rw[List.length_append,List.length_take,List.length_drop];omega
 ·rcases aaA.1 (show x∈S.l.take k++S.l.drop (k+1)from m)with m|m
  ·exact h.each x (aaN m)
  ·exact h.each x (abx m)
theorem yQ(S:qJ)(id now:Int):(gX S id now).2=S\/∃k,(gX S id now).2=Uf S k:=by
 unfold gX;split
 ·exact .inl rfl
 ·split
  ·exact .inl rfl
  ·split
   ·exact .inl rfl
   ·exact .inr ⟨_,rfl⟩
theorem GL.forget{S:qJ}(h:GL S)(id now:Int):GL (gX S id now).2/\(gX S id now).2.next=S.next:=by
 rcases yQ S id now with m|⟨k,m⟩
 ·rw[m];exact⟨h,rfl⟩
 ·rw[m];exact⟨h.cut k,rfl⟩
theorem XQ{now tick:Int}(h:0<=now/\now<=1099511627776):0<=sH now tick/\sH now tick<=1099511627776:=by
 unfold sH;split
 ·split
  ·omega
  ·omega
 ·omega
theorem Pq{T:aS}(u:fA T)(m:List Nm)(kind:Int):0<=(dF T m kind).1.1/\(dF T m kind).1.1<=65535:=by
 unfold dF;split
 ·obtain⟨f,y,z,A,_⟩:=u.free;have:=u.len;dsimp only;rw[y];omega
 ·simp
theorem iJ.JO{c:Int}{M:dQ}(h:iJ c M){id:Int}{T:aS}(m:lq M id=some T):gT T:=by
 unfold lq at m;split at m
 ·cases m;exact h.t
 ·cases u:Ip M.s id with
  |none=>rw[u]at m;cases m
  |some y=>
   rw[u]at m;cases m;exact h.s.each y (ace u)
theorem read_le{T:aS}(u:fA T)(id a n:Int):(qV T id a n).length<=4096:=by
 unfold qV;split
 ·simp
 ·rename_i x m;split
  ·simp
  ·have:=(u.each id x m).size;unfold qU;split
   ·simp
   ·rw[List.length_take,List.length_drop];omega
theorem iJ.create{c:Int}{M:dQ}(h:iJ c M)(m:List Nm):iJ c (jU M m).2:=by
 unfold jU;split
 ·exact h
 ·split
  ·exact h.tr (h.t.dF m 1)
  ·refine(h.tr (h.t.dF m 1)).put _ _ λ g u=> ?_;cases u;have:=Pq h.t.1 m 1;exact⟨this.1,this.2,by simp⟩
theorem iJ.open{c:Int}{M:dQ}(h:iJ c M)(m:List Nm)(id:Int):iJ c (jE M m id).2:=by
 unfold jE;split
 ·exact h
 ·rename_i T y;split
  ·exact h
  ·unfold Mc;split
   ·exact h
   ·split
    ·exact h
    ·split
     ·exact h
     ·split
      ·exact h
      ·refine h.put _ _ λ g u=> ?_;cases u;exact⟨by simp,by simp,read_le (h.JO y).1 _ _ _⟩
theorem iJ.write{c:Int}{M:dQ}(h:iJ c M)(x:iI):iJ c (kr M x).2:=by
 unfold kr;split
 ·exact h
 ·split
  ·exact h
  ·exact h.tr (h.t.dP _ _)
theorem iJ.close{c:Int}{M:dQ}(h:iJ c M)(x:iI)(u:wM x):iJ c (ku M x).2:=by
 unfold ku;split
 ·split
  ·exact h.tr (h.t.gu _ _ u.wt.1)
  ·exact(h.tr (h.t.gu _ _ u.wt.1)).put _ _ λ g m=>by cases m
 ·split
  ·exact h
  ·exact h.put _ _ λ g m=>by cases m
theorem iJ.unlink{c:Int}{M:dQ}(h:iJ c M)(m:List Nm):iJ c (jd M m).2:=by
 unfold jd;split
 ·exact h
 ·split
  ·exact h
  ·exact h.tr (h.t.dY m)
theorem iJ.keep{c:Int}{M:dQ}(h:iJ c M)(y:List Nm)(m:Int)(u:0<=m):iJ c (ng M y m).2:=by
 unfold ng;split
 ·exact h
 ·split
  ·exact h
  ·exact h.tr (h.t.iX _ _ u)
theorem iJ.do_{c:Int}{M:dQ}(h:iJ c M)(x:iI)(C:wM x):iJ (c+1) (dA M x).2:=by
 have m:=h.mono (show c<=c+1 by omega);unfold dA;by_cases J:(fE x).2≠0
 ·rw[if_pos J];exact m
 ·rw[if_neg J];unfold Ui;by_cases I:x.kind=1
  ·rw[if_pos I];exact m.create _
  rw[if_neg I];by_cases F:x.kind=2
  ·rw[if_pos F];exact m.tr (h.t.dF _ _)
  rw[if_neg F];by_cases P:x.kind=3
  ·rw[if_pos P];exact m.open _ _
  rw[if_neg P];by_cases E:x.kind=4
  ·rw[if_pos E];exact m
  rw[if_neg E];by_cases N:x.kind=5
  ·rw[if_pos N];exact m.write _
  rw[if_neg N];by_cases K:x.kind=6
  ·rw[if_pos K];exact m.close _ C
  rw[if_neg K];by_cases D:x.kind=7
  ·rw[if_pos D];exact m.tr (h.t.iy _ _)
  rw[if_neg D];by_cases G:x.kind=8
  ·rw[if_pos G];exact m.unlink _
  rw[if_neg G];by_cases O:x.kind=9
  ·rw[if_pos O];exact m.tr (h.t.fC _)
  rw[if_neg O];by_cases B:x.kind=10
  ·rw[if_pos B];exact m.tr (h.t.dz _ _)
  rw[if_neg B];by_cases A:x.kind=11\/x.kind=12
  ·rw[if_pos A];exact m
  rw[if_neg A];by_cases y:x.kind=13
  ·rw[if_pos y];exact m.keep _ _ C.wt.1
  rw[if_neg y];by_cases H:x.kind=14
  ·rw[if_pos H];refine⟨h.t,h.s.take h.t,?_,h.now,h.fd⟩;have:=h.next;rcases Pp M.s M.t with e|e
   ·show 0<=(jk M.s M.t).2.next/\(jk M.s M.t).2.next<=c+1
    omega
   ·show 0<=(jk M.s M.t).2.next/\(jk M.s M.t).2.next<=c+1
    omega
  rw[if_neg H];by_cases u:x.kind=15
  ·rw[if_pos u];obtain⟨k1,k2⟩:=h.s.forget x.snap M.now;refine⟨h.t,k1,?_,h.now,h.fd⟩;have:=m.next;show 0<=(gX M.s x.snap M.now).2.next/\(gX M.s x.snap M.now).2.next<=c+1
   rw[k2];exact this
  rw[if_neg u];by_cases z:x.kind=16
  ·rw[if_pos z];exact⟨h.t,h.s,m.next,XQ h.now,h.fd⟩
  rw[if_neg z];exact m
def Rn(S:Nat->Prop)(w:World)(u:Value)(q:List Nm):Prop:=∃a c,u= .slice a q.length c/\q.length<=c/\aW S w a q.length (q.map strOf)
def oV(S:Nat->Prop)(w:World)(m:List Value)(l:List (List Nm)):Prop:=m.length=l.length/\∀(i:Nat) (q:List Nm),l[i]? =some q->∃u,m[i]? =some u/\Rn S w u q
theorem Rn.move{S S':Nat->Prop}{w w':World}{u:Value}{q:List Nm}(h:Rn S w u q)(z:w.heap.size<=w'.heap.size)(y:∀b,S b->b<w.heap.size->S' b/\w'.heap[b]? =w.heap[b]?):Rn S' w' u q:=by
 obtain⟨a,c,B,A,m⟩:=h;exact⟨a,c,B,A,m.row.move z y,m.short⟩
theorem oV.move{S S':Nat->Prop}{w w':World}{m:List Value}{l:List (List Nm)}(h:oV S w m l)(A:w.heap.size<=w'.heap.size)(y:∀b,S b->b<w.heap.size->S' b/\w'.heap[b]? =w.heap[b]?):oV S' w' m l:=
 ⟨h.1,λ i q z=>by
  obtain⟨u,C,B⟩:=h.2 i q z;exact⟨u,C,B.move A y⟩⟩
theorem oV.append{S:Nat->Prop}{w:World}{B z:List Value}{u y:List (List Nm)}(h:oV S w B u)(k:oV S w z y):oV S w (B++z) (u++y):=by
 refine⟨by rw[List.length_append,List.length_append,h.1,k.1],λ i q m=> ?_⟩;by_cases A:i<u.length
 ·rw[aaY A]at m;rw[aaY (by rw[h.1];exact A)];exact h.2 i q m
 ·rw[aax (by omega)]at m;rw[aax (by rw[h.1];omega),h.1];exact k.2 _ q m
def sI(B:Nat)(w:World)(v:Value)(m:Nat)(xs:List Value)(L:List (List Nm))(y:Value)(w':World):Prop:=
 ∃u l,l.Perm L/\w'.ownsRow B 34 1 y (m+l.length) (xs++u)/\oV (λ b=>w.heap.size<=b/\b<w'.heap.size/\y.ownBlock≠some b) w' u l/\Keeps (λ b=>v.ownBlock=some b) w w'/\∀b,y.ownBlock=some b->v.ownBlock=some b\/w.heap.size<=b
theorem sI.refl{B:Nat}{w:World}{v:Value}{m:Nat}{xs:List Value}(h:w.ownsRow B 34 1 v m xs):sI B w v m xs [] v w:=
 ⟨[],[],List.Perm.refl _,by simpa using h,⟨rfl,λ i q u=>by simp at u⟩,Keeps.refl _ _,λ b y=> .inl y⟩
theorem sI.trans{B:Nat}{w G V:World}{v J U:Value}{m:Nat}{xs:List Value}{P Q:List (List Nm)}(h:sI B w v m xs P J G)(k:∀R C,G.ownsRow B 34 1 J R C->sI B G J R C Q U V):sI B w v m xs (P++Q) U V:=by
 obtain⟨D,l,X,ho,hv,S,W⟩:=h;obtain⟨z,Y,K,I,N,y,E⟩:=k _ _ ho;have Z:=S.size;have ak:=y.size;refine⟨D++z,l++Y,X.append K,by rw[List.length_append,<-Nat.add_assoc,<-List.append_assoc];exact I,?_,S.trans y λ x hx M=> ?_,λ b H=> ?_⟩
 ·refine(hv.move (by omega) λ b A F=>⟨⟨A.1,by omega,λ O=> ?_⟩,y.block b F λ O=>A.2.2 O⟩).append (N.move acs λ b A F=>⟨⟨by omega,A.2.1,A.2.2⟩,rfl⟩);rcases E b O with u|u
  ·exact A.2.2 u
  ·omega
 ·rcases W x M with u|u
  ·exact u
  ·omega
 ·rcases E b H with u|u
  ·exact W b u
  ·exact .inr (by omega)
def bmk(l:I8):ByteArray:=⟨l.toArray⟩
theorem XR(l:I8):(bmk l).size=l.length:=by simp[bmk,ByteArray.size]
def Small(q:List Nm):Prop:=q.length<=64/\∀n∈q,n.length<=16
theorem bls_len(ss:List ByteArray):(Sl ss).length=ss.length:=by simp[Sl]
theorem XT{w:World}{e:TypeId}{ss:List ByteArray}{n:Nat}(z:ss.length=n)(m:n<=maxLen)(y:∀s∈ss,s.size<=maxLen):aW (Cz w.heap.size) (w.alloc (.cells (ss.map Value.string).toArray e)) (some ⟨w.heap.size,0,none⟩) n ss:=by
 refine⟨⟨by simpa using z,m,λ _=>⟨w.heap.size,0,rfl,Nat.le_refl _,by simp,λ i A=> ?_⟩⟩,y⟩;have u:(w.alloc (.cells (ss.map Value.string).toArray e)).heap[w.heap.size]? =some (.cells (ss.map Value.string).toArray e):=(MapKept.heap_alloc w _).1;simp only[World.cell?,u,Nat.zero_add];simp
theorem bls_any(ss:List ByteArray):ss.any Eb=(Sl ss).any (λ x=> !gF x):=by
 unfold Sl;rw[List.any_map];rfl
theorem XU(ss:List ByteArray):Cw ss=bN (Sl ss):=by
 unfold Cw bN;rw[bls_any,bls_len]
def XV(w:World)(l:I8)(e:Ending)(w':World):Prop:=
 ∃a m u ss,e= .returned (.tuple #[.slice a m u,.int .i64 (aT l).2])/\m<=u/\Sl ss=(aT l).1/\aW (Cz w.heap.size) w' a m ss/\Below w.heap.size w w'
theorem IB(s:ByteArray)(w:World)(hs:s.size<4294967281)(m:Int)(hm:w.cell? ⟨2,0,none⟩=some (.int .i64 m)):
  Dy 120 #[.string s] w (XV w s.data.toList):=by
 obtain⟨l,W⟩:∃l,s.data.toList=l:=⟨_,rfl⟩;rw[W];have E:s.size=l.length:=by rw[<-W];simp
 have z:=Tryz.strings_CutPrefix s ⟨#[47]⟩;rw[W]at z;have R:(Lib.hasPrefix l [47]=false/\aT l=([],12))\/(l=[47]/\aT l=([],0))\/(∃r,r≠[]/\l=47::r/\aT l=if bN (dJ r)=0 then(dJ r,0)else([],bN (dJ r))):=by
  cases l with
  |nil=>exact Or.inl ⟨rfl,rfl⟩
  |cons c r=>
   by_cases h:c=47
   ·subst h;by_cases hr:r=[]
    ·subst hr;exact Or.inr (Or.inl ⟨rfl,rfl⟩)
    ·exact Or.inr (Or.inr ⟨r,hr,rfl,by simp[aT,hr]⟩)
   ·refine Or.inl ⟨?_,by simp[aT,h]⟩;simp[Lib.hasPrefix,List.isPrefixOf];exact λ e=>h e.symm
 clear W;rcases R with⟨M,K⟩|⟨M,K⟩|⟨r,M,K,h3⟩
 ·have C:=acp K;rw[M]at z;clear M K E;go_enter Tryz.func120,Tryz.ntmps120;go_wp2_with fail;refine(z _).mono ?_;rintro e F ⟨rfl,rfl⟩;clear z;go_wp2_with fail
  go_ret2
  exact⟨none,0,0,[],by rw[C.o];rfl,by simp,by rw[C.o];rfl,⟨ah.nil _ _ _,by simp⟩,Below.refl _ _⟩
 ·have C:=acp K;subst M;clear K E;rw[show Lib.trimPrefix [47] [47]=[]from rfl,show Lib.hasPrefix [47] [47]=true from rfl]at z;go_enter Tryz.func120,Tryz.ntmps120;go_wp2_with fail;refine(z _).mono ?_;rintro e F ⟨rfl,rfl⟩;clear z;go_wp2_with fail
  go_ret2
  exact⟨none,0,0,[],by rw[C.o];rfl,by simp,by rw[C.o];rfl,⟨ah.nil _ _ _,by simp⟩,Below.refl _ _⟩
 ·subst K;have C:=acp h3;clear h3;have e1:Lib.trimPrefix (47::r) [47]=r:=by simp[Lib.trimPrefix,Lib.hasPrefix,List.isPrefixOf]
  have e2:Lib.hasPrefix (47::r) [47]=true:=by simp[Lib.hasPrefix,List.isPrefixOf]
  rw[show(⟨#[47]⟩:ByteArray).data.toList=[47]from rfl,e1,e2]at z;clear e1 e2;obtain⟨t,V⟩:∃t,t=bmk r:=⟨_,rfl⟩;have N:(⟨r.toArray⟩:ByteArray)=t:=V.symm;rw[N]at z;have J:t.data.toList=r:=by rw[V];rfl
  have P:t.size=r.length:=by rw[V,XR]
  have D:=abD t;rw[J]at D;have ak:¬t.toList=[]:=by rw[D];exact M
  have av:t.toList.isEmpty=false:=by rw[D];simpa using M
  have Y:t.size<4294967281:=by rw[P];simp at E;omega
  clear V N D;obtain⟨H,G⟩:=KP t;rw[J]at H G;have y:(Lib.splitB ⟨#[47]⟩ 0 (Lib.countB t ⟨#[47]⟩) t).length=Lib.countB t ⟨#[47]⟩+1:=by
   have:=aaK List.length H;rw[List.length_map,Gp]at this;omega
  have Q:Lib.countB t ⟨#[47]⟩+1<=r.length+1:=by rw[G];have:=List.count_le_length (a:=(47:UInt8)) (l:=r);omega
  have u:∀x∈Lib.splitB ⟨#[47]⟩ 0 (Lib.countB t ⟨#[47]⟩) t,x.size<=maxLen:=by
   intro x hx;have h5:x.data.toList∈dJ r:=by rw[<-H];exact List.mem_map.2 ⟨x,hx,rfl⟩
   have:=Sj r _ h5;have h6:x.data.toList.length=x.size:=by simp
   unfold maxLen;omega
  obtain⟨ss,I⟩:∃ss,ss=Lib.splitB ⟨#[47]⟩ 0 (Lib.countB t ⟨#[47]⟩) t:=⟨_,rfl⟩;have HS:=Tryz.strings_Split t ⟨#[47]⟩ m w Y hm (by decide);obtain⟨n,hn⟩:∃n,n=Lib.countB t ⟨#[47]⟩+1:=⟨_,rfl⟩;rw[<-I,<-hn]at HS;rw[<-I]at H y u;rw[<-hn]at y Q;have U:n<=maxLen:=by unfold maxLen;omega
  have O:=XT (w:=w) (e:=9) y U u;have Z:=KN (S:=Cz w.heap.size) (some ⟨w.heap.size,0,none⟩) n n ss _ O;rw[XU,show Sl ss=dJ r from H]at Z;have HB:=acp H;clear H y u I hn G Q U J P E;cases hf:(bN (dJ r) !=0)
  ·have A:bN (dJ r)=0:=by simpa using hf
   have B:=acp A;clear A;go_enter Tryz.func120,Tryz.ntmps120;go_wp2_with fail;refine(z _).mono ?_;rintro e F ⟨rfl,rfl⟩;clear z;go_wp2_with fail;refine HS.mono ?_;rintro e F ⟨rfl,rfl⟩;go_wp2_with fail;refine Z.mono ?_;rintro e F ⟨rfl,X⟩;go_wp2_with fail
   go_ret2
   refine⟨_,n,n,ss,by rw[C.o,if_pos B.o];rfl,Nat.le_refl _,by rw[C.o,if_pos B.o];exact HB.o,O.below X (by simp),(acu.alloc acs _).trans (X.mono (by simp))⟩
  ·have A:bN (dJ r)≠0:=by simpa using hf
   have B:=acp A;clear A;go_enter Tryz.func120,Tryz.ntmps120;go_wp2_with fail;refine(z _).mono ?_;rintro e F ⟨rfl,rfl⟩;clear z;go_wp2_with fail;refine HS.mono ?_;rintro e F ⟨rfl,rfl⟩;go_wp2_with fail;refine Z.mono ?_;rintro e F ⟨rfl,X⟩;go_wp2_with fail
   go_ret2
   refine⟨none,0,0,[],by rw[C.o,if_neg B.o];rfl,by simp,by rw[C.o,if_neg B.o];rfl,⟨ah.nil _ _ _,by simp⟩,(acu.alloc acs _).trans (X.mono (by simp))⟩
theorem yR:∀(m:List (I8)),(∀t∈m,(aT t).2=0)->gB m=(m.map λ t=>(aT t).1,0)
 |[],_=>rfl
 |t::r,h=>by
  have z:=h t (by simp);have y:=yR r λ x u=>h x (by simp[u]);unfold gB;rw[if_neg (by rw[z];simp),y,if_neg (by simp)];rfl
theorem oH:∀(u:List (I8)) (k:Nat) (t:I8),u[k]? =some t->(∀x∈u.take k,(aT x).2=0)->(aT t).2≠0->gB u=([],(aT t).2)
 |[],k,t,h,_,_=>by simp at h
 |a::r,0,t,h,_,m=>by
  have h:a=t:=by simpa using h
  subst h;unfold gB;rw[if_pos m]
 |a::r,k+1,t,h,y,m=>by
  have A:=oH r k t (by simpa using h) (λ x z=>y x (by rw[ab8];simp[z])) m;unfold gB;rw[if_neg (by rw[y a (by rw[ab8];simp)];simp),A,if_pos m]
theorem bls_eta(ss:List ByteArray):(Sl ss).map strOf=ss:=by
 unfold Sl;rw[List.map_map];have:(strOf∘λ s:ByteArray=>s.data.toList)=id:=by
  funext s;show strOf s.data.toList=s;cases s;rfl
 rw[this,List.map_id]
def fu(w:World)(ps:List (List Nm)×Int)(e:Ending)(w':World):Prop:=
 ∃a n c vs,e= .returned (.tuple #[.slice a n c,.int .i64 ps.2])/\n=ps.1.length/\n<=c/\ah (λ b=>w.heap.size<=b/\b<w'.heap.size) w' a n vs/\oV (λ b=>w.heap.size<=b/\b<w'.heap.size) w' vs ps.1/\Below w.heap.size w w'
def fP(w:World)(u:List (I8))(k:Nat)(v:Value)(wr:World):Prop:=
 ∃m,wr.ownsRow w.heap.size 34 1 v k m/\oV (λ b=>w.heap.size<=b/\b<wr.heap.size/\v.ownBlock≠some b) wr m ((u.take k).map λ t=>(aT t).1)/\Below w.heap.size w wr/\∀t∈u.take k,(aT t).2=0
theorem fP.start{w wr:World}(z:List (I8))(u:Below w.heap.size w wr):fP w z 0 (.slice none 0 0) wr:=
 ⟨[],⟨rfl,.inl ⟨rfl,rfl⟩⟩,⟨rfl,λ i q m=>by simp at m⟩,u,λ t y=>by simp at y⟩
theorem fP.one{w:World}{A:List (I8)}{k:Nat}{v:Value}{wr:World}(h:fP w A k v wr):∃a c m,v= .slice a k c/\k<=c/\wr.ownsRow w.heap.size 34 1 v k m:=by
 obtain⟨m,u,B⟩:=h;obtain⟨a,c,z,y⟩:=bg u;exact⟨a,c,m,z,y,u⟩
theorem fP.next{w O N W:World}{D:List (I8)}{k:Nat}{v J:Value}{wr:World}{t:I8}{a:Mx}{y z:Nat}{ss:List ByteArray}{m:List Value}
  (h1:wr.ownsRow w.heap.size 34 1 v k m)(h2:oV (λ b=>w.heap.size<=b/\b<wr.heap.size/\v.ownBlock≠some b) wr m ((D.take k).map λ t=>(aT t).1))(h3:Below w.heap.size w wr)(h4:∀t∈D.take k,(aT t).2=0)
  (Z:D[k]? =some t)(h0:(aT t).2=0)(U:y<=z)(Q:Sl ss=(aT t).1)(M:aW (Cz wr.heap.size) O a y ss)(A:Below wr.heap.size wr O)(u:Below O.heap.size O N)
  (F:W.ownsRow w.heap.size 34 1 J (k+1) (m++[.slice a y z]))(P:N.grownBy W v.ownBlock)(OM:J.ownBlock=v.ownBlock\/J.ownBlock=some N.heap.size):fP w D (k+1) J W:=by
 have X:=A.size;have av:=u.size;have S:=h3.size;have ak:=P.size;have Y:∀b,v.ownBlock=some b->b<wr.heap.size:=iK h1;have I:∀b,b<N.heap.size->v.ownBlock≠some b->J.ownBlock≠some b:=λ b B hn=>by
  rcases OM with e|e
  ·rw[e];exact hn
  ·rw[e];simp;omega
 refine⟨_,F,?_,(h3.trans ((A.trans (u.mono X)).mono S)).grown P (by omega) (aZ h1),λ x E=> ?_⟩
 ·have e:(D.take (k+1)).map (λ t=>(aT t).1)=(D.take k).map (λ t=>(aT t).1)++[(aT t).1]:=by
   obtain⟨V,e⟩:=aaj.1 Z;rw[aai V,aas,e];rfl
  rw[e];refine oV.append (h2.move (by omega) λ b B C=>⟨⟨B.1,by omega,I b (by omega) B.2.2⟩,?_⟩) ⟨rfl,λ i q K=> ?_⟩
  ·exact((P.block b (by omega) (λ e=>B.2.2 e.symm)).trans (u.block b (by omega))).trans (A.block b C)
  ·rcases i with _|i
   ·have K:(aT t).1=q:=by simpa using K
    subst K;refine⟨_,rfl,?_⟩;have hl:=M.length;have H:ss=((aT t).1).map strOf:=by rw[<-Q,bls_eta]
    have R:y=(aT t).1.length:=by rw[<-hl,H,List.length_map]
    subst R;rw[H]at M;refine⟨a,z,rfl,U,M.row.move (by omega) λ b B C=> ?_,M.short⟩;have B:wr.heap.size<=b:=B;have G:v.ownBlock≠some b:=λ e=>by have:=Y b e;omega
    exact⟨⟨by omega,by omega,I b (by omega) G⟩,(P.block b (by omega) (λ e=>G e.symm)).trans (u.block b C)⟩
   ·simp at K
 ·obtain⟨V,e⟩:=aaj.1 Z;rw[aai V,e]at E;rcases aaA.1 E with E|E
  ·exact h4 x E
  ·rw[List.mem_singleton.1 E];exact h0
theorem fP.done{w:World}{u:List (I8)}{v:Value}{wr:World}(h:fP w u u.length v wr):fu w (gB u) (.returned (.tuple #[v,.int .i64 0])) wr:=by
 obtain⟨m,B,z,D,y⟩:=h;rw[List.take_of_length_le acs]at z y;rw[yR u y];obtain⟨a,c,rfl,C⟩:=bg B;exact⟨a,u.length,c,m,rfl,by simp,C,(ah.mU B).2,z.move acs λ b A _=>⟨⟨A.1,A.2.1⟩,rfl⟩,D⟩
theorem fu.up{w y wr:World}{ps:List (List Nm)×Int}{e:Ending}(h:fu y ps e wr)(u:Below w.heap.size w y):fu w ps e wr:=by
 obtain⟨a,n,c,vs,B,A,E,z,D,C⟩:=h;have:=u.size;exact⟨a,n,c,vs,B,A,E,z.mono λ b m=>⟨by omega,m.2⟩,D.move acs λ b m _=>⟨⟨by omega,m.2⟩,rfl⟩,u.trans (C.mono u.size)⟩
theorem BO:(Tryz.prog.info? 34).map (λ i=>(i.zero,i.size,i.bytes))=some (some (.slice none 0 0),1,24):=by kernel_rfl
theorem XW(E:Int)(y:E=1\/E=2\/E=3\/E=8\/E=9\/E=11\/E=12\/E=13)(p:Nat)(w:World)(D bT:I8)(fd at_ n aL sn:Int)(dt:I8)(da:Mx)(dc:Nat)(W:D.length<4294967281)(aJ:bT.length<4294967281)(m:Int)(hm:w.cell? ⟨2,0,none⟩=some (.int .i64 m)):
  Dy 54 #[ptr p,.agg (opC ⟨E,D,bT,fd,at_,n,aL,sn,dt⟩ da dc)] w (fu w (gB [D])):=by
 rcases y with y|y|y|y|y|y|y|y
 all_goals as_aux_lemma=>
  obtain⟨ie,he,bn,bS,aF⟩:=aaq BO;have Mj:2<w.heap.size:=aal w _ hm;obtain⟨K,I⟩:∃K,K=(w.alloc (.cells (opC ⟨E,D,bT,fd,at_,n,aL,sn,dt⟩ da dc) 32)).alloc (.cells #[.string (strOf D)] 9):=⟨_,rfl⟩;have aC:Below w.heap.size w K:=by rw[I];exact(wall w _).trans ((wall _ _).mono (by simp))
  have Q:K.heap[w.heap.size+1]? =some (.cells #[.string (strOf D)] 9 (0,0)):=by
   rw[I];have:=(MapKept.heap_alloc (w.alloc (.cells (opC ⟨E,D,bT,fd,at_,n,aL,sn,dt⟩ da dc) 32)) (.cells #[.string (strOf D)] 9)).1;rw[Pe]at this;exact this
  have M:∀k t,([D]:List (I8))[k]? =some t->K.cell? ⟨w.heap.size+1,k,none⟩=some (.string (strOf t))/\t.length<4294967281:=λ k t h=>by
   rcases k with _|k
   ·obtain rfl:D=t:=by simpa using h
    exact⟨by simp[World.cell?,Q],W⟩
   ·simp at h
  have bD:w.heap.size+1<K.heap.size:=(qW.1 Q).1;clear Q;have dV:=acp M;have H:=acp aC;have HW:=acp I;have HM:=acp hm;have Gw:=acp Mj;clear M aC I hm W aJ Mj;subst y;unfold opC at HW;unfold opC;go_enter Tryz.func54,Tryz.ntmps54;go_wp2_with fail;rw[<-HW.o];clear HW;obtain⟨J,B⟩:∃J:List (I8),J=[D]:=⟨_,rfl⟩;have S:J.length=1:=by rw[B];rfl
  rw[<-B]at dV;have ak:=acp B;clear B;have CB:=acp S;clear S
  go_loopw [7,44] (λ v iv wr=>∃k:Nat,k<=1/\iv= .int .i64 k/\fP K J k v wr) (λ _ iv _=>1-(intOf iv).toNat)
  case atStart=>exact⟨0,by omega,rfl,fP.start J acu⟩
  case round=>
   obtain⟨k,hk,rfl,hrel⟩:=hrel;have HR:=acp hrel;clear hrel;by_cases bf:k<1
   ·obtain⟨t,ht⟩:∃t,J[k]? =some t:=⟨J[k]'(by rw[CB.o];exact bf),List.getElem?_eq_getElem _⟩;obtain⟨Y,B⟩:=dV.o k t ht;obtain⟨av,A,V,G,X⟩:=HR.o;have aH:=(G.cell (p:=⟨w.heap.size+1,k,none⟩) bD).trans Y;have Z:wr.cell? ⟨2,0,none⟩=some (.int .i64 m):=((H.o.trans (G.mono H.o.size)).cell (p:=⟨2,0,none⟩) Gw.o).trans HM.o;have ig:=acp (IB (strOf t) wr (by rw[jf];exact B) m Z);have HT:=acp ht;have C:=acp A;have bq:=acp V;have ND:=acp G;have h_:=acp X;have i0:(0:Int)<=(k:Int):=by omega
    have i1:(k:Int)<1:=by omega
    have dn:=G.size;have hd:decide ((k:Int)<1)=true:=by simpa using i1
    obtain⟨ao,co,rfl,aN⟩:=bg A;clear A V G X ht Y B Z;go_wp2_with fail;refine ig.o.mono ?_;rintro e w2 ⟨a,aD,U,ss,rfl,aA,N,hS,O⟩;rw[show(strOf t).data.toList=t from rfl]at N⊢;have Vw:=acp N;have HS:=acp hS;have P:=acp O;have Xy:=acp aA;have cB:=O.size;clear ig N hS O aA;obtain⟨z,R⟩:∃z,z=(aT t).2:=⟨_,rfl⟩;rw[<-R];by_cases F:z=0
    ·have HZ:=acp (R.symm.trans F);subst F;clear R;go_wp2_with (at_builtin;refine bU (by rfl) _ _ 115 (by rfl) K.heap.size 34 ie (.slice none 0 0) 24 Tryz.underlying115 he bn bS aF rfl _ _ _ (by rfl) (bK C.o λ b hb _=>((wall w2 (.cells #[.slice a aD U] 34)).block b (by have:=iK C.o b hb;omega)).trans (P.o.block b (iK C.o b hb))) (some ⟨w2.heap.size,0,none⟩) 1 1 [.slice a aD U] (by rfl) (wY _ _) (by intro u hu;rw[List.mem_singleton.1 hu];rfl) (by unfold maxLen;omega) (by omega) (by simp;omega) ?_;intro A' c' w4 kN yT _ XY);have HN:=acp (fP.next C.o bq.o ND.o h_.o HT.o HZ.o Xy.o Vw.o HS.o P.o (wall w2 _) kN yT XY);have Z0:=acp yT;clear kN yT XY;go_roundw
     case rel=>
      exact⟨k+1,by omega,by go_num,HN.o⟩
     case measure=>simp[intOf];omega
    ·have HZ:=acp F;have aF:(z !=0)=true:=by simpa using F
     have aB:=acp R;clear F R;go_wp2_with fail
     go_ret2
     rw[<-ak.o,oH J k t HT.o h_.o (by rw[<-aB.o];exact HZ.o)];exact⟨none,0,0,[],by rw[aB.o];rfl,rfl,Nat.le_refl _,ah.nil _ _ _,⟨rfl,λ i q hq=>by simp at hq⟩,H.o.trans ((ND.o.trans (P.o.mono ND.o.size)).mono H.o.size)⟩
   ·have hd:decide ((k:Int)<1)=false:=by simp;omega
    obtain rfl:k=1:=by omega
    obtain⟨a,c,av,rfl,aN,A⟩:=HR.o.one;clear A;go_wp2_with fail
    go_ret2
    have hd:=HR.o;rw[<-CB.o]at hd;have:=hd.done;rw[CB.o,ak.o]at this;exact this.up H.o
theorem XZ(S:Int)(I:S=7\/S=10)(p:Nat)(w:World)(C F:I8)(fd at_ n aL sn:Int)(dt:I8)(da:Mx)(dc:Nat)(Y:C.length<4294967281)(X:F.length<4294967281)(m:Int)(hm:w.cell? ⟨2,0,none⟩=some (.int .i64 m)):
  Dy 54 #[ptr p,.agg (opC ⟨S,C,F,fd,at_,n,aL,sn,dt⟩ da dc)] w (fu w (gB [C,F])):=by
 rcases I with I|I
 all_goals as_aux_lemma=>
  obtain⟨ie,he,bq,cB,aJ⟩:=aaq BO;have Mj:2<w.heap.size:=aal w _ hm;obtain⟨M,H⟩:∃M,M=(w.alloc (.cells (opC ⟨S,C,F,fd,at_,n,aL,sn,dt⟩ da dc) 32)).alloc (.cells #[.string (strOf C),.string (strOf F)] 9):=⟨_,rfl⟩;have aF:Below w.heap.size w M:=by rw[H];exact(wall w _).trans ((wall _ _).mono (by simp))
  have J:M.heap[w.heap.size+1]? =some (.cells #[.string (strOf C),.string (strOf F)] 9 (0,0)):=by
   rw[H];have:=(MapKept.heap_alloc (w.alloc (.cells (opC ⟨S,C,F,fd,at_,n,aL,sn,dt⟩ da dc) 32)) (.cells #[.string (strOf C),.string (strOf F)] 9)).1;rw[Pe]at this;exact this
  have N:∀k t,([C,F]:List (I8))[k]? =some t->M.cell? ⟨w.heap.size+1,k,none⟩=some (.string (strOf t))/\t.length<4294967281:=λ k t h=>by
   rcases k with _|k
   ·obtain rfl:C=t:=by simpa using h
    exact⟨by simp[World.cell?,J],Y⟩
   ·rcases k with _|k
    ·obtain rfl:F=t:=by simpa using h
     exact⟨by simp[World.cell?,J],X⟩
    ·simp at h
  have bS:w.heap.size+1<M.heap.size:=(qW.1 J).1;clear J;have dV:=acp N;have G:=acp aF;have HW:=acp H;have HM:=acp hm;have Gw:=acp Mj;clear N aF H hm Y X Mj;subst I;unfold opC at HW;unfold opC;go_enter Tryz.func54,Tryz.ntmps54;go_wp2_with fail;rw[<-HW.o];clear HW;obtain⟨K,A⟩:∃K:List (I8),K=[C,F]:=⟨_,rfl⟩;have U:K.length=2:=by rw[A];rfl
  rw[<-A]at dV;have aA:=acp A;clear A;have CB:=acp U;clear U
  go_loopw [7,44] (λ v iv wr=>∃k:Nat,k<=2/\iv= .int .i64 k/\fP M K k v wr) (λ _ iv _=>2-(intOf iv).toNat)
  case atStart=>exact⟨0,by omega,rfl,fP.start K acu⟩
  case round=>
   obtain⟨k,hk,rfl,hrel⟩:=hrel;have HR:=acp hrel;clear hrel;by_cases bn:k<2
   ·obtain⟨t,ht⟩:∃t,K[k]? =some t:=⟨K[k]'(by rw[CB.o];exact bn),List.getElem?_eq_getElem _⟩;obtain⟨ak,A⟩:=dV.o k t ht;obtain⟨aB,y,W,E,Z⟩:=HR.o;have aN:=(E.cell (p:=⟨w.heap.size+1,k,none⟩) bS).trans ak;have av:wr.cell? ⟨2,0,none⟩=some (.int .i64 m):=((G.o.trans (E.mono G.o.size)).cell (p:=⟨2,0,none⟩) Gw.o).trans HM.o;have ig:=acp (IB (strOf t) wr (by rw[jf];exact A) m av);have HT:=acp ht;have B:=acp y;have bD:=acp W;have ND:=acp E;have h_:=acp Z;have i0:(0:Int)<=(k:Int):=by omega
    have i1:(k:Int)<2:=by omega
    have dG:=E.size;have hd:decide ((k:Int)<2)=true:=by simpa using i1
    obtain⟨ao,co,rfl,bf⟩:=bg y;clear y W E Z ht ak A av;go_wp2_with fail;refine ig.o.mono ?_;rintro e w2 ⟨a,aH,V,ss,rfl,aC,O,hS,P⟩;rw[show(strOf t).data.toList=t from rfl]at O⊢;have Vw:=acp O;have HS:=acp hS;have Q:=acp P;have Xy:=acp aC;have dn:=P.size;clear ig O hS P aC;obtain⟨z,R⟩:∃z,z=(aT t).2:=⟨_,rfl⟩;rw[<-R];by_cases D:z=0
    ·have HZ:=acp (R.symm.trans D);subst D;clear R;go_wp2_with (at_builtin;refine bU (by rfl) _ _ 115 (by rfl) M.heap.size 34 ie (.slice none 0 0) 24 Tryz.underlying115 he bq cB aJ rfl _ _ _ (by rfl) (bK B.o λ b hb _=>((wall w2 (.cells #[.slice a aH V] 34)).block b (by have:=iK B.o b hb;omega)).trans (Q.o.block b (iK B.o b hb))) (some ⟨w2.heap.size,0,none⟩) 1 1 [.slice a aH V] (by rfl) (wY _ _) (by intro u hu;rw[List.mem_singleton.1 hu];rfl) (by unfold maxLen;omega) (by omega) (by simp;omega) ?_;intro A' c' w4 kN yT _ XY);have HN:=acp (fP.next B.o bD.o ND.o h_.o HT.o HZ.o Xy.o Vw.o HS.o Q.o (wall w2 _) kN yT XY);have Z0:=acp yT;clear kN yT XY;go_roundw
     case rel=>
      exact⟨k+1,by omega,by go_num,HN.o⟩
     case measure=>simp[intOf];omega
    ·have HZ:=acp D;have aJ:(z !=0)=true:=by simpa using D
     have aD:=acp R;clear D R;go_wp2_with fail
     go_ret2
     rw[<-aA.o,oH K k t HT.o h_.o (by rw[<-aD.o];exact HZ.o)];exact⟨none,0,0,[],by rw[aD.o];rfl,rfl,Nat.le_refl _,ah.nil _ _ _,⟨rfl,λ i q hq=>by simp at hq⟩,G.o.trans ((ND.o.trans (Q.o.mono ND.o.size)).mono G.o.size)⟩
   ·have hd:decide ((k:Int)<2)=false:=by simp;omega
    obtain rfl:k=2:=by omega
    obtain⟨a,c,aB,rfl,bf,y⟩:=HR.o.one;clear y;go_wp2_with fail
    go_ret2
    have hd:=HR.o;rw[<-CB.o]at hd;have:=hd.done;rw[CB.o,aA.o]at this;exact this.up G.o
theorem X0(y:Int)(u:y=4\/y=5\/y=6\/y=14\/y=15\/y=16\/y=17)(p:Nat)(w:World)(H O:I8)(fd at_ n U sn:Int)(V:I8)(X:Mx)(Z:Nat)(N:H.length<4294967281)(M:O.length<4294967281)(m:Int)(J:w.cell? ⟨2,0,none⟩=some (.int .i64 m)):
  Dy 54 #[ptr p,.agg (opC ⟨y,H,O,fd,at_,n,U,sn,V⟩ X Z)] w (fu w (gB [])):=by
 rcases u with u|u|u|u|u|u|u
 all_goals as_aux_lemma=>
  obtain⟨ie,he,av,aB,aA⟩:=aaq BO;have Mj:2<w.heap.size:=aal w _ J;obtain⟨C,B⟩:∃C,C=w.alloc (.cells (opC ⟨y,H,O,fd,at_,n,U,sn,V⟩ X Z) 32):=⟨_,rfl⟩;have F:Below w.heap.size w C:=by rw[B];exact wall w _
  have A:∀k t,([]:List (I8))[k]? =some t->C.cell? ⟨w.heap.size+1,k,none⟩=some (.string (strOf t))/\t.length<4294967281:=λ k t h=>by simp at h
  have dV:=acp A;have P:=acp F;have G:=acp B;have HM:=acp J;have Gw:=acp Mj;clear A F B J N M Mj;subst u;unfold opC at G;unfold opC;go_enter Tryz.func54,Tryz.ntmps54;go_wp2_with fail;rw[<-G.o];clear G;obtain⟨E,z⟩:∃E:List (I8),E=[]:=⟨_,rfl⟩;have D:E.length=0:=by rw[z];rfl
  rw[<-z]at dV;have I:=acp z;clear z;have R:=acp D;clear D
  go_loopw [7,44] (λ v K wr=>∃k:Nat,k<=0/\K= .int .i64 k/\fP C E k v wr) (λ _ K _=>0-(intOf K).toNat)
  case atStart=>exact⟨0,by omega,rfl,fP.start E acu⟩
  case round=>
   obtain⟨k,hk,rfl,hrel⟩:=hrel;have Y:=acp hrel;clear hrel;obtain rfl:k=0:=by omega
   obtain⟨a,c,W,rfl,ak,S⟩:=Y.o.one;go_wp2_with fail
   go_ret2
   have Q:=Y.o;rw[<-R.o]at Q;have:=Q.done;rw[R.o,I.o]at this;exact this.up P.o
theorem Uj(p:Nat)(w:World)(x:iI)(A:Mx)(C:Nat)(h:¬(1<=x.kind/\x.kind<=17)):
  Dy 54 #[ptr p,.agg (opC x A C)] w (fu w ([],30)):=by
 have M:(x.kind==1)=false:=by simp;omega
 have Q:(x.kind==2)=false:=by simp;omega
 have I:(x.kind==3)=false:=by simp;omega
 have K:(x.kind==4)=false:=by simp;omega
 have J:(x.kind==5)=false:=by simp;omega
 have P:(x.kind==6)=false:=by simp;omega
 have O:(x.kind==7)=false:=by simp;omega
 have N:(x.kind==8)=false:=by simp;omega
 have H:(x.kind==9)=false:=by simp;omega
 have m:(x.kind==10)=false:=by simp;omega
 have F:(x.kind==11)=false:=by simp;omega
 have G:(x.kind==12)=false:=by simp;omega
 have B:(x.kind==13)=false:=by simp;omega
 have u:(x.kind==14)=false:=by simp;omega
 have y:(x.kind==15)=false:=by simp;omega
 have E:(x.kind==16)=false:=by simp;omega
 have D:(x.kind==17)=false:=by simp;omega
 clear h;unfold opC;go_enter Tryz.func54,Tryz.ntmps54;go_wp2_with fail
 go_ret2
 exact⟨none,0,0,[],rfl,rfl,Nat.le_refl _,ah.nil _ _ _,⟨rfl,λ i q z=>by simp at z⟩,wall w _⟩
theorem IC(p:Nat)(w:World)(x:iI)(D:Mx)(B:Nat)(I:wM x)(m:Int)(H:w.cell? ⟨2,0,none⟩=some (.int .i64 m)):
  Dy 54 #[ptr p,.agg (opC x D B)] w (fu w (fE x)):=by
 by_cases h:1<=x.kind/\x.kind<=17
 ·obtain⟨u,y,z,E,at_,n,A,sn,C⟩:=x;have J:1<=u/\u<=17:=h;have G:y.length<4294967281:=I.wp;have F:z.length<4294967281:=I.wq;have e:fE ⟨u,y,z,E,at_,n,A,sn,C⟩=gB (Rl ⟨u,y,z,E,at_,n,A,sn,C⟩):=if_pos h;rw[e];rcases (show u=1\/u=2\/u=3\/u=4\/u=5\/u=6\/u=7\/u=8\/u=9\/u=10\/u=11\/u=12\/u=13\/u=14\/u=15\/u=16\/u=17 by omega)with rfl|rfl|rfl|rfl|rfl|rfl|rfl|rfl|rfl|rfl|rfl|rfl|rfl|rfl|rfl|rfl|rfl
  all_goals first|exact XW _ (by decide) p w y z E at_ n A sn C D B G F m H|exact X0 _ (by decide) p w y z E at_ n A sn C D B G F m H|exact XZ _ (by decide) p w y z E at_ n A sn C D B G F m H
 ·have e:fE x=([],30):=if_neg h;rw[e];exact Uj p w x D B h
inductive CW (M:dQ) (x:iI):dQ->Prop
 |same:CW M x M
 |make (ls:List Nm) (kind:Int):CW M x (M.tr (dF M.t ls kind).2)
 |create (ls:List Nm):0<=nI M->(dF M.t ls 1).1.2=0->CW M x (dQ.put (M.tr (dF M.t ls 1).2) (nI M).toNat (some ⟨true,(dF M.t ls 1).1.1,[]⟩))
 |opens (T:aS) (ls:List Nm) (y:fI):lq M x.snap=some T->0<=nI M->(bG T ls).2=0->au (bG T ls).1 T=some y->y.kind≠2->y.closed=true->CW M x (M.put (nI M).toNat (some ⟨false,0,qV T (bG T ls).1 0 y.b.length⟩))
 |write (f:Nz):gW M x.fd true=some f->CW M x (M.tr (dP M.t f.id x.data).2)
 |closes (f:Nz):x.kind=6->gW M x.fd true=some f->(gu M.t f.id x.aL).1=0->CW M x (dQ.put (M.tr (gu M.t f.id x.aL).2) x.fd.toNat none)
 |shut (f:Nz):x.kind=6->gW M x.fd false=some f->CW M x (M.put x.fd.toNat none)
 |link (p q:List Nm):CW M x (M.tr (iy M.t p q).2)
 |unlink (ls:List Nm):(cO M.t ls).er=0->lU (cO M.t ls).k (cO M.t ls).l (cO M.t ls).u (cO M.t ls).c M.now=0->CW M x (M.tr (dY M.t ls).2)
 |rmdir (ls:List Nm):CW M x (M.tr (fC M.t ls).2)
 |rename (p q:List Nm):CW M x (M.tr (dz M.t p q).2)
 |keep (ls:List Nm):(cO M.t ls).er=0->CW M x (M.tr (iX M.t (cO M.t ls).i x.aL).2)
 |take:CW M x (M.sn (jk M.s M.t).2)
 |forget:CW M x (M.sn (gX M.s x.snap M.now).2)
 |tick:x.kind=16->CW M x {M with now:=sH M.now x.aL}
section
variable{M:dQ}{x:iI}
theorem Pt{T:aS}{id t:Int}(h:(gu T id t).1≠0):(gu T id t).2=T:=by
 unfold gu at h⊢;exact if_neg h
theorem Pv(m:List Nm):CW M x (jU M m).2:=by
 unfold jU;by_cases y:nI M<0
 ·rw[if_pos y];exact .same
 ·rw[if_neg y];by_cases u:(dF M.t m 1).1.2≠0
  ·rw[if_pos u];exact .make m 1
  ·rw[if_neg u];exact .create m (by omega) (by simpa using u)
theorem X3(m:List Nm):CW M x (jE M m x.snap).2:=by
 unfold jE;split
 ·exact .same
 ·rename_i T C;split
  ·exact .same
  ·rename_i D;unfold Mc;split
   ·exact .same
   ·rename_i A;split
    ·exact .same
    ·rename_i y u;split
     ·exact .same
     ·rename_i B;split
      ·exact .same
      ·rename_i z;exact .opens T m y C (by omega) (by simpa using A) u B (by simpa using z)
theorem Uk:CW M x (kr M x).2:=by
 unfold kr;split
 ·exact .same
 ·rename_i f m;split
  ·exact .same
  ·exact .write f m
theorem Ul(y:x.kind=6):CW M x (ku M x).2:=by
 unfold ku;split
 ·rename_i f u;split
  ·rename_i m;have:=Pt m;dsimp only;rw[this];exact .same
  ·rename_i m;exact .closes f y u (by simpa using m)
 ·split
  ·exact .same
  ·rename_i f u;exact .shut f y u
theorem Pw(m:List Nm):CW M x (jd M m).2:=by
 unfold jd;split
 ·exact .same
 ·split
  ·exact .same
  ·exact .unlink m (by rename_i u y;simpa using u) (by rename_i u y;simpa using y)
theorem X4(m:List Nm):CW M x (ng M m x.aL).2:=by
 unfold ng;split
 ·exact .same
 ·split
  ·exact .same
  ·exact .keep m (by rename_i u y;simpa using u)
theorem sdo_chg(M:dQ)(x:iI):CW M x (dA M x).2:=by
 unfold dA;by_cases I:(fE x).2≠0
 ·rw[if_pos I];exact .same
 rw[if_neg I];unfold Ui;by_cases H:x.kind=1
 ·rw[if_pos H];exact Pv _
 rw[if_neg H];by_cases E:x.kind=2
 ·rw[if_pos E];exact .make _ _
 rw[if_neg E];by_cases N:x.kind=3
 ·rw[if_pos N];exact X3 _
 rw[if_neg N];by_cases D:x.kind=4
 ·rw[if_pos D];exact .same
 rw[if_neg D];by_cases J:x.kind=5
 ·rw[if_pos J];exact Uk
 rw[if_neg J];by_cases B:x.kind=6
 ·rw[if_pos B];exact Ul B
 rw[if_neg B];by_cases C:x.kind=7
 ·rw[if_pos C];exact .link _ _
 rw[if_neg C];by_cases F:x.kind=8
 ·rw[if_pos F];exact Pw _
 rw[if_neg F];by_cases K:x.kind=9
 ·rw[if_pos K];exact .rmdir _
 rw[if_neg K];by_cases A:x.kind=10
 ·rw[if_pos A];exact .rename _ _
 rw[if_neg A];by_cases z:x.kind=11\/x.kind=12
 ·rw[if_pos z];exact .same
 rw[if_neg z];by_cases y:x.kind=13
 ·rw[if_pos y];exact X4 _
 rw[if_neg y];by_cases G:x.kind=14
 ·rw[if_pos G];exact .take
 rw[if_neg G];by_cases u:x.kind=15
 ·rw[if_pos u];exact .forget
 rw[if_neg u];by_cases m:x.kind=16
 ·rw[if_pos m];exact .tick m
 rw[if_neg m];exact .same
theorem X5(now tick:Int):now<=sH now tick:=by
 unfold sH;split
 ·split
  ·omega
  ·omega
 ·omega
theorem CW.now{A:dQ}(h:CW M x A):M.now<=A.now/\(x.kind≠16->A.now=M.now):=by
 cases h with
 |tick B=>exact⟨X5 _ _,λ h=>absurd B h⟩
 |same=>exact⟨Int.le_refl _,λ _=>rfl⟩
 |make u kind=>exact⟨Int.le_refl _,λ _=>rfl⟩
 |create u m z=>exact⟨Int.le_refl _,λ _=>rfl⟩
 |opens T u y m z C D F E=>exact⟨Int.le_refl _,λ _=>rfl⟩
 |write f m=>exact⟨Int.le_refl _,λ _=>rfl⟩
 |closes f m z C=>exact⟨Int.le_refl _,λ _=>rfl⟩
 |shut f m z=>exact⟨Int.le_refl _,λ _=>rfl⟩
 |link p q=>exact⟨Int.le_refl _,λ _=>rfl⟩
 |unlink u m z=>exact⟨Int.le_refl _,λ _=>rfl⟩
 |rmdir u=>exact⟨Int.le_refl _,λ _=>rfl⟩
 |rename p q=>exact⟨Int.le_refl _,λ _=>rfl⟩
 |keep u m=>exact⟨Int.le_refl _,λ _=>rfl⟩
 |take=>exact⟨Int.le_refl _,λ _=>rfl⟩
 |forget=>exact⟨Int.le_refl _,λ _=>rfl⟩
theorem X6(M:dQ):nI M= -1\/∃n:Nat,n<8/\nI M=n/\M.fds n=none:=by
 unfold nI;split
 ·rename_i n u;have y:=ace u;have m:=List.find?_some u;rw[aa9]at y;exact .inr ⟨n,y,rfl,by cases z:M.fds n with|none=>rfl|some f=>rw[z]at m;cases m⟩
 ·exact .inl rfl
theorem BP(M:dQ){n m:Nat}(f:Option Nz)(h:m≠n):(M.put n f).fds m=M.fds m:=if_neg h
theorem CW.fd{F:dQ}(h:CW M x F){n:Nat}{f:Nz}(u:M.fds n=some f)(E:¬(x.kind=6/\x.fd.toNat=n)):F.fds n=some f:=by
 have z:∀g,0<=nI M->(M.put (nI M).toNat g).fds n=some f:=λ g H=>by
  rcases X6 M with e|⟨m,A,B,D⟩
  ·omega
  ·rw[BP _ _ (λ e=>by rw[B]at e;simp at e;subst e;rw[D]at u;cases u)];exact u
 cases h with
 |create C A B=>exact z _ A
 |opens T C y A B D G J I=>exact z _ B
 |closes g A B D=>rw[BP _ _ (λ e=>E ⟨A,e.symm⟩)];exact u
 |shut g A B=>rw[BP _ _ (λ e=>E ⟨A,e.symm⟩)];exact u
 |same=>exact u
 |make C kind=>exact u
 |write g A=>exact u
 |link p q=>exact u
 |unlink C A B=>exact u
 |rmdir C=>exact u
 |rename p q=>exact u
 |keep C A=>exact u
 |take=>exact u
 |forget=>exact u
 |tick A=>exact u
end
