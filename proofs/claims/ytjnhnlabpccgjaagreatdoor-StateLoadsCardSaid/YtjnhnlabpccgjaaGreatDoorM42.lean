/- What -/
import Derived.Test.YtjnhnlabpccgjaaGreatDoorM41
import Derived.Test.YtjnhnlabpccgjaaGreatDoorM21
import Derived.Test.YtjnhnlabpccgjaaGreatDoorM20
import Derived.Test.YtjnhnlabpccgjaaGreatDoorM38
import Derived.Test.YtjnhnlabpccgjaaGreatDoorM40
set_option maxRecDepth 100000
set_option maxHeartbeats 64000000
set_option linter.all false
namespace Go.Proofs.YtjnhnlabpccgjaaGreatDoor
open Go.ChangeShapes Go.WideShapes Go.ChangeAt Go.RowKit
structure Pb where
 id:Int
 kind:Int
 links:Int
 size:Int
 aF:Int
 closed:Bool
def V7:Pb:=⟨0,0,0,0,0,false⟩
def KR(n:Pb):List UInt8:=eB n.id 2++(eB n.kind 1++(eB n.links 2++(eB n.size 2++(eB n.aF 8++ql n.closed))))
def kg(n:Pb):Prop:=(n.kind=1∧n.size≤4096∧n.aF≤1099511627776)∨(n.kind=2∧n.size=0∧n.aF=0∧n.closed=true)
instance(n:Pb):Decidable (kg n):=by unfold kg;infer_instance
def kU(b:List UInt8):Pb×Rd:=
 let a:=bq (b,0) 2
 let k:=bq a.2 1
 let l:=bq k.2 2
 let s:=bq l.2 2
 let t:=bq s.2 8
 let c:=uK t.2
 (⟨a.1,k.1,l.1,s.1,t.1,c.1⟩,c.2)
def dx(b:List UInt8):Pb×Int:=if pG (kU b).2=0∧kg (kU b).1 then((kU b).1,0)else(V7,12)
theorem Er{s:Rd}(h:pG s=0):s.2=0∧s.1=[]:=by
 unfold pG at h;by_cases h1:s.2=0
 ·by_cases h2:0<s.1.length
  ·rw[if_pos ⟨h1,h2⟩]at h;cases h
  ·exact⟨h1,aad (by omega)⟩
 ·rw[if_neg (fun hh=>h1 hh.1)]at h;exact absurd h h1
structure R8(n:Pb):Prop where
 id:0≤n.id∧n.id≤65535
 kind:0≤n.kind∧n.kind≤255
 links:0≤n.links∧n.links≤65535
 size:0≤n.size∧n.size≤65535
 aF:0≤n.aF∧n.aF≤18446744073709551615
theorem uo(b:List UInt8):R8 (kU b).1:=by
 have e2:(256:Int)^2=65536:=rfl;have e1:(256:Int)^1=256:=rfl;have e8:(256:Int)^8=18446744073709551616:=rfl;unfold kU;dsimp only;refine⟨?_,?_,?_,?_,?_⟩<;>dsimp only
 ·have:=eD (b,0) 2;omega
 ·have:=eD (bq (b,0) 2).2 1;omega
 ·have:=eD (bq (bq (b,0) 2).2 1).2 2;omega
 ·have:=eD (bq (bq (bq (b,0) 2).2 1).2 2).2 2;omega
 ·have:=eD (bq (bq (bq (bq (b,0) 2).2 1).2 2).2 2).2 8;omega
theorem V8{b:List UInt8}(h:pG (kU b).2=0):b=KR (kU b).1:=by
 obtain⟨h1,h2⟩:=Er h;unfold kU at h1 h2⊢;dsimp only at h1 h2⊢;obtain⟨f1,f2⟩:=V6 h1;obtain⟨t1,t2,-⟩:=h_ f1;obtain⟨s1,s2,-⟩:=h_ t1;obtain⟨l1,l2,-⟩:=h_ s1;obtain⟨k1,k2,-⟩:=h_ l1;obtain⟨a1,a2,-⟩:=h_ k1;unfold KR;dsimp only at a2⊢;rw[h2,aaA]at f2;rw[←f2,←t2,←s2,←l2,←k2];exact a2
theorem R9{n:Pb}(h:R8 n):kU (KR n)=(n,([],0)):=by
 have e2:(256:Int)^2=65536:=rfl;have e1:(256:Int)^1=256:=rfl;have e8:(256:Int)^8=18446744073709551616:=rfl;have h1:=h.id;have h2:=h.kind;have h3:=h.links;have h4:=h.size;have h5:=h.aF;unfold kU KR;dsimp only;rw[gW 2 n.id _ (by omega) (by omega)];dsimp only;rw[gW 1 n.kind _ (by omega) (by omega)];dsimp only;rw[gW 2 n.links _ (by omega) (by omega)];dsimp only;rw[gW 2 n.size _ (by omega) (by omega)];dsimp only;rw[gW 8 n.aF _ (by omega) (by omega)];dsimp only;have:=R7 n.closed [];rw[aaA]at this;rw[this]
theorem Es{b:List UInt8}(h:(dx b).2=0):b=KR (dx b).1∧kg (dx b).1∧R8 (dx b).1:=by
 unfold dx at h⊢;by_cases h1:pG (kU b).2=0∧kg (kU b).1
 ·rw[if_pos h1];exact⟨V8 h1.1,h1.2,uo b⟩
 ·rw[if_neg h1]at h;cases h
theorem KS{n:Pb}(h:R8 n)(hr:kg n):dx (KR n)=(n,0):=by
 unfold dx;rw[R9 h,if_pos ⟨rfl,hr⟩]
def jo:Nat→Rd→Nm→List (Nm×Int)→Option (List (Nm×Int)×Rd)
 |0,s,_,acc=>some (acc,s)
 |k+1,s,last,acc=>
  let a:=aL s
  let b:=bq a.2 2
  if b.2.2≠0∨bT a.1=false∨bytesBefore last a.1=false then none else jo k b.2 a.1 (acc++[(a.1,b.1)])
def AB(k:Int)(x:bJ):Pb:=⟨k,x.kind,x.links,x.b.length,x.aF,x.closed⟩
def zJ(n:Pb)(b:List UInt8)(names:List (Nm×Int)):bJ:=⟨n.kind,n.links,n.aF,n.closed,b,names⟩
def jq(s:Rd):Option ((Int×bJ)×Rd):=
 let a:=aL s
 let n:=dx a.1
 let b:=aL a.2
 let c:=bq b.2 2
 if n.2≠0∨(b.1.length:Int)≠n.1.size then none else
 if n.1.kind=1 then(if c.1=0 then some ((n.1.id,zJ n.1 b.1 []),c.2)else none)else
 match jo c.1.toNat c.2 [] []with
 |none=>none
 |some q=>some ((n.1.id,zJ n.1 b.1 q.1),q.2)
def qJ:Nat→Rd→Int→aA→Option (aA×Rd)
 |0,s,_,acc=>some (acc,s)
 |k+1,s,last,acc=>(jq s).elim none fun q=>if q.1.1≤last then none else qJ k q.2 q.1.1 (acc++[q.1])
theorem rD(s:Rd)(last:Int)(acc:aA):qJ 0 s last acc=some (acc,s):=rfl
theorem BD{k:Nat}{s:Rd}{last:Int}{acc:aA}(h:jq s=none):qJ (k+1) s last acc=none:=by
 show(jq s).elim none _=none;rw[h];rfl
theorem rE{k:Nat}{s:Rd}{last:Int}{acc:aA}{q:(Int×bJ)×Rd}(h:jq s=some q):qJ (k+1) s last acc=if q.1.1≤last then none else qJ k q.2 q.1.1 (acc++[q.1]):=by
 show(jq s).elim none _=_;rw[h];rfl
def parseM(b:List UInt8):Option aA:=
 match qJ (bq (b,0) 2).1.toNat (bq (b,0) 2).2 (-1) []with
 |none=>none
 |some q=>if pG q.2=0 then some q.1 else none
theorem V9{n:Nm}(h:bT n=true):bytesBefore [] n=true:=by
 cases n with
 |nil=>simp[bT]at h
 |cons a r=>rfl
structure xA(k:Int)(x:bJ):Prop where
 ok:R8 (AB k x)
 right:kg (AB k x)
 file:x.kind=1→x.names=[]
 sorted:aI bytesBefore x.names
 good:∀e∈x.names,bT e.1=true
 ids:∀e∈x.names,0≤e.2∧e.2≤65535
 few:x.names.length≤65535
theorem AJ(k:Int)(x:bJ):rJ k x=KR (AB k x):=by
 unfold rJ KR AB;simp only[TK]
theorem Et:∀(k:Nat) (s:Rd) (last:Nm) (acc l:List (Nm×Int)) (s':Rd),jo k s last acc=some (l,s')→s'.2=0→
  s.2=0∧∃m,l=acc++m∧m.length=k∧s.1=m.flatMap Jw++s'.1∧(∀e∈m,bT e.1=true∧(0≤e.2∧e.2≤65535)∧bytesBefore last e.1=true)∧aI bytesBefore m
 |0,s,last,acc,l,s',h,h0=>by
  simp only[jo,Pd,abB]at h;obtain⟨rfl,rfl⟩:=h;exact⟨h0,[],by simp,rfl,rfl,fun e he=>(by cases he),List.Pairwise.nil⟩
 |k+1,s,last,acc,l,s',h,h0=>by
  unfold jo at h;dsimp only at h;split at h
  ·cases h
  ·rename_i hc;obtain⟨e1,m,e2,e3,e4,e5,e6⟩:=Et k _ _ _ _ _ h h0;have g1:bT (aL s).1=true:=by
    cases hg:bT (aL s).1 with
    |true=>rfl
    |false=>exact absurd (.inr (.inl hg)) hc
   have g2:bytesBefore last (aL s).1=true:=by
    cases hg:bytesBefore last (aL s).1 with
    |true=>rfl
    |false=>exact absurd (.inr (.inr hg)) hc
   obtain⟨f1,f2,f3,f4⟩:=h_ e1;obtain⟨b1,b2,-⟩:=mE f1;have hp:(256:Int)^2=65536:=rfl;refine⟨b1,((aL s).1,(bq (aL s).2 2).1)::m,by rw[e2,TK];rfl,by rw[List.length_cons,e3],?_,fun e he=> ?_,?_⟩
   ·rw[List.flatMap_cons];rw[show Jw ((aL s).1,(bq (aL s).2 2).1)=mG (aL s).1++eB (bq (aL s).2 2).1 2 from rfl,TK,TK,←e4,←f2];exact b2
   ·rcases aan.1 he with rfl|he
    ·exact⟨g1,⟨f3,by dsimp only;omega⟩,g2⟩
    ·have:=e5 e he;exact⟨this.1,this.2.1,qd _ _ _ g2 this.2.2⟩
   ·refine List.Pairwise.cons (fun e he=> ?_) e6;exact(e5 e he).2.2
theorem BF:∀(m:List (Nm×Int)) (r:List UInt8) (last:Nm) (acc:List (Nm×Int)),(∀e∈m,bT e.1=true∧(0≤e.2∧e.2≤65535)∧bytesBefore last e.1=true)→aI bytesBefore m→
  jo m.length (m.flatMap Jw++r,0) last acc=some (acc++m,(r,0))
 |[],r,last,acc,_,_=>by simp[jo]
 |e::m,r,last,acc,h,hs=>by
  obtain⟨h1,h2,h3⟩:=h e (by simp);have hp:(256:Int)^2=65536:=rfl;have hl:=lX h1;rw[List.length_cons,jo];have e1:aL ((e::m).flatMap Jw++r,0)=(e.1,(eB e.2 2++(m.flatMap Jw++r),0)):=by
   rw[List.flatMap_cons];unfold Jw;rw[TK,TK];exact qI _ _ (by omega)
  rw[e1];dsimp only;rw[gW 2 _ _ h2.1 (by omega)];dsimp only;rw[if_neg (by rw[h1,h3];simp)];have hs':=aal.1 hs;rw[BF m r e.1 _ (fun y hy=>⟨(h y (by simp[hy])).1,(h y (by simp[hy])).2.1,hs'.1 y hy⟩) hs'.2,TK];rfl
theorem V_{s s':Rd}{q:Int×bJ}(h:jq s=some (q,s'))(h0:s'.2=0):s.2=0∧s.1=ku q.1 q.2++s'.1∧xA q.1 q.2:=by
 unfold jq at h;dsimp only at h;split at h
 ·cases h
 ·rename_i hc;have d0:(dx (aL s).1).2=0:=Decidable.byContradiction fun hn=>hc (.inl hn);have d1:((aL (aL s).2).1.length:Int)=(dx (aL s).1).1.size:=Decidable.byContradiction fun hn=>hc (.inr hn);obtain⟨q1,q2,q3⟩:=Es d0;have hp:(256:Int)^2=65536:=rfl;have hnd:∀l,AB (dx (aL s).1).1.id (zJ (dx (aL s).1).1 (aL (aL s).2).1 l)=(dx (aL s).1).1:=fun l=>by unfold AB zJ;dsimp only;rw[d1]
  by_cases hk:(dx (aL s).1).1.kind=1
  ·rw[if_pos hk]at h;split at h
   ·rename_i hz;simp only[Pd,abB]at h;obtain⟨rfl,rfl⟩:=h;obtain⟨f1,f2,-⟩:=h_ h0;obtain⟨b1,b2,-⟩:=mE f1;obtain⟨a1,a2,-⟩:=mE b1;refine⟨a1,?_,by rw[hnd];exact q3,by rw[hnd];exact q2,fun _=>rfl,List.Pairwise.nil,fun e he=>(by cases he),fun e he=>(by cases he),Nat.zero_le _⟩;unfold ku;rw[AJ,hnd,←q1];unfold zJ;rw[hz]at f2;rw[show(([]:List (Nm×Int)).flatMap Jw)=[]from rfl,aaA,TK,TK,show((([]:List (Nm×Int)).length:Nat):Int)=0 from rfl,←f2,←b2];exact a2
   ·cases h
  ·rw[if_neg hk]at h;split at h
   ·cases h
   ·rename_i p hr;simp only[Pd,abB]at h;obtain⟨rfl,rfl⟩:=h;obtain⟨r1,m,r2,r3,r4,r5,r6⟩:=Et _ _ _ _ p.1 p.2 hr h0;obtain⟨f1,f2,f3,f4⟩:=h_ r1;obtain⟨b1,b2,-⟩:=mE f1;obtain⟨a1,a2,-⟩:=mE b1;rw[List.nil_append]at r2;refine⟨a1,?_,by rw[hnd];exact q3,by rw[hnd];exact q2,fun hk'=>absurd hk' hk,by rw[show(zJ (dx (aL s).1).1 (aL (aL s).2).1 p.1).names=m from r2];exact r6,fun e he=> ?_,fun e he=> ?_,?_⟩
    ·unfold ku;rw[AJ,hnd,←q1];unfold zJ;dsimp only;rw[r2,r3,TK,TK,TK,←r4,show((bq (aL (aL s).2).2 2).1.toNat:Int)=(bq (aL (aL s).2).2 2).1 by omega,←f2,←b2];exact a2
    ·exact(r5 e (by rw[←r2];exact he)).1
    ·exact(r5 e (by rw[←r2];exact he)).2.1
    ·show p.1.length≤65535;rw[r2,r3];omega
theorem R_{k:Int}{x:bJ}(h:xA k x)(r:List UInt8):jq (ku k x++r,0)=some ((k,x),(r,0)):=by
 have hp:(256:Int)^2=65536:=rfl;have hsz:x.b.length≤65535:=by have:=h.ok.size.2;unfold AB at this;dsimp only at this;omega
 have hen:(rJ k x).length≤65535:=by unfold rJ ql;simp only[List.length_append,bB];omega
 have hfw:=h.few;unfold jq ku;dsimp only;rw[TK,TK,TK,qI _ _ hen];dsimp only;rw[AJ,KS h.ok h.right];dsimp only;rw[qI _ _ hsz];dsimp only;rw[gW 2 _ _ (by omega) (by omega)];dsimp only;rw[if_neg (by unfold AB;simp)];by_cases hk:x.kind=1
 ·rw[if_pos (show(AB k x).kind=1 from hk)];have hn:=h.file hk;rw[hn];simp only[List.length_nil,List.flatMap_nil,List.nil_append,Int.natCast_zero,abC];unfold zJ AB;dsimp only;rw[←hn]
 ·rw[if_neg (show ¬(AB k x).kind=1 from hk)];rw[show((x.names.length:Int)).toNat=x.names.length by omega,BF x.names r [] [] (fun e he=>⟨h.good e he,h.ids e he,V9 (h.good e he)⟩) h.sorted];rfl
theorem GI:∀(k:Nat) (s:Rd) (last:Int) (acc l:aA) (s':Rd),qJ k s last acc=some (l,s')→s'.2=0→
  s.2=0∧∃m,l=acc++m∧m.length=k∧s.1=(m.flatMap fun q=>ku q.1 q.2)++s'.1∧(∀q∈m,xA q.1 q.2∧last<q.1)∧aI iA m
 |0,s,last,acc,l,s',h,h0=>by
  rw[rD]at h;cases h;exact⟨h0,[],by simp,rfl,rfl,fun e he=>(by cases he),List.Pairwise.nil⟩
 |k+1,s,last,acc,l,s',h,h0=>by
  cases hr:jq s with
  |none=>rw[BD hr]at h;cases h
  |some q=>
   rw[rE hr]at h;by_cases hl:q.1.1≤last
   ·rw[if_pos hl]at h;cases h
   ·rw[if_neg hl]at h;obtain⟨e1,m,e2,e3,e4,e5,e6⟩:=GI k _ _ _ _ _ h h0;obtain⟨b1,b2,b3⟩:=V_ (q:=q.1) (s':=q.2) hr e1;refine⟨b1,q.1::m,by rw[e2,TK];rfl,by rw[List.length_cons,e3],?_,fun y hy=> ?_,?_⟩
    ·rw[List.flatMap_cons,TK,←e4];exact b2
    ·rcases aan.1 hy with rfl|hy
     ·exact⟨b3,by omega⟩
     ·have:=e5 y hy;exact⟨this.1,by omega⟩
    ·exact List.Pairwise.cons (fun y hy=>decide_eq_true (e5 y hy).2) e6
theorem Eu:∀(m:aA) (r:List UInt8) (last:Int) (acc:aA),(∀q∈m,xA q.1 q.2∧last<q.1)→aI iA m→
  qJ m.length ((m.flatMap fun q=>ku q.1 q.2)++r,0) last acc=some (acc++m,(r,0))
 |[],r,last,acc,_,_=>by rw[aaA];exact rD _ _ _
 |q::m,r,last,acc,h,hs=>by
  obtain⟨h1,h2⟩:=h q (by simp);have hs':=aal.1 hs;rw[List.length_cons,List.flatMap_cons,TK,rE (R_ h1 _),if_neg (show ¬q.1≤last by omega)];dsimp only;rw[Eu m r q.1 _ (fun y hy=>⟨(h y (by simp[hy])).1,of_decide_eq_true (hs'.1 y hy)⟩) hs'.2,TK];rfl
structure uL(T:aA):Prop where
 each:∀q∈T,xA q.1 q.2
 sorted:aI iA T
 few:T.length≤65535
theorem wN{b:List UInt8}{T:aA}(h:parseM b=some T):b=dw T∧uL T:=by
 unfold parseM at h;split at h
 ·cases h
 ·rename_i q hr;split at h
  ·rename_i he;cases h;obtain⟨z1,z2⟩:=Er he;obtain⟨e1,m,e2,e3,e4,e5,e6⟩:=GI _ _ _ _ q.1 q.2 hr z1;obtain⟨-,f2,f3,f4⟩:=h_ e1;have hp:(256:Int)^2=65536:=rfl;rw[List.nil_append]at e2;rw[z2,aaA]at e4;rw[e2];refine⟨?_,fun y hy=>(e5 y hy).1,e6,by omega⟩;unfold dw;rw[e3,show((bq (b,0) 2).1.toNat:Int)=(bq (b,0) 2).1 by omega,←e4];exact f2
  ·cases h
theorem uq{T:aA}(h:uL T):parseM (dw T)=some T:=by
 have hp:(256:Int)^2=65536:=rfl;have hf:=h.few;unfold parseM dw;rw[gW 2 _ _ (by omega) (by omega)];dsimp only;have:=Eu T [] (-1) [] (fun q hq=>⟨h.each q hq,by have:=(h.each q hq).ok.id.1;unfold AB at this;dsimp only at this;omega⟩) h.sorted;rw[aaA,List.nil_append]at this;rw[show((T.length:Int)).toNat=T.length by omega,this];rfl
abbrev sO:=List (Int×Nat)
def jW(C:sO)(j:Int):Nat:=(aj j C).getD 0
def sm(C:sO):Nat:=(C.map (·.2)).sum
def zc(T:aA)(C:sO):Nat:=T.countP fun q=>decide (q.2.kind=2)&&decide (jW C q.1=0)
def Fw(T:aA)(C:sO):Nat:=sm C+65535*zc T C
def oz(C:sO)(k:Int):sO:=b_ iA k (jW C k+1) C
theorem lF(C:sO)(k j:Int):jW (oz C k) j=jW C j+if j=k then 1 else 0:=by
 unfold oz;unfold jW;rw[eO];by_cases h:j=k
 ·subst h;rw[if_pos rfl,if_pos rfl];rfl
 ·rw[if_neg h,if_neg h];rfl
theorem rF(x:Int×Nat)(l:sO):sm (x::l)=x.2+sm l:=by unfold sm;rw[List.map_cons,List.sum_cons]
theorem Pf(x:Int×Nat):∀l:sO,sm (jg iA x l)=sm l+x.2
 |[]=>by unfold jg;rw[rF];omega
 |y::r=>by
  unfold jg;split
  ·rw[rF,rF];omega
  ·rw[rF,rF,Pf x r];omega
theorem Iz(k:Int):∀{C:sO},aI iA C→sm (bP k C)+jW C k=sm C
 |[],_=>rfl
 |y::r,h=>by
  obtain⟨h1,h2⟩:=aal.1 h;by_cases hk:y.1=k
  ·have hn:aj k r=none:=iP.2 fun p hp e=>by
    have:=h1 p hp;rw[hk,e]at this;simp at this
   have e1:bP k (y::r)=bP k r:=by unfold bP;rw[List.filter_cons,if_neg (by simp[hk])]
   have e2:jW (y::r) k=y.2:=by unfold jW;rw[fF,if_pos hk];rfl
   rw[e1,e2,kL hn,rF];omega
  ·have e1:bP k (y::r)=y::bP k r:=by unfold bP;rw[List.filter_cons,if_pos (by simp[hk])]
   have e2:jW (y::r) k=jW r k:=by unfold jW;rw[fF,if_neg hk]
   have:=Iz k h2;rw[e1,e2,rF,rF];omega
theorem Ny{C:sO}(h:aI iA C)(k:Int):sm (oz C k)=sm C+1:=by
 have:=Iz k h;unfold oz b_;rw[Pf];dsimp only;omega
theorem YZ{C:sO}(h:aI iA C)(j:Int):jW C j≤sm C:=by have:=Iz j h;omega
theorem AL(T:aA)(C:sO)(k:Int):zc T (oz C k)≤zc T C:=by
 unfold zc;apply List.countP_mono_left;intro q _ h;simp only[aaW,aah,lF]at h⊢;exact⟨h.1,by omega⟩
theorem Sb{T:aA}{C:sO}{k:Int}{x:bJ}(hk:(k,x)∈T)(hx:x.kind=2)(h0:jW C k=0):zc T (oz C k)+1≤zc T C:=by
 obtain⟨l1,l2,rfl⟩:=List.append_of_mem hk;have h1:=AL l1 C k;have h2:=AL l2 C k;unfold zc at h1 h2⊢;rw[List.countP_append,List.countP_append,abf,abf,if_neg (by simp[lF]),if_pos (by simp[hx,h0])];omega
theorem Y0{T:aA}{C:sO}(h:aI iA C)(k:Int):Fw T (oz C k)≤Fw T C+1:=by
 have h1:=Ny h k;have h2:=AL T C k;unfold Fw;omega
theorem Y1{T:aA}{C:sO}(h:aI iA C){k:Int}{x:bJ}(hk:(k,x)∈T)(hx:x.kind=2)(h0:jW C k=0):Fw T (oz C k)+65535≤Fw T C+1:=by
 have h1:=Ny h k;have h2:=Sb hk hx h0;unfold Fw;omega
theorem Ev{C:sO}(h:aI iA C)(k:Int):aI iA (oz C k):=h.b_ bY k _
def mI(T:aA):Nat→Int→List Int
 |0,_=>[]
 |n+1,id=>(aU T id).flatMap fun e=>e.2::(if bI T e.2=2 then mI T n e.2 else[])
def zK(T:aA):Nat→Int→Prop
 |0,id=>aU T id=[]
 |n+1,id=>∀e∈aU T id,(aj e.2 T).isSome=true∧e.2≠0∧(bI T e.2=2→zK T n e.2)
def iV(T:aA)(C:sO)(n:Nat)(id:Int):Prop:=zK T n id∧∀k∈mI T n id,bI T k=2→jW C k+(mI T n id).count k≤1
def mJ(T:aA)(n:Nat)(e:Nm×Int):List Int:=e.2::(if bI T e.2=2 then mI T n e.2 else[])
def EntOk(T:aA)(n:Nat)(e:Nm×Int):Prop:=(aj e.2 T).isSome=true∧e.2≠0∧(bI T e.2=2→zK T n e.2)
theorem kR(T:aA)(n:Nat)(id:Int):mI T (n+1) id=(aU T id).flatMap (mJ T n):=rfl
structure mF(T:aA)(n:Nat)(C:sO)(D:List (Nm×Int))(C':sO):Prop where
 sorted:aI iA C'
 cnt:∀j,jW C' j=jW C j+(D.flatMap (mJ T n)).count j
 ok:∀e∈D,EntOk T n e
 one:∀k∈D.flatMap (mJ T n),bI T k=2→jW C' k≤1
theorem mF.nil{T:aA}{n:Nat}{C:sO}(h:aI iA C):mF T n C [] C:=⟨h,fun j=>rfl,fun e he=>(by cases he),fun k hk=>(by cases hk)⟩
theorem mF.perm{T:aA}{n:Nat}{C C':sO}{D D':List (Nm×Int)}(h:mF T n C D C')(hp:D'.Perm D):mF T n C D' C':=
 ⟨h.sorted,fun j=>by rw[h.cnt j,(hp.flatMap_right (mJ T n)).count_eq],fun e he=>h.ok e (hp.mem_iff.1 he),fun k hk=>h.one k ((hp.flatMap_right (mJ T n)).mem_iff.1 hk)⟩
theorem sP{T:aA}{n:Nat}(D:List (Nm×Int))(e:Nm×Int):(D++[e]).flatMap (mJ T n)=D.flatMap (mJ T n)++mJ T n e:=by simp
theorem mF.file{T:aA}{n:Nat}{C C':sO}{D:List (Nm×Int)}(h:mF T n C D C'){e:Nm×Int}(h1:(aj e.2 T).isSome=true)(h2:e.2≠0)(hk:bI T e.2≠2):mF T n C (D++[e]) (oz C' e.2):=by
 have he:mJ T n e=[e.2]:=by unfold mJ;rw[if_neg hk]
 refine⟨Ev h.sorted _,fun j=> ?_,fun y hy=> ?_,fun k hkm hk2=> ?_⟩
 ·rw[lF,h.cnt j,sP,he,List.count_append,List.count_singleton];by_cases hj:j=e.2
  ·subst hj;simp;omega
  ·simp[hj,aaT hj]
 ·rcases aap.1 hy with hy|hy
  ·exact h.ok y hy
  ·simp only[List.mem_singleton]at hy;subst hy;exact⟨h1,h2,fun hh=>absurd hh hk⟩
 ·rw[sP,he]at hkm;have hne:k≠e.2:=fun hh=>hk (hh▸hk2);rw[lF,if_neg hne,Nat.add_zero];rcases aap.1 hkm with hm|hm
  ·exact h.one k hm hk2
  ·simp only[List.mem_singleton]at hm;exact absurd hm hne
theorem mF.dir{T:aA}{n:Nat}{C C' C2:sO}{D:List (Nm×Int)}(h:mF T n C D C'){e:Nm×Int}(h1:(aj e.2 T).isSome=true)(h2:e.2≠0)(hk:bI T e.2=2)(hz:jW C' e.2=0)
  (hs:aI iA C2)(hc:∀j,jW C2 j=jW (oz C' e.2) j+(mI T n e.2).count j)(hL:iV T (oz C' e.2) n e.2):mF T n C (D++[e]) C2:=by
 have he:mJ T n e=e.2::mI T n e.2:=by unfold mJ;rw[if_pos hk]
 have hce:∀j,jW C2 j=jW C' j+(mJ T n e).count j:=fun j=>by
  rw[hc j,lF,he,List.count_cons];by_cases hj:j=e.2
  ·subst hj;simp;omega
  ·simp[hj,aaT hj]
 have hin:∀k∈mJ T n e,bI T k=2→jW C2 k≤1:=fun k hkm hk2=>by
  rw[hc k];rw[he]at hkm;by_cases hv:k∈mI T n e.2
  ·exact hL.2 k hv hk2
  ·rcases aan.1 hkm with hm|hm
   ·subst hm;rw[aaM hv,lF,if_pos rfl,hz];exact Nat.le_refl _
   ·exact absurd hm hv
 refine⟨hs,fun j=> ?_,fun y hy=> ?_,fun k hkm hk2=> ?_⟩
 ·rw[sP,List.count_append,hce j,h.cnt j,Nat.add_assoc]
 ·rcases aap.1 hy with hy|hy
  ·exact h.ok y hy
  ·simp only[List.mem_singleton]at hy;subst hy;exact⟨h1,h2,fun _=>hL.1⟩
 ·by_cases hm:k∈mJ T n e
  ·exact hin k hm hk2
  ·rw[sP]at hkm;rcases aap.1 hkm with hm'|hm'
   ·rw[hce k,aaM hm,Nat.add_zero];exact h.one k hm' hk2
   ·exact absurd hm' hm
theorem mF.all{T:aA}{n:Nat}{C C':sO}{id:Int}(h:mF T n C (aU T id) C'):iV T C (n+1) id∧∀j,jW C' j=jW C j+(mI T (n+1) id).count j:=by
 refine⟨⟨fun e he=>h.ok e he,fun k hk hk2=> ?_⟩,fun j=>h.cnt j⟩;have:=h.one k hk hk2;rw[h.cnt k]at this;exact this
theorem Pg{α:Type}(f:α→Nat)(p:α→Bool):∀l:List α,((l.filter p).map f).sum≤(l.map f).sum
 |[]=>Nat.le_refl _
 |x::r=>by
  have:=Pg f p r;rw[List.filter_cons];split
  ·rw[List.map_cons,List.map_cons,List.sum_cons,List.sum_cons];omega
  ·rw[List.map_cons,List.sum_cons];omega
theorem Ew{T:aA}{n:Nat}{l:List (Nm×Int)}{left:Nm→Bool}{e:Nm×Int}(hp:l.Pairwise fun e e'=>e.1≠e'.1)(he:e∈l)(hl:left e.1=true)(j:Int):
  ((doneN left l).flatMap (mJ T n)).count j+(mJ T n e).count j≤(l.flatMap (mJ T n)).count j:=by
 have h1:=xR (k:=e.1) (j:=e.2) hp he hl;have h2:=(h1.flatMap_right (mJ T n)).count_eq j;rw[sP,List.count_append]at h2;rw[←h2,acp,acp];exact Pg _ _ _
theorem KT{T:aA}{C:sO}{n:Nat}{id:Int}{e:Nm×Int}(he:e∈aU T id)(h:¬((aj e.2 T).isSome=true∧e.2≠0)):¬iV T C (n+1) id:=fun hL=>h ⟨(hL.1 e he).1,(hL.1 e he).2.1⟩
theorem AO{T:aA}{C:sO}{id:Int}{e:Nm×Int}(he:e∈aU T id):¬iV T C 0 id:=fun hL=>by
 have h1:aU T id=[]:=hL.1;rw[h1]at he;cases he
theorem Wd{T:aA}{C C':sO}{n:Nat}{id:Int}{left:Nm→Bool}{e:Nm×Int}(hp:(aU T id).Pairwise fun e e'=>e.1≠e'.1)(he:e∈aU T id)(hl:left e.1=true)(h:mF T n C (doneN left (aU T id)) C')(hk:bI T e.2=2)(h1:1<jW (oz C' e.2) e.2):¬iV T C (n+1) id:=fun hL=>by
 have h2:=Ew (T:=T) (n:=n) hp he hl e.2;have h3:=hL.2 e.2 (by rw[kR];exact List.mem_flatMap.2 ⟨e,he,by unfold mJ;simp⟩) hk;rw[kR]at h3;rw[lF,if_pos rfl,h.cnt]at h1;have h4:1≤(mJ T n e).count e.2:=by unfold mJ;rw[List.count_cons];simp
 omega
theorem Wh{T:aA}{C C':sO}{n:Nat}{id:Int}{left:Nm→Bool}{e:Nm×Int}(hp:(aU T id).Pairwise fun e e'=>e.1≠e'.1)(he:e∈aU T id)(hl:left e.1=true)(h:mF T n C (doneN left (aU T id)) C')(hk:bI T e.2=2)(h1:¬iV T (oz C' e.2) n e.2):¬iV T C (n+1) id:=fun hL=>by
 refine h1 ⟨(hL.1 e he).2.2 hk,fun k hkv hk2=> ?_⟩;have h2:=Ew (T:=T) (n:=n) hp he hl k;have he':mJ T n e=e.2::mI T n e.2:=by unfold mJ;rw[if_pos hk]
 have h3:=hL.2 k (by rw[kR];exact List.mem_flatMap.2 ⟨e,he,by rw[he'];simp[hkv]⟩) hk2;rw[kR]at h3;rw[he',List.count_cons]at h2;rw[lF,h.cnt];by_cases hj:k=e.2
 ·subst hj;simp only[beq_self_eq_true,abC]at h2⊢;omega
 ·rw[if_neg hj];omega
def lS(T:aA):Prop:=bI T 0=2∧T.length≤64∧iV T [(0,1)] 8 0∧∀q∈T,(((if q.1=0 then 1 else 0)+(mI T 8 0).count q.1:Nat):Int)=q.2.links∧¬(q.2.links=0∧q.2.closed=true)
theorem KU(j:Int):jW [(0,1)] j=if j=0 then 1 else 0:=by
 unfold jW;rw[fF];by_cases h:(0:Int)=j
 ·rw[if_pos h,if_pos h.symm];rfl
 ·rw[if_neg h,if_neg (aaT h)];rfl
theorem fZ.Ph{T:aA}(hT:dZ T):uL T:=by
 refine⟨fun q hq=> ?_,hT.sorted,by have:=hT.len;omega⟩;have hx:=aS bY hT.sorted hq;have O:=hT.each _ _ hx;have hi:=hT.ids _ _ hx;have hl:=O.links;have ht:=O.aF;have hs:=O.size;refine⟨⟨hi,?_,?_,?_,?_⟩,?_,O.file,O.sorted,O.good,fun e he=> ?_,by have:=hT.few hx;omega⟩
 ·show 0≤q.2.kind∧q.2.kind≤255;rcases O.kind with h|h<;>omega
 ·show 0≤q.2.links∧q.2.links≤65535;omega
 ·show 0≤(q.2.b.length:Int)∧(q.2.b.length:Int)≤65535;omega
 ·show 0≤q.2.aF∧q.2.aF≤18446744073709551615;omega
 ·rcases O.kind with h|h
  ·exact .inl ⟨h,by show(q.2.b.length:Int)≤4096;omega,ht.2⟩
  ·have hd:=O.dir h;refine .inr ⟨h,?_,hd.2.2.2,hd.2.1⟩;show(q.2.b.length:Int)=0;rw[hd.2.2.1];rfl
 ·obtain⟨y,hy⟩:=aaf.1 (hT.leads _ _ hx e he).1;exact hT.ids _ _ hy
theorem fC.vis{T:aA}{dep:Int→Nat}(h:fC T dep)(hT:dZ T):∀(n:Nat) (d:Int),8≤n+dep d→zK T n d
 |0,d,hd=>by
  show aU T d=[];cases hn:aU T d with
  |nil=>rfl
  |cons e r=>
   obtain⟨x,hx,he⟩:=nK (T:=T) (id:=d) (e:=e) (by rw[hn];simp);have:=(h.up d x hx e he).1;omega
 |n+1,d,hd=>fun e he=>by
  obtain⟨x,hx,he⟩:=nK he;have hl:=hT.leads d x hx e he;exact⟨hl.1,hl.2,fun hk=>h.vis hT n e.2 (by have:=(h.up d x hx e he).2 hk;omega)⟩
theorem Ey{T:aA}:∀(n:Nat) (a:Int),zK T n a→(0:Int)∉mI T n a
 |0,a,_=>by unfold mI;simp
 |n+1,a,h=>by
  rw[kR,List.mem_flatMap];rintro ⟨e,he,hm⟩;obtain⟨h1,h2,h3⟩:=h e he;unfold mJ at hm;rcases aan.1 hm with hm|hm
  ·exact h2 hm.symm
  ·split at hm
   ·rename_i hk;exact Ey n e.2 (h3 hk) hm
   ·cases hm
theorem Nz{T:aA}(hT:dZ T){a:Int}(h:bI T a≠2):aU T a=[]:=by
 unfold aU;unfold bI at h;cases hx:aj a T with
 |none=>rfl
 |some x=>
  rw[hx]at h;exact(hT.each a x hx).file ((hT.each a x hx).kind.resolve_right h)
theorem GJ{T:aA}(hT:dZ T)(k:Int):∀(n:Nat) (a:Int) (p:List Nm),(mI T n a).count k+(if a=k then 1 else 0)=(mX T k n a p).length
 |0,a,p=>by
  unfold mI mX;split<;>simp
 |n+1,a,p=>by
  rw[kR];unfold mX;rw[List.length_append,acp,List.length_flatMap];have h1:(if a=k then[p]else[]).length=if a=k then 1 else 0:=by split<;>rfl
  rw[h1,Nat.add_comm];congr 1;congr 1;apply aaz;intro e he;rw[←GJ hT k n e.2 (p++[e.1])];show(mJ T n e).count k=_;unfold mJ;rw[List.count_cons];have h2:(if bI T e.2=2 then mI T n e.2 else[])=mI T n e.2:=by
   split
   ·rfl
   ·rename_i hk;cases n with
    |zero=>rfl
    |succ n=>
     rw[kR,Nz hT hk];rfl
  rw[h2];by_cases h3:e.2=k<;>simp[h3]
theorem Ez{T:aA}(hO:fZ T):lS T:=by
 have hO':=hO;obtain⟨hT,dep,hd⟩:=hO;have hv:=hd.vis hT 8 0 (by omega);have h0:=Ey 8 0 hv;have hcnt:∀k,k≠0→(mI T 8 0).count k=fV T k:=fun k hk=>by
  have:=GJ hT k 8 0 [];rw[if_neg (aaT hk),Nat.add_zero,JL hO' hk]at this;exact this
 refine⟨hT.root,hT.len,⟨hv,fun k hk hk2=> ?_⟩,fun q hq=> ?_⟩
 ·have hk0:k≠0:=fun e=>h0 (e▸hk);obtain⟨x,hx,hxk⟩:=gJ hk2;have h1:=hT.counts k x hx hk0;rw[((hT.each k x hx).dir hxk).1]at h1;rw[KU,if_neg hk0,hcnt k hk0];omega
 ·have hx:=aS bY hT.sorted hq;have O:=hT.each _ _ hx;refine⟨?_,fun hh=>by have:=O.gone hh.1;rw[hh.2]at this;cases this⟩;by_cases hk0:q.1=0
  ·rw[if_pos hk0,hk0,aaM h0];have hk2:q.2.kind=2:=by
    have:=hT.root;rw[←hk0,dh hx]at this;exact this
   rw[(O.dir hk2).1];rfl
  ·rw[if_neg hk0,hcnt _ hk0,Nat.zero_add];exact hT.counts _ _ hx hk0
theorem uL.get{T:aA}(h:uL T){k:Int}{x:bJ}(hx:aj k T=some x):xA k x:=h.each _ (bM hx)
theorem xA.Wi{k:Int}{x:bJ}(h:xA k x):x.kind=1∨x.kind=2:=by
 rcases h.right with h1|h1
 ·exact .inl h1.1
 ·exact .inr h1.1
theorem xA.dir_{k:Int}{x:bJ}(h:xA k x)(hk:x.kind=2):x.closed=true∧x.b=[]∧x.aF=0:=by
 rcases h.right with h1|h1
 ·have h2:x.kind=1:=h1.1;omega
 ·obtain⟨_,h2,h3,h4⟩:=h1;refine⟨h4,aad ?_,h3⟩;have h5:(x.b.length:Int)=0:=h2;omega
theorem NA{T:aA}(h:uL T){k:Int}{x:bJ}(hx:aj k T=some x){e:Nm×Int}(he:e∈x.names):x.kind=2:=by
 rcases (h.get hx).Wi with h1|h1
 ·rw[(h.get hx).file h1]at he;cases he
 ·exact h1
theorem AP{T:aA}{a k:Int}{x:bJ}{n:Nm}(hx:aj a T=some x)(hk:x.kind=2)(hn:aj n x.names=some k)(r:List Nm):aG T a (n::r)=aG T k r:=by
 rw[aG,hx];simp only;rw[if_pos hk,hn]
theorem KV{T:aA}(h:uL T):∀(n:Nat) (a:Int),zK T n a→∀k∈mI T n a,bI T k=2→∃q m,aG T a q=(k,0)∧q.length+m=n∧zK T m k
 |0,a,hv,k,hk,_=>by unfold mI at hk;cases hk
 |n+1,a,hv,k,hk,hk2=>by
  rw[kR,List.mem_flatMap]at hk;obtain⟨e,he,hm⟩:=hk;obtain⟨h1,h2,h3⟩:=hv e he;obtain⟨x,hx,hex⟩:=nK he;have hg:aj e.1 x.names=some e.2:=aS uO (h.get hx).sorted hex;have hxk:=NA h hx hex;unfold mJ at hm;rcases aan.1 hm with hm|hm
  ·subst hm;exact⟨[e.1],n,by rw[AP hx hxk hg];rfl,by simp;omega,h3 hk2⟩
  ·split at hm
   ·rename_i hd;obtain⟨q,m,q1,q2,q3⟩:=KV h n e.2 (h3 hd) k hm hk2;exact⟨e.1::q,m,by rw[AP hx hxk hg];exact q1,by simp;omega,q3⟩
   ·cases hm
def cnA(T:aA)(j d:Int):Nat:=(aU T d).countP fun e=>decide (e.2=j)
def isDir(T:aA)(d:Int):Bool:=decide (bI T d=2)
theorem Pj{j:Int}{F G:Nm×Int→Nat}:∀(l:List (Nm×Int)),(∀e∈l,F e=(if e.2=j then 1 else 0)+G e)→(l.map F).sum=l.countP (fun e=>decide (e.2=j))+(l.map G).sum
 |[],_=>rfl
 |e::r,h=>by
  have h1:=h e (by simp);have h2:=Pj r fun y hy=>h y (by simp[hy]);rw[List.map_cons,List.map_cons,List.sum_cons,List.sum_cons,abf,h1,h2];by_cases he:e.2=j<;>simp[he]<;>omega
theorem KX{g:Int→Nat}{p:Int→Bool}{f:Nm×Int→List Int}:∀(l:List (Nm×Int)),(((l.flatMap f).filter p).map g).sum=(l.map fun e=>(((f e).filter p).map g).sum).sum
 |[]=>rfl
 |e::r=>by
  rw[List.flatMap_cons,aa7,List.map_append,List.sum_append,List.map_cons,List.sum_cons,KX r]
theorem Pk{T:aA}(j:Int):∀(n:Nat) (a:Int),zK T n a→(mI T n a).count j=((a::(mI T n a).filter (isDir T)).map (cnA T j)).sum
 |0,a,h=>by
  have h1:aU T a=[]:=h;unfold mI;simp[cnA,h1]
 |n+1,a,h=>by
  rw[kR,acp,List.map_cons,List.sum_cons,KX];unfold cnA;refine Pj (aU T a) fun e he=> ?_;obtain⟨h1,h2,h3⟩:=h e he;show(mJ T n e).count j=_;unfold mJ;by_cases hk:bI T e.2=2
  ·rw[if_pos hk,List.count_cons,List.filter_cons,if_pos (show isDir T e.2=true by unfold isDir;exact decide_eq_true hk),Pk j n e.2 (h3 hk)];unfold cnA;by_cases hj:e.2=j
   ·subst hj;simp;omega
   ·simp[hj]
  ·rw[if_neg hk,List.count_cons,List.filter_cons,if_neg (show ¬isDir T e.2=true by unfold isDir;simpa using hk)];by_cases hj:e.2=j<;>simp[hj]
theorem KY{α:Type}{p:α→Bool}{f g:α→Nat}:∀(l:List α),(∀q∈l,(p q=true→f q=g q)∧(p q=false→g q=0))→((l.filter p).map f).sum=(l.map g).sum
 |[],_=>rfl
 |q::r,h=>by
  have h1:=h q (by simp);have h2:=KY (p:=p) (f:=f) r fun y hy=>h y (by simp[hy]);rw[List.filter_cons,List.map_cons,List.sum_cons];cases hp:p q with
  |true=>rw[if_pos rfl,List.map_cons,List.sum_cons,h1.1 hp,h2]
  |false=>rw[if_neg (by decide),h2,h1.2 hp];omega
theorem NC{T:aA}(hP:uL T)(hR:lS T):Oh T:=by
 obtain⟨hroot,hlen,⟨hv,hone⟩,hlk⟩:=hR;have h0:=Ey 8 0 hv;have Wj:∀k x,aj k T=some x→x.kind=2→k=0∨k∈mI T 8 0:=fun k x hx hk=>by
  by_cases hk0:k=0
  ·exact .inl hk0
  ·right;have h1:=hlk _ (bM hx);dsimp only at h1;rw[if_neg hk0]at h1;refine Decidable.byContradiction fun hm=>h1.2 ⟨?_,((hP.get hx).dir_ hk).1⟩;have h2:=h1.1;rw[aaM hm]at h2;exact h2.symm
 have Al:∀k x,aj k T=some x→x.kind=2→∃q m,aG T 0 q=(k,0)∧q.length+m=8∧zK T m k:=fun k x hx hk=>by
  rcases Wj k x hx hk with h1|h1
  ·subst h1;exact⟨[],8,rfl,rfl,hv⟩
  ·exact KV hP 8 0 hv k h1 (by rw[dh hx];exact hk)
 have hlead:∀k x,aj k T=some x→∀e∈x.names,(aj e.2 T).isSome=true∧e.2≠0∧∃q,aG T 0 q=(k,0)∧q.length<8:=fun k x hx e he=>by
  obtain⟨q,m,h1,h2,h3⟩:=Al k x hx (NA hP hx he);have hmem:e∈aU T k:=by rw[dX hx];exact he
  cases m with
  |zero=>
   have h4:aU T k=[]:=h3;rw[h4]at hmem;cases hmem
  |succ m=>
   have h4:=h3 e hmem;exact⟨h4.1,h4.2.1,q,h1,by omega⟩
 have hcnt:∀j,(mI T 8 0).count j=fV T j:=fun j=>by
  rw[Pk j 8 0 hv];have hperm:((0:Int)::(mI T 8 0).filter (isDir T)).Perm ((T.filter fun q=>decide (q.2.kind=2)).map (·.1)):=by
   refine xQ (List.nodup_cons.2 ⟨fun hm=>h0 (aar.1 hm).1,List.nodup_iff_count.2 fun a=> ?_⟩) ?_ fun a=> ?_
   ·by_cases ha:isDir T a=true
    ·rw[List.count_filter ha];by_cases hm:a∈mI T 8 0
     ·have:=hone a hm (of_decide_eq_true ha);omega
     ·rw[aaM hm];omega
    ·rw[aaM (fun hm=>ha (aar.1 hm).2)];omega
   ·have h1:(T.filter fun q=>decide (q.2.kind=2)).Pairwise fun p q=>p.1≠q.1:=abL _ (hP.sorted.apart bY);exact abk.2 h1
   ·rw[aan,aar,List.mem_map];constructor
    ·intro h;have hk:bI T a=2:=by
      rcases h with h|h
      ·rw[h];exact hroot
      ·exact of_decide_eq_true h.2
     obtain⟨x,hx,hxk⟩:=gJ hk;exact⟨(a,x),aar.2 ⟨bM hx,decide_eq_true hxk⟩,rfl⟩
    ·rintro ⟨q,hq,rfl⟩;obtain⟨hq1,hq2⟩:=aar.1 hq;have hx:=aS bY hP.sorted hq1;have hk:=of_decide_eq_true hq2;rcases Wj _ _ hx hk with h|h
     ·exact .inl h
     ·exact .inr ⟨h,decide_eq_true (by rw[dh hx];exact hk)⟩
  rw[(hperm.map (cnA T j)).sum_nat,List.map_map];unfold fV;refine KY T fun q hq=> ?_;have hx:=aS bY hP.sorted hq;refine⟨fun _=> ?_,fun hk=> ?_⟩
  ·show cnA T j q.1=cn j q.2;unfold cnA cn;rw[dX hx]
  ·have hk1:q.2.kind=1:=(hP.get hx).Wi.resolve_right (of_decide_eq_false hk);unfold cn;rw[(hP.get hx).file hk1];rfl
 have hM:OkW T:=by
  refine⟨⟨hP.sorted,hroot,fun k x hx=> ?_,fun k x hx e he=>⟨(hlead k x hx e he).1,(hlead k x hx e he).2.1⟩,hlen,fun k x hx=> ?_⟩,fun k x hx hk0=> ?_⟩
  ·have hp:=hP.get hx;have h1:=hlk _ (bM hx);have ol:=hp.ok.links;have ot:=hp.ok.aF;refine⟨hp.Wi,hp.file,fun hk=> ?_,fun hz=> ?_,hp.sorted,hp.good,?_,ol,⟨ot.1,?_⟩⟩
   ·obtain⟨d1,d2,d3⟩:=hp.dir_ hk;refine⟨?_,d1,d2,d3⟩;have h2:=h1.1;dsimp only at h2;by_cases hk0:k=0
    ·rw[if_pos hk0,hk0,aaM h0]at h2;exact h2.symm
    ·rw[if_neg hk0]at h2;rcases Wj k x hx hk with h3|h3
     ·exact absurd h3 hk0
     ·have h4:=hone k h3 (by rw[dh hx];exact hk);have h5:=List.count_pos_iff.2 h3;omega
   ·cases hc:x.closed with
    |false=>rfl
    |true=>exact absurd ⟨hz,hc⟩ h1.2
   ·rcases hp.right with h2|h2
    ·have h3:(x.b.length:Int)≤4096:=h2.2.1;omega
    ·have h3:(x.b.length:Int)=0:=h2.2.1;omega
   ·rcases hp.right with h2|h2
    ·exact h2.2.2
    ·have h3:x.aF=0:=h2.2.2.1;show x.aF≤_;omega
  ·exact(hP.get hx).ok.id
  ·have h1:=(hlk _ (bM hx)).1;dsimp only at h1;rw[if_neg hk0,hcnt k,Nat.zero_add]at h1;exact h1
 refine⟨hM,fun d=>(WQ T d).length,?_,fun d x hx e he=> ?_⟩
 ·have:=qm hM _ (WQ T 0) [] 0 acu (zl ⟨[],rfl⟩) rfl hroot;rw[this];rfl
 ·obtain⟨_,_,q,hq,hlt⟩:=hlead d x hx e he;have hxk:=NA hP hx he;have e1:=qm hM _ (WQ T d) q d acu (zl ⟨q,hq⟩) hq ((dh hx).trans hxk);rw[e1];refine⟨hlt,fun hk=> ?_⟩;have hp2:aG T 0 (q++[e.1])=(e.2,0):=by
   rw[iG,hq,if_pos rfl];rw[AP hx hxk (aS uO (hM.each d x hx).sorted he)];rfl
  have e2:=qm hM _ (WQ T e.2) (q++[e.1]) e.2 acu (zl ⟨_,hp2⟩) hp2 hk;rw[e2];simp
structure ni(S:lN):Prop where
 next:1≤S.next
 last:(S.next=1→S.last=[])∧(S.next≠1→S.last.length=32)
 each:∀x∈S.l,(1≤x.id∧x.id<S.next)∧x.hash.length=32∧aV x.t=x.t
 up:S.l.Pairwise fun x y=>x.id<y.id
theorem ni.new:ni Jy:=⟨by decide,⟨fun _=>rfl,fun h=>absurd rfl h⟩,fun x hx=>(by cases hx),List.Pairwise.nil⟩
theorem ni.take{S:lN}(h:ni S)(T:aA):ni (jB S T).2:=by
 unfold jB;have hn:=h.next;split
 ·exact h
 ·refine⟨by show 1≤S.next+1;omega,⟨fun e=>by have e1:S.next+1=1:=e;omega,fun _=>ze _⟩,fun x hx=> ?_,?_⟩
  ·rcases aap.1 hx with hx|hx
   ·have:=h.each x hx;exact⟨⟨this.1.1,by have:=this.1.2;show x.id<S.next+1;omega⟩,this.2⟩
   ·rw[List.mem_singleton.1 hx];exact⟨⟨hn,by show S.next<S.next+1;omega⟩,ze _,zG T⟩
  ·show(S.l++[_]).Pairwise _;rw[List.pairwise_append];refine⟨h.up,List.pairwise_singleton _ _,fun x hx y hy=> ?_⟩;rw[List.mem_singleton.1 hy];exact(h.each x hx).1.2
theorem ni.forget{S:lN}(h:ni S)(id now:Int):ni (iy S id now).2:=by
 rcases xP S id now with e|⟨k,e⟩
 ·rw[e];exact h
 ·rw[e];have hsub:∀x∈(Fh S k).l,x∈S.l:=fun x hx=>by
   rcases aap.1 (show x∈S.l.take k++S.l.drop (k+1)from hx)with hx|hx
   ·exact List.mem_of_mem_take hx
   ·exact List.mem_of_mem_drop hx
  refine⟨h.next,h.last,fun x hx=>h.each x (hsub x hx),?_⟩;show(S.l.take k++S.l.drop (k+1)).Pairwise _;have hs:(S.l.take k++S.l.drop (k+1)).Sublist S.l:=by
   have h1:(S.l.take k++S.l.drop (k+1)).Sublist (S.l.take k++S.l.drop k):=(List.Sublist.refl _).append (by
    rw[←List.drop_drop];exact List.drop_sublist _ _)
   rwa [aaR]at h1
  exact h.up.sublist hs
theorem ni.do_{M:dQ}(h:ni M.s)(x:jK):ni (fE M x).2.s:=by
 have hc:=OD M x;generalize (fE M x).2=M' at hc⊢;cases hc with
 |take=>exact h.take _
 |forget=>exact h.forget _ _
 |tick h16=>exact h
 |same=>exact h
 |make ls kind=>exact h
 |create ls h1 h2=>exact h
 |opens T ls y h1 h2 h3 h4 h5 h6=>exact h
 |write f h1=>exact h
 |closes f h1 h2 h3=>exact h
 |shut f h1 h2=>exact h
 |link p q=>exact h
 |unlink ls h1 h2=>exact h
 |rmdir ls=>exact h
 |rename p q=>exact h
 |keep ls h1=>exact h
end Go.Proofs.YtjnhnlabpccgjaaGreatDoor
