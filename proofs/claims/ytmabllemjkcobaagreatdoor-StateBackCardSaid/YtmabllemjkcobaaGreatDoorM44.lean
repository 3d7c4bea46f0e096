/- What Load of package tree reads, plainly. What links of package tree visits, plainly; which loaded tree is right. A loaded tree that is right is one of ours. What snapshots are like whatever is done: so that they come back from their bytes. -/
import Derived.Test.YtmabllemjkcobaaGreatDoorM43
import Derived.Test.YtmabllemjkcobaaGreatDoorM33
namespace Go.Proofs.YtmabllemjkcobaaGreatDoor
open Go.ChangeShapes Go.WideShapes Go.ChangeAt Go.RowKit
set_option linter.unusedVariables false
set_option linter.unusedSimpArgs false
structure Ir where
 id:Int
 kind:Int
 links:Int
 size:Int
 au:Int
 closed:Bool
def OC:Ir:=⟨0,0,0,0,0,false⟩
def Eb (n:Ir):List UInt8:=fF n.id 2++(fF n.kind 1++(fF n.links 2++(fF n.size 2++(fF n.au 8++qh n.closed))))
def iQ (n:Ir):Prop:=(n.kind=1∧n.size≤4096∧n.au≤1099511627776)∨(n.kind=2∧n.size=0∧n.au=0∧n.closed=true)
instance (n:Ir):Decidable (iQ n):=by unfold iQ;infer_instance
def jD (b:List UInt8):Ir×Rd:=
 let a:=bg (b,0) 2
 let k:=bg a.2 1
 let l:=bg k.2 2
 let s:=bg l.2 2
 let t:=bg s.2 8
 let c:=qm t.2
 (⟨a.1,k.1,l.1,s.1,t.1,c.1⟩,c.2)
def bN (b:List UInt8):Ir×Int:=if nG (jD b).2=0∧iQ (jD b).1 then((jD b).1,0)else(OC,12)
theorem Ec {s:Rd} (h:nG s=0):s.2=0∧s.1=[]:=by
 unfold nG at h
 by_cases h1:s.2=0
 ·by_cases h2:0<s.1.length
  ·rw[if_pos ⟨h1,h2⟩]at h;cases h
  ·exact⟨h1,List.eq_nil_of_length_eq_zero (by omega)⟩
 ·rw[if_neg (fun hh=>h1 hh.1)]at h;exact absurd h h1
structure KF (n:Ir):Prop where
 id:0≤n.id∧n.id≤65535
 kind:0≤n.kind∧n.kind≤255
 links:0≤n.links∧n.links≤65535
 size:0≤n.size∧n.size≤65535
 au:0≤n.au∧n.au≤18446744073709551615
theorem qb (b:List UInt8):KF (jD b).1:=by
 have e2:(256:Int)^2=65536:=rfl
 have e1:(256:Int)^1=256:=rfl
 have e8:(256:Int)^8=18446744073709551616:=rfl
 unfold jD
 dsimp only
 refine⟨?_,?_,?_,?_,?_⟩<;>dsimp only
 ·have:=fT (b,0) 2;omega
 ·have:=fT (bg (b,0) 2).2 1;omega
 ·have:=fT (bg (bg (b,0) 2).2 1).2 2;omega
 ·have:=fT (bg (bg (bg (b,0) 2).2 1).2 2).2 2;omega
 ·have:=fT (bg (bg (bg (bg (b,0) 2).2 1).2 2).2 2).2 8;omega
theorem OD {b:List UInt8} (h:nG (jD b).2=0):b=Eb (jD b).1:=by
 obtain⟨h1,h2⟩:=Ec h
 unfold jD at h1 h2⊢
 dsimp only at h1 h2⊢
 obtain⟨f1,f2⟩:=OB h1
 obtain⟨t1,t2,-⟩:=jS f1
 obtain⟨s1,s2,-⟩:=jS t1
 obtain⟨l1,l2,-⟩:=jS s1
 obtain⟨k1,k2,-⟩:=jS l1
 obtain⟨a1,a2,-⟩:=jS k1
 unfold Eb
 dsimp only at a2⊢
 rw[h2,List.append_nil]at f2
 rw[←f2,←t2,←s2,←l2,←k2]
 exact a2
theorem KG {n:Ir} (h:KF n):jD (Eb n)=(n,([],0)):=by
 have e2:(256:Int)^2=65536:=rfl
 have e1:(256:Int)^1=256:=rfl
 have e8:(256:Int)^8=18446744073709551616:=rfl
 have h1:=h.id;have h2:=h.kind;have h3:=h.links;have h4:=h.size;have h5:=h.au
 unfold jD Eb
 dsimp only
 rw[fJ 2 n.id _ (by omega) (by omega)]
 dsimp only
 rw[fJ 1 n.kind _ (by omega) (by omega)]
 dsimp only
 rw[fJ 2 n.links _ (by omega) (by omega)]
 dsimp only
 rw[fJ 2 n.size _ (by omega) (by omega)]
 dsimp only
 rw[fJ 8 n.au _ (by omega) (by omega)]
 dsimp only
 have:=KE n.closed []
 rw[List.append_nil]at this
 rw[this]
theorem yK {b:List UInt8} (h:(bN b).2=0):b=Eb (bN b).1∧iQ (bN b).1∧KF (bN b).1:=by
 unfold bN at h⊢
 by_cases h1:nG (jD b).2=0∧iQ (jD b).1
 ·rw[if_pos h1]
  exact⟨OD h1.1,h1.2,qb b⟩
 ·rw[if_neg h1]at h;cases h
theorem Ed {n:Ir} (h:KF n) (hr:iQ n):bN (Eb n)=(n,0):=by
 unfold bN
 rw[KG h,if_pos ⟨rfl,hr⟩]
def g_:Nat→Rd→Nm→List (Nm×Int)→Option (List (Nm×Int)×Rd)
 |0,s,_,acc=>some (acc,s)
 |k+1,s,last,acc=>
  let a:=aI s
  let b:=bg a.2 2
  if b.2.2≠0∨dM a.1=false∨bytesBefore last a.1=false then none else g_ k b.2 a.1 (acc++[(a.1,b.1)])
def vD (k:Int) (x:eB):Ir:=⟨k,x.kind,x.links,x.b.length,x.au,x.closed⟩
def um (n:Ir) (b:List UInt8) (names:List (Nm×Int)):eB:=⟨n.kind,n.links,n.au,n.closed,b,names⟩
def h_ (s:Rd):Option ((Int×eB)×Rd):=
 let a:=aI s
 let n:=bN a.1
 let b:=aI a.2
 let c:=bg b.2 2
 if n.2≠0∨(b.1.length:Int)≠n.1.size then none else
 if n.1.kind=1 then(if c.1=0 then some ((n.1.id,um n.1 b.1 []),c.2)else none)else
 match g_ c.1.toNat c.2 [] []with
 |none=>none
 |some q=>some ((n.1.id,um n.1 b.1 q.1),q.2)
def nk:Nat→Rd→Int→aK→Option (aK×Rd)
 |0,s,_,acc=>some (acc,s)
 |k+1,s,last,acc=>(h_ s).elim none fun q=>if q.1.1≤last then none else nk k q.2 q.1.1 (acc++[q.1])
theorem nU (s:Rd) (last:Int) (acc:aK):nk 0 s last acc=some (acc,s):=rfl
theorem wo {k:Nat} {s:Rd} {last:Int} {acc:aK} (h:h_ s=none):nk (k+1) s last acc=none:=by
 show(h_ s).elim none _=none
 rw[h];rfl
theorem nV {k:Nat} {s:Rd} {last:Int} {acc:aK} {q:(Int×eB)×Rd} (h:h_ s=some q):nk (k+1) s last acc=if q.1.1≤last then none else nk k q.2 q.1.1 (acc++[q.1]):=by
 show(h_ s).elim none _=_
 rw[h];rfl
def parseM (b:List UInt8):Option aK:=
 match nk (bg (b,0) 2).1.toNat (bg (b,0) 2).2 (-1) []with
 |none=>none
 |some q=>if nG q.2=0 then some q.1 else none
theorem OE {n:Nm} (h:dM n=true):bytesBefore [] n=true:=by
 cases n with
 |nil=>simp[dM]at h
 |cons a r=>rfl
structure Aw (k:Int) (x:eB):Prop where
 ok:KF (vD k x)
 right:iQ (vD k x)
 file:x.kind=1→x.names=[]
 sorted:aN bytesBefore x.names
 good:∀e∈x.names,dM e.1=true
 ids:∀e∈x.names,0≤e.2∧e.2≤65535
 few:x.names.length≤65535
theorem vE (k:Int) (x:eB):qw k x=Eb (vD k x):=by
 unfold qw Eb vD
 simp only[List.append_assoc]
theorem yL:∀(k:Nat) (s:Rd) (last:Nm) (acc l:List (Nm×Int)) (s':Rd),g_ k s last acc=some (l,s')→s'.2=0→
  s.2=0∧∃m,l=acc++m∧m.length=k∧s.1=m.flatMap Ez++s'.1∧(∀e∈m,dM e.1=true∧(0≤e.2∧e.2≤65535)∧bytesBefore last e.1=true)∧aN bytesBefore m
 |0,s,last,acc,l,s',h,h0=>by
  simp only[g_,Option.some.injEq,Prod.mk.injEq]at h
  obtain⟨rfl,rfl⟩:=h
  exact⟨h0,[],by simp,rfl,rfl,fun e he=>(by cases he),List.Pairwise.nil⟩
 |k+1,s,last,acc,l,s',h,h0=>by
  unfold g_ at h
  dsimp only at h
  split at h
  ·cases h
  ·rename_i hc
   obtain⟨e1,m,e2,e3,e4,e5,e6⟩:=yL k _ _ _ _ _ h h0
   have g1:dM (aI s).1=true:=by
    cases hg:dM (aI s).1 with
    |true=>rfl
    |false=>exact absurd (.inr (.inl hg)) hc
   have g2:bytesBefore last (aI s).1=true:=by
    cases hg:bytesBefore last (aI s).1 with
    |true=>rfl
    |false=>exact absurd (.inr (.inr hg)) hc
   obtain⟨f1,f2,f3,f4⟩:=jS e1
   obtain⟨b1,b2,-⟩:=oZ f1
   have hp:(256:Int)^2=65536:=rfl
   refine⟨b1,((aI s).1,(bg (aI s).2 2).1)::m,by rw[e2,List.append_assoc];rfl,by rw[List.length_cons,e3],?_,fun e he=> ?_,?_⟩
   ·rw[List.flatMap_cons]
    rw[show Ez ((aI s).1,(bg (aI s).2 2).1)=nY (aI s).1++fF (bg (aI s).2 2).1 2 from rfl,List.append_assoc,List.append_assoc,←e4,←f2]
    exact b2
   ·rcases List.mem_cons.1 he with rfl|he
    ·exact⟨g1,⟨f3,by dsimp only;omega⟩,g2⟩
    ·have:=e5 e he
     exact⟨this.1,this.2.1,mK _ _ _ g2 this.2.2⟩
   ·refine List.Pairwise.cons (fun e he=> ?_) e6
    exact(e5 e he).2.2
theorem wu:∀(m:List (Nm×Int)) (r:List UInt8) (last:Nm) (acc:List (Nm×Int)),(∀e∈m,dM e.1=true∧(0≤e.2∧e.2≤65535)∧bytesBefore last e.1=true)→aN bytesBefore m→
  g_ m.length (m.flatMap Ez++r,0) last acc=some (acc++m,(r,0))
 |[],r,last,acc,_,_=>by simp[g_]
 |e::m,r,last,acc,h,hs=>by
  obtain⟨h1,h2,h3⟩:=h e (by simp)
  have hp:(256:Int)^2=65536:=rfl
  have hl:=nO h1
  rw[List.length_cons,g_]
  have e1:aI ((e::m).flatMap Ez++r,0)=(e.1,(fF e.2 2++(m.flatMap Ez++r),0)):=by
   rw[List.flatMap_cons]
   unfold Ez
   rw[List.append_assoc,List.append_assoc]
   exact ni _ _ (by omega)
  rw[e1]
  dsimp only
  rw[fJ 2 _ _ h2.1 (by omega)]
  dsimp only
  rw[if_neg (by rw[h1,h3];simp)]
  have hs':=List.pairwise_cons.1 hs
  rw[wu m r e.1 _ (fun y hy=>⟨(h y (by simp[hy])).1,(h y (by simp[hy])).2.1,hs'.1 y hy⟩) hs'.2,List.append_assoc]
  rfl
theorem OG {s s':Rd} {q:Int×eB} (h:h_ s=some (q,s')) (h0:s'.2=0):s.2=0∧s.1=kR q.1 q.2++s'.1∧Aw q.1 q.2:=by
 unfold h_ at h
 dsimp only at h
 split at h
 ·cases h
 ·rename_i hc
  have d0:(bN (aI s).1).2=0:=Decidable.byContradiction fun hn=>hc (.inl hn)
  have d1:((aI (aI s).2).1.length:Int)=(bN (aI s).1).1.size:=Decidable.byContradiction fun hn=>hc (.inr hn)
  obtain⟨q1,q2,q3⟩:=yK d0
  have hp:(256:Int)^2=65536:=rfl
  have hnd:∀l,vD (bN (aI s).1).1.id (um (bN (aI s).1).1 (aI (aI s).2).1 l)=(bN (aI s).1).1:=fun l=>by unfold vD um;dsimp only;rw[d1]
  by_cases hk:(bN (aI s).1).1.kind=1
  ·rw[if_pos hk]at h
   split at h
   ·rename_i hz
    simp only[Option.some.injEq,Prod.mk.injEq]at h
    obtain⟨rfl,rfl⟩:=h
    obtain⟨f1,f2,-⟩:=jS h0
    obtain⟨b1,b2,-⟩:=oZ f1
    obtain⟨a1,a2,-⟩:=oZ b1
    refine⟨a1,?_,by rw[hnd];exact q3,by rw[hnd];exact q2,fun _=>rfl,List.Pairwise.nil,fun e he=>(by cases he),fun e he=>(by cases he),Nat.zero_le _⟩
    unfold kR
    rw[vE,hnd,←q1]
    unfold um
    rw[hz]at f2
    rw[show(([]:List (Nm×Int)).flatMap Ez)=[]from rfl,List.append_nil,List.append_assoc,List.append_assoc,show((([]:List (Nm×Int)).length:Nat):Int)=0 from rfl,←f2,←b2]
    exact a2
   ·cases h
  ·rw[if_neg hk]at h
   split at h
   ·cases h
   ·rename_i p hr
    simp only[Option.some.injEq,Prod.mk.injEq]at h
    obtain⟨rfl,rfl⟩:=h
    obtain⟨r1,m,r2,r3,r4,r5,r6⟩:=yL _ _ _ _ p.1 p.2 hr h0
    obtain⟨f1,f2,f3,f4⟩:=jS r1
    obtain⟨b1,b2,-⟩:=oZ f1
    obtain⟨a1,a2,-⟩:=oZ b1
    rw[List.nil_append]at r2
    refine⟨a1,?_,by rw[hnd];exact q3,by rw[hnd];exact q2,fun hk'=>absurd hk' hk,by rw[show(um (bN (aI s).1).1 (aI (aI s).2).1 p.1).names=m from r2];exact r6,fun e he=> ?_,fun e he=> ?_,?_⟩
    ·unfold kR
     rw[vE,hnd,←q1]
     unfold um
     dsimp only
     rw[r2,r3,List.append_assoc,List.append_assoc,List.append_assoc,←r4,show((bg (aI (aI s).2).2 2).1.toNat:Int)=(bg (aI (aI s).2).2 2).1 by omega,←f2,←b2]
     exact a2
    ·exact(r5 e (by rw[←r2];exact he)).1
    ·exact(r5 e (by rw[←r2];exact he)).2.1
    ·show p.1.length≤65535
     rw[r2,r3];omega
theorem KH {k:Int} {x:eB} (h:Aw k x) (r:List UInt8):h_ (kR k x++r,0)=some ((k,x),(r,0)):=by
 have hp:(256:Int)^2=65536:=rfl
 have hsz:x.b.length≤65535:=by have:=h.ok.size.2;unfold vD at this;dsimp only at this;omega
 have hen:(qw k x).length≤65535:=by unfold qw qh;simp only[List.length_append,bP];omega
 have hfw:=h.few
 unfold h_ kR
 dsimp only
 rw[List.append_assoc,List.append_assoc,List.append_assoc,ni _ _ hen]
 dsimp only
 rw[vE,Ed h.ok h.right]
 dsimp only
 rw[ni _ _ hsz]
 dsimp only
 rw[fJ 2 _ _ (by omega) (by omega)]
 dsimp only
 rw[if_neg (by unfold vD;simp)]
 by_cases hk:x.kind=1
 ·rw[if_pos (show(vD k x).kind=1 from hk)]
  have hn:=h.file hk
  rw[hn]
  simp only[List.length_nil,List.flatMap_nil,List.nil_append,Int.natCast_zero,if_true]
  unfold um vD
  dsimp only
  rw[←hn]
 ·rw[if_neg (show ¬(vD k x).kind=1 from hk)]
  rw[show((x.names.length:Int)).toNat=x.names.length by omega,wu x.names r [] [] (fun e he=>⟨h.good e he,h.ids e he,OE (h.good e he)⟩) h.sorted]
  rfl
theorem Ay:∀(k:Nat) (s:Rd) (last:Int) (acc l:aK) (s':Rd),nk k s last acc=some (l,s')→s'.2=0→
  s.2=0∧∃m,l=acc++m∧m.length=k∧s.1=(m.flatMap fun q=>kR q.1 q.2)++s'.1∧(∀q∈m,Aw q.1 q.2∧last<q.1)∧aN jw m
 |0,s,last,acc,l,s',h,h0=>by
  rw[nU]at h
  cases h
  exact⟨h0,[],by simp,rfl,rfl,fun e he=>(by cases he),List.Pairwise.nil⟩
 |k+1,s,last,acc,l,s',h,h0=>by
  cases hr:h_ s with
  |none=>rw[wo hr]at h;cases h
  |some q=>
   rw[nV hr]at h
   by_cases hl:q.1.1≤last
   ·rw[if_pos hl]at h;cases h
   ·rw[if_neg hl]at h
    obtain⟨e1,m,e2,e3,e4,e5,e6⟩:=Ay k _ _ _ _ _ h h0
    obtain⟨b1,b2,b3⟩:=OG (q:=q.1) (s':=q.2) hr e1
    refine⟨b1,q.1::m,by rw[e2,List.append_assoc];rfl,by rw[List.length_cons,e3],?_,fun y hy=> ?_,?_⟩
    ·rw[List.flatMap_cons,List.append_assoc,←e4]
     exact b2
    ·rcases List.mem_cons.1 hy with rfl|hy
     ·exact⟨b3,by omega⟩
     ·have:=e5 y hy
      exact⟨this.1,by omega⟩
    ·exact List.Pairwise.cons (fun y hy=>decide_eq_true (e5 y hy).2) e6
theorem yM:∀(m:aK) (r:List UInt8) (last:Int) (acc:aK),(∀q∈m,Aw q.1 q.2∧last<q.1)→aN jw m→
  nk m.length ((m.flatMap fun q=>kR q.1 q.2)++r,0) last acc=some (acc++m,(r,0))
 |[],r,last,acc,_,_=>by rw[List.append_nil];exact nU _ _ _
 |q::m,r,last,acc,h,hs=>by
  obtain⟨h1,h2⟩:=h q (by simp)
  have hs':=List.pairwise_cons.1 hs
  rw[List.length_cons,List.flatMap_cons,List.append_assoc,nV (KH h1 _),if_neg (show ¬q.1≤last by omega)]
  dsimp only
  rw[yM m r q.1 _ (fun y hy=>⟨(h y (by simp[hy])).1,of_decide_eq_true (hs'.1 y hy)⟩) hs'.2,List.append_assoc]
  rfl
structure wz (T:aK):Prop where
 each:∀q∈T,Aw q.1 q.2
 sorted:aN jw T
 few:T.length≤65535
theorem KI {b:List UInt8} {T:aK} (h:parseM b=some T):b=gD T∧wz T:=by
 unfold parseM at h
 split at h
 ·cases h
 ·rename_i q hr
  split at h
  ·rename_i he
   cases h
   obtain⟨z1,z2⟩:=Ec he
   obtain⟨e1,m,e2,e3,e4,e5,e6⟩:=Ay _ _ _ _ q.1 q.2 hr z1
   obtain⟨-,f2,f3,f4⟩:=jS e1
   have hp:(256:Int)^2=65536:=rfl
   rw[List.nil_append]at e2
   rw[z2,List.append_nil]at e4
   rw[e2]
   refine⟨?_,fun y hy=>(e5 y hy).1,e6,by omega⟩
   unfold gD
   rw[e3,show((bg (b,0) 2).1.toNat:Int)=(bg (b,0) 2).1 by omega,←e4]
   exact f2
  ·cases h
theorem yN {T:aK} (h:wz T):parseM (gD T)=some T:=by
 have hp:(256:Int)^2=65536:=rfl
 have hf:=h.few
 unfold parseM gD
 rw[fJ 2 _ _ (by omega) (by omega)]
 dsimp only
 have:=yM T [] (-1) [] (fun q hq=>⟨h.each q hq,by have:=(h.each q hq).ok.id.1;unfold vD at this;dsimp only at this;omega⟩) h.sorted
 rw[List.append_nil,List.nil_append]at this
 rw[show((T.length:Int)).toNat=T.length by omega,this]
 rfl
abbrev o_:=List (Int×Nat)
def iN (C:o_) (j:Int):Nat:=(ah j C).getD 0
def sm (C:o_):Nat:=(C.map (·.2)).sum
def zc (T:aK) (C:o_):Nat:=T.countP fun q=>decide (q.2.kind=2)&&decide (iN C q.1=0)
def zG (T:aK) (C:o_):Nat:=sm C+65535*zc T C
def lW (C:o_) (k:Int):o_:=cO jw k (iN C k+1) C
theorem jQ (C:o_) (k j:Int):iN (lW C k) j=iN C j+if j=k then 1 else 0:=by
 unfold lW
 unfold iN
 rw[dW]
 by_cases h:j=k
 ·subst h;rw[if_pos rfl,if_pos rfl];rfl
 ·rw[if_neg h,if_neg h];rfl
theorem nW (x:Int×Nat) (l:o_):sm (x::l)=x.2+sm l:=by unfold sm;rw[List.map_cons,List.sum_cons]
theorem Iu (x:Int×Nat):∀l:o_,sm (iL jw x l)=sm l+x.2
 |[]=>by unfold iL;rw[nW];omega
 |y::r=>by
  unfold iL
  split
  ·rw[nW,nW];omega
  ·rw[nW,nW,Iu x r];omega
theorem BK (k:Int):∀{C:o_},aN jw C→sm (bI k C)+iN C k=sm C
 |[],_=>rfl
 |y::r,h=>by
  obtain⟨h1,h2⟩:=List.pairwise_cons.1 h
  by_cases hk:y.1=k
  ·have hn:ah k r=none:=ji.2 fun p hp e=>by
    have:=h1 p hp
    rw[hk,e]at this
    simp at this
   have e1:bI k (y::r)=bI k r:=by unfold bI;rw[List.filter_cons,if_neg (by simp[hk])]
   have e2:iN (y::r) k=y.2:=by unfold iN;rw[fB,if_pos hk];rfl
   rw[e1,e2,oz hn,nW]
   omega
  ·have e1:bI k (y::r)=y::bI k r:=by unfold bI;rw[List.filter_cons,if_pos (by simp[hk])]
   have e2:iN (y::r) k=iN r k:=by unfold iN;rw[fB,if_neg hk]
   have:=BK k h2
   rw[e1,e2,nW,nW]
   omega
theorem Gf {C:o_} (h:aN jw C) (k:Int):sm (lW C k)=sm C+1:=by
 have:=BK k h
 unfold lW cO
 rw[Iu]
 dsimp only
 omega
theorem Q8 {C:o_} (h:aN jw C) (j:Int):iN C j≤sm C:=by have:=BK j h;omega
theorem vF (T:aK) (C:o_) (k:Int):zc T (lW C k)≤zc T C:=by
 unfold zc
 apply List.countP_mono_left
 intro q _ h
 simp only[Bool.and_eq_true,decide_eq_true_eq,jQ]at h⊢
 exact⟨h.1,by omega⟩
theorem KJ {T:aK} {C:o_} {k:Int} {x:eB} (hk:(k,x)∈T) (hx:x.kind=2) (h0:iN C k=0):zc T (lW C k)+1≤zc T C:=by
 obtain⟨l1,l2,rfl⟩:=List.append_of_mem hk
 have h1:=vF l1 C k
 have h2:=vF l2 C k
 unfold zc at h1 h2⊢
 rw[List.countP_append,List.countP_append,List.countP_cons,List.countP_cons,if_neg (by simp[jQ]),if_pos (by simp[hx,h0])]
 omega
theorem Q9 {T:aK} {C:o_} (h:aN jw C) (k:Int):zG T (lW C k)≤zG T C+1:=by
 have h1:=Gf h k
 have h2:=vF T C k
 unfold zG
 omega
theorem Q_ {T:aK} {C:o_} (h:aN jw C) {k:Int} {x:eB} (hk:(k,x)∈T) (hx:x.kind=2) (h0:iN C k=0):zG T (lW C k)+65535≤zG T C+1:=by
 have h1:=Gf h k
 have h2:=KJ hk hx h0
 unfold zG
 omega
theorem yO {C:o_} (h:aN jw C) (k:Int):aN jw (lW C k):=h.cO dQ k _
def oo (T:aK):Nat→Int→List Int
 |0,_=>[]
 |n+1,id=>(aM T id).flatMap fun e=>e.2::(if bB T e.2=2 then oo T n e.2 else[])
def Ee (T:aK):Nat→Int→Prop
 |0,id=>aM T id=[]
 |n+1,id=>∀e∈aM T id,(ah e.2 T).isSome=true∧e.2≠0∧(bB T e.2=2→Ee T n e.2)
def gH (T:aK) (C:o_) (n:Nat) (id:Int):Prop:=Ee T n id∧∀k∈oo T n id,bB T k=2→iN C k+(oo T n id).count k≤1
def lu (T:aK) (n:Nat) (e:Nm×Int):List Int:=e.2::(if bB T e.2=2 then oo T n e.2 else[])
def XV (T:aK) (n:Nat) (e:Nm×Int):Prop:=(ah e.2 T).isSome=true∧e.2≠0∧(bB T e.2=2→Ee T n e.2)
theorem lC (T:aK) (n:Nat) (id:Int):oo T (n+1) id=(aM T id).flatMap (lu T n):=rfl
structure j5 (T:aK) (n:Nat) (C:o_) (D:List (Nm×Int)) (C':o_):Prop where
 sorted:aN jw C'
 cnt:∀j,iN C' j=iN C j+(D.flatMap (lu T n)).count j
 ok:∀e∈D,XV T n e
 one:∀k∈D.flatMap (lu T n),bB T k=2→iN C' k≤1
theorem j5.nil {T:aK} {n:Nat} {C:o_} (h:aN jw C):j5 T n C [] C:=⟨h,fun j=>rfl,fun e he=>(by cases he),fun k hk=>(by cases hk)⟩
theorem j5.perm {T:aK} {n:Nat} {C C':o_} {D D':List (Nm×Int)} (h:j5 T n C D C') (hp:D'.Perm D):j5 T n C D' C':=
 ⟨h.sorted,fun j=>by rw[h.cnt j,(hp.flatMap_right (lu T n)).count_eq],fun e he=>h.ok e (hp.mem_iff.1 he),fun k hk=>h.one k ((hp.flatMap_right (lu T n)).mem_iff.1 hk)⟩
theorem pq {T:aK} {n:Nat} (D:List (Nm×Int)) (e:Nm×Int):(D++[e]).flatMap (lu T n)=D.flatMap (lu T n)++lu T n e:=by simp
theorem j5.file {T:aK} {n:Nat} {C C':o_} {D:List (Nm×Int)} (h:j5 T n C D C') {e:Nm×Int} (h1:(ah e.2 T).isSome=true) (h2:e.2≠0) (hk:bB T e.2≠2):j5 T n C (D++[e]) (lW C' e.2):=by
 have he:lu T n e=[e.2]:=by unfold lu;rw[if_neg hk]
 refine⟨yO h.sorted _,fun j=> ?_,fun y hy=> ?_,fun k hkm hk2=> ?_⟩
 ·rw[jQ,h.cnt j,pq,he,List.count_append,List.count_singleton]
  by_cases hj:j=e.2
  ·subst hj;simp;omega
  ·simp[hj,Ne.symm hj]
 ·rcases List.mem_append.1 hy with hy|hy
  ·exact h.ok y hy
  ·simp only[List.mem_singleton]at hy
   subst hy
   exact⟨h1,h2,fun hh=>absurd hh hk⟩
 ·rw[pq,he]at hkm
  have hne:k≠e.2:=fun hh=>hk (hh▸hk2)
  rw[jQ,if_neg hne,Nat.add_zero]
  rcases List.mem_append.1 hkm with hm|hm
  ·exact h.one k hm hk2
  ·simp only[List.mem_singleton]at hm
   exact absurd hm hne
theorem j5.dir {T:aK} {n:Nat} {C C' C2:o_} {D:List (Nm×Int)} (h:j5 T n C D C') {e:Nm×Int} (h1:(ah e.2 T).isSome=true) (h2:e.2≠0) (hk:bB T e.2=2) (hz:iN C' e.2=0)
  (hs:aN jw C2) (hc:∀j,iN C2 j=iN (lW C' e.2) j+(oo T n e.2).count j) (hL:gH T (lW C' e.2) n e.2):j5 T n C (D++[e]) C2:=by
 have he:lu T n e=e.2::oo T n e.2:=by unfold lu;rw[if_pos hk]
 have hce:∀j,iN C2 j=iN C' j+(lu T n e).count j:=fun j=>by
  rw[hc j,jQ,he,List.count_cons]
  by_cases hj:j=e.2
  ·subst hj;simp;omega
  ·simp[hj,Ne.symm hj]
 have hin:∀k∈lu T n e,bB T k=2→iN C2 k≤1:=fun k hkm hk2=>by
  rw[hc k]
  rw[he]at hkm
  by_cases hv:k∈oo T n e.2
  ·exact hL.2 k hv hk2
  ·rcases List.mem_cons.1 hkm with hm|hm
   ·subst hm
    rw[List.count_eq_zero_of_not_mem hv,jQ,if_pos rfl,hz]
    exact Nat.le_refl _
   ·exact absurd hm hv
 refine⟨hs,fun j=> ?_,fun y hy=> ?_,fun k hkm hk2=> ?_⟩
 ·rw[pq,List.count_append,hce j,h.cnt j,Nat.add_assoc]
 ·rcases List.mem_append.1 hy with hy|hy
  ·exact h.ok y hy
  ·simp only[List.mem_singleton]at hy
   subst hy
   exact⟨h1,h2,fun _=>hL.1⟩
 ·by_cases hm:k∈lu T n e
  ·exact hin k hm hk2
  ·rw[pq]at hkm
   rcases List.mem_append.1 hkm with hm'|hm'
   ·rw[hce k,List.count_eq_zero_of_not_mem hm,Nat.add_zero]
    exact h.one k hm' hk2
   ·exact absurd hm' hm
theorem j5.all {T:aK} {n:Nat} {C C':o_} {id:Int} (h:j5 T n C (aM T id) C'):gH T C (n+1) id∧∀j,iN C' j=iN C j+(oo T (n+1) id).count j:=by
 refine⟨⟨fun e he=>h.ok e he,fun k hk hk2=> ?_⟩,fun j=>h.cnt j⟩
 have:=h.one k hk hk2
 rw[h.cnt k]at this
 exact this
theorem Iw {α:Type} (f:α→Nat) (p:α→Bool):∀l:List α,((l.filter p).map f).sum≤(l.map f).sum
 |[]=>Nat.le_refl _
 |x::r=>by
  have:=Iw f p r
  rw[List.filter_cons]
  split
  ·rw[List.map_cons,List.map_cons,List.sum_cons,List.sum_cons];omega
  ·rw[List.map_cons,List.sum_cons];omega
theorem yP {T:aK} {n:Nat} {l:List (Nm×Int)} {left:Nm→Bool} {e:Nm×Int} (hp:l.Pairwise fun e e'=>e.1≠e'.1) (he:e∈l) (hl:left e.1=true) (j:Int):
  ((doneN left l).flatMap (lu T n)).count j+(lu T n e).count j≤(l.flatMap (lu T n)).count j:=by
 have h1:=sD (k:=e.1) (j:=e.2) hp he hl
 have h2:=(h1.flatMap_right (lu T n)).count_eq j
 rw[pq,List.count_append]at h2
 rw[←h2,List.count_flatMap,List.count_flatMap]
 exact Iw _ _ _
theorem Ef {T:aK} {C:o_} {n:Nat} {id:Int} {e:Nm×Int} (he:e∈aM T id) (h:¬((ah e.2 T).isSome=true∧e.2≠0)):¬gH T C (n+1) id:=fun hL=>h ⟨(hL.1 e he).1,(hL.1 e he).2.1⟩
theorem vG {T:aK} {C:o_} {id:Int} {e:Nm×Int} (he:e∈aM T id):¬gH T C 0 id:=fun hL=>by
 have h1:aM T id=[]:=hL.1
 rw[h1]at he
 cases he
theorem OH {T:aK} {C C':o_} {n:Nat} {id:Int} {left:Nm→Bool} {e:Nm×Int} (hp:(aM T id).Pairwise fun e e'=>e.1≠e'.1) (he:e∈aM T id) (hl:left e.1=true) (h:j5 T n C (doneN left (aM T id)) C') (hk:bB T e.2=2) (h1:1<iN (lW C' e.2) e.2):¬gH T C (n+1) id:=fun hL=>by
 have h2:=yP (T:=T) (n:=n) hp he hl e.2
 have h3:=hL.2 e.2 (by rw[lC];exact List.mem_flatMap.2 ⟨e,he,by unfold lu;simp⟩) hk
 rw[lC]at h3
 rw[jQ,if_pos rfl,h.cnt]at h1
 have h4:1≤(lu T n e).count e.2:=by unfold lu;rw[List.count_cons];simp
 omega
theorem OI {T:aK} {C C':o_} {n:Nat} {id:Int} {left:Nm→Bool} {e:Nm×Int} (hp:(aM T id).Pairwise fun e e'=>e.1≠e'.1) (he:e∈aM T id) (hl:left e.1=true) (h:j5 T n C (doneN left (aM T id)) C') (hk:bB T e.2=2) (h1:¬gH T (lW C' e.2) n e.2):¬gH T C (n+1) id:=fun hL=>by
 refine h1 ⟨(hL.1 e he).2.2 hk,fun k hkv hk2=> ?_⟩
 have h2:=yP (T:=T) (n:=n) hp he hl k
 have he':lu T n e=e.2::oo T n e.2:=by unfold lu;rw[if_pos hk]
 have h3:=hL.2 k (by rw[lC];exact List.mem_flatMap.2 ⟨e,he,by rw[he'];simp[hkv]⟩) hk2
 rw[lC]at h3
 rw[he',List.count_cons]at h2
 rw[jQ,h.cnt]
 by_cases hj:k=e.2
 ·subst hj
  simp only[beq_self_eq_true,if_true]at h2⊢
  omega
 ·rw[if_neg hj]
  omega
def lD (T:aK):Prop:=bB T 0=2∧T.length≤64∧gH T [(0,1)] 8 0∧∀q∈T,(((if q.1=0 then 1 else 0)+(oo T 8 0).count q.1:Nat):Int)=q.2.links∧¬(q.2.links=0∧q.2.closed=true)
theorem Eh (j:Int):iN [(0,1)] j=if j=0 then 1 else 0:=by
 unfold iN
 rw[fB]
 by_cases h:(0:Int)=j
 ·rw[if_pos h,if_pos h.symm];rfl
 ·rw[if_neg h,if_neg (Ne.symm h)];rfl
theorem fC.SG {T:aK} (hT:dI T):wz T:=by
 refine⟨fun q hq=> ?_,hT.sorted,by have:=hT.len;omega⟩
 have hx:=aY dQ hT.sorted hq
 have O:=hT.each _ _ hx
 have hi:=hT.ids _ _ hx
 have hl:=O.links
 have ht:=O.au
 have hs:=O.size
 refine⟨⟨hi,?_,?_,?_,?_⟩,?_,O.file,O.sorted,O.good,fun e he=> ?_,by have:=hT.few hx;omega⟩
 ·show 0≤q.2.kind∧q.2.kind≤255
  rcases O.kind with h|h<;>omega
 ·show 0≤q.2.links∧q.2.links≤65535
  omega
 ·show 0≤(q.2.b.length:Int)∧(q.2.b.length:Int)≤65535
  omega
 ·show 0≤q.2.au∧q.2.au≤18446744073709551615
  omega
 ·rcases O.kind with h|h
  ·exact .inl ⟨h,by show(q.2.b.length:Int)≤4096;omega,ht.2⟩
  ·have hd:=O.dir h
   refine .inr ⟨h,?_,hd.2.2.2,hd.2.1⟩
   show(q.2.b.length:Int)=0
   rw[hd.2.2.1];rfl
 ·obtain⟨y,hy⟩:=Option.isSome_iff_exists.1 (hT.leads _ _ hx e he).1
  exact hT.ids _ _ hy
theorem eP.vis {T:aK} {dep:Int→Nat} (h:eP T dep) (hT:dI T):∀(n:Nat) (d:Int),8≤n+dep d→Ee T n d
 |0,d,hd=>by
  show aM T d=[]
  cases hn:aM T d with
  |nil=>rfl
  |cons e r=>
   obtain⟨x,hx,he⟩:=mV (T:=T) (id:=d) (e:=e) (by rw[hn];simp)
   have:=(h.up d x hx e he).1
   omega
 |n+1,d,hd=>fun e he=>by
  obtain⟨x,hx,he⟩:=mV he
  have hl:=hT.leads d x hx e he
  exact⟨hl.1,hl.2,fun hk=>h.vis hT n e.2 (by have:=(h.up d x hx e he).2 hk;omega)⟩
theorem Ei {T:aK}:∀(n:Nat) (a:Int),Ee T n a→(0:Int)∉oo T n a
 |0,a,_=>by unfold oo;simp
 |n+1,a,h=>by
  rw[lC,List.mem_flatMap]
  rintro ⟨e,he,hm⟩
  obtain⟨h1,h2,h3⟩:=h e he
  unfold lu at hm
  rcases List.mem_cons.1 hm with hm|hm
  ·exact h2 hm.symm
  ·split at hm
   ·rename_i hk
    exact Ei n e.2 (h3 hk) hm
   ·cases hm
theorem Gg {T:aK} (hT:dI T) {a:Int} (h:bB T a≠2):aM T a=[]:=by
 unfold aM
 unfold bB at h
 cases hx:ah a T with
 |none=>rfl
 |some x=>
  rw[hx]at h
  exact(hT.each a x hx).file ((hT.each a x hx).kind.resolve_right h)
theorem Az {T:aK} (hT:dI T) (k:Int):∀(n:Nat) (a:Int) (p:List Nm),(oo T n a).count k+(if a=k then 1 else 0)=(kH T k n a p).length
 |0,a,p=>by
  unfold oo kH
  split<;>simp
 |n+1,a,p=>by
  rw[lC]
  unfold kH
  rw[List.length_append,List.count_flatMap,List.length_flatMap]
  have h1:(if a=k then[p]else[]).length=if a=k then 1 else 0:=by split<;>rfl
  rw[h1,Nat.add_comm]
  congr 1
  congr 1
  apply List.map_congr_left
  intro e he
  rw[←Az hT k n e.2 (p++[e.1])]
  show(lu T n e).count k=_
  unfold lu
  rw[List.count_cons]
  have h2:(if bB T e.2=2 then oo T n e.2 else[])=oo T n e.2:=by
   split
   ·rfl
   ·rename_i hk
    cases n with
    |zero=>rfl
    |succ n=>
     rw[lC,Gg hT hk]
     rfl
  rw[h2]
  by_cases h3:e.2=k<;>simp[h3]
theorem Gh {T:aK} (hO:fC T):lD T:=by
 have hO':=hO
 obtain⟨hT,dep,hd⟩:=hO
 have hv:=hd.vis hT 8 0 (by omega)
 have h0:=Ei 8 0 hv
 have hcnt:∀k,k≠0→(oo T 8 0).count k=fK T k:=fun k hk=>by
  have:=Az hT k 8 0 []
  rw[if_neg (Ne.symm hk),Nat.add_zero,DX hO' hk]at this
  exact this
 refine⟨hT.root,hT.len,⟨hv,fun k hk hk2=> ?_⟩,fun q hq=> ?_⟩
 ·have hk0:k≠0:=fun e=>h0 (e▸hk)
  obtain⟨x,hx,hxk⟩:=gG hk2
  have h1:=hT.counts k x hx hk0
  rw[((hT.each k x hx).dir hxk).1]at h1
  rw[Eh,if_neg hk0,hcnt k hk0]
  omega
 ·have hx:=aY dQ hT.sorted hq
  have O:=hT.each _ _ hx
  refine⟨?_,fun hh=>by have:=O.gone hh.1;rw[hh.2]at this;cases this⟩
  by_cases hk0:q.1=0
  ·rw[if_pos hk0,hk0,List.count_eq_zero_of_not_mem h0]
   have hk2:q.2.kind=2:=by
    have:=hT.root
    rw[←hk0,bR hx]at this
    exact this
   rw[(O.dir hk2).1]
   rfl
  ·rw[if_neg hk0,hcnt _ hk0,Nat.zero_add]
   exact hT.counts _ _ hx hk0
theorem wz.get {T:aK} (h:wz T) {k:Int} {x:eB} (hx:ah k T=some x):Aw k x:=h.each _ (dB hx)
theorem Gi {S:aK} {id j:Int} (h:j≠id):jy (fO S id).2 j=jy S j:=by
 unfold fO
 dsimp only
 split
 ·have e:ah j (uG S id)=(ah j S).map fun x=>{x with names:=x.names.filter fun e=> !decide (e.2=id)}:=by
   unfold uG
   rw[eZ,if_neg h]
   exact xq (fun x:eB=>{x with names:=x.names.filter fun e=> !decide (e.2=id)}) j S
  unfold jy
  rw[e]
  cases ah j S with
  |none=>rfl
  |some x=>rfl
 ·rfl
theorem KL (S:aK) (id:Int):jy (fO S id).2 id≠0:=by
 unfold fO
 dsimp only
 split
 ·have e:ah id (uG S id)=none:=by
   unfold uG
   rw[eZ,if_pos rfl]
  unfold jy
  rw[e]
  decide
 ·assumption
theorem yQ:∀(L:List Int) (S:aK) (j:Int),(j∈L∨jy S j≠0)→jy (L.foldl (fun S id=>(fO S id).2) S) j≠0
 |[],S,j,h=>by
  rcases h with h|h
  ·cases h
  ·exact h
 |a::r,S,j,h=>by
  rw[List.foldl_cons]
  refine yQ r _ j ?_
  by_cases hja:j=a
  ·subst hja
   exact .inr (KL S j)
  ·rcases h with h|h
   ·rcases List.mem_cons.1 h with h|h
    ·exact absurd h hja
    ·exact .inl h
   ·exact .inr (by rw[Gi hja];exact h)
theorem Ej (T:aK) (j:Int):jy (bS T) j≠0:=by
 unfold bS
 refine yQ _ T j ?_
 by_cases h:j∈jW T
 ·exact .inl h
 ·right
  have hn:ah j T=none:=ji.2 fun q hq e=>h (by unfold jW;exact List.mem_map.2 ⟨q,hq,e⟩)
  unfold jy
  rw[hn]
  decide
theorem yR:∀(L:List Int) (T:aK),(∀id,jy T id≠0)→L.foldl (fun S id=>(fO S id).2) T=T
 |[],_,_=>rfl
 |a::r,T,h=>by
  rw[List.foldl_cons]
  have e:(fO T a).2=T:=by unfold fO;exact if_neg (h a)
  rw[e]
  exact yR r T h
theorem qc (T:aK):bS (bS T)=bS T:=yR _ _ (Ej T)
structure jE (S:nQ):Prop where
 next:1≤S.next
 last:(S.next=1→S.last=[])∧(S.next≠1→S.last.length=32)
 each:∀x∈S.l,(1≤x.id∧x.id<S.next)∧x.hash.length=32∧bS x.t=x.t
 up:S.l.Pairwise fun x y=>x.id<y.id
theorem jE.new:jE Hg:=⟨by decide,⟨fun _=>rfl,fun h=>absurd rfl h⟩,fun x hx=>(by cases hx),List.Pairwise.nil⟩
theorem jE.take {S:nQ} (h:jE S) (T:aK):jE (iw S T).2:=by
 unfold iw
 have hn:=h.next
 split
 ·exact h
 ·refine⟨by show 1≤S.next+1;omega,⟨fun e=>by have e1:S.next+1=1:=e;omega,fun _=>xZ _⟩,fun x hx=> ?_,?_⟩
  ·rcases List.mem_append.1 hx with hx|hx
   ·have:=h.each x hx
    exact⟨⟨this.1.1,by have:=this.1.2;show x.id<S.next+1;omega⟩,this.2⟩
   ·rw[List.mem_singleton.1 hx]
    exact⟨⟨hn,by show S.next<S.next+1;omega⟩,xZ _,qc T⟩
  ·show(S.l++[_]).Pairwise _
   rw[List.pairwise_append]
   refine⟨h.up,List.pairwise_singleton _ _,fun x hx y hy=> ?_⟩
   rw[List.mem_singleton.1 hy]
   exact(h.each x hx).1.2
theorem jE.forget {S:nQ} (h:jE S) (id now:Int):jE (f_ S id now).2:=by
 rcases sw S id now with e|⟨k,e⟩
 ·rw[e];exact h
 ·rw[e]
  have hsub:∀x∈(J9 S k).l,x∈S.l:=fun x hx=>by
   rcases List.mem_append.1 (show x∈S.l.take k++S.l.drop (k+1)from hx)with hx|hx
   ·exact List.mem_of_mem_take hx
   ·exact List.mem_of_mem_drop hx
  refine⟨h.next,h.last,fun x hx=>h.each x (hsub x hx),?_⟩
  show(S.l.take k++S.l.drop (k+1)).Pairwise _
  have hs:(S.l.take k++S.l.drop (k+1)).Sublist S.l:=by
   have h1:(S.l.take k++S.l.drop (k+1)).Sublist (S.l.take k++S.l.drop k):=(List.Sublist.refl _).append (by
    rw[←List.drop_drop]
    exact List.drop_sublist _ _)
   rwa [List.take_append_drop]at h1
  exact h.up.sublist hs
theorem jE.do_ {M:eF} (h:jE M.s) (x:kQ):jE (bM M x).2.s:=by
 have hc:=Ie M x
 generalize (bM M x).2=M' at hc⊢
 cases hc with
 |take=>exact h.take _
 |forget=>exact h.forget _ _
 |tick h16=>exact h
 |same=>exact h
 |make ls kind=>exact h
 |create ls h1 h2=>exact h
 |opens T ls y h1 h2 h3 h4 h5 h6=>exact h
 |write f h1=>exact h
 |closes f h1 h2 h3=>exact h
 |shut f h1 h2=>exact h
 |link p q=>exact h
 |unlink ls h1 h2=>exact h
 |rmdir ls=>exact h
 |rename p q=>exact h
 |keep ls h1=>exact h
end Go.Proofs.YtmabllemjkcobaaGreatDoor
