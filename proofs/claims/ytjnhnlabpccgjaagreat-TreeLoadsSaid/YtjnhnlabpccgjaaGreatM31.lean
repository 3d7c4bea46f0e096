/- What Load of package tree reads, plainly. A block that is laid anew as a whole; a struct result that lies in a variable. node.Right of what was read; node.Decode. What links of package tree visits, plainly; which loaded tree is right. -/
import Derived.Test.YtjnhnlabpccgjaaGreatM30
import Derived.Test.YtjnhnlabpccgjaaGreatM03
import Derived.Laws.Tables
import Derived.Laws.Rows
import Derived.Test.YtjnhnlabpccgjaaGreatM14
namespace Go.Proofs.YtjnhnlabpccgjaaGreat
open Go.ChangeShapes Go.WideShapes Go.ChangeAt Go.RowKit
set_option linter.unusedVariables false
set_option linter.unusedSimpArgs false
structure IJ where
 id:Int
 kind:Int
 links:Int
 size:Int
 aO:Int
 closed:Bool
def Nu:IJ:=⟨0,0,0,0,0,false⟩
def EP (n:IJ):List UInt8:=fJ n.id 2++(fJ n.kind 1++(fJ n.links 2++(fJ n.size 2++(fJ n.aO 8++mZ n.closed))))
def iP (n:IJ):Prop:=(n.kind=1∧n.size≤4096∧n.aO≤1099511627776)∨(n.kind=2∧n.size=0∧n.aO=0∧n.closed=true)
instance (n:IJ):Decidable (iP n):=by unfold iP;infer_instance
def jo (b:List UInt8):IJ×Rd:=
 let a:=bO (b,0) 2
 let k:=bO a.2 1
 let l:=bO k.2 2
 let s:=bO l.2 2
 let t:=bO s.2 8
 let c:=qh t.2
 (⟨a.1,k.1,l.1,s.1,t.1,c.1⟩,c.2)
def bY (b:List UInt8):IJ×Int:=if oH (jo b).2=0∧iP (jo b).1 then((jo b).1,0)else(Nu,12)
theorem ER {s:Rd} (h:oH s=0):s.2=0∧s.1=[]:=by
 unfold oH at h
 by_cases h1:s.2=0
 ·by_cases h2:0<s.1.length
  ·rw[if_pos ⟨h1,h2⟩]at h;cases h
  ·exact⟨h1,List.eq_nil_of_length_eq_zero (by omega)⟩
 ·rw[if_neg (fun hh=>h1 hh.1)]at h;exact absurd h h1
structure Km (n:IJ):Prop where
 id:0≤n.id∧n.id≤65535
 kind:0≤n.kind∧n.kind≤255
 links:0≤n.links∧n.links≤65535
 size:0≤n.size∧n.size≤65535
 aO:0≤n.aO∧n.aO≤18446744073709551615
theorem pR (b:List UInt8):Km (jo b).1:=by
 have e2:(256:Int)^2=65536:=rfl
 have e1:(256:Int)^1=256:=rfl
 have e8:(256:Int)^8=18446744073709551616:=rfl
 unfold jo
 dsimp only
 refine⟨?_,?_,?_,?_,?_⟩<;>dsimp only
 ·have:=fI (b,0) 2;omega
 ·have:=fI (bO (b,0) 2).2 1;omega
 ·have:=fI (bO (bO (b,0) 2).2 1).2 2;omega
 ·have:=fI (bO (bO (bO (b,0) 2).2 1).2 2).2 2;omega
 ·have:=fI (bO (bO (bO (bO (b,0) 2).2 1).2 2).2 2).2 8;omega
theorem Nv {b:List UInt8} (h:oH (jo b).2=0):b=EP (jo b).1:=by
 obtain⟨h1,h2⟩:=ER h
 unfold jo at h1 h2⊢
 dsimp only at h1 h2⊢
 obtain⟨f1,f2⟩:=Ns h1
 obtain⟨t1,t2,-⟩:=jH f1
 obtain⟨s1,s2,-⟩:=jH t1
 obtain⟨l1,l2,-⟩:=jH s1
 obtain⟨k1,k2,-⟩:=jH l1
 obtain⟨a1,a2,-⟩:=jH k1
 unfold EP
 dsimp only at a2⊢
 rw[h2,List.append_nil]at f2
 rw[←f2,←t2,←s2,←l2,←k2]
 exact a2
theorem Kn {n:IJ} (h:Km n):jo (EP n)=(n,([],0)):=by
 have e2:(256:Int)^2=65536:=rfl
 have e1:(256:Int)^1=256:=rfl
 have e8:(256:Int)^8=18446744073709551616:=rfl
 have h1:=h.id;have h2:=h.kind;have h3:=h.links;have h4:=h.size;have h5:=h.aO
 unfold jo EP
 dsimp only
 rw[iZ 2 n.id _ (by omega) (by omega)]
 dsimp only
 rw[iZ 1 n.kind _ (by omega) (by omega)]
 dsimp only
 rw[iZ 2 n.links _ (by omega) (by omega)]
 dsimp only
 rw[iZ 2 n.size _ (by omega) (by omega)]
 dsimp only
 rw[iZ 8 n.aO _ (by omega) (by omega)]
 dsimp only
 have:=Kl n.closed []
 rw[List.append_nil]at this
 rw[this]
theorem zF {b:List UInt8} (h:(bY b).2=0):b=EP (bY b).1∧iP (bY b).1∧Km (bY b).1:=by
 unfold bY at h⊢
 by_cases h1:oH (jo b).2=0∧iP (jo b).1
 ·rw[if_pos h1]
  exact⟨Nv h1.1,h1.2,pR b⟩
 ·rw[if_neg h1]at h;cases h
theorem ES {n:IJ} (h:Km n) (hr:iP n):bY (EP n)=(n,0):=by
 unfold bY
 rw[Kn h,if_pos ⟨rfl,hr⟩]
def gY:Nat→Rd→Nm→List (Nm×Int)→Option (List (Nm×Int)×Rd)
 |0,s,_,acc=>some (acc,s)
 |k+1,s,last,acc=>
  let a:=aQ s
  let b:=bO a.2 2
  if b.2.2≠0∨bV a.1=false∨bytesBefore last a.1=false then none else gY k b.2 a.1 (acc++[(a.1,b.1)])
def wh (k:Int) (x:bA):IJ:=⟨k,x.kind,x.links,x.b.length,x.aO,x.closed⟩
def uY (n:IJ) (b:List UInt8) (names:List (Nm×Int)):bA:=⟨n.kind,n.links,n.aO,n.closed,b,names⟩
def gZ (s:Rd):Option ((Int×bA)×Rd):=
 let a:=aQ s
 let n:=bY a.1
 let b:=aQ a.2
 let c:=bO b.2 2
 if n.2≠0∨(b.1.length:Int)≠n.1.size then none else
 if n.1.kind=1 then(if c.1=0 then some ((n.1.id,uY n.1 b.1 []),c.2)else none)else
 match gY c.1.toNat c.2 [] []with
 |none=>none
 |some q=>some ((n.1.id,uY n.1 b.1 q.1),q.2)
def ni:Nat→Rd→Int→aF→Option (aF×Rd)
 |0,s,_,acc=>some (acc,s)
 |k+1,s,last,acc=>(gZ s).elim none fun q=>if q.1.1≤last then none else ni k q.2 q.1.1 (acc++[q.1])
theorem nD (s:Rd) (last:Int) (acc:aF):ni 0 s last acc=some (acc,s):=rfl
theorem wW {k:Nat} {s:Rd} {last:Int} {acc:aF} (h:gZ s=none):ni (k+1) s last acc=none:=by
 show(gZ s).elim none _=none
 rw[h];rfl
theorem nE {k:Nat} {s:Rd} {last:Int} {acc:aF} {q:(Int×bA)×Rd} (h:gZ s=some q):ni (k+1) s last acc=if q.1.1≤last then none else ni k q.2 q.1.1 (acc++[q.1]):=by
 show(gZ s).elim none _=_
 rw[h];rfl
def parseM (b:List UInt8):Option aF:=
 match ni (bO (b,0) 2).1.toNat (bO (b,0) 2).2 (-1) []with
 |none=>none
 |some q=>if oH q.2=0 then some q.1 else none
theorem Nw {n:Nm} (h:bV n=true):bytesBefore [] n=true:=by
 cases n with
 |nil=>simp[bV]at h
 |cons a r=>rfl
structure sH (k:Int) (x:bA):Prop where
 ok:Km (wh k x)
 right:iP (wh k x)
 file:x.kind=1→x.names=[]
 sorted:aI bytesBefore x.names
 good:∀e∈x.names,bV e.1=true
 ids:∀e∈x.names,0≤e.2∧e.2≤65535
 few:x.names.length≤65535
theorem wm (k:Int) (x:bA):nL k x=EP (wh k x):=by
 unfold nL EP wh
 simp only[List.append_assoc]
theorem zG:∀(k:Nat) (s:Rd) (last:Nm) (acc l:List (Nm×Int)) (s':Rd),gY k s last acc=some (l,s')→s'.2=0→
  s.2=0∧∃m,l=acc++m∧m.length=k∧s.1=m.flatMap EJ++s'.1∧(∀e∈m,bV e.1=true∧(0≤e.2∧e.2≤65535)∧bytesBefore last e.1=true)∧aI bytesBefore m
 |0,s,last,acc,l,s',h,h0=>by
  simp only[gY,Option.some.injEq,Prod.mk.injEq]at h
  obtain⟨rfl,rfl⟩:=h
  exact⟨h0,[],by simp,rfl,rfl,fun e he=>(by cases he),List.Pairwise.nil⟩
 |k+1,s,last,acc,l,s',h,h0=>by
  unfold gY at h
  dsimp only at h
  split at h
  ·cases h
  ·rename_i hc
   obtain⟨e1,m,e2,e3,e4,e5,e6⟩:=zG k _ _ _ _ _ h h0
   have g1:bV (aQ s).1=true:=by
    cases hg:bV (aQ s).1 with
    |true=>rfl
    |false=>exact absurd (.inr (.inl hg)) hc
   have g2:bytesBefore last (aQ s).1=true:=by
    cases hg:bytesBefore last (aQ s).1 with
    |true=>rfl
    |false=>exact absurd (.inr (.inr hg)) hc
   obtain⟨f1,f2,f3,f4⟩:=jH e1
   obtain⟨b1,b2,-⟩:=oI f1
   have hp:(256:Int)^2=65536:=rfl
   refine⟨b1,((aQ s).1,(bO (aQ s).2 2).1)::m,by rw[e2,List.append_assoc];rfl,by rw[List.length_cons,e3],?_,fun e he=> ?_,?_⟩
   ·rw[List.flatMap_cons]
    rw[show EJ ((aQ s).1,(bO (aQ s).2 2).1)=qp (aQ s).1++fJ (bO (aQ s).2 2).1 2 from rfl,List.append_assoc,List.append_assoc,←e4,←f2]
    exact b2
   ·rcases List.mem_cons.1 he with rfl|he
    ·exact⟨g1,⟨f3,by dsimp only;omega⟩,g2⟩
    ·have:=e5 e he
     exact⟨this.1,this.2.1,mJ _ _ _ g2 this.2.2⟩
   ·refine List.Pairwise.cons (fun e he=> ?_) e6
    exact(e5 e he).2.2
theorem wX:∀(m:List (Nm×Int)) (r:List UInt8) (last:Nm) (acc:List (Nm×Int)),(∀e∈m,bV e.1=true∧(0≤e.2∧e.2≤65535)∧bytesBefore last e.1=true)→aI bytesBefore m→
  gY m.length (m.flatMap EJ++r,0) last acc=some (acc++m,(r,0))
 |[],r,last,acc,_,_=>by simp[gY]
 |e::m,r,last,acc,h,hs=>by
  obtain⟨h1,h2,h3⟩:=h e (by simp)
  have hp:(256:Int)^2=65536:=rfl
  have hl:=jU h1
  rw[List.length_cons,gY]
  have e1:aQ ((e::m).flatMap EJ++r,0)=(e.1,(fJ e.2 2++(m.flatMap EJ++r),0)):=by
   rw[List.flatMap_cons]
   unfold EJ
   rw[List.append_assoc,List.append_assoc]
   exact tH _ _ (by omega)
  rw[e1]
  dsimp only
  rw[iZ 2 _ _ h2.1 (by omega)]
  dsimp only
  rw[if_neg (by rw[h1,h3];simp)]
  have hs':=List.pairwise_cons.1 hs
  rw[wX m r e.1 _ (fun y hy=>⟨(h y (by simp[hy])).1,(h y (by simp[hy])).2.1,hs'.1 y hy⟩) hs'.2,List.append_assoc]
  rfl
theorem Ny {s s':Rd} {q:Int×bA} (h:gZ s=some (q,s')) (h0:s'.2=0):s.2=0∧s.1=iT q.1 q.2++s'.1∧sH q.1 q.2:=by
 unfold gZ at h
 dsimp only at h
 split at h
 ·cases h
 ·rename_i hc
  have d0:(bY (aQ s).1).2=0:=Decidable.byContradiction fun hn=>hc (.inl hn)
  have d1:((aQ (aQ s).2).1.length:Int)=(bY (aQ s).1).1.size:=Decidable.byContradiction fun hn=>hc (.inr hn)
  obtain⟨q1,q2,q3⟩:=zF d0
  have hp:(256:Int)^2=65536:=rfl
  have hnd:∀l,wh (bY (aQ s).1).1.id (uY (bY (aQ s).1).1 (aQ (aQ s).2).1 l)=(bY (aQ s).1).1:=fun l=>by unfold wh uY;dsimp only;rw[d1]
  by_cases hk:(bY (aQ s).1).1.kind=1
  ·rw[if_pos hk]at h
   split at h
   ·rename_i hz
    simp only[Option.some.injEq,Prod.mk.injEq]at h
    obtain⟨rfl,rfl⟩:=h
    obtain⟨f1,f2,-⟩:=jH h0
    obtain⟨b1,b2,-⟩:=oI f1
    obtain⟨a1,a2,-⟩:=oI b1
    refine⟨a1,?_,by rw[hnd];exact q3,by rw[hnd];exact q2,fun _=>rfl,List.Pairwise.nil,fun e he=>(by cases he),fun e he=>(by cases he),Nat.zero_le _⟩
    unfold iT
    rw[wm,hnd,←q1]
    unfold uY
    rw[hz]at f2
    rw[show(([]:List (Nm×Int)).flatMap EJ)=[]from rfl,List.append_nil,List.append_assoc,List.append_assoc,show((([]:List (Nm×Int)).length:Nat):Int)=0 from rfl,←f2,←b2]
    exact a2
   ·cases h
  ·rw[if_neg hk]at h
   split at h
   ·cases h
   ·rename_i p hr
    simp only[Option.some.injEq,Prod.mk.injEq]at h
    obtain⟨rfl,rfl⟩:=h
    obtain⟨r1,m,r2,r3,r4,r5,r6⟩:=zG _ _ _ _ p.1 p.2 hr h0
    obtain⟨f1,f2,f3,f4⟩:=jH r1
    obtain⟨b1,b2,-⟩:=oI f1
    obtain⟨a1,a2,-⟩:=oI b1
    rw[List.nil_append]at r2
    refine⟨a1,?_,by rw[hnd];exact q3,by rw[hnd];exact q2,fun hk'=>absurd hk' hk,by rw[show(uY (bY (aQ s).1).1 (aQ (aQ s).2).1 p.1).names=m from r2];exact r6,fun e he=> ?_,fun e he=> ?_,?_⟩
    ·unfold iT
     rw[wm,hnd,←q1]
     unfold uY
     dsimp only
     rw[r2,r3,List.append_assoc,List.append_assoc,List.append_assoc,←r4,show((bO (aQ (aQ s).2).2 2).1.toNat:Int)=(bO (aQ (aQ s).2).2 2).1 by omega,←f2,←b2]
     exact a2
    ·exact(r5 e (by rw[←r2];exact he)).1
    ·exact(r5 e (by rw[←r2];exact he)).2.1
    ·show p.1.length≤65535
     rw[r2,r3];omega
theorem Ko {k:Int} {x:bA} (h:sH k x) (r:List UInt8):gZ (iT k x++r,0)=some ((k,x),(r,0)):=by
 have hp:(256:Int)^2=65536:=rfl
 have hsz:x.b.length≤65535:=by have:=h.ok.size.2;unfold wh at this;dsimp only at this;omega
 have hen:(nL k x).length≤65535:=by unfold nL mZ;simp only[List.length_append,dO];omega
 have hfw:=h.few
 unfold gZ iT
 dsimp only
 rw[List.append_assoc,List.append_assoc,List.append_assoc,tH _ _ hen]
 dsimp only
 rw[wm,ES h.ok h.right]
 dsimp only
 rw[tH _ _ hsz]
 dsimp only
 rw[iZ 2 _ _ (by omega) (by omega)]
 dsimp only
 rw[if_neg (by unfold wh;simp)]
 by_cases hk:x.kind=1
 ·rw[if_pos (show(wh k x).kind=1 from hk)]
  have hn:=h.file hk
  rw[hn]
  simp only[List.length_nil,List.flatMap_nil,List.nil_append,Int.natCast_zero,if_true]
  unfold uY wh
  dsimp only
  rw[←hn]
 ·rw[if_neg (show ¬(wh k x).kind=1 from hk)]
  rw[show((x.names.length:Int)).toNat=x.names.length by omega,wX x.names r [] [] (fun e he=>⟨h.good e he,h.ids e he,Nw (h.good e he)⟩) h.sorted]
  rfl
theorem BH:∀(k:Nat) (s:Rd) (last:Int) (acc l:aF) (s':Rd),ni k s last acc=some (l,s')→s'.2=0→
  s.2=0∧∃m,l=acc++m∧m.length=k∧s.1=(m.flatMap fun q=>iT q.1 q.2)++s'.1∧(∀q∈m,sH q.1 q.2∧last<q.1)∧aI gH m
 |0,s,last,acc,l,s',h,h0=>by
  rw[nD]at h
  cases h
  exact⟨h0,[],by simp,rfl,rfl,fun e he=>(by cases he),List.Pairwise.nil⟩
 |k+1,s,last,acc,l,s',h,h0=>by
  cases hr:gZ s with
  |none=>rw[wW hr]at h;cases h
  |some q=>
   rw[nE hr]at h
   by_cases hl:q.1.1≤last
   ·rw[if_pos hl]at h;cases h
   ·rw[if_neg hl]at h
    obtain⟨e1,m,e2,e3,e4,e5,e6⟩:=BH k _ _ _ _ _ h h0
    obtain⟨b1,b2,b3⟩:=Ny (q:=q.1) (s':=q.2) hr e1
    refine⟨b1,q.1::m,by rw[e2,List.append_assoc];rfl,by rw[List.length_cons,e3],?_,fun y hy=> ?_,?_⟩
    ·rw[List.flatMap_cons,List.append_assoc,←e4]
     exact b2
    ·rcases List.mem_cons.1 hy with rfl|hy
     ·exact⟨b3,by omega⟩
     ·have:=e5 y hy
      exact⟨this.1,by omega⟩
    ·exact List.Pairwise.cons (fun y hy=>decide_eq_true (e5 y hy).2) e6
theorem zH:∀(m:aF) (r:List UInt8) (last:Int) (acc:aF),(∀q∈m,sH q.1 q.2∧last<q.1)→aI gH m→
  ni m.length ((m.flatMap fun q=>iT q.1 q.2)++r,0) last acc=some (acc++m,(r,0))
 |[],r,last,acc,_,_=>by rw[List.append_nil];exact nD _ _ _
 |q::m,r,last,acc,h,hs=>by
  obtain⟨h1,h2⟩:=h q (by simp)
  have hs':=List.pairwise_cons.1 hs
  rw[List.length_cons,List.flatMap_cons,List.append_assoc,nE (Ko h1 _),if_neg (show ¬q.1≤last by omega)]
  dsimp only
  rw[zH m r q.1 _ (fun y hy=>⟨(h y (by simp[hy])).1,of_decide_eq_true (hs'.1 y hy)⟩) hs'.2,List.append_assoc]
  rfl
structure qX (T:aF):Prop where
 each:∀q∈T,sH q.1 q.2
 sorted:aI gH T
 few:T.length≤65535
theorem BI {b:List UInt8} {T:aF} (h:parseM b=some T):b=kE T∧qX T:=by
 unfold parseM at h
 split at h
 ·cases h
 ·rename_i q hr
  split at h
  ·rename_i he
   cases h
   obtain⟨z1,z2⟩:=ER he
   obtain⟨e1,m,e2,e3,e4,e5,e6⟩:=BH _ _ _ _ q.1 q.2 hr z1
   obtain⟨-,f2,f3,f4⟩:=jH e1
   have hp:(256:Int)^2=65536:=rfl
   rw[List.nil_append]at e2
   rw[z2,List.append_nil]at e4
   rw[e2]
   refine⟨?_,fun y hy=>(e5 y hy).1,e6,by omega⟩
   unfold kE
   rw[e3,show((bO (b,0) 2).1.toNat:Int)=(bO (b,0) 2).1 by omega,←e4]
   exact f2
  ·cases h
theorem zI {T:aF} (h:qX T):parseM (kE T)=some T:=by
 have hp:(256:Int)^2=65536:=rfl
 have hf:=h.few
 unfold parseM kE
 rw[iZ 2 _ _ (by omega) (by omega)]
 dsimp only
 have:=zH T [] (-1) [] (fun q hq=>⟨h.each q hq,by have:=(h.each q hq).ok.id.1;unfold wh at this;dsimp only at this;omega⟩) h.sorted
 rw[List.append_nil,List.nil_append]at this
 rw[show((T.length:Int)).toNat=T.length by omega,this]
 rfl
def CO (w:World) (g:Nat) (cs:Array Value) (t:TypeId) (w':World):Prop:=w'.heap[g]? =some (.cells cs t (0,0))∧Keeps (fun b=>b=g) w w'∧w'.heap.size=w.heap.size
theorem GN (w:World) (g:Nat) (old cs:Array Value) (t:TypeId) (hg:w.heap[g]? =some (.cells old t (0,0))):CO w g cs t (w.setRow g cs):=by
 have hz:(w.setRow g cs).heap.size=w.heap.size:=by simp[World.setRow]
 exact⟨setRow_heap w g old cs t _ hg,⟨rfl,rfl,rfl,by omega,fun b _ hb=>setRow_other w g b cs hb⟩,hz⟩
theorem kT {P:Program} {ops:Array Oper} {rest:List Oper} {o:Oper} {a:Act} {w:World} {Q:Exit→Act→World→Prop} (hgd:o.guard=none) (ty:TypeId) (x y:Operand) (ho:o.op= .store ty x y)
  (g:Nat) (cells:Array Value) (hx:a.eval x= .pointer (some ⟨g,0,none⟩)) (hy:a.eval y= .agg cells)
  (old:Array Value) (hg:w.heap[g]? =some (.cells old ty (0,0))) (hi:(P.info? ty).map (·.size)=some cells.size)
  (hold:old.size=cells.size) (h1:cells.all (·.oneCell')=true)
  (h:∀w',CO w g cells ty w'→wpList P ops Q rest (a.put o.dst undef) w'):wpList P ops Q (o::rest) a w:=
 wpList_store_row hgd ty x y ho g cells hx hy ty old hg hi hold h1 (h _ (GN w g old cells ty hg))
theorem CO.below {w0 w w':World} {g:Nat} {cs:Array Value} {t:TypeId} (h:CO w g cs t w') (hb:Below w0.heap.size w0 w) (hg:w0.heap.size≤g):Below w0.heap.size w0 w':=by
 obtain⟨_,h2,h3⟩:=h
 exact⟨h2.os.trans hb.os,h2.tape.trans hb.tape,h2.output.trans hb.output,Nat.le_trans hb.size h2.size,fun b hb'=>(h2.block b (Nat.lt_of_lt_of_le hb' hb.size) (fun e:b=g=>by omega)).trans (hb.block b hb')⟩
theorem Af {P:Program} {fn:Func} {a b:Nat} {t:TypeId} {tmps:Array Value} {ad:Addr} {v:Value} {w:World} (h:fn.results= #[.cell a t, .tmp b]) (ha:tmps.getD a undef= .pointer (some ad)) (hl:(loadVar t ad).run P w= .ok v w):(results fn tmps).run P w= .ok (.tuple #[v,tmps.getD b undef]) w:=by
 have ha2:tmps[a]?.getD undef= .pointer (some ad):=by simpa using ha
 simp[results,h,asAddr,ha2,hl]
theorem uZ:(Tryz.prog.info? 101).map (·.size)=some 6:=by kernel_rfl
def BJ:Array Value:= #[.int .i64 0, .int .i64 0, .int .i64 0, .int .i64 0, .int .u64 0, .bool false]
theorem zJ {fn:Func} {sl b':Nat} {Q:Ending→World→Prop} {a:Act} {w:World} {b:Nat} {cs:Array Value} {z:Value} (hf:fn.results= #[.cell sl 101, .tmp b']) (hs:a.tmps.getD sl undef= .pointer (some ⟨b,0,none⟩)) (hz:a.tmps.getD b' undef=z) (hd:a.defers=[]) (hg:w.heap[b]? =some (.cells cs 101 (0,0))) (h6:cs.size=6) (hQ:Q (.returned (.tuple #[.agg cs,z])) w):
  bodyPost Tryz.prog fn Q .ret a w:=by
 subst hz
 exact bodyPost_ret (v:= .tuple #[.agg cs,a.tmps.getD b' undef]) (Af hf hs (run_loadVar_row w b 101 101 _ (0,0) _ hg Tryz.underlying101 rfl (by rw[h6];exact uZ))) hd hQ
def SG (n:IJ):Array Value:= #[.int .i64 n.id, .int .i64 n.kind, .int .i64 n.links, .int .i64 n.size, .int .u64 n.aO, .bool n.closed]
set_option maxHeartbeats 4000000 in
theorem GQ (n:IJ) (h:Km n) (w:World):Calls Tryz.prog 124 #[.agg (SG n)] w fun e w'=>e= .returned (.bool (decide (iP n)))∧Below w.heap.size w w':=by
 obtain⟨id,kind,links,size,aO,closed⟩:=n
 obtain⟨⟨i0,i1⟩,⟨k0,k1⟩,⟨l0,l1⟩,⟨s0,s1⟩,⟨t0,t1⟩⟩:=h
 dsimp only at i0 i1 k0 k1 l0 l1 s0 s1 t0 t1
 have d1:decide (id<0)=false:=by simpa using i0
 have d2:decide (65535<id)=false:=by simpa using i1
 have d3:decide (links<0)=false:=by simpa using l0
 have d4:decide (65535<links)=false:=by simpa using l1
 have d7:decide ((0:Int)≤size)=true:=by simpa using s0
 have n1:¬id<0:=by omega
 have n2:¬65535<id:=by omega
 have n3:¬links<0:=by omega
 have n4:¬65535<links:=by omega
 unfold SG
 dsimp only
 by_cases h1:kind=1
 ·subst h1
  by_cases q1:size≤4096
  ·have c1:decide (size≤4096)=true:=decide_eq_true q1
   by_cases q2:aO≤1099511627776
   ·have c2:decide (aO≤1099511627776)=true:=decide_eq_true q2
    rw[decide_eq_true (show iP ⟨id,1,links,size,aO,closed⟩from .inl ⟨rfl,q1,q2⟩)]
    go_enter Tryz.func124,Tryz.ntmps124
    go_wp2
    all_goals (first|(go_ret;exact⟨rfl,wall w _⟩)|((try simp only[Exit.inBlock,Exit.then]);refine bodyPost_ret (by rfl) rfl ?_;exact⟨rfl,wall w _⟩))
   ·have c2:decide (aO≤1099511627776)=false:=decide_eq_false q2
    rw[decide_eq_false (show ¬iP ⟨id,1,links,size,aO,closed⟩from fun h=>by
     rcases h with h|h
     ·exact q2 h.2.2
     ·exact absurd (show(1:Int)=2 from h.1) (by decide))]
    go_enter Tryz.func124,Tryz.ntmps124
    go_wp2
    all_goals (first|(go_ret;exact⟨rfl,wall w _⟩)|((try simp only[Exit.inBlock,Exit.then]);refine bodyPost_ret (by rfl) rfl ?_;exact⟨rfl,wall w _⟩))
  ·have c1:decide (size≤4096)=false:=decide_eq_false q1
   rw[decide_eq_false (show ¬iP ⟨id,1,links,size,aO,closed⟩from fun h=>by
    rcases h with h|h
    ·exact q1 h.2.1
    ·exact absurd (show(1:Int)=2 from h.1) (by decide))]
   go_enter Tryz.func124,Tryz.ntmps124
   go_wp2
   all_goals (first|(go_ret;exact⟨rfl,wall w _⟩)|((try simp only[Exit.inBlock,Exit.then]);refine bodyPost_ret (by rfl) rfl ?_;exact⟨rfl,wall w _⟩))
 ·have g1:(kind==1)=false:=by simpa using h1
  by_cases h2:kind=2
  ·subst h2
   by_cases q1:size=0
   ·subst q1
    by_cases q2:aO=0
    ·subst q2
     cases closed
     ·rw[decide_eq_false (show ¬iP ⟨id,2,links,0,0,false⟩from fun h=>by
       rcases h with h|h
       ·exact absurd (show(2:Int)=1 from h.1) (by decide)
       ·exact absurd (show false=true from h.2.2.2) (by decide))]
      go_enter Tryz.func124,Tryz.ntmps124
      go_wp2
      all_goals (first|(go_ret;exact⟨rfl,wall w _⟩)|((try simp only[Exit.inBlock,Exit.then]);refine bodyPost_ret (by rfl) rfl ?_;exact⟨rfl,wall w _⟩))
     ·rw[decide_eq_true (show iP ⟨id,2,links,0,0,true⟩from .inr ⟨rfl,rfl,rfl,rfl⟩)]
      go_enter Tryz.func124,Tryz.ntmps124
      go_wp2
      all_goals (first|(go_ret;exact⟨rfl,wall w _⟩)|((try simp only[Exit.inBlock,Exit.then]);refine bodyPost_ret (by rfl) rfl ?_;exact⟨rfl,wall w _⟩))
    ·have g2:(aO==0)=false:=by simpa using q2
     rw[decide_eq_false (show ¬iP ⟨id,2,links,0,aO,closed⟩from fun h=>by
      rcases h with h|h
      ·exact absurd (show(2:Int)=1 from h.1) (by decide)
      ·exact q2 h.2.2.1)]
     go_enter Tryz.func124,Tryz.ntmps124
     go_wp2
     all_goals (first|(go_ret;exact⟨rfl,wall w _⟩)|((try simp only[Exit.inBlock,Exit.then]);refine bodyPost_ret (by rfl) rfl ?_;exact⟨rfl,wall w _⟩))
   ·have g2:(size==0)=false:=by simpa using q1
    rw[decide_eq_false (show ¬iP ⟨id,2,links,size,aO,closed⟩from fun h=>by
     rcases h with h|h
     ·exact absurd (show(2:Int)=1 from h.1) (by decide)
     ·exact q1 h.2.1)]
    go_enter Tryz.func124,Tryz.ntmps124
    go_wp2
    all_goals (first|(go_ret;exact⟨rfl,wall w _⟩)|((try simp only[Exit.inBlock,Exit.then]);refine bodyPost_ret (by rfl) rfl ?_;exact⟨rfl,wall w _⟩))
  ·have g2:(kind==2)=false:=by simpa using h2
   rw[decide_eq_false (show ¬iP ⟨id,kind,links,size,aO,closed⟩from fun h=>by
    rcases h with h|h
    ·exact h1 h.1
    ·exact h2 h.1)]
   go_enter Tryz.func124,Tryz.ntmps124
   go_wp2
   all_goals (first|(go_ret;exact⟨rfl,wall w _⟩)|((try simp only[Exit.inBlock,Exit.then]);refine bodyPost_ret (by rfl) rfl ?_;exact⟨rfl,wall w _⟩))
theorem qY {w w':World} {x B:Nat} (hK:Keeps (fun b=>b=x) w w') (hx:B≤x) (hB:B≤w.heap.size):Below B w w':=hK.iU hB fun b hb e=>by
 have e':b=x:=e
 omega
set_option maxRecDepth 100000 in
set_option maxHeartbeats 8000000 in
theorem GR {S:Nat→Prop} (a:Option Addr) (n c:Nat) (bs:List UInt8) (w:World) (hm:n≤100000000) (hr:aj S w a n (bs.map bv)):
  Calls Tryz.prog 119 #[.slice a n c] w fun e w'=>e= .returned (.tuple #[.agg (SG (bY bs).1), .int .i64 (bY bs).2])∧Below w.heap.size w w':=by
 obtain⟨w1,hw1⟩:∃w1,w1=w.alloc (.cells BJ 101):=⟨_,rfl⟩
 have hb1:Below w.heap.size w w1:=by rw[hw1];exact wall w _
 have hre:w1.heap[w.heap.size]? =some (.cells BJ 101 (0,0)):=by rw[hw1];exact(MapKept.heap_alloc w _).1
 have hs1:w1.heap.size=w.heap.size+1:=by rw[hw1];simp
 have HN:=Lib.hid (sG a n c bs w1 hm (hr.below hb1 (Nat.le_refl _)))
 have HW1:=Lib.hid hw1
 have HB1:=Lib.hid hb1
 have VZ:=Lib.hid hre
 have IK:Hid (jo bs=jo bs):=Lib.hid rfl
 have Ag:=Lib.hid (pR bs)
 clear hr hb1 hre hw1 hs1
 conv at IK=>arg 1;rhs;unfold jo;dsimp only
 unfold jo at Ag
 dsimp only at Ag
 go_enter Tryz.func119,Tryz.ntmps119
 go_wp2_with fail
 rw[show w.alloc (.cells #[.int .i64 0, .int .i64 0, .int .i64 0, .int .i64 0, .int .u64 0, .bool false] 101)=w1 from HW1.out.symm]
 (with_reducible refine HN.out.mono ?_)
 rintro e w2 ⟨x,rfl,hx,hR2,hb2⟩
 have HX:=Lib.hid hx
 have HR2:=Lib.hid hR2
 have HB2:=Lib.hid hb2
 clear hx hR2 hb2 HN
 obtain⟨D,hD⟩:∃D:Nat→Prop,D=fun b=>w1.heap.size≤b∧b<x:=⟨_,rfl⟩
 rw[←hD]at HR2
 clear hD
 have MF:=Lib.hid (ng HR2.out)
 obtain⟨v0,hv0⟩:∃v,v=(bO (bs,0) 2).1:=⟨_,rfl⟩
 obtain⟨s0,hs0⟩:∃s,s=(bO (bs,0) 2).2:=⟨_,rfl⟩
 rw[←hv0,←hs0]at MF
 rw[←hv0,←hs0]at IK
 rw[←hv0]at Ag
 (try rw[←hs0]at Ag)
 clear hv0 hs0
 go_wp2_with fail
 (with_reducible refine MF.out.mono ?_)
 rintro e w3 ⟨rfl,hR,hK⟩
 have HR3:=Lib.hid hR
 have HB3:=Lib.hid (HB2.out.trans (qY hK HX.out HB2.out.size))
 clear hR hK MF
 have Vl:=Lib.hid (II HR3.out)
 obtain⟨v1,hv1⟩:∃v,v=(bO s0 1).1:=⟨_,rfl⟩
 obtain⟨s1,hs1⟩:∃s,s=(bO s0 1).2:=⟨_,rfl⟩
 rw[←hv1,←hs1]at Vl
 rw[←hv1,←hs1]at IK
 rw[←hv1]at Ag
 (try rw[←hs1]at Ag)
 clear hv1 hs1
 go_wp2_with fail
 (with_reducible refine Vl.out.mono ?_)
 rintro e w4 ⟨rfl,hR,hK⟩
 have HR4:=Lib.hid hR
 have dS:=Lib.hid (HB3.out.trans (qY hK HX.out HB3.out.size))
 clear hR hK Vl
 have Pg:=Lib.hid (ng HR4.out)
 obtain⟨v2,hv2⟩:∃v,v=(bO s1 2).1:=⟨_,rfl⟩
 obtain⟨s2,hs2⟩:∃s,s=(bO s1 2).2:=⟨_,rfl⟩
 rw[←hv2,←hs2]at Pg
 rw[←hv2,←hs2]at IK
 rw[←hv2]at Ag
 (try rw[←hs2]at Ag)
 clear hv2 hs2
 go_wp2_with fail
 (with_reducible refine Pg.out.mono ?_)
 rintro e w5 ⟨rfl,hR,hK⟩
 have HR5:=Lib.hid hR
 have iQ:=Lib.hid (dS.out.trans (qY hK HX.out dS.out.size))
 clear hR hK Pg
 have Yn:=Lib.hid (ng HR5.out)
 obtain⟨v3,hv3⟩:∃v,v=(bO s2 2).1:=⟨_,rfl⟩
 obtain⟨s3,hs3⟩:∃s,s=(bO s2 2).2:=⟨_,rfl⟩
 rw[←hv3,←hs3]at Yn
 rw[←hv3,←hs3]at IK
 rw[←hv3]at Ag
 (try rw[←hs3]at Ag)
 clear hv3 hs3
 go_wp2_with fail
 (with_reducible refine Yn.out.mono ?_)
 rintro e w6 ⟨rfl,hR,hK⟩
 have Xu:=Lib.hid hR
 have rQ:=Lib.hid (iQ.out.trans (qY hK HX.out iQ.out.size))
 clear hR hK Yn
 have TK:=Lib.hid (PX Xu.out)
 obtain⟨v4,hv4⟩:∃v,v=(bO s3 8).1:=⟨_,rfl⟩
 obtain⟨s4,hs4⟩:∃s,s=(bO s3 8).2:=⟨_,rfl⟩
 rw[←hv4,←hs4]at TK
 rw[←hv4,←hs4]at IK
 rw[←hv4]at Ag
 (try rw[←hs4]at Ag)
 clear hv4 hs4
 go_wp2_with fail
 (with_reducible refine TK.out.mono ?_)
 rintro e w7 ⟨rfl,hR,hK⟩
 have SE:=Lib.hid hR
 have vk:=Lib.hid (rQ.out.trans (qY hK HX.out rQ.out.size))
 clear hR hK TK
 have Yo:=Lib.hid (PZ SE.out)
 obtain⟨v5,hv5⟩:∃v,v=(qh s4).1:=⟨_,rfl⟩
 obtain⟨s5,hs5⟩:∃s,s=(qh s4).2:=⟨_,rfl⟩
 rw[←hv5,←hs5]at Yo
 rw[←hv5,←hs5]at IK
 rw[←hv5]at Ag
 (try rw[←hs5]at Ag)
 clear hv5 hs5
 go_wp2_with fail
 (with_reducible refine Yo.out.mono ?_)
 rintro e w8 ⟨rfl,hR,hK⟩
 have TA:=Lib.hid hR
 have sZ:=Lib.hid (vk.out.trans (qY hK HX.out vk.out.size))
 clear hR hK Yo
 obtain⟨N,hN⟩:∃N:IJ,N=⟨v0,v1,v2,v3,v4,v5⟩:=⟨_,rfl⟩
 rw[←hN]at IK Ag
 have nV:=Lib.hid hN
 clear hN
 have hsz:=sZ.out.size
 obtain⟨w9,V7⟩:∃w9,w9=w8.alloc (.cells (SG N) 101):=⟨_,rfl⟩
 have zw:Below w8.heap.size w8 w9:=by rw[V7];exact wall w8 _
 have hnd:w9.heap[w8.heap.size]? =some (.cells (SG N) 101 (0,0)):=by rw[V7];exact(MapKept.heap_alloc w8 _).1
 have HW9:Hid (w9=w8.alloc (.cells #[.int .i64 v0, .int .i64 v1, .int .i64 v2, .int .i64 v3, .int .u64 v4, .bool v5] 101)):=by rw[V7,nV.out];exact Lib.hid rfl
 have CG:=Lib.hid (sZ.out.trans (zw.mono sZ.out.size))
 have P5:=Lib.hid ((CG.out.block _ (Array.getElem?_eq_some_iff.1 VZ.out).1).trans VZ.out)
 have HE:=Lib.hid (GL (TA.out.below zw (Nat.le_refl _)))
 have vg:=Lib.hid hnd
 obtain⟨z,hz⟩:∃z,z=oH s5:=⟨_,rfl⟩
 rw[←hz]at HE
 have HZ:=Lib.hid hz
 clear V7 zw hnd hz
 have qn:∀j,w9.cell? ⟨w8.heap.size,j,none⟩=(SG N)[j]? :=fun j=>eZ vg.out j
 have q0:w9.cell? ⟨w8.heap.size,0,none⟩=some (.int .i64 v0):=by rw[qn,nV.out];rfl
 have q1:w9.cell? ⟨w8.heap.size,1,none⟩=some (.int .i64 v1):=by rw[qn,nV.out];rfl
 have q2:w9.cell? ⟨w8.heap.size,2,none⟩=some (.int .i64 v2):=by rw[qn,nV.out];rfl
 have q3:w9.cell? ⟨w8.heap.size,3,none⟩=some (.int .i64 v3):=by rw[qn,nV.out];rfl
 have q4:w9.cell? ⟨w8.heap.size,4,none⟩=some (.int .u64 v4):=by rw[qn,nV.out];rfl
 have q5:w9.cell? ⟨w8.heap.size,5,none⟩=some (.bool v5):=by rw[qn,nV.out];rfl
 clear qn
 have P6:Hid (∀w',Calls Tryz.prog 124 #[.agg #[.int .i64 v0, .int .i64 v1, .int .i64 v2, .int .i64 v3, .int .u64 v4, .bool v5]] w' fun e w''=>e= .returned (.bool (decide (iP N)))∧Below w'.heap.size w' w''):=fun w'=>by
  have:=GQ N Ag.out w'
  rw[nV.out]at this
  rw[nV.out]
  exact this
 have oP:=(Array.getElem?_eq_some_iff.1 vg.out).1
 have PV:=(Array.getElem?_eq_some_iff.1 P5.out).1
 go_wp2_with fail
 rw[←HW9.out]
 by_cases hz:z=0
 ·subst hz
  by_cases hr:iP N
  ·have HD:Hid (bY bs=(N,0)):=by
    show _=_
    unfold bY
    rw[IK.out,if_pos ⟨HZ.out.symm,hr⟩]
   rw[decide_eq_true hr]at P6
   clear hr IK
   (with_reducible refine HE.out.mono ?_)
   rintro e _ ⟨rfl,rfl⟩
   go_wp2_with fail
   (with_reducible refine(P6.out _).mono ?_)
   rintro e Es ⟨rfl,lU⟩
   have Nz:=Lib.hid ((lU.block _ PV).trans P5.out)
   have ow:=Lib.hid (HB1.out.trans ((CG.out.trans (lU.mono CG.out.size)).mono HB1.out.size))
   have r0:Es.cell? ⟨w8.heap.size,0,none⟩=some (.int .i64 v0):=(lU.cell (p:=⟨w8.heap.size,0,none⟩) oP).trans q0
   have r1:Es.cell? ⟨w8.heap.size,1,none⟩=some (.int .i64 v1):=(lU.cell (p:=⟨w8.heap.size,1,none⟩) oP).trans q1
   have r2:Es.cell? ⟨w8.heap.size,2,none⟩=some (.int .i64 v2):=(lU.cell (p:=⟨w8.heap.size,2,none⟩) oP).trans q2
   have r3:Es.cell? ⟨w8.heap.size,3,none⟩=some (.int .i64 v3):=(lU.cell (p:=⟨w8.heap.size,3,none⟩) oP).trans q3
   have r4:Es.cell? ⟨w8.heap.size,4,none⟩=some (.int .u64 v4):=(lU.cell (p:=⟨w8.heap.size,4,none⟩) oP).trans q4
   have r5:Es.cell? ⟨w8.heap.size,5,none⟩=some (.bool v5):=(lU.cell (p:=⟨w8.heap.size,5,none⟩) oP).trans q5
   clear lU P6 HE q0 q1 q2 q3 q4 q5
   go_wp2_with (refine kT (by rfl) 101 _ _ (by rfl) w.heap.size #[.int .i64 v0, .int .i64 v1, .int .i64 v2, .int .i64 v3, .int .u64 v4, .bool v5] (by rfl) (by rfl) _ Nz.out uZ rfl (by simp[Value.oneCell']) ?_;intro CY ET;have EU:=Lib.hid ET;clear ET)
   refine zJ rfl rfl rfl rfl EU.out.1 rfl ?_
   rw[HD.out,nV.out]
   exact⟨rfl,EU.out.below ow.out (Nat.le_refl _)⟩
  ·have HD:Hid (bY bs=(Nu,12)):=by
    show _=_
    unfold bY
    rw[IK.out,if_neg fun h=>hr h.2]
   rw[decide_eq_false hr]at P6
   clear hr IK
   (with_reducible refine HE.out.mono ?_)
   rintro e _ ⟨rfl,rfl⟩
   go_wp2_with fail
   (with_reducible refine(P6.out _).mono ?_)
   rintro e Es ⟨rfl,lU⟩
   have Nz:=Lib.hid ((lU.block _ PV).trans P5.out)
   have ow:=Lib.hid (HB1.out.trans ((CG.out.trans (lU.mono CG.out.size)).mono HB1.out.size))
   clear lU P6 HE q0 q1 q2 q3 q4 q5
   go_wp2_with (refine kT (by rfl) 101 _ _ (by rfl) w.heap.size BJ (by rfl) (by rfl) _ Nz.out uZ rfl (by simp[BJ,Value.oneCell']) ?_;intro CY ET;have EU:=Lib.hid ET;clear ET)
   (try simp only[Exit.inBlock,Exit.then])
   refine zJ rfl rfl rfl rfl EU.out.1 rfl ?_
   rw[HD.out]
   exact⟨rfl,EU.out.below ow.out (Nat.le_refl _)⟩
 ·have hz2:(z !=0)=true:=by simpa using hz
  have HD:Hid (bY bs=(Nu,12)):=by
   show _=_
   unfold bY
   rw[IK.out,if_neg fun h=>hz (HZ.out.trans h.1)]
  have ow:=Lib.hid (HB1.out.trans (CG.out.mono HB1.out.size))
  clear hz IK P6 q0 q1 q2 q3 q4 q5
  (with_reducible refine HE.out.mono ?_)
  rintro e _ ⟨rfl,rfl⟩
  go_wp2_with (refine kT (by rfl) 101 _ _ (by rfl) w.heap.size BJ (by rfl) (by rfl) _ P5.out uZ rfl (by simp[BJ,Value.oneCell']) ?_;intro CY ET;have EU:=Lib.hid ET;clear ET)
  (try simp only[Exit.inBlock,Exit.then])
  refine zJ rfl rfl rfl rfl EU.out.1 rfl ?_
  rw[HD.out]
  exact⟨rfl,EU.out.below ow.out (Nat.le_refl _)⟩
abbrev oJ:=List (Int×Nat)
def iK (C:oJ) (j:Int):Nat:=(ah j C).getD 0
def sm (C:oJ):Nat:=(C.map (·.2)).sum
def zc (T:aF) (C:oJ):Nat:=T.countP fun q=>decide (q.2.kind=2)&&decide (iK C q.1=0)
def Ah (T:aF) (C:oJ):Nat:=sm C+65535*zc T C
def lH (C:oJ) (k:Int):oJ:=bZ gH k (iK C k+1) C
theorem jE (C:oJ) (k j:Int):iK (lH C k) j=iK C j+if j=k then 1 else 0:=by
 unfold lH
 unfold iK
 rw[eY]
 by_cases h:j=k
 ·subst h;rw[if_pos rfl,if_pos rfl];rfl
 ·rw[if_neg h,if_neg h];rfl
theorem nG (x:Int×Nat) (l:oJ):sm (x::l)=x.2+sm l:=by unfold sm;rw[List.map_cons,List.sum_cons]
theorem IL (x:Int×Nat):∀l:oJ,sm (gK gH x l)=sm l+x.2
 |[]=>by unfold gK;rw[nG];omega
 |y::r=>by
  unfold gK
  split
  ·rw[nG,nG];omega
  ·rw[nG,nG,IL x r];omega
theorem CP (k:Int):∀{C:oJ},aI gH C→sm (bB k C)+iK C k=sm C
 |[],_=>rfl
 |y::r,h=>by
  obtain⟨h1,h2⟩:=List.pairwise_cons.1 h
  by_cases hk:y.1=k
  ·have hn:ah k r=none:=iq.2 fun p hp e=>by
    have:=h1 p hp
    rw[hk,e]at this
    simp at this
   have e1:bB k (y::r)=bB k r:=by unfold bB;rw[List.filter_cons,if_neg (by simp[hk])]
   have e2:iK (y::r) k=y.2:=by unfold iK;rw[eU,if_pos hk];rfl
   rw[e1,e2,jd hn,nG]
   omega
  ·have e1:bB k (y::r)=y::bB k r:=by unfold bB;rw[List.filter_cons,if_pos (by simp[hk])]
   have e2:iK (y::r) k=iK r k:=by unfold iK;rw[eU,if_neg hk]
   have:=CP k h2
   rw[e1,e2,nG,nG]
   omega
theorem GU {C:oJ} (h:aI gH C) (k:Int):sm (lH C k)=sm C+1:=by
 have:=CP k h
 unfold lH bZ
 rw[IL]
 dsimp only
 omega
theorem P7 {C:oJ} (h:aI gH C) (j:Int):iK C j≤sm C:=by have:=CP j h;omega
theorem wB (T:aF) (C:oJ) (k:Int):zc T (lH C k)≤zc T C:=by
 unfold zc
 apply List.countP_mono_left
 intro q _ h
 simp only[Bool.and_eq_true,decide_eq_true_eq,jE]at h⊢
 exact⟨h.1,by omega⟩
theorem Kq {T:aF} {C:oJ} {k:Int} {x:bA} (hk:(k,x)∈T) (hx:x.kind=2) (h0:iK C k=0):zc T (lH C k)+1≤zc T C:=by
 obtain⟨l1,l2,rfl⟩:=List.append_of_mem hk
 have h1:=wB l1 C k
 have h2:=wB l2 C k
 unfold zc at h1 h2⊢
 rw[List.countP_append,List.countP_append,List.countP_cons,List.countP_cons,if_neg (by simp[jE]),if_pos (by simp[hx,h0])]
 omega
theorem P8 {T:aF} {C:oJ} (h:aI gH C) (k:Int):Ah T (lH C k)≤Ah T C+1:=by
 have h1:=GU h k
 have h2:=wB T C k
 unfold Ah
 omega
theorem P9 {T:aF} {C:oJ} (h:aI gH C) {k:Int} {x:bA} (hk:(k,x)∈T) (hx:x.kind=2) (h0:iK C k=0):Ah T (lH C k)+65535≤Ah T C+1:=by
 have h1:=GU h k
 have h2:=Kq hk hx h0
 unfold Ah
 omega
theorem zK {C:oJ} (h:aI gH C) (k:Int):aI gH (lH C k):=h.bZ bW k _
def jW (T:aF):Nat→Int→List Int
 |0,_=>[]
 |n+1,id=>(aJ T id).flatMap fun e=>e.2::(if bf T e.2=2 then jW T n e.2 else[])
def u_ (T:aF):Nat→Int→Prop
 |0,id=>aJ T id=[]
 |n+1,id=>∀e∈aJ T id,(ah e.2 T).isSome=true∧e.2≠0∧(bf T e.2=2→u_ T n e.2)
def gG (T:aF) (C:oJ) (n:Nat) (id:Int):Prop:=u_ T n id∧∀k∈jW T n id,bf T k=2→iK C k+(jW T n id).count k≤1
def jX (T:aF) (n:Nat) (e:Nm×Int):List Int:=e.2::(if bf T e.2=2 then jW T n e.2 else[])
def Vm (T:aF) (n:Nat) (e:Nm×Int):Prop:=(ah e.2 T).isSome=true∧e.2≠0∧(bf T e.2=2→u_ T n e.2)
theorem jk (T:aF) (n:Nat) (id:Int):jW T (n+1) id=(aJ T id).flatMap (jX T n):=rfl
structure jV (T:aF) (n:Nat) (C:oJ) (D:List (Nm×Int)) (C':oJ):Prop where
 sorted:aI gH C'
 cnt:∀j,iK C' j=iK C j+(D.flatMap (jX T n)).count j
 ok:∀e∈D,Vm T n e
 one:∀k∈D.flatMap (jX T n),bf T k=2→iK C' k≤1
theorem jV.nil {T:aF} {n:Nat} {C:oJ} (h:aI gH C):jV T n C [] C:=⟨h,fun j=>rfl,fun e he=>(by cases he),fun k hk=>(by cases hk)⟩
theorem jV.perm {T:aF} {n:Nat} {C C':oJ} {D D':List (Nm×Int)} (h:jV T n C D C') (hp:D'.Perm D):jV T n C D' C':=
 ⟨h.sorted,fun j=>by rw[h.cnt j,(hp.flatMap_right (jX T n)).count_eq],fun e he=>h.ok e (hp.mem_iff.1 he),fun k hk=>h.one k ((hp.flatMap_right (jX T n)).mem_iff.1 hk)⟩
theorem oK {T:aF} {n:Nat} (D:List (Nm×Int)) (e:Nm×Int):(D++[e]).flatMap (jX T n)=D.flatMap (jX T n)++jX T n e:=by simp
theorem jV.file {T:aF} {n:Nat} {C C':oJ} {D:List (Nm×Int)} (h:jV T n C D C') {e:Nm×Int} (h1:(ah e.2 T).isSome=true) (h2:e.2≠0) (hk:bf T e.2≠2):jV T n C (D++[e]) (lH C' e.2):=by
 have he:jX T n e=[e.2]:=by unfold jX;rw[if_neg hk]
 refine⟨zK h.sorted _,fun j=> ?_,fun y hy=> ?_,fun k hkm hk2=> ?_⟩
 ·rw[jE,h.cnt j,oK,he,List.count_append,List.count_singleton]
  by_cases hj:j=e.2
  ·subst hj;simp;omega
  ·simp[hj,Ne.symm hj]
 ·rcases List.mem_append.1 hy with hy|hy
  ·exact h.ok y hy
  ·simp only[List.mem_singleton]at hy
   subst hy
   exact⟨h1,h2,fun hh=>absurd hh hk⟩
 ·rw[oK,he]at hkm
  have hne:k≠e.2:=fun hh=>hk (hh▸hk2)
  rw[jE,if_neg hne,Nat.add_zero]
  rcases List.mem_append.1 hkm with hm|hm
  ·exact h.one k hm hk2
  ·simp only[List.mem_singleton]at hm
   exact absurd hm hne
theorem jV.dir {T:aF} {n:Nat} {C C' C2:oJ} {D:List (Nm×Int)} (h:jV T n C D C') {e:Nm×Int} (h1:(ah e.2 T).isSome=true) (h2:e.2≠0) (hk:bf T e.2=2) (hz:iK C' e.2=0)
  (hs:aI gH C2) (hc:∀j,iK C2 j=iK (lH C' e.2) j+(jW T n e.2).count j) (hL:gG T (lH C' e.2) n e.2):jV T n C (D++[e]) C2:=by
 have he:jX T n e=e.2::jW T n e.2:=by unfold jX;rw[if_pos hk]
 have hce:∀j,iK C2 j=iK C' j+(jX T n e).count j:=fun j=>by
  rw[hc j,jE,he,List.count_cons]
  by_cases hj:j=e.2
  ·subst hj;simp;omega
  ·simp[hj,Ne.symm hj]
 have hin:∀k∈jX T n e,bf T k=2→iK C2 k≤1:=fun k hkm hk2=>by
  rw[hc k]
  rw[he]at hkm
  by_cases hv:k∈jW T n e.2
  ·exact hL.2 k hv hk2
  ·rcases List.mem_cons.1 hkm with hm|hm
   ·subst hm
    rw[List.count_eq_zero_of_not_mem hv,jE,if_pos rfl,hz]
    exact Nat.le_refl _
   ·exact absurd hm hv
 refine⟨hs,fun j=> ?_,fun y hy=> ?_,fun k hkm hk2=> ?_⟩
 ·rw[oK,List.count_append,hce j,h.cnt j,Nat.add_assoc]
 ·rcases List.mem_append.1 hy with hy|hy
  ·exact h.ok y hy
  ·simp only[List.mem_singleton]at hy
   subst hy
   exact⟨h1,h2,fun _=>hL.1⟩
 ·by_cases hm:k∈jX T n e
  ·exact hin k hm hk2
  ·rw[oK]at hkm
   rcases List.mem_append.1 hkm with hm'|hm'
   ·rw[hce k,List.count_eq_zero_of_not_mem hm,Nat.add_zero]
    exact h.one k hm' hk2
   ·exact absurd hm' hm
theorem jV.all {T:aF} {n:Nat} {C C':oJ} {id:Int} (h:jV T n C (aJ T id) C'):gG T C (n+1) id∧∀j,iK C' j=iK C j+(jW T (n+1) id).count j:=by
 refine⟨⟨fun e he=>h.ok e he,fun k hk hk2=> ?_⟩,fun j=>h.cnt j⟩
 have:=h.one k hk hk2
 rw[h.cnt k]at this
 exact this
theorem IQ {α:Type} (f:α→Nat) (p:α→Bool):∀l:List α,((l.filter p).map f).sum≤(l.map f).sum
 |[]=>Nat.le_refl _
 |x::r=>by
  have:=IQ f p r
  rw[List.filter_cons]
  split
  ·rw[List.map_cons,List.map_cons,List.sum_cons,List.sum_cons];omega
  ·rw[List.map_cons,List.sum_cons];omega
theorem zL {T:aF} {n:Nat} {l:List (Nm×Int)} {left:Nm→Bool} {e:Nm×Int} (hp:l.Pairwise fun e e'=>e.1≠e'.1) (he:e∈l) (hl:left e.1=true) (j:Int):
  ((doneN left l).flatMap (jX T n)).count j+(jX T n e).count j≤(l.flatMap (jX T n)).count j:=by
 have h1:=pq (k:=e.1) (j:=e.2) hp he hl
 have h2:=(h1.flatMap_right (jX T n)).count_eq j
 rw[oK,List.count_append]at h2
 rw[←h2,List.count_flatMap,List.count_flatMap]
 exact IQ _ _ _
theorem EW {T:aF} {C:oJ} {n:Nat} {id:Int} {e:Nm×Int} (he:e∈aJ T id) (h:¬((ah e.2 T).isSome=true∧e.2≠0)):¬gG T C (n+1) id:=fun hL=>h ⟨(hL.1 e he).1,(hL.1 e he).2.1⟩
theorem wC {T:aF} {C:oJ} {id:Int} {e:Nm×Int} (he:e∈aJ T id):¬gG T C 0 id:=fun hL=>by
 have h1:aJ T id=[]:=hL.1
 rw[h1]at he
 cases he
theorem NA {T:aF} {C C':oJ} {n:Nat} {id:Int} {left:Nm→Bool} {e:Nm×Int} (hp:(aJ T id).Pairwise fun e e'=>e.1≠e'.1) (he:e∈aJ T id) (hl:left e.1=true) (h:jV T n C (doneN left (aJ T id)) C') (hk:bf T e.2=2) (h1:1<iK (lH C' e.2) e.2):¬gG T C (n+1) id:=fun hL=>by
 have h2:=zL (T:=T) (n:=n) hp he hl e.2
 have h3:=hL.2 e.2 (by rw[jk];exact List.mem_flatMap.2 ⟨e,he,by unfold jX;simp⟩) hk
 rw[jk]at h3
 rw[jE,if_pos rfl,h.cnt]at h1
 have h4:1≤(jX T n e).count e.2:=by unfold jX;rw[List.count_cons];simp
 omega
theorem NC {T:aF} {C C':oJ} {n:Nat} {id:Int} {left:Nm→Bool} {e:Nm×Int} (hp:(aJ T id).Pairwise fun e e'=>e.1≠e'.1) (he:e∈aJ T id) (hl:left e.1=true) (h:jV T n C (doneN left (aJ T id)) C') (hk:bf T e.2=2) (h1:¬gG T (lH C' e.2) n e.2):¬gG T C (n+1) id:=fun hL=>by
 refine h1 ⟨(hL.1 e he).2.2 hk,fun k hkv hk2=> ?_⟩
 have h2:=zL (T:=T) (n:=n) hp he hl k
 have he':jX T n e=e.2::jW T n e.2:=by unfold jX;rw[if_pos hk]
 have h3:=hL.2 k (by rw[jk];exact List.mem_flatMap.2 ⟨e,he,by rw[he'];simp[hkv]⟩) hk2
 rw[jk]at h3
 rw[he',List.count_cons]at h2
 rw[jE,h.cnt]
 by_cases hj:k=e.2
 ·subst hj
  simp only[beq_self_eq_true,if_true]at h2⊢
  omega
 ·rw[if_neg hj]
  omega
def ku (T:aF):Prop:=bf T 0=2∧T.length≤64∧gG T [(0,1)] 8 0∧∀q∈T,(((if q.1=0 then 1 else 0)+(jW T 8 0).count q.1:Nat):Int)=q.2.links∧¬(q.2.links=0∧q.2.closed=true)
theorem EX (j:Int):iK [(0,1)] j=if j=0 then 1 else 0:=by
 unfold iK
 rw[eU]
 by_cases h:(0:Int)=j
 ·rw[if_pos h,if_pos h.symm];rfl
 ·rw[if_neg h,if_neg (Ne.symm h)];rfl
theorem gI.QV {T:aF} (hT:fB T):qX T:=by
 refine⟨fun q hq=> ?_,hT.sorted,by have:=hT.len;omega⟩
 have hx:=aL bW hT.sorted hq
 have O:=hT.each _ _ hx
 have hi:=hT.ids _ _ hx
 have hl:=O.links
 have ht:=O.aO
 have hs:=O.size
 refine⟨⟨hi,?_,?_,?_,?_⟩,?_,O.file,O.sorted,O.good,fun e he=> ?_,by have:=hT.few hx;omega⟩
 ·show 0≤q.2.kind∧q.2.kind≤255
  rcases O.kind with h|h<;>omega
 ·show 0≤q.2.links∧q.2.links≤65535
  omega
 ·show 0≤(q.2.b.length:Int)∧(q.2.b.length:Int)≤65535
  omega
 ·show 0≤q.2.aO∧q.2.aO≤18446744073709551615
  omega
 ·rcases O.kind with h|h
  ·exact .inl ⟨h,by show(q.2.b.length:Int)≤4096;omega,ht.2⟩
  ·have hd:=O.dir h
   refine .inr ⟨h,?_,hd.2.2.2,hd.2.1⟩
   show(q.2.b.length:Int)=0
   rw[hd.2.2.1];rfl
 ·obtain⟨y,hy⟩:=Option.isSome_iff_exists.1 (hT.leads _ _ hx e he).1
  exact hT.ids _ _ hy
theorem dM.vis {T:aF} {dep:Int→Nat} (h:dM T dep) (hT:fB T):∀(n:Nat) (d:Int),8≤n+dep d→u_ T n d
 |0,d,hd=>by
  show aJ T d=[]
  cases hn:aJ T d with
  |nil=>rfl
  |cons e r=>
   obtain⟨x,hx,he⟩:=kK (T:=T) (id:=d) (e:=e) (by rw[hn];simp)
   have:=(h.up d x hx e he).1
   omega
 |n+1,d,hd=>fun e he=>by
  obtain⟨x,hx,he⟩:=kK he
  have hl:=hT.leads d x hx e he
  exact⟨hl.1,hl.2,fun hk=>h.vis hT n e.2 (by have:=(h.up d x hx e he).2 hk;omega)⟩
theorem zM {T:aF}:∀(n:Nat) (a:Int),u_ T n a→(0:Int)∉jW T n a
 |0,a,_=>by unfold jW;simp
 |n+1,a,h=>by
  rw[jk,List.mem_flatMap]
  rintro ⟨e,he,hm⟩
  obtain⟨h1,h2,h3⟩:=h e he
  unfold jX at hm
  rcases List.mem_cons.1 hm with hm|hm
  ·exact h2 hm.symm
  ·split at hm
   ·rename_i hk
    exact zM n e.2 (h3 hk) hm
   ·cases hm
theorem GV {T:aF} (hT:fB T) {a:Int} (h:bf T a≠2):aJ T a=[]:=by
 unfold aJ
 unfold bf at h
 cases hx:ah a T with
 |none=>rfl
 |some x=>
  rw[hx]at h
  exact(hT.each a x hx).file ((hT.each a x hx).kind.resolve_right h)
theorem BK {T:aF} (hT:fB T) (k:Int):∀(n:Nat) (a:Int) (p:List Nm),(jW T n a).count k+(if a=k then 1 else 0)=(fP T k n a p).length
 |0,a,p=>by
  unfold jW fP
  split<;>simp
 |n+1,a,p=>by
  rw[jk]
  unfold fP
  rw[List.length_append,List.count_flatMap,List.length_flatMap]
  have h1:(if a=k then[p]else[]).length=if a=k then 1 else 0:=by split<;>rfl
  rw[h1,Nat.add_comm]
  congr 1
  congr 1
  apply List.map_congr_left
  intro e he
  rw[←BK hT k n e.2 (p++[e.1])]
  show(jX T n e).count k=_
  unfold jX
  rw[List.count_cons]
  have h2:(if bf T e.2=2 then jW T n e.2 else[])=jW T n e.2:=by
   split
   ·rfl
   ·rename_i hk
    cases n with
    |zero=>rfl
    |succ n=>
     rw[jk,GV hT hk]
     rfl
  rw[h2]
  by_cases h3:e.2=k<;>simp[h3]
theorem GX {T:aF} (hO:gI T):ku T:=by
 have hO':=hO
 obtain⟨hT,dep,hd⟩:=hO
 have hv:=hd.vis hT 8 0 (by omega)
 have h0:=zM 8 0 hv
 have hcnt:∀k,k≠0→(jW T 8 0).count k=eB T k:=fun k hk=>by
  have:=BK hT k 8 0 []
  rw[if_neg (Ne.symm hk),Nat.add_zero,wI hO' hk]at this
  exact this
 refine⟨hT.root,hT.len,⟨hv,fun k hk hk2=> ?_⟩,fun q hq=> ?_⟩
 ·have hk0:k≠0:=fun e=>h0 (e▸hk)
  obtain⟨x,hx,hxk⟩:=eX hk2
  have h1:=hT.counts k x hx hk0
  rw[((hT.each k x hx).dir hxk).1]at h1
  rw[EX,if_neg hk0,hcnt k hk0]
  omega
 ·have hx:=aL bW hT.sorted hq
  have O:=hT.each _ _ hx
  refine⟨?_,fun hh=>by have:=O.gone hh.1;rw[hh.2]at this;cases this⟩
  by_cases hk0:q.1=0
  ·rw[if_pos hk0,hk0,List.count_eq_zero_of_not_mem h0]
   have hk2:q.2.kind=2:=by
    have:=hT.root
    rw[←hk0,aY hx]at this
    exact this
   rw[(O.dir hk2).1]
   rfl
  ·rw[if_neg hk0,hcnt _ hk0,Nat.zero_add]
   exact hT.counts _ _ hx hk0
end Go.Proofs.YtjnhnlabpccgjaaGreat
