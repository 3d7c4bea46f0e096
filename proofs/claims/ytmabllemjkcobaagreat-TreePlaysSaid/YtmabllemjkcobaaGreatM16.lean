/- tree: deep. How deep a tree is; Rename, as plain data. -/
import Derived.Test.YtmabllemjkcobaaGreatM15
namespace Go.Proofs.YtmabllemjkcobaaGreat
open Go.ChangeShapes Go.WideShapes Go.ChangeAt Go.RowKit
set_option linter.unusedVariables false
set_option linter.unusedSimpArgs false
def maxD (d:Int→Nat) (l:List (Nm×Int)):Nat:=(l.map fun e=>1+d e.2).foldr Nat.max 0
theorem vI (d:Int→Nat):∀{l:List (Nm×Int)} {e:Nm×Int},e∈l→1+d e.2≤maxD d l
 |x::r,e,h=>by
  have e1:maxD d (x::r)=Nat.max (1+d x.2) (maxD d r):=rfl
  rw[e1]
  rcases List.mem_cons.1 h with rfl|h
  ·exact Nat.le_max_left _ _
  ·exact Nat.le_trans (vI d h) (Nat.le_max_right _ _)
theorem maxD_le (d:Int→Nat) {m:Nat}:∀{l:List (Nm×Int)},(∀e∈l,1+d e.2≤m)→maxD d l≤m
 |[],_=>Nat.zero_le _
 |x::r,h=>by
  have e1:maxD d (x::r)=Nat.max (1+d x.2) (maxD d r):=rfl
  rw[e1]
  exact Nat.max_le.2 ⟨h x (by simp),maxD_le d fun e he=>h e (by simp[he])⟩
def iB (T:aG):Nat→Int→Nat
 |0,_=>0
 |n+1,id=>maxD (iB T n) (aX T id)
def vJ (T:aG):Nat→Int→Prop
 |0,id=>aX T id=[]
 |n+1,id=>∀e∈aX T id,vJ T n e.2
theorem vJ.le {T:aG}:∀{n:Nat} {id:Int},vJ T n id→iB T n id≤n
 |0,_,_=>Nat.le_refl _
 |n+1,id,h=>maxD_le _ fun e he=>by have:=(h e he).le;omega
section
variable {P:Program} {w:World} {ops:Array Oper} {rest:List Oper} {o:Oper} {a:Act} {Q:Exit→Act→World→Prop}
theorem lu (hg:o.guard=none) (m:Operand) (t k e:TypeId) (hop:o.op=Op.range t m) (ht:P.underlying t=some (.map k e)) (hm:a.eval m= .map none)
  (h:wpList P ops Q rest (a.put o.dst (.pointer (some ⟨w.heap.size,0,none⟩))) (w.alloc (.mapIter none 0 #[] 0))):wpList P ops Q (o::rest) a w:=by
 refine wpList_plain hg fun K' hK'=> ?_
 have hrun:(Instr.range t (.map none)).run P w= .ok (.pointer (some ⟨w.heap.size,0,none⟩)) (w.alloc (.mapIter none 0 #[] 0)):=by
  simp[Instr.range,run_underlying ht,Result.andThen]
 unfold Oper.wp
 simp[execOp,hop,hm,hrun,Result.andThen]
 exact hK' _ _ h
theorem mO (hg:o.guard=none) (it:Operand) (hop:o.op=Op.next it false) {r:Nat} (hit:a.eval it= .pointer (some ⟨r,0,none⟩)) (hr:w.heap[r]? =some (.mapIter none 0 #[] 0))
  (h:wpList P ops Q rest (a.put o.dst (.tuple #[.bool false])) w):wpList P ops Q (o::rest) a w:=by
 refine wpList_plain hg fun K' hK'=> ?_
 have hrun:(Instr.next (.pointer (some ⟨r,0,none⟩)) false o.type).run P w= .ok (.tuple #[.bool false]) w:=by
  simp only[Instr.next,getObj,Sem.run_bind,Sem.run,hr,Result.andThen]
  rfl
 unfold Oper.wp
 simp[execOp,hop,hit,hrun,Result.andThen]
 exact hK' _ _ h
end
section
variable {g:Nat→Own} {D:Nat→Prop} {p mb:Nat} {ib nb:Int→Nat} {T:aG}
def uM (p:Nat) (w:World) (id:Int) (n:Nat):Prop:=Calls Tryz.prog 151 #[ptr p, .int .i64 id] w fun e w'=>e= .returned (.int .i64 n)∧Below w.heap.size w w'
def Qy (w:World) (d:Int→Nat) (x:bW) (WQ r:Nat) (v:Value) (wr:World):Prop:=
 ∃(m:Nat) (left:Nm→Bool) (cnt:Nat),v= .int .i64 m∧m≤maxD d x.names∧(∀e∈x.names,left e.1=false→1+d e.2≤m)∧eP dN wr WQ r (cO x) left cnt∧Below w.heap.size w wr
set_option maxHeartbeats 1000000 in
theorem CB (id:Int) (x:bW) (d:Int→Nat) (w:World) (h:aO g D w p mb ib nb T) (hT:dX T) (hx:aj id T=some x) (hd:∀e∈x.names,d e.2≤64)
  (hc:∀e∈x.names,∀w1,Below w.heap.size w w1→uM p w1 e.2 (d e.2)):uM p w id (maxD d x.names):=by
 obtain⟨hc0,hpw,hmw⟩:=h.cell
 have lq:=hT.ids id x hx
 have hok:bC.ok id:=mh lq.1 (by omega)
 obtain⟨c0,c1,c2,c3,c4,c5,c7,hiw⟩:=(h.item id x hx).cell
 have hget:aj id (T.map fun q=>(q.1,ptr (ib q.1)))=some (ptr (ib id)):=by rw[dR,hx];rfl
 have HG:=Lib.hid hget
 have gG:=Lib.hid h.map
 have HC:=Lib.hid hc
 have HD:=Lib.hid hd
 have O1:=Lib.hid (hT.each id x hx)
 by_cases hk:x.kind=2
 ·have e2:gF x (nb id)= .map (some (nb id)):=if_pos hk
  rw[e2]at c7
  have HN:=Lib.hid ((h.item id x hx).names hk)
  have hbw:=HN.out.lt
  clear hget hc hd h hk e2 hT
  unfold uM
  go_enter Tryz.func151,Tryz.ntmps151
  go_wp2_with (first|(at_lookup;refine aW bC rfl _ _ 101 99 rfl Tryz.underlying101 (Tryz.bA _) rfl gG.out id rfl hok ?_;rw[HG.out])|(at_range;refine kM dN rfl _ 112 3 rfl Tryz.underlying112 rfl HN.out ?_;intro w0 hR0 hB0 hs0))
  go_frame
  go_loopw [5,7] (fun v _ wr=>Qy w d x (nb id) w.heap.size v wr) (fun _ _ wr=>wr.rangeLeft (nb id) w.heap.size)
  case atStart=>
   refine⟨0,_,_,rfl,Nat.zero_le _,fun e he hl=> ?_,hR0,hB0⟩
   simp only[eB]at hl
   rw[bf l8 O1.out.sorted he]at hl
   cases hl
  case round=>
   obtain⟨m,left,cnt,rfl,hm,WR,hR,hB⟩:=hrel
   have HB:=Lib.hid hB
   have WS:=Lib.hid WR
   have HR:=Lib.hid hR
   have hmd:maxD d x.names≤65:=maxD_le d fun e he=>by have:=HD.out e he;omega
   clear WR hR hB
   go_wp2_with (first|(at_next;refine l7 dN rfl _ rfl rfl HR.out ?_ ?_))
   ·intro hdone
    have Bv:=Lib.hid hdone
    clear hdone
    go_wp2
    go_ret
    refine⟨gV ?_,HB.out⟩
    have:maxD d x.names≤m:=maxD_le d fun e he=>WS.out e he (Bv.out _)
    omega
   ·intro k v w3 cnt1 Nl hleft hg2 om hlt hK1 hs1 hen
    rw[eB]at hg2
    cases hk2:aj k x.names with
    |none=>rw[hk2]at hg2;cases hg2
    |some j=>
     rw[hk2]at hg2
     cases hg2
     have hmem:=bP hk2
     have hB3:Below w.heap.size w w3:=⟨hK1.os.trans HB.out.os,hK1.tape.trans HB.out.tape,hK1.output.trans HB.out.output,by rw[hs1];exact HB.out.size,fun b hb=>(hK1.block b (by have:=HB.out.size;omega) (by omega)).trans (HB.out.block b hb)⟩
     have T_:=Lib.hid (HC.out _ hmem w3 hB3)
     have hdj:=HD.out _ hmem
     have hjm:=vI d hmem
     have HB3:=Lib.hid hB3
     have HR1:=Lib.hid om
     have DZ:=Lib.hid hk2
     have CF:=Lib.hid hlt
     simp only at hdj hjm
     have e1:IntKind.i64.wrap (1+(d j:Int))=1+(d j:Int):=IntWalk.i64_in _ (by omega)
     have hrw:=HR.out.lt
     clear hk2 hmem om hB3 hlt hK1
     show wpList _ _ _ _ _ _
     have e3:dN.val k= .string (strOf k):=rfl
     rw[e3]at hen⊢
     clear e3
     have Ua:=Lib.hid (show Calls Tryz.prog 151 #[ptr p, .int .i64 j] w3 _ from T_.out)
     go_wp2_with fail
     (with_reducible refine Ua.out.mono ?_)
     rintro e w4 ⟨rfl,hb4⟩
     have eO:=Lib.hid hb4
     clear hb4
     go_wp2_with fail
     go_roundw
     case rel=>
      have hs4:=eO.out.size
      refine⟨Nat.max m (1+d j),_,cnt1,?_,Nat.max_le.2 ⟨hm,hjm⟩,fun e he hl=> ?_,HR1.out.kept (eO.out.block _ HR1.out.lt.1) (eO.out.block _ HR1.out.lt.2.1),HB3.out.trans (eO.out.mono HB3.out.size)⟩
      ·congr 1
       show max (m:Int) (1+(d j:Int))=((Nat.max m (1+d j):Nat):Int)
       rcases Nat.le_total m (1+d j)with h0|h0
       ·rw[show Nat.max m (1+d j)=1+d j from Nat.max_eq_right h0];omega
       ·rw[show Nat.max m (1+d j)=m from Nat.max_eq_left h0];omega
      ·by_cases hek:e.1=k
       ·have h1:=bf l8 O1.out.sorted he
        rw[hek,DZ.out]at h1
        have h2:j=e.2:=Option.some.inj h1
        rw[←h2]
        exact Nat.le_max_right _ _
       ·refine Nat.le_trans (WS.out e he ?_) (Nat.le_max_left _ _)
        simpa[hek]using hl
     case measure=>
      have h4:eP dN w4 (nb id) w.heap.size (cO x) _ cnt1:=HR1.out.kept (eO.out.block _ HR1.out.lt.1) (eO.out.block _ HR1.out.lt.2.1)
      rw[h4.measure,HR.out.measure]
      exact CF.out
 ·have e2:gF x (nb id)= .map none:=if_neg hk
  rw[e2]at c7
  have hnil:x.names=[]:=O1.out.file (O1.out.kind.resolve_right hk)
  have Ij:=Lib.hid hnil
  clear hget hc hd h hk e2 hT hnil
  unfold uM
  rw[Ij.out]
  go_enter Tryz.func151,Tryz.ntmps151
  go_wp2_with (first|(at_lookup;refine aW bC rfl _ _ 101 99 rfl Tryz.underlying101 (Tryz.bA _) rfl gG.out id rfl hok ?_;rw[HG.out])|(at_range;refine lu rfl _ 112 9 3 rfl Tryz.underlying112 rfl ?_))
  go_frame
  go_loopw [5,7] (fun v _ wr=>v= .int .i64 0∧wr=w.alloc (.mapIter none 0 #[] 0)) (fun _ _ wr=>0)
  case atStart=>exact⟨rfl,rfl⟩
  case round=>
   obtain⟨rfl,rfl⟩:=hrel
   go_wp2_with (first|(at_next;refine mO rfl _ rfl rfl (MapKept.heap_alloc w _).1 ?_))
   go_ret
   exact⟨rfl,wall w _⟩
theorem Fj (hT:dX T):∀(n:Nat) (id:Int) (w:World),aO g D w p mb ib nb T→(aj id T).isSome=true→vJ T n id→n≤64→uM p w id (iB T n id)
 |0,id,w,h,hi,hs,hn=>by
  obtain⟨x,hx⟩:=Option.isSome_iff_exists.1 hi
  have e:x.names=[]:=by have h1:aX T id=[]:=hs;unfold aX at h1;rw[hx]at h1;exact h1
  have:=CB id x (fun _=>0) w h hT hx (fun _ _=>Nat.zero_le _) (fun y he=>by rw[e]at he;cases he)
  rw[e]at this
  exact this
 |n+1,id,w,h,hi,hs,hn=>by
  obtain⟨x,hx⟩:=Option.isSome_iff_exists.1 hi
  have e:aX T id=x.names:=by unfold aX;rw[hx]
  have hs':∀e∈x.names,vJ T n e.2:=fun y hy=>hs y (by rw[e];exact hy)
  have:=CB id x (iB T n) w h hT hx (fun y hy=>Nat.le_trans (hs' y hy).le (by omega)) (fun y hy w1 hb=>
   Fj hT n y.2 w1 (h.below hb (Nat.le_refl _)) (hT.leads id x hx y hy).1 (hs' y hy) (by omega))
  rw[←e]at this
  exact this
end
structure dQ (T:aG) (dep:Int→Nat):Prop where
 zero:dep 0=0
 up:∀d x,aj d T=some x→∀e∈x.names,dep d<8∧(bO T e.2=2→dep e.2=dep d+1)
theorem dK {T:aG} {id:Int} {x:bW} (hx:aj id T=some x):aX T id=x.names:=by unfold aX;rw[hx]
theorem oo {T:aG} {id:Int} {e:Nm×Int} (h:e∈aX T id):∃x,aj id T=some x∧e∈x.names:=by
 unfold aX at h
 cases hx:aj id T with
 |none=>rw[hx]at h;cases h
 |some x=>rw[hx]at h;exact⟨x,rfl,h⟩
theorem lC {T:aG} (hT:dX T) {id:Int} {x:bW} (hx:aj id T=some x) {e:Nm×Int} (he:e∈x.names):x.kind=2:=by
 rcases (hT.each id x hx).kind with h|h
 ·rw[(hT.each id x hx).file h]at he;cases he
 ·exact h
theorem Nn {T:aG} {id:Int} (h:aX T id=[]):∀n,vJ T n id
 |0=>h
 |n+1=>fun e he=>by rw[h]at he;cases he
theorem dQ.Ik {T:aG} {dep:Int→Nat} (h:dQ T dep) (hT:dX T):∀(n:Nat) (d:Int),8≤n+dep d→vJ T n d
 |0,d,hd=>by
  show aX T d=[]
  cases hn:aX T d with
  |nil=>rfl
  |cons e r=>
   obtain⟨x,hx,he⟩:=oo (T:=T) (id:=d) (e:=e) (by rw[hn];simp)
   have:=(h.up d x hx e he).1
   omega
 |n+1,d,hd=>fun e he=>by
  obtain⟨x,hx,he⟩:=oo he
  by_cases hk:bO T e.2=2
  ·have:=(h.up d x hx e he).2 hk
   exact h.Ik hT n e.2 (by omega)
  ·refine Nn ?_ n
   obtain⟨y,hy⟩:=Option.isSome_iff_exists.1 (hT.leads d x hx e he).1
   rw[bQ hy]at hk
   rw[dK hy]
   exact(hT.each _ y hy).file ((hT.each _ y hy).kind.resolve_right hk)
theorem dQ.JZ {T:aG} {dep:Int→Nat} (h:dQ T dep) (hT:dX T) (d:Int):vJ T 8 d:=h.Ik hT 8 d (by omega)
theorem jy {T:aG} {a d:Int} {n:Nm} {r:List Nm} (h:aH T a (n::r)=(d,0)):∃x k,aj a T=some x∧x.kind=2∧aj n x.names=some k∧aH T k r=(d,0):=by
 simp only[aH]at h
 cases hx:aj a T with
 |none=>rw[hx]at h;cases h
 |some x=>
  rw[hx]at h
  simp only at h
  by_cases hk:x.kind=2
  ·rw[if_pos hk]at h
   cases hn:aj n x.names with
   |none=>rw[hn]at h;cases h
   |some k=>rw[hn]at h;exact⟨x,k,rfl,hk,hn,h⟩
  ·rw[if_neg hk]at h;cases h
theorem r_ {T:aG} {dep:Int→Nat} (h:dQ T dep):∀(p:List Nm) (a d:Int),aH T a p=(d,0)→bO T d=2→dep d=dep a+p.length
 |[],a,d,hl,_=>by
  have:a=d:=congrArg Prod.fst hl
  subst this;rfl
 |n::r,a,d,hl,hd=>by
  obtain⟨x,k,hx,hk,hn,hl⟩:=jy hl
  have hkk:bO T k=2:=by
   cases r with
   |nil=>
    have:k=d:=congrArg Prod.fst hl
    rw[this];exact hd
   |cons m s=>
    obtain⟨y,j,hy,hyk,_⟩:=jy hl
    rw[bQ hy];exact hyk
  have h1:=(h.up a x hx _ (bP hn)).2 hkk
  have h2:=r_ h r k d hl hd
  simp only at h1
  rw[List.length_cons]
  omega
theorem vK {T:aG} (hT:dX T) {a b k:Int} {x y:bW} {n m:Nm} (hx:aj a T=some x) (hn:aj n x.names=some k) (hy:aj b T=some y) (hm:aj m y.names=some k) (hk:bO T k=2):a=b∧n=m:=by
 obtain⟨z,hz,WT⟩:=gM hk
 have h0:=(hT.leads a x hx _ (bP hn)).2
 have hc:=hT.counts k z hz h0
 rw[((hT.each k z hz).dir WT).1]at hc
 have h1:=qd hT.toyQ hx hn k
 rw[if_pos rfl]at h1
 have h2:gy (aF T a n) k=0:=by omega
 by_cases hab:b=a
 ·subst hab
  rw[hx]at hy;cases hy
  refine⟨rfl,?_⟩
  by_cases hnm:m=n
  ·exact hnm.symm
  ·have hg:aj b (aF T b n)=some {x with names:=bR n x.names}:=by unfold aF;rw[bq,if_pos rfl,hx];rfl
   have hm':aj m (bR n x.names)=some k:=by rw[mH hnm];exact hm
   exact absurd rfl (yZ h2 hg _ (bP hm'))
 ·have hg:aj b (aF T a n)=some y:=by unfold aF;rw[bq,if_neg hab];exact hy
  exact absurd rfl (yZ h2 hg _ (bP hm))
theorem vL {T:aG} (hT:dX T):∀(l:Nat) (p q:List Nm) (d:Int),p.length≤l→aH T 0 p=(d,0)→aH T 0 q=(d,0)→bO T d=2→p=q
 |l,p,q,d,hl,hp,hq,hd=>by
  by_cases h1:p=[]
  ·subst h1
   by_cases h2:q=[]
   ·exact h2.symm
   ·obtain⟨d',x,n,-,-,hx,_,hn,_⟩:=dB hq h2
    have h0:(0:Int)=d:=congrArg Prod.fst hp
    have:=(hT.leads d' x hx _ (bP hn)).2
    exact absurd h0.symm this
  ·obtain⟨d1,x,n,-,hl1,hx,hxk,hn,_,e1⟩:=dB hp h1
   by_cases h2:q=[]
   ·subst h2
    have h0:(0:Int)=d:=congrArg Prod.fst hq
    have:=(hT.leads d1 x hx _ (bP hn)).2
    exact absurd h0.symm this
   ·obtain⟨d2,y,m,-,hl2,hy,_,hm,_,e2⟩:=dB hq h2
    obtain⟨hab,hnm⟩:=vK hT hx hn hy hm hd
    subst hab hnm
    have hlen:p.dropLast.length<p.length:=by
     rw[List.length_dropLast]
     have:p.length≠0:=fun e=>h1 (List.eq_nil_of_length_eq_zero e)
     omega
    match l,hl with
    |0,hl=>exact absurd (List.eq_nil_of_length_eq_zero (by omega)) h1
    |l+1,hl=>
     have:=vL hT l p.dropLast q.dropLast d1 (by omega) hl1 hl2 ((bQ hx).trans hxk)
     rw[e1,e2,this]
def Il (T:aG) (id d:Int):Prop:=∃q,aH T id q=(d,0)
theorem J3 {T:aG} (hT:dX T):∀(q:List Nm) (id d:Int) (x:bW) (e:Nm×Int) (n:Nat),aH T id q=(d,0)→aj d T=some x→e∈x.names→q.length<n→q.length+1≤iB T n id
 |[],id,d,x,e,n+1,hl,hx,he,hn=>by
  have:id=d:=congrArg Prod.fst hl
  subst this
  have:1+iB T n e.2≤maxD (iB T n) (aX T id):=vI _ (by rw[dK hx];exact he)
  show 0+1≤maxD (iB T n) (aX T id)
  omega
 |m::r,id,d,x,e,n+1,hl,hx,he,hn=>by
  obtain⟨y,k,hy,hyk,hm,hl⟩:=jy hl
  rw[List.length_cons]at hn
  have h1:=J3 hT r k d x e n hl hx he (by omega)
  have:1+iB T n k≤maxD (iB T n) (aX T id):=vI (iB T n) (e:=(m,k)) (by rw[dK hy];exact bP hm)
  show(m::r).length+1≤maxD (iB T n) (aX T id)
  rw[List.length_cons]
  omega
 |q,_,_,_,_,0,_,_,_,hn=>by omega
def jk (p q:List Nm):Bool:=decide (p.take q.length=q)
def iM (T:aG) (p tq:List Nm):Int:=
 if je p tq≠0 then je p tq else
 if (aH T 0 p).2≠0 then(aH T 0 p).2 else
 if (aH T 0 p).1=0 then 1 else
 if (aI T tq).2.2≠0 then(aI T tq).2.2 else
 if bO T (aH T 0 p).1=2∧jk tq p=true then 1 else
 match aj (aI T tq).2.1 (aX T (aI T tq).1)with
 |some k=>if k=(aH T 0 p).1 then 0 else 21
 |none=>if 8<tq.length+iB T 8 (aH T 0 p).1 then 3 else 0
def qg (T:aG) (p tq:List Nm):aG:=setName (aF T (aI T p).1 (aI T p).2.1) (aI T tq).1 (aI T tq).2.1 (aH T 0 p).1
def bB (T:aG) (p tq:List Nm):Int×aG:=
 (iM T p tq,if iM T p tq=0∧(aj (aI T tq).2.1 (aX T (aI T tq).1)).isSome=false then qg T p tq else T)
theorem dX.move {T:aG} (h:dX T) {d1 d2 id:Int} {x1 x2:bW} {n1 n2:Nm} (hx1:aj d1 T=some x1) (hk1:x1.kind=2) (hn1:aj n1 x1.names=some id) (hx2:aj d2 T=some x2) (hk2:x2.kind=2) (hg2:dw n2=true) (hn2:aj n2 x2.names=none):
  dX (setName (aF T d1 n1) d2 n2 id):=by
 have hid:=h.leads d1 x1 hx1 _ (bP hn1)
 have hP:=h.toyQ.cut (n:=n1) hx1 hk1
 obtain⟨x3,hx3,hk3,WU⟩:∃x3,aj d2 (aF T d1 n1)=some x3∧x3.kind=2∧aj n2 x3.names=none:=by
  unfold aF
  rw[bq]
  by_cases hd:d2=d1
  ·subst hd
   rw[hx1]at hx2;cases hx2
   rw[if_pos rfl,hx1]
   refine⟨_,rfl,hk1,?_⟩
   show aj n2 (bR n1 x1.names)=none
   rw[fO]
   split
   ·rfl
   ·exact hn2
  ·rw[if_neg hd];exact⟨x2,hx2,hk2,hn2⟩
 have Zj:(aj id (aF T d1 n1)).isSome=true:=by
  unfold aF;rw[bq]
  split<;>simp[hid.1]
 refine⟨hP.set hx3 hk3 hg2 ⟨Zj,hid.2⟩,fun j z hz hj=> ?_⟩
 have h1:=qd h.toyQ hx1 hn1 j
 have h2:=lg hP.sorted (fun x=>{x with names:=dF bytesBefore n2 id x.names}) hx3 j
 have h3:=H9 (id:=id) WU j
 have e:gy (setName (aF T d1 n1) d2 n2 id) j=gy T j:=by
  unfold setName
  omega
 rw[e]
 unfold setName at hz
 rw[bq]at hz
 obtain⟨z1,hz1,hl1⟩:∃z1,aj j (aF T d1 n1)=some z1∧z.links=z1.links:=by
  by_cases hjd:j=d2
  ·rw[if_pos hjd]at hz
   cases hq:aj j (aF T d1 n1)with
   |none=>rw[hq]at hz;cases hz
   |some z1=>
    rw[hq]at hz
    simp only[Option.map_some,Option.some.injEq]at hz
    exact⟨z1,rfl,by rw[←hz]⟩
  ·rw[if_neg hjd]at hz;exact⟨z,hz,rfl⟩
 obtain⟨z2,hz2,hl2,_⟩:=D7 hz1
 rw[hl1,hl2]
 exact h.counts j z2 hz2 hj
theorem Fp {T:aG} (hT:dX T) {id a k:Int} {x:bW} {n:Nm} (hx:aj a T=some x) (hn:aj n x.names=some k) (hk:bO T k=2) (hki:k≠id):Il T id k↔Il T id a:=by
 constructor
 ·rintro ⟨q,hq⟩
  rcases List.eq_nil_or_concat q with rfl|⟨r,m,rfl⟩
  ·exact absurd (congrArg Prod.fst hq).symm hki
  ·rw[List.concat_eq_append,gX]at hq
   by_cases he:(aH T id r).2=0
   ·rw[if_pos he]at hq
    obtain⟨y,j,hy,hyk,hm,hl⟩:=jy hq
    have:j=k:=congrArg Prod.fst hl
    subst this
    obtain⟨hab,_⟩:=vK hT hx hn hy hm hk
    exact⟨r,Prod.ext hab.symm he⟩
   ·rw[if_neg he]at hq
    rw[hq]at he
    exact absurd rfl he
 ·rintro ⟨q,hq⟩
  refine⟨q++[n],?_⟩
  rw[gX,hq]
  simp only[if_pos]
  have:=lC hT hx (bP hn)
  simp only[aH,hx,if_pos this,hn]
theorem zL {T:aG} {d1 d2 id:Int} {n1 n2:Nm} {a:Int} {x:bW} (h:aj a (setName (aF T d1 n1) d2 n2 id)=some x):∃y,aj a T=some y∧x.kind=y.kind∧∀e∈x.names,(e∈y.names∧¬(a=d1∧e.1=n1))∨(a=d2∧e=(n2,id)):=by
 obtain⟨z,hz,hk,hc⟩:∃z,aj a (aF T d1 n1)=some z∧x.kind=z.kind∧∀e∈x.names,e∈z.names∨(a=d2∧e=(n2,id)):=by
  unfold setName at h
  rw[bq]at h
  by_cases hd:a=d2
  ·rw[if_pos hd]at h
   cases hz:aj a (aF T d1 n1)with
   |none=>rw[hz]at h;cases h
   |some z=>
    rw[hz]at h
    simp only[Option.map_some,Option.some.injEq]at h
    refine⟨z,rfl,by rw[←h],fun e he=> ?_⟩
    rw[←h]at he
    rcases (l6 bytesBefore).1 he with h2|h2
    ·exact .inr ⟨hd,h2⟩
    ·exact .inl (List.mem_filter.1 h2).1
  ·rw[if_neg hd]at h;exact⟨x,h,rfl,fun e he=> .inl he⟩
 unfold aF at hz
 rw[bq]at hz
 by_cases hd:a=d1
 ·rw[if_pos hd]at hz
  cases hy:aj a T with
  |none=>rw[hy]at hz;cases hz
  |some y=>
   rw[hy]at hz
   simp only[Option.map_some,Option.some.injEq]at hz
   refine⟨y,rfl,by rw[hk,←hz],fun e he=> ?_⟩
   rcases hc e he with h1|h1
   ·rw[←hz]at h1
    have h2:=List.mem_filter.1 h1
    refine .inl ⟨h2.1,fun h3=> ?_⟩
    have:=h2.2
    simp[h3.2]at this
   ·exact .inr h1
 ·rw[if_neg hd]at hz
  refine⟨z,hz,hk,fun e he=> ?_⟩
  rcases hc e he with h1|h1
  ·exact .inl ⟨h1,fun h=>hd h.1⟩
  ·exact .inr h1
theorem xq {T:aG} {d:Int} {f:bW→bW} (hf:∀x,(f x).kind=x.kind) (k:Int):bO (bH d f T) k=bO T k:=by
 unfold bO
 rw[bq]
 by_cases h:k=d
 ·rw[if_pos h]
  cases aj k T with
  |none=>rfl
  |some y=>exact hf y
 ·rw[if_neg h]
theorem CG {T:aG} {d1 d2 id:Int} {n1 n2:Nm} (k:Int):bO (setName (aF T d1 n1) d2 n2 id) k=bO T k:=by
 unfold setName aF
 exact(xq (fun _=>by exact rfl) k).trans (xq (fun _=>by exact rfl) k)
open Classical in
theorem dQ.move {T:aG} {dep:Int→Nat} (h:dQ T dep) (hT:dX T) {p tq:List Nm} {id dt:Int} {nt:Nm} (hp:aH T 0 p=(id,0)) (h0:id≠0) (hto:aI T tq=(dt,nt,0)) (hf:tq.length≤8) (hw:bO T id=2→jk tq p=false∧tq.length+iB T 8 id≤8):
  ∃Ub,dQ (setName (aF T (aI T p).1 (aI T p).2.1) dt nt id) Ub:=by
 have hpn:p≠[]:=fun e=>by subst e;exact h0 (congrArg Prod.fst hp).symm
 obtain⟨d1,x1,n1,e1,hl1,hx1,hk1,hn1,_,ep⟩:=dB hp hpn
 rw[e1]
 obtain⟨hln,hlt,hkt⟩:tq≠[]∧aH T 0 tq.dropLast=(dt,0)∧bO T dt=2:=by
  unfold aI at hto
  by_cases ht0:tq=[]
  ·rw[if_pos ht0]at hto;cases hto
  ·rw[if_neg ht0]at hto
   by_cases ht1:(aH T 0 tq.dropLast).2≠0
   ·rw[if_pos ht1]at hto
    exact absurd (congrArg (·.2.2) hto) ht1
   ·rw[if_neg ht1]at hto
    by_cases ht2:bO T (aH T 0 tq.dropLast).1=2
    ·rw[if_pos ht2]at hto
     have h3:(aH T 0 tq.dropLast).1=dt:=congrArg Prod.fst hto
     exact⟨ht0,Prod.ext h3 (by simpa using ht1),h3▸ht2⟩
    ·rw[if_neg ht2]at hto;cases hto
 have hdt:=r_ h _ 0 dt hlt hkt
 rw[h.zero,List.length_dropLast]at hdt
 have htl:tq.length≠0:=fun e=>hln (List.eq_nil_of_length_eq_zero e)
 by_cases hk:bO T id=2
 ·obtain⟨hw1,hw2⟩:=hw hk
  have Zk:=r_ h p 0 id hp hk
  rw[h.zero]at Zk
  have hnt:¬Il T id dt:=by
   rintro ⟨q,hq⟩
   have h3:aH T 0 (p++q)=(dt,0):=by rw[gX,hp];simp only[if_pos];exact hq
   have h4:=vL hT _ _ _ dt (Nat.le_refl _) hlt h3 hkt
   have h5:tq.take p.length=p:=by
    have h6:tq.dropLast.take p.length=p:=by rw[h4,List.take_left]
    have h7:p.length≤tq.length-1:=by
     have:=congrArg List.length h4
     rw[List.length_dropLast,List.length_append]at this
     omega
    rw[List.dropLast_eq_take,List.take_take,Nat.min_eq_left h7]at h6
    exact h6
   unfold jk at hw1
   rw[h5]at hw1
   simp at hw1
  refine⟨fun d=>if Il T id d then dep d+tq.length-p.length else dep d,?_,fun d x hx e he=> ?_⟩
  ·have:¬Il T id 0:=by
    rintro ⟨q,hq⟩
    have h3:aH T 0 (p++q)=(0,0):=by rw[gX,hp];simp only[if_pos];exact hq
    have h4:=vL hT 0 [] _ 0 (Nat.le_refl _) rfl h3 hT.root
    have:=congrArg List.length h4
    rw[List.length_append]at this
    exact hpn (List.eq_nil_of_length_eq_zero (by simp at this;omega))
   simp only[if_neg this,h.zero]
  ·obtain⟨y,hy,hxy,hnm⟩:=zL hx
   rw[CG]
   rcases hnm e he with⟨Wi,hne⟩|⟨hd,hee⟩
   ·have hup:=h.up d y hy e Wi
    have hyk:=lC hT hy Wi
    have hn:=bf l8 (hT.each d y hy).sorted Wi
    by_cases hD:Il T id d
    ·obtain⟨q,hq⟩:=hD
     have h3:=r_ h q id d hq ((bQ hy).trans hyk)
     have hq8:q.length<8:=by have:=hup.1;omega
     have h4:=J3 hT q id d y e 8 hq hy Wi hq8
     simp only[if_pos (show Il T id d from⟨q,hq⟩)]
     refine⟨by omega,fun hek=> ?_⟩
     have SK:e.2≠id:=fun h5=>by
      obtain⟨h6,h7⟩:=vK hT hx1 hn1 hy (by rw[←h5];exact hn) hk
      exact hne ⟨h6.symm,h7.symm⟩
     have:=hup.2 hek
     rw[if_pos ((Fp hT hy hn hek SK).2 ⟨q,hq⟩)]
     omega
    ·simp only[if_neg hD]
     refine⟨hup.1,fun hek=> ?_⟩
     have SK:e.2≠id:=fun h5=>by
      obtain⟨h6,h7⟩:=vK hT hx1 hn1 hy (by rw[←h5];exact hn) hk
      exact hne ⟨h6.symm,h7.symm⟩
     rw[if_neg (fun h6=>hD ((Fp hT hy hn hek SK).1 h6))]
     exact hup.2 hek
   ·subst hd hee
    simp only[if_neg hnt]
    refine⟨by omega,fun _=> ?_⟩
    rw[if_pos ⟨[],rfl⟩]
    omega
 ·refine⟨dep,h.zero,fun d x hx e he=> ?_⟩
  obtain⟨y,hy,hxy,hnm⟩:=zL hx
  rw[CG]
  rcases hnm e he with⟨Wi,_⟩|⟨hd,hee⟩
  ·exact h.up d y hy e Wi
  ·subst hd hee
   exact⟨by omega,fun h3=>absurd h3 hk⟩
end Go.Proofs.YtmabllemjkcobaaGreat
