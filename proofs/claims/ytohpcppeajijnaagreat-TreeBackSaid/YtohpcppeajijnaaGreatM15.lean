/- tree: deep. How deep a tree is; Rename, as plain data. -/
import Derived.Test.YtohpcppeajijnaaGreatM14
namespace Go.Proofs.YtohpcppeajijnaaGreat
open Go.ChangeShapes Go.WideShapes Go.ChangeAt Go.RowKit
set_option linter.unusedVariables false
set_option linter.unusedSimpArgs false
def maxD (d:Int→Nat) (l:List (Nm×Int)):Nat:=(l.map fun e=>1+d e.2).foldr Nat.max 0
theorem r9 (d:Int→Nat):∀{l:List (Nm×Int)} {e:Nm×Int},e∈l→1+d e.2≤maxD d l
 |x::r,e,h=>by
  have e1:maxD d (x::r)=Nat.max (1+d x.2) (maxD d r):=rfl
  rw[e1]
  rcases List.mem_cons.1 h with rfl|h
  ·exact Nat.le_max_left _ _
  ·exact Nat.le_trans (r9 d h) (Nat.le_max_right _ _)
theorem maxD_le (d:Int→Nat) {m:Nat}:∀{l:List (Nm×Int)},(∀e∈l,1+d e.2≤m)→maxD d l≤m
 |[],_=>Nat.zero_le _
 |x::r,h=>by
  have e1:maxD d (x::r)=Nat.max (1+d x.2) (maxD d r):=rfl
  rw[e1]
  exact Nat.max_le.2 ⟨h x (by simp),maxD_le d fun e he=>h e (by simp[he])⟩
def fV (T:aF):Nat→Int→Nat
 |0,_=>0
 |n+1,id=>maxD (fV T n) (aO T id)
def t_ (T:aF):Nat→Int→Prop
 |0,id=>aO T id=[]
 |n+1,id=>∀e∈aO T id,t_ T n e.2
theorem t_.le {T:aF}:∀{n:Nat} {id:Int},t_ T n id→fV T n id≤n
 |0,_,_=>Nat.le_refl _
 |n+1,id,h=>maxD_le _ fun e he=>by have:=(h e he).le;omega
section
variable {P:Program} {w:World} {ops:Array Oper} {rest:List Oper} {o:Oper} {a:Act} {Q:Exit→Act→World→Prop}
theorem nE (hg:o.guard=none) (m:Operand) (t k e:TypeId) (hop:o.op=Op.range t m) (ht:P.underlying t=some (.map k e)) (hm:a.eval m= .map none)
  (h:wpList P ops Q rest (a.put o.dst (.pointer (some ⟨w.heap.size,0,none⟩))) (w.alloc (.mapIter none 0 #[] 0))):wpList P ops Q (o::rest) a w:=by
 refine wpList_plain hg fun K' hK'=> ?_
 have hrun:(Instr.range t (.map none)).run P w= .ok (.pointer (some ⟨w.heap.size,0,none⟩)) (w.alloc (.mapIter none 0 #[] 0)):=by
  simp[Instr.range,run_underlying ht,Result.andThen]
 unfold Oper.wp
 simp[execOp,hop,hm,hrun,Result.andThen]
 exact hK' _ _ h
theorem oK (hg:o.guard=none) (it:Operand) (hop:o.op=Op.next it false) {r:Nat} (hit:a.eval it= .pointer (some ⟨r,0,none⟩)) (hr:w.heap[r]? =some (.mapIter none 0 #[] 0))
  (h:wpList P ops Q rest (a.put o.dst (.tuple #[.bool false])) w):wpList P ops Q (o::rest) a w:=by
 refine wpList_plain hg fun K' hK'=> ?_
 have hrun:(Instr.next (.pointer (some ⟨r,0,none⟩)) false o.type).run P w= .ok (.tuple #[.bool false]) w:=by
  simp only[Instr.next,getObj,Sem.run_bind,Sem.run,hr,Result.andThen]
  rfl
 unfold Oper.wp
 simp[execOp,hop,hit,hrun,Result.andThen]
 exact hK' _ _ h
end
section
variable {g:Nat→Own} {D:Nat→Prop} {p mb:Nat} {ib nb:Int→Nat} {T:aF}
def rz (p:Nat) (w:World) (id:Int) (n:Nat):Prop:=Calls Tryz.prog 143 #[ptr p, .int .i64 id] w fun e w'=>e= .returned (.int .i64 n)∧Below w.heap.size w w'
def Kn (w:World) (d:Int→Nat) (x:bF) (R7 r:Nat) (v:Value) (wr:World):Prop:=
 ∃(m:Nat) (left:Nm→Bool) (cnt:Nat),v= .int .i64 m∧m≤maxD d x.names∧(∀e∈x.names,left e.1=false→1+d e.2≤m)∧eB cK wr R7 r (bO x) left cnt∧Below w.heap.size w wr
set_option maxHeartbeats 1000000 in
theorem yQ (id:Int) (x:bF) (d:Int→Nat) (w:World) (h:aJ g D w p mb ib nb T) (hT:dG T) (hx:aj id T=some x) (hd:∀e∈x.names,d e.2≤64)
  (hc:∀e∈x.names,∀w1,Below w.heap.size w w1→rz p w1 e.2 (d e.2)):rz p w id (maxD d x.names):=by
 obtain⟨hc0,hpw,hmw⟩:=h.cell
 have l7:=hT.ids id x hx
 have hok:aW.ok id:=l6 l7.1 (by omega)
 obtain⟨c0,c1,c2,c3,c4,c5,c7,hiw⟩:=(h.item id x hx).cell
 have hget:aj id (T.map fun q=>(q.1,ptr (ib q.1)))=some (ptr (ib id)):=by rw[dw,hx];rfl
 have HG:=Lib.hid hget
 have fM:=Lib.hid h.map
 have HC:=Lib.hid hc
 have HD:=Lib.hid hd
 have O1:=Lib.hid (hT.each id x hx)
 by_cases hk:x.kind=2
 ·have e2:fJ x (nb id)= .map (some (nb id)):=if_pos hk
  rw[e2]at c7
  have HN:=Lib.hid ((h.item id x hx).names hk)
  have hbw:=HN.out.lt
  clear hget hc hd h hk e2 hT
  unfold rz
  go_enter Tryz.func143,Tryz.ntmps143
  go_wp2_with (first|(at_lookup;refine aL aW rfl _ _ 94 92 rfl Tryz.underlying94 (Tryz.aU _) rfl fM.out id rfl hok ?_;rw[HG.out])|(at_range;refine kU cK rfl _ 107 3 rfl Tryz.underlying107 rfl HN.out ?_;intro w0 hR0 hB0 hs0))
  go_frame
  go_loopw [5,7] (fun v _ wr=>Kn w d x (nb id) w.heap.size v wr) (fun _ _ wr=>wr.rangeLeft (nb id) w.heap.size)
  case atStart=>
   refine⟨0,_,_,rfl,Nat.zero_le _,fun e he hl=> ?_,hR0,hB0⟩
   simp only[dI]at hl
   rw[aY oU O1.out.sorted he]at hl
   cases hl
  case round=>
   obtain⟨m,left,cnt,rfl,hm,PO,hR,hB⟩:=hrel
   have HB:=Lib.hid hB
   have PS:=Lib.hid PO
   have HR:=Lib.hid hR
   have hmd:maxD d x.names≤65:=maxD_le d fun e he=>by have:=HD.out e he;omega
   clear PO hR hB
   go_wp2_with (first|(at_next;refine mJ cK rfl _ rfl rfl HR.out ?_ ?_))
   ·intro hdone
    have Bj:=Lib.hid hdone
    clear hdone
    go_wp2
    go_ret
    refine⟨fI ?_,HB.out⟩
    have:maxD d x.names≤m:=maxD_le d fun e he=>PS.out e he (Bj.out _)
    omega
   ·intro k v w3 cnt1 Ko hleft hg2 mM hlt hK1 hs1 hen
    rw[dI]at hg2
    cases hk2:aj k x.names with
    |none=>rw[hk2]at hg2;cases hg2
    |some j=>
     rw[hk2]at hg2
     cases hg2
     have hmem:=bR hk2
     have hB3:Below w.heap.size w w3:=⟨hK1.os.trans HB.out.os,hK1.tape.trans HB.out.tape,hK1.output.trans HB.out.output,by rw[hs1];exact HB.out.size,fun b hb=>(hK1.block b (by have:=HB.out.size;omega) (by omega)).trans (HB.out.block b hb)⟩
     have PU:=Lib.hid (HC.out _ hmem w3 hB3)
     have hdj:=HD.out _ hmem
     have hjm:=r9 d hmem
     have HB3:=Lib.hid hB3
     have HR1:=Lib.hid mM
     have Cz:=Lib.hid hk2
     have Az:=Lib.hid hlt
     simp only at hdj hjm
     have e1:IntKind.i64.wrap (1+(d j:Int))=1+(d j:Int):=IntWalk.i64_in _ (by omega)
     have hrw:=HR.out.lt
     clear hk2 hmem mM hB3 hlt hK1
     show wpList _ _ _ _ _ _
     have e3:cK.val k= .string (strOf k):=rfl
     rw[e3]at hen⊢
     clear e3
     have R8:=Lib.hid (show Calls Tryz.prog 143 #[ptr p, .int .i64 j] w3 _ from PU.out)
     go_wp2_with fail
     (with_reducible refine R8.out.mono ?_)
     rintro e w4 ⟨rfl,hb4⟩
     have dX:=Lib.hid hb4
     clear hb4
     go_wp2_with fail
     go_roundw
     case rel=>
      have hs4:=dX.out.size
      refine⟨Nat.max m (1+d j),_,cnt1,?_,Nat.max_le.2 ⟨hm,hjm⟩,fun e he hl=> ?_,HR1.out.kept (dX.out.block _ HR1.out.lt.1) (dX.out.block _ HR1.out.lt.2.1),HB3.out.trans (dX.out.mono HB3.out.size)⟩
      ·congr 1
       show max (m:Int) (1+(d j:Int))=((Nat.max m (1+d j):Nat):Int)
       rcases Nat.le_total m (1+d j)with h0|h0
       ·rw[show Nat.max m (1+d j)=1+d j from Nat.max_eq_right h0];omega
       ·rw[show Nat.max m (1+d j)=m from Nat.max_eq_left h0];omega
      ·by_cases hek:e.1=k
       ·have h1:=aY oU O1.out.sorted he
        rw[hek,Cz.out]at h1
        have h2:j=e.2:=Option.some.inj h1
        rw[←h2]
        exact Nat.le_max_right _ _
       ·refine Nat.le_trans (PS.out e he ?_) (Nat.le_max_left _ _)
        simpa[hek]using hl
     case measure=>
      have h4:eB cK w4 (nb id) w.heap.size (bO x) _ cnt1:=HR1.out.kept (dX.out.block _ HR1.out.lt.1) (dX.out.block _ HR1.out.lt.2.1)
      rw[h4.measure,HR.out.measure]
      exact Az.out
 ·have e2:fJ x (nb id)= .map none:=if_neg hk
  rw[e2]at c7
  have hnil:x.names=[]:=O1.out.file (O1.out.kind.resolve_right hk)
  have Ig:=Lib.hid hnil
  clear hget hc hd h hk e2 hT hnil
  unfold rz
  rw[Ig.out]
  go_enter Tryz.func143,Tryz.ntmps143
  go_wp2_with (first|(at_lookup;refine aL aW rfl _ _ 94 92 rfl Tryz.underlying94 (Tryz.aU _) rfl fM.out id rfl hok ?_;rw[HG.out])|(at_range;refine nE rfl _ 107 9 3 rfl Tryz.underlying107 rfl ?_))
  go_frame
  go_loopw [5,7] (fun v _ wr=>v= .int .i64 0∧wr=w.alloc (.mapIter none 0 #[] 0)) (fun _ _ wr=>0)
  case atStart=>exact⟨rfl,rfl⟩
  case round=>
   obtain⟨rfl,rfl⟩:=hrel
   go_wp2_with (first|(at_next;refine oK rfl _ rfl rfl (MapKept.heap_alloc w _).1 ?_))
   go_ret
   exact⟨rfl,wall w _⟩
theorem Bl (hT:dG T):∀(n:Nat) (id:Int) (w:World),aJ g D w p mb ib nb T→(aj id T).isSome=true→t_ T n id→n≤64→rz p w id (fV T n id)
 |0,id,w,h,hi,hs,hn=>by
  obtain⟨x,hx⟩:=Option.isSome_iff_exists.1 hi
  have e:x.names=[]:=by have h1:aO T id=[]:=hs;unfold aO at h1;rw[hx]at h1;exact h1
  have:=yQ id x (fun _=>0) w h hT hx (fun _ _=>Nat.zero_le _) (fun y he=>by rw[e]at he;cases he)
  rw[e]at this
  exact this
 |n+1,id,w,h,hi,hs,hn=>by
  obtain⟨x,hx⟩:=Option.isSome_iff_exists.1 hi
  have e:aO T id=x.names:=by unfold aO;rw[hx]
  have hs':∀e∈x.names,t_ T n e.2:=fun y hy=>hs y (by rw[e];exact hy)
  have:=yQ id x (fV T n) w h hT hx (fun y hy=>Nat.le_trans (hs' y hy).le (by omega)) (fun y hy w1 hb=>
   Bl hT n y.2 w1 (h.below hb (Nat.le_refl _)) (hT.leads id x hx y hy).1 (hs' y hy) (by omega))
  rw[←e]at this
  exact this
end
structure dY (T:aF) (dep:Int→Nat):Prop where
 zero:dep 0=0
 up:∀d x,aj d T=some x→∀e∈x.names,dep d<8∧(bq T e.2=2→dep e.2=dep d+1)
theorem cB {T:aF} {id:Int} {x:bF} (hx:aj id T=some x):aO T id=x.names:=by unfold aO;rw[hx]
theorem mh {T:aF} {id:Int} {e:Nm×Int} (h:e∈aO T id):∃x,aj id T=some x∧e∈x.names:=by
 unfold aO at h
 cases hx:aj id T with
 |none=>rw[hx]at h;cases h
 |some x=>rw[hx]at h;exact⟨x,rfl,h⟩
theorem jY {T:aF} (hT:dG T) {id:Int} {x:bF} (hx:aj id T=some x) {e:Nm×Int} (he:e∈x.names):x.kind=2:=by
 rcases (hT.each id x hx).kind with h|h
 ·rw[(hT.each id x hx).file h]at he;cases he
 ·exact h
theorem Ih {T:aF} {id:Int} (h:aO T id=[]):∀n,t_ T n id
 |0=>h
 |n+1=>fun e he=>by rw[h]at he;cases he
theorem dY.Da {T:aF} {dep:Int→Nat} (h:dY T dep) (hT:dG T):∀(n:Nat) (d:Int),8≤n+dep d→t_ T n d
 |0,d,hd=>by
  show aO T d=[]
  cases hn:aO T d with
  |nil=>rfl
  |cons e r=>
   obtain⟨x,hx,he⟩:=mh (T:=T) (id:=d) (e:=e) (by rw[hn];simp)
   have:=(h.up d x hx e he).1
   omega
 |n+1,d,hd=>fun e he=>by
  obtain⟨x,hx,he⟩:=mh he
  by_cases hk:bq T e.2=2
  ·have:=(h.up d x hx e he).2 hk
   exact h.Da hT n e.2 (by omega)
  ·refine Ih ?_ n
   obtain⟨y,hy⟩:=Option.isSome_iff_exists.1 (hT.leads d x hx e he).1
   rw[bI hy]at hk
   rw[cB hy]
   exact(hT.each _ y hy).file ((hT.each _ y hy).kind.resolve_right hk)
theorem dY.Mk {T:aF} {dep:Int→Nat} (h:dY T dep) (hT:dG T) (d:Int):t_ T 8 d:=h.Da hT 8 d (by omega)
theorem lQ {T:aF} {a d:Int} {n:Nm} {r:List Nm} (h:aC T a (n::r)=(d,0)):∃x k,aj a T=some x∧x.kind=2∧aj n x.names=some k∧aC T k r=(d,0):=by
 simp only[aC]at h
 cases hx:aj a T with
 |none=>rw[hx]at h;cases h
 |some x=>
  rw[hx]at h
  simp only at h
  by_cases hk:x.kind=2
  ·rw[if_pos hk]at h
   cases hn:aj n x.names with
   |none=>rw[hn]at h;cases h
   |some k=>rw[hn]at h;exact⟨x,k,rfl,hk,hn,h⟩
  ·rw[if_neg hk]at h;cases h
theorem pR {T:aF} {dep:Int→Nat} (h:dY T dep):∀(p:List Nm) (a d:Int),aC T a p=(d,0)→bq T d=2→dep d=dep a+p.length
 |[],a,d,hl,_=>by
  have:a=d:=congrArg Prod.fst hl
  subst this;rfl
 |n::r,a,d,hl,hd=>by
  obtain⟨x,k,hx,hk,hn,hl⟩:=lQ hl
  have hkk:bq T k=2:=by
   cases r with
   |nil=>
    have:k=d:=congrArg Prod.fst hl
    rw[this];exact hd
   |cons m s=>
    obtain⟨y,j,hy,hyk,_⟩:=lQ hl
    rw[bI hy];exact hyk
  have h1:=(h.up a x hx _ (bR hn)).2 hkk
  have h2:=pR h r k d hl hd
  simp only at h1
  rw[List.length_cons]
  omega
theorem r_ {T:aF} (hT:dG T) {a b k:Int} {x y:bF} {n m:Nm} (hx:aj a T=some x) (hn:aj n x.names=some k) (hy:aj b T=some y) (hm:aj m y.names=some k) (hk:bq T k=2):a=b∧n=m:=by
 obtain⟨z,hz,PV⟩:=fG hk
 have h0:=(hT.leads a x hx _ (bR hn)).2
 have hc:=hT.counts k z hz h0
 rw[((hT.each k z hz).dir PV).1]at hc
 have h1:=nD hT.tovw hx hn k
 rw[if_pos rfl]at h1
 have h2:fq (aA T a n) k=0:=by omega
 by_cases hab:b=a
 ·subst hab
  rw[hx]at hy;cases hy
  refine⟨rfl,?_⟩
  by_cases hnm:m=n
  ·exact hnm.symm
  ·have hg:aj b (aA T b n)=some {x with names:=bg n x.names}:=by unfold aA;rw[aQ,if_pos rfl,hx];rfl
   have hm':aj m (bg n x.names)=some k:=by rw[kN hnm];exact hm
   exact absurd rfl (vF h2 hg _ (bR hm'))
 ·have hg:aj b (aA T a n)=some y:=by unfold aA;rw[aQ,if_neg hab];exact hy
  exact absurd rfl (vF h2 hg _ (bR hm))
theorem sj {T:aF} (hT:dG T):∀(l:Nat) (p q:List Nm) (d:Int),p.length≤l→aC T 0 p=(d,0)→aC T 0 q=(d,0)→bq T d=2→p=q
 |l,p,q,d,hl,hp,hq,hd=>by
  by_cases h1:p=[]
  ·subst h1
   by_cases h2:q=[]
   ·exact h2.symm
   ·obtain⟨d',x,n,-,-,hx,_,hn,_⟩:=bS hq h2
    have h0:(0:Int)=d:=congrArg Prod.fst hp
    have:=(hT.leads d' x hx _ (bR hn)).2
    exact absurd h0.symm this
  ·obtain⟨d1,x,n,-,hl1,hx,hxk,hn,_,e1⟩:=bS hp h1
   by_cases h2:q=[]
   ·subst h2
    have h0:(0:Int)=d:=congrArg Prod.fst hq
    have:=(hT.leads d1 x hx _ (bR hn)).2
    exact absurd h0.symm this
   ·obtain⟨d2,y,m,-,hl2,hy,_,hm,_,e2⟩:=bS hq h2
    obtain⟨hab,hnm⟩:=r_ hT hx hn hy hm hd
    subst hab hnm
    have hlen:p.dropLast.length<p.length:=by
     rw[List.length_dropLast]
     have:p.length≠0:=fun e=>h1 (List.eq_nil_of_length_eq_zero e)
     omega
    match l,hl with
    |0,hl=>exact absurd (List.eq_nil_of_length_eq_zero (by omega)) h1
    |l+1,hl=>
     have:=sj hT l p.dropLast q.dropLast d1 (by omega) hl1 hl2 ((bI hx).trans hxk)
     rw[e1,e2,this]
def Db (T:aF) (id d:Int):Prop:=∃q,aC T id q=(d,0)
theorem Ey {T:aF} (hT:dG T):∀(q:List Nm) (id d:Int) (x:bF) (e:Nm×Int) (n:Nat),aC T id q=(d,0)→aj d T=some x→e∈x.names→q.length<n→q.length+1≤fV T n id
 |[],id,d,x,e,n+1,hl,hx,he,hn=>by
  have:id=d:=congrArg Prod.fst hl
  subst this
  have:1+fV T n e.2≤maxD (fV T n) (aO T id):=r9 _ (by rw[cB hx];exact he)
  show 0+1≤maxD (fV T n) (aO T id)
  omega
 |m::r,id,d,x,e,n+1,hl,hx,he,hn=>by
  obtain⟨y,k,hy,hyk,hm,hl⟩:=lQ hl
  rw[List.length_cons]at hn
  have h1:=Ey hT r k d x e n hl hx he (by omega)
  have:1+fV T n k≤maxD (fV T n) (aO T id):=r9 (fV T n) (e:=(m,k)) (by rw[cB hy];exact bR hm)
  show(m::r).length+1≤maxD (fV T n) (aO T id)
  rw[List.length_cons]
  omega
 |q,_,_,_,_,0,_,_,_,hn=>by omega
def iB (p q:List Nm):Bool:=decide (p.take q.length=q)
def gP (T:aF) (p tq:List Nm):Int:=
 if iw p tq≠0 then iw p tq else
 if (aC T 0 p).2≠0 then(aC T 0 p).2 else
 if (aC T 0 p).1=0 then 1 else
 if (aB T tq).2.2≠0 then(aB T tq).2.2 else
 if bq T (aC T 0 p).1=2∧iB tq p=true then 1 else
 match aj (aB T tq).2.1 (aO T (aB T tq).1)with
 |some k=>if k=(aC T 0 p).1 then 0 else 21
 |none=>if 8<tq.length+fV T 8 (aC T 0 p).1 then 3 else 0
def nG (T:aF) (p tq:List Nm):aF:=setName (aA T (aB T p).1 (aB T p).2.1) (aB T tq).1 (aB T tq).2.1 (aC T 0 p).1
def aT (T:aF) (p tq:List Nm):Int×aF:=
 (gP T p tq,if gP T p tq=0∧(aj (aB T tq).2.1 (aO T (aB T tq).1)).isSome=false then nG T p tq else T)
theorem dG.move {T:aF} (h:dG T) {d1 d2 id:Int} {x1 x2:bF} {n1 n2:Nm} (hx1:aj d1 T=some x1) (hk1:x1.kind=2) (hn1:aj n1 x1.names=some id) (hx2:aj d2 T=some x2) (hk2:x2.kind=2) (hg2:bZ n2=true) (hn2:aj n2 x2.names=none):
  dG (setName (aA T d1 n1) d2 n2 id):=by
 have hid:=h.leads d1 x1 hx1 _ (bR hn1)
 have hP:=h.tovw.cut (n:=n1) hx1 hk1
 obtain⟨x3,hx3,hk3,WO⟩:∃x3,aj d2 (aA T d1 n1)=some x3∧x3.kind=2∧aj n2 x3.names=none:=by
  unfold aA
  rw[aQ]
  by_cases hd:d2=d1
  ·subst hd
   rw[hx1]at hx2;cases hx2
   rw[if_pos rfl,hx1]
   refine⟨_,rfl,hk1,?_⟩
   show aj n2 (bg n1 x1.names)=none
   rw[eH]
   split
   ·rfl
   ·exact hn2
  ·rw[if_neg hd];exact⟨x2,hx2,hk2,hn2⟩
 have R9:(aj id (aA T d1 n1)).isSome=true:=by
  unfold aA;rw[aQ]
  split<;>simp[hid.1]
 refine⟨hP.set hx3 hk3 hg2 ⟨R9,hid.2⟩,fun j z hz hj=> ?_⟩
 have h1:=nD h.tovw hx1 hn1 j
 have h2:=jX hP.sorted (fun x=>{x with names:=bT bytesBefore n2 id x.names}) hx3 j
 have h3:=CW (id:=id) WO j
 have e:fq (setName (aA T d1 n1) d2 n2 id) j=fq T j:=by
  unfold setName
  omega
 rw[e]
 unfold setName at hz
 rw[aQ]at hz
 obtain⟨z1,hz1,hl1⟩:∃z1,aj j (aA T d1 n1)=some z1∧z.links=z1.links:=by
  by_cases hjd:j=d2
  ·rw[if_pos hjd]at hz
   cases hq:aj j (aA T d1 n1)with
   |none=>rw[hq]at hz;cases hz
   |some z1=>
    rw[hq]at hz
    simp only[Option.map_some,Option.some.injEq]at hz
    exact⟨z1,rfl,by rw[←hz]⟩
  ·rw[if_neg hjd]at hz;exact⟨z,hz,rfl⟩
 obtain⟨z2,hz2,hl2,_⟩:=zZ hz1
 rw[hl1,hl2]
 exact h.counts j z2 hz2 hj
theorem Bn {T:aF} (hT:dG T) {id a k:Int} {x:bF} {n:Nm} (hx:aj a T=some x) (hn:aj n x.names=some k) (hk:bq T k=2) (hki:k≠id):Db T id k↔Db T id a:=by
 constructor
 ·rintro ⟨q,hq⟩
  rcases List.eq_nil_or_concat q with rfl|⟨r,m,rfl⟩
  ·exact absurd (congrArg Prod.fst hq).symm hki
  ·rw[List.concat_eq_append,gM]at hq
   by_cases he:(aC T id r).2=0
   ·rw[if_pos he]at hq
    obtain⟨y,j,hy,hyk,hm,hl⟩:=lQ hq
    have:j=k:=congrArg Prod.fst hl
    subst this
    obtain⟨hab,_⟩:=r_ hT hx hn hy hm hk
    exact⟨r,Prod.ext hab.symm he⟩
   ·rw[if_neg he]at hq
    rw[hq]at he
    exact absurd rfl he
 ·rintro ⟨q,hq⟩
  refine⟨q++[n],?_⟩
  rw[gM,hq]
  simp only[if_pos]
  have:=jY hT hx (bR hn)
  simp only[aC,hx,if_pos this,hn]
theorem wo {T:aF} {d1 d2 id:Int} {n1 n2:Nm} {a:Int} {x:bF} (h:aj a (setName (aA T d1 n1) d2 n2 id)=some x):∃y,aj a T=some y∧x.kind=y.kind∧∀e∈x.names,(e∈y.names∧¬(a=d1∧e.1=n1))∨(a=d2∧e=(n2,id)):=by
 obtain⟨z,hz,hk,hc⟩:∃z,aj a (aA T d1 n1)=some z∧x.kind=z.kind∧∀e∈x.names,e∈z.names∨(a=d2∧e=(n2,id)):=by
  unfold setName at h
  rw[aQ]at h
  by_cases hd:a=d2
  ·rw[if_pos hd]at h
   cases hz:aj a (aA T d1 n1)with
   |none=>rw[hz]at h;cases h
   |some z=>
    rw[hz]at h
    simp only[Option.map_some,Option.some.injEq]at h
    refine⟨z,rfl,by rw[←h],fun e he=> ?_⟩
    rw[←h]at he
    rcases (kG bytesBefore).1 he with h2|h2
    ·exact .inr ⟨hd,h2⟩
    ·exact .inl (List.mem_filter.1 h2).1
  ·rw[if_neg hd]at h;exact⟨x,h,rfl,fun e he=> .inl he⟩
 unfold aA at hz
 rw[aQ]at hz
 by_cases hd:a=d1
 ·rw[if_pos hd]at hz
  cases hy:aj a T with
  |none=>rw[hy]at hz;cases hz
  |some y=>
   rw[hy]at hz
   simp only[Option.map_some,Option.some.injEq]at hz
   refine⟨y,rfl,by rw[hk,←hz],fun e he=> ?_⟩
   rcases hc e he with h1|h1
   ·rw[←hz]at h1
    have h2:=List.mem_filter.1 h1
    refine .inl ⟨h2.1,fun h3=> ?_⟩
    have:=h2.2
    simp[h3.2]at this
   ·exact .inr h1
 ·rw[if_neg hd]at hz
  refine⟨z,hz,hk,fun e he=> ?_⟩
  rcases hc e he with h1|h1
  ·exact .inl ⟨h1,fun h=>hd h.1⟩
  ·exact .inr h1
theorem uf {T:aF} {d:Int} {f:bF→bF} (hf:∀x,(f x).kind=x.kind) (k:Int):bq (aX d f T) k=bq T k:=by
 unfold bq
 rw[aQ]
 by_cases h:k=d
 ·rw[if_pos h]
  cases aj k T with
  |none=>rfl
  |some y=>exact hf y
 ·rw[if_neg h]
theorem yR {T:aF} {d1 d2 id:Int} {n1 n2:Nm} (k:Int):bq (setName (aA T d1 n1) d2 n2 id) k=bq T k:=by
 unfold setName aA
 exact(uf (fun _=>by exact rfl) k).trans (uf (fun _=>by exact rfl) k)
open Classical in
theorem dY.move {T:aF} {dep:Int→Nat} (h:dY T dep) (hT:dG T) {p tq:List Nm} {id dt:Int} {nt:Nm} (hp:aC T 0 p=(id,0)) (h0:id≠0) (hto:aB T tq=(dt,nt,0)) (hf:tq.length≤8) (hw:bq T id=2→iB tq p=false∧tq.length+fV T 8 id≤8):
  ∃Nf,dY (setName (aA T (aB T p).1 (aB T p).2.1) dt nt id) Nf:=by
 have hpn:p≠[]:=fun e=>by subst e;exact h0 (congrArg Prod.fst hp).symm
 obtain⟨d1,x1,n1,e1,hl1,hx1,hk1,hn1,_,ep⟩:=bS hp hpn
 rw[e1]
 obtain⟨hln,hlt,hkt⟩:tq≠[]∧aC T 0 tq.dropLast=(dt,0)∧bq T dt=2:=by
  unfold aB at hto
  by_cases ht0:tq=[]
  ·rw[if_pos ht0]at hto;cases hto
  ·rw[if_neg ht0]at hto
   by_cases ht1:(aC T 0 tq.dropLast).2≠0
   ·rw[if_pos ht1]at hto
    exact absurd (congrArg (·.2.2) hto) ht1
   ·rw[if_neg ht1]at hto
    by_cases ht2:bq T (aC T 0 tq.dropLast).1=2
    ·rw[if_pos ht2]at hto
     have h3:(aC T 0 tq.dropLast).1=dt:=congrArg Prod.fst hto
     exact⟨ht0,Prod.ext h3 (by simpa using ht1),h3▸ht2⟩
    ·rw[if_neg ht2]at hto;cases hto
 have hdt:=pR h _ 0 dt hlt hkt
 rw[h.zero,List.length_dropLast]at hdt
 have htl:tq.length≠0:=fun e=>hln (List.eq_nil_of_length_eq_zero e)
 by_cases hk:bq T id=2
 ·obtain⟨hw1,hw2⟩:=hw hk
  have R_:=pR h p 0 id hp hk
  rw[h.zero]at R_
  have hnt:¬Db T id dt:=by
   rintro ⟨q,hq⟩
   have h3:aC T 0 (p++q)=(dt,0):=by rw[gM,hp];simp only[if_pos];exact hq
   have h4:=sj hT _ _ _ dt (Nat.le_refl _) hlt h3 hkt
   have h5:tq.take p.length=p:=by
    have h6:tq.dropLast.take p.length=p:=by rw[h4,List.take_left]
    have h7:p.length≤tq.length-1:=by
     have:=congrArg List.length h4
     rw[List.length_dropLast,List.length_append]at this
     omega
    rw[List.dropLast_eq_take,List.take_take,Nat.min_eq_left h7]at h6
    exact h6
   unfold iB at hw1
   rw[h5]at hw1
   simp at hw1
  refine⟨fun d=>if Db T id d then dep d+tq.length-p.length else dep d,?_,fun d x hx e he=> ?_⟩
  ·have:¬Db T id 0:=by
    rintro ⟨q,hq⟩
    have h3:aC T 0 (p++q)=(0,0):=by rw[gM,hp];simp only[if_pos];exact hq
    have h4:=sj hT 0 [] _ 0 (Nat.le_refl _) rfl h3 hT.root
    have:=congrArg List.length h4
    rw[List.length_append]at this
    exact hpn (List.eq_nil_of_length_eq_zero (by simp at this;omega))
   simp only[if_neg this,h.zero]
  ·obtain⟨y,hy,hxy,hnm⟩:=wo hx
   rw[yR]
   rcases hnm e he with⟨O9,hne⟩|⟨hd,hee⟩
   ·have hup:=h.up d y hy e O9
    have hyk:=jY hT hy O9
    have hn:=aY oU (hT.each d y hy).sorted O9
    by_cases hD:Db T id d
    ·obtain⟨q,hq⟩:=hD
     have h3:=pR h q id d hq ((bI hy).trans hyk)
     have hq8:q.length<8:=by have:=hup.1;omega
     have h4:=Ey hT q id d y e 8 hq hy O9 hq8
     simp only[if_pos (show Db T id d from⟨q,hq⟩)]
     refine⟨by omega,fun hek=> ?_⟩
     have O_:e.2≠id:=fun h5=>by
      obtain⟨h6,h7⟩:=r_ hT hx1 hn1 hy (by rw[←h5];exact hn) hk
      exact hne ⟨h6.symm,h7.symm⟩
     have:=hup.2 hek
     rw[if_pos ((Bn hT hy hn hek O_).2 ⟨q,hq⟩)]
     omega
    ·simp only[if_neg hD]
     refine⟨hup.1,fun hek=> ?_⟩
     have O_:e.2≠id:=fun h5=>by
      obtain⟨h6,h7⟩:=r_ hT hx1 hn1 hy (by rw[←h5];exact hn) hk
      exact hne ⟨h6.symm,h7.symm⟩
     rw[if_neg (fun h6=>hD ((Bn hT hy hn hek O_).1 h6))]
     exact hup.2 hek
   ·subst hd hee
    simp only[if_neg hnt]
    refine⟨by omega,fun _=> ?_⟩
    rw[if_pos ⟨[],rfl⟩]
    omega
 ·refine⟨dep,h.zero,fun d x hx e he=> ?_⟩
  obtain⟨y,hy,hxy,hnm⟩:=wo hx
  rw[yR]
  rcases hnm e he with⟨O9,_⟩|⟨hd,hee⟩
  ·exact h.up d y hy e O9
  ·subst hd hee
   exact⟨by omega,fun h3=>absurd h3 hk⟩
end Go.Proofs.YtohpcppeajijnaaGreat
