/- A -/
import Derived.Test.YtmflaonodghbcaaGreatDoorM27
import Derived.Test.YtmflaonodghbcaaGreatDoorM24
import Derived.Test.YtmflaonodghbcaaGreatDoorM26
import Derived.Test.YtmflaonodghbcaaGreatDoorM18
import Derived.Test.YtmflaonodghbcaaGreatDoorM14
import Derived.Test.YtmflaonodghbcaaGreatDoorM12
import Derived.Test.YtmflaonodghbcaaGreatDoorM04
import Derived.Test.YtmflaonodghbcaaGreatDoorM07
import Derived.Test.YtmflaonodghbcaaGreatDoorM06
import Derived.Deep.QuietTactic
import Derived.BigQuiet
set_option maxRecDepth 100000
set_option maxHeartbeats 64000000
set_option linter.all false
namespace Go.Proofs.YtmflaonodghbcaaGreatDoor
open Go.ChangeShapes Go.WideShapes Go.ChangeAt Go.RowKit
theorem Cc.get{T:aI}(h:Cc T){k:Int}{x:eG}(hx:aj k T=some x):Hr k x:=h.each _ (cZ hx)
theorem Ou{S:aI}{id j:Int}(h:j≠id):kC (eU S id).2 j=kC S j:=by
 unfold eU;dsimp only;split
 ·have e:aj j (Ao S id)=(aj j S).map fun x=>{x with names:=x.names.filter fun e=> !decide (e.2=id)}:=by
   unfold Ao;rw[eZ,if_neg h];exact uR (fun x:eG=>{x with names:=x.names.filter fun e=> !decide (e.2=id)}) j S
  unfold kC;rw[e];cases aj j S with
  |none=>rfl
  |some x=>rfl
 ·rfl
theorem SX(S:aI)(id:Int):kC (eU S id).2 id≠0:=by
 unfold eU;dsimp only;split
 ·have e:aj id (Ao S id)=none:=by
   unfold Ao;rw[eZ,if_pos rfl]
  unfold kC;rw[e];decide
 ·assumption
theorem EL:∀(L:List Int) (S:aI) (j:Int),(j∈L∨kC S j≠0)→kC (L.foldl (fun S id=>(eU S id).2) S) j≠0
 |[],S,j,h=>by
  rcases h with h|h
  ·cases h
  ·exact h
 |a::r,S,j,h=>by
  rw[List.foldl_cons];refine EL r _ j ?_;by_cases hja:j=a
  ·subst hja;exact .inr (SX S j)
  ·rcases h with h|h
   ·rcases aaq.1 h with h|h
    ·exact absurd h hja
    ·exact .inl h
   ·exact .inr (by rw[Ou hja];exact h)
theorem LC(T:aI)(j:Int):kC (dw T) j≠0:=by
 unfold dw;refine EL _ T j ?_;by_cases h:j∈mO T
 ·exact .inl h
 ·right;have hn:aj j T=none:=jW.2 fun q hq e=>h (by unfold mO;exact List.mem_map.2 ⟨q,hq,e⟩);unfold kC;rw[hn];decide
theorem EM:∀(L:List Int) (T:aI),(∀id,kC T id≠0)→L.foldl (fun S id=>(eU S id).2) T=T
 |[],_,_=>rfl
 |a::r,T,h=>by
  rw[List.foldl_cons];have e:(eU T a).2=T:=by unfold eU;exact if_neg (h a)
  rw[e];exact EM r T h
theorem zU(T:aI):dw (dw T)=dw T:=EM _ _ (LC T)
structure oF(S:rH):Prop where
 next:1≤S.next
 last:(S.next=1→S.last=[])∧(S.next≠1→S.last.length=32)
 each:∀x∈S.l,(1≤x.id∧x.id<S.next)∧x.hash.length=32∧dw x.t=x.t
 up:S.l.Pairwise fun x y=>x.id<y.id
theorem oF.new:oF Hq:=⟨by decide,⟨fun _=>rfl,fun h=>absurd rfl h⟩,fun x hx=>(by cases hx),List.Pairwise.nil⟩
theorem oF.take{S:rH}(h:oF S)(T:aI):oF (xI S T).2:=by
 unfold xI;have hn:=h.next;split
 ·exact h
 ·refine⟨by show 1≤S.next+1;omega,⟨fun e=>by have e1:S.next+1=1:=e;omega,fun _=>dY _⟩,fun x hx=> ?_,?_⟩
  ·rcases aas.1 hx with hx|hx
   ·have:=h.each x hx;exact⟨⟨this.1.1,by have:=this.1.2;show x.id<S.next+1;omega⟩,this.2⟩
   ·rw[List.mem_singleton.1 hx];exact⟨⟨hn,by show S.next<S.next+1;omega⟩,dY _,zU T⟩
  ·show(S.l++[_]).Pairwise _;rw[List.pairwise_append];refine⟨h.up,List.pairwise_singleton _ _,fun x hx y hy=> ?_⟩;rw[List.mem_singleton.1 hy];exact(h.each x hx).1.2
def ndC(n:QU):Array Value:= #[.int .i64 n.id,.int .i64 n.kind,.int .i64 n.links,.int .i64 n.size,.int .u64 n.aT,.bool n.closed]
theorem Ov(n:QU)(h:SI n)(w:World):Calls Tryz.prog 225 #[.agg (ndC n)] w fun e w'=>e= .returned (.bool (decide (jD n)))∧Below w.heap.size w w':=by
 obtain⟨id,kind,links,size,aT,closed⟩:=n;obtain⟨⟨i0,i1⟩,⟨k0,k1⟩,⟨l0,l1⟩,⟨s0,s1⟩,⟨t0,t1⟩⟩:=h;dsimp only at i0 i1 k0 k1 l0 l1 s0 s1 t0 t1;have d1:decide (id<0)=false:=by simpa using i0
 have d2:decide (65535<id)=false:=by simpa using i1
 have d3:decide (links<0)=false:=by simpa using l0
 have d4:decide (65535<links)=false:=by simpa using l1
 have d7:decide ((0:Int)≤size)=true:=by simpa using s0
 have n1:¬id<0:=by omega
 have n2:¬65535<id:=by omega
 have n3:¬links<0:=by omega
 have n4:¬65535<links:=by omega
 unfold ndC;dsimp only;by_cases h1:kind=1
 ·subst h1;by_cases q1:size≤4096
  ·have c1:decide (size≤4096)=true:=aal q1;by_cases q2:aT≤1099511627776
   ·have c2:decide (aT≤1099511627776)=true:=aal q2;rw[aal (show jD ⟨id,1,links,size,aT,closed⟩from .inl ⟨rfl,q1,q2⟩)];go_enter abb,aa8;go_wp2
    all_goals (first|(go_ret;exact⟨rfl,wall w _⟩)|((try simp only[Exit.inBlock,Exit.then]);refine aap (by rfl) rfl ?_;exact⟨rfl,wall w _⟩))
   ·have c2:decide (aT≤1099511627776)=false:=aaf q2;rw[aaf (show ¬jD ⟨id,1,links,size,aT,closed⟩from fun h=>by
     rcases h with h|h
     ·exact q2 h.2.2
     ·exact absurd (show(1:Int)=2 from h.1) (by decide))]
    go_enter abb,aa8;go_wp2
    all_goals (first|(go_ret;exact⟨rfl,wall w _⟩)|((try simp only[Exit.inBlock,Exit.then]);refine aap (by rfl) rfl ?_;exact⟨rfl,wall w _⟩))
  ·have c1:decide (size≤4096)=false:=aaf q1;rw[aaf (show ¬jD ⟨id,1,links,size,aT,closed⟩from fun h=>by
    rcases h with h|h
    ·exact q1 h.2.1
    ·exact absurd (show(1:Int)=2 from h.1) (by decide))]
   go_enter abb,aa8;go_wp2
   all_goals (first|(go_ret;exact⟨rfl,wall w _⟩)|((try simp only[Exit.inBlock,Exit.then]);refine aap (by rfl) rfl ?_;exact⟨rfl,wall w _⟩))
 ·have g1:(kind==1)=false:=by simpa using h1
  by_cases h2:kind=2
  ·subst h2;by_cases q1:size=0
   ·subst q1;by_cases q2:aT=0
    ·subst q2;cases closed
     ·rw[aaf (show ¬jD ⟨id,2,links,0,0,false⟩from fun h=>by
       rcases h with h|h
       ·exact absurd (show(2:Int)=1 from h.1) (by decide)
       ·exact absurd (show false=true from h.2.2.2) (by decide))]
      go_enter abb,aa8;go_wp2
      all_goals (first|(go_ret;exact⟨rfl,wall w _⟩)|((try simp only[Exit.inBlock,Exit.then]);refine aap (by rfl) rfl ?_;exact⟨rfl,wall w _⟩))
     ·rw[aal (show jD ⟨id,2,links,0,0,true⟩from .inr ⟨rfl,rfl,rfl,rfl⟩)];go_enter abb,aa8;go_wp2
      all_goals (first|(go_ret;exact⟨rfl,wall w _⟩)|((try simp only[Exit.inBlock,Exit.then]);refine aap (by rfl) rfl ?_;exact⟨rfl,wall w _⟩))
    ·have g2:(aT==0)=false:=by simpa using q2
     rw[aaf (show ¬jD ⟨id,2,links,0,aT,closed⟩from fun h=>by
      rcases h with h|h
      ·exact absurd (show(2:Int)=1 from h.1) (by decide)
      ·exact q2 h.2.2.1)]
     go_enter abb,aa8;go_wp2
     all_goals (first|(go_ret;exact⟨rfl,wall w _⟩)|((try simp only[Exit.inBlock,Exit.then]);refine aap (by rfl) rfl ?_;exact⟨rfl,wall w _⟩))
   ·have g2:(size==0)=false:=by simpa using q1
    rw[aaf (show ¬jD ⟨id,2,links,size,aT,closed⟩from fun h=>by
     rcases h with h|h
     ·exact absurd (show(2:Int)=1 from h.1) (by decide)
     ·exact q1 h.2.1)]
    go_enter abb,aa8;go_wp2
    all_goals (first|(go_ret;exact⟨rfl,wall w _⟩)|((try simp only[Exit.inBlock,Exit.then]);refine aap (by rfl) rfl ?_;exact⟨rfl,wall w _⟩))
  ·have g2:(kind==2)=false:=by simpa using h2
   rw[aaf (show ¬jD ⟨id,kind,links,size,aT,closed⟩from fun h=>by
    rcases h with h|h
    ·exact h1 h.1
    ·exact h2 h.1)]
   go_enter abb,aa8;go_wp2
   all_goals (first|(go_ret;exact⟨rfl,wall w _⟩)|((try simp only[Exit.inBlock,Exit.then]);refine aap (by rfl) rfl ?_;exact⟨rfl,wall w _⟩))
theorem vJ{w w':World}{x B:Nat}(hK:Keeps (fun b=>b=x) w w')(hx:B≤x)(hB:B≤w.heap.size):Below B w w':=hK.bQ hB fun b hb e=>by
 have e':b=x:=e;omega
theorem Ow{S:Nat→Prop}(a:Option Addr)(n c:Nat)(bs:List UInt8)(w:World)(hm:n≤100000000)(hr:ah S w a n (bs.map bv)):
  Calls Tryz.prog 294 #[.slice a n c] w fun e w'=>e= .returned (.tuple #[.agg (ndC (bL bs).1),.int .i64 (bL bs).2])∧Below w.heap.size w w':=by
 obtain⟨w1,hw1⟩:∃w1,w1=w.alloc (.cells jO 35):=⟨_,rfl⟩;have hb1:Below w.heap.size w w1:=by rw[hw1];exact wall w _
 have hre:w1.heap[w.heap.size]? =some (.cells jO 35 (0,0)):=by rw[hw1];exact(MapKept.heap_alloc w _).1
 have hs1:w1.heap.size=w.heap.size+1:=by rw[hw1];simp
 have HN:=ab9 (nI a n c bs w1 hm (hr.below hb1 ace));have HW1:=ab9 hw1;have HB1:=ab9 hb1;have rG:=ab9 hre;have QY:acd (kG bs=kG bs):=ab9 rfl;have iM:=ab9 (tQ bs);clear hr hb1 hre hw1 hs1
 conv at QY=>arg 1;rhs;unfold kG;dsimp only
 unfold kG at iM;dsimp only at iM;go_enter Tryz.func294,Tryz.ntmps294;go_wp2_with fail;rw[show w.alloc (.cells #[.int .i64 0,.int .i64 0,.int .i64 0,.int .i64 0,.int .u64 0,.bool false] 35)=w1 from HW1.o.symm];refine HN.o.mono ?_;rintro e w2 ⟨x,rfl,hx,hR2,hb2⟩;have HX:=ab9 hx;have HR2:=ab9 hR2;have HB2:=ab9 hb2;clear hx hR2 hb2 HN;obtain⟨D,hD⟩:∃D:Nat→Prop,D=fun b=>w1.heap.size≤b∧b<x:=⟨_,rfl⟩;rw[←hD]at HR2;clear hD;have Ul:=ab9 (nV HR2.o);obtain⟨v0,hv0⟩:∃v,v=(bB (bs,0) 2).1:=⟨_,rfl⟩;obtain⟨s0,hs0⟩:∃s,s=(bB (bs,0) 2).2:=⟨_,rfl⟩;rw[←hv0,←hs0]at Ul;rw[←hv0,←hs0]at QY;rw[←hv0]at iM
 (try rw[←hs0]at iM)
 clear hv0 hs0;go_wp2_with fail;refine Ul.o.mono ?_;rintro e w3 ⟨rfl,hR,hK⟩;have HR3:=ab9 hR;have HB3:=ab9 (HB2.o.trans (vJ hK HX.o HB2.o.size));clear hR hK Ul;have CB:=ab9 (C8 HR3.o);obtain⟨v1,hv1⟩:∃v,v=(bB s0 1).1:=⟨_,rfl⟩;obtain⟨s1,hs1⟩:∃s,s=(bB s0 1).2:=⟨_,rfl⟩;rw[←hv1,←hs1]at CB;rw[←hv1,←hs1]at QY;rw[←hv1]at iM
 (try rw[←hs1]at iM)
 clear hv1 hs1;go_wp2_with fail;refine CB.o.mono ?_;rintro e w4 ⟨rfl,hR,hK⟩;have HR4:=ab9 hR;have dh:=ab9 (HB3.o.trans (vJ hK HX.o HB3.o.size));clear hR hK CB;have sI:=ab9 (nV HR4.o);obtain⟨v2,hv2⟩:∃v,v=(bB s1 2).1:=⟨_,rfl⟩;obtain⟨s2,hs2⟩:∃s,s=(bB s1 2).2:=⟨_,rfl⟩;rw[←hv2,←hs2]at sI;rw[←hv2,←hs2]at QY;rw[←hv2]at iM
 (try rw[←hs2]at iM)
 clear hv2 hs2;go_wp2_with fail;refine sI.o.mono ?_;rintro e w5 ⟨rfl,hR,hK⟩;have sZ:=ab9 hR;have dX:=ab9 (dh.o.trans (vJ hK HX.o dh.o.size));clear hR hK sI;have C9:=ab9 (nV sZ.o);obtain⟨v3,hv3⟩:∃v,v=(bB s2 2).1:=⟨_,rfl⟩;obtain⟨s3,hs3⟩:∃s,s=(bB s2 2).2:=⟨_,rfl⟩;rw[←hv3,←hs3]at C9;rw[←hv3,←hs3]at QY;rw[←hv3]at iM
 (try rw[←hs3]at iM)
 clear hv3 hs3;go_wp2_with fail;refine C9.o.mono ?_;rintro e w6 ⟨rfl,hR,hK⟩;have G9:=ab9 hR;have oK:=ab9 (dX.o.trans (vJ hK HX.o dX.o.size));clear hR hK C9;have Gi:=ab9 (Ja G9.o);obtain⟨v4,hv4⟩:∃v,v=(bB s3 8).1:=⟨_,rfl⟩;obtain⟨s4,hs4⟩:∃s,s=(bB s3 8).2:=⟨_,rfl⟩;rw[←hv4,←hs4]at Gi;rw[←hv4,←hs4]at QY;rw[←hv4]at iM
 (try rw[←hs4]at iM)
 clear hv4 hs4;go_wp2_with fail;refine Gi.o.mono ?_;rintro e w7 ⟨rfl,hR,hK⟩;have tu:=ab9 hR;have jw:=ab9 (oK.o.trans (vJ hK HX.o oK.o.size));clear hR hK Gi;have SY:=ab9 (Zq tu.o);obtain⟨v5,hv5⟩:∃v,v=(uw s4).1:=⟨_,rfl⟩;obtain⟨s5,hs5⟩:∃s,s=(uw s4).2:=⟨_,rfl⟩;rw[←hv5,←hs5]at SY;rw[←hv5,←hs5]at QY;rw[←hv5]at iM
 (try rw[←hs5]at iM)
 clear hv5 hs5;go_wp2_with fail;refine SY.o.mono ?_;rintro e w8 ⟨rfl,hR,hK⟩;have Nq:=ab9 hR;have nG:=ab9 (jw.o.trans (vJ hK HX.o jw.o.size));clear hR hK SY;obtain⟨N,hN⟩:∃N:QU,N=⟨v0,v1,v2,v3,v4,v5⟩:=⟨_,rfl⟩;rw[←hN]at QY iM;have qJ:=ab9 hN;clear hN;have hsz:=nG.o.size;obtain⟨w9,Cg⟩:∃w9,w9=w8.alloc (.cells (ndC N) 35):=⟨_,rfl⟩;have iT:Below w8.heap.size w8 w9:=by rw[Cg];exact wall w8 _
 have hnd:w9.heap[w8.heap.size]? =some (.cells (ndC N) 35 (0,0)):=by rw[Cg];exact(MapKept.heap_alloc w8 _).1
 have KL:acd (w9=w8.alloc (.cells #[.int .i64 v0,.int .i64 v1,.int .i64 v2,.int .i64 v3,.int .u64 v4,.bool v5] 35)):=by rw[Cg,qJ.o];exact ab9 rfl
 have sU:=ab9 (nG.o.trans (iT.mono nG.o.size));have Z9:=ab9 ((sU.o.block _ (uh.1 rG.o).1).trans rG.o);have HE:=ab9 (Jc (Nq.o.below iT ace));have YA:=ab9 hnd;obtain⟨z,hz⟩:∃z,z=qF s5:=⟨_,rfl⟩;rw[←hz]at HE;have HZ:=ab9 hz;clear Cg iT hnd hz;have qn:∀j,w9.cell? ⟨w8.heap.size,j,none⟩=(ndC N)[j]? :=fun j=>bY YA.o j;have q0:w9.cell? ⟨w8.heap.size,0,none⟩=some (.int .i64 v0):=by rw[qn,qJ.o];rfl
 have q1:w9.cell? ⟨w8.heap.size,1,none⟩=some (.int .i64 v1):=by rw[qn,qJ.o];rfl
 have q2:w9.cell? ⟨w8.heap.size,2,none⟩=some (.int .i64 v2):=by rw[qn,qJ.o];rfl
 have q3:w9.cell? ⟨w8.heap.size,3,none⟩=some (.int .i64 v3):=by rw[qn,qJ.o];rfl
 have q4:w9.cell? ⟨w8.heap.size,4,none⟩=some (.int .u64 v4):=by rw[qn,qJ.o];rfl
 have q5:w9.cell? ⟨w8.heap.size,5,none⟩=some (.bool v5):=by rw[qn,qJ.o];rfl
 clear qn;have qD:acd (∀w',Calls Tryz.prog 225 #[.agg #[.int .i64 v0,.int .i64 v1,.int .i64 v2,.int .i64 v3,.int .u64 v4,.bool v5]] w' fun e w''=>e= .returned (.bool (decide (jD N)))∧Below w'.heap.size w' w''):=fun w'=>by
  have:=Ov N iM.o w';rw[qJ.o]at this;rw[qJ.o];exact this
 have vY:=(uh.1 YA.o).1;have Ep:=(uh.1 Z9.o).1;go_wp2_with fail;rw[←KL.o];by_cases hz:z=0
 ·subst hz;by_cases hr:jD N
  ·have HD:acd (bL bs=(N,0)):=by
    show _=_;unfold bL;rw[QY.o,if_pos ⟨HZ.o.symm,hr⟩]
   rw[aal hr]at qD;clear hr QY;refine HE.o.mono ?_;rintro e _ ⟨rfl,rfl⟩;go_wp2_with fail;refine(qD.o _).mono ?_;rintro e Hf ⟨rfl,wR⟩;have WH:=ab9 ((wR.block _ Ep).trans Z9.o);have Es:=ab9 (HB1.o.trans ((sU.o.trans (wR.mono sU.o.size)).mono HB1.o.size));have r0:Hf.cell? ⟨w8.heap.size,0,none⟩=some (.int .i64 v0):=(wR.cell (p:=⟨w8.heap.size,0,none⟩) vY).trans q0;have r1:Hf.cell? ⟨w8.heap.size,1,none⟩=some (.int .i64 v1):=(wR.cell (p:=⟨w8.heap.size,1,none⟩) vY).trans q1;have r2:Hf.cell? ⟨w8.heap.size,2,none⟩=some (.int .i64 v2):=(wR.cell (p:=⟨w8.heap.size,2,none⟩) vY).trans q2;have r3:Hf.cell? ⟨w8.heap.size,3,none⟩=some (.int .i64 v3):=(wR.cell (p:=⟨w8.heap.size,3,none⟩) vY).trans q3;have r4:Hf.cell? ⟨w8.heap.size,4,none⟩=some (.int .u64 v4):=(wR.cell (p:=⟨w8.heap.size,4,none⟩) vY).trans q4;have r5:Hf.cell? ⟨w8.heap.size,5,none⟩=some (.bool v5):=(wR.cell (p:=⟨w8.heap.size,5,none⟩) vY).trans q5;clear wR qD HE q0 q1 q2 q3 q4 q5;go_wp2_with (refine au (by rfl) 35 _ _ (by rfl) w.heap.size #[.int .i64 v0,.int .i64 v1,.int .i64 v2,.int .i64 v3,.int .u64 v4,.bool v5] (by rfl) (by rfl) _ WH.o qb rfl (by simp[Value.oneCell']) ?_;intro V4 yj;have LD:=ab9 yj;clear yj);refine rU rfl rfl rfl rfl LD.o.1 rfl ?_;rw[HD.o,qJ.o];exact⟨rfl,LD.o.below Es.o ace⟩
  ·have HD:acd (bL bs=(Wy,12)):=by
    show _=_;unfold bL;rw[QY.o,if_neg fun h=>hr h.2]
   rw[aaf hr]at qD;clear hr QY;refine HE.o.mono ?_;rintro e _ ⟨rfl,rfl⟩;go_wp2_with fail;refine(qD.o _).mono ?_;rintro e Hf ⟨rfl,wR⟩;have WH:=ab9 ((wR.block _ Ep).trans Z9.o);have Es:=ab9 (HB1.o.trans ((sU.o.trans (wR.mono sU.o.size)).mono HB1.o.size));clear wR qD HE q0 q1 q2 q3 q4 q5;go_wp2_with (refine au (by rfl) 35 _ _ (by rfl) w.heap.size jO (by rfl) (by rfl) _ WH.o qb rfl (by simp[jO,Value.oneCell']) ?_;intro V4 yj;have LD:=ab9 yj;clear yj)
   (try simp only[Exit.inBlock,Exit.then])
   refine rU rfl rfl rfl rfl LD.o.1 rfl ?_;rw[HD.o];exact⟨rfl,LD.o.below Es.o ace⟩
 ·have hz2:(z !=0)=true:=by simpa using hz
  have HD:acd (bL bs=(Wy,12)):=by
   show _=_;unfold bL;rw[QY.o,if_neg fun h=>hz (HZ.o.trans h.1)]
  have Es:=ab9 (HB1.o.trans (sU.o.mono HB1.o.size));clear hz QY qD q0 q1 q2 q3 q4 q5;refine HE.o.mono ?_;rintro e _ ⟨rfl,rfl⟩;go_wp2_with (refine au (by rfl) 35 _ _ (by rfl) w.heap.size jO (by rfl) (by rfl) _ Z9.o qb rfl (by simp[jO,Value.oneCell']) ?_;intro V4 yj;have LD:=ab9 yj;clear yj)
  (try simp only[Exit.inBlock,Exit.then])
  refine rU rfl rfl rfl rfl LD.o.1 rfl ?_;rw[HD.o];exact⟨rfl,LD.o.below Es.o ace⟩
theorem aM.add2{g:Nat→Own}{D D2:Nat→Prop}{w w':World}{p mb:Nat}{ib nb:Int→Nat}{T:aI}(h:aM g D w p mb ib nb T){k:Int}{x:eG}{i n:Nat}(hi0:g i= .none∧¬D i)(hn0:x.kind=2→g n= .none∧¬D n)(hin:x.kind=2→i≠n)(hiw:i<w'.heap.size)(hnw:x.kind=2→n<w'.heap.size)(hx0:aj k T=none)
  (hm:MapAt aU w' mb (bX jX k (ptr i) (T.map fun q=>(q.1,ptr (ib q.1)))))(hsz:w.heap.size≤w'.heap.size)(hb:∀b,b<w.heap.size→g b≠ .none∨D b→b≠mb→w'.heap[b]? =w.heap[b]?)(hi:iV D2 w' k i n x)(hD2:∀b,D2 b→g b= .none∧b<w'.heap.size∧b≠i∧(x.kind=2→b≠n)):
  aM (fun b=>if b=i then .item k else if b=n∧x.kind=2 then .names k else g b) (fun b=>D b∨D2 b) w' p mb (fun j=>if j=k then i else ib j) (fun j=>if j=k then n else nb j) (bX jX k x T):=by
 have hgg:∀b,g b≠ .none→(if b=i then Own.item k else if b=n∧x.kind=2 then .names k else g b)=g b:=fun b hb=>by
  rw[if_neg (fun e:b=i=>hb (by rw[e];exact hi0.1)),if_neg (fun h2:b=n∧x.kind=2=>hb (by rw[h2.1];exact(hn0 h2.2).1))]
 have hp:g p≠ .none:=by rw[h.qE];simp
 have hmm:g mb≠ .none:=by rw[h.jg];simp
 have hbg:∀b,g b≠ .none→b≠mb→w'.heap[b]? =w.heap[b]? :=fun b hg hne=>hb b (h.low b hg) (.inl hg) hne;refine⟨(hbg p hp (fun e=>by have:=h.qE;rw[e,h.jg]at this;cases this)).trans h.head,?_,?_,(hgg p hp).trans h.qE,(hgg mb hmm).trans h.jg,?_,?_,?_,?_,fun b hb=> ?_⟩
 ·have e1:(bX jX k x T).map (fun q=>(q.1,ptr ((fun j=>if j=k then i else ib j) q.1)))=bX jX k (ptr i) (T.map fun q=>(q.1,ptr (ib q.1))):=by
   rw[vX jX (fun j _=>ptr ((fun j=>if j=k then i else ib j) j))];simp only[if_pos];congr 1;apply aaw;intro q hq;have:q.1≠k:=jW.1 hx0 q hq;rw[if_neg this]
  rw[e1];exact hm
 ·intro j y hy;rw[dS]at hy;by_cases hj:j=k
  ·subst hj;rw[if_pos rfl]at hy;cases hy;simp only[if_pos];exact hi.move ace rfl (fun _=>rfl) (fun b hb _=>⟨.inr hb,rfl⟩)
  ·rw[if_neg hj]at hy;simp only[if_neg hj];have t1:=h.pR j y hy;refine(h.item j y hy).move hsz (hbg _ (by rw[t1];simp) (fun e=>by rw[e,h.jg]at t1;cases t1)) (fun hk=>hbg _ (by rw[h.mX j y hy hk];simp) (fun e=>by have t2:=h.mX j y hy hk;rw[e,h.jg]at t2;cases t2)) ?_;intro b uX hbw;exact⟨.inl uX,hb b hbw (.inr uX) (fun e=>by have:=h.data b uX;rw[e,h.jg]at this;cases this)⟩
 ·intro j y hy;rw[dS]at hy;by_cases hj:j=k
  ·subst hj;simp
  ·rw[if_neg hj]at hy;have t1:=h.pR j y hy;simp only[if_neg hj];rw[hgg _ (by rw[t1];simp)];exact t1
 ·intro j y hy hk;rw[dS]at hy;by_cases hj:j=k
  ·subst hj;rw[if_pos rfl]at hy;cases hy;simp only[if_pos];rw[if_neg (aaP (hin hk)),if_pos ⟨trivial,hk⟩]
  ·rw[if_neg hj]at hy;have t1:=h.mX j y hy hk;simp only[if_neg hj];rw[hgg _ (by rw[t1];simp)];exact t1
 ·intro b uX;rcases uX with uX|uX
  ·rw[if_neg (fun e:b=i=>hi0.2 (by rw[←e];exact uX)),if_neg (fun h2:b=n∧x.kind=2=>(hn0 h2.2).2 (by rw[←h2.1];exact uX))];exact h.data b uX
  ·obtain⟨d1,d2,d3,d4⟩:=hD2 b uX;rw[if_neg d3,if_neg (fun h2=>d4 h2.2 h2.1)];exact d1
 ·intro b hbn;by_cases h1:b=i
  ·omega
  ·by_cases h2:b=n∧x.kind=2
   ·have:=hnw h2.2;omega
   ·simp only[if_neg h1,if_neg h2]at hbn;exact Nat.lt_of_lt_of_le (h.low b hbn) hsz
 ·rcases hb with uX|uX
  ·exact Nat.lt_of_lt_of_le (h.oN b uX) hsz
  ·exact(hD2 b uX).2.1
theorem Hy{κ α:Type}(lt:κ→κ→Bool)(x:κ×α):∀{l:List (κ×α)},(∀q∈l,lt x.1 q.1=false)→jq lt x l=l++[x]
 |[],_=>rfl
 |y::r,h=>by
  unfold jq;rw[if_neg (by rw[h y (by simp)];decide),Hy lt x fun q hq=>h q (by simp[hq])];rfl
theorem Hz{κ α:Type}[DecidableEq κ](lt:κ→κ→Bool){k:κ}(v:α){l:List (κ×α)}(h:∀q∈l,q.1≠k∧lt k q.1=false):bX lt k v l=l++[(k,v)]:=by
 unfold bX;rw[rJ (jW.2 fun q hq=>(h q hq).1)];exact Hy lt (k,v) fun q hq=>(h q hq).2
def qU(w:World)(p:Nat)(T:aI)(w':World):Prop:=
 ∃g D mb ib nb,aM g D w' p mb ib nb T∧(∀b,g b≠ .none→w.heap.size≤b)∧(∀b,D b→w.heap.size≤b)∧Below w.heap.size w w'
theorem Ox{fp:Nat→Prop}{w w1:World}(h:Keeps fp w w1):Keeps fp w w1.drew:=⟨h.os,h.tape,h.output,h.size,h.block⟩
theorem vK{fp:Nat→Prop}{w w1:World}(n:Nat)(h:Keeps fp w w1):Keeps fp w (w1.drewN n):=⟨h.os,h.tape,h.output,h.size,h.block⟩
theorem jS{fp:Nat→Prop}{w w1 w2:World}(h:Keeps fp w w1)(hb:Below w1.heap.size w1 w2):Keeps fp w w2:=h.trans (Keeps.below hb) fun z hz hz'=>by have:=h.size;omega
theorem Bj(s:Rd):(aP s).1.length≤65535:=by
 have hr:=fQ s 2;have hp:(256:Int)^2=65536:=rfl;unfold aP;obtain⟨k,hk⟩:∃k:Nat,(bB s 2).1=(k:Int):=⟨(bB s 2).1.toNat,by omega⟩;rw[hk];have:=QC (bB s 2).2 k;omega
theorem bg.drew{D:Nat→Prop}{w:World}{x:Nat}{s:Rd}(h:bg D w x s):bg D w.drew x s:=h.kept ace rfl fun _ _ _=>rfl
theorem bg.drewN{D:Nat→Prop}{w:World}{x:Nat}{s:Rd}(n:Nat)(h:bg D w x s):bg D (w.drewN n) x s:=h.kept ace rfl fun _ _ _=>rfl
theorem tV:∀a b:List UInt8,Op.bytesLess a b=bytesBefore a b
 |[],[]=>rfl
 |[],_::_=>rfl
 |_::_,[]=>rfl
 |x::r,y::s=>by
  unfold Op.bytesLess bytesBefore;rw[tV r s]
def nD(D:Nat→Prop)(w:World)(x:Nat)(s:Rd)(e:Ending)(w':World):Prop:=
 Keeps (fun b=>b=x) w w'∧match iC s with
  |none=>∃v,e= .returned (.tuple #[v,.bool false])
  |some q=>∃(i n:Nat) (D2:Nat→Prop),e= .returned (.tuple #[ptr i,.bool true])∧bg D w' x q.2∧iV D2 w' q.1.1 i n q.1.2∧w.heap.size≤i∧i<w'.heap.size∧(q.1.2.kind=2→w.heap.size≤n∧n<w'.heap.size∧i≠n)∧∀b,D2 b→w.heap.size≤b∧b<w'.heap.size∧b≠i∧(q.1.2.kind=2→b≠n)
theorem nD.none_{D:Nat→Prop}{w w':World}{x:Nat}{s:Rd}{v:Value}(hk:Keeps (fun b=>b=x) w w')(h:iC s=none):nD D w x s (.returned (.tuple #[v,.bool false])) w':=by
 refine⟨hk,?_⟩;rw[h];exact⟨v,rfl⟩
def NmRel(D:Nat→Prop)(w8:World)(x m cnt:Nat)(s0:Rd)(lv iv:Value)(wr:World):Prop:=
 ∃(k:Nat) (sr:Rd) (last:Nm) (acc:List (Nm×Int)),iv= .int .i64 k∧k≤cnt∧lv= .string (strOf last)∧iB (cnt-k) sr last acc=iB cnt s0 [] []∧(∀e∈acc,e.1=last∨bytesBefore e.1 last=true)∧acc.length=k∧bg D wr x sr∧MapAt fT wr m (acc.map fun e=>(e.1,.int .i64 e.2))∧Keeps (fun b=>b=x∨b=m) w8 wr
theorem Ch{k:Nat}{s:Rd}{last:Nm}{acc:List (Nm×Int)}(h1:(bB (aP s).2 2).2.2=0)(h2:dO (aP s).1=true)(h3:bytesBefore last (aP s).1=true):
  iB (k+1) s last acc=iB k (bB (aP s).2 2).2 (aP s).1 (acc++[((aP s).1,(bB (aP s).2 2).1)]):=by
 rw[iB];rw[if_neg (by rw[h1,h2,h3];simp)]
theorem LG{k:Nat}{s:Rd}{last:Nm}{acc:List (Nm×Int)}(h:(bB (aP s).2 2).2.2≠0∨dO (aP s).1=false∨bytesBefore last (aP s).1=false):iB (k+1) s last acc=none:=by
 rw[iB];rw[if_pos h]
theorem S9{s:Rd}{cnt:Nat}(hd:(bL (aP s).1).2=0)(hl:((aP (aP s).2).1.length:Int)=(bL (aP s).1).1.size)(hk:(bL (aP s).1).1.kind≠1)(hc:(bB (aP (aP s).2).2 2).1=(cnt:Int))(h:iB cnt (bB (aP (aP s).2).2 2).2 [] []=none):iC s=none:=by
 unfold iC;dsimp only;rw[if_neg (by rw[hd,hl];simp),if_neg hk,hc,Int.toNat_natCast,h]
theorem S_{s:Rd}{cnt:Nat}{q:List (Nm×Int)×Rd}(hd:(bL (aP s).1).2=0)(hl:((aP (aP s).2).1.length:Int)=(bL (aP s).1).1.size)(hk:(bL (aP s).1).1.kind≠1)(hc:(bB (aP (aP s).2).2 2).1=(cnt:Int))(h:iB cnt (bB (aP (aP s).2).2 2).2 [] []=some q):
  iC s=some (((bL (aP s).1).1.id,zT (bL (aP s).1).1 (aP (aP s).2).1 q.1),q.2):=by
 unfold iC;dsimp only;rw[if_neg (by rw[hd,hl];simp),if_neg hk,hc,Int.toNat_natCast,h]
theorem EN{acc:List (Nm×Int)}{last nm:Nm}(h:∀e∈acc,e.1=last∨bytesBefore e.1 last=true)(hb:bytesBefore last nm=true):∀e∈acc,bytesBefore e.1 nm=true:=fun e he=>by
 rcases h e he with h1|h1
 ·rw[h1];exact hb
 ·exact pQ _ _ _ h1 hb
theorem QZ{acc:List (Nm×Int)}{last nm:Nm}(h:∀e∈acc,e.1=last∨bytesBefore e.1 last=true)(hb:bytesBefore last nm=true)(v:Int):
  bX bytesBefore nm (.int .i64 v:Value) (acc.map fun e=>(e.1,(.int .i64 e.2:Value)))=(acc++[(nm,v)]).map fun e=>(e.1,(.int .i64 e.2:Value)):=by
 rw[Hz bytesBefore _ fun q hq=> ?_]
 ·simp
 ·obtain⟨e,he,rfl⟩:=List.mem_map.1 hq;have h1:=EN h hb e he;dsimp only;refine⟨fun e1=> ?_,?_⟩
  ·rw[e1,aaU]at h1;cases h1
  ·cases h2:bytesBefore nm e.1 with
   |false=>rfl
   |true=>
    have h3:=pQ _ _ _ h1 h2;rw[aaU]at h3;cases h3
section
variable{D:Nat→Prop}{x:Nat}{w:World}{s:Rd}
theorem Ta(h:bg D w x s):Calls Tryz.prog 275 #[ptr x] w (nD D w x s):=by
 have hxw:=h.lt;have HB0:=ab9 (vw h);have hl1:=Bj s;obtain⟨b1,Z_⟩:∃b,b=(aP s).1:=⟨_,rfl⟩;obtain⟨s1,hs1e⟩:∃t,t=(aP s).2:=⟨_,rfl⟩;rw[←Z_,←hs1e]at HB0;rw[←Z_]at hl1;have BZ:=ab9 (And.intro Z_ hs1e);clear h Z_ hs1e;go_enter Tryz.func275,Tryz.ntmps275;go_wp2_with fail;refine HB0.o.mono ?_;rintro e w1 ⟨a1,c1,rfl,hc1,hr1,kR,hK1⟩;have AL:=ab9 hK1;have HR1:=ab9 kR;have HD:=ab9 (Ow a1 b1.length c1 b1 w1 (by omega) hr1);clear hc1 hr1 kR hK1 HB0;obtain⟨⟨id,kind,links,size,aT,closed⟩,hN⟩:∃N,N=(bL b1).1:=⟨_,rfl⟩;obtain⟨z,hz⟩:∃z,z=(bL b1).2:=⟨_,rfl⟩;rw[←hN,←hz]at HD;unfold ndC at HD;dsimp only at HD;have HN:=ab9 (And.intro hN hz);clear hN hz;go_wp2_with fail;refine HD.o.mono ?_;rintro e w2 ⟨rfl,hb2⟩;have AA:=ab9 (jS AL.o hb2);have HR2:=ab9 (HR1.o.below hb2 ace);have hx2:x<w2.heap.size:=HR2.o.lt;clear hb2 HD AL HR1;go_wp2_with fail;obtain⟨w3,hw3⟩:∃w3,w3=w2.alloc (.cells #[.int .i64 id,.int .i64 kind,.int .i64 links,.int .i64 size,.int .u64 aT,.bool closed] 35):=⟨_,rfl⟩;rw[←hw3];have hnv:w3.heap[w2.heap.size]? =some (.cells #[.int .i64 id,.int .i64 kind,.int .i64 links,.int .i64 size,.int .u64 aT,.bool closed] 35 (0,0)):=by rw[hw3];exact(MapKept.heap_alloc w2 _).1
 have hb3:Below w2.heap.size w2 w3:=by rw[hw3];exact wall w2 _
 have Tc:=ab9 (jS AA.o hb3);have HR3:=ab9 (HR2.o.below hb3 ace);have hvw:=(uh.1 hnv).1;have HNV:acd (∀w',Keeps (fun b=>b=x) w3 w'→w'.heap[w2.heap.size]? =some (.cells #[.int .i64 id,.int .i64 kind,.int .i64 links,.int .i64 size,.int .u64 aT,.bool closed] 35 (0,0))):=fun w' hK=>(hK.block _ hvw (fun(e:w2.heap.size=x)=>by omega)).trans hnv;have GL:acd (∀w',Keeps (fun b=>b=x) w3 w'→w'.cell? ⟨w2.heap.size,0,none⟩=some (.int .i64 id)∧w'.cell? ⟨w2.heap.size,1,none⟩=some (.int .i64 kind)∧w'.cell? ⟨w2.heap.size,2,none⟩=some (.int .i64 links)∧w'.cell? ⟨w2.heap.size,3,none⟩=some (.int .i64 size)∧w'.cell? ⟨w2.heap.size,4,none⟩=some (.int .u64 aT)∧w'.cell? ⟨w2.heap.size,5,none⟩=some (.bool closed)):=fun w' hK=>
  ⟨bY (HNV.o w' hK) 0,bY (HNV.o w' hK) 1,bY (HNV.o w' hK) 2,bY (HNV.o w' hK) 3,bY (HNV.o w' hK) 4,bY (HNV.o w' hK) 5⟩
 have hs2:=AA.o.size;clear hw3 hb3 hnv AA HR2;have HB3:=ab9 (vw HR3.o.drew);have hl4:=Bj s1;obtain⟨b4,aac⟩:∃b,b=(aP s1).1:=⟨_,rfl⟩;obtain⟨s4,hs4e⟩:∃t,t=(aP s1).2:=⟨_,rfl⟩;rw[←aac,←hs4e]at HB3;rw[←aac]at hl4;have MW:=ab9 (And.intro aac hs4e);clear aac hs4e HR3;obtain⟨L,hL⟩:∃L,L=b4.length:=⟨_,rfl⟩;have HL:=ab9 hL;rw[←hL]at hl4;clear hL;refine xG ((fun w'=>w'.cell? ⟨w2.heap.size,0,none⟩=some (.int .i64 id)∧w'.cell? ⟨w2.heap.size,1,none⟩=some (.int .i64 kind)∧w'.cell? ⟨w2.heap.size,2,none⟩=some (.int .i64 links)∧w'.cell? ⟨w2.heap.size,3,none⟩=some (.int .i64 size)∧w'.cell? ⟨w2.heap.size,4,none⟩=some (.int .u64 aT)∧w'.cell? ⟨w2.heap.size,5,none⟩=some (.bool closed))) ?_ fun hS=> ?_
 ·exact GL.o _ (Ox (Keeps.refl _ _))
 refine aR 0 hS ?_;refine aR 1 hS ?_;refine nK 2 fun K hK=> ?_;go_simp;refine HB3.o.mono ?_;rintro e w4 ⟨a4,c4,rfl,hc4,hr4,xD,hK4⟩;have WI:acd (Keeps (fun b=>b=x) w3 w4):=⟨hK4.os,hK4.tape,hK4.output,hK4.size,hK4.block⟩;rw[←HL.o]at hc4 hr4;rw[←HL.o];have Gi:=ab9 hc4;have HR4:=ab9 hr4;have Td:=ab9 xD;have hs4:w3.heap.size≤w4.heap.size:=hK4.size;clear hc4 hr4 xD hK4 HB3;go_wp2_with fail;refine mQ hK (GL.o _ WI.o) fun hS=> ?_;clear hK K;refine aR 3 hS ?_;refine nK 4 fun K hK=> ?_;go_simp;refine mQ hK (GL.o _ (jS WI.o (wall w4 _))) fun hS=> ?_;clear hK K;refine aR 5 hS ?_;refine wQ ?_;obtain⟨w5,oL⟩:∃w5,w5=w4.alloc (.cells #[.int .i64 id,.int .i64 kind,.int .i64 links,.int .i64 size,.int .u64 aT,.bool closed,.slice a4 L c4,.map none] 192):=⟨_,rfl⟩;rw[←oL];have hit:w5.heap[w4.heap.size]? =some (.cells #[.int .i64 id,.int .i64 kind,.int .i64 links,.int .i64 size,.int .u64 aT,.bool closed,.slice a4 L c4,.map none] 192 (0,0)):=by rw[oL];exact(MapKept.heap_alloc w4 _).1
 have hb5:Below w4.heap.size w4 w5:=by rw[oL];exact wall w4 _
 have dX:=ab9 hb5;have HIT:=ab9 hit;have yt:=GL.o _ (jS WI.o hb5);obtain⟨-,hq1,-,hq3,-,-⟩:=yt;have hi6:w5.cell? ⟨w4.heap.size,6,none⟩=some (.slice a4 L c4):=bY hit 6;have J6:=ab9 (Tc.o.trans (jS WI.o hb5) fun b _ hb=>hb);have hiw:=(uh.1 hit).1;clear oL hit hb5;go_wp2_with fail;by_cases hz:z=0
 ·have HZ:=ab9 hz;have g1:(z==0)=true:=by simpa using hz
  have g2:(z !=0)=false:=by simpa using hz
  clear hz;by_cases hln:(L:Int)=size
  ·have Uw:=ab9 hln;have g3:((L:Int)==size)=true:=by simpa using hln
   have g4:((L:Int) !=size)=false:=by simpa using hln
   clear hln
   go_quiet (fail)
   have hK6:Keeps (fun b=>b=x) w (w5.drewN nq):=vK nq J6.o;have hRD6:bg D (w5.drewN nq) x s4:=(Td.o.below dX.o ace).drewN nq;have hIT6:(w5.drewN nq).heap[w4.heap.size]? =some (.cells #[.int .i64 id,.int .i64 kind,.int .i64 links,.int .i64 size,.int .u64 aT,.bool closed,.slice a4 L c4,.map none] 192 (0,0)):=HIT.o;have hrow6:ah (fun b=>w3.drew.heap.size≤b∧b<w4.heap.size) (w5.drewN nq) a4 L (b4.map bv):=(HR4.o.below dX.o ace).kept ace fun _ _ _=>rfl;have hk6:(w5.drewN nq).cell? ⟨w2.heap.size,1,none⟩=some (.int .i64 kind):=hq1;have hvw6:w2.heap.size<(w5.drewN nq).heap.size:=Nat.lt_of_lt_of_le hvw (Nat.le_trans hs4 dX.o.size);clear hq1 hq3 hi6 HIT J6;generalize w5.drewN nq=w6 at*;have HS:=ab9 (nV hRD6);have hrg:=fQ s4 2;obtain⟨cnt,hcnt⟩:∃cnt:Nat,(bB s4 2).1=(cnt:Int):=⟨(bB s4 2).1.toNat,by omega⟩;have hcb:cnt<65536:=by
    have:(256:Int)^2=65536:=rfl;omega
   obtain⟨s5,hs5⟩:∃t,t=(bB s4 2).2:=⟨_,rfl⟩;rw[hcnt,←hs5]at HS;have Oy:=ab9 (And.intro hcnt hs5);have QE:=ab9 hrow6;have HIT6:=ab9 hIT6;have HK6:=ab9 hK6;have hx6:=hRD6.lt;have hiw6:=(uh.1 hIT6).1;have hix:w4.heap.size≠x:=by have:=Td.o.lt;omega
   clear hrg hcnt hs5 hrow6 hIT6 hK6 hRD6;go_wp2_with fail;refine HS.o.mono ?_;rintro e w7 ⟨rfl,QF,hK7⟩;have hvx:w2.heap.size≠x:=by omega
   have Zy:w7.cell? ⟨w2.heap.size,1,none⟩=some (.int .i64 kind):=(World.cell?_of_block (w:=w6) (w':=w7) (a:=⟨w2.heap.size,1,none⟩) (hK7.block _ hvw6 hvx)).trans hk6;have hit7:=(hK7.block _ hiw6 hix).trans HIT6.o;have hs7:=hK7.size;have HK7:=ab9 (HK6.o.trans hK7 fun b _ hb=>hb);have Ej:acd (ah (fun b=>w3.drew.heap.size≤b∧b<w4.heap.size) w7 a4 L (b4.map bv)):=QE.o.kept hs7 fun b hb hbw=>hK7.block b hbw fun(e:b=x)=>by have:=Td.o.lt;have:=WI.o.size;have h9:w3.heap.size≤b:=hb.1;have:=Tc.o.size;omega
   have tu:=ab9 QF;have aad:=ab9 hit7;have oQ:acd ((bL (aP s).1).1=⟨id,kind,links,size,aT,closed⟩∧(bL (aP s).1).2=0∧(aP (aP s).2).1=b4∧(aP (aP s).2).2=s4):=by
    refine⟨?_,?_,?_,?_⟩
    ·rw[←BZ.o.1,←HN.o.1]
    ·rw[←BZ.o.1,←HN.o.2,HZ.o]
    ·rw[←BZ.o.2,←MW.o.1]
    ·rw[←BZ.o.2,←MW.o.2]
   have hs30:=Tc.o.size;have hs34:=hs4;have hs45:=dX.o.size;have hitC:∀(l:List (Nm×Int)) (nb:Nat) (v:Value),v=eu (zT ⟨id,kind,links,size,aT,closed⟩ b4 l) nb→iq id (zT ⟨id,kind,links,size,aT,closed⟩ b4 l) a4 c4 nb= #[.int .i64 id,.int .i64 kind,.int .i64 links,.int .i64 size,.int .u64 aT,.bool closed,.slice a4 L c4,v]:=fun l nb v hv=>by
    rw[hv];unfold iq zT;dsimp only;rw[←HL.o,Uw.o]
   have HITC:=ab9 hitC;have HLX:=Td.o.lt;clear QF hK7 hit7 hitC HS hk6;by_cases hk1:kind=1
   ·have g5:(kind==1)=true:=by simpa using hk1
    by_cases hc0:cnt=0
    ·have HF:acd (iC s=some ((id,zT ⟨id,kind,links,size,aT,closed⟩ b4 []),s5)):=by
      show _=_;unfold iC;dsimp only;rw[oQ.o.1,oQ.o.2.1,oQ.o.2.2.1,oQ.o.2.2.2,if_neg (by
       dsimp only;rw[←HL.o,Uw.o];simp),if_pos hk1,if_pos (by rw[Oy.o.1,hc0];rfl),Oy.o.2]
     subst hc0;have Oz:=ab9 hk1;clear hk1;go_wp2_with fail
     go_ret2
     refine⟨HK7.o,?_⟩;rw[HF.o];refine⟨w4.heap.size,0,fun b=>w3.drew.heap.size≤b∧b<w4.heap.size,rfl,tu.o,⟨⟨a4,c4,?_,?_,?_⟩,fun hk=> ?_⟩,by omega,by omega,fun hk=> ?_,fun b hb=> ?_⟩
     ·rw[HITC.o [] 0 (.map none) (if_neg (by show ¬kind=2;rw[Oz.o];decide)).symm];exact aad.o
     ·show oI b4.length c4;rw[←HL.o];exact Gi.o
     ·show ah _ w7 a4 b4.length _;rw[←HL.o];exact Ej.o
     ·have h9:kind=2:=hk;rw[Oz.o]at h9;cases h9
     ·have h9:kind=2:=hk;rw[Oz.o]at h9;cases h9
     ·have h9:w3.heap.size≤b:=hb.1;have h8:=hb.2;exact⟨by omega,by omega,by omega,fun hk=>by
       have h9:kind=2:=hk;rw[Oz.o]at h9;cases h9⟩
    ·have HF:acd (iC s=none):=by
      show _=_;unfold iC;dsimp only;rw[oQ.o.1,oQ.o.2.1,oQ.o.2.2.1,oQ.o.2.2.2,if_neg (by
       dsimp only;rw[←HL.o,Uw.o];simp),if_pos hk1,if_neg (by rw[Oy.o.1];omega)]
     have g6:((cnt:Int)==0)=false:=by simpa using hc0
     clear hk1 hc0;go_wp2_with fail
     go_ret2
     exact nD.none_ HK7.o HF.o
   ·have g5:(kind==1)=false:=by simpa using hk1
    have hk2:kind=2:=by
     have h9:=(ED oQ.o.2.1).2.1;rw[oQ.o.1]at h9;rcases h9 with h9|h9
     ·exact absurd h9.1 hk1
     ·exact h9.1
    have HK2':=ab9 hk2;have Oz:=ab9 hk1;have hmm:= @abT Tryz.prog;have hf7:w7.frozen? ⟨w4.heap.size,7,none⟩=false:=by simp only[World.frozen?,aad.o];rfl
    have Gc:w7.cell? ⟨w4.heap.size,7,none⟩=some (.map none):=bY aad.o 7;have hlt7:w4.heap.size<w7.heap.size:=Nat.lt_of_lt_of_le hiw6 hs7;clear hk1 hk2;go_wp2_with fail;obtain⟨w8,hw8⟩:∃w8,w8=(w7.setCell ⟨w4.heap.size,7,none⟩ (.map (some w7.heap.size))).alloc (.map #[] 0):=⟨_,rfl⟩;have aae:(w7.setCell ⟨w4.heap.size,7,none⟩ (.map (some w7.heap.size))).heap.size=w7.heap.size:=size_set _ _ _;rw[←hw8];have Aj:w8.heap.size=w7.heap.size+1:=by rw[hw8,Pd,aae]
    have hM8:MapAt fT w8 w7.heap.size []:=by
     have:=MapAt.made (F:=fT) (w7.setCell ⟨w4.heap.size,7,none⟩ (.map (some w7.heap.size)));rw[aae]at this;rw[hw8];exact this
    have hold:∀b,b<w7.heap.size→b≠w4.heap.size→w8.heap[b]? =w7.heap[b]? :=fun b hb hn=>by
     rw[hw8];exact((wall _ _).block b (by rw[aae];exact hb)).trans (aL _ _ _ _ hn)
    have hI8:w8.heap[w4.heap.size]? =some (.cells #[.int .i64 id,.int .i64 kind,.int .i64 links,.int .i64 size,.int .u64 aT,.bool closed,.slice a4 L c4,.map (some w7.heap.size)] 192 (0,0)):=by
     rw[hw8,(wall (w7.setCell ⟨w4.heap.size,7,none⟩ (.map (some w7.heap.size))) _).block _ (by rw[aae];exact hlt7),aK aad.o];rfl
    have hK8:Keeps (fun b=>b=x) w w8:=by
     have hk:Keeps (fun b=>b=w4.heap.size) w7 w8:=by
      rw[hw8];exact jS (Keeps.kX w7 ⟨w4.heap.size,7,none⟩ _) (wall _ _)
     exact⟨hk.os.trans HK7.o.os,hk.tape.trans HK7.o.tape,hk.output.trans HK7.o.output,by have:=HK7.o.size;omega,fun b hb hn=>(hold b (by omega) (by omega)).trans (HK7.o.block b hb hn)⟩
    have Nq:=ab9 (tu.o.kept (w1:=w8) (by omega) (hold x (by omega) (by omega)) fun b hb hbw=>hold b hbw (fun e=>by have:=Td.o.low b hb;omega));have J_:=ab9 hM8;have HI8:=ab9 hI8;have HK8:=ab9 hK8;have HOLD:=ab9 hold;clear hw8 hM8 hI8 hK8 hold hf7 Gc hmm Zy
    go_loopw [8,46] (fun lv iv wr=>NmRel D w8 x w7.heap.size cnt s5 lv iv wr) (fun _ iv _=>cnt-(intOf iv).toNat)
    case atStart=>exact⟨0,s5,[],[],rfl,Nat.zero_le _,rfl,rfl,fun e he=>(by cases he),rfl,Nq.o,J_.o,Keeps.refl _ _⟩
    case round=>
     obtain⟨k,sr,last,acc,rfl,hk,rfl,hrn,hal,hac,hRr,hMr,hKr⟩:=hrel;have HRN:=ab9 hrn;have V_:=ab9 hal;have HAC:=ab9 hac;have HRR:=ab9 hRr;have HMR:=ab9 hMr;have HKR:=ab9 hKr;clear hrn hal hac hRr hMr hKr;by_cases hlt:k<cnt
     ·have hmr:=HMR.o.lt;have Qs:=J_.o.lt;have hsr:=HKR.o.size;have VW:=HRR.o.lt;have hI:wr.heap[w4.heap.size]? =some (.cells #[.int .i64 id,.int .i64 kind,.int .i64 links,.int .i64 size,.int .u64 aT,.bool closed,.slice a4 L c4,.map (some w7.heap.size)] 192 (0,0)):=(HKR.o.block _ (by omega) (by omega)).trans HI8.o;have HI:=ab9 hI;have Uv:=ab9 (vw HRR.o);have hnl:=Bj sr;obtain⟨nm,hnm⟩:∃b,b=(aP sr).1:=⟨_,rfl⟩;obtain⟨t1,ht1⟩:∃t,t=(aP sr).2:=⟨_,rfl⟩;rw[←hnm,←ht1]at Uv;rw[←hnm]at hnl;have Ai:=ab9 (And.intro hnm ht1);have HKW:acd (∀w',Keeps (fun b=>b=x∨b=w7.heap.size) w8 w'→Keeps (fun b=>b=x) w w'):=fun w' hK=>HK8.o.trans hK fun z hz hzx=>hzx.resolve_right fun e=>by omega
      clear hnm ht1 hI;go_wp2_with fail;refine Uv.o.mono ?_;rintro e wa ⟨aa,ca,rfl,hca,hra,hRa,hKa⟩;have hcv:(convert 32 9 (.slice aa nm.length ca)).run Tryz.prog wa= .ok (.string (strOf nm)) wa:=pO (c:=ca) hra;have YB:=ab9 hRa;have YK:=ab9 hKa;have hsa:=hKa.size;have HMA:=ab9 (HMR.o.kept (hKa.block _ hmr (by omega)));have HIA:=ab9 ((hKa.block _ (by omega) hix).trans HI.o);clear hca hra hRa hKa Uv;go_wp2_with fail;clear hcv;have YJ:=ab9 (nV YB.o.drew);obtain⟨v,hv⟩:∃v,v=(bB t1 2).1:=⟨_,rfl⟩;obtain⟨t2,ht2⟩:∃t,t=(bB t1 2).2:=⟨_,rfl⟩;rw[←hv,←ht2]at YJ;have HV:=ab9 (And.intro hv ht2);clear hv ht2;refine Cv 7 ((fun w'=>w'.cell? ⟨w4.heap.size,7,none⟩=some (.map (some w7.heap.size)))) ?_ fun hS=> ?_
      ·exact bY HIA.o 7
      refine aY 0 hS ?_;refine aY 1 hS ?_;refine aY 2 hS ?_;refine aY 3 hS ?_;refine aY 4 hS ?_;refine aY 5 hS ?_;refine dW 6 fun K hK=> ?_;go_simp;refine YJ.o.mono ?_;rintro e wb ⟨rfl,hRb,hKb⟩;have hIb:wb.heap[w4.heap.size]? =some (.cells #[.int .i64 id,.int .i64 kind,.int .i64 links,.int .i64 size,.int .u64 aT,.bool closed,.slice a4 L c4,.map (some w7.heap.size)] 192 (0,0)):=(hKb.block _ (by show w4.heap.size<wa.heap.size;omega) hix).trans HIA.o;have hMb:MapAt fT wb w7.heap.size (acc.map fun e=>(e.1,.int .i64 e.2)):=HMA.o.kept (hKb.block _ (by show w7.heap.size<wa.heap.size;omega) (by omega));have hsb:wa.heap.size≤wb.heap.size:=hKb.size;have HRB:=ab9 hRb;have HKB:acd (Keeps (fun b=>b=x) wa wb):=⟨hKb.os,hKb.tape,hKb.output,hKb.size,hKb.block⟩;clear hRb hKb YJ;go_wp2_with fail;refine dK hK (bY hIb 7) fun hS=> ?_;clear hK K;refine dW 7 fun K hK=> ?_;go_simp;obtain⟨wc,hrun,hMc,hTc⟩:=hMb.oZ fT Tryz.underlying190 (by rw[List.length_map,HAC.o];unfold maxLen;omega) nm (.int .i64 v) (by show nm.length≤maxLen;unfold maxLen;omega);have hval:fT.val nm= .string (strOf nm):=rfl;rw[hval]at hrun;rw[hrun];go_simp;refine sN hK ?_;clear hS hK K;have hsc:=fI hTc;have Ur:=ab9 hMc;have Jr:=ab9 (HRB.o.kept (w1:=wc) (by omega) (cK hTc x (by have:=HRB.o.lt;omega) (by omega)) fun b hb hbw=>cK hTc b hbw (fun e=>by have:=Td.o.low b hb;omega));have HKC:acd (Keeps (fun b=>b=x∨b=w7.heap.size) w8 wc):=((HKR.o.trans YK.o fun z _ hz=> .inl hz).trans HKB.o fun z _ hz=> .inl hz).trans (Keeps.turned hTc) fun z _ hz=> .inr hz;clear hrun hMc hTc hMb hIb hval;have WJ:=ab9 (fun w'=>Ko (strOf nm) w' (by rw[iJ];unfold maxLen;omega));have hgl:(strOf nm).data.toList=nm:=by simp[strOf]
      rw[hgl]at WJ;have Dc:=ab9 (Jb Jr.o);have Gn:=ab9 (Jc Jr.o);have uE:acd ((t2.2≠0∨dO nm=false∨bytesBefore last nm=false)→iC s=none):=fun hh=>by
       refine S9 (cnt:=cnt) oQ.o.2.1 (by rw[oQ.o.2.2.1,oQ.o.1];dsimp only;rw[←HL.o,Uw.o]) (by rw[oQ.o.1];exact Oz.o) (by rw[oQ.o.2.2.2];exact Oy.o.1) ?_;rw[oQ.o.2.2.2,←Oy.o.2,←HRN.o,show cnt-k=(cnt-(k+1))+1 by omega];refine LG ?_;rw[←Ai.o.1,←Ai.o.2,←HV.o.2];exact hh
      clear hgl;by_cases he:t2.2=0
      ·have hgo:∀w',Below wc.heap.size wc w'→Keeps (fun b=>b=x∨b=w7.heap.size) w8 w':=fun w' hb=>jS HKC.o hb;have WK:=ab9 hgo;have HE0:=ab9 he;clear hgo;rcases aaF t2.1.length with hl0|hl0
       ·have hlf:lJ t2=0:=by unfold lJ;rw[if_neg (by simp[he])];exact hl0
        have hen:qF t2=0:=by unfold qF;rw[if_neg (fun hh=>by omega)];exact he
        rw[hlf]at Dc;rw[hen]at Gn;clear hlf hen hl0 he;go_wp2_with fail;refine Dc.o.mono ?_;rintro e _ ⟨rfl,rfl⟩;go_wp2_with fail;refine Gn.o.mono ?_;rintro e _ ⟨rfl,rfl⟩;go_wp2_with fail;cases hg:dO nm with
        |false=>
         rw[hg]at WJ;have HF:=ab9 (uE.o (.inr (.inl hg)));clear hg uE;refine(WJ.o _).mono ?_;rintro e wd ⟨rfl,hbd⟩;have WL:=ab9 (HKW.o _ (WK.o _ hbd));clear hbd;go_wp2_with fail
         go_ret2
         exact nD.none_ WL.o HF.o
        |true=>
         rw[hg]at WJ;have HG:=ab9 hg;clear hg;refine(WJ.o _).mono ?_;rintro e wd ⟨rfl,hbd⟩;have tN:=ab9 hbd;clear hbd;cases hb:bytesBefore last nm with
         |false=>
          have HF:=ab9 (uE.o (.inr (.inr hb)));have WL:=ab9 (HKW.o _ (WK.o _ tN.o));clear uE;by_cases heq:nm=last
          ·subst heq;have e1:Op.bytesLess (strOf nm).toList (strOf nm).toList=false:=by rw[dZ,tV];exact aaU _
           have e2:((strOf nm).toList==(strOf nm).toList)=true:=by simp
           clear hb;go_wp2_with fail
           go_ret2
           exact nD.none_ WL.o HF.o
          ·have e1:Op.bytesLess (strOf nm).toList (strOf last).toList=true:=by
            rw[dZ,dZ,tV];rcases Go.WideAt.bytes_total nm last heq with h9|h9
            ·exact h9
            ·rw[hb]at h9;cases h9
           clear hb heq;go_wp2_with fail
           go_ret2
           exact nD.none_ WL.o HF.o
         |true=>
          have e1:Op.bytesLess (strOf nm).toList (strOf last).toList=false:=by
           rw[dZ,dZ,tV];cases h9:bytesBefore nm last with
           |false=>rfl
           |true=>
            have h8:=pQ _ _ _ hb h9;rw[aaU]at h8;cases h8
          have e2:((strOf nm).toList==(strOf last).toList)=false:=by
           rw[dZ,dZ];have hne:nm≠last:=fun h9=>by rw[h9,aaU]at hb;cases hb
           simpa using hne
          have zN:=ab9 hb;clear hb uE;go_wp2_with fail;go_roundw
          case rel=>
           refine⟨k+1,t2,nm,acc++[(nm,v)],by go_num,by omega,rfl,?_,fun e he=> ?_,by rw[List.length_append,HAC.o];rfl,Jr.o.below tN.o ace,?_,WK.o _ tN.o⟩
           ·rw[←HRN.o,show cnt-k=(cnt-(k+1))+1 by omega];rw[Ch (by rw[←Ai.o.2,←HV.o.2];exact HE0.o) (by rw[←Ai.o.1];exact HG.o) (by rw[←Ai.o.1];exact zN.o),←Ai.o.1,←Ai.o.2,←HV.o.1,←HV.o.2]
           ·rcases aas.1 he with h9|h9
            ·exact .inr (EN V_.o zN.o e h9)
            ·simp only[List.mem_singleton]at h9;subst h9;exact .inl rfl
           ·rw[←QZ V_.o zN.o v];exact Ur.o.kept (tN.o.block _ Ur.o.lt)
          case measure=>simp[intOf];omega
       ·have hlf:lJ t2=t2.1.length:=by unfold lJ;rw[if_neg (by simp[he])]
        rw[hlf]at Dc;have glf:((t2.1.length:Int)==0)=false:=abW.2 (by omega);clear hlf hl0 he;go_wp2_with fail;refine Dc.o.mono ?_;rintro e _ ⟨rfl,rfl⟩;go_wp2_with fail;clear glf;cases hg:dO nm with
        |false=>
         rw[hg]at WJ;have HF:=ab9 (uE.o (.inr (.inl hg)));clear hg uE;refine(WJ.o _).mono ?_;rintro e wd ⟨rfl,hbd⟩;have WL:=ab9 (HKW.o _ (WK.o _ hbd));clear hbd;go_wp2_with fail
         go_ret2
         exact nD.none_ WL.o HF.o
        |true=>
         rw[hg]at WJ;have HG:=ab9 hg;clear hg;refine(WJ.o _).mono ?_;rintro e wd ⟨rfl,hbd⟩;have tN:=ab9 hbd;clear hbd;cases hb:bytesBefore last nm with
         |false=>
          have HF:=ab9 (uE.o (.inr (.inr hb)));have WL:=ab9 (HKW.o _ (WK.o _ tN.o));clear uE;by_cases heq:nm=last
          ·subst heq;have e1:Op.bytesLess (strOf nm).toList (strOf nm).toList=false:=by rw[dZ,tV];exact aaU _
           have e2:((strOf nm).toList==(strOf nm).toList)=true:=by simp
           clear hb;go_wp2_with fail
           go_ret2
           exact nD.none_ WL.o HF.o
          ·have e1:Op.bytesLess (strOf nm).toList (strOf last).toList=true:=by
            rw[dZ,dZ,tV];rcases Go.WideAt.bytes_total nm last heq with h9|h9
            ·exact h9
            ·rw[hb]at h9;cases h9
           clear hb heq;go_wp2_with fail
           go_ret2
           exact nD.none_ WL.o HF.o
         |true=>
          have e1:Op.bytesLess (strOf nm).toList (strOf last).toList=false:=by
           rw[dZ,dZ,tV];cases h9:bytesBefore nm last with
           |false=>rfl
           |true=>
            have h8:=pQ _ _ _ hb h9;rw[aaU]at h8;cases h8
          have e2:((strOf nm).toList==(strOf last).toList)=false:=by
           rw[dZ,dZ];have hne:nm≠last:=fun h9=>by rw[h9,aaU]at hb;cases hb
           simpa using hne
          have zN:=ab9 hb;clear hb uE;go_wp2_with fail;go_roundw
          case rel=>
           refine⟨k+1,t2,nm,acc++[(nm,v)],by go_num,by omega,rfl,?_,fun e he=> ?_,by rw[List.length_append,HAC.o];rfl,Jr.o.below tN.o ace,?_,WK.o _ tN.o⟩
           ·rw[←HRN.o,show cnt-k=(cnt-(k+1))+1 by omega];rw[Ch (by rw[←Ai.o.2,←HV.o.2];exact HE0.o) (by rw[←Ai.o.1];exact HG.o) (by rw[←Ai.o.1];exact zN.o),←Ai.o.1,←Ai.o.2,←HV.o.1,←HV.o.2]
           ·rcases aas.1 he with h9|h9
            ·exact .inr (EN V_.o zN.o e h9)
            ·simp only[List.mem_singleton]at h9;subst h9;exact .inl rfl
           ·rw[←QZ V_.o zN.o v];exact Ur.o.kept (tN.o.block _ Ur.o.lt)
          case measure=>simp[intOf];omega
      ·have hlf:lJ t2=0:=by unfold lJ;rw[if_pos he]
       have hen:qF t2=t2.2:=by unfold qF;rw[if_neg (fun hh=>he hh.1)]
       have HF:=ab9 (uE.o (.inl he));have g7:(t2.2 !=0)=true:=by simpa using he
       have g8:(t2.2==0)=false:=by simpa using he
       rw[hlf]at Dc;rw[hen]at Gn;have WL:=ab9 (HKW.o _ HKC.o);clear hlf hen he uE;go_wp2_with fail;refine Dc.o.mono ?_;rintro e _ ⟨rfl,rfl⟩;go_wp2_with fail;refine Gn.o.mono ?_;rintro e _ ⟨rfl,rfl⟩;go_wp2_with fail
       go_ret2
       exact nD.none_ WL.o HF.o
     ·obtain rfl:k=cnt:=by omega
      have HF:acd (iC s=some ((id,zT ⟨id,kind,links,size,aT,closed⟩ b4 acc),sr)):=by
       show _=_;rw[S_ (cnt:=k) (q:=(acc,sr)) oQ.o.2.1 (by rw[oQ.o.2.2.1,oQ.o.1];dsimp only;rw[←HL.o,Uw.o]) (by rw[oQ.o.1];exact Oz.o) (by rw[oQ.o.2.2.2];exact Oy.o.1) (by rw[oQ.o.2.2.2,←Oy.o.2,←HRN.o,Nat.sub_self];rfl),oQ.o.1,oQ.o.2.2.1]
      go_wp2_with fail
      go_ret2
      have Qs:=J_.o.lt;have hsr:=HKR.o.size;refine⟨HK8.o.trans HKR.o fun z hz hzx=>hzx.resolve_right fun e=>by omega,?_⟩;rw[HF.o];refine⟨w4.heap.size,w7.heap.size,fun b=>w3.drew.heap.size≤b∧b<w4.heap.size,rfl,HRR.o,⟨⟨a4,c4,?_,?_,?_⟩,fun hk=> ?_⟩,by omega,by omega,fun hk=>⟨by omega,by omega,by omega⟩,fun b hb=> ?_⟩
      ·rw[HITC.o acc w7.heap.size (.map (some w7.heap.size)) (if_pos (show kind=2 from HK2'.o)).symm];exact(HKR.o.block _ (by omega) (by omega)).trans HI8.o
      ·show oI b4.length c4;rw[←HL.o];exact Gi.o
      ·show ah _ wr a4 b4.length _;rw[←HL.o];exact Ej.o.kept (by omega) fun b hb hbw=>by
        have h9:w3.heap.size≤b:=hb.1;have h8:=hb.2;exact(HKR.o.block b (by omega) (by omega)).trans (HOLD.o b hbw (by omega))
      ·exact HMR.o
      ·have h9:w3.heap.size≤b:=hb.1;have h8:=hb.2;exact⟨by omega,by omega,by omega,fun _=>by omega⟩
  ·have g3:((L:Int)==size)=false:=by simpa using hln
   have g4:((L:Int) !=size)=true:=by simpa using hln
   have HF:acd (iC s=none):=by
    show _=_;unfold iC;dsimp only;rw[if_pos];right;rw[←BZ.o.1,←HN.o.1,←BZ.o.2,←MW.o.1,←HL.o];exact hln
   clear hln
   go_quiet (fail)
   go_wp2_with fail
   go_ret2
   exact nD.none_ (vK _ J6.o) HF.o
 ·have g1:(z==0)=false:=by simpa using hz
  have g2:(z !=0)=true:=by simpa using hz
  have HF:acd (iC s=none):=by
   show _=_;unfold iC;dsimp only;rw[if_pos];left;rw[←BZ.o.1,←HN.o.2];exact hz
  clear hz
  go_quiet (fail)
  go_wp2_with fail
  go_ret2
  exact nD.none_ (vK _ J6.o) HF.o
end
end Go.Proofs.YtmflaonodghbcaaGreatDoor
