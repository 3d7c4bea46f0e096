/- package -/
import Derived.Test.YtjnhnlabpccgjaaGreatDoorM20
import Derived.Test.YtjnhnlabpccgjaaGreatDoorM16
import Derived.Test.YtjnhnlabpccgjaaGreatDoorM01
import Derived.Test.YtjnhnlabpccgjaaGreatDoorM11
import Derived.Test.YtjnhnlabpccgjaaGreatDoorProg
import Derived.Shelf.Spec.SlicesGrow
import Derived.Test.YtjnhnlabpccgjaaGreatDoorM18
import Derived.Test.YtjnhnlabpccgjaaGreatDoorM12
import Derived.Test.YtjnhnlabpccgjaaGreatDoorM10
import Derived.Test.YtjnhnlabpccgjaaGreatDoorM14
import Derived.Test.YtjnhnlabpccgjaaGreatDoorM08
set_option maxRecDepth 100000
set_option maxHeartbeats 64000000
set_option linter.all false
namespace Go.Proofs.YtjnhnlabpccgjaaGreatDoor
open Go.ChangeShapes Go.WideShapes Go.ChangeAt Go.RowKit
def xM(k:Int)(x:bJ):Array Value:= #[.int .i64 k,.int .i64 x.kind,.int .i64 x.links,.int .i64 x.b.length,.int .u64 x.aF,.bool x.closed]
def wF(T:aA)(ls:List Nm):Array Value×Int:=if (aY T ls).2≠0 then(kF,(aY T ls).2)else match aj (aY T ls).1 T with|some x=>(xM (aY T ls).1 x,0)|none=>(kF,0)
section
variable{W w:World}{o:Mark}{i j k l p:Nat}{M:dQ}
theorem QB{S:Nat→Prop}(hS:eG o i j k w p M)(hM:Marks W o w)(hok:dZ M.t)(a:Option Addr)(n c:Nat)(ls:List Nm)(hls:aT S w a n (ls.map strOf))(hid:(Lit.int .i64 (aY M.t ls).1).wf=true):
  Calls Tryz.prog 150 #[ptr p,.slice a n c] w fun e w'=>e= .returned (.tuple #[.agg (wF M.t ls).1,.int .i64 (wF M.t ls).2])∧Below w.heap.size w w':=by
 obtain⟨t,s,v,h1,h2,h3,h4⟩:=hS.at_;obtain⟨z0,z1,z2,z3,z4⟩:=lq h1;have hlow:=hS.low;obtain⟨w2,hw2⟩:∃w2,w2=w.alloc (.cells kF 39):=⟨_,rfl⟩;have hb2:Below w.heap.size w w2:=by rw[hw2];exact wall w _
 have hre:w2.heap[w.heap.size]? =some (.cells kF 39 (0,0)):=by rw[hw2];exact(MapKept.heap_alloc w _).1
 obtain⟨g,D,mb,ib,nb,hA,hg,hD⟩:=h3.grow hb2;have qP:acs (Calls Tryz.prog 142 #[ptr t,.slice a n c] (w.alloc (.cells kF 39)) fun e w'=>e= .returned (.tuple #[.int .i64 (aY M.t ls).1,.int .i64 (aY M.t ls).2])∧Below w2.heap.size w2 w'):=by
  rw[←hw2];exact acr (Xo a n c ls w2 hA hok (hls.below hb2 acu))
 unfold kF at qP;have wu:acs (∀w',Below w2.heap.size w2 w'→Calls Tryz.prog 143 #[ptr t,.int .i64 (aY M.t ls).1] w' fun e w''=>e= .returned (.tuple #[jN M.t (aY M.t ls).1,.bool (aj (aY M.t ls).1 M.t).isSome])∧Below w'.heap.size w' w''):=fun w' hb=>Tn _ w' (hA.below hb acu) hid;have HP:acs (∀w',Below w2.heap.size w2 w'→w'.cell? ⟨p,0,none⟩=some (ptr t)):=fun w' hb=>((hb2.trans (hb.mono hb2.size)).cell (p:=⟨p,0,none⟩) hlow).trans z0;have uG:=acr hre;have HB2:=acr hb2;have hgs:=(iL.1 hre).1;clear hS hM hok hls hid h1 h2 h3 h4 z1 z2 z3 z4 hw2 hb2 hre hA hg hD;obtain⟨ki,hki⟩:∃ki,ki=(aY M.t ls).1:=⟨_,rfl⟩;obtain⟨ke,hke⟩:∃ke,ke=(aY M.t ls).2:=⟨_,rfl⟩;rw[←hki,←hke]at qP;rw[←hki]at wu;have HR:acs (wF M.t ls=if ke≠0 then(kF,ke)else match aj ki M.t with|some x=>(xM ki x,0)|none=>(kF,0)):=by
  unfold wF;rw[←hki,←hke];exact acr rfl
 clear hki hke;go_enter Tryz.func150,Tryz.ntmps150;go_wp2_with fail;refine qP.o.mono ?_;rintro e w3 ⟨rfl,hb3⟩;have HB3:=acr hb3;have HR3:=acr ((hb3.block _ hgs).trans uG.o);have q0:=HP.o _ hb3;by_cases hz:ke=0
 ·have HZ:=acr hz;have hz2:(ke !=0)=false:=by simpa using hz
  have HN:=acr (wu.o _ hb3);clear hz hb3;cases ha:aj ki M.t with
  |none=>
   have hnm:jN M.t ki= .agg #[.int .i64 0,.int .i64 0,.int .i64 0,.int .i64 0,.int .u64 0,.bool false]:=by unfold jN;rw[ha]
   rw[hnm]at HN;have HA:=acr ha;clear ha hnm;go_wp2_with fail;refine HN.o.mono ?_;rintro e w4 ⟨rfl,hb4⟩;have eT:=acr hb4;have iB:acs (Below w3.heap.size w3 (w4.alloc (.cells (kF) 39))):=acr (hb4.trans ((wall _ _).mono hb4.size));have oM:acs ((w4.alloc (.cells (kF) 39)).heap[w.heap.size]? =some (.cells kF 39 (0,0))):=acr ((iB.o.block _ (iL.1 HR3.o).1).trans HR3.o);clear hb4;go_wp2_with (refine aJ (by rfl) 39 _ _ (by rfl) w.heap.size (kF) (by rfl) (by rfl) _ oM.o qp rfl (by simp[kF,xM,Value.oneCell']) ?_;intro w6 hs6;have qw:=acr hs6;clear hs6);refine r_ rfl rfl rfl rfl qw.o.1 rfl ?_;rw[HR.o,if_neg (fun h=>h HZ.o),HA.o];exact⟨rfl,qw.o.below (HB2.o.trans ((HB3.o.trans (iB.o.mono HB3.o.size)).mono HB2.o.size)) acu⟩
  |some x=>
   have hnm:jN M.t ki= .agg #[.int .i64 ki,.int .i64 x.kind,.int .i64 x.links,.int .i64 x.b.length,.int .u64 x.aF,.bool x.closed]:=by unfold jN;rw[ha];rfl
   rw[hnm]at HN;have HA:=acr ha;clear ha hnm;go_wp2_with fail;refine HN.o.mono ?_;rintro e w4 ⟨rfl,hb4⟩;have eT:=acr hb4;have iB:acs (Below w3.heap.size w3 (w4.alloc (.cells (xM ki x) 39))):=acr (hb4.trans ((wall _ _).mono hb4.size));have oM:acs ((w4.alloc (.cells (xM ki x) 39)).heap[w.heap.size]? =some (.cells kF 39 (0,0))):=acr ((iB.o.block _ (iL.1 HR3.o).1).trans HR3.o);clear hb4;go_wp2_with (refine aJ (by rfl) 39 _ _ (by rfl) w.heap.size (xM ki x) (by rfl) (by rfl) _ oM.o qp rfl (by simp[kF,xM,Value.oneCell']) ?_;intro w6 hs6;have qw:=acr hs6;clear hs6);refine r_ rfl rfl rfl rfl qw.o.1 rfl ?_;rw[HR.o,if_neg (fun h=>h HZ.o),HA.o];exact⟨rfl,qw.o.below (HB2.o.trans ((HB3.o.trans (iB.o.mono HB3.o.size)).mono HB2.o.size)) acu⟩
 ·have HZ:=acr hz;have hz2:(ke !=0)=true:=by simpa using hz
  clear hz hb3;go_wp2_with (refine aJ (by rfl) 39 _ _ (by rfl) w.heap.size kF (by rfl) (by rfl) _ HR3.o qp rfl (by simp[kF,Value.oneCell']) ?_;intro w5 hs5;have eU:=acr hs5;clear hs5);refine r_ rfl rfl rfl rfl eU.o.1 rfl ?_;rw[HR.o,if_pos HZ.o];exact⟨rfl,eU.o.below (HB2.o.trans (HB3.o.mono HB2.o.size)) acu⟩
end
def Ui(T:aA)(kind:Int)(ls:List Nm):su:=
 if (aY T ls).2≠0 then dR (aY T ls).2 else
 if kind=12 then⟨0,0,[],[],(aj (aY T ls).1 T).map fun x=>((aY T ls).1,x)⟩else⟨(uE T (aY T ls).1).2,(uE T (aY T ls).1).1.length,[],(uE T (aY T ls).1).1,none⟩
def Hr(M:dQ)(x:jK)(ls:List Nm):su:=match mW M x.snap with
 |none=>dR 29
 |some T=>Ui T x.kind ls
section
variable{W w:World}{o:Mark}{i j k l p:Nat}{M:dQ}
end
def JI(M:dQ)(T:aA)(ls:List Nm):su×dQ:=
 if (aY T ls).2≠0 then(dR (aY T ls).2,M)else
 match aj (aY T ls).1 T with
 |none=>(dR 25,M)
 |some y=>if y.kind=2 then(dR 22,M)else if y.closed=false then(dR 25,M)else
  (⟨0,nC M,[],[],none⟩,M.put (nC M).toNat (some ⟨false,0,nZ T (aY T ls).1 0 y.b.length⟩))
def vG(M:dQ)(ls:List Nm)(id:Int):su×dQ:=match mW M id with
 |none=>(dR 29,M)
 |some T=>if nC M<0 then(dR 25,M)else JI M T ls
section
variable{W w:World}{o:Mark}{i j k l p:Nat}{M:dQ}
end
def XM(a b:Int):Bool:=decide (b≤a)
theorem QC(t:Int)(w:World):
  Calls Tryz.prog 56 #[.int .u64 t] w fun e w'=>e= .returned (.bool (decide (t≤1099511627776)))∧w=w':=by
 go_enter Tryz.func56,Tryz.ntmps56;go_wp2;go_ret;exact⟨rfl,rfl⟩
theorem zh(a b:Int)(w:World):
  Calls Tryz.prog 192 #[.int .u64 a,.int .u64 b] w fun e w'=>e= .returned (.bool (XM a b))∧w=w':=by
 go_enter Tryz.func192,Tryz.ntmps192;go_wp2;go_ret;exact⟨rfl,rfl⟩
def kindOf(k:Int):Int:=if k=1 then 0 else if k=2 then 22 else 30
def gF(k l u:Int)(c:Bool)(now:Int):Int:=if k=1∧c=true∧l≤1∧now<u then 28 else kindOf k
def xO(k u:Int)(c:Bool)(till:Int):Int:=
 if k=1 then(if c=false then 25 else if till<u then 28 else if 1099511627776<till then 1 else 0)else kindOf k
theorem sw(i k l s u:Int)(c:Bool)(w:World):
  Calls Tryz.prog 191 #[.agg #[.int .i64 i,.int .i64 k,.int .i64 l,.int .i64 s,.int .u64 u,.bool c]] w fun e w'=>e= .returned (.int .i64 (kindOf k))∧w.alloc (.cells #[.int .i64 i,.int .i64 k,.int .i64 l,.int .i64 s,.int .u64 u,.bool c] 39)=w':=by
 by_cases h1:k=1
 ·subst h1;go_enter Tryz.func191,Tryz.ntmps191;go_wp2;go_ret;exact⟨rfl,rfl⟩
 ·by_cases h2:k=2
  ·subst h2;go_enter Tryz.func191,Tryz.ntmps191;go_wp2;go_ret;exact⟨rfl,rfl⟩
  ·have e1:(k==1)=false:=by simp[h1]
   have e2:(k==2)=false:=by simp[h2]
   go_enter Tryz.func191,Tryz.ntmps191;go_wp2;go_ret;exact⟨fI (by simp[kindOf,h1,h2]),rfl⟩
theorem tF:kindOf 1=0:=rfl
theorem QD(k:Int)(h:k≠1):(kindOf k==0)=false∧(kindOf k !=0)=true:=by
 unfold kindOf;rw[if_neg h];split<;>decide
theorem JJ(i k l s u:Int)(c:Bool)(now:Int)(w:World):
  Calls Tryz.prog 151 #[.agg #[.int .i64 i,.int .i64 k,.int .i64 l,.int .i64 s,.int .u64 u,.bool c],.int .u64 now] w fun e w'=>e= .returned (.int .i64 (gF k l u c now))∧Below w.heap.size w w':=by
 by_cases h1:k=1
 ·subst h1;cases c
  ·go_enter Tryz.func151,Tryz.ntmps151;go_wp2_with (first|(go_at_call 191;refine(sw _ _ _ _ _ _ _).mono ?_;rintro e w' ⟨rfl,rfl⟩;rw[tF])|(go_at_call 192;refine(zh _ _ _).mono ?_;rintro e w' ⟨rfl,rfl⟩));go_ret;exact⟨fI (by simp[gF,kindOf]),by repeat (first|exact Below.refl _ _|refine Below.alloc ?_ (by simp) _)⟩
  ·by_cases h2:l≤1
   ·cases h3:XM now u
    ·have h4:now<u:=by simp[XM]at h3;omega
     have H:=acr h4;clear h4;go_enter Tryz.func151,Tryz.ntmps151;go_wp2_with (first|(go_at_call 191;refine(sw _ _ _ _ _ _ _).mono ?_;rintro e w' ⟨rfl,rfl⟩;rw[tF])|(go_at_call 192;refine(zh _ _ _).mono ?_;rintro e w' ⟨rfl,rfl⟩));go_ret;exact⟨fI (by have:=H.o;simp[gF, *]),by repeat (first|exact Below.refl _ _|refine Below.alloc ?_ (by simp) _)⟩
    ·have h4:¬now<u:=by simp[XM]at h3;omega
     have H:=acr h4;clear h4;go_enter Tryz.func151,Tryz.ntmps151;go_wp2_with (first|(go_at_call 191;refine(sw _ _ _ _ _ _ _).mono ?_;rintro e w' ⟨rfl,rfl⟩;rw[tF])|(go_at_call 192;refine(zh _ _ _).mono ?_;rintro e w' ⟨rfl,rfl⟩));go_ret;exact⟨fI (by have:=H.o;simp[gF,kindOf, *]),by repeat (first|exact Below.refl _ _|refine Below.alloc ?_ (by simp) _)⟩
   ·go_enter Tryz.func151,Tryz.ntmps151;go_wp2_with (first|(go_at_call 191;refine(sw _ _ _ _ _ _ _).mono ?_;rintro e w' ⟨rfl,rfl⟩;rw[tF])|(go_at_call 192;refine(zh _ _ _).mono ?_;rintro e w' ⟨rfl,rfl⟩));go_ret
    exact⟨fI (by have:¬l≤1:=by omega
                 simp[gF,kindOf,this]),by repeat (first|exact Below.refl _ _|refine Below.alloc ?_ (by simp) _)⟩
 ·have e1:=(QD k h1).1;go_enter Tryz.func151,Tryz.ntmps151;go_wp2_with (first|(go_at_call 191;refine(sw _ _ _ _ _ _ _).mono ?_;rintro e w' ⟨rfl,rfl⟩)|(go_at_call 192;refine(zh _ _ _).mono ?_;rintro e w' ⟨rfl,rfl⟩));go_ret;exact⟨fI (by simp[gF,h1]),by repeat (first|exact Below.refl _ _|refine Below.alloc ?_ (by simp) _)⟩
structure Ox where
 i:Int
 k:Int
 l:Int
 s:Int
 u:Int
 c:Bool
 er:Int
def cO(T:aA)(ls:List Nm):Ox:=if (aY T ls).2≠0 then⟨0,0,0,0,0,false,(aY T ls).2⟩else match aj (aY T ls).1 T with|some x=>⟨(aY T ls).1,x.kind,x.links,x.b.length,x.aF,x.closed,0⟩|none=>⟨0,0,0,0,0,false,0⟩
def Ox.cells(x:Ox):Array Value:= #[.int .i64 x.i,.int .i64 x.k,.int .i64 x.l,.int .i64 x.s,.int .u64 x.u,.bool x.c]
theorem Mw(T:aA)(ls:List Nm):wF T ls=((cO T ls).cells,(cO T ls).er):=by
 unfold wF cO;by_cases h:(aY T ls).2≠0
 ·rw[if_pos h,if_pos h];rfl
 ·rw[if_neg h,if_neg h];cases aj (aY T ls).1 T<;>rfl
def fP(M:dQ)(ls:List Nm):Int×dQ:=
 if (cO M.t ls).er≠0 then((cO M.t ls).er,M)else
 if gF (cO M.t ls).k (cO M.t ls).l (cO M.t ls).u (cO M.t ls).c M.now≠0 then(gF (cO M.t ls).k (cO M.t ls).l (cO M.t ls).u (cO M.t ls).c M.now,M)else
 ((bL M.t ls).1,{M with t:=(bL M.t ls).2})
section
variable{W w:World}{o:Mark}{i j k l p:Nat}{M:dQ}
theorem JK{S:Nat→Prop}(hS:eG o i j k w p M)(hM:Marks W o w)(hk:Mk i j k l)(hok:dZ M.t)(a:Option Addr)(n c:Nat)(ls:List Nm)(hls:aT S w a n (ls.map strOf))(hnc:n≤c)(mQ:n≤1000000)(hid:(Lit.int .i64 (aY M.t ls).1).wf=true):
  Calls Tryz.prog 78 #[ptr p,.slice a n c] w (Uh o i j k l w p (fP M ls)):=by
 have HN:=acr (QB hS hM hok a n c ls hls hid);rw[Mw]at HN;have HKK:=acr hk;have jO:=acr hok;have HM:=acr hM;have HS:=acr hS;have Ld:=acr hls;have hr:fP M ls=fP M ls:=rfl
 conv at hr=>rhs;unfold fP
 have HR:=acr hr;clear hS hM hk hok hls hid hr;generalize cO M.t ls=X at HN HR;obtain⟨xi,xk,xl,xs,xu,xc,xe⟩:=X;unfold Ox.cells at HN;go_enter Tryz.func78,Tryz.ntmps78;go_wp2_with fail;refine HN.o.mono ?_;rintro e w1 ⟨rfl,hb1⟩;have HB1:=acr hb1;have HB2:acs (Below w.heap.size w (w1.alloc (.cells #[.int .i64 xi,.int .i64 xk,.int .i64 xl,.int .i64 xs,.int .u64 xu,.bool xc] 39))):=acr (hb1.trans ((wall _ _).mono hb1.size));obtain⟨n1,n2,n3,n4,n5,n6,n7,n8,n9,n10⟩:=HKK.o.ne;clear hb1 HN;by_cases hz:xe=0
 ·have HZ:=acr hz;have hz2:(xe==0)=true:=by simpa using hz
  clear hz;obtain⟨w2,hw2⟩:∃w2,w2=w1.alloc (.cells #[.int .i64 xi,.int .i64 xk,.int .i64 xl,.int .i64 xs,.int .u64 xu,.bool xc] 39):=⟨_,rfl⟩;have hnd:w2.heap[w1.heap.size]? =some (.cells #[.int .i64 xi,.int .i64 xk,.int .i64 xl,.int .i64 xs,.int .u64 xu,.bool xc] 39 (0,0)):=by rw[hw2];exact(MapKept.heap_alloc w1 _).1
  rw[←hw2]at HB2;have hS2:=HS.o.grow HM.o HB2.o;have hM2:=HM.o.step (I:=fun _=>False) (fun e=>e) (Step.grow HM.o HB2.o);obtain⟨t,s,v,h1,h2,h3,h4⟩:=hS2.at_;have hps:=hS2.low;have HC:acs (∀w',Below w2.heap.size w2 w'→w'.cell? ⟨w1.heap.size,0,none⟩=some (.int .i64 xi)∧w'.cell? ⟨w1.heap.size,1,none⟩=some (.int .i64 xk)∧w'.cell? ⟨w1.heap.size,2,none⟩=some (.int .i64 xl)∧w'.cell? ⟨w1.heap.size,3,none⟩=some (.int .i64 xs)∧w'.cell? ⟨w1.heap.size,4,none⟩=some (.int .u64 xu)∧w'.cell? ⟨w1.heap.size,5,none⟩=some (.bool xc)∧w'.cell? ⟨p,2,none⟩=some (.int .u64 M.now)∧w'.cell? ⟨p,0,none⟩=some (ptr t)):=fun w' hb=>by
   have e1:=(hb.block _ (iL.1 hnd).1).trans hnd;have e2:=(hb.block _ hps).trans h1;refine⟨?_,?_,?_,?_,?_,?_,?_,?_⟩<;>simp[World.cell?,e1,e2,EK]
  have HUN:acs (∀w',Below w2.heap.size w2 w'→Calls Tryz.prog 152 #[ptr t,.slice a n c] w' (Uh o i j k l w p ((bL M.t ls).1,{M with t:=(bL M.t ls).2}))):=fun w' hb=>by
   have hM3:=hM2.step (I:=fun _=>False) (fun e=>e) (Step.grow hM2 hb);have hS3:=hS2.grow hM2 hb;have hst:Step o (fun m=>m=i∨m=j∨m=k∨m=l) w o w':=(Step.grow HM.o HB2.o).trans (Step.grow hM2 hb);have g1:=(hb.block p hps).trans h1;have g2:=h2.grow hM2 hb;have g4:∀n,n<8→BO o w' (v n) (M.fds n):=fun n hn=>(h4 n hn).grow hb;refine(Qo (h3.grow hb) hM3 n2 jO.o a n c ls (Ld.o.below (HB2.o.trans (hb.mono HB2.o.size)) acu) hnc mQ).mono ?_;rintro e w4 ⟨rfl,o4,hs4,kK⟩;exact⟨rfl,o4,hst.trans (hs4.mono fun m hm=> .inr (.inl hm)),eG.tree (M:=M) HKK.o g1 g2 g4 hS3.own hS3.low hs4 kK⟩
  have hw2':=hw2;clear h1 h2 h3 h4 hnd hS2 hM2 hw2;go_wp2_with fail;rw[←hw2'];clear hw2';refine BP ((fun w'=>w'.cell? ⟨w1.heap.size,0,none⟩=some (.int .i64 xi)∧w'.cell? ⟨w1.heap.size,1,none⟩=some (.int .i64 xk)∧w'.cell? ⟨w1.heap.size,2,none⟩=some (.int .i64 xl)∧w'.cell? ⟨w1.heap.size,3,none⟩=some (.int .i64 xs)∧w'.cell? ⟨w1.heap.size,4,none⟩=some (.int .u64 xu)∧w'.cell? ⟨w1.heap.size,5,none⟩=some (.bool xc)∧w'.cell? ⟨p,2,none⟩=some (.int .u64 M.now)∧w'.cell? ⟨p,0,none⟩=some (ptr t))) ?_ fun hS=> ?_
  ·exact HC.o _ acv.drew
  refine aX 0 hS ?_;refine aX 1 hS ?_;refine aX 2 hS ?_;refine aX 3 hS ?_;refine aX 4 hS ?_;refine Bl 5 fun K hK=> ?_;go_simp;refine(JJ xi xk xl xs xu xc M.now _).mono ?_;rintro e w3 ⟨rfl,hb3⟩;have HB3:acs (Below w2.heap.size w2 w3):=acr (acv.drew.trans hb3);have Ow:=acr (HC.o _ HB3.o);have q0:=(HC.o _ HB3.o).2.2.2.2.2.2.2;have HU3:=acr (HUN.o _ HB3.o);obtain⟨re,hre⟩:∃re,re=gF xk xl xu xc M.now:=⟨_,rfl⟩;rw[←hre];have uG:=acr hre;clear hre hb3;go_wp2_with fail;refine Ag hK (Ow.o) fun hS=> ?_;clear hK K;refine aX 6 hS ?_;refine Bn ?_;clear hS;by_cases hy:re=0
  ·have HY:=acr hy;have hy2:(re !=0)=false:=by simpa using hy
   clear hy;go_wp2_with fail;refine HU3.o.mono ?_;rintro e w4 ⟨rfl,ho⟩;have HO:=acr ho;clear ho;go_wp2_with fail;go_ret;have e2:fP M ls=((bL M.t ls).1,{M with t:=(bL M.t ls).2}):=HR.o.trans ((if_neg (fun h=>h HZ.o)).trans (if_neg (fun h=>h (uG.o.symm.trans HY.o))));rw[e2];exact⟨rfl,HO.o⟩
  ·have HY:=acr hy;have hy2:(re !=0)=true:=by simpa using hy
   clear hy;go_wp2_with fail;go_ret;have e2:fP M ls=(re,M):=HR.o.trans ((if_neg (fun h=>h HZ.o)).trans ((if_pos (fun h=>HY.o (uG.o.trans h))).trans (by rw[←uG.o])));rw[e2];have hb:=HB2.o.trans (HB3.o.mono HB2.o.size);exact⟨rfl,o,Step.grow HM.o hb,HS.o.grow HM.o hb⟩
 ·have HZ:=acr hz;have hz2:(xe==0)=false:=by simpa using hz
  have hz3:(xe !=0)=true:=by simpa using hz
  clear hz;go_wp2_with fail;go_ret;have e2:fP M ls=(xe,M):=HR.o.trans (if_pos HZ.o);rw[e2];exact⟨rfl,o,Step.grow HM.o HB2.o,HS.o.grow HM.o HB2.o⟩
end
def tH(M:dQ)(ls:List Nm)(aF:Int):Int×dQ:=
 if (cO M.t ls).er≠0 then((cO M.t ls).er,M)else
 if xO (cO M.t ls).k (cO M.t ls).u (cO M.t ls).c aF≠0 then(xO (cO M.t ls).k (cO M.t ls).u (cO M.t ls).c aF,M)else
 ((jA M.t (cO M.t ls).i aF).1,{M with t:=(jA M.t (cO M.t ls).i aF).2})
section
variable{W w:World}{o:Mark}{i j k l p:Nat}{M:dQ}
end
theorem F7{T:aA}:∀(p:List Nm) (id:Int),(aG T id p).2≠0→(aG T id p).1=0
 |[],id,h=>absurd rfl h
 |n::r,id,h=>by
  unfold aG at h⊢;split
  ·rfl
  ·rename_i x hx;rw[hx]at h;dsimp only at h;split
   ·rename_i hk;rw[if_pos hk]at h;split
    ·rfl
    ·rename_i k hk2;rw[hk2]at h;exact F7 r k h
   ·rfl
theorem Mx{T:aA}(hT:dZ T)(ls:List Nm):0≤(aY T ls).1∧(aY T ls).1≤65535:=by
 unfold aY;by_cases hf:bH ls≠0
 ·rw[if_pos hf];simp
 ·rw[if_neg hf];by_cases h2:(aG T 0 ls).2=0
  ·have h3:=Dc (T:=T) (p:=ls) (id:=(aG T 0 ls).1) (aaE rfl h2) hT;cases hx:aj (aG T 0 ls).1 T with
   |none=>rw[hx]at h3;cases h3
   |some x=>have:=hT.ids _ x hx;omega
  ·rw[F7 ls 0 h2];simp
theorem XO{T:aA}(hT:dZ T)(ls:List Nm):(Lit.int .i64 (aY T ls).1).wf=true:=by
 have:=Mx hT ls;exact kD (by omega) (by omega)
end Go.Proofs.YtjnhnlabpccgjaaGreatDoor
namespace Go.Proofs
open Go.Shelf
end Go.Proofs
namespace Go.Proofs.YtjnhnlabpccgjaaGreatDoor
open Go.ChangeShapes Go.WideShapes Go.ChangeAt Go.RowKit
theorem XP:(Tryz.prog.info? 3).map (fun i=>(i.zero,i.size,i.bytes))=some (some (.int .i64 0),1,8):=by kernel_rfl
def Ai(x:bJ)(now:Int):Bool:=decide (x.kind=1)&&x.closed&&decide (now<x.aF)
def lY(T:aA)(now:Int):List Int:=(T.filter fun q=>Ai q.2 now).map (·.1)
theorem MB{T:aA}{now:Int}{k:Nat}{q:Int×bJ}(h:T[k]? =some q):lY (T.take (k+1)) now=lY (T.take k) now++if Ai q.2 now then[q.1]else[]:=by
 obtain⟨hk,e⟩:=aac.1 h;unfold lY;rw[aae hk,e,aa7,List.map_append];congr 1;by_cases hl:Ai q.2 now<;>simp[hl]
section
variable{g:Nat→Own}{D:Nat→Prop}{p mb:Nat}{ib nb:Int→Nat}{T:aA}
end
section
variable{W w:World}{P:Nat→Prop}{p:Nat}{T:aA}
end
section
variable{w:World}{o:Mark}{i s:Nat}{S:lN}
end
def Aj(T:aA)(now:Int):Bool:=decide (0<(lY T now).length)
def Fh(S:lN)(k:Nat):lN:=⟨S.l.take k++S.l.drop (k+1),S.next,S.last⟩
def Ht(S:lN)(id now er:Int)(S':lN):Prop:=
 (er=29∧S'=S∧∀x∈S.l,x.id≠id)∨∃(k:Nat) (x:iw),S.l[k]? =some x∧x.id=id∧(∀x'∈S.l.take k,x'.id≠id)∧((Aj x.t now=true∧er=28∧S'=S)∨(Aj x.t now=false∧er=0∧S'=Fh S k))
theorem QE{F:Nat→Prop}{w w1:World}{b off n c k s:Nat}{vs:List Value}(h:ah F w (some ⟨b,off,none⟩) (n*s) vs)(hk:k<n)(hb:Below w.heap.size w w1):
  ah F w1 (some ⟨b,off,none⟩) (k*s) (vs.take (k*s))∧ah F w1 (if c=k+1 then some ⟨b,off,none⟩else some ⟨b,off+(k+1)*s,none⟩) ((n-(k+1))*s) (vs.drop ((k+1)*s))∨c<n:=by
 by_cases hcn:c<n
 ·exact .inr hcn
 ·left;have h1:=h.below hb acu;have h2:=h1.take (k*s);have hks:k*s≤n*s:=ab8 s (by omega);rw[abu hks]at h2;have h4:=h1.drop ((k+1)*s);rw[←Nat.sub_mul]at h4;refine⟨h2,?_⟩;by_cases hce:c=k+1
  ·rw[if_pos hce];have hl:=h.length;have hkn:k+1=n:=by omega
   exact ah.zero _ _ _ (by rw[show n-(k+1)=0 by omega,abG]) (by rw[hkn];exact aaC (by omega))
  ·rw[if_neg hce];exact h4
theorem Af.one{K:aA→Prop}{o:Mark}{w:World}{vs:List Value}{x:iw}(h:Af K o w vs x):∀u∈vs,u.oneCell'=true:=by
 obtain⟨a,c,q,h1,_⟩:=h;intro u hu;rw[h1]at hu;simp only[aan,abh,or_false]at hu;rcases hu with rfl|rfl|rfl<;>rfl
theorem jE.one{K:aA→Prop}{o:Mark}{w:World}:∀{vs:List Value} {l:List iw},jE K o w vs l→∀u∈vs,u.oneCell'=true
 |_,[],h=>by have h1:_=[]:=h;rw[h1];intro u hu;cases hu
 |_,x::r,⟨v1,v2,h1,h2,h3⟩=>by
  intro u hu;rw[h1]at hu;rcases aap.1 hu with hu|hu
  ·exact h2.one u hu
  ·exact jE.one h3 u hu
section
variable{W w:World}{o:Mark}{i s:Nat}{S:lN}
end
def zi(x:jK):List (List UInt8):=
 if x.kind=7∨x.kind=10 then[x.path,x.ig]else
 if x.kind=1∨x.kind=2∨x.kind=3∨x.kind=8∨x.kind=9∨x.kind=11∨x.kind=12∨x.kind=13 then[x.path]else[]
def gy:List (List UInt8)→List (List Nm)×Int
 |[]=>([],0)
 |a::r=>if (ak a).2≠0 then([],(ak a).2)else if (gy r).2≠0 then([],(gy r).2)else((ak a).1::(gy r).1,0)
def gu(x:jK):List (List Nm)×Int:=if 1≤x.kind∧x.kind≤17 then gy (zi x)else([],30)
def iy(S:lN)(id now:Int):Int×lN:=match S.l.findIdx? (fun x=>decide (x.id=id))with
 |none=>(29,S)
 |some k=>match S.l[k]? with
  |none=>(29,S)
  |some x=>if Aj x.t now=true then(28,S)else(0,Fh S k)
def vH(now tick:Int):Int:=if tick≤1099511627776 then(if now≤tick then tick else now)else now
def tJ(q:Int×dQ):su×dQ:=(dR q.1,q.2)
def dQ.tr(M:dQ)(T:aA):dQ:={M with t:=T}
def dQ.sn(M:dQ)(S:lN):dQ:={M with s:=S}
def f_(M:dQ)(x:jK)(p q:List Nm):su×dQ:=
 if x.kind=1 then jl M p else
 if x.kind=2 then(dR (bZ M.t p 2).1.2,M.tr (bZ M.t p 2).2)else
 if x.kind=3 then vG M p x.snap else
 if x.kind=4 then(Dz M x,M)else
 if x.kind=5 then iY M x else
 if x.kind=6 then tJ (iZ M x)else
 if x.kind=7 then(dR (kW M.t p q).1,M.tr (kW M.t p q).2)else
 if x.kind=8 then tJ (fP M p)else
 if x.kind=9 then(dR (iC M.t p).1,M.tr (iC M.t p).2)else
 if x.kind=10 then(dR (eF M.t p q).1,M.tr (eF M.t p q).2)else
 if x.kind=11∨x.kind=12 then(Hr M x p,M)else
 if x.kind=13 then tJ (tH M p x.aF)else
 if x.kind=14 then(⟨(jB M.s M.t).1.2,(jB M.s M.t).1.1,[],[],none⟩,M.sn (jB M.s M.t).2)else
 if x.kind=15 then(dR (iy M.s x.snap M.now).1,M.sn (iy M.s x.snap M.now).2)else
 if x.kind=16 then(dR 0,{M with now:=vH M.now x.aF})else(dR 0,M)
def fE(M:dQ)(x:jK):su×dQ:=
 if (gu x).2≠0 then(dR (gu x).2,M)else f_ M x ((gu x).1.getD 0 []) ((gu x).1.getD 1 [])
theorem Ht.eq{S S':lN}{id now er:Int}(h:Ht S id now er S'):iy S id now=(er,S'):=by
 unfold iy;rcases h with⟨rfl,rfl,hno⟩|⟨k,x,hx,hid,hno,h⟩
 ·have:S'.l.findIdx? (fun x=>decide (x.id=id))=none:=by
   rw[abb];intro x hx;simpa using hno x hx
  rw[this]
 ·have:S.l.findIdx? (fun x=>decide (x.id=id))=some k:=by
   obtain⟨hk,e⟩:=aac.1 hx;rw[aa6];refine⟨hk,by rw[e];simpa using hid,fun j hj=> ?_⟩;have hm:S.l[j]'(by omega)∈S.l.take k:=by
    rw[List.mem_take_iff_getElem];exact⟨j,by omega,rfl⟩
   simpa using hno _ hm
  rw[this];dsimp only;rw[hx];dsimp only;rcases h with⟨h1,rfl,rfl⟩|⟨h1,rfl,rfl⟩
  ·rw[if_pos h1]
  ·rw[if_neg (by rw[h1];simp)]
def FdOk(f:FW):Prop:=0≤f.id∧f.id≤65535∧f.b.length≤4096
structure Fj(S:lN):Prop where
 few:S.l.length≤8
 last:S.last.length≤64
 each:∀x∈S.l,fZ x.t
structure fQ(c:Int)(M:dQ):Prop where
 t:fZ M.t
 s:Fj M.s
 next:0≤M.s.next∧M.s.next≤c
 now:0≤M.now∧M.now≤1099511627776
 fd:∀n f,M.fds n=some f→FdOk f
theorem fQ.mono{c d:Int}{M:dQ}(h:fQ c M)(hcd:c≤d):fQ d M:=⟨h.t,h.s,⟨h.next.1,by have:=h.next.2;omega⟩,h.now,h.fd⟩
theorem fQ.new:fQ 1 Bg:=⟨fZ.new,⟨by decide,by decide,fun x hx=>by cases hx⟩,⟨by decide,by decide⟩,⟨by decide,by decide⟩,fun n f h=>by cases h⟩
theorem fQ.tr{c:Int}{M:dQ}(h:fQ c M){T:aA}(hT:fZ T):fQ c (M.tr T):=⟨hT,h.s,h.next,h.now,h.fd⟩
theorem fQ.put{c:Int}{M:dQ}(h:fQ c M)(n:Nat)(f:Option FW)(hf:∀g,f=some g→FdOk g):fQ c (M.put n f):=
 ⟨h.t,h.s,h.next,h.now,fun m g hg=>by
  have hg:(if m=n then f else M.fds m)=some g:=hg;by_cases hm:m=n
  ·rw[if_pos hm]at hg;exact hf g hg
  ·rw[if_neg hm]at hg;exact h.fd m g hg⟩
theorem Oy(bs:List UInt8):(vE bs).length≤64:=by rw[ze];omega
theorem Fj.take{S:lN}(h:Fj S){T:aA}(hT:fZ T):Fj (jB S T).2:=by
 unfold jB;by_cases h8:8≤S.l.length
 ·rw[if_pos h8];exact h
 ·rw[if_neg h8];refine⟨by simp;omega,Oy _,fun x hx=> ?_⟩;rcases aap.1 hx with hx|hx
  ·exact h.each x hx
  ·rw[List.mem_singleton.1 hx];exact hT.aV
theorem MC(S:lN)(T:aA):(jB S T).2.next=S.next∨(jB S T).2.next=S.next+1:=by
 unfold jB;split
 ·exact .inl rfl
 ·exact .inr rfl
theorem Fj.cut{S:lN}(h:Fj S)(k:Nat):Fj (Fh S k):=by
 refine⟨?_,h.last,fun x hx=> ?_⟩
 ·have:=h.few;show(S.l.take k++S.l.drop (k+1)).length≤8;rw[List.length_append,List.length_take,List.length_drop];omega
 ·rcases aap.1 (show x∈S.l.take k++S.l.drop (k+1)from hx)with hx|hx
  ·exact h.each x (List.mem_of_mem_take hx)
  ·exact h.each x (List.mem_of_mem_drop hx)
theorem xP(S:lN)(id now:Int):(iy S id now).2=S∨∃k,(iy S id now).2=Fh S k:=by
 unfold iy;split
 ·exact .inl rfl
 ·split
  ·exact .inl rfl
  ·split
   ·exact .inl rfl
   ·exact .inr ⟨_,rfl⟩
theorem Fj.forget{S:lN}(h:Fj S)(id now:Int):Fj (iy S id now).2∧(iy S id now).2.next=S.next:=by
 rcases xP S id now with h1|⟨k,h1⟩
 ·rw[h1];exact⟨h,rfl⟩
 ·rw[h1];exact⟨h.cut k,rfl⟩
theorem Uj{now tick:Int}(h:0≤now∧now≤1099511627776):0≤vH now tick∧vH now tick≤1099511627776:=by
 unfold vH;split
 ·split
  ·omega
  ·omega
 ·omega
theorem ME{T:aA}(hT:dZ T)(ls:List Nm)(kind:Int):0≤(bZ T ls kind).1.1∧(bZ T ls kind).1.1≤65535:=by
 unfold bZ;split
 ·obtain⟨f,h1,h2,h3,_⟩:=hT.free;have:=hT.len;dsimp only;rw[h1];omega
 ·simp
theorem fQ.treeAt{c:Int}{M:dQ}(h:fQ c M){id:Int}{T:aA}(hT:mW M id=some T):fZ T:=by
 unfold mW at hT;split at hT
 ·cases hT;exact h.t
 ·cases hf:F3 M.s id with
  |none=>rw[hf]at hT;cases hT
  |some y=>
   rw[hf]at hT;cases hT;exact h.s.each y (aci hf)
theorem XQ{T:aA}(hT:dZ T)(id a n:Int):(nZ T id a n).length≤4096:=by
 unfold nZ;split
 ·simp
 ·rename_i x hx;split
  ·simp
  ·have:=(hT.each id x hx).size;unfold qV;split
   ·simp
   ·rw[List.length_take,List.length_drop];omega
theorem fQ.create{c:Int}{M:dQ}(h:fQ c M)(ls:List Nm):fQ c (jl M ls).2:=by
 unfold jl;split
 ·exact h
 ·split
  ·exact h.tr (h.t.bZ ls 1)
  ·refine(h.tr (h.t.bZ ls 1)).put _ _ fun g hg=> ?_;cases hg;have:=ME h.t.1 ls 1;exact⟨this.1,this.2,by simp⟩
theorem fQ.open{c:Int}{M:dQ}(h:fQ c M)(ls:List Nm)(id:Int):fQ c (vG M ls id).2:=by
 unfold vG;split
 ·exact h
 ·rename_i T hT;split
  ·exact h
  ·unfold JI;split
   ·exact h
   ·split
    ·exact h
    ·split
     ·exact h
     ·split
      ·exact h
      ·refine h.put _ _ fun g hg=> ?_;cases hg;exact⟨by simp,by simp,XQ (h.treeAt hT).1 _ _ _⟩
theorem fQ.write{c:Int}{M:dQ}(h:fQ c M)(x:jK):fQ c (iY M x).2:=by
 unfold iY;split
 ·exact h
 ·split
  ·exact h
  ·exact h.tr (h.t.cK _ _)
theorem fQ.close{c:Int}{M:dQ}(h:fQ c M)(x:jK)(hx:nN x):fQ c (iZ M x).2:=by
 unfold iZ;split
 ·split
  ·exact h.tr (h.t.dY _ _ hx.wt.1)
  ·exact(h.tr (h.t.dY _ _ hx.wt.1)).put _ _ fun g hg=>by cases hg
 ·split
  ·exact h
  ·exact h.put _ _ fun g hg=>by cases hg
theorem fQ.unlink{c:Int}{M:dQ}(h:fQ c M)(ls:List Nm):fQ c (fP M ls).2:=by
 unfold fP;split
 ·exact h
 ·split
  ·exact h
  ·exact h.tr (h.t.bL ls)
theorem fQ.keep{c:Int}{M:dQ}(h:fQ c M)(ls:List Nm)(aF:Int)(ht:0≤aF):fQ c (tH M ls aF).2:=by
 unfold tH;split
 ·exact h
 ·split
  ·exact h
  ·exact h.tr (h.t.jA _ _ ht)
theorem fQ.do_{c:Int}{M:dQ}(h:fQ c M)(x:jK)(hx:nN x):fQ (c+1) (fE M x).2:=by
 have h':=h.mono (show c≤c+1 by omega);unfold fE;by_cases h0:(gu x).2≠0
 ·rw[if_pos h0];exact h'
 ·rw[if_neg h0];unfold f_;by_cases h1:x.kind=1
  ·rw[if_pos h1];exact h'.create _
  rw[if_neg h1];by_cases h2:x.kind=2
  ·rw[if_pos h2];exact h'.tr (h.t.bZ _ _)
  rw[if_neg h2];by_cases h3:x.kind=3
  ·rw[if_pos h3];exact h'.open _ _
  rw[if_neg h3];by_cases h4:x.kind=4
  ·rw[if_pos h4];exact h'
  rw[if_neg h4];by_cases h5:x.kind=5
  ·rw[if_pos h5];exact h'.write _
  rw[if_neg h5];by_cases h6:x.kind=6
  ·rw[if_pos h6];exact h'.close _ hx
  rw[if_neg h6];by_cases h7:x.kind=7
  ·rw[if_pos h7];exact h'.tr (h.t.kW _ _)
  rw[if_neg h7];by_cases h8:x.kind=8
  ·rw[if_pos h8];exact h'.unlink _
  rw[if_neg h8];by_cases h9:x.kind=9
  ·rw[if_pos h9];exact h'.tr (h.t.iC _)
  rw[if_neg h9];by_cases h10:x.kind=10
  ·rw[if_pos h10];exact h'.tr (h.t.eF _ _)
  rw[if_neg h10];by_cases h11:x.kind=11∨x.kind=12
  ·rw[if_pos h11];exact h'
  rw[if_neg h11];by_cases h13:x.kind=13
  ·rw[if_pos h13];exact h'.keep _ _ hx.wt.1
  rw[if_neg h13];by_cases h14:x.kind=14
  ·rw[if_pos h14];refine⟨h.t,h.s.take h.t,?_,h.now,h.fd⟩;have:=h.next;rcases MC M.s M.t with e|e
   ·show 0≤(jB M.s M.t).2.next∧(jB M.s M.t).2.next≤c+1
    omega
   ·show 0≤(jB M.s M.t).2.next∧(jB M.s M.t).2.next≤c+1
    omega
  rw[if_neg h14];by_cases h15:x.kind=15
  ·rw[if_pos h15];obtain⟨k1,k2⟩:=h.s.forget x.snap M.now;refine⟨h.t,k1,?_,h.now,h.fd⟩;have:=h'.next;show 0≤(iy M.s x.snap M.now).2.next∧(iy M.s x.snap M.now).2.next≤c+1
   rw[k2];exact this
  rw[if_neg h15];by_cases h16:x.kind=16
  ·rw[if_pos h16];exact⟨h.t,h.s,h'.next,Uj h.now,h.fd⟩
  rw[if_neg h16];exact h'
def mX(T:aA)(id:Int):Nat→Int→List Nm→List (List Nm)
 |0,a,p=>if a=id then[p]else[]
 |n+1,a,p=>(if a=id then[p]else[])++(aU T a).flatMap fun e=>mX T id n e.2 (p++[e.1])
theorem tK{T:aA}{id:Int}:∀(n:Nat) (a:Int) (p q:List Nm),q∈mX T id n a p→∃s,q=p++s
 |0,a,p,q,h=>by
  unfold mX at h;split at h
  ·simp only[List.mem_singleton]at h;exact⟨[],by simp[h]⟩
  ·cases h
 |n+1,a,p,q,h=>by
  unfold mX at h;rcases aap.1 h with h|h
  ·split at h
   ·simp only[List.mem_singleton]at h;exact⟨[],by simp[h]⟩
   ·cases h
  ·obtain⟨e,_,he⟩:=List.mem_flatMap.1 h;obtain⟨s,hs⟩:=tK n e.2 _ q he;exact⟨e.1::s,by rw[hs];simp⟩
theorem Ak{T:aA}(hT:OkW T){id:Int}:∀(n:Nat) (a:Int) (p q:List Nm),(aj a T).isSome=true→Dm T n a→(q∈mX T id n a p↔∃s,q=p++s∧aG T a s=(id,0))
 |0,a,p,q,ha,hs=>by
  unfold mX;constructor
  ·intro h;split at h
   ·rename_i he;simp only[List.mem_singleton]at h;exact⟨[],by simp[h],by simp[aG,he]⟩
   ·cases h
  ·rintro ⟨s,rfl,hl⟩;cases s with
   |nil=>
    have:a=id:=aaF Prod.fst hl;rw[if_pos this];simp
   |cons m r=>
    obtain⟨x,k,hx,_,hn,_⟩:=pO hl;have h1:aU T a=[]:=hs;rw[dX hx]at h1;rw[h1]at hn;cases hn
 |n+1,a,p,q,ha,hs=>by
  unfold mX;rw[aap,List.mem_flatMap];constructor
  ·rintro (h|⟨e,he,h⟩)
   ·split at h
    ·rename_i he;simp only[List.mem_singleton]at h;exact⟨[],by simp[h],by simp[aG,he]⟩
    ·cases h
   ·obtain⟨x,hx,hm⟩:=nK he;obtain⟨s,h1,h2⟩:=(Ak hT n e.2 _ q (hT.leads a x hx e hm).1 (hs e he)).1 h;refine⟨e.1::s,by rw[h1];simp,?_⟩;unfold aG;rw[hx];simp only;rw[if_pos (nL hT hx hm),aS uO (hT.each a x hx).sorted hm];exact h2
  ·rintro ⟨s,rfl,hl⟩;cases s with
   |nil=>
    have:a=id:=aaF Prod.fst hl;left;rw[if_pos this];simp
   |cons m r=>
    obtain⟨x,k,hx,_,hn,hr⟩:=pO hl;have he:(m,k)∈aU T a:=by rw[dX hx];exact bM hn
    exact .inr ⟨(m,k),he,(Ak hT n k _ _ (hT.leads a x hx _ (bM hn)).1 (hs _ he)).2 ⟨r,by simp,hr⟩⟩
theorem Hu{T:aA}(hT:OkW T)(a:Int):(aU T a).Pairwise fun e e'=>e.1≠e'.1:=by
 unfold aU;cases hx:aj a T with
 |none=>exact List.Pairwise.nil
 |some x=>exact(hT.each a x hx).sorted.apart uO
theorem Bo{T:aA}(hT:OkW T){id:Int}:∀(n:Nat) (a:Int) (p:List Nm),(mX T id n a p).Nodup
 |0,a,p=>by
  unfold mX;split<;>simp
 |n+1,a,p=>by
  unfold mX;rw[List.nodup_append];refine⟨by split<;>simp,?_,fun q hq q' hq'=> ?_⟩
  ·unfold List.Nodup;rw[List.pairwise_flatMap];refine⟨fun e _=>Bo hT n e.2 _,(Hu hT a).imp fun{e e'} hne q hq q' hq' he=> ?_⟩;obtain⟨s,h1⟩:=tK n e.2 _ q hq;obtain⟨s',h2⟩:=tK n e'.2 _ q' hq';rw[h1,h2,TK,TK]at he;have:=List.append_cancel_left he;simp only[List.singleton_append,aaU]at this;exact hne this.1
  ·split at hq
   ·simp only[List.mem_singleton]at hq;subst hq;obtain⟨e,_,he⟩:=List.mem_flatMap.1 hq';obtain⟨s,h2⟩:=tK n e.2 _ q' he;intro heq;have:=aaF List.length (heq.trans h2);simp at this
   ·cases hq
theorem F8{T:aA}{dep:Int→Nat}(hT:OkW T)(hd:fC T dep):∀(n:Nat) (d:Int),dep d≤n→bI T d=2→∃q,aG T 0 q=(d,0)
 |n,d,hn,hk=>by
  by_cases h0:d=0
  ·exact⟨[],by rw[h0];rfl⟩
  ·obtain⟨x,hx,hxk⟩:=gJ hk;have hc:=hT.counts d x hx h0;rw[((hT.each d x hx).dir hxk).1]at hc;have hpos:0<fV T d:=by omega
   have:∃q∈T,0<cn d q.2:=by
    unfold fV at hpos;cases hall:T.all (fun q=>cn d q.2==0)with
    |false=>
     rw[List.all_eq_false]at hall;obtain⟨q,hq,h1⟩:=hall;exact⟨q,hq,by simp at h1;omega⟩
    |true=>
     rw[List.all_eq_true]at hall;have hz:(T.map fun q=>cn d q.2).sum=0:=by
      have:∀l:aA,(∀q∈l,cn d q.2=0)→(l.map fun q=>cn d q.2).sum=0:=by
       intro l
       induction l with
       |nil=>intro _;rfl
       |cons y r ih=>
        intro hh;rw[List.map_cons,List.sum_cons,hh y (by simp),ih fun q hq=>hh q (by simp[hq])]
      exact this T fun q hq=>by simpa using hall q hq
     omega
   obtain⟨q,hq,hcq⟩:=this;unfold cn at hcq;rw[List.countP_pos_iff]at hcq;obtain⟨e,he,hed⟩:=hcq;simp only[aah]at hed;have Uk:=aS bY hT.sorted hq;have hup:=(hd.up q.1 q.2 Uk e he).2 (by rw[hed];exact hk);rw[hed]at hup
   match n,hn with
   |0,hn=>omega
   |n+1,hn=>
    obtain⟨p,hp⟩:=F8 hT hd n q.1 (by omega) ((dh Uk).trans (nL hT Uk he));refine⟨p++[e.1],?_⟩;rw[iG,hp,if_pos rfl];unfold aG;rw[Uk];simp only;rw[if_pos (nL hT Uk he),aS uO (hT.each _ _ Uk).sorted he];simp only;rw[hed];rfl
open Classical in
noncomputable def WQ (T:aA) (d:Int):List Nm:=if h:∃q,aG T 0 q=(d,0)then h.choose else[]
theorem zl{T:aA}{d:Int}(h:∃q,aG T 0 q=(d,0)):aG T 0 (WQ T d)=(d,0):=by
 unfold WQ;rw[dif_pos h];exact h.choose_spec
noncomputable def Oz (T:aA) (id:Int):List (List Nm):=T.flatMap fun d=>(d.2.names.filter fun e=>decide (e.2=id)).map fun e=>WQ T d.1++[e.1]
theorem QF(T:aA)(id:Int):(Oz T id).length=fV T id:=by
 unfold Oz fV;rw[List.length_flatMap];congr 1;apply aaz;intro q _;rw[List.length_map,cn,List.countP_eq_length_filter]
theorem xQ{α:Type}[DecidableEq α]:∀{l m:List α},l.Nodup→m.Nodup→(∀a,a∈l↔a∈m)→l.Perm m
 |[],m,_,_,h=>by
  have:m=[]:=List.eq_nil_iff_forall_not_mem.2 fun a ha=>by have:=(h a).2 ha;cases this
  rw[this]
 |x::r,m,hl,hm,h=>by
  have hx:x∈m:=(h x).1 (by simp);obtain⟨h1,h2⟩:=List.nodup_cons.1 hl;have hp:=List.perm_cons_erase hx;refine List.Perm.trans (List.Perm.cons x (xQ h2 (hm.erase x) fun a=> ?_)) hp.symm;rw[hm.mem_erase_iff];constructor
  ·intro ha;exact⟨fun e=>h1 (e▸ha),(h a).1 (by simp[ha])⟩
  ·rintro ⟨hne,ha⟩;rcases aan.1 ((h a).2 ha)with h3|h3
   ·exact absurd h3 hne
   ·exact h3
theorem JL{T:aA}(hO:Oh T){id:Int}(h0:id≠0):(mX T id 8 0 []).length=fV T id:=by
 obtain⟨hT,dep,hd⟩:=hO;have hS:Dm T 8 0:=hd.ZA hT 0;have Al:∀d x,aj d T=some x→∀e∈x.names,aG T 0 (WQ T d)=(d,0):=fun d x hx e he=>zl (F8 hT hd (dep d) d acu ((dh hx).trans (nL hT hx he)));rw[←QF];refine(xQ (Bo hT 8 0 []) ?_ fun q=> ?_).length_eq
 ·unfold Oz List.Nodup;rw[List.pairwise_flatMap];refine⟨fun d WM=> ?_,?_⟩
  ·rw[abk];have hs:=(hT.each _ _ (aS bY hT.sorted WM)).sorted.apart uO;refine(abL _ hs).imp fun{e e'} hne he=>hne ?_;have:=List.append_cancel_left he;simpa using this
  ·refine(hT.sorted.apart bY).imp_of_mem fun{d d'} WM hdm' hne q hq q' hq' he=> ?_;obtain⟨e,he1,rfl⟩:=List.mem_map.1 hq;obtain⟨e',he2,rfl⟩:=List.mem_map.1 hq';have hl:=aaF List.dropLast he;rw[List.dropLast_concat,List.dropLast_concat]at hl;have h1:=Al d.1 d.2 (aS bY hT.sorted WM) e (aar.1 he1).1;have h2:=Al d'.1 d'.2 (aS bY hT.sorted hdm') e' (aar.1 he2).1;rw[hl,h2]at h1;exact hne (aaF Prod.fst h1).symm
 ·rw[Ak hT 8 0 [] q (fD hT) hS];unfold Oz;rw[List.mem_flatMap];constructor
  ·rintro ⟨s,hqs,hl⟩;rw[List.nil_append]at hqs;rw[←hqs]at hl;clear hqs;have hs:q≠[]:=fun e=>by
    rw[e]at hl;exact h0 (aaF Prod.fst hl).symm
   obtain⟨d,x,n,-,hl1,hx,hxk,hn,_,e1⟩:=dH hl hs;have hmem:=bM hn;have h2:=qm hT q.dropLast.length q.dropLast (WQ T d) d acu hl1 (Al d x hx _ hmem) ((dh hx).trans hxk);refine⟨(d,x),bM hx,List.mem_map.2 ⟨(n,id),aar.2 ⟨hmem,by simp⟩,?_⟩⟩;rw[e1,h2]
  ·rintro ⟨d,WM,hq⟩;obtain⟨e,he,rfl⟩:=List.mem_map.1 hq;obtain⟨hen,ZB⟩:=aar.1 he;simp only[aah]at ZB;have hx:=aS bY hT.sorted WM;refine⟨WQ T d.1++[e.1],rfl,?_⟩;rw[iG,Al d.1 d.2 hx e hen,if_pos rfl];unfold aG;rw[hx];simp only;rw[if_pos (nL hT hx hen),aS uO (hT.each _ _ hx).sorted hen];simp only;rw[ZB];rfl
def doneN(left:Nm→Bool)(l:List (Nm×Int)):List (Nm×Int):=l.filter fun e=> !left e.1
theorem xR{left:Nm→Bool}{k:Nm}{j:Int}:∀{l:List (Nm×Int)},l.Pairwise (fun e e'=>e.1≠e'.1)→(k,j)∈l→left k=true→(doneN (fun z=>left z&& !decide (z=k)) l).Perm (doneN left l++[(k,j)])
 |[],_,h,_=>by cases h
 |y::r,hp,h,hl=>by
  obtain⟨h1,h2⟩:=aal.1 hp;unfold doneN;rw[List.filter_cons,List.filter_cons];rcases aan.1 h with h3|h3
  ·subst h3;have hr:r.filter (fun e=> !(left e.1&& !decide (e.1=k)))=r.filter fun e=> !left e.1:=by
    apply List.filter_congr;intro e he;have hne:e.1≠k:=fun hh=>h1 e he hh.symm;simp[hne]
   rw[hr];simp only[decide_true,Bool.not_true,Bool.and_false,Bool.not_false,abC,hl];rw[if_neg (by decide)];exact(List.perm_append_singleton _ _).symm
  ·have hne:y.1≠k:=h1 (k,j) h3;have ih:=xR h2 h3 hl;unfold doneN at ih;have e1:(!(left y.1&& !decide (y.1=k)))= !left y.1:=by simp[hne]
   rw[e1];cases left y.1 with
   |true=>simpa using ih
   |false=>simpa using ih
theorem MF{left:Nm→Bool}{l:List (Nm×Int)}(h:∀e∈l,left e.1=true):doneN left l=[]:=by
 unfold doneN;rw[abY];intro e he;simp[h e he]
theorem QG{left:Nm→Bool}{l:List (Nm×Int)}(h:∀k,left k=false):doneN left l=l:=by
 unfold doneN;rw[aa0];intro e _;simp[h e.1]
def OA(S:Nat→Prop)(w:World)(u:Value)(q:List Nm):Prop:=∃a c,u= .slice a q.length c∧q.length≤c∧aT S w a q.length (q.map strOf)
def oO(S:Nat→Prop)(w:World)(vals:List Value)(l:List (List Nm)):Prop:=vals.length=l.length∧∀(i:Nat) (q:List Nm),l[i]? =some q→∃u,vals[i]? =some u∧OA S w u q
theorem OA.move{S S':Nat→Prop}{w w':World}{u:Value}{q:List Nm}(h:OA S w u q)(hs:w.heap.size≤w'.heap.size)(hk:∀b,S b→b<w.heap.size→S' b∧w'.heap[b]? =w.heap[b]?):OA S' w' u q:=by
 obtain⟨a,c,h1,h2,h3⟩:=h;exact⟨a,c,h1,h2,h3.row.move hs hk,h3.short⟩
theorem oO.move{S S':Nat→Prop}{w w':World}{vals:List Value}{l:List (List Nm)}(h:oO S w vals l)(hs:w.heap.size≤w'.heap.size)(hk:∀b,S b→b<w.heap.size→S' b∧w'.heap[b]? =w.heap[b]?):oO S' w' vals l:=
 ⟨h.1,fun i q hq=>by
  obtain⟨u,h1,h2⟩:=h.2 i q hq;exact⟨u,h1,h2.move hs hk⟩⟩
theorem oO.append{S:Nat→Prop}{w:World}{v1 v2:List Value}{l1 l2:List (List Nm)}(h:oO S w v1 l1)(k:oO S w v2 l2):oO S w (v1++v2) (l1++l2):=by
 refine⟨by rw[List.length_append,List.length_append,h.1,k.1],fun i q hq=> ?_⟩;by_cases hi:i<l1.length
 ·rw[aaN hi]at hq;rw[aaN (by rw[h.1];exact hi)];exact h.2 i q hq
 ·rw[aaw (by omega)]at hq;rw[aaw (by rw[h.1];omega),h.1];exact k.2 _ q hq
def zm(B:Nat)(w:World)(v:Value)(m:Nat)(xs:List Value)(L:List (List Nm))(v':Value)(w':World):Prop:=
 ∃vals l,l.Perm L∧w'.ownsRow B 26 1 v' (m+l.length) (xs++vals)∧oO (fun b=>w.heap.size≤b∧b<w'.heap.size∧v'.ownBlock≠some b) w' vals l∧Keeps (fun b=>v.ownBlock=some b) w w'∧∀b,v'.ownBlock=some b→v.ownBlock=some b∨w.heap.size≤b
theorem zm.trans{B:Nat}{w w1 w2:World}{v v1 v2:Value}{m:Nat}{xs:List Value}{L1 L2:List (List Nm)}(h:zm B w v m xs L1 v1 w1)(k:∀m1 xs1,w1.ownsRow B 26 1 v1 m1 xs1→zm B w1 v1 m1 xs1 L2 v2 w2):zm B w v m xs (L1++L2) v2 w2:=by
 obtain⟨vals,l,hp,ho,hv,hK,hb⟩:=h;obtain⟨vals2,l2,hp2,ho2,hv2,hK2,hb2⟩:=k _ _ ho;have hs1:=hK.size;have hs2:=hK2.size;refine⟨vals++vals2,l++l2,hp.append hp2,by rw[List.length_append,←Nat.add_assoc,←TK];exact ho2,?_,hK.trans hK2 fun x hx hx1=> ?_,fun b hb'=> ?_⟩
 ·refine(hv.move (by omega) fun b hS hbw=>⟨⟨hS.1,by omega,fun he=> ?_⟩,hK2.block b hbw fun he=>hS.2.2 he⟩).append (hv2.move acu fun b hS hbw=>⟨⟨by omega,hS.2.1,hS.2.2⟩,rfl⟩);rcases hb2 b he with h1|h1
  ·exact hS.2.2 h1
  ·omega
 ·rcases hb x hx1 with h1|h1
  ·exact h1
  ·omega
 ·rcases hb2 b hb' with h1|h1
  ·exact hb b h1
  ·exact .inr (by omega)
def bmk(l:List UInt8):ByteArray:=⟨l.toArray⟩
theorem Ul(l:List UInt8):(bmk l).size=l.length:=by simp[bmk,ByteArray.size]
def Small(q:List Nm):Prop:=q.length≤64∧∀n∈q,n.length≤16
end Go.Proofs.YtjnhnlabpccgjaaGreatDoor
