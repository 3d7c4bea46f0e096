/- bytes -/
import Derived.Test.YtmflaonodghbcaaGreatDoorM18
import Derived.Test.YtmflaonodghbcaaGreatDoorM13
import Derived.IntWalk
import Derived.Test.YtmflaonodghbcaaGreatDoorM24
import Derived.Test.YtmflaonodghbcaaGreatDoorM29
set_option maxRecDepth 100000
set_option maxHeartbeats 64000000
set_option linter.all false
namespace Go.Proofs.YtmflaonodghbcaaGreatDoor
open Go.ChangeShapes Go.WideShapes Go.ChangeAt Go.RowKit
def slLen:Value→Nat
 | .slice _ n _=>n
 |_=>0
theorem Tf{S:Nat→Prop}{w:World}{a:Option Addr}{n:Nat}(h:ah S w a n ((List.replicate n (0:UInt8)).map bv)){k:Nat}(hk:k<n):∃b off,a=some ⟨b,off,none⟩∧w.cell? ⟨b,off+k,none⟩=some (.int .u8 0):=by
 obtain⟨b,off,rfl,-,-,hc⟩:=h.at_ (by omega);refine⟨b,off,rfl,(hc k hk).trans ?_⟩;rw[List.getElem?_map,abd,if_pos hk];rfl
theorem OE{S:Nat→Prop}(a:Option Addr)(n c:Nat)(w:World)(h:ah S w a n ((List.replicate n (0:UInt8)).map bv))(hn:n≤1000000)(hc:n≤c):
  Calls Tryz.prog 164 #[.slice a n c,.int .u8 0] w fun e w'=>e= .returned (.slice a 0 c)∧w=w':=by
 have HH:=ab9 h;clear h;go_enter Tryz.func164,Tryz.ntmps164;go_wp2
 go_loopw [0] (fun sv wr=>∃k:Nat,k≤n∧sv= .slice a k c∧wr=w) (fun sv _=>slLen sv)
 case atStart=>exact⟨n,Nat.le_refl _,rfl,rfl⟩
 case round=>
  obtain⟨k,hk,rfl,rfl⟩:=hrel;by_cases h0:0<k
  ·obtain⟨b,off,rfl,hcell⟩:=Tf HH.o (show k-1<n by omega);have e1:IntKind.i64.wrap ((k:Int)-1)=((k-1:Nat):Int):=by rw[aah _ (by omega)];omega
   have hd:decide ((0:Int)<(k:Int))=true:=aal (by omega);have i0:(0:Int)≤((k-1:Nat):Int):=by omega
   have i1:((k-1:Nat):Int)<(k:Int):=by omega
   have i2:((k-1:Nat):Int)≤(c:Int):=by omega
   have i3:k-1≤c:=by omega
   go_wp2_with fail;go_roundw
   case rel=>exact⟨k-1,by omega,by simp,trivial⟩
   case measure=>simp[slLen];omega
  ·obtain rfl:k=0:=by omega
   go_wp2_with fail;go_ret;exact⟨rfl,rfl⟩
theorem Tg(a:Option Addr)(c:Nat)(w:World):Calls Tryz.prog 163 #[.slice a 0 c,.int .u8 0] w fun e w'=>e= .returned (.slice none 0 0)∧w=w':=by
 go_enter Tryz.func163,Tryz.ntmps163;go_wp2
 go_loopw [0] (fun sv wr=>sv= .slice a 0 c∧wr=w) (fun sv _=>0)
 case atStart=>exact⟨rfl,rfl⟩
 case round=>
  obtain⟨rfl,rfl⟩:=hrel;go_wp2_with fail;go_ret;exact⟨rfl,rfl⟩
theorem Bo{S:Nat→Prop}(a:Option Addr)(n c:Nat)(w:World)(h:ah S w a n ((List.replicate n (0:UInt8)).map bv))(hn:n≤1000000)(hc:n≤c):
  Calls Tryz.prog 93 #[.slice a n c,.string {data:= #[0]}] w fun e w'=>e= .returned (.slice none 0 0)∧Below w.heap.size w w':=by
 have HR:acd (∀w' (v:Int),v=0→Below w.heap.size w w'→Calls Tryz.prog 164 #[.slice a n c,.int .u8 v] w' fun e w2=>e= .returned (.slice a 0 c)∧w'=w2):=ab9 (fun w' v hv (hb:Below w.heap.size w w')=>by subst hv;exact OE a n c w' (h.below hb ace) hn hc);have HL:acd (∀w' (v:Int),v=0→Calls Tryz.prog 163 #[.slice a 0 c,.int .u8 v] w' fun e w2=>e= .returned (.slice none 0 0)∧w'=w2):=ab9 (fun w' v hv=>by subst hv;exact Tg a c w');clear h;by_cases h0:n=0
 ·subst h0;go_enter Tryz.func93,Tryz.ntmps93;go_wp2_with fail;go_ret;exact⟨rfl,Below.refl _ _⟩
 ·have hd:((n:Int)==0)=false:=by simp;omega
  go_enter Tryz.func93,Tryz.ntmps93;go_wp2_with fail;refine xG ((fun w'=>Below w.heap.size w w')) ?_ fun hS=> ?_
  ·exact acf.drew
  refine aR 0 hS ?_;refine aR 1 hS ?_;refine aR 2 hS ?_;refine aR 4 hS ?_;refine aR 5 hS ?_;refine nK 3 fun K hK=> ?_;go_simp;refine(HR.o _ _ (by kernel_rfl) hS).mono ?_;rintro e w1 ⟨rfl,rfl⟩;go_wp2_with fail;refine mQ hK (hS) fun hS=> ?_;clear hK K;refine nK 6 fun K hK=> ?_;go_simp;refine(HL.o _ _ (by kernel_rfl)).mono ?_;rintro e w1 ⟨rfl,rfl⟩;go_wp2_with fail;refine mQ hK (hS) fun hS=> ?_;clear hK K;refine aR 7 hS ?_;have HB:=ab9 hS;clear hS;refine wQ ?_;go_wp2_with fail;go_ret;exact⟨rfl,HB.o⟩
theorem Ti{S S':Nat→Prop}(a a':Option Addr)(n n' c c':Nat)(bs bs':List UInt8)(hne:bs≠bs')(w:World)(h:ah S w a n (bs.map bv))(h':ah S' w a' n' (bs'.map bv)):
  Calls Tryz.prog 150 #[.slice a n c,.slice a' n' c'] w fun e w'=>e= .returned (.bool false)∧w=w':=by
 have hc1:=pO (c:=c) h;have hc2:=pO (c:=c') h';obtain⟨h1,h2⟩:=UH hne;clear h h';go_enter Tryz.func150,Tryz.ntmps150;go_wp2_with fail;go_ret;exact⟨by simp[h1],rfl⟩
def Bp(x:QM):List UInt8:=bA x.index 2++bA x.first 8++bA x.count 2++bA x.bytes 2++x.prev++x.root
def WT:Array Value:= #[.int .i64 0,.int .u64 0,.int .i64 0,.int .i64 0,.slice none 0 0,.slice none 0 0]
theorem Jv:(Tryz.prog.info? 144).map (·.size)=some 6:=by kernel_rfl
theorem ES{w:World}{x:QM}{b pc rc:Nat}{pa ra:Option Addr}(h:w.heap[b]? =some (.cells (BX x pa pc ra rc) 144 (0,0))):w.cell? ⟨b,0,none⟩=some (.int .i64 x.index)∧w.cell? ⟨b,1,none⟩=some (.int .u64 x.first)∧w.cell? ⟨b,2,none⟩=some (.int .i64 x.count)∧w.cell? ⟨b,3,none⟩=some (.int .i64 x.bytes)∧w.cell? ⟨b,4,none⟩=some (.slice pa 32 pc)∧w.cell? ⟨b,5,none⟩=some (.slice ra 32 rc):=by
 refine⟨?_,?_,?_,?_,?_,?_⟩<;>simp[World.cell?,h,BX]
theorem WU{fn:Func}{sl b' d':Nat}{Q:Ending→World→Prop}{a:Act}{w:World}{b:Nat}{cs:Array Value}{y z:Value}(hf:fn.results= #[.cell sl 144,.tmp b',.tmp d'])(hs:a.tmps.getD sl undef= .pointer (some ⟨b,0,none⟩))(hy:a.tmps.getD b' undef=y)(hz:a.tmps.getD d' undef=z)(hd:a.defers=[])(hg:w.heap[b]? =some (.cells cs 144 (0,0)))(h3:cs.size=6)(hQ:Q (.returned (.tuple #[.agg cs,y,z])) w):
  bodyPost Tryz.prog fn Q .ret a w:=by
 subst hy hz;exact aap (v:= .tuple #[.agg cs,a.tmps.getD b' undef,a.tmps.getD d' undef]) (nL hf hs (aaT w b 144 144 _ (0,0) _ hg Tryz.underlying144 rfl (by rw[h3];exact Jv))) hd hQ
def SgBad(w:World)(e:Ending)(w':World):Prop:=e= .returned (.tuple #[.agg WT,.slice none 0 0,.int .i64 14])∧Below w.heap.size w w'
def SgRet(w:World)(x:QM)(l:List RecM)(e:Ending)(w':World):Prop:=
 ∃pa pc ra rc v,e= .returned (.tuple #[.agg (BX x pa pc ra rc),v,.int .i64 0])∧ah (fun b=>w.heap.size≤b∧b<w'.heap.size) w' pa 32 (x.prev.map bv)∧ah (fun b=>w.heap.size≤b∧b<w'.heap.size) w' ra 32 (x.root.map bv)∧32≤pc∧gG w.heap.size w' v l∧Below w.heap.size w w'
theorem ET{S:Nat→Prop}(x:QM)(hx:Sl x)(C D:List UInt8)(hC:C.length=4)(hD:D.length=942)(l:List RecM)(hgood:C=bA (mM (Bp x)) 4→x=⟨x.index,x.first,l.length,(gK l).length,x.prev,tO l⟩∧CJ x.index x.first x.prev l∧D=gK l++List.replicate (942-(gK l).length) 0)
  (a:Option Addr)(c:Nat)(w:World)(hr:ah S w a 1024 ((Bp x++C++D).map bv))(hc:1024≤c):
  Calls Tryz.prog 78 #[.slice a 1024 c] w fun e w'=>(C≠bA (mM (Bp x)) 4∧SgBad w e w')∨(C=bA (mM (Bp x)) 4∧SgRet w x l e w'):=by
 have g1:=hx.index;have g2:=hx.first;have g3:=hx.count;have g4:=hx.bytes;have hpl:=hx.prev;have hrl:=hx.root;have hHl:(Bp x).length=78:=by simp[Bp,ay,hpl,hrl]
 obtain⟨b0,o0,rfl,-,hbw0,-⟩:=hr.at_ (by omega);obtain⟨H,hH⟩:∃H,H=Bp x:=⟨_,rfl⟩;rw[←hH]at hHl hr hgood⊢;obtain⟨cr,hcr⟩:∃cr,cr=mM H:=⟨_,rfl⟩;have Le:0≤cr∧cr<4294967296:=by rw[hcr];exact mR _
 rw[←hcr]at hgood⊢;have HCRE:=ab9 hcr;clear hcr;obtain⟨r6,A_⟩:∃r6,r6=C++D:=⟨_,rfl⟩;obtain⟨r5,CV⟩:∃r5,r5=x.root++r6:=⟨_,rfl⟩;obtain⟨r4,hr4⟩:∃r4,r4=x.prev++r5:=⟨_,rfl⟩;obtain⟨r3,hr3⟩:∃r3,r3=bA x.bytes 2++r4:=⟨_,rfl⟩;obtain⟨r2,hr2⟩:∃r2,r2=bA x.count 2++r3:=⟨_,rfl⟩;obtain⟨r1,hr1⟩:∃r1,r1=bA x.first 8++r2:=⟨_,rfl⟩;obtain⟨B,hB⟩:∃B,B=H++C++D:=⟨_,rfl⟩;have U8:acd (B=bA x.index 2++r1):=by
  show B=_;rw[hB,hr1,hr2,hr3,hr4,CV,A_,hH];unfold Bp;simp only[List.append_assoc]
 rw[←hB]at hr;have nH:=ab9 hr1;have HS2:=ab9 hr2;have xV:=ab9 hr3;have pV:=ab9 hr4;have jV:=ab9 CV;have gN:=ab9 (fB hr);have HB_:=ab9 hB;have WJ:=ab9 hgood;have HHE:=ab9 hH;obtain⟨w1,hw1⟩:∃w1,w1=w.alloc (.cells #[.int .i64 0,.int .u64 0,.int .i64 0,.int .i64 0,.slice none 0 0,.slice none 0 0] 144):=⟨_,rfl⟩;have hb1:Below w.heap.size w w1:=by rw[hw1];exact wall w _
 have hs1:w1.heap.size=w.heap.size+1:=by rw[hw1];simp
 have hres:w1.heap[w.heap.size]? =some (.cells WT 144 (0,0)):=by rw[hw1];exact(MapKept.heap_alloc w _).1
 have HN:=ab9 (Jd w1 w1 acf (some ⟨b0,o0,none⟩) 1024 c B (by omega) (hr.below hb1 ace));have HB1:=ab9 hb1;have qG:=ab9 hres;have HW1:=ab9 hw1;clear hx hgood hr hr1 hr2 hr3 hr4 CV A_ hB hH hb1 hres hw1;go_enter Tryz.func78,Tryz.ntmps78;go_wp2_with fail;rw[←HW1.o];refine HN.o.mono ?_;rintro e w2 ⟨xr,rfl,VW,hR2,hb2⟩;have CB:=ab9 (nW hR2 x.index U8.o g1.1 (by omega));have hx2:xr<w2.heap.size:=hR2.at_.lt;clear HN hR2 hb2;go_wp2_with fail;refine CB.o.mono ?_;rintro e w3 ⟨rfl,BR,hk3⟩;have sI:=ab9 (zG BR x.first nH.o g2.1 (by omega));have hs3:=hk3.size;clear CB BR hk3;go_wp2_with fail;refine sI.o.mono ?_;rintro e w4 ⟨rfl,xD,hk4⟩;have C9:=ab9 (nW xD x.count HS2.o g3.1 (by omega));have hs4:=hk4.size;clear sI xD hk4;go_wp2_with fail;refine C9.o.mono ?_;rintro e w5 ⟨rfl,hR5,hk5⟩;have Gi:=ab9 (nW hR5 x.bytes xV.o g4.1 (by omega));have hs5:=hk5.size;clear C9 hR5 hk5;go_wp2_with fail;refine Gi.o.mono ?_;rintro e w6 ⟨rfl,hR6,hk6⟩;have SY:acd (Calls Tryz.prog 149 #[ptr xr,.int .i64 32] w6 (vG w1 w6 xr x.prev r5)):=vH hR6 32 pV.o hpl.symm (by omega);have hs6:=hk6.size;clear Gi hR6 hk6;go_wp2_with fail;refine SY.o.mono ?_;rintro e w7 ⟨a7,c7,rfl,Gc,qC,QF,Zy⟩;rw[hpl]at qC Gc⊢;have HC6:acd (Calls Tryz.prog 149 #[ptr xr,.int .i64 32] w7 (vG w1 w7 xr x.root r6)):=vH QF 32 jV.o hrl.symm (by omega);have tu:=ab9 qC;have hs7:=Zy.size;clear SY QF Zy qC;go_wp2_with fail;refine HC6.o.mono ?_;rintro e w8 ⟨a8,c8,rfl,hc8,ru,hR8,MS⟩;rw[hrl]at ru hc8⊢;have Aj:=MS.size;have gJ:=hR8.below;obtain⟨w9,Cg⟩:∃w9,w9=w8.alloc (.cells (BX x a7 c7 a8 c8) 144):=⟨_,rfl⟩;have iT:Below w8.heap.size w8 w9:=by rw[Cg];exact wall w8 _
 have CG:w9.heap[w8.heap.size]? =some (.cells (BX x a7 c7 a8 c8) 144 (0,0)):=by rw[Cg];exact(MapKept.heap_alloc w8 _).1
 have hz9:w8.heap.size<w9.heap.size:=by rw[Cg];simp
 have xC:acd (Below w.heap.size w w9):=(HB1.o.trans (gJ.mono HB1.o.size)).trans (iT.mono (by omega));have HR79:acd (ah (fun b=>w.heap.size<b∧b<w9.heap.size) w9 a7 32 (x.prev.map bv)):=(((tu.o.kept MS.size fun b hb hbw=>MS.block b hbw fun(e:b=xr)=>by omega)).below iT (by omega)).mono fun b hb=>⟨by omega,by omega⟩;have HR89:acd (ah (fun b=>w.heap.size<b∧b<w9.heap.size) w9 a8 32 (x.root.map bv)):=(ru.below iT ace).mono fun b hb=>⟨by omega,by omega⟩;have QG:acd (w9.heap[w.heap.size]? =some (.cells WT 144 (0,0))):=((iT.block _ (by omega)).trans (gJ.block _ (by omega))).trans qG.o;have Je:=ab9 CG;have KL:=ab9 Cg;clear HC6 ru hR8 MS gJ iT CG tu qG;unfold BX at Cg;go_wp2_with fail;rw[←Cg];clear Cg;have hcn:¬c=78:=by omega
 have hc1:78≤c:=by omega
 have hc2:82≤c:=by omega
 have hc3:(78:Int)≤(c:Int):=by omega
 have hc4:(82:Int)≤(c:Int):=by omega
 have FJ:acd (∀u,Below w9.heap.size w9 u→Calls Tryz.prog 95 #[.slice (some ⟨b0,o0,none⟩) 78 c] u fun e u'=>e= .returned (.int .u32 cr)∧u=u'):=ab9 fun u hb=>by
  have h9:=(gN.o.below (xC.o.trans (hb.mono xC.o.size)) ace).take 78;rw[show min 1024 78=78 from rfl,←aaO,HB_.o,List.append_assoc,abp hHl]at h9;rw[HCRE.o];exact vV _ 78 c H u h9 (by omega)
 have Jr:acd (∀u,Below w9.heap.size w9 u→ah (fun b=>b<w.heap.size) u (some ⟨b0,o0+78,none⟩) 4 (C.map bv)):=ab9 fun u hb=>by
  have h9:=((gN.o.below (xC.o.trans (hb.mono xC.o.size)) ace).drop 78).take 4;rw[show min (1024-78) 4=4 from rfl,←aaR,←aaO,HB_.o,List.append_assoc,aa6 hHl,abp hC]at h9;exact h9
 refine xG ((fun w'=>Below w9.heap.size w9 w')) ?_ fun hS=> ?_
 ·exact acf.drew
 refine aR 0 hS ?_;refine aR 1 hS ?_;refine aR 4 hS ?_;refine aR 5 hS ?_;refine nK 2 fun K hK=> ?_;go_simp;refine(FJ.o _ hS).mono ?_;rintro e _ ⟨rfl,rfl⟩;go_wp2_with fail;refine mQ hK (hS) fun hS=> ?_;clear hK K;refine nK 3 fun K hK=> ?_;go_simp;refine(KJ cr Le.1 _).mono ?_;rintro e wA ⟨aA,nA,cA,rfl,hcA,hrA,MO⟩;have YB:=ab9 hrA;have CX:=ab9 (hS.trans (MO.mono hS.size));clear hrA MO;go_wp2_with fail;refine mQ hK (CX.o) fun hS=> ?_;clear hK K;by_cases hCC:C=bA cr 4
 ·refine nK 6 fun K hK=> ?_;go_simp;refine(qh _ _ _ _ _ _ (bA cr 4) _ YB.o (by rw[←hCC];exact Jr.o _ hS)).mono ?_;rintro e _ ⟨rfl,rfl⟩;go_wp2_with fail;refine mQ hK (hS) fun hS=> ?_;clear hK K;refine aR 7 hS ?_;refine wQ ?_;obtain⟨hx1,hok,hD1⟩:=WJ.o hCC;obtain⟨N,hN⟩:∃N,N=l.length:=⟨_,rfl⟩;obtain⟨A,hA⟩:∃A,A=(gK l).length:=⟨_,rfl⟩;have hcnt:x.count=(N:Int):=by rw[hx1,hN]
  have hbyt:x.bytes=(A:Int):=by rw[hx1,hA]
  have hroot:x.root=tO l:=by rw[hx1]
  have hA9:A≤942:=by rw[hA,pq];exact hok.room
  have hN0:0<N:=by
   rcases aaF N with h0|h0
   ·exact absurd (Pe (by omega)) hok.more
   ·exact h0
  have hN9:N≤100:=by rw[hN];exact hok.few
  obtain⟨M,hM⟩:∃M,M=82+A:=⟨_,rfl⟩;have HXX:=ab9 hx1;have iM:=ab9 hok;have HN_:=ab9 hN;have HA_:=ab9 hA;have HROOT:=ab9 hroot;have HXB:acd (∀u,Below w9.heap.size w9 u→_):=ab9 fun u (hb:Below w9.heap.size w9 u)=>ES ((hb.block w8.heap.size (by omega)).trans Je.o);have HROWB:acd (∀u,Below w9.heap.size w9 u→ah (fun b=>b<w.heap.size) u (some ⟨b0,o0+82,none⟩) (M-82) ((gK l).map bv)):=ab9 fun u hb=>by
   have h9:=((gN.o.below (xC.o.trans (hb.mono xC.o.size)) ace).drop 82).take (M-82);rw[show min (1024-82) (M-82)=M-82 by omega,←aaR,←aaO,HB_.o,aa6 (by rw[List.length_append,hHl,hC]),hD1,abp (by omega)]at h9;exact h9
  have HZ:acd (∀u,Below w9.heap.size w9 u→ah (fun b=>b<w.heap.size) u (some ⟨b0,o0+M,none⟩) (1024-M) ((List.replicate (1024-M) (0:UInt8)).map bv)):=ab9 fun u hb=>by
   have h9:=((gN.o.below (xC.o.trans (hb.mono xC.o.size)) ace).drop M);have h8:B.drop M=List.replicate (1024-M) 0:=by
    rw[hM,HB_.o,←aaS,aa6 (by rw[List.length_append,hHl,hC]),hD1,aa6 hA.symm];congr 1;omega
   rw[←aaR,h8]at h9;exact h9
  have d1:(x.count==0)=false:=by rw[hcnt];simp;omega
  have d2:decide (942<x.bytes)=false:=aaf (by omega);have e1:IntKind.i64.wrap (82+x.bytes)=(M:Int):=by rw[hbyt,aah _ (by omega)];omega
  have k1:(82:Int)≤(M:Int):=by omega
  have k2:(M:Int)≤(c:Int):=by omega
  have k3:M≤c:=by omega
  have k4:¬c=82:=by omega
  have k5:(M:Int)≤1024:=by omega
  have k6:M≤1024:=by omega
  have k7:82≤M:=by omega
  have HM:=ab9 hM;clear hx1 hok hN hA hcnt hbyt hroot hcn hM;obtain⟨q0,q1,q2,q3,q4,q5⟩:=HXB.o _ CX.o;go_wp2_with fail;clear q0 q1 q2 q3 q4 q5;have hq0:∀w':World,Below w9.heap.size w9 w'→w'.cell? ⟨w8.heap.size,0,none⟩=some (.int .i64 x.index):=fun w' hb=>(HXB.o w' hb).1;have hq1:∀w':World,Below w9.heap.size w9 w'→w'.cell? ⟨w8.heap.size,1,none⟩=some (.int .u64 x.first):=fun w' hb=>(HXB.o w' hb).2.1;have hq2:∀w':World,Below w9.heap.size w9 w'→w'.cell? ⟨w8.heap.size,2,none⟩=some (.int .i64 x.count):=fun w' hb=>(HXB.o w' hb).2.2.1;have hq3:∀w':World,Below w9.heap.size w9 w'→w'.cell? ⟨w8.heap.size,3,none⟩=some (.int .i64 x.bytes):=fun w' hb=>(HXB.o w' hb).2.2.2.1;have hq4:∀w':World,Below w9.heap.size w9 w'→w'.cell? ⟨w8.heap.size,4,none⟩=some (.slice a7 32 c7):=fun w' hb=>(HXB.o w' hb).2.2.2.2.1;have yt:∀w':World,Below w9.heap.size w9 w'→w'.cell? ⟨w8.heap.size,5,none⟩=some (.slice a8 32 c8):=fun w' hb=>(HXB.o w' hb).2.2.2.2.2;have HREC:acd (∀u,Below w9.heap.size w9 u→Calls Tryz.prog 151 #[.slice (some ⟨b0,o0+82,none⟩) (M-82) (c-82),.agg #[.int .i64 x.index,.int .u64 x.first,.int .i64 x.count,.int .i64 x.bytes,.slice a7 32 c7,.slice a8 32 c8]] u fun e u'=>∃v,e= .returned (.tuple #[v,.bool true])∧gG u.heap.size u' v l∧Below u.heap.size u u'):=ab9 fun u hb=>Lf x.first l iM.o.recs iM.o.Oa iM.o.first x ⟨by rw[HXX.o],rfl⟩ a7 a8 c7 c8 _ (M-82) (c-82) u (HROWB.o u hb) (by omega) (by omega) (by have:=HN_.o;omega);refine xG ((fun w'=>Below w9.heap.size w9 w')) ?_ fun hS=> ?_
  ·exact CX.o.drew
  refine aR 0 hS ?_;refine aR 1 hS ?_;refine aR 2 hS ?_;refine aR 3 hS ?_;refine aR 4 hS ?_;refine aR 5 hS ?_;refine nK 6 fun K hK=> ?_;go_simp;refine(HREC.o _ hS).mono ?_;rintro e wC ⟨v,rfl,hvC,hbC⟩;have WV:=ab9 hvC;have N_:=ab9 (hS.trans (hbC.mono hS.size));clear hvC hbC;go_wp2_with fail;refine mQ hK (N_.o) fun hS=> ?_;clear hK K;refine aR 7 hS ?_;refine aR 8 hS ?_;refine aR 9 hS ?_;refine aR 10 hS ?_;refine aR 11 hS ?_;refine wQ ?_;clear hS HREC hq0 hq1 hq2 hq3 hq4 yt;obtain⟨za,hza⟩:∃za,(if c=M then some (⟨b0,o0,none⟩:Addr)else some ⟨b0,o0+M,none⟩)=za:=⟨_,rfl⟩;have HZA:acd (ah (fun b=>b<w.heap.size) wC za (1024-M) ((List.replicate (1024-M) (0:UInt8)).map bv)):=by
   show ah _ _ _ _ _;rw[←hza];by_cases h9:c=M
   ·rw[if_pos h9,show 1024-M=0 by omega];exact ah.zero _ _ _ rfl rfl
   ·rw[if_neg h9];exact HZ.o _ N_.o
  obtain⟨q0,q1,q2,q3,q4,q5⟩:=HXB.o _ N_.o;go_wp2_with fail;refine(Bo za (1024-M) (c-M) wC HZA.o (by omega) (by omega)).mono ?_;rintro e wD ⟨rfl,hbD⟩;have tN:=ab9 (N_.o.trans (hbD.mono N_.o.size));have HVD:=ab9 (WV.o.below hbD);have hsC:=CX.o.size;clear hbD hza q0 q1 q2 q3 q4 q5;go_wp2_with fail;obtain⟨av,cv,rfl,hcv,hblk⟩:=HVD.o.form;rw[←HN_.o]at hcv⊢;have HRC5:acd (qc (fun _=>True) wD av N l):=ab9 (by
   have h9:=HVD.o.rows (by rw[←HN_.o];omega);rw[←HN_.o]at h9;obtain⟨vals,h1,h2⟩:=h9.at_;exact⟨vals,h1.mono fun _ _=>trivial,h2.imp fun _ _ _ hr=>hr.mono fun _ _=>trivial⟩)
  have ZK:acd (∀u,Below wD.heap.size wD u→Calls Tryz.prog 142 #[.slice av N cv] u (LvRet u (l.map vZ))):=ab9 fun u hb=>Ew l iM.o.recs av N cv u (HRC5.o.below hb) (by omega);have yt:∀w':World,Below wD.heap.size wD w'→w'.cell? ⟨w8.heap.size,5,none⟩=some (.slice a8 32 c8):=fun w' hb=>(HXB.o w' (tN.o.trans (hb.mono tN.o.size))).2.2.2.2.2;refine xG ((fun w'=>Below wD.heap.size wD w')) ?_ fun hS=> ?_
  ·exact acf.drew
  refine aR 0 hS ?_;refine aR 3 hS ?_;refine aR 4 hS ?_;refine nK 1 fun K hK=> ?_;go_simp;refine(ZK.o _ hS).mono ?_;rintro e wE ⟨a2,n2,c2,L,rfl,hc2',hn2,hL2,Sr,hb2⟩;have Gb:=ab9 hL2;have Us:=ab9 Sr;have Vx:=ab9 (hS.trans (hb2.mono hS.size));obtain rfl:n2=N:=by rw[hn2,List.length_map];exact HN_.o.symm
  clear hL2 Sr hb2 hn2;go_wp2_with fail;refine mQ hK (Vx.o) fun hS=> ?_;clear hK K;refine nK 2 fun K hK=> ?_;go_simp;refine(zP (n2+1) L n2 a2 c2 wE Gb.o (by omega) hc2' (by omega)).mono ?_;rintro e wF ⟨a6,n6,c6,rfl,hc6,A_,hb6⟩;have er:nX (n2+1) (iK L)=x.root:=by rw[Us.o,HROOT.o,HN_.o];rfl
  rw[er]at A_;obtain rfl:n6=32:=by have:=A_.length;rw[List.length_map,hrl]at this;exact this.symm
  have G9:=ab9 A_;have Da:=ab9 (hS.trans (hb6.mono hS.size));clear A_ hb6 er;go_wp2_with fail;refine mQ hK (Da.o) fun hS=> ?_;clear hK K;refine nK 5 fun K hK=> ?_;go_simp;refine(qh _ _ _ _ _ _ x.root _ G9.o (HR89.o.below (tN.o.trans (hS.mono tN.o.size)) ace)).mono ?_;rintro e _ ⟨rfl,rfl⟩;go_wp2_with fail;refine mQ hK (hS) fun hS=> ?_;clear hK K;refine aR 6 hS ?_;refine wQ ?_;clear hS yt;have OB:=ab9 (tN.o.trans (Da.o.mono tN.o.size));obtain⟨q0,q1,q2,q3,q4,q5⟩:=HXB.o _ OB.o;have HRESF:=ab9 ((OB.o.block _ (by omega)).trans QG.o);have HXN:acd (BX x a7 c7 a8 c8= #[.int .i64 x.index,.int .u64 x.first,.int .i64 x.count,.int .i64 x.bytes,.slice a7 32 c7,.slice a8 32 c8]):=ab9 rfl;go_wp2_with (refine au (by rfl) 144 _ _ (by rfl) w.heap.size (BX x a7 c7 a8 c8) (by rfl) (by rfl) _ HRESF.o Jv rfl (by simp[BX,Value.oneCell']) ?_;intro wG wS;have nE:=ab9 wS;clear wS);refine WU rfl rfl rfl rfl rfl nE.o.1 rfl ?_;have hk:=nE.o.2.1;have hz:=hk.size;have hsD:=tN.o.size;have hsF:=Da.o.size;have hmv:∀{a:Option Addr} {n:Nat} {vs:List Value},ah (fun b=>w.heap.size<b∧b<w9.heap.size) w9 a n vs→ah (fun b=>w.heap.size≤b∧b<wG.heap.size) wG a n vs:=fun hr=>((hr.below OB.o ace).kept hk.size fun b hb hbw=>hk.block b hbw (by omega)).mono fun b hb=>⟨by omega,by omega⟩;refine .inr ⟨hCC,a7,c7,a8,c8,_,rfl,?_,?_,Gc.1,?_,nE.o.below (xC.o.trans (OB.o.mono xC.o.size)) ace⟩
  ·exact hmv HR79.o
  ·exact hmv HR89.o
  ·show gG w.heap.size wG (.slice av n2 cv) l;rw[HN_.o];refine((HVD.o.below Da.o).keep hk.size fun b hb hbw=>hk.block b hbw ?_).mono ?_
   ·have h8:w9.heap.size≤b:=Nat.le_trans hsC hb;omega
   ·have h8:w9.heap.size≤wA.heap.size:=hsC;show w.heap.size≤wA.heap.size;omega
 ·have hCN:bA cr 4≠C:=fun e=>absurd e.symm hCC;refine nK 6 fun K hK=> ?_;go_simp;refine(Ti _ _ _ _ _ _ (bA cr 4) C hCN _ YB.o (Jr.o _ hS)).mono ?_;rintro e _ ⟨rfl,rfl⟩;go_wp2_with fail;refine mQ hK (hS) fun hS=> ?_;clear hK K;refine aR 7 hS ?_;refine wQ ?_;have HRESA:=ab9 ((CX.o.block _ (by omega)).trans QG.o);go_wp2_with (refine au (by rfl) 144 _ _ (by rfl) w.heap.size WT (by rfl) (by rfl) _ HRESA.o Jv rfl (by simp[WT,Value.oneCell']) ?_;intro wB hsB;have HSB:=ab9 hsB;clear hsB);refine WU rfl rfl rfl rfl rfl HSB.o.1 rfl ?_;exact .inl ⟨hCC,rfl,HSB.o.below (xC.o.trans (CX.o.mono xC.o.size)) ace⟩
def rD(ix f:Int)(prev:List UInt8)(l:List RecM):QM:=⟨ix,f,l.length,(gK l).length,prev,tO l⟩
theorem Ie{ix f:Int}{prev:List UInt8}{l:List RecM}(h:CJ ix f prev l):Sl (rD ix f prev l):=by
 have h1:=h.few;have h2:=h.room;rw[←pq]at h2;exact⟨h.ix,h.first,⟨by show(0:Int)≤(l.length:Int);omega,by show(l.length:Int)≤_;omega⟩,⟨by show(0:Int)≤((gK l).length:Int);omega,by show((gK l).length:Int)≤_;omega⟩,h.prev,yg l⟩
theorem LM{S:Nat→Prop}{ix f:Int}{prev:List UInt8}{l:List RecM}(h:CJ ix f prev l)(a:Option Addr)(n c:Nat)(w:World)(hr:ah S w a n ((Ld ix f prev l).map bv))(hc:n≤c):Calls Tryz.prog 78 #[.slice a n c] w (SgRet w (rD ix f prev l) l):=by
 obtain rfl:n=1024:=by have:=hr.length;rw[List.length_map,Db h]at this;exact this.symm
 have h2:=h.room;rw[←pq]at h2;refine(ET (rD ix f prev l) (Ie h) (bA (mM (Uo ix f prev l)) 4) (gK l++List.replicate (942-(gK l).length) 0) (ay _ _) (by simp;omega) l (fun _=>⟨rfl,h,rfl⟩) a c w (by
  have e:Ld ix f prev l=Bp (rD ix f prev l)++bA (mM (Uo ix f prev l)) 4++(gK l++List.replicate (942-(gK l).length) 0):=by
   unfold Ld;rw[←List.append_assoc];rfl
  rwa [e]at hr) hc).mono ?_
 rintro e w' (⟨h1,_⟩|⟨_,h1⟩)
 ·exact absurd rfl h1
 ·exact h1
def hd0:QM:=⟨0,0,0,0,List.replicate 32 0,List.replicate 32 0⟩
theorem OG:List.replicate 1024 (0:UInt8)=Bp hd0++[0,0,0,0]++List.replicate 942 0:=by
 have e:Bp hd0=List.replicate 78 0:=by rfl
 rw[e];rfl
theorem LP:[0,0,0,0]≠bA (mM (Bp hd0)) 4:=by
 have e:Bp hd0=List.replicate 78 0:=by rfl
 rw[e];exact of_decide_eq_true (by kernel_rfl)
theorem qV{S:Nat→Prop}(a:Option Addr)(c:Nat)(w:World)(hr:ah S w a 1024 ((List.replicate 1024 (0:UInt8)).map bv))(hc:1024≤c):Calls Tryz.prog 78 #[.slice a 1024 c] w (SgBad w):=by
 rw[OG]at hr;refine(ET hd0 ⟨by decide,by decide,by decide,by decide,rfl,rfl⟩ [0,0,0,0] (List.replicate 942 0) rfl aa1 [] (fun h=>absurd h LP) a c w hr hc).mono ?_;rintro e w' (⟨_,h1⟩|⟨h1,_⟩)
 ·exact h1
 ·exact absurd h1 LP
end Go.Proofs.YtmflaonodghbcaaGreatDoor
