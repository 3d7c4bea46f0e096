/-  -/
import Derived.Test.YtmflaonodghbcaaGreatDoorM19
import Derived.Lib.SlBytesConst
import Derived.Lib.SmallJoins
import Derived.Test.YtmflaonodghbcaaGreatDoorM22
import Derived.Test.YtmflaonodghbcaaGreatDoorM23
import Derived.Test.YtmflaonodghbcaaGreatDoorM13
import Derived.Test.YtmflaonodghbcaaGreatDoorM14
import Derived.Test.YtmflaonodghbcaaGreatDoorM18
set_option maxRecDepth 100000
set_option maxHeartbeats 64000000
set_option linter.all false
namespace Go.Proofs.YtmflaonodghbcaaGreatDoor
open Go.ChangeShapes Go.WideShapes Go.ChangeAt Go.RowKit
theorem Hl{B x:Nat}{w:World}{v:Value}{bs:List UInt8}(h:bN B w x v bs)(n:Int)(hn0:0≤n)(hn:n≤9000000000000000000)(hl:bs.length≤100000000):Calls Tryz.prog 68 #[ptr x,.int .i64 n] w (oJ B w x v (bs++bA n 2)):=by
 have HP:acd (Calls Tryz.prog 140 #[ptr x,.int .u64 n,.int .i64 2] w (oJ B w x v (bs++bA n 2))):=CQ h n 2 (by omega) (by omega) (by omega) hl;have e1:IntKind.u64.wrap n=n:=by simp[IntKind.wrap,IntKind.bits,IntKind.signed];omega
 clear h;go_enter Tryz.func68,Tryz.ntmps68;go_wp2_with fail;refine HP.o.mono ?_;rintro e w1 ⟨rfl,v1,hm⟩;go_wp2_with fail
 go_end0
 exact⟨rfl,v1,hm⟩
theorem mkZ(k:Nat)(ki:Int)(hki:ki=k)(hk:k≤1048576)(zc:Array Value)(hz:zc=((List.replicate k (0:UInt8)).map bv).toArray)(w:World):(Instr.makeSlice 32 (.int .i64 ki) (.int .i64 ki)).run Tryz.prog w= .ok (.slice (some ⟨w.heap.size,0,none⟩) k k) (w.alloc (.cells zc 5)):=by
 obtain⟨i0,hi,hz0,hz1,hz2⟩:=aay Tryz.uP;have h:=run_make (P:=Tryz.prog) w 32 5 i0 (.int .u8 0) Tryz.underlying32 hi hz0 .i64 .i64 ki ki (by omega) (by omega) (by rw[hz2];omega) (by omega);rw[h,hz1];subst hz hki;have e:madeCells (Value.cells (.int .u8 0)) k=((List.replicate k (0:UInt8)).map bv).toArray:=by
  apply Array.toList_inj.1;rw[show Value.cells (.int .u8 0)= #[.int .u8 0]from rfl,toList_madeCells_one];rw[List.map_replicate];rfl
 simp[e]
theorem zQ(k:Nat)(hk:k≤1048576)(zc:Array Value)(hz:zc=((List.replicate k (0:UInt8)).map bv).toArray)(w:World):ah (fun x=>w.heap.size≤x) (w.alloc (.cells zc 5)) (some ⟨w.heap.size,0,none⟩) k ((List.replicate k (0:UInt8)).map bv):=by
 subst hz;have h:=kQ (w:=w) ((List.replicate k (0:UInt8)).map bv) 5 (by simp;have:maxLen=9223372036854775807:=rfl;omega);rw[List.length_map,aa1]at h;exact h.mono fun b hb=>by rw[hb];exact Nat.le_refl _
def uD:List UInt8:=[87,79,82,77]
def kE(n:Nat)(id:List UInt8):List UInt8:=uD++bA 1 2++bA (n:Int) 2++id
def jl(n:Nat)(id:List UInt8):List UInt8:=kE n id++bA (mM (kE n id)/65536) 2++bA (mM (kE n id)) 2++List.replicate 100 0
theorem Ey(n:Nat){id:List UInt8}(h:id.length=16):(kE n id).length=24:=by simp[kE,uD,ay,h]
theorem tL(n:Nat){id:List UInt8}(h:id.length=16):(jl n id).length=128:=by simp[jl,Ey n h,ay]
theorem Wm(w:World):ah (fun b=>w.heap.size≤b) (w.alloc (.cells #[.int .u8 87,.int .u8 79,.int .u8 82,.int .u8 77] 5 (4,5))) (some ⟨w.heap.size,0,none⟩) 4 (uD.map bv):=by
 refine⟨rfl,by decide,fun _=>⟨w.heap.size,0,rfl,Nat.le_refl _,by simp,fun j hj=> ?_⟩⟩;rw[Nat.zero_add,World.cell?_alloc_mark];rcases (by omega:j=0∨j=1∨j=2∨j=3)with rfl|rfl|rfl|rfl<;>rfl
theorem Ho{S:Nat→Prop}(n:Nat)(h0:64≤n)(h1:n≤4096)(id:List UInt8)(hid:id.length=16)(a:Option Addr)(cp:Nat)(w:World)(hr:ah S w a 16 (id.map bv)):Calls Tryz.prog 31 #[.int .i64 (n:Int),.slice a 16 cp] w (Cx w (jl n id)):=by
 have QH:=ab9 (fun w'=>wu n h0 h1 w');have Za:=Ey n hid;have HH:acd (kE n id=[]++uD++bA 1 2++bA (n:Int) 2++id):=by show kE n id=_;unfold kE;simp
 obtain⟨c,hc⟩:∃c,c=mM (kE n id):=⟨_,rfl⟩;have HB_:acd (jl n id=kE n id++bA (c/65536) 2++bA c 2++List.replicate 100 0):=by rw[hc];rfl
 have hc0:0≤c∧c<4294967296:=by rw[hc];exact mR _
 have HC:=ab9 hc;have gN:=ab9 (fB hr);have hwl:uD.length=4:=rfl;obtain⟨zc,hzc⟩:∃zc,zc=((List.replicate 100 (0:UInt8)).map bv).toArray:=⟨_,rfl⟩;have hmk:=mkZ 100 100 rfl (by omega) zc hzc;have HZ:=ab9 (zQ 100 (by omega) zc hzc);clear hzc;have kc:=fun(w:World) (C:Array Value) (n c:Nat)=>Lib.run_convert_bytes_const (P:=Tryz.prog) w 32 5 C n c Tryz.underlying32 abh;unfold aW at QH;clear hr hc;go_enter Tryz.func31,Tryz.ntmps31;go_wp2_with fail;refine(QH.o _).mono ?_;rintro e w1 ⟨rfl,hb1⟩;have HB1:=ab9 hb1;clear hb1;go_wp2_with fail;have HB2:=ab9 (HB1.o.trans ((wall w1 (.cells #[.int .i64 (n:Int),.int .i64 ((n:Int)/4),.int .i64 (((n:Int)-1-2*((n:Int)/4))/8)] 57)).mono HB1.o.size));obtain⟨w2,hw2⟩:∃w2,w2=w1.alloc (.cells #[.int .i64 (n:Int),.int .i64 ((n:Int)/4),.int .i64 (((n:Int)-1-2*((n:Int)/4))/8)] 57):=⟨_,rfl⟩;rw[←hw2]at HB2⊢;clear hw2;refine(dB w2).mono ?_;rintro e w3 ⟨rfl,hW3,hb3⟩;have HW3:=ab9 hW3;have HB3:=ab9 hb3;clear hW3 hb3;go_wp2_with fail;have HR4:=ab9 (Wm w3);have zm:=ab9 (HW3.o.below (wall w3 (.cells #[.int .u8 87,.int .u8 79,.int .u8 82,.int .u8 77] 5 (4,5))));have dh:=ab9 (HB3.o.trans ((wall w3 (.cells #[.int .u8 87,.int .u8 79,.int .u8 82,.int .u8 77] 5 (4,5))).mono HB3.o.size));obtain⟨w4,hw4⟩:∃w4,w4=w3.alloc (.cells #[.int .u8 87,.int .u8 79,.int .u8 82,.int .u8 77] 5 (4,5)):=⟨_,rfl⟩;rw[←hw4]at HR4 zm dh⊢;clear hw4 HW3;refine(gF zm.o _ 4 4 uD HR4.o (by simp) (by omega)).mono ?_;intro e w5 ht;obtain⟨rfl,x5,D5,hb5⟩:=b_.more zm.o dh.o ht;have qB:=ab9 D5;have dX:=ab9 hb5;clear ht D5 hb5 zm HR4 dh HB3 kc;go_wp2_with fail;refine(dV qB.o 1 (by omega) (by omega) (by simp[uD])).mono ?_;intro e w6 ht;obtain⟨rfl,x6,CW,hb6⟩:=b_.more qB.o dX.o ht;have qN:=ab9 CW;have oK:=ab9 hb6;clear ht CW hb6 qB dX;go_wp2_with fail;refine(dV qN.o (n:Int) (by omega) (by omega) (by simp[uD,ay])).mono ?_;intro e w7 ht;obtain⟨rfl,x7,Jj,iR⟩:=b_.more qN.o oK.o ht;have sQ:=ab9 Jj;have jw:=ab9 iR;have tu:=ab9 (gN.o.below (HB2.o.trans (iR.mono HB2.o.size)) ace);clear ht Jj iR qN oK;go_wp2_with fail;refine(gF sQ.o a 16 cp id tu.o (by simp[uD,ay]) (by omega)).mono ?_;intro e w8 ht;obtain⟨rfl,x8,Lb,gJ⟩:=b_.more sQ.o jw.o ht;rw[←HH.o]at Lb;have Cy:=ab9 Lb;have nG:=ab9 gJ;clear ht Lb gJ sQ jw tu;go_wp2_with fail;refine(fK Cy.o (by omega)).mono ?_;rintro e w9 ⟨a9,n9,c9,rfl,xw,jK,iT⟩;have hn9:n9≤24:=by have:=jK.length;rw[List.length_map]at this;omega
 have KL:=ab9 (Cy.o.below iT);have sU:=ab9 (nG.o.trans (iT.mono nG.o.size));have FJ:=ab9 (vV a9 n9 c9 (kE n id) w9 jK (by omega));rw[←HC.o]at FJ;clear jK iT Cy nG;go_wp2_with fail;refine FJ.o.mono ?_;rintro e _ ⟨rfl,rfl⟩;go_wp2_with fail;have hl9:(kE n id).length≤100:=by omega
 refine(dV KL.o (c/65536) (by omega) (by omega) (by omega)).mono ?_;intro e wA ht;obtain⟨rfl,xA,hWA,MO⟩:=b_.more KL.o sU.o ht;have YG:=ab9 hWA;have CX:=ab9 MO;clear ht hWA MO KL sU FJ;go_wp2_with fail;refine(Hl YG.o c (by omega) (by omega) (by simp[ay];omega)).mono ?_;intro e wB ht;obtain⟨rfl,xB,hWB,ZL⟩:=b_.more YG.o CX.o ht;have YH:=ab9 hWB;have zN:=ab9 ZL;have hlB:(kE n id++bA (c/65536) 2++bA c 2).length=28:=by simp[ay,Za]
 clear ht hWB ZL YG CX;go_wp2_with fail;refine(fK YH.o (by omega)).mono ?_;rintro e wC ⟨aC,nC,cC,rfl,hcC,hrC,hbC⟩;obtain rfl:nC=28:=by have:=hrC.length;rw[List.length_map]at this;omega
 have HWC:=ab9 (YH.o.below hbC);have N_:=ab9 (zN.o.trans (hbC.mono zN.o.size));clear hrC hbC YH zN;go_wp2_with fail;have zR:=ab9 (HZ.o wC);have YC:=ab9 (HWC.o.below (wall wC (.cells zc 5)));have tN:=ab9 (N_.o.trans ((wall wC (.cells zc 5)).mono N_.o.size));obtain⟨wD,hwD⟩:∃wD,wD=wC.alloc (.cells zc 5):=⟨_,rfl⟩;rw[←hwD]at zR YC tN⊢;clear hwD HWC N_ hmk HZ;refine(gF YC.o _ 100 100 (List.replicate 100 0) zR.o (by omega) (by omega)).mono ?_;intro e wE ht;obtain⟨rfl,xE,hWE,hbE⟩:=b_.more YC.o tN.o ht;rw[←HB_.o]at hWE;have HWE:=ab9 hWE;have Vx:=ab9 hbE;have hbl:=tL n hid;clear ht hWE hbE YC tN zR;go_wp2_with fail;refine(fK HWE.o (by omega)).mono ?_;rintro e wF ⟨aF,nF,cF,rfl,hcF,hrF,Lc⟩;have ZM:=ab9 hrF;have Da:=ab9 Lc;clear hrF Lc;go_wp2_with fail
 go_ret2
 have hs2:=HB2.o.size;have hsE:=Vx.o.size;have Sn:=HB2.o.trans (Vx.o.mono hs2);refine⟨aF,nF,cF,rfl,hcF,ZM.o.mono fun b hb=>⟨by omega,hb.2⟩,Sn.trans (Da.o.mono (by omega))⟩
def gK(l:List RecM):List UInt8:=(l.map vZ).flatten
theorem pq:∀l:List RecM,(gK l).length=uy l
 |[]=>rfl
 |x::r=>by
  have h:=pq r;unfold gK uy at h⊢;rw[List.map_cons,List.flatten_cons,List.length_append,h,List.map_cons,List.sum_cons]
def tO(l:List RecM):List UInt8:=nX (l.length+1) (l.map vZ)
theorem yg(l:List RecM):(tO l).length=32:=AY _ _ (by rw[List.length_map];omega)
def Uo(ix f:Int)(prev:List UInt8)(l:List RecM):List UInt8:=bA ix 2++bA f 8++bA (l.length:Int) 2++bA ((gK l).length:Int) 2++prev++tO l
def Ld(ix f:Int)(prev:List UInt8)(l:List RecM):List UInt8:=Uo ix f prev l++bA (mM (Uo ix f prev l)) 4++gK l++List.replicate (942-(gK l).length) 0
structure CJ(ix f:Int)(prev:List UInt8)(l:List RecM):Prop where
 ix:0≤ix∧ix≤65535
 first:0≤f∧f≤1099511627776
 prev:prev.length=32
 more:l≠[]
 few:l.length≤100
 recs:∀x∈l,zl x
 room:uy l≤942
 Oa:∀(k:Nat) (x:RecM),l[k]? =some x→x.seq=f+(k:Int)
theorem QN{ix f:Int}{prev:List UInt8}{l:List RecM}(h:CJ ix f prev l):(Uo ix f prev l).length=78:=by simp[Uo,ay,h.prev,yg]
theorem Db{ix f:Int}{prev:List UInt8}{l:List RecM}(h:CJ ix f prev l):(Ld ix f prev l).length=1024:=by
 have h1:=h.room;rw[←pq]at h1;simp[Ld,QN h,ay];omega
theorem zO.concat{S:Nat→Prop}{w:World}{b off n:Nat}{L:List uL}(h:zO S w (some ⟨b,off,none⟩) n L)(k:Nat)(hk:k<n):∃a l c bs,w.cell? ⟨b,off+k,none⟩=some (.slice a l c)∧ah S w a l (bs.map bv)∧(iK L)[k]? =some bs:=by
 obtain⟨b',off',e,-,-,hc⟩:=h.row.at_ (by omega);cases e;have hl:L.length=n:=by simpa using h.row.length
 have hp:=List.getElem?_eq_getElem (l:=L) (i:=k) (by omega);refine⟨_,_,_,_,(hc k hk).trans (by rw[List.getElem?_map,hp];rfl),(h.each _ (List.getElem_mem _)).1,by unfold iK;rw[List.getElem?_map,hp];rfl⟩
theorem Sq{Q S:Nat→Prop}(ix f:Int)(prev:List UInt8)(l:List RecM)(h:CJ ix f prev l)(pa:Option Addr)(pc:Nat)(a:Option Addr)(n c:Nat)(w:World)(hp:ah S w pa 32 (prev.map bv))(hr:qc Q w a n l):
  Calls Tryz.prog 76 #[.int .i64 ix,.int .u64 f,.slice pa 32 pc,.slice a n c] w (Cx w (Ld ix f prev l)):=by
 have hl:=hr.len;have g1:=h.ix;have g2:=h.first;have g3:0<n:=by
  have:=h.more;rcases aaF n with h0|h0
  ·rw[h0]at hl;exact absurd (Pe hl) this
  ·exact h0
 have g4:n≤100:=by have:=h.few;omega
 have g5:(gK l).length≤942:=by rw[pq];exact h.room
 have Za:=QN h;have hfit:Gm 942 l=n:=by rw[Ev 942 l h.room,hl]
 have HFT:=ab9 (fun w' (hb:Below w.heap.size w w')=>La l h.recs a n c w' (hr.below hb) (by omega));rw[hfit]at HFT;have ZK:=ab9 (fun w' (hb:Below w.heap.size w w')=>Ew l h.recs a n c w' (hr.below hb) (by omega));have HRR:=ab9 hr;have HP:=ab9 (fB hp);have HL:=ab9 hl;have HSQ:=ab9 h.Oa;have Aw:=ab9 h.prev;obtain⟨A,hA⟩:∃A,A=(gK l).length:=⟨_,rfl⟩;obtain⟨cr,hcr⟩:∃cr,cr=mM (Uo ix f prev l):=⟨_,rfl⟩;have Le:0≤cr∧cr<4294967296:=by rw[hcr];exact mR _
 have HHX:acd (Uo ix f prev l=[]++bA ix 2++bA f 8++bA (n:Int) 2++bA (A:Int) 2++prev++tO l):=by show Uo ix f prev l=_;unfold Uo;rw[hl,←hA];simp
 have HBX:acd (Ld ix f prev l=Uo ix f prev l++bA cr 4++gK l++List.replicate (942-A) 0):=by show Ld ix f prev l=_;unfold Ld;rw[←hcr,←hA]
 have ZN:=ab9 hcr;rw[←hA]at g5;have HA:=ab9 hA;have d1:decide (ix<0)=false:=aaf (by omega);have d2:decide (65535<ix)=false:=aaf (by omega);have d3:decide (1099511627776<f)=false:=aaf (by omega);have d4:((n:Int)==0)=false:=by simp;omega
 have d5:decide ((n:Int)<(n:Int))=false:=aaf (by omega);have kA:IntKind.i64.wrap (942-(A:Int))=((942-A:Nat):Int):=by rw[aah _ (by omega)];omega
 have KA:=ab9 kA;clear h hp hr hl hfit hcr hA kA;go_enter Tryz.func76,Tryz.ntmps76;go_wp2_with fail;refine(HFT.o w acf).mono ?_;rintro e w1 ⟨rfl,hb1⟩;have HB1:=ab9 hb1;clear hb1;go_wp2_with fail
 go_loopw [44] (fun iv wr=>∃k:Nat,k≤n∧iv= .int .i64 k∧Below w.heap.size w wr) (fun iv _=>n-(intOf iv).toNat)
 case atStart=>exact⟨0,by omega,rfl,HB1.o⟩
 case round=>
  obtain⟨k,hk,rfl,hb⟩:=hrel;have HB:=ab9 hb;by_cases hlt:k<n
  ·obtain⟨x,hx⟩:∃x,l[k]? =some x:=⟨l[k]'(by rw[HL.o];exact hlt),List.getElem?_eq_getElem _⟩;obtain⟨g,off,ha,hc,rfl,hgw,hcap,hrow,hcell⟩:=HRR.o.cells hx;obtain⟨e0,e1,e2⟩:=hcell wr hb;have Wn:=HSQ.o k x hx;have i0':(0:Int)≤(k:Int):=by omega
   have i1:(k:Int)<(n:Int):=by omega
   have hd:decide ((k:Int)<(n:Int))=true:=by simpa using i1
   rw[Wn]at e1;have ew:IntKind.u64.wrap (k:Int)=(k:Int):=by simp[IntKind.wrap,IntKind.bits,IntKind.signed];omega
   have ew2:IntKind.u64.wrap (f+(k:Int))=f+(k:Int):=by simp[IntKind.wrap,IntKind.bits,IntKind.signed];omega
   clear hx hcell hrow hcap hb Wn;go_wp2_with fail;go_roundw
   case rel=>exact⟨k+1,by omega,by go_num,HB.o.trans ((wall _ _).mono HB.o.size)⟩
   case measure=>simp[intOf];omega
  ·have hd:decide ((k:Int)<(n:Int))=false:=by simp;omega
   obtain rfl:n=k:=by omega
   clear hb;go_wp2_with fail;refine(ZK.o wr HB.o).mono ?_;rintro e w2 ⟨a2,n2,c2,L,rfl,hc2,hn2,hL2,Sr,hb2⟩;obtain rfl:n2=n:=by rw[hn2,List.length_map,HL.o]
   obtain⟨b2,o2,rfl,-,hbw2,-⟩:=hL2.row.at_ g3;have HW2:=ab9 (HB.o.trans (hb2.mono HB.o.size));have HL2:=ab9 hL2;have Uq:=ab9 (DX b2 o2 c2 n2 (l.map vZ) w2 hn2 (by omega) hbw2 (by show(gK l).length≤_;rw[←HA.o];omega) (fun k hk=>by have h9:=hL2.concat k hk;rw[Sr]at h9;exact h9));have qD:acd (∀w',Below w2.heap.size w2 w'→Calls Tryz.prog 143 #[.slice (some ⟨b2,o2,none⟩) n2 c2] w' (fJ w' (tO l))):=ab9 fun w' hb=>by
    have h9:=zP (n2+1) L n2 (some ⟨b2,o2,none⟩) c2 w' (hL2.below hb ace) (by omega) hc2 (by omega);rw[Sr]at h9;unfold tO
    rwa [HL.o]
   have e9:(List.map vZ l).flatten.length=A:=HA.o.symm;rw[e9]at Uq;clear hL2 Sr hb2 hn2 e9;go_wp2_with fail;refine Uq.o.mono ?_;rintro e w3 ⟨a3,c3,rfl,⟨hc3,-⟩,hr3,hb3⟩;have HR3:acd (ah (fun b=>b<w3.heap.size) w3 a3 A ((gK l).map bv)):=ab9 (hr3.mono fun b hb=>hb.2);have HB3:=ab9 hb3;have HW3:=ab9 (HW2.o.trans (hb3.mono HW2.o.size));clear hr3 hb3 Uq;go_wp2_with fail;refine(dB w3).mono ?_;rintro e v0 ⟨rfl,hW,hb⟩;have HWv0:=ab9 hW;have HVv0:=ab9 hb;clear hW hb;go_wp2_with fail;refine(dV HWv0.o ix (by omega) (by omega) (by simp)).mono ?_;intro e v1 ht;obtain⟨rfl,yv1,hW,hb⟩:=b_.more HWv0.o HVv0.o ht;have HWv1:=ab9 hW;have HVv1:=ab9 hb;clear ht hW hb;go_wp2_with fail;refine(iy HWv1.o f (by omega) (by omega) (by simp[ay])).mono ?_;intro e v2 ht;obtain⟨rfl,yv2,hW,hb⟩:=b_.more HWv1.o HVv1.o ht;have HWv2:=ab9 hW;have HVv2:=ab9 hb;clear ht hW hb;go_wp2_with fail;refine(dV HWv2.o (n2:Int) (by omega) (by omega) (by simp[ay])).mono ?_;intro e v3 ht;obtain⟨rfl,yv3,hW,hb⟩:=b_.more HWv2.o HVv2.o ht;have HWv3:=ab9 hW;have HVv3:=ab9 hb;clear ht hW hb;go_wp2_with fail;refine(dV HWv3.o (A:Int) (by omega) (by omega) (by simp[ay])).mono ?_;intro e v4 ht;obtain⟨rfl,yv4,hW,hb⟩:=b_.more HWv3.o HVv3.o ht;have HWv4:=ab9 hW;have HVv4:=ab9 hb;clear ht hW hb;go_wp2_with fail;refine(gF HWv4.o pa 32 pc prev (HP.o.below (HW3.o.trans (HVv4.o.mono HW3.o.size)) ace) (by simp[ay]) (by omega)).mono ?_;intro e v5 ht;obtain⟨rfl,yv5,hW,hb⟩:=b_.more HWv4.o HVv4.o ht;have HWv5:=ab9 hW;have HVv5:=ab9 hb;clear ht hW hb;go_wp2_with fail;refine(qD.o v5 (HB3.o.trans (HVv5.o.mono HB3.o.size))).mono ?_;rintro e v6 ⟨a6,n6,c6,rfl,hc6,A_,hb6⟩;obtain rfl:n6=32:=by have:=A_.length;rw[List.length_map,yg]at this;exact this.symm
   have G9:=ab9 A_;have HWv6:=ab9 (HWv5.o.below hb6);have HVv6:=ab9 (HVv5.o.trans (hb6.mono HVv5.o.size));clear A_ hb6;go_wp2_with fail;refine(gF HWv6.o a6 32 c6 (tO l) G9.o (by simp[ay,Aw.o]) (by omega)).mono ?_;intro e v7 ht;obtain⟨rfl,yv7,hW,hb⟩:=b_.more HWv6.o HVv6.o ht;rw[←HHX.o]at hW;have HWv7:=ab9 hW;have HVv7:=ab9 hb;clear ht hW hb;go_wp2_with fail;refine(fK HWv7.o (by omega)).mono ?_;rintro e v8 ⟨a8,n8,c8,rfl,hc8,ru,gJ⟩;have vY:n8≤78:=by have:=ru.length;rw[List.length_map]at this;omega
   have HWv8:=ab9 (HWv7.o.below gJ);have HVv8:=ab9 (HVv7.o.trans (gJ.mono HVv7.o.size));have FJ:=ab9 (vV a8 n8 c8 (Uo ix f prev l) v8 ru (by omega));rw[←ZN.o]at FJ;clear ru gJ;go_wp2_with fail;refine FJ.o.mono ?_;rintro e _ ⟨rfl,rfl⟩;go_wp2_with fail;refine(KJ cr Le.1 v8).mono ?_;rintro e v9 ⟨a9,n9,c9,rfl,xw,jK,iT⟩;obtain rfl:n9=4:=by have:=jK.length;rw[List.length_map,ay]at this;exact this.symm
   have Gg:=ab9 jK;have HWv9:=ab9 (HWv8.o.below iT);have HVv9:=ab9 (HVv8.o.trans (iT.mono HVv8.o.size));clear jK iT FJ;go_wp2_with fail;refine(gF HWv9.o a9 4 c9 (bA cr 4) Gg.o (by omega) (by omega)).mono ?_;intro e vA ht;obtain⟨rfl,yvA,hW,hb⟩:=b_.more HWv9.o HVv9.o ht;have HWvA:=ab9 hW;have HVvA:=ab9 hb;clear ht hW hb;go_wp2_with fail;refine(gF HWvA.o a3 A c3 (gK l) (HR3.o.below HVvA.o ace) (by simp[ay];omega) (by omega)).mono ?_;intro e vB ht;obtain⟨rfl,yvB,hW,hb⟩:=b_.more HWvA.o HVvA.o ht;have HWvB:=ab9 hW;have HVvB:=ab9 hb;clear ht hW hb;obtain⟨zc,hzc⟩:∃zc,zc=((List.replicate (942-A) (0:UInt8)).map bv).toArray:=⟨_,rfl⟩;have hmk:=mkZ (942-A) ((942-A:Nat):Int) rfl (by omega) zc hzc;have kA:=KA.o;have zR:=ab9 (zQ (942-A) (by omega) zc hzc vB);have HWvD:=ab9 (HWvB.o.below (wall vB (.cells zc 5)));have HVvD:=ab9 (HVvB.o.trans ((wall vB (.cells zc 5)).mono HVvB.o.size));clear hzc;go_wp2_with fail;obtain⟨vD,hvD⟩:∃vD,vD=vB.alloc (.cells zc 5):=⟨_,rfl⟩;rw[←hvD]at zR HWvD HVvD⊢;clear hvD hmk kA;refine(gF HWvD.o _ (942-A) (942-A) (List.replicate (942-A) 0) zR.o (by have:=HA.o;simp[ay];omega) (by omega)).mono ?_;intro e vE ht;obtain⟨rfl,yvE,hW,hb⟩:=b_.more HWvD.o HVvD.o ht;rw[←HBX.o]at hW;have HWvE:=ab9 hW;have HVvE:=ab9 hb;clear ht hW hb;go_wp2_with fail;have hlE:(Ld ix f prev l).length≤100000:=by rw[HBX.o];have:=HA.o;simp[ay];omega
   refine(fK HWvE.o (by omega)).mono ?_;rintro e vF ⟨aF,nF,cF,rfl,hcF,hrF,Lc⟩;have ZM:=ab9 hrF;have Da:=ab9 Lc;clear hrF Lc;go_wp2_with fail
   go_ret2
   have hs3:=HW3.o.size;have hsE:=HVvE.o.size;exact⟨aF,nF,cF,rfl,hcF,ZM.o.mono fun b hb=>⟨by omega,hb.2⟩,(HW3.o.trans (HVvE.o.mono hs3)).trans (Da.o.mono (by omega))⟩
theorem Tryz.Jk:(Tryz.prog.info? 69).map (fun i=>(i.zero,i.size,i.bytes))=some (some (.agg #[.int .i64 0,.int .u64 0,.slice none 0 0]),3,40):=by kernel_rfl
structure gG(B:Nat)(w:World)(v:Value)(l:List RecM):Prop where
 at_:∃vals,w.ownsRow B 69 3 v l.length vals∧iL (fun b=>B≤b∧b<w.heap.size∧v.ownBlock≠some b) w vals l
theorem gG.nil(B:Nat)(w:World):gG B w (.slice none 0 0) []:=⟨[],⟨rfl,.inl ⟨rfl,rfl⟩⟩,rfl⟩
theorem gG.below{B:Nat}{w w':World}{v:Value}{l:List RecM}(h:gG B w v l)(hb:Below w.heap.size w w'):gG B w' v l:=by
 obtain⟨vals,h1,h2⟩:=h.at_;exact⟨vals,jk h1 hb,h2.imp fun _ _ _ hr=>(hr.below hb ace).mono fun b h1=>⟨h1.1,by have:=hb.size;omega,h1.2.2⟩⟩
theorem gG.mono{B B':Nat}{w:World}{v:Value}{l:List RecM}(h:gG B w v l)(hb:B'≤B):gG B' w v l:=by
 obtain⟨vals,⟨h0,h1⟩,h2⟩:=h.at_;refine⟨vals,⟨h0,h1.imp id fun⟨g,cap,cur,e1,e2,e3⟩=>⟨g,cap,cur,e1,by omega,e3⟩⟩,h2.imp fun _ _ _ hr=>hr.mono fun b hb'=>⟨by omega,hb'.2⟩⟩
theorem gG.keep{B:Nat}{w w':World}{v:Value}{l:List RecM}(h:gG B w v l)(hs:w.heap.size≤w'.heap.size)(hk:∀b,B≤b→b<w.heap.size→w'.heap[b]? =w.heap[b]?):gG B w' v l:=by
 obtain⟨vals,h1,h2⟩:=h.at_;exact⟨vals,bR h1 fun b hb hbw=>hk b (bC h1 b hb) hbw,h2.imp fun _ _ _ hr=>hr.move hs fun b hb hbw=>⟨⟨hb.1,by omega,hb.2.2⟩,hk b hb.1 hbw⟩⟩
theorem gG.form{B:Nat}{w:World}{v:Value}{l:List RecM}(h:gG B w v l):∃a c,v= .slice a l.length c∧l.length≤c∧(∀b,v.ownBlock=some b→B≤b∧b<w.heap.size):=by
 obtain⟨vals,h1,h2⟩:=h.at_;obtain⟨a,c,e,h3⟩:=bG h1;exact⟨a,c,e,h3,fun b hb=>⟨bC h1 b hb,jf h1 b hb⟩⟩
theorem gG.rows{B c:Nat}{w:World}{a:Option Addr}{l:List RecM}(h:gG B w (.slice a l.length c) l)(hn:l.length≤1000000):qc (fun b=>B≤b∧b<w.heap.size) w a l.length l:=by
 obtain⟨vals,h1,h2⟩:=h.at_;obtain⟨-,-,h3⟩:=ah.mF h1 (by unfold maxLen;omega);exact⟨vals,h3,h2.imp fun _ _ _ hr=>hr.mono fun b hb=>⟨hb.1,hb.2.1⟩⟩
theorem gG.add{B:Nat}{w w2:World}{v:Value}{vals:List Value}{l:List RecM}{o:Obj}{A':Option Addr}{c':Nat}{x:RecM}{a:Option Addr}{c:Nat}(hv:iL (fun b=>B≤b∧b<w.heap.size∧v.ownBlock≠some b) w vals l)(hp:ah (fun b=>B≤b∧b<w.heap.size∧v.ownBlock≠some b) w a x.body.length (x.body.map bv))(hc:x.body.length≤c)
  (hown:w2.ownsRow B 69 3 (.slice A' (l.length+1) c') (l.length+1) (vals++[.int .i64 x.kind,.int .u64 x.seq,.slice a x.body.length c]))(hg:(w.alloc o).grownBy w2 v.ownBlock)(hblk:(Value.slice A' (l.length+1) c').ownBlock=v.ownBlock∨(Value.slice A' (l.length+1) c').ownBlock=some (w.alloc o).heap.size):gG B w2 (.slice A' (l.length+1) c') (l++[x]):=by
 have hsz:(w.alloc o).heap.size=w.heap.size+1:=Pd _ _;have hs2:=hg.size;have hmv:∀{a:Option Addr} {n:Nat} {vs:List Value},ah (fun b=>B≤b∧b<w.heap.size∧v.ownBlock≠some b) w a n vs→ah (fun b=>B≤b∧b<w2.heap.size∧(Value.slice A' (l.length+1) c').ownBlock≠some b) w2 a n vs:=fun hr=>hr.move (by omega) fun b hb hbw=>⟨⟨hb.1,by omega,fun e=>by
  rcases hblk with h9|h9
  ·rw[h9]at e;exact hb.2.2 e
  ·rw[h9]at e;have:=aaH e;omega⟩,(hg.block b (by omega) fun e=>hb.2.2 e.symm).trans (Below.heap_alloc w o b hbw)⟩
 exact⟨_,by simpa using hown,(hv.imp fun _ _ _ hr=>hmv hr).append ⟨_,[],rfl,⟨a,c,rfl,hc,hmv hp⟩,rfl⟩⟩
theorem Lf{S:Nat→Prop}(f:Int)(l:List RecM)(hok:∀x∈l,zl x)(Wn:∀(k:Nat) (x:RecM),l[k]? =some x→x.seq=f+(k:Int))(hf:0≤f∧f≤1099511627776)(h:QM)(hh:h.count=(l.length:Int)∧h.first=f)(pa ra:Option Addr)(pc rc:Nat)(a:Option Addr)(n c:Nat)(w:World)(hr:ah S w a n ((gK l).map bv))(hn:n≤100000)(hc:n≤c)(hll:l.length≤1000):
  Calls Tryz.prog 151 #[.slice a n c,.agg (BX h pa pc ra rc)] w fun e w'=>∃v,e= .returned (.tuple #[v,.bool true])∧gG w.heap.size w' v l∧Below w.heap.size w w':=by
 obtain⟨hh1,hh2⟩:=hh;unfold BX;rw[hh1,hh2];obtain⟨N,hN⟩:∃N,N=l.length:=⟨_,rfl⟩;rw[←hN]at hll⊢;have HN:=ab9 hN;have iM:=ab9 hok;have HSQ:=ab9 Wn;have HR:=ab9 hr;obtain⟨i0,hi,hz0,hz1,hz2⟩:=aay Tryz.Jk;have HI:=ab9 (And.intro hi (And.intro hz0 (And.intro hz1 hz2)));obtain⟨w1,hw1⟩:∃w1,w1=w.alloc (.cells #[.int .i64 h.index,.int .u64 f,.int .i64 (N:Int),.int .i64 h.bytes,.slice pa 32 pc,.slice ra 32 rc] 144):=⟨_,rfl⟩;have hb1:Below w.heap.size w w1:=by rw[hw1];exact wall w _
 have hx1:w1.heap[w.heap.size]? =some (.cells #[.int .i64 h.index,.int .u64 f,.int .i64 (N:Int),.int .i64 h.bytes,.slice pa 32 pc,.slice ra 32 rc] 144 (0,0)):=by rw[hw1];exact(MapKept.heap_alloc w _).1
 have hz1':w1.heap.size=w.heap.size+1:=by rw[hw1];simp
 have HB1:=ab9 hb1;have HH:acd (∀u,Below w1.heap.size w1 u→u.cell? ⟨w.heap.size,1,none⟩=some (.int .u64 f)∧u.cell? ⟨w.heap.size,2,none⟩=some (.int .i64 (N:Int))):=fun u hb=>by
  have h1:=(hb.block w.heap.size (by omega)).trans hx1;refine⟨?_,?_⟩<;>simp[World.cell?,h1]
 have HW1:=ab9 hw1;clear hh1 hh2 hN hok Wn hr hi hz0 hz1 hz2 hw1 hx1 hb1;obtain⟨c1,c2⟩:=HH.o w1 acf;go_enter Tryz.func151,Tryz.ntmps151;go_wp2_with fail
 go_loopw [0,6,13] (fun sv v iv wr=>∃(k:Nat) (a':Option Addr) (n' c':Nat),k≤N∧iv= .int .i64 k∧sv= .slice a' n' c'∧n'≤n∧n'≤c'∧ah (fun b=>b<w.heap.size) wr a' n' ((gK (l.drop k)).map bv)∧gG w1.heap.size wr v (l.take k)∧Below w1.heap.size w1 wr) (fun _ _ iv _=>N-(intOf iv).toNat)
 case atStart=>
  rw[←HW1.o];exact⟨0,a,n,c,by omega,rfl,rfl,Nat.le_refl _,hc,by simpa using(fB HR.o).below HB1.o ace,by simpa using gG.nil _ _,Below.refl _ _⟩
 case round=>
  obtain⟨k,a',n',c',hk,rfl,rfl,hn',hc',hrow,hg,hb⟩:=hrel;have HB:=ab9 hb;have HG:=ab9 hg;have gN:=ab9 hrow;clear hrow c1 c2;by_cases hlt:k<N
  ·obtain⟨x,hx⟩:∃x,l[k]? =some x:=⟨l[k]'(by rw[←HN.o];exact hlt),List.getElem?_eq_getElem _⟩;have hxo:=iM.o x (aaI hx);have Wn:=HSQ.o k x hx;have hkl:(l.take k).length=k:=by rw[List.length_take];have:=HN.o;omega
   obtain⟨av,cv,rfl,hcv,hblk⟩:=hg.form;rw[hkl]at HG hcv hblk⊢;have e1:gK (l.drop k)=vZ x++gK (l.drop (k+1)):=by rw[K_ hx];rfl
   obtain⟨L,hL⟩:∃L,L=(vZ x).length:=⟨_,rfl⟩;have hLn:L≤n':=by have:=gN.o.length;rw[List.length_map,e1,List.length_append]at this;omega
   have HD:acd (Calls Tryz.prog 204 #[.slice a' n' c'] wr (Vw wr x)):=ab9 (R3 x hxo (gK (l.drop (k+1))) a' n' c' wr (by rw[←e1];exact gN.o) hc' (by omega));unfold Vw at HD;rw[←hL]at HD;have hxb:=hxo.body;have hL2:15≤L:=by rw[hL,sP];omega
   have HX:=ab9 hx;have HSX:=ab9 Wn;have BZ:=ab9 e1;have HL:=ab9 hL;have HKL:=ab9 hkl;have HBK:=ab9 hblk;have i0':(0:Int)≤(k:Int):=by omega
   have i1:(k:Int)<(N:Int):=by omega
   have hd:decide ((k:Int)<(N:Int))=true:=by simpa using i1
   have hbs:=hb.size;clear hx hb hg hxo Wn e1 hL hkl hblk;go_wp2_with fail;refine HD.o.mono ?_;rintro e w2 ⟨a2,c2,rfl,hcap,hr2,hb2⟩;unfold zi;rw[HSX.o];obtain⟨w3,hw3⟩:∃w3,w3=w2.alloc (.cells #[.int .i64 x.kind,.int .u64 (f+(k:Int)),.slice a2 x.body.length c2] 69):=⟨_,rfl⟩;have hb3:Below w2.heap.size w2 w3:=by rw[hw3];exact wall w2 _
   have hz3:w3.heap.size=w2.heap.size+1:=by rw[hw3];simp
   have HB3:=ab9 (HB.o.trans ((hb2.trans (hb3.mono hb2.size)).mono HB.o.size));have HW3:=ab9 hw3;obtain⟨vals,ho3,hv3⟩:=(((HG.o.below hb2).below hb3)).at_;rw[HKL.o]at ho3;have K9:=ab9 ho3;have YI:=ab9 hv3;have HR3:=ab9 (hr2.below hb3 ace);have Ez:=ab9 (gN.o.below (hb2.trans (hb3.mono hb2.size)) ace);have hs2:=hb2.size;have ew:IntKind.u64.wrap (k:Int)=(k:Int):=by simp[IntKind.wrap,IntKind.bits,IntKind.signed];omega
   have ew2:IntKind.u64.wrap (f+(k:Int))=f+(k:Int):=by simp[IntKind.wrap,IntKind.bits,IntKind.signed];omega
   have HOWN:acd ((w3.alloc (.cells #[.int .i64 x.kind,.int .u64 (f+(k:Int)),.slice a2 x.body.length c2] 69)).ownsRow w1.heap.size 69 3 (.slice av k cv) k vals):=jk ho3 (wall _ _);obtain⟨b0,o0,rfl,-,hbw0,-⟩:=gN.o.at_ (by omega);have j0:(0:Int)≤(L:Int):=by omega
   have j1:(L:Int)≤(n':Int):=by omega
   have j2:L≤n':=hLn;obtain⟨c3,c4⟩:=HH.o w3 HB3.o;rw[hw3]at c3 c4;have HNR:acd (ah (fun b=>b=w3.heap.size) (w3.alloc (.cells #[.int .i64 x.kind,.int .u64 (f+(k:Int)),.slice a2 x.body.length c2] 69)) (some ⟨w2.heap.size+1,0,none⟩) (1*3) [.int .i64 x.kind,.int .u64 (f+(k:Int)),.slice a2 x.body.length c2]):=by
    rw[←hz3];exact kQ (w:=w3) [.int .i64 x.kind,.int .u64 (f+(k:Int)),.slice a2 x.body.length c2] 69 (by simp[maxLen])
   clear hb2 hb3 hr2 ho3 hv3 hw3;go_wp2_with (at_builtin;rw[←HW3.o];refine ji rfl _ _ 137 rfl w1.heap.size 69 i0 _ 3 40 Tryz.underlying137 HI.o.1 HI.o.2.1 HI.o.2.2.1 HI.o.2.2.2 rfl (by omega) (.slice av k cv) k vals rfl HOWN.o (some ⟨w2.heap.size+1,0,none⟩) 1 1 [.int .i64 x.kind,.int .u64 (f+(k:Int)),.slice a2 x.body.length c2] (by rfl) HNR.o (by simp[Value.oneCell']) (by unfold maxLen;omega) (by omega) (by simp;omega) ?_;intro A1 k1 w4 lK hg4 hat4;have ZH:=ab9 lK;have HG4:=ab9 hg4;have HA4:=ab9 hat4;clear lK hg4 hat4);go_roundw
   case rel=>
    have hkl:=HKL.o;have hg4:=HG4.o;have hs4:=hg4.size;rw[Pd]at hs4;obtain⟨hkl2,ek⟩:=aaj.1 HX.o;have hn9:n'=L+(gK (l.drop (k+1))).length:=by have:=gN.o.length;rw[List.length_map,BZ.o,List.length_append]at this;have:=HL.o;omega
    have hrow4:ah (fun b=>b<w.heap.size) w4 (some ⟨b0,o0,none⟩) n' ((gK (l.drop k)).map bv):=Ez.o.kept (by omega) fun b hb hbw=>(hg4.block b (by simp;omega) fun e=>by have:=HBK.o b e.symm;omega).trans ((MapKept.heap_alloc w3 _).2 b hbw);refine⟨k+1,_,n'-L,c'-L,by omega,by go_num,rfl,by omega,by omega,?_,?_,?_⟩
    ·by_cases h9:c'=L
     ·have h8:gK (l.drop (k+1))=[]:=Pe (by omega);rw[h8,show n'-L=0 by omega];exact ah.zero _ _ _ rfl rfl
     ·rw[if_neg h9];have h8:=hrow4.drop L
      rwa [BZ.o,aaz,aa6 (by rw[List.length_map];exact HL.o.symm)]at h8
    ·have hseq:f+(k:Int)=x.seq:=HSX.o.symm;have sJ:=ZH.o;have ha4:=HA4.o;rw[hseq,←hkl]at sJ;rw[←hkl]at ha4 hg4;have h9:=gG.add (v:= .slice av (l.take k).length cv) (l:=l.take k) (x:=x) (a:=a2) (c:=c2) (c':=k1) (A':=A1) (by have h8:=YI.o;rwa [hkl]) (HR3.o.mono fun b hb=>⟨by omega,by omega,fun e=>by rw[hkl]at e;have:=HBK.o b e;omega⟩) hcap.1 sJ hg4 ha4;rw[hkl]at h9;rw[aai hkl2,ek];exact h9
    ·exact(HB3.o.trans ((wall w3 _).mono (by omega))).trans ((Keeps.grown HG4.o).bQ (B:=w1.heap.size) (by rw[Pd];omega) fun y hy e=>by have:=HBK.o y e;omega)
   case measure=>simp[intOf];omega
  ·have hd:decide ((k:Int)<(N:Int))=false:=by simp;omega
   obtain rfl:N=k:=by omega
   have e0:gK (l.drop N)=[]:=by rw[aaC (by rw[←HN.o];exact Nat.le_refl _)];rfl
   have hn0:n'=0:=by have:=gN.o.length;rw[e0]at this;exact this.symm
   subst hn0;rw[List.take_of_length_le (by rw[←HN.o];exact Nat.le_refl _)]at HG;clear hg hb e0;go_wp2_with fail
   go_ret2
   exact⟨_,rfl,HG.o.mono (B:=w1.heap.size) (by omega),HB1.o.trans (HB.o.mono HB1.o.size)⟩
abbrev Mark:=Nat→Nat
structure Marks(W:World)(o:Mark)(w:World):Prop where
 new:∀b,o b≠0→W.heap.size≤b∧b<w.heap.size
 below:Below W.heap.size W w
structure Step(o:Mark)(I:Nat→Prop)(w:World)(o':Mark)(w':World):Prop where
 old:∀b,b<w.heap.size→o' b=o b
 new:∀b,w.heap.size≤b→o' b≠0→I (o' b)∧b<w'.heap.size
 keep:Keeps (fun b=>I (o b)) w w'
theorem Marks.step{W w w':World}{o o':Mark}{I:Nat→Prop}(h:Marks W o w)(hi:¬I 0)(hs:Step o I w o' w'):Marks W o' w':=by
 refine⟨fun b hb=> ?_,h.below.trans (hs.keep.bQ h.below.size fun x hx (hxi:I (o x))=> ?_)⟩
 ·by_cases hlt:b<w.heap.size
  ·rw[hs.old b hlt]at hb;exact⟨(h.new b hb).1,Nat.lt_of_lt_of_le hlt hs.keep.size⟩
  ·have h1:=(hs.new b (by omega) hb).2;have:=h.below.size;exact⟨by omega,h1⟩
 ·have h0:o x≠0:=fun e=>hi (by rw[e]at hxi;exact hxi);have:=(h.new x h0).1;omega
theorem Marks.grow{W w w':World}{o:Mark}(h:Marks W o w)(hb:Below w.heap.size w w'):Marks W o w':=
 ⟨fun b hn=>⟨(h.new b hn).1,Nat.lt_of_lt_of_le (h.new b hn).2 hb.size⟩,h.below.trans (hb.mono h.below.size)⟩
theorem Step.mono{w w':World}{o o':Mark}{I J:Nat→Prop}(h:Step o I w o' w')(hIJ:∀i,I i→J i):Step o J w o' w':=
 ⟨h.old,fun b hb hn=>⟨hIJ _ (h.new b hb hn).1,(h.new b hb hn).2⟩,h.keep.mono fun x _ hx=>hIJ _ hx⟩
theorem Step.grow{W w w':World}{o:Mark}{I:Nat→Prop}(h:Marks W o w)(hb:Below w.heap.size w w'):Step o I w o w':=
 ⟨fun _ _=>rfl,fun b hb hn=>by have:=(h.new b hn).2;omega,(Keeps.below hb).mono fun x hx hx'=>absurd hx (by omega)⟩
theorem Step.trans{w w1 w2:World}{o o1 o2:Mark}{I:Nat→Prop}(h:Step o I w o1 w1)(k:Step o1 I w1 o2 w2):Step o I w o2 w2:=by
 have hs:=h.keep.size;refine⟨fun b hb=>(k.old b (by omega)).trans (h.old b hb),fun b hb hn=> ?_,h.keep.trans k.keep fun x hx (hxi:I (o1 x))=>by rw[h.old x hx]at hxi;exact hxi⟩;by_cases hlt:b<w1.heap.size
 ·rw[k.old b hlt]at hn⊢;exact⟨(h.new b hb hn).1,Nat.lt_of_lt_of_le (h.new b hb hn).2 k.keep.size⟩
 ·exact k.new b (by omega) hn
theorem Step.then_{W w w1 w2:World}{o o1:Mark}{I:Nat→Prop}(hM:Marks W o w)(hi:¬I 0)(h:Step o I w o1 w1)(hb:Below w1.heap.size w1 w2):Step o I w o1 w2:=h.trans (Step.grow (hM.step hi h) hb)
theorem Step.behind{W w w1 w2:World}{o o2:Mark}{I:Nat→Prop}(hM:Marks W o w)(hb:Below w.heap.size w w1)(h:Step o I w1 o2 w2):Step o I w o2 w2:=(Step.grow hM hb).trans h
theorem Step.block{w w':World}{o o':Mark}{I:Nat→Prop}(h:Step o I w o' w'){b:Nat}(hb:b<w.heap.size)(hn:¬I (o b)):w'.heap[b]? =w.heap[b]? :=h.keep.block b hb hn
def Free(o:Mark)(w:World)(b:Nat):Prop:=o b=0∧b<w.heap.size
theorem ah.free{o o':Mark}{I:Nat→Prop}{w w':World}{a:Option Addr}{n:Nat}{vs:List Value}(h:ah (Free o w) w a n vs)(hi:¬I 0)(hs:Step o I w o' w'):ah (Free o' w') w' a n vs:=
 h.move hs.keep.size fun b hb hbw=>⟨⟨(hs.old b hb.2).trans hb.1,Nat.lt_of_lt_of_le hb.2 hs.keep.size⟩,hs.block hb.2 (by rw[hb.1];exact hi)⟩
theorem ah.EA{W w w':World}{o:Mark}{a:Option Addr}{n:Nat}{vs:List Value}(hM:Marks W o w)(h:ah (fun x=>w.heap.size≤x∧x<w'.heap.size) w' a n vs):ah (Free o w') w' a n vs:=
 h.mono fun b hb=>⟨Vh fun h0=>by have:=(hM.new b h0).2;omega,hb.2⟩
def eX(o:Mark)(i:Nat)(w:World)(p:Nat)(T:aI):Prop:=
 ∃g D mb ib nb,aM g D w p mb ib nb T∧(∀b,g b≠ .none→o b=i)∧(∀b,D b→o b=0)
theorem eX.step{o o':Mark}{I:Nat→Prop}{j:Nat}{w w':World}{p:Nat}{T:aI}(h:eX o j w p T)(hi:¬I 0)(hij:¬I j)(hs:Step o I w o' w'):eX o' j w' p T:=by
 obtain⟨g,D,mb,ib,nb,hA,hg,hD⟩:=h;refine⟨g,D,mb,ib,nb,hA.keeps hs.keep fun b hb=> ?_,fun b hb=>(hs.old b (hA.low b hb)).trans (hg b hb),fun b hb=>(hs.old b (hA.oN b hb)).trans (hD b hb)⟩;rcases hb with hb|hb
 ·rw[hg b hb];exact hij
 ·rw[hD b hb];exact hi
theorem eX.grow{o:Mark}{j:Nat}{w w':World}{p:Nat}{T:aI}(h:eX o j w p T)(hb:Below w.heap.size w w'):eX o j w' p T:=by
 obtain⟨g,D,mb,ib,nb,hA,hg,hD⟩:=h;exact⟨g,D,mb,ib,nb,hA.below hb ace,hg,hD⟩
theorem eX.remark{o o':Mark}{j k:Nat}{w:World}{p:Nat}{T:aI}(h:eX o j w p T)(h1:∀b,b<w.heap.size→o b=j→o' b=k)(h2:∀b,b<w.heap.size→o b=0→o' b=0):eX o' k w p T:=by
 obtain⟨g,D,mb,ib,nb,hA,hg,hD⟩:=h;exact⟨g,D,mb,ib,nb,hA,fun b hb=>h1 b (hA.low b hb) (hg b hb),fun b hb=>h2 b (hA.oN b hb) (hD b hb)⟩
def kT(o:Mark)(i:Nat)(w:World)(p:Nat)(T':aI)(v:Value)(e:Ending)(w':World):Prop:=
 e= .returned v∧∃o',Step o (fun j=>j=i) w o' w'∧eX o' i w' p T'
open Classical in
theorem kT.of{W w w':World}{o:Mark}{i p mb:Nat}{T':aI}{v:Value}{e:Ending}{g:Nat→Own}{D:Nat→Prop}(hM:Marks W o w)(hi:i≠0)(hg:∀b,g b≠ .none→o b=i)(hD:∀b,D b→o b=0)(ht:Turn g D w p mb T' v e w'):kT o i w p T' v e w':=by
 obtain⟨rfl,g',D',Qq,nb',hA',hg',hD',hK⟩:=ht;obtain⟨o',ho⟩:∃o':Mark,∀b,o' b=if b<w.heap.size then o b else if g' b≠ .none then i else 0:=⟨_,fun _=>rfl⟩;refine⟨rfl,o',⟨fun b hb=>by rw[ho,if_pos hb],fun b hb hn=> ?_,hK.mono fun x _ hx=>hg x hx⟩,g',D',mb,Qq,nb',hA',fun b hb=> ?_,fun b hb=> ?_⟩
 ·rw[ho,if_neg (by omega)]at hn⊢;by_cases h:g' b≠ .none
  ·rw[if_pos h];exact⟨rfl,hA'.low b h⟩
  ·rw[if_neg h]at hn;exact absurd rfl hn
 ·rw[ho];by_cases hlt:b<w.heap.size
  ·rw[if_pos hlt];rcases hg' b hb with h|h
   ·exact hg b h
   ·omega
  ·rw[if_neg hlt,if_pos hb]
 ·rw[ho];by_cases hlt:b<w.heap.size
  ·rw[if_pos hlt];rcases hD' b hb with h|h
   ·exact hD b h
   ·omega
  ·rw[if_neg hlt,if_neg (by rw[hA'.data b hb];simp)]
section
variable{W w:World}{o:Mark}{i p:Nat}{T:aI}
theorem ZO{S:Nat→Prop}(h:eX o i w p T)(hM:Marks W o w)(hi:i≠0)(hT:fu T)(a:Option Addr)(n c:Nat)(ls:List Nm)(kind:Int)(hS:bH S w a n (ls.map strOf))(hc:n≤c)(vY:n≤1000000):
  Calls Tryz.prog 49 #[ptr p,.slice a n c,.int .i64 kind] w (kT o i w p (dF T ls kind).2 (.tuple #[.int .i64 (dF T ls kind).1.1,.int .i64 (dF T ls kind).1.2])):=by
 obtain⟨g,D,mb,ib,nb,hA,hg,hD⟩:=h;exact(Y7 a n c ls kind w hA hT hS hc vY).mono fun e w' ht=>kT.of hM hi hg hD ht
theorem Sv{S:Nat→Prop}(h:eX o i w p T)(hM:Marks W o w)(hi:i≠0)(hT:fu T)(id:Int)(a:Option Addr)(l c:Nat)(bs:List UInt8)(hid:(Lit.int .i64 id).wf=true)(hr:ah S w a l (bs.map bv))(hl:l≤1000000000):
  Calls Tryz.prog 124 #[ptr p,.int .i64 id,.slice a l c] w (kT o i w p (dG T id bs).2 (.int .i64 (dG T id bs).1)):=by
 obtain⟨g,D,mb,ib,nb,hA,hg,hD⟩:=h;exact(RL id a l c bs w hA (fun x hx=>(hT.each id x hx).size) hid hr hl).mono fun e w' ht=>kT.of hM hi hg hD ht
end
theorem aM.addD{g:Nat→Own}{D:Nat→Prop}{w w':World}{p mb:Nat}{ib nb:Int→Nat}{T:aI}(h:aM g D w p mb ib nb T){k:Int}{x:eG}{i n:Nat}(hi0:w.heap.size≤i)(hn0:w.heap.size≤n)(hin:i≠n)(hiw:i<w'.heap.size)(hnw:x.kind=2→n<w'.heap.size)(hx0:aj k T=none)
  (hm:MapAt aU w' mb (bX jX k (ptr i) (T.map fun q=>(q.1,ptr (ib q.1)))))(hsz:w.heap.size≤w'.heap.size)(hb:∀b,b<w.heap.size→b≠mb→w'.heap[b]? =w.heap[b]?)(hi:iV D w' k i n x):
  aM (fun b=>if b=i then .item k else if b=n∧x.kind=2 then .names k else g b) D w' p mb (fun j=>if j=k then i else ib j) (fun j=>if j=k then n else nb j) (bX jX k x T):=by
 have hgl:∀b,g b≠ .none→b≠i∧b≠n:=fun b hb=>by have:=h.low b hb;omega
 have hgg:∀b,g b≠ .none→(if b=i then Own.item k else if b=n∧x.kind=2 then .names k else g b)=g b:=fun b hb=>by
  obtain⟨h1,h2⟩:=hgl b hb;rw[if_neg h1,if_neg (fun h=>h2 h.1)]
 have hp:g p≠ .none:=by rw[h.qE];simp
 have hmm:g mb≠ .none:=by rw[h.jg];simp
 refine⟨(hb p (h.low p hp) (fun e=>by have:=h.qE;rw[e,h.jg]at this;cases this)).trans h.head,?_,?_,(hgg p hp).trans h.qE,(hgg mb hmm).trans h.jg,?_,?_,?_,?_,fun b hb=>Nat.lt_of_lt_of_le (h.oN b hb) hsz⟩
 ·have e1:(bX jX k x T).map (fun q=>(q.1,ptr ((fun j=>if j=k then i else ib j) q.1)))=bX jX k (ptr i) (T.map fun q=>(q.1,ptr (ib q.1))):=by
   rw[vX jX (fun j _=>ptr ((fun j=>if j=k then i else ib j) j))];simp only[if_pos];congr 1;apply aaw;intro q hq;have:q.1≠k:=jW.1 hx0 q hq;rw[if_neg this]
  rw[e1];exact hm
 ·intro j y hy;rw[dS]at hy;by_cases hj:j=k
  ·subst hj;rw[if_pos rfl]at hy;cases hy;simp only[if_pos];exact hi
  ·rw[if_neg hj]at hy;simp only[if_neg hj];have t1:=h.pR j y hy;refine(h.item j y hy).move hsz (hb _ (h.low _ (by rw[t1];simp)) (fun e=>by rw[e,h.jg]at t1;cases t1)) (fun hk=>hb _ (h.low _ (by rw[h.mX j y hy hk];simp)) (fun e=>by have t2:=h.mX j y hy hk;rw[e,h.jg]at t2;cases t2)) ?_;intro b uX hbw;exact⟨uX,hb b hbw (fun e=>by have:=h.data b uX;rw[e,h.jg]at this;cases this)⟩
 ·intro j y hy;rw[dS]at hy;by_cases hj:j=k
  ·subst hj;simp
  ·rw[if_neg hj]at hy;have t1:=h.pR j y hy;simp only[if_neg hj];rw[hgg _ (by rw[t1];simp)];exact t1
 ·intro j y hy hk;rw[dS]at hy;by_cases hj:j=k
  ·subst hj;rw[if_pos rfl]at hy;cases hy;simp only[if_pos];rw[if_neg (aaP hin),if_pos ⟨trivial,hk⟩]
  ·rw[if_neg hj]at hy;have t1:=h.mX j y hy hk;simp only[if_neg hj];rw[hgg _ (by rw[t1];simp)];exact t1
 ·intro b uX;have:=h.oN b uX;rw[if_neg (by omega),if_neg (by omega)];exact h.data b uX
 ·intro b hbn;by_cases h1:b=i
  ·omega
  ·by_cases h2:b=n∧x.kind=2
   ·have:=hnw h2.2;omega
   ·simp only[if_neg h1,if_neg h2]at hbn;exact Nat.lt_of_lt_of_le (h.low b hbn) hsz
def qO(left:Int→Bool)(T:aI):aI:=T.filter fun q=> !left q.1
theorem Ba(left:Int→Bool)(T:aI)(k:Int):aj k (qO left T)=if left k=true then none else aj k T:=by
 unfold qO
 induction T with
 |nil=>simp[aj]
 |cons y r ih=>
  rw[List.filter_cons,fD];by_cases hl:left y.1=true
  ·simp only[hl,Bool.not_true,aa3,if_false];rw[ih];by_cases hk:y.1=k
   ·subst hk;rw[if_pos hl,if_pos hl]
   ·rw[if_neg hk]
  ·simp only[hl,Bool.not_false,if_true];rw[fD,ih];by_cases hk:y.1=k
   ·subst hk;rw[if_pos rfl,if_neg hl,if_pos rfl]
   ·rw[if_neg hk,if_neg hk]
theorem zS{T:aI}(h:aO jX T)(left:Int→Bool):aO jX (qO left T):=abP _ h
theorem Lg{left:Int→Bool}{T:aI}(h:∀q∈T,left q.1=true):qO left T=[]:=by
 unfold qO;rw[List.filter_eq_nil_iff];intro q hq;simp[h q hq]
theorem Sw{left:Int→Bool}{T:aI}(h:∀k,left k=false):qO left T=T:=by
 unfold qO;rw[abe];intro q _;simp[h q.1]
theorem Ob{left:Int→Bool}{T:aI}(hs:aO jX T){k:Int}{x:eG}(hx:aj k T=some x)(h:left k=true):bX jX k x (qO left T)=qO (fun z=>left z&& !decide (z=k)) T:=by
 refine BI dU ((zS hs left).bX dU k x) (zS hs _) fun j=> ?_;rw[dS,Ba,Ba];by_cases hj:j=k
 ·subst hj;rw[if_pos rfl,hx];simp
 ·rw[if_neg hj];simp[hj]
def dw(T:aI):aI:=(mO T).foldl (fun S id=>(eU S id).2) T
structure lU where
 id:Int
 hash:List UInt8
 t:aI
structure rH where
 l:List lU
 next:Int
 last:List UInt8
def Hq:rH:=⟨[],1,[]⟩
def Bb(K:aI→Prop)(o:Mark)(w:World)(vs:List Value)(x:lU):Prop:=
 ∃a c q,vs=[.int .i64 x.id,.slice a x.hash.length c,ptr q]∧x.hash.length≤c∧ah (fun b=>o b=0∧b<w.heap.size) w a x.hash.length (x.hash.map bv)∧eX o 0 w q x.t∧K x.t
def gL(K:aI→Prop)(o:Mark)(w:World):List Value→List lU→Prop
 |vs,[]=>vs=[]
 |vs,x::r=>∃v1 v2,vs=v1++v2∧Bb K o w v1 x∧gL K o w v2 r
structure oD(K:aI→Prop)(o:Mark)(i:Nat)(w:World)(s:Nat)(S:rH):Prop where
 at_:∃v la lc vals,w.heap[s]? =some (.cells #[v,.int .i64 S.next,.slice la S.last.length lc] 199 (0,0))∧o s=i∧s<w.heap.size∧
  w.ownsRow 0 197 3 v S.l.length vals∧(∀b,v.ownBlock=some b→o b=i∧b≠s∧b<w.heap.size)∧gL K o w vals S.l∧
  S.last.length≤lc∧ah (fun b=>o b=0∧b<w.heap.size) w la S.last.length (S.last.map bv)
abbrev OneAt:=Bb fu
abbrev Jl:=gL fu
abbrev jR:=oD fu
theorem Bb.step{K:aI→Prop}{o o':Mark}{I:Nat→Prop}{w w':World}{vs:List Value}{x:lU}(h:Bb K o w vs x)(hi:¬I 0)(hs:Step o I w o' w'):Bb K o' w' vs x:=by
 obtain⟨a,c,q,h1,h2,h3,h4,h5⟩:=h;exact⟨a,c,q,h1,h2,h3.move hs.keep.size fun b hb hbw=>⟨⟨(hs.old b hb.2).trans hb.1,Nat.lt_of_lt_of_le hb.2 hs.keep.size⟩,hs.block hb.2 (by rw[hb.1];exact hi)⟩,h4.step hi hi hs,h5⟩
theorem gL.step{K:aI→Prop}{o o':Mark}{I:Nat→Prop}{w w':World}(hi:¬I 0)(hs:Step o I w o' w'):∀{vs:List Value} {l:List lU},gL K o w vs l→gL K o' w' vs l
 |_,[],h=>h
 |_,x::r,⟨v1,v2,h1,h2,h3⟩=>⟨v1,v2,h1,h2.step hi hs,gL.step hi hs h3⟩
theorem Bb.grow{K:aI→Prop}{o:Mark}{w w':World}{vs:List Value}{x:lU}(h:Bb K o w vs x)(hb:Below w.heap.size w w'):Bb K o w' vs x:=by
 obtain⟨a,c,q,h1,h2,h3,h4,h5⟩:=h;exact⟨a,c,q,h1,h2,h3.move hb.size fun b hb' hbw=>⟨⟨hb'.1,Nat.lt_of_lt_of_le hb'.2 hb.size⟩,hb.block b hbw⟩,h4.grow hb,h5⟩
theorem gL.grow{K:aI→Prop}{o:Mark}{w w':World}(hb:Below w.heap.size w w'):∀{vs:List Value} {l:List lU},gL K o w vs l→gL K o w' vs l
 |_,[],h=>h
 |_,x::r,⟨v1,v2,h1,h2,h3⟩=>⟨v1,v2,h1,h2.grow hb,gL.grow hb h3⟩
theorem Bb.len{K:aI→Prop}{o:Mark}{w:World}{vs:List Value}{x:lU}(h:Bb K o w vs x):vs.length=3:=by
 obtain⟨a,c,q,h1,_⟩:=h;rw[h1];rfl
theorem gL.len{K:aI→Prop}{o:Mark}{w:World}:∀{vs:List Value} {l:List lU},gL K o w vs l→vs.length=l.length*3
 |_,[],h=>by have h1:_=[]:=h;rw[h1];rfl
 |_,x::r,⟨v1,v2,h1,h2,h3⟩=>by
  rw[h1,List.length_append,h2.len,h3.len,List.length_cons];omega
theorem gL.append{K:aI→Prop}{o:Mark}{w:World}:∀{vs us:List Value} {l m:List lU},gL K o w vs l→gL K o w us m→gL K o w (vs++us) (l++m)
 |_,_,[],_,h,k=>by have h1:_=[]:=h;rw[h1];exact k
 |_,_,x::r,_,⟨v1,v2,h1,h2,h3⟩,k=>⟨v1,v2++_,by rw[h1,List.append_assoc],h2,h3.append k⟩
theorem gL.at_{K:aI→Prop}{o:Mark}{w:World}:∀{vs:List Value} {l:List lU} {k:Nat} {x:lU},gL K o w vs l→l[k]? =some x→∃a c q,vs[k*3]? =some (.int .i64 x.id)∧vs[k*3+1]? =some (.slice a x.hash.length c)∧vs[k*3+2]? =some (ptr q)∧x.hash.length≤c∧ah (fun b=>o b=0∧b<w.heap.size) w a x.hash.length (x.hash.map bv)∧eX o 0 w q x.t∧K x.t
 |_,[],k,x,_,hx=>by simp at hx
 |_,y::r,0,x,⟨v1,v2,h1,h2,h3⟩,hx=>by
  have hyx:y=x:=aaH hx;subst hyx;obtain⟨a,c,q,e1,e2,e3,e4,e5⟩:=h2;subst e1 h1;exact⟨a,c,q,rfl,rfl,rfl,e2,e3,e4,e5⟩
 |_,y::r,k+1,x,⟨v1,v2,h1,h2,h3⟩,hx=>by
  obtain⟨a,c,q,e1,e2,e3,e4⟩:=gL.at_ h3 (k:=k) (x:=x) (by simpa using hx);have hl:=h2.len;subst h1;refine⟨a,c,q,?_,?_,?_,e4⟩
  ·rw[aaD (by omega),←e1];congr 1;omega
  ·rw[aaD (by omega),←e2];congr 1;omega
  ·rw[aaD (by omega),←e3];congr 1;omega
theorem gL.take{K:aI→Prop}{o:Mark}{w:World}:∀{vs:List Value} {l:List lU} (k:Nat),gL K o w vs l→gL K o w (vs.take (k*3)) (l.take k)
 |_,[],k,h=>by have h1:_=[]:=h;rw[h1];simp;exact rfl
 |_,y::r,0,_=>by simp;exact rfl
 |_,y::r,k+1,⟨v1,v2,h1,h2,h3⟩=>by
  subst h1;have hl:=h2.len;refine⟨v1,v2.take (k*3),?_,h2,h3.take k⟩;rw[List.take_append,List.take_of_length_le (by omega)];congr 2;omega
theorem gL.drop{K:aI→Prop}{o:Mark}{w:World}:∀{vs:List Value} {l:List lU} (k:Nat),gL K o w vs l→gL K o w (vs.drop (k*3)) (l.drop k)
 |_,[],k,h=>by have h1:_=[]:=h;rw[h1];simp;exact rfl
 |_,y::r,0,h=>by simpa using h
 |_,y::r,k+1,⟨v1,v2,h1,h2,h3⟩=>by
  subst h1;have hl:=h2.len;have h4:=h3.drop k;rw[List.drop_append,aaC (by omega)];have e:(k+1)*3-v1.length=k*3:=by omega
  rw[e];exact h4
theorem oD.step{K:aI→Prop}{o o':Mark}{I:Nat→Prop}{j:Nat}{w w':World}{s:Nat}{S:rH}(h:oD K o j w s S)(hi:¬I 0)(hj:¬I j)(hs:Step o I w o' w'):oD K o' j w' s S:=by
 obtain⟨v,la,lc,vals,h1,h2,h3,h4,h5,h6,h7,h8⟩:=h.at_;refine⟨v,la,lc,vals,(hs.block h3 (by rw[h2];exact hj)).trans h1,(hs.old s h3).trans h2,Nat.lt_of_lt_of_le h3 hs.keep.size,?_,fun b hb=> ?_,h6.step hi hs,h7,h8.move hs.keep.size fun b hb hbw=>⟨⟨(hs.old b hb.2).trans hb.1,Nat.lt_of_lt_of_le hb.2 hs.keep.size⟩,hs.block hb.2 (by rw[hb.1];exact hi)⟩⟩
 ·obtain⟨k1,k2⟩:=h4;refine⟨k1,?_⟩;rcases k2 with k2|⟨g,cap,cur,e1,e2,e3,e4⟩
  ·exact .inl k2
  ·have h9:=h5 g (by rw[e1];rfl);exact .inr ⟨g,cap,cur,e1,e2,(hs.block h9.2.2 (by rw[h9.1];exact hj)).trans e3,e4⟩
 ·obtain⟨k1,k2,k3⟩:=h5 b hb;exact⟨(hs.old b k3).trans k1,k2,Nat.lt_of_lt_of_le k3 hs.keep.size⟩
end Go.Proofs.YtmflaonodghbcaaGreatDoor
