/-  -/
import Derived.Test.YtjnhnlabpccgjaaGreatDoorM32
import Derived.Test.YtjnhnlabpccgjaaGreatDoorM13
import Derived.Test.YtjnhnlabpccgjaaGreatDoorM19
import Derived.Test.YtjnhnlabpccgjaaGreatDoorM18
import Derived.Test.YtjnhnlabpccgjaaGreatDoorM26
import Derived.BigQuiet
import Derived.Deep.QuietTactic
set_option maxRecDepth 100000
set_option maxHeartbeats 64000000
set_option linter.all false
namespace Go.Proofs.YtjnhnlabpccgjaaGreatDoor
open Go.ChangeShapes Go.WideShapes Go.ChangeAt Go.RowKit
theorem vQ{w:World}{B B':Nat}{e:TypeId}{k:Nat}{v:Value}{n:Nat}{xs:List Value}(h:w.ownsRow B' e k v n xs)(hb:B≤B'):w.ownsRow B e k v n xs:=by
 obtain⟨h1,h2⟩:=h;refine⟨h1,h2.imp id ?_⟩;rintro ⟨g,cap,cur,e1,e2,e3⟩;exact⟨g,cap,cur,e1,aax hb e2,e3⟩
theorem dN{w:World}{B:Nat}{a:Option Addr}{c:Nat}{bs:List UInt8}(h:w.ownsRow B 5 1 (.slice a bs.length c) bs.length (bs.map bv)):ah (fun x=>B≤x∧x<w.heap.size) w a bs.length (bs.map bv):=(ah.mR h).2
theorem Yy(k:Int)(x:bJ):rJ k x=(((((eB k 2++eB x.kind 1)++eB x.links 2)++eB x.b.length 2)++eB x.aF 8)++ql x.closed):=rfl
theorem Nf(k:Int)(x:bJ)(h1:Lp x)(hk:0≤k)(hk':k≤65535)(w:World):Calls Tryz.prog 96 #[kE k x] w (fB w (rJ k x)):=by
 obtain⟨l0,l1⟩:=h1.links;obtain⟨t0,t1⟩:=h1.aF;have hb:=h1.size;have hkd:0≤x.kind∧x.kind≤2:=by rcases h1.kind with h|h<;>omega
 obtain⟨kd0,kd1⟩:=hkd;rw[Yy];obtain⟨n,hn⟩:∃n:Nat,n=x.b.length:=⟨_,rfl⟩;rw[←hn]at hb;unfold kE;rw[←hn];clear h1 hn;obtain⟨L1,hL1⟩:∃L,L=eB k 2:=⟨_,rfl⟩;have hl1:L1.length=2:=by rw[hL1];rfl
 have ko:acs (∀w':World,Calls Tryz.prog 94 #[.slice none 0 0,.int .i64 k] w' (fB w' L1)):=fun w'=>by rw[hL1];exact kI (S:=fun _=>True) none 0 0 [] k w' (ah.nil _ _ _) (by omega) hk (by omega)
 obtain⟨L2,hL2⟩:∃L,L=L1++eB x.kind 1:=⟨_,rfl⟩;have hl2:L2.length=3:=by rw[hL2,List.length_append,hl1];rfl
 have HS2:acs (∀(B:Nat) (w':World) (a:Option Addr) (c:Nat),w'.ownsRow B 5 1 (.slice a L1.length c) L1.length (L1.map bv)→Calls Tryz.prog 98 #[.slice a L1.length c,.int .i64 x.kind] w' (fB w' L2)):=fun B w' a c h=>by rw[hL2];exact tZ a _ c _ x.kind w' (dN h) (by omega) kd0 (by omega)
 obtain⟨L3,hL3⟩:∃L,L=L2++eB x.links 2:=⟨_,rfl⟩;have hl3:L3.length=5:=by rw[hL3,List.length_append,hl2];rfl
 have Bb:acs (∀(B:Nat) (w':World) (a:Option Addr) (c:Nat),w'.ownsRow B 5 1 (.slice a L2.length c) L2.length (L2.map bv)→Calls Tryz.prog 94 #[.slice a L2.length c,.int .i64 x.links] w' (fB w' L3)):=fun B w' a c h=>by rw[hL3];exact kI a _ c _ x.links w' (dN h) (by omega) l0 (by omega)
 obtain⟨L4,hL4⟩:∃L,L=L3++eB (n:Int) 2:=⟨_,rfl⟩;have hl4:L4.length=7:=by rw[hL4,List.length_append,hl3];rfl
 have qM:acs (∀(B:Nat) (w':World) (a:Option Addr) (c:Nat),w'.ownsRow B 5 1 (.slice a L3.length c) L3.length (L3.map bv)→Calls Tryz.prog 94 #[.slice a L3.length c,.int .i64 (n:Int)] w' (fB w' L4)):=fun B w' a c h=>by rw[hL4];exact kI a _ c _ (n:Int) w' (dN h) (by omega) (by omega) (by omega)
 obtain⟨L5,hL5⟩:∃L,L=L4++eB x.aF 8:=⟨_,rfl⟩;have hl5:L5.length=15:=by rw[hL5,List.length_append,hl4];rfl
 have eU:acs (∀(B:Nat) (w':World) (a:Option Addr) (c:Nat),w'.ownsRow B 5 1 (.slice a L4.length c) L4.length (L4.map bv)→Calls Tryz.prog 53 #[.slice a L4.length c,.int .u64 x.aF] w' (fB w' L5)):=fun B w' a c h=>by rw[hL5];exact nQ a _ c _ x.aF w' (dN h) (by omega) t0 (by omega)
 obtain⟨L6,hL6⟩:∃L,L=L5++ql x.closed:=⟨_,rfl⟩;have hl6:L6.length=16:=by rw[hL6,List.length_append,hl5];rfl
 have qw:acs (∀(B:Nat) (w':World) (a:Option Addr) (c:Nat),w'.ownsRow B 5 1 (.slice a L5.length c) L5.length (L5.map bv)→Calls Tryz.prog 172 #[.slice a L5.length c,.bool x.closed] w' (fB w' L6)):=fun B w' a c h=>by rw[hL6];exact M8 a _ c _ x.closed w' (dN h) (by omega)
 rw[←hL1,←hL2,←hL3,←hL4,←hL5,←hL6];clear hL6 hL5 hL4 hL3 hL2 hL1;clear hl1 hl2 hl3 hl4 hl5 hl6;have HQ:acs (∀w',Below (w.alloc (.cells #[.int .i64 k,.int .i64 x.kind,.int .i64 x.links,.int .i64 (n:Int),.int .u64 x.aF,.bool x.closed] 39)).heap.size (w.alloc (.cells #[.int .i64 k,.int .i64 x.kind,.int .i64 x.links,.int .i64 (n:Int),.int .u64 x.aF,.bool x.closed] 39)) w'→∀j,w'.cell? ⟨w.heap.size,j,none⟩=(#[.int .i64 k,.int .i64 x.kind,.int .i64 x.links,.int .i64 (n:Int),.int .u64 x.aF,.bool x.closed]:Array Value)[j]?):=fun w' hb j=>by
  rw[hb.cell (p:=⟨w.heap.size,j,none⟩) (by simp)];exact dD (MapKept.heap_alloc w _).1 j
 have Bu:=acr (wall w (.cells #[.int .i64 k,.int .i64 x.kind,.int .i64 x.links,.int .i64 (n:Int),.int .u64 x.aF,.bool x.closed] 39));go_enter Tryz.func96,Tryz.ntmps96;go_wp2_with fail;generalize (w.alloc (.cells #[.int .i64 k,.int .i64 x.kind,.int .i64 x.links,.int .i64 (n:Int),.int .u64 x.aF,.bool x.closed] 39))=wa at*;have hza:=Bu.o.size;refine BP ((fun w'=>w'.cell? ⟨w.heap.size,0,none⟩=some (.int .i64 k)∧w'.cell? ⟨w.heap.size,1,none⟩=some (.int .i64 x.kind)∧w'.cell? ⟨w.heap.size,2,none⟩=some (.int .i64 x.links))) ?_ fun hS=> ?_
 ·exact⟨HQ.o _ acv.drew 0,HQ.o _ acv.drew 1,HQ.o _ acv.drew 2⟩
 refine aX 0 hS ?_;refine aX 1 hS ?_;refine aX 3 hS ?_;refine aX 4 hS ?_;refine aX 6 hS ?_;refine aX 7 hS ?_;refine Bl 2 fun K hK=> ?_;go_simp;refine(ko.o _).mono ?_;rintro e w1 ⟨a1,c1,rfl,hown1,hb1'⟩;have hb1:Below wa.heap.size wa w1:=acv.drew.trans hb1';go_simp;refine Ag hK (⟨HQ.o _ hb1 0,HQ.o _ hb1 1,HQ.o _ hb1 2⟩) fun hS=> ?_;clear hK K;refine Bl 5 fun K hK=> ?_;go_simp;refine(HS2.o _ _ _ _ hown1).mono ?_;rintro e w2 ⟨a2,c2,rfl,hown2,hb2'⟩;have hb2:Below wa.heap.size wa w2:=hb1.trans (hb2'.mono hb1.size);go_simp;refine Ag hK (⟨HQ.o _ hb2 0,HQ.o _ hb2 1,HQ.o _ hb2 2⟩) fun hS=> ?_;clear hK K;refine Bl 8 fun K hK=> ?_;go_simp;refine(Bb.o _ _ _ _ hown2).mono ?_;rintro e w3 ⟨a3,c3,rfl,hown3,Q9⟩;have hb3:Below wa.heap.size wa w3:=hb2.trans (Q9.mono hb2.size);go_simp;refine Ag hK (⟨HQ.o _ hb3 0,HQ.o _ hb3 1,HQ.o _ hb3 2⟩) fun hS=> ?_;clear hK K;refine Bl 9 fun K hK=> ?_;go_simp;refine Ag hK (⟨HQ.o _ hb3 0,HQ.o _ hb3 1,HQ.o _ hb3 2⟩) fun hS=> ?_;clear hK K;refine Bn ?_;go_wp2_with fail;have hown3d:w3.drew.ownsRow w2.heap.size 5 1 (.slice a3 L3.length c3) L3.length (L3.map bv):=hown3;refine BP ((fun w'=>w'.cell? ⟨w.heap.size,3,none⟩=some (.int .i64 (n:Int))∧w'.cell? ⟨w.heap.size,4,none⟩=some (.int .u64 x.aF)∧w'.cell? ⟨w.heap.size,5,none⟩=some (.bool x.closed))) ?_ fun hS=> ?_
 ·exact⟨HQ.o _ hb3.drew 3,HQ.o _ hb3.drew 4,HQ.o _ hb3.drew 5⟩
 refine aX 0 hS ?_;refine aX 1 hS ?_;refine aX 2 hS ?_;refine aX 4 hS ?_;refine aX 5 hS ?_;refine aX 7 hS ?_;refine aX 8 hS ?_;refine Bl 3 fun K hK=> ?_;go_simp;refine(qM.o _ _ _ _ hown3d).mono ?_;rintro e w4 ⟨a4,c4,rfl,mY,Vl⟩;have hb4:Below wa.heap.size wa w4:=hb3.drew.trans (Vl.mono hb3.size);go_simp;refine Ag hK (⟨HQ.o _ hb4 3,HQ.o _ hb4 4,HQ.o _ hb4 5⟩) fun hS=> ?_;clear hK K;refine Bl 6 fun K hK=> ?_;go_simp;refine(eU.o _ _ _ _ mY).mono ?_;rintro e w5 ⟨a5,c5,rfl,hown5,Yz⟩;have hb5:Below wa.heap.size wa w5:=hb4.trans (Yz.mono hb4.size);go_simp;refine Ag hK (⟨HQ.o _ hb5 3,HQ.o _ hb5 4,HQ.o _ hb5 5⟩) fun hS=> ?_;clear hK K;refine Bl 9 fun K hK=> ?_;go_simp;refine(qw.o _ _ _ _ hown5).mono ?_;rintro e w6 ⟨a6,c6,rfl,hown6,YA⟩;have hb6:Below wa.heap.size wa w6:=hb5.trans (YA.mono hb5.size);go_simp;refine Ag hK (⟨HQ.o _ hb6 3,HQ.o _ hb6 4,HQ.o _ hb6 5⟩) fun hS=> ?_;clear hK K;refine Bl 10 fun K hK=> ?_;go_simp;refine Ag hK (⟨HQ.o _ hb6 3,HQ.o _ hb6 4,HQ.o _ hb6 5⟩) fun hS=> ?_;clear hK K;refine Bn ?_;go_wp2_with fail;go_ret;exact⟨a6,c6,rfl,vQ hown6 (by have:=hb5.size;have:=Bu.o.size;omega),Bu.o.trans (hb6.mono Bu.o.size)⟩
def YB(e:jT):List UInt8:=mG e.2.1++eB e.2.2 2
def oW(E:List jT)(id:Int)(k:Nat):List UInt8:=((E.take k).filter fun e=>decide (e.1=id)).flatMap YB
def sI(E:List jT)(id:Int)(k:Nat):Nat:=((E.take k).filter fun e=>decide (e.1=id)).length
theorem Vm{E:List jT}{id:Int}{k:Nat}{e:jT}(hx:E[k]? =some e)(he:e.1=id):oW E id (k+1)=oW E id k++mG e.2.1++eB e.2.2 2∧sI E id (k+1)=sI E id k+1:=by
 obtain⟨hk,h⟩:=aac.1 hx;unfold oW sI;rw[aae hk,aa7,h];simp[he,YB]
theorem YC{E:List jT}{id:Int}{k:Nat}{e:jT}(hx:E[k]? =some e)(he:e.1≠id):oW E id (k+1)=oW E id k∧sI E id (k+1)=sI E id k:=by
 obtain⟨hk,h⟩:=aac.1 hx;unfold oW sI;rw[aae hk,aa7,h];simp[he]
theorem Vn{T:aA}{id:Int}{x:bJ}(hs:aI iA T)(hx:aj id T=some x){k:Nat}(hk:(aW T).length≤k):oW (aW T) id k=x.names.flatMap Jw∧sI (aW T) id k=x.names.length:=by
 unfold oW sI;rw[List.take_of_length_le hk,Ia hs hx,List.length_map,List.flatMap_map];exact⟨rfl,rfl⟩
theorem Ry{E:List jT}(hg:∀e∈E,e.2.1.length≤16)(id:Int)(k:Nat):(oW E id k).length≤20*k∧sI E id k≤k:=by
 have h2:(E.take k).length≤k:=List.length_take_le _ _;have h3:=aa4 (fun e:jT=>decide (e.1=id)) (E.take k);refine⟨?_,by unfold sI;omega⟩;have h1:∀L:List jT,(∀e∈L,e.2.1.length≤16)→(L.flatMap YB).length≤20*L.length:=fun L hL=>by
  induction L with
  |nil=>simp
  |cons e r ih=>
   have h4:=hL e (by simp);have h5:=ih fun y hy=>hL y (by simp[hy]);simp only[List.flatMap_cons,List.length_append,List.length_cons,YB,kZ,bB];omega
 have h6:=h1 ((E.take k).filter fun e=>decide (e.1=id)) fun e he=>hg e (List.mem_of_mem_take (aar.1 he).1);unfold oW;omega
def t_(T:aA)(k:Nat):List UInt8:=eB T.length 2++(T.take k).flatMap fun q=>ku q.1 q.2
theorem Rz{T:aA}{k:Nat}{q:Int×bJ}(hx:T[k]? =some q):t_ T (k+1)=t_ T k++ku q.1 q.2:=by
 obtain⟨hk,h⟩:=aac.1 hx;unfold t_;rw[aae hk,aaG,h,List.flatMap_cons,List.flatMap_nil,aaA,TK]
theorem Vo{T:aA}{k:Nat}(hk:T.length≤k):t_ T k=dw T:=by
 unfold t_ dw;rw[List.take_of_length_le hk]
theorem Vp{T:aA}(hT:dZ T)(k:Nat):(t_ T k).length≤6000000:=by
 have h1:=wC hT (T.take k) (fun q hq=>List.mem_of_mem_take hq);have h2:=hT.len;have h3:(T.take k).length≤T.length:=by rw[List.length_take];omega
 unfold t_;rw[List.length_append,bB];omega
section
variable{F:Nat→Prop}{r:Nat}{T:aA}
theorem Gu(w:World)(h:jC F w r T)(hT:dZ T):Calls Tryz.prog 35 #[ptr r] w (fB w (dw T)):=by
 obtain⟨aN,cN,aD,cD,aE,cE,h1,h2,h3,h4,hN,hD,hE,-⟩:=h.head;have hrw:=h.low r h.own;have hlen:=hT.len;have hef:=iT hT;have HT:=acr hT;have HG:acs (∀e∈aW T,e.2.1.length≤16):=fun e he=>by
  obtain⟨q,hq,hk,hm⟩:=H7 he;exact lX ((hT.each _ _ (aS bY hT.sorted hq)).good _ hm)
 have HSA:acs (∀k,T.length≤k→t_ T k=dw T):=fun k hk=>Vo hk;have hdl:(T.map fun q=>q.2.b).length=T.length:=List.length_map _;rw[hdl]at h1 h3;obtain⟨N,hNe⟩:∃N,N=T.length:=⟨_,rfl⟩;obtain⟨E,hEe⟩:∃E,E=aW T:=⟨_,rfl⟩;rw[←hEe]at h1 h4 hE hef HG;obtain⟨M,hMe⟩:∃M,M=E.length:=⟨_,rfl⟩;rw[←hNe]at h1 h2 h3 hN hlen;rw[←hMe]at h1 h4 hE hef;have jY:=acr hNe;have Zv:=acr hMe;have HEE:=acr hEe;have HRN:=acr hN;have rz:=acr hD;have uG:=acr hE;have HC:acs (∀w',Below w.heap.size w w'→w'.cell? ⟨r,0,none⟩=some (.slice aN N cN)∧w'.cell? ⟨r,1,none⟩=some (.slice aD N cD)∧w'.cell? ⟨r,2,none⟩=some (.slice aE M cE)):=fun w' hb=>by
  have hh:=(hb.block r hrw).trans h1;refine⟨?_,?_,?_⟩<;>simp[World.cell?,hh]
 have c0:=(HC.o w acv).1;have HS0:acs (∀w':World,Calls Tryz.prog 94 #[.slice none 0 0,.int .i64 (N:Int)] w' (fB w' (t_ T 0))):=fun w'=>by
  have e1:t_ T 0=[]++eB (N:Int) 2:=by unfold t_;rw[hNe];simp
  rw[e1];exact kI (S:=fun _=>True) none 0 0 [] (N:Int) w' (ah.nil _ _ _) (by omega) (by omega) (by omega)
 clear h hT h1 hN hD hE hdl hNe hMe hEe;go_enter Tryz.func35,Tryz.ntmps35;go_wp2_with fail;refine(HS0.o _).mono ?_;rintro e w1 ⟨a1,c1,rfl,hown1,hb1⟩;have wI:=acr hown1;have HB1:=acr hb1;clear hown1 hb1 c0;go_wp2_with fail
 go_loopw [3,4] (fun bvv iv wr=>∃(k:Nat) (a:Option Addr) (c:Nat),k≤N∧iv= .int .i64 k∧bvv= .slice a (t_ T k).length c∧wr.ownsRow w.heap.size 5 1 (.slice a (t_ T k).length c) (t_ T k).length ((t_ T k).map bv)∧Below w.heap.size w wr) (fun _ iv _=>N-(intOf iv).toNat)
 case atStart=>exact⟨0,a1,c1,Nat.zero_le _,rfl,rfl,wI.o,HB1.o⟩
 case round=>
  obtain⟨k,a,c,hk,rfl,rfl,hown,hB⟩:=hrel;have SL:=hB.size;have c0:=(HC.o _ hB).1;by_cases hlt:k<N
  ·have hd1:decide (k<N)=true:=by simpa using hlt
   have hx:T[k]? =some (T[k]'(by have:=jY.o;omega)):=List.getElem?_eq_getElem _;obtain⟨q,hq⟩:∃q,q=T[k]'(by have:=jY.o;omega):=⟨_,rfl⟩;rw[←hq]at hx;have HX:=acr hx;have Uk:aj q.1 T=some q.2:=aS bY HT.o.sorted (aat hx);have hok:=HT.o.each _ _ Uk;obtain⟨id0,id1⟩:=HT.o.ids _ _ Uk;have hsz:=hok.size;obtain⟨bN,oN,rfl,-,hbN,-,Lg⟩:=HRN.o.wide gK jY.o.symm hx (by omega);have HNC:acs (∀w',Below w.heap.size w w'→w'.cell? ⟨bN,oN+k*6,none⟩=some (.int .i64 q.1)∧w'.cell? ⟨bN,oN+k*6+1,none⟩=some (.int .i64 q.2.kind)∧w'.cell? ⟨bN,oN+k*6+2,none⟩=some (.int .i64 q.2.links)∧w'.cell? ⟨bN,oN+k*6+3,none⟩=some (.int .i64 q.2.b.length)∧w'.cell? ⟨bN,oN+k*6+4,none⟩=some (.int .u64 q.2.aF)∧w'.cell? ⟨bN,oN+k*6+5,none⟩=some (.bool q.2.closed)):=fun w' hb=>by
    have hc:=fun j hj=>(hb.cell (p:=⟨bN,oN+k*6+j,none⟩) hbN).trans (Lg j hj);exact⟨hc 0 (by omega),hc 1 (by omega),hc 2 (by omega),hc 3 (by omega),hc 4 (by omega),hc 5 (by omega)⟩
   obtain⟨vs,hvr,hve⟩:=rz.o;obtain⟨aB,cB,hvk,hcap,hrb⟩:=hve k q.2.b (by rw[List.getElem?_map,hx];rfl);obtain⟨bD,oD,rfl,-,hbD,hcD⟩:=hvr.at_ (by rw[List.length_map,←jY.o];omega);have WT:acs (∀w',Below w.heap.size w w'→w'.cell? ⟨bD,oD+k,none⟩=some (.slice aB q.2.b.length cB)):=fun w' hb=>
    ((hb.cell (p:=⟨bD,oD+k,none⟩) hbD).trans (hcD k (by rw[List.length_map,←jY.o];omega))).trans hvk
   have Ki:acs (∀w',Below w.heap.size w w'→ah (Off F r) w' aB q.2.b.length (q.2.b.map bv)):=fun w' hb=>hrb.below hb acu;have hl0:=Vp HT.o k;obtain⟨L0,hL0⟩:∃L,L=t_ T k:=⟨_,rfl⟩;rw[←hL0]at hown hl0⊢;obtain⟨EN,hEN⟩:∃L,L=rJ q.1 q.2:=⟨_,rfl⟩;have hle:EN.length=16:=by rw[hEN];exact kY _ _
   obtain⟨L1,hL1⟩:∃L,L=L0++mG EN:=⟨_,rfl⟩;have hl1:L1.length=L0.length+18:=by rw[hL1,List.length_append,kZ,hle]
   obtain⟨L2,hL2⟩:∃L,L=L1++mG q.2.b:=⟨_,rfl⟩;obtain⟨nb,hnb⟩:∃n,n=q.2.b.length:=⟨_,rfl⟩;rw[←hnb]at hsz HNC WT Ki;have hl2:L2.length=L0.length+20+nb:=by rw[hL2,List.length_append,kZ,hl1,←hnb];omega
   have Md:acs (∀w':World,Calls Tryz.prog 96 #[.agg #[.int .i64 q.1,.int .i64 q.2.kind,.int .i64 q.2.links,.int .i64 nb,.int .u64 q.2.aF,.bool q.2.closed]] w' (fB w' EN)):=fun w'=>by
    rw[hEN,hnb];exact Nf q.1 q.2 hok id0 id1 w'
   have Qm:acs (∀(B B':Nat) (w':World) (a a':Option Addr) (c c':Nat),w'.ownsRow B 5 1 (.slice a L0.length c) L0.length (L0.map bv)→w'.ownsRow B' 5 1 (.slice a' EN.length c') EN.length (EN.map bv)→Calls Tryz.prog 95 #[.slice a L0.length c,.slice a' EN.length c'] w' (fB w' L1)):=fun B B' w' a a' c c' h h'=>by
    rw[hL1];exact oh a _ c L0 a' _ c' EN w' (dN h) (dN h') (by omega) (by omega)
   have HY2:acs (∀(B:Nat) (w':World) (a:Option Addr) (c:Nat),w'.ownsRow B 5 1 (.slice a L1.length c) L1.length (L1.map bv)→Below w.heap.size w w'→Calls Tryz.prog 95 #[.slice a L1.length c,.slice aB nb cB] w' (fB w' L2)):=fun B w' a c h hb=>by
    rw[hL2];have h9:=oh a _ c L1 aB nb cB q.2.b w' (dN h) (Ki.o w' hb) (by omega) (by omega);rw[hnb]at h9⊢;exact h9
   have HCE:=acr (Vn HT.o.sorted Uk (k:=M) (by rw[Zv.o,HEE.o];exact Nat.le_refl _));rw[←HEE.o]at HCE;have HEL:=acr (fun j=>Ry HG.o q.1 j);obtain⟨cb,hcb⟩:∃L,L=oW E q.1 M:=⟨_,rfl⟩;obtain⟨cn,hcn⟩:∃n,n=sI E q.1 M:=⟨_,rfl⟩;obtain⟨hcbl,hcnl⟩:=HEL.o M;rw[←hcb]at hcbl;rw[←hcn]at hcnl;obtain⟨L3,hL3⟩:∃L,L=L2++eB (cn:Int) 2:=⟨_,rfl⟩;have hl3:L3.length=L0.length+22+nb:=by rw[hL3,List.length_append,bB,hl2];omega
   have HY3:acs (∀(B:Nat) (w':World) (a:Option Addr) (c:Nat),w'.ownsRow B 5 1 (.slice a L2.length c) L2.length (L2.map bv)→Calls Tryz.prog 94 #[.slice a L2.length c,.int .i64 (cn:Int)] w' (fB w' L3)):=fun B w' a c h=>by
    rw[hL3];exact kI a _ c L2 (cn:Int) w' (dN h) (by omega) (by omega) (by omega)
   have qQ:acs (t_ T (k+1)=L3++cb):=by
    show t_ T (k+1)=L3++cb;rw[Rz hx,←hL0,hL3,hL2,hL1,hEN,hcb,hcn,HCE.o.1,HCE.o.2];unfold ku;simp only[TK]
   have HO:=acr hown;have HB:=acr hB;have HKL:=acr hlt;have HL3:=acr hl3;have HL2:=acr hl2;have HCB:=acr hcb;have HCN:=acr hcn;have hk0:(0:Int)≤(k:Int):=by omega
   have hk1:(k:Int)<(N:Int):=by omega
   have hl0':=hl0;have HH:acs (∀w',Below w.heap.size w w'→w'.cell? ⟨r,0,none⟩=some (.slice (some ⟨bN,oN,none⟩) N cN)∧w'.cell? ⟨r,1,none⟩=some (.slice (some ⟨bD,oD,none⟩) N cD)∧w'.cell? ⟨bN,oN+k*6,none⟩=some (.int .i64 q.1)∧w'.cell? ⟨bN,oN+k*6+1,none⟩=some (.int .i64 q.2.kind)∧w'.cell? ⟨bN,oN+k*6+2,none⟩=some (.int .i64 q.2.links)∧w'.cell? ⟨bN,oN+k*6+3,none⟩=some (.int .i64 nb)∧w'.cell? ⟨bN,oN+k*6+4,none⟩=some (.int .u64 q.2.aF)∧w'.cell? ⟨bN,oN+k*6+5,none⟩=some (.bool q.2.closed)∧w'.cell? ⟨bD,oD+k,none⟩=some (.slice aB nb cB)):=fun w' hb=>by
    obtain⟨y0,y1,-⟩:=HC.o w' hb;obtain⟨n0,n1,n2,n3,n4,n5⟩:=HNC.o w' hb;exact⟨y0,y1,n0,n1,n2,n3,n4,n5,WT.o w' hb⟩
   clear hx hq Uk hok hvr hve hvk hcap hrb hcD Lg hL0 hEN hle hL1 hl1 hL2 hl2 hnb hcb hcn hL3 hl3 hown hB hlt hl0;go_wp2_with fail;refine BP ((fun w'=>w'.cell? ⟨r,0,none⟩=some (.slice (some ⟨bN,oN,none⟩) N cN)∧w'.cell? ⟨r,1,none⟩=some (.slice (some ⟨bD,oD,none⟩) N cD)∧w'.cell? ⟨bN,oN+k*6,none⟩=some (.int .i64 q.1)∧w'.cell? ⟨bN,oN+k*6+1,none⟩=some (.int .i64 q.2.kind)∧w'.cell? ⟨bN,oN+k*6+2,none⟩=some (.int .i64 q.2.links)∧w'.cell? ⟨bN,oN+k*6+3,none⟩=some (.int .i64 nb)∧w'.cell? ⟨bN,oN+k*6+4,none⟩=some (.int .u64 q.2.aF)∧w'.cell? ⟨bN,oN+k*6+5,none⟩=some (.bool q.2.closed)∧w'.cell? ⟨bD,oD+k,none⟩=some (.slice aB nb cB))) ?_ fun hS=> ?_
   ·exact HH.o _ HB.o.drew
   refine aX 0 hS ?_;refine aX 1 hS ?_;refine aX 2 hS ?_;refine aX 3 hS ?_;refine aX 4 hS ?_;refine aX 5 hS ?_;refine aX 6 hS ?_;refine aX 7 hS ?_;refine aX 10 hS ?_;refine aX 11 hS ?_;refine aX 12 hS ?_;refine aX 13 hS ?_;refine aX 14 hS ?_;refine aX 15 hS ?_;refine aX 16 hS ?_;refine Bl 8 fun K hK=> ?_;go_simp;refine(Md.o _).mono ?_;rintro e w4 ⟨a4,c4,rfl,mY,Vl⟩;have hb4:Below w.heap.size w w4:=HB.o.drew.trans (Vl.mono SL);have Nc:=acr mY;have Yj:=acr (own_below (w:=wr.drew) (w':=w4) HO.o Vl);clear mY;go_simp;refine Ag hK (HH.o _ hb4) fun hS=> ?_;clear hK K;refine Bl 9 fun K hK=> ?_;go_simp;refine(Qm.o _ _ _ _ _ _ _ Yj.o Nc.o).mono ?_;rintro e w5 ⟨a5,c5,rfl,hown5,Yz⟩;have hb5:Below w.heap.size w w5:=hb4.trans (Yz.mono hb4.size);have HO5:=acr hown5;clear hown5;go_simp;refine Ag hK (HH.o _ hb5) fun hS=> ?_;clear hK K;refine Bl 17 fun K hK=> ?_;go_simp;refine(HY2.o _ _ _ _ HO5.o hb5).mono ?_;rintro e w6 ⟨a6,c6,rfl,hown6,YA⟩;have hb6:Below w.heap.size w w6:=hb5.trans (YA.mono hb5.size);have HO6:=acr (vQ hown6 (Nat.zero_le _));clear hown6;go_simp;refine Ag hK (HH.o _ hb6) fun hS=> ?_;clear hK K;refine Bl 18 fun K hK=> ?_;go_simp;refine Ag hK (HH.o _ hb6) fun hS=> ?_;clear hK K;refine Bn ?_;have sV:=acr hb6;have hs6:=hb6.size;clear Vl Yz YA hb4 hb5 hb6;go_wp2_with fail;obtain⟨wo,rfl⟩:∃wo:World,wo=wr:=⟨_,rfl⟩
   go_loopw [5,6,7] (fun nv lv kv wr=>∃(j:Nat) (a:Option Addr) (c:Nat),j≤M∧kv= .int .i64 j∧nv= .int .i64 (sI E q.1 j)∧lv= .slice a (oW E q.1 j).length c∧wr.ownsRow w6.heap.size 5 1 (.slice a (oW E q.1 j).length c) (oW E q.1 j).length ((oW E q.1 j).map bv)∧Below w6.heap.size w6 wr) (fun _ _ kv _=>M-(intOf kv).toNat)
   case atStart=>exact⟨0,none,0,Nat.zero_le _,rfl,rfl,rfl,⟨rfl,.inl ⟨rfl,rfl⟩⟩,Below.refl _ _⟩
   case round=>
    obtain⟨j,a7,c7,hj,rfl,rfl,rfl,uJ,E_⟩:=hrel;have hBs7:=E_.size;have hBw:Below w.heap.size w wr:=sV.o.trans (E_.mono hs6);have y2:=(HC.o _ hBw).2.2;obtain⟨hel,hen⟩:=HEL.o j;by_cases hjm:j<M
    ·have hd2:decide (j<M)=true:=by simpa using hjm
     have hx:E[j]? =some (E[j]'(by have:=Zv.o;omega)):=List.getElem?_eq_getElem _;obtain⟨e,he⟩:∃e,e=E[j]'(by have:=Zv.o;omega):=⟨_,rfl⟩;rw[←he]at hx;have hnm:=HG.o e (aat hx);obtain⟨bE,oE,rfl,-,hbE,-,hcE⟩:=uG.o.wide jI Zv.o.symm hx (by omega);have HEC:acs (∀w',Below w.heap.size w w'→w'.cell? ⟨bE,oE+j*3,none⟩=some (.int .i64 e.1)∧w'.cell? ⟨bE,oE+j*3+1,none⟩=some (.string (strOf e.2.1))∧w'.cell? ⟨bE,oE+j*3+2,none⟩=some (.int .i64 e.2.2)):=fun w' hb=>by
      have hc:=fun i hi=>(hb.cell (p:=⟨bE,oE+j*3+i,none⟩) hbE).trans (hcE i hi);exact⟨hc 0 (by omega),hc 1 (by omega),hc 2 (by omega)⟩
     have y0:=(HH.o _ hBw).1;have n0:=(HH.o _ hBw).2.2.1;have e0:=(HEC.o _ hBw).1;have HJM:=acr hjm;have hj0:(0:Int)≤(j:Int):=by omega
     have hj1:(j:Int)<(M:Int):=by omega
     have WU:=acr uJ;have Cn:=acr E_;have HX:=acr hx;clear uJ E_ hx he hcE hjm;by_cases hp:e.1=q.1
     ·have hpp:(e.1==q.1)=true:=by simpa using hp
      obtain⟨hyb,hyn⟩:=Vm HX.o hp;obtain⟨C0,hC0⟩:∃L,L=oW E q.1 j:=⟨_,rfl⟩;obtain⟨C1,hC1⟩:∃L,L=C0++mG e.2.1:=⟨_,rfl⟩;obtain⟨C2,hC2⟩:∃L,L=C1++eB e.2.2 2:=⟨_,rfl⟩;rw[←hC0,←hC1,←hC2]at hyb;rw[←hC0]at hel WU⊢;obtain⟨nm,hnme⟩:∃nm,nm=e.2.1:=⟨_,rfl⟩;rw[←hnme]at hnm hC1;have hlc1:C1.length≤20*j+18:=by rw[hC1,List.length_append,kZ];omega
      obtain⟨Z6,YD⟩:∃Z6,Z6=e.2.2:=⟨_,rfl⟩;have ZB:0≤Z6∧Z6≤65535:=by
       have hm:e∈aW T:=by rw[←HEE.o];exact aat HX.o
       obtain⟨x,hx1,hx2⟩:=(lD HT.o.sorted).1 hm;obtain⟨y,hy⟩:=aaf.1 (HT.o.leads _ x hx1 e.2 hx2).1;rw[YD];exact HT.o.ids _ _ hy
      obtain⟨hei0,hei1⟩:=ZB;obtain⟨dn,hdn⟩:∃n,n=sI E q.1 j:=⟨_,rfl⟩;rw[←hdn]at hen hyn⊢;have HZ2:acs (∀(B:Nat) (w':World) (a:Option Addr) (c:Nat),w'.ownsRow B 5 1 (.slice a C1.length c) C1.length (C1.map bv)→Calls Tryz.prog 94 #[.slice a C1.length c,.int .i64 Z6] w' (fB w' C2)):=fun B w' a c h=>by
       rw[hC2,←YD];exact kI a _ c C1 Z6 w' (dN h) (by omega) hei0 (by omega)
      have HZ1:acs (∀(B:Nat) (w':World) (a:Option Addr) (c:Nat) (a':Option Addr) (c':Nat) (S':Nat→Prop),w'.ownsRow B 5 1 (.slice a C0.length c) C0.length (C0.map bv)→ah S' w' a' nm.length (nm.map bv)→Calls Tryz.prog 95 #[.slice a C0.length c,.slice a' nm.length c'] w' (fB w' C1)):=fun B w' a c a' c' S' h h'=>by
       rw[hC1];exact oh a _ c C0 a' _ c' nm w' (dN h) h' (by omega) (by omega)
      have Kr:acs (∀w',Below w.heap.size w w'→w'.cell? ⟨r,2,none⟩=some (.slice (some ⟨bE,oE,none⟩) M cE)∧w'.cell? ⟨bE,oE+j*3+1,none⟩=some (.string (strOf nm))∧w'.cell? ⟨bE,oE+j*3+2,none⟩=some (.int .i64 Z6)):=fun w' hb=>by
       rw[hnme,YD];exact⟨(HC.o w' hb).2.2,(HEC.o w' hb).2.1,(HEC.o w' hb).2.2⟩
      have HYB:=acr hyb;have HYN:=acr hyn;have IU:=acr hBw;clear hp hyb hyn hC0 hC1 hC2 hnme YD hdn hBw;go_wp2_with fail
      go_quiet (fail)
      have Z4:acs (Below w.heap.size w (wr.drewN nq)):=IU.o.trans ⟨rfl,rfl,rfl,Nat.le_refl _,fun _ _=>rfl⟩;have HB7Q:acs (Below w6.heap.size w6 (wr.drewN nq)):=Cn.o.trans ⟨rfl,rfl,rfl,Nat.le_refl _,fun _ _=>rfl⟩;have HO7Q:acs ((wr.drewN nq).ownsRow w6.heap.size 5 1 (.slice a7 C0.length c7) C0.length (C0.map bv)):=own_below WU.o ⟨rfl,rfl,rfl,Nat.le_refl _,fun _ _=>rfl⟩;clear y0 n0 e0 y2 WU IU Cn hBs7;generalize wr.drewN nq=wq at*;have hs7:=HB7Q.o.size;go_wp2_with fail;obtain⟨cn9,wc,hrun,hbc,hltc,ZJ,hcells⟩:=JB wq.drew nm (by omega);have hrow:ah (fun b=>b=wq.heap.size) wc (some ⟨wq.heap.size,0,none⟩) nm.length (nm.map bv):=hcells;have lg:=acr hrow;have hbcw:Below w6.heap.size w6 wc:=HB7Q.o.drew.trans (hbc.mono hs7);have OU:Below w.heap.size w wc:=Z4.o.drew.trans (hbc.mono Z4.o.size);have HOC:acs (wc.ownsRow w6.heap.size 5 1 (.slice a7 C0.length c7) C0.length (C0.map bv)):=own_below (w:=wq.drew) HO7Q.o hbc;clear hcells hrow;refine BP ((fun w'=>w'.cell? ⟨r,2,none⟩=some (.slice (some ⟨bE,oE,none⟩) M cE)∧w'.cell? ⟨bE,oE+j*3+1,none⟩=some (.string (strOf nm))∧w'.cell? ⟨bE,oE+j*3+2,none⟩=some (.int .i64 Z6))) ?_ fun hS=> ?_
      ·exact Kr.o _ Z4.o.drew
      refine aX 0 hS ?_;refine aX 1 hS ?_;refine aX 2 hS ?_;refine aX 3 hS ?_;refine aX 4 hS ?_;refine aX 5 hS ?_;refine aX 6 hS ?_;refine aX 7 hS ?_;refine aX 8 hS ?_;refine aX 11 hS ?_;refine aX 12 hS ?_;refine aX 13 hS ?_;refine aX 14 hS ?_;refine aX 15 hS ?_;refine aX 16 hS ?_;refine aX 17 hS ?_;refine aX 18 hS ?_;refine Bl 9 fun K hK=> ?_;go_simp;refine Ag hK (Kr.o _ OU) fun hS=> ?_;clear hK K;refine Bl 10 fun K hK=> ?_;go_simp;refine(HZ1.o _ _ _ _ _ _ _ HOC.o lg.o).mono ?_;rintro e w8 ⟨a8,c8,rfl,sJ,hb8'⟩;have wE:Below w.heap.size w w8:=OU.trans (hb8'.mono OU.size);have YE:Below w6.heap.size w6 w8:=hbcw.trans (hb8'.mono hbcw.size);have Qn:=acr sJ;clear sJ;go_simp;refine Ag hK (Kr.o _ wE) fun hS=> ?_;clear hK K;refine Bl 19 fun K hK=> ?_;go_simp;refine(HZ2.o _ _ _ _ Qn.o).mono ?_;rintro e w9 ⟨a9,c9,rfl,vP,hb9'⟩;have eH:Below w.heap.size w w9:=wE.trans (hb9'.mono wE.size);have hb96:Below w6.heap.size w6 w9:=YE.trans (hb9'.mono YE.size);have HO9:=acr (vQ vP YE.size);clear vP;go_simp;refine Ag hK (Kr.o _ eH) fun hS=> ?_;clear hK K;refine Bl 20 fun K hK=> ?_;go_simp;refine Ag hK (Kr.o _ eH) fun hS=> ?_;clear hK K;refine Bn ?_;have HB96:=acr hb96;clear hb8' hb9' wE YE eH hb96 hrun hbc hbcw OU;go_wp2_with fail;go_roundw
      case rel=>exact⟨j+1,a9,c9,HJM.o,by go_num,by rw[HYN.o];go_num,by rw[HYB.o],by rw[HYB.o];exact HO9.o,HB96.o⟩
      case measure=>have:=HJM.o;simp[intOf];omega
     ·have hpp:(e.1==q.1)=false:=by simpa using hp
      obtain⟨hyb,hyn⟩:=YC HX.o hp;have HYB:=acr hyb;have HYN:=acr hyn;clear hp hyb hyn hBw;go_wp2_with fail
      go_quiet (fail)
      go_wp2_with fail;go_roundw
      case rel=>exact⟨j+1,a7,c7,HJM.o,by go_num,by rw[HYN.o],by rw[HYB.o],by rw[HYB.o];exact own_below WU.o ⟨rfl,rfl,rfl,Nat.le_refl _,fun _ _=>rfl⟩,Cn.o.trans ⟨rfl,rfl,rfl,Nat.le_refl _,fun _ _=>rfl⟩⟩
      case measure=>have:=HJM.o;simp[intOf];omega
    ·have hd2:decide (j<M)=false:=by simpa using hjm
     obtain rfl:j=M:=by omega
     rw[←HCB.o]at uJ⊢;rw[←HCN.o];have WU:=acr uJ;have IU:=acr hBw;have HO6B:=acr (own_below HO6.o E_);clear uJ E_ hBw hjm hel hen;go_wp2_with fail;refine(HY3.o _ _ _ _ HO6B.o).mono ?_;rintro e w8 ⟨a8,c8,rfl,sJ,wE⟩;have hbw8:Below w.heap.size w w8:=IU.o.trans (wE.mono IU.o.size);have ER:=acr ((dN WU.o).below wE acu);have Qn:=acr (vQ sJ IU.o.size);have uR:=acr hbw8;have HG8:acs (∀b,(Value.slice a8 L3.length c8).ownBlock=some b→w.heap.size≤b):=fun b hb=>M7 (vQ sJ IU.o.size) hb;obtain⟨i8,hi⟩:∃i,Tryz.prog.info? 5=some i∧i.zero=some (.int .u8 0)∧i.size=1∧i.bytes=1:=aam (by kernel_rfl);have HI:=acr hi;have hl3:=HL3.o;obtain⟨n3,TL⟩:∃n,n=L3.length:=⟨_,rfl⟩;obtain⟨n7,hn7⟩:∃n,n=cb.length:=⟨_,rfl⟩;rw[←TL]at hl3 Qn HG8⊢;rw[←hn7]at ER hcbl⊢;have HN3:=acr TL;have HN7:=acr hn7;have BL:=hbw8.size;have hl3i:n3≤L0.length+22+nb:=Nat.le_of_eq hl3;clear sJ wE hbw8 hi TL hn7 hl3;go_wp2_with (at_builtin;go_loud (refine aQ rfl _ _ 28 rfl w.heap.size 5 i8 _ 1 Tryz.underlying28 HI.o.1 HI.o.2.1 HI.o.2.2.1 HI.o.2.2.2 rfl _ n3 (L3.map bv) rfl Qn.o a7 n7 c7 (cb.map bv) rfl ER.o (dV cb) (by unfold maxLen;omega) (by omega) BL ?_;intro A9 c9 u9 vP Z7 _ hat9;have HG9:=acr (dK Z7 HG8.o uR.o);have HO9:=acr vP;clear vP Z7 hat9));go_roundw
     case rel=>
      have e8:(t_ T (k+1)).length=n3+n7:=by rw[qQ.o,List.length_append,HN3.o,HN7.o]
      refine⟨k+1,A9,c9,HKL.o,by go_num,by rw[e8],?_,HG9.o⟩;rw[e8,qQ.o,List.map_append];exact HO9.o
     case measure=>have:=HKL.o;simp only[intOf];omega
  ·have hd1:decide (k<N)=false:=by simpa using hlt
   have HO:=acr hown;have HB:=acr hB;have hkN:T.length≤k:=by have:=jY.o;omega
   have FU:=acr (HSA.o k hkN);clear hown hB hkN;go_wp2_with fail;go_ret;have e1:=FU.o;rw[←e1];exact⟨a,c,rfl,HO.o,HB.o⟩
end
end Go.Proofs.YtjnhnlabpccgjaaGreatDoor
