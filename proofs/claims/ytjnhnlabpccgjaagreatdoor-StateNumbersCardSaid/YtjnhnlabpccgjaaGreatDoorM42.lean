/-  -/
import Derived.Test.YtjnhnlabpccgjaaGreatDoorM40
import Derived.Test.YtjnhnlabpccgjaaGreatDoorM14
import Derived.Test.YtjnhnlabpccgjaaGreatDoorM22
import Derived.Test.YtjnhnlabpccgjaaGreatDoorM21
import Derived.Test.YtjnhnlabpccgjaaGreatDoorM34
import Derived.BigQuiet
import Derived.Deep.QuietTactic
set_option maxRecDepth 100000
set_option maxHeartbeats 64000000
set_option linter.all false
namespace Go.Proofs.YtjnhnlabpccgjaaGreatDoor
open Go.ChangeShapes Go.WideShapes Go.ChangeAt Go.RowKit
theorem vW{w:World}{B B':Nat}{e:TypeId}{k:Nat}{v:Value}{n:Nat}{xs:List Value}(h:w.ownsRow B' e k v n xs)(hb:B≤B'):w.ownsRow B e k v n xs:=by
 obtain⟨h1,h2⟩:=h;refine⟨h1,h2.imp id ?_⟩;rintro ⟨g,cap,cur,e1,e2,e3⟩;exact⟨g,cap,cur,e1,Nat.le_trans hb e2,e3⟩
theorem dF{w:World}{B:Nat}{a:Option Addr}{c:Nat}{bs:List UInt8}(h:w.ownsRow B 5 1 (.slice a bs.length c) bs.length (bs.map bv)):ah (fun x=>B≤x∧x<w.heap.size) w a bs.length (bs.map bv):=(ah.pJ h).2
theorem Yr(k:Int)(x:bP):vI k x=(((((fT k 2++fT x.kind 1)++fT x.links 2)++fT x.b.length 2)++fT x.aA 8)++yR x.closed):=rfl
theorem MZ(k:Int)(x:bP)(h1:NC x)(hk:0≤k)(hk':k≤65535)(w:World):Calls Tryz.prog 96 #[j_ k x] w (gP w (vI k x)):=by
 obtain⟨l0,l1⟩:=h1.links;obtain⟨t0,t1⟩:=h1.aA;have hb:=h1.size;have hkd:0≤x.kind∧x.kind≤2:=by rcases h1.kind with h|h<;>omega
 obtain⟨kd0,kd1⟩:=hkd;rw[Yr];obtain⟨n,hn⟩:∃n:Nat,n=x.b.length:=⟨_,rfl⟩;rw[←hn]at hb;unfold j_;rw[←hn];clear h1 hn;obtain⟨L1,hL1⟩:∃L,L=fT k 2:=⟨_,rfl⟩;have hl1:L1.length=2:=by rw[hL1];rfl
 have jI:acB (∀w':World,Calls Tryz.prog 94 #[.slice none 0 0,.int .i64 k] w' (gP w' L1)):=fun w'=>by rw[hL1];exact lC (S:=fun _=>True) none 0 0 [] k w' (ah.nil _ _ _) (by omega) hk (by omega)
 obtain⟨L2,hL2⟩:∃L,L=L1++fT x.kind 1:=⟨_,rfl⟩;have hl2:L2.length=3:=by rw[hL2,List.length_append,hl1];rfl
 have HS2:acB (∀(B:Nat) (w':World) (a:Option Addr) (c:Nat),w'.ownsRow B 5 1 (.slice a L1.length c) L1.length (L1.map bv)→Calls Tryz.prog 98 #[.slice a L1.length c,.int .i64 x.kind] w' (gP w' L2)):=fun B w' a c h=>by rw[hL2];exact uD a _ c _ x.kind w' (dF h) (by omega) kd0 (by omega)
 obtain⟨L3,hL3⟩:∃L,L=L2++fT x.links 2:=⟨_,rfl⟩;have hl3:L3.length=5:=by rw[hL3,List.length_append,hl2];rfl
 have IE:acB (∀(B:Nat) (w':World) (a:Option Addr) (c:Nat),w'.ownsRow B 5 1 (.slice a L2.length c) L2.length (L2.map bv)→Calls Tryz.prog 94 #[.slice a L2.length c,.int .i64 x.links] w' (gP w' L3)):=fun B w' a c h=>by rw[hL3];exact lC a _ c _ x.links w' (dF h) (by omega) l0 (by omega)
 obtain⟨L4,hL4⟩:∃L,L=L3++fT (n:Int) 2:=⟨_,rfl⟩;have hl4:L4.length=7:=by rw[hL4,List.length_append,hl3];rfl
 have jk:acB (∀(B:Nat) (w':World) (a:Option Addr) (c:Nat),w'.ownsRow B 5 1 (.slice a L3.length c) L3.length (L3.map bv)→Calls Tryz.prog 94 #[.slice a L3.length c,.int .i64 (n:Int)] w' (gP w' L4)):=fun B w' a c h=>by rw[hL4];exact lC a _ c _ (n:Int) w' (dF h) (by omega) (by omega) (by omega)
 obtain⟨L5,hL5⟩:∃L,L=L4++fT x.aA 8:=⟨_,rfl⟩;have hl5:L5.length=15:=by rw[hL5,List.length_append,hl4];rfl
 have dB:acB (∀(B:Nat) (w':World) (a:Option Addr) (c:Nat),w'.ownsRow B 5 1 (.slice a L4.length c) L4.length (L4.map bv)→Calls Tryz.prog 53 #[.slice a L4.length c,.int .u64 x.aA] w' (gP w' L5)):=fun B w' a c h=>by rw[hL5];exact oC a _ c _ x.aA w' (dF h) (by omega) t0 (by omega)
 obtain⟨L6,hL6⟩:∃L,L=L5++yR x.closed:=⟨_,rfl⟩;have hl6:L6.length=16:=by rw[hL6,List.length_append,hl5];rfl
 have lg:acB (∀(B:Nat) (w':World) (a:Option Addr) (c:Nat),w'.ownsRow B 5 1 (.slice a L5.length c) L5.length (L5.map bv)→Calls Tryz.prog 172 #[.slice a L5.length c,.bool x.closed] w' (gP w' L6)):=fun B w' a c h=>by rw[hL6];exact MU a _ c _ x.closed w' (dF h) (by omega)
 rw[←hL1,←hL2,←hL3,←hL4,←hL5,←hL6];clear hL6 hL5 hL4 hL3 hL2 hL1;clear hl1 hl2 hl3 hl4 hl5 hl6;have HQ:acB (∀w',Below (w.alloc (.cells #[.int .i64 k,.int .i64 x.kind,.int .i64 x.links,.int .i64 (n:Int),.int .u64 x.aA,.bool x.closed] 39)).heap.size (w.alloc (.cells #[.int .i64 k,.int .i64 x.kind,.int .i64 x.links,.int .i64 (n:Int),.int .u64 x.aA,.bool x.closed] 39)) w'→∀j,w'.cell? ⟨w.heap.size,j,none⟩=(#[.int .i64 k,.int .i64 x.kind,.int .i64 x.links,.int .i64 (n:Int),.int .u64 x.aA,.bool x.closed]:Array Value)[j]?):=fun w' hb j=>by
  rw[hb.cell (p:=⟨w.heap.size,j,none⟩) (by simp)];exact jS (MapKept.heap_alloc w _).1 j
 have J4:=acA (wall w (.cells #[.int .i64 k,.int .i64 x.kind,.int .i64 x.links,.int .i64 (n:Int),.int .u64 x.aA,.bool x.closed] 39));go_enter Tryz.func96,Tryz.ntmps96;go_wp2_with fail;generalize (w.alloc (.cells #[.int .i64 k,.int .i64 x.kind,.int .i64 x.links,.int .i64 (n:Int),.int .u64 x.aA,.bool x.closed] 39))=wa at*;have hza:=J4.o.size;refine yG ((fun w'=>w'.cell? ⟨w.heap.size,0,none⟩=some (.int .i64 k)∧w'.cell? ⟨w.heap.size,1,none⟩=some (.int .i64 x.kind)∧w'.cell? ⟨w.heap.size,2,none⟩=some (.int .i64 x.links))) ?_ fun hS=> ?_
 ·exact⟨HQ.o _ acD.drew 0,HQ.o _ acD.drew 1,HQ.o _ acD.drew 2⟩
 refine aP 0 hS ?_;refine aP 1 hS ?_;refine aP 3 hS ?_;refine aP 4 hS ?_;refine aP 6 hS ?_;refine aP 7 hS ?_;refine qh 2 fun K hK=> ?_;go_simp;refine(jI.o _).mono ?_;rintro e w1 ⟨a1,c1,rfl,hown1,hb1'⟩;have hb1:Below wa.heap.size wa w1:=acD.drew.trans hb1';go_simp;refine pW hK (⟨HQ.o _ hb1 0,HQ.o _ hb1 1,HQ.o _ hb1 2⟩) fun hS=> ?_;clear hK K;refine qh 5 fun K hK=> ?_;go_simp;refine(HS2.o _ _ _ _ hown1).mono ?_;rintro e w2 ⟨a2,c2,rfl,hown2,hb2'⟩;have hb2:Below wa.heap.size wa w2:=hb1.trans (hb2'.mono hb1.size);go_simp;refine pW hK (⟨HQ.o _ hb2 0,HQ.o _ hb2 1,HQ.o _ hb2 2⟩) fun hS=> ?_;clear hK K;refine qh 8 fun K hK=> ?_;go_simp;refine(IE.o _ _ _ _ hown2).mono ?_;rintro e w3 ⟨a3,c3,rfl,hown3,Qt⟩;have hb3:Below wa.heap.size wa w3:=hb2.trans (Qt.mono hb2.size);go_simp;refine pW hK (⟨HQ.o _ hb3 0,HQ.o _ hb3 1,HQ.o _ hb3 2⟩) fun hS=> ?_;clear hK K;refine qh 9 fun K hK=> ?_;go_simp;refine pW hK (⟨HQ.o _ hb3 0,HQ.o _ hb3 1,HQ.o _ hb3 2⟩) fun hS=> ?_;clear hK K;refine xW ?_;go_wp2_with fail;have hown3d:w3.drew.ownsRow w2.heap.size 5 1 (.slice a3 L3.length c3) L3.length (L3.map bv):=hown3;refine yG ((fun w'=>w'.cell? ⟨w.heap.size,3,none⟩=some (.int .i64 (n:Int))∧w'.cell? ⟨w.heap.size,4,none⟩=some (.int .u64 x.aA)∧w'.cell? ⟨w.heap.size,5,none⟩=some (.bool x.closed))) ?_ fun hS=> ?_
 ·exact⟨HQ.o _ hb3.drew 3,HQ.o _ hb3.drew 4,HQ.o _ hb3.drew 5⟩
 refine aP 0 hS ?_;refine aP 1 hS ?_;refine aP 2 hS ?_;refine aP 4 hS ?_;refine aP 5 hS ?_;refine aP 7 hS ?_;refine aP 8 hS ?_;refine qh 3 fun K hK=> ?_;go_simp;refine(jk.o _ _ _ _ hown3d).mono ?_;rintro e w4 ⟨a4,c4,rfl,kL,G_⟩;have hb4:Below wa.heap.size wa w4:=hb3.drew.trans (G_.mono hb3.size);go_simp;refine pW hK (⟨HQ.o _ hb4 3,HQ.o _ hb4 4,HQ.o _ hb4 5⟩) fun hS=> ?_;clear hK K;refine qh 6 fun K hK=> ?_;go_simp;refine(dB.o _ _ _ _ kL).mono ?_;rintro e w5 ⟨a5,c5,rfl,hown5,Yt⟩;have hb5:Below wa.heap.size wa w5:=hb4.trans (Yt.mono hb4.size);go_simp;refine pW hK (⟨HQ.o _ hb5 3,HQ.o _ hb5 4,HQ.o _ hb5 5⟩) fun hS=> ?_;clear hK K;refine qh 9 fun K hK=> ?_;go_simp;refine(lg.o _ _ _ _ hown5).mono ?_;rintro e w6 ⟨a6,c6,rfl,hown6,Yu⟩;have hb6:Below wa.heap.size wa w6:=hb5.trans (Yu.mono hb5.size);go_simp;refine pW hK (⟨HQ.o _ hb6 3,HQ.o _ hb6 4,HQ.o _ hb6 5⟩) fun hS=> ?_;clear hK K;refine qh 10 fun K hK=> ?_;go_simp;refine pW hK (⟨HQ.o _ hb6 3,HQ.o _ hb6 4,HQ.o _ hb6 5⟩) fun hS=> ?_;clear hK K;refine xW ?_;go_wp2_with fail;go_ret;exact⟨a6,c6,rfl,vW hown6 (by have:=hb5.size;have:=J4.o.size;omega),J4.o.trans (hb6.mono J4.o.size)⟩
def Yv(e:kJ):List UInt8:=sN e.2.1++fT e.2.2 2
def pX(E:List kJ)(id:Int)(k:Nat):List UInt8:=((E.take k).filter fun e=>decide (e.1=id)).flatMap Yv
def tF(E:List kJ)(id:Int)(k:Nat):Nat:=((E.take k).filter fun e=>decide (e.1=id)).length
theorem Vf{E:List kJ}{id:Int}{k:Nat}{e:kJ}(hx:E[k]? =some e)(he:e.1=id):pX E id (k+1)=pX E id k++sN e.2.1++fT e.2.2 2∧tF E id (k+1)=tF E id k+1:=by
 obtain⟨hk,h⟩:=aae.1 hx;unfold pX tF;rw[aah hk,aaZ,h];simp[he,Yv]
theorem Yw{E:List kJ}{id:Int}{k:Nat}{e:kJ}(hx:E[k]? =some e)(he:e.1≠id):pX E id (k+1)=pX E id k∧tF E id (k+1)=tF E id k:=by
 obtain⟨hk,h⟩:=aae.1 hx;unfold pX tF;rw[aah hk,aaZ,h];simp[he]
theorem Vg{T:aL}{id:Int}{x:bP}(hs:aT lI T)(hx:aj id T=some x){k:Nat}(hk:(aX T).length≤k):pX (aX T) id k=x.names.flatMap V8∧tF (aX T) id k=x.names.length:=by
 unfold pX tF;rw[List.take_of_length_le hk,Hq hs hx,List.length_map,List.flatMap_map];exact⟨rfl,rfl⟩
theorem QM{E:List kJ}(hg:∀e∈E,e.2.1.length≤16)(id:Int)(k:Nat):(pX E id k).length≤20*k∧tF E id k≤k:=by
 have h2:(E.take k).length≤k:=List.length_take_le _ _;have h3:=aaY (fun e:kJ=>decide (e.1=id)) (E.take k);refine⟨?_,by unfold tF;omega⟩;have h1:∀L:List kJ,(∀e∈L,e.2.1.length≤16)→(L.flatMap Yv).length≤20*L.length:=fun L hL=>by
  induction L with
  |nil=>simp
  |cons e r ih=>
   have h4:=hL e (by simp);have h5:=ih fun y hy=>hL y (by simp[hy]);simp only[List.flatMap_cons,List.length_append,List.length_cons,Yv,nK,bT];omega
 have h6:=h1 ((E.take k).filter fun e=>decide (e.1=id)) fun e he=>hg e (List.mem_of_mem_take (aaH.1 he).1);unfold pX;omega
def uE(T:aL)(k:Nat):List UInt8:=fT T.length 2++(T.take k).flatMap fun q=>rT q.1 q.2
theorem QN{T:aL}{k:Nat}{q:Int×bP}(hx:T[k]? =some q):uE T (k+1)=uE T k++rT q.1 q.2:=by
 obtain⟨hk,h⟩:=aae.1 hx;unfold uE;rw[aah hk,aaX,h,List.flatMap_cons,List.flatMap_nil,aaE,aau]
theorem Vh{T:aL}{k:Nat}(hk:T.length≤k):uE T k=gV T:=by
 unfold uE gV;rw[List.take_of_length_le hk]
theorem Vi{T:aL}(hT:dG T)(k:Nat):(uE T k).length≤6000000:=by
 have h1:=qB hT (T.take k) (fun q hq=>List.mem_of_mem_take hq);have h2:=hT.len;have h3:(T.take k).length≤T.length:=by rw[aan];omega
 unfold uE;rw[List.length_append,bT];omega
section
variable{F:Nat→Prop}{r:Nat}{T:aL}
theorem Gc(w:World)(h:jW F w r T)(hT:dG T):Calls Tryz.prog 35 #[ptr r] w (gP w (gV T)):=by
 obtain⟨aN,cN,aD,cD,aE,cE,h1,h2,h3,h4,hN,hD,hE,-⟩:=h.head;have hrw:=h.low r h.own;have hlen:=hT.len;have hef:=jw hT;have HT:=acA hT;have HG:acB (∀e∈aX T,e.2.1.length≤16):=fun e he=>by
  obtain⟨q,hq,hk,hm⟩:=Ho he;exact rU ((hT.each _ _ (cK fC hT.sorted hq)).good _ hm)
 have HSA:acB (∀k,T.length≤k→uE T k=gV T):=fun k hk=>Vh hk;have hdl:(T.map fun q=>q.2.b).length=T.length:=List.length_map _;rw[hdl]at h1 h3;obtain⟨N,hNe⟩:∃N,N=T.length:=⟨_,rfl⟩;obtain⟨E,hEe⟩:∃E,E=aX T:=⟨_,rfl⟩;rw[←hEe]at h1 h4 hE hef HG;obtain⟨M,hMe⟩:∃M,M=E.length:=⟨_,rfl⟩;rw[←hNe]at h1 h2 h3 hN hlen;rw[←hMe]at h1 h4 hE hef;have lG:=acA hNe;have IC:=acA hMe;have HEE:=acA hEe;have HRN:=acA hN;have uY:=acA hD;have sU:=acA hE;have HC:acB (∀w',Below w.heap.size w w'→w'.cell? ⟨r,0,none⟩=some (.slice aN N cN)∧w'.cell? ⟨r,1,none⟩=some (.slice aD N cD)∧w'.cell? ⟨r,2,none⟩=some (.slice aE M cE)):=fun w' hb=>by
  have hh:=(hb.block r hrw).trans h1;refine⟨?_,?_,?_⟩<;>simp[World.cell?,hh]
 have c0:=(HC.o w acD).1;have HS0:acB (∀w':World,Calls Tryz.prog 94 #[.slice none 0 0,.int .i64 (N:Int)] w' (gP w' (uE T 0))):=fun w'=>by
  have e1:uE T 0=[]++fT (N:Int) 2:=by unfold uE;rw[hNe];simp
  rw[e1];exact lC (S:=fun _=>True) none 0 0 [] (N:Int) w' (ah.nil _ _ _) (by omega) (by omega) (by omega)
 clear h hT h1 hN hD hE hdl hNe hMe hEe;go_enter Tryz.func35,Tryz.ntmps35;go_wp2_with fail;refine(HS0.o _).mono ?_;rintro e w1 ⟨a1,c1,rfl,hown1,hb1⟩;have uO:=acA hown1;have HB1:=acA hb1;clear hown1 hb1 c0;go_wp2_with fail
 go_loopw [3,4] (fun bvv iv wr=>∃(k:Nat) (a:Option Addr) (c:Nat),k≤N∧iv= .int .i64 k∧bvv= .slice a (uE T k).length c∧wr.ownsRow w.heap.size 5 1 (.slice a (uE T k).length c) (uE T k).length ((uE T k).map bv)∧Below w.heap.size w wr) (fun _ iv _=>N-(intOf iv).toNat)
 case atStart=>exact⟨0,a1,c1,Nat.zero_le _,rfl,rfl,uO.o,HB1.o⟩
 case round=>
  obtain⟨k,a,c,hk,rfl,rfl,hown,hB⟩:=hrel;have UA:=hB.size;have c0:=(HC.o _ hB).1;by_cases hlt:k<N
  ·have hd1:decide (k<N)=true:=by simpa using hlt
   have hx:T[k]? =some (T[k]'(by have:=lG.o;omega)):=List.getElem?_eq_getElem _;obtain⟨q,hq⟩:∃q,q=T[k]'(by have:=lG.o;omega):=⟨_,rfl⟩;rw[←hq]at hx;have HX:=acA hx;have hgq:aj q.1 T=some q.2:=cK fC HT.o.sorted (aax hx);have hok:=HT.o.each _ _ hgq;obtain⟨id0,id1⟩:=HT.o.ids _ _ hgq;have hsz:=hok.size;obtain⟨bN,oN,rfl,-,hbN,-,hcN⟩:=HRN.o.wide ig lG.o.symm hx (by omega);have HNC:acB (∀w',Below w.heap.size w w'→w'.cell? ⟨bN,oN+k*6,none⟩=some (.int .i64 q.1)∧w'.cell? ⟨bN,oN+k*6+1,none⟩=some (.int .i64 q.2.kind)∧w'.cell? ⟨bN,oN+k*6+2,none⟩=some (.int .i64 q.2.links)∧w'.cell? ⟨bN,oN+k*6+3,none⟩=some (.int .i64 q.2.b.length)∧w'.cell? ⟨bN,oN+k*6+4,none⟩=some (.int .u64 q.2.aA)∧w'.cell? ⟨bN,oN+k*6+5,none⟩=some (.bool q.2.closed)):=fun w' hb=>by
    have hc:=fun j hj=>(hb.cell (p:=⟨bN,oN+k*6+j,none⟩) hbN).trans (hcN j hj);exact⟨hc 0 (by omega),hc 1 (by omega),hc 2 (by omega),hc 3 (by omega),hc 4 (by omega),hc 5 (by omega)⟩
   obtain⟨vs,hvr,hve⟩:=uY.o;obtain⟨aB,cB,hvk,hcap,hrb⟩:=hve k q.2.b (by rw[List.getElem?_map,hx];rfl);obtain⟨bD,oD,rfl,-,hbD,hcD⟩:=hvr.at_ (by rw[List.length_map,←lG.o];omega);have Wn:acB (∀w',Below w.heap.size w w'→w'.cell? ⟨bD,oD+k,none⟩=some (.slice aB q.2.b.length cB)):=fun w' hb=>
    ((hb.cell (p:=⟨bD,oD+k,none⟩) hbD).trans (hcD k (by rw[List.length_map,←lG.o];omega))).trans hvk
   have Zu:acB (∀w',Below w.heap.size w w'→ah (Off F r) w' aB q.2.b.length (q.2.b.map bv)):=fun w' hb=>hrb.below hb acC;have hl0:=Vi HT.o k;obtain⟨L0,hL0⟩:∃L,L=uE T k:=⟨_,rfl⟩;rw[←hL0]at hown hl0⊢;obtain⟨EN,hEN⟩:∃L,L=vI q.1 q.2:=⟨_,rfl⟩;have hle:EN.length=16:=by rw[hEN];exact nJ _ _
   obtain⟨L1,hL1⟩:∃L,L=L0++sN EN:=⟨_,rfl⟩;have hl1:L1.length=L0.length+18:=by rw[hL1,List.length_append,nK,hle]
   obtain⟨L2,hL2⟩:∃L,L=L1++sN q.2.b:=⟨_,rfl⟩;obtain⟨nb,hnb⟩:∃n,n=q.2.b.length:=⟨_,rfl⟩;rw[←hnb]at hsz HNC Wn Zu;have hl2:L2.length=L0.length+20+nb:=by rw[hL2,List.length_append,nK,hl1,←hnb];omega
   have Wh:acB (∀w':World,Calls Tryz.prog 96 #[.agg #[.int .i64 q.1,.int .i64 q.2.kind,.int .i64 q.2.links,.int .i64 nb,.int .u64 q.2.aA,.bool q.2.closed]] w' (gP w' EN)):=fun w'=>by
    rw[hEN,hnb];exact MZ q.1 q.2 hok id0 id1 w'
   have Pm:acB (∀(B B':Nat) (w':World) (a a':Option Addr) (c c':Nat),w'.ownsRow B 5 1 (.slice a L0.length c) L0.length (L0.map bv)→w'.ownsRow B' 5 1 (.slice a' EN.length c') EN.length (EN.map bv)→Calls Tryz.prog 95 #[.slice a L0.length c,.slice a' EN.length c'] w' (gP w' L1)):=fun B B' w' a a' c c' h h'=>by
    rw[hL1];exact oZ a _ c L0 a' _ c' EN w' (dF h) (dF h') (by omega) (by omega)
   have HY2:acB (∀(B:Nat) (w':World) (a:Option Addr) (c:Nat),w'.ownsRow B 5 1 (.slice a L1.length c) L1.length (L1.map bv)→Below w.heap.size w w'→Calls Tryz.prog 95 #[.slice a L1.length c,.slice aB nb cB] w' (gP w' L2)):=fun B w' a c h hb=>by
    rw[hL2];have h9:=oZ a _ c L1 aB nb cB q.2.b w' (dF h) (Zu.o w' hb) (by omega) (by omega);rw[hnb]at h9⊢;exact h9
   have HCE:=acA (Vg HT.o.sorted hgq (k:=M) (by rw[IC.o,HEE.o];exact Nat.le_refl _));rw[←HEE.o]at HCE;have HEL:=acA (fun j=>QM HG.o q.1 j);obtain⟨cb,hcb⟩:∃L,L=pX E q.1 M:=⟨_,rfl⟩;obtain⟨cn,hcn⟩:∃n,n=tF E q.1 M:=⟨_,rfl⟩;obtain⟨hcbl,hcnl⟩:=HEL.o M;rw[←hcb]at hcbl;rw[←hcn]at hcnl;obtain⟨L3,hL3⟩:∃L,L=L2++fT (cn:Int) 2:=⟨_,rfl⟩;have hl3:L3.length=L0.length+22+nb:=by rw[hL3,List.length_append,bT,hl2];omega
   have HY3:acB (∀(B:Nat) (w':World) (a:Option Addr) (c:Nat),w'.ownsRow B 5 1 (.slice a L2.length c) L2.length (L2.map bv)→Calls Tryz.prog 94 #[.slice a L2.length c,.int .i64 (cn:Int)] w' (gP w' L3)):=fun B w' a c h=>by
    rw[hL3];exact lC a _ c L2 (cn:Int) w' (dF h) (by omega) (by omega) (by omega)
   have nD:acB (uE T (k+1)=L3++cb):=by
    show uE T (k+1)=L3++cb;rw[QN hx,←hL0,hL3,hL2,hL1,hEN,hcb,hcn,HCE.o.1,HCE.o.2];unfold rT;simp only[aau]
   have HO:=acA hown;have HB:=acA hB;have HKL:=acA hlt;have HL3:=acA hl3;have HL2:=acA hl2;have HCB:=acA hcb;have HCN:=acA hcn;have hk0:(0:Int)≤(k:Int):=by omega
   have hk1:(k:Int)<(N:Int):=by omega
   have hl0':=hl0;have HH:acB (∀w',Below w.heap.size w w'→w'.cell? ⟨r,0,none⟩=some (.slice (some ⟨bN,oN,none⟩) N cN)∧w'.cell? ⟨r,1,none⟩=some (.slice (some ⟨bD,oD,none⟩) N cD)∧w'.cell? ⟨bN,oN+k*6,none⟩=some (.int .i64 q.1)∧w'.cell? ⟨bN,oN+k*6+1,none⟩=some (.int .i64 q.2.kind)∧w'.cell? ⟨bN,oN+k*6+2,none⟩=some (.int .i64 q.2.links)∧w'.cell? ⟨bN,oN+k*6+3,none⟩=some (.int .i64 nb)∧w'.cell? ⟨bN,oN+k*6+4,none⟩=some (.int .u64 q.2.aA)∧w'.cell? ⟨bN,oN+k*6+5,none⟩=some (.bool q.2.closed)∧w'.cell? ⟨bD,oD+k,none⟩=some (.slice aB nb cB)):=fun w' hb=>by
    obtain⟨y0,y1,-⟩:=HC.o w' hb;obtain⟨n0,n1,n2,n3,n4,n5⟩:=HNC.o w' hb;exact⟨y0,y1,n0,n1,n2,n3,n4,n5,Wn.o w' hb⟩
   clear hx hq hgq hok hvr hve hvk hcap hrb hcD hcN hL0 hEN hle hL1 hl1 hL2 hl2 hnb hcb hcn hL3 hl3 hown hB hlt hl0;go_wp2_with fail;refine yG ((fun w'=>w'.cell? ⟨r,0,none⟩=some (.slice (some ⟨bN,oN,none⟩) N cN)∧w'.cell? ⟨r,1,none⟩=some (.slice (some ⟨bD,oD,none⟩) N cD)∧w'.cell? ⟨bN,oN+k*6,none⟩=some (.int .i64 q.1)∧w'.cell? ⟨bN,oN+k*6+1,none⟩=some (.int .i64 q.2.kind)∧w'.cell? ⟨bN,oN+k*6+2,none⟩=some (.int .i64 q.2.links)∧w'.cell? ⟨bN,oN+k*6+3,none⟩=some (.int .i64 nb)∧w'.cell? ⟨bN,oN+k*6+4,none⟩=some (.int .u64 q.2.aA)∧w'.cell? ⟨bN,oN+k*6+5,none⟩=some (.bool q.2.closed)∧w'.cell? ⟨bD,oD+k,none⟩=some (.slice aB nb cB))) ?_ fun hS=> ?_
   ·exact HH.o _ HB.o.drew
   refine aP 0 hS ?_;refine aP 1 hS ?_;refine aP 2 hS ?_;refine aP 3 hS ?_;refine aP 4 hS ?_;refine aP 5 hS ?_;refine aP 6 hS ?_;refine aP 7 hS ?_;refine aP 10 hS ?_;refine aP 11 hS ?_;refine aP 12 hS ?_;refine aP 13 hS ?_;refine aP 14 hS ?_;refine aP 15 hS ?_;refine aP 16 hS ?_;refine qh 8 fun K hK=> ?_;go_simp;refine(Wh.o _).mono ?_;rintro e w4 ⟨a4,c4,rfl,kL,G_⟩;have hb4:Below w.heap.size w w4:=HB.o.drew.trans (G_.mono UA);have L_:=acA kL;have Yf:=acA (own_below (w:=wr.drew) (w':=w4) HO.o G_);clear kL;go_simp;refine pW hK (HH.o _ hb4) fun hS=> ?_;clear hK K;refine qh 9 fun K hK=> ?_;go_simp;refine(Pm.o _ _ _ _ _ _ _ Yf.o L_.o).mono ?_;rintro e w5 ⟨a5,c5,rfl,hown5,Yt⟩;have hb5:Below w.heap.size w w5:=hb4.trans (Yt.mono hb4.size);have JL:=acA hown5;clear hown5;go_simp;refine pW hK (HH.o _ hb5) fun hS=> ?_;clear hK K;refine qh 17 fun K hK=> ?_;go_simp;refine(HY2.o _ _ _ _ JL.o hb5).mono ?_;rintro e w6 ⟨a6,c6,rfl,hown6,Yu⟩;have hb6:Below w.heap.size w w6:=hb5.trans (Yu.mono hb5.size);have RA:=acA (vW hown6 (Nat.zero_le _));clear hown6;go_simp;refine pW hK (HH.o _ hb6) fun hS=> ?_;clear hK K;refine qh 18 fun K hK=> ?_;go_simp;refine pW hK (HH.o _ hb6) fun hS=> ?_;clear hK K;refine xW ?_;have mM:=acA hb6;have hs6:=hb6.size;clear G_ Yt Yu hb4 hb5 hb6;go_wp2_with fail;obtain⟨wo,rfl⟩:∃wo:World,wo=wr:=⟨_,rfl⟩
   go_loopw [5,6,7] (fun nv lv kv wr=>∃(j:Nat) (a:Option Addr) (c:Nat),j≤M∧kv= .int .i64 j∧nv= .int .i64 (tF E q.1 j)∧lv= .slice a (pX E q.1 j).length c∧wr.ownsRow w6.heap.size 5 1 (.slice a (pX E q.1 j).length c) (pX E q.1 j).length ((pX E q.1 j).map bv)∧Below w6.heap.size w6 wr) (fun _ _ kv _=>M-(intOf kv).toNat)
   case atStart=>exact⟨0,none,0,Nat.zero_le _,rfl,rfl,rfl,⟨rfl,.inl ⟨rfl,rfl⟩⟩,Below.refl _ _⟩
   case round=>
    obtain⟨j,a7,c7,hj,rfl,rfl,rfl,qO,EJ⟩:=hrel;have hBs7:=EJ.size;have hBw:Below w.heap.size w wr:=mM.o.trans (EJ.mono hs6);have y2:=(HC.o _ hBw).2.2;obtain⟨hel,hen⟩:=HEL.o j;by_cases hjm:j<M
    ·have hd2:decide (j<M)=true:=by simpa using hjm
     have hx:E[j]? =some (E[j]'(by have:=IC.o;omega)):=List.getElem?_eq_getElem _;obtain⟨e,he⟩:∃e,e=E[j]'(by have:=IC.o;omega):=⟨_,rfl⟩;rw[←he]at hx;have hnm:=HG.o e (aax hx);obtain⟨bE,oE,rfl,-,hbE,-,hcE⟩:=sU.o.wide kg IC.o.symm hx (by omega);have HEC:acB (∀w',Below w.heap.size w w'→w'.cell? ⟨bE,oE+j*3,none⟩=some (.int .i64 e.1)∧w'.cell? ⟨bE,oE+j*3+1,none⟩=some (.string (strOf e.2.1))∧w'.cell? ⟨bE,oE+j*3+2,none⟩=some (.int .i64 e.2.2)):=fun w' hb=>by
      have hc:=fun i hi=>(hb.cell (p:=⟨bE,oE+j*3+i,none⟩) hbE).trans (hcE i hi);exact⟨hc 0 (by omega),hc 1 (by omega),hc 2 (by omega)⟩
     have y0:=(HH.o _ hBw).1;have n0:=(HH.o _ hBw).2.2.1;have e0:=(HEC.o _ hBw).1;have HJM:=acA hjm;have hj0:(0:Int)≤(j:Int):=by omega
     have hj1:(j:Int)<(M:Int):=by omega
     have Rz:=acA qO;have wZ:=acA EJ;have HX:=acA hx;clear qO EJ hx he hcE hjm;by_cases hp:e.1=q.1
     ·have hpp:(e.1==q.1)=true:=by simpa using hp
      obtain⟨hyb,hyn⟩:=Vf HX.o hp;obtain⟨C0,hC0⟩:∃L,L=pX E q.1 j:=⟨_,rfl⟩;obtain⟨C1,Zn⟩:∃L,L=C0++sN e.2.1:=⟨_,rfl⟩;obtain⟨C2,hC2⟩:∃L,L=C1++fT e.2.2 2:=⟨_,rfl⟩;rw[←hC0,←Zn,←hC2]at hyb;rw[←hC0]at hel Rz⊢;obtain⟨nm,hnme⟩:∃nm,nm=e.2.1:=⟨_,rfl⟩;rw[←hnme]at hnm Zn;have hlc1:C1.length≤20*j+18:=by rw[Zn,List.length_append,nK];omega
      obtain⟨Zw,Yx⟩:∃Zw,Zw=e.2.2:=⟨_,rfl⟩;have hei:0≤Zw∧Zw≤65535:=by
       have hm:e∈aX T:=by rw[←HEE.o];exact aax HX.o
       obtain⟨x,hx1,hx2⟩:=(mJ HT.o.sorted).1 hm;obtain⟨y,hy⟩:=aaf.1 (HT.o.leads _ x hx1 e.2 hx2).1;rw[Yx];exact HT.o.ids _ _ hy
      obtain⟨hei0,hei1⟩:=hei;obtain⟨dn,hdn⟩:∃n,n=tF E q.1 j:=⟨_,rfl⟩;rw[←hdn]at hen hyn⊢;have HZ2:acB (∀(B:Nat) (w':World) (a:Option Addr) (c:Nat),w'.ownsRow B 5 1 (.slice a C1.length c) C1.length (C1.map bv)→Calls Tryz.prog 94 #[.slice a C1.length c,.int .i64 Zw] w' (gP w' C2)):=fun B w' a c h=>by
       rw[hC2,←Yx];exact lC a _ c C1 Zw w' (dF h) (by omega) hei0 (by omega)
      have HZ1:acB (∀(B:Nat) (w':World) (a:Option Addr) (c:Nat) (a':Option Addr) (c':Nat) (S':Nat→Prop),w'.ownsRow B 5 1 (.slice a C0.length c) C0.length (C0.map bv)→ah S' w' a' nm.length (nm.map bv)→Calls Tryz.prog 95 #[.slice a C0.length c,.slice a' nm.length c'] w' (gP w' C1)):=fun B w' a c a' c' S' h h'=>by
       rw[Zn];exact oZ a _ c C0 a' _ c' nm w' (dF h) h' (by omega) (by omega)
      have Ry:acB (∀w',Below w.heap.size w w'→w'.cell? ⟨r,2,none⟩=some (.slice (some ⟨bE,oE,none⟩) M cE)∧w'.cell? ⟨bE,oE+j*3+1,none⟩=some (.string (strOf nm))∧w'.cell? ⟨bE,oE+j*3+2,none⟩=some (.int .i64 Zw)):=fun w' hb=>by
       rw[hnme,Yx];exact⟨(HC.o w' hb).2.2,(HEC.o w' hb).2.1,(HEC.o w' hb).2.2⟩
      have HYB:=acA hyb;have ZX:=acA hyn;have G7:=acA hBw;clear hp hyb hyn hC0 Zn hC2 hnme Yx hdn hBw;go_wp2_with fail
      go_quiet (fail)
      have LW:acB (Below w.heap.size w (wr.drewN nq)):=G7.o.trans ⟨rfl,rfl,rfl,Nat.le_refl _,fun _ _=>rfl⟩;have HB7Q:acB (Below w6.heap.size w6 (wr.drewN nq)):=wZ.o.trans ⟨rfl,rfl,rfl,Nat.le_refl _,fun _ _=>rfl⟩;have HO7Q:acB ((wr.drewN nq).ownsRow w6.heap.size 5 1 (.slice a7 C0.length c7) C0.length (C0.map bv)):=own_below Rz.o ⟨rfl,rfl,rfl,Nat.le_refl _,fun _ _=>rfl⟩;clear y0 n0 e0 y2 Rz G7 wZ hBs7;generalize wr.drewN nq=wq at*;have hs7:=HB7Q.o.size;go_wp2_with fail;obtain⟨cn9,wc,hrun,hbc,hltc,Za,hcells⟩:=JC wq.drew nm (by omega);have hrow:ah (fun b=>b=wq.heap.size) wc (some ⟨wq.heap.size,0,none⟩) nm.length (nm.map bv):=hcells;have iL:=acA hrow;have hbcw:Below w6.heap.size w6 wc:=HB7Q.o.drew.trans (hbc.mono hs7);have Ol:Below w.heap.size w wc:=LW.o.drew.trans (hbc.mono LW.o.size);have HOC:acB (wc.ownsRow w6.heap.size 5 1 (.slice a7 C0.length c7) C0.length (C0.map bv)):=own_below (w:=wq.drew) HO7Q.o hbc;clear hcells hrow;refine yG ((fun w'=>w'.cell? ⟨r,2,none⟩=some (.slice (some ⟨bE,oE,none⟩) M cE)∧w'.cell? ⟨bE,oE+j*3+1,none⟩=some (.string (strOf nm))∧w'.cell? ⟨bE,oE+j*3+2,none⟩=some (.int .i64 Zw))) ?_ fun hS=> ?_
      ·exact Ry.o _ LW.o.drew
      refine aP 0 hS ?_;refine aP 1 hS ?_;refine aP 2 hS ?_;refine aP 3 hS ?_;refine aP 4 hS ?_;refine aP 5 hS ?_;refine aP 6 hS ?_;refine aP 7 hS ?_;refine aP 8 hS ?_;refine aP 11 hS ?_;refine aP 12 hS ?_;refine aP 13 hS ?_;refine aP 14 hS ?_;refine aP 15 hS ?_;refine aP 16 hS ?_;refine aP 17 hS ?_;refine aP 18 hS ?_;refine qh 9 fun K hK=> ?_;go_simp;refine pW hK (Ry.o _ Ol) fun hS=> ?_;clear hK K;refine qh 10 fun K hK=> ?_;go_simp;refine(HZ1.o _ _ _ _ _ _ _ HOC.o iL.o).mono ?_;rintro e w8 ⟨a8,c8,rfl,sV,hb8'⟩;have sP:Below w.heap.size w w8:=Ol.trans (hb8'.mono Ol.size);have Yy:Below w6.heap.size w6 w8:=hbcw.trans (hb8'.mono hbcw.size);have zL:=acA sV;clear sV;go_simp;refine pW hK (Ry.o _ sP) fun hS=> ?_;clear hK K;refine qh 19 fun K hK=> ?_;go_simp;refine(HZ2.o _ _ _ _ zL.o).mono ?_;rintro e w9 ⟨a9,c9,rfl,nS,hb9'⟩;have cO:Below w.heap.size w w9:=sP.trans (hb9'.mono sP.size);have hb96:Below w6.heap.size w6 w9:=Yy.trans (hb9'.mono Yy.size);have TA:=acA (vW nS Yy.size);clear nS;go_simp;refine pW hK (Ry.o _ cO) fun hS=> ?_;clear hK K;refine qh 20 fun K hK=> ?_;go_simp;refine pW hK (Ry.o _ cO) fun hS=> ?_;clear hK K;refine xW ?_;have HB96:=acA hb96;clear hb8' hb9' sP Yy cO hb96 hrun hbc hbcw Ol;go_wp2_with fail;go_roundw
      case rel=>exact⟨j+1,a9,c9,HJM.o,by go_num,by rw[ZX.o];go_num,by rw[HYB.o],by rw[HYB.o];exact TA.o,HB96.o⟩
      case measure=>have:=HJM.o;simp[intOf];omega
     ·have hpp:(e.1==q.1)=false:=by simpa using hp
      obtain⟨hyb,hyn⟩:=Yw HX.o hp;have HYB:=acA hyb;have ZX:=acA hyn;clear hp hyb hyn hBw;go_wp2_with fail
      go_quiet (fail)
      go_wp2_with fail;go_roundw
      case rel=>exact⟨j+1,a7,c7,HJM.o,by go_num,by rw[ZX.o],by rw[HYB.o],by rw[HYB.o];exact own_below Rz.o ⟨rfl,rfl,rfl,Nat.le_refl _,fun _ _=>rfl⟩,wZ.o.trans ⟨rfl,rfl,rfl,Nat.le_refl _,fun _ _=>rfl⟩⟩
      case measure=>have:=HJM.o;simp[intOf];omega
    ·have hd2:decide (j<M)=false:=by simpa using hjm
     obtain rfl:j=M:=by omega
     rw[←HCB.o]at qO⊢;rw[←HCN.o];have Rz:=acA qO;have G7:=acA hBw;have HO6B:=acA (own_below RA.o EJ);clear qO EJ hBw hjm hel hen;go_wp2_with fail;refine(HY3.o _ _ _ _ HO6B.o).mono ?_;rintro e w8 ⟨a8,c8,rfl,sV,sP⟩;have hbw8:Below w.heap.size w w8:=G7.o.trans (sP.mono G7.o.size);have Gd:=acA ((dF Rz.o).below sP acC);have zL:=acA (vW sV G7.o.size);have rD:=acA hbw8;have HG8:acB (∀b,(Value.slice a8 L3.length c8).ownBlock=some b→w.heap.size≤b):=fun b hb=>MS (vW sV G7.o.size) hb;obtain⟨i8,hi⟩:∃i,Tryz.prog.info? 5=some i∧i.zero=some (.int .u8 0)∧i.size=1∧i.bytes=1:=aap (by kernel_rfl);have HI:=acA hi;have hl3:=HL3.o;obtain⟨n3,SA⟩:∃n,n=L3.length:=⟨_,rfl⟩;obtain⟨n7,hn7⟩:∃n,n=cb.length:=⟨_,rfl⟩;rw[←SA]at hl3 zL HG8⊢;rw[←hn7]at Gd hcbl⊢;have HN3:=acA SA;have HN7:=acA hn7;have IG:=hbw8.size;have hl3i:n3≤L0.length+22+nb:=Nat.le_of_eq hl3;clear sV sP hbw8 hi SA hn7 hl3;go_wp2_with (at_builtin;go_loud (refine aS rfl _ _ 28 rfl w.heap.size 5 i8 _ 1 Tryz.underlying28 HI.o.1 HI.o.2.1 HI.o.2.2.1 HI.o.2.2.2 rfl _ n3 (L3.map bv) rfl zL.o a7 n7 c7 (cb.map bv) rfl Gd.o (eZ cb) (by unfold maxLen;omega) (by omega) IG ?_;intro A9 c9 u9 nS Tz _ GX;have HG9:=acA (eG Tz HG8.o rD.o);have TA:=acA nS;clear nS Tz GX));go_roundw
     case rel=>
      have e8:(uE T (k+1)).length=n3+n7:=by rw[nD.o,List.length_append,HN3.o,HN7.o]
      refine⟨k+1,A9,c9,HKL.o,by go_num,by rw[e8],?_,HG9.o⟩;rw[e8,nD.o,List.map_append];exact TA.o
     case measure=>have:=HKL.o;simp only[intOf];omega
  ·have hd1:decide (k<N)=false:=by simpa using hlt
   have HO:=acA hown;have HB:=acA hB;have hkN:T.length≤k:=by have:=lG.o;omega
   have II:=acA (HSA.o k hkN);clear hown hB hkN;go_wp2_with fail;go_ret;have e1:=II.o;rw[←e1];exact⟨a,c,rfl,HO.o,HB.o⟩
end
end Go.Proofs.YtjnhnlabpccgjaaGreatDoor
