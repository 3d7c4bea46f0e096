/- permafrostref10.Encode. The reference's Save. -/
import Derived.Test.YtjnhnlabpccgjaaGreatM30
import Derived.Test.YtjnhnlabpccgjaaGreatM13
import Derived.Test.YtjnhnlabpccgjaaGreatM19
import Derived.Test.YtjnhnlabpccgjaaGreatM18
import Derived.Test.YtjnhnlabpccgjaaGreatM25
import Derived.BigQuiet
import Derived.Deep.QuietTactic
namespace Go.Proofs.YtjnhnlabpccgjaaGreat
open Go.ChangeShapes Go.WideShapes Go.ChangeAt Go.RowKit
set_option linter.unusedVariables false
set_option linter.unusedSimpArgs false
theorem Aa {w:World} {B B':Nat} {e:TypeId} {k:Nat} {v:Value} {n:Nat} {xs:List Value} (h:w.ownsRow B' e k v n xs) (hb:B≤B'):w.ownsRow B e k v n xs:=by
 obtain⟨h1,h2⟩:=h
 refine⟨h1,h2.imp id ?_⟩
 rintro ⟨g,cap,cur,e1,e2,e3⟩
 exact⟨g,cap,cur,e1,Nat.le_trans hb e2,e3⟩
theorem eT {w:World} {B:Nat} {a:Option Addr} {c:Nat} {bs:List UInt8} (h:w.ownsRow B 5 1 (.slice a bs.length c) bs.length (bs.map bv)):ah (fun x=>B≤x∧x<w.heap.size) w a bs.length (bs.map bv):=(ah.lg h).2
theorem SC (k:Int) (x:bq):oC k x=(((((dR k 2++dR x.kind 1)++dR x.links 2)++dR x.b.length 2)++dR x.aP 8)++nu x.closed):=rfl
set_option maxHeartbeats 4000000 in
theorem Il (k:Int) (x:bq) (h1:Gh x) (hk:0≤k) (hk':k≤65535) (w:World):Calls Tryz.prog 54 #[mI k x] w (eO w (oC k x)):=by
 obtain⟨l0,l1⟩:=h1.links
 obtain⟨t0,t1⟩:=h1.aP
 have hb:=h1.size
 have hkd:0≤x.kind∧x.kind≤2:=by rcases h1.kind with h|h<;>omega
 obtain⟨kd0,kd1⟩:=hkd
 rw[SC]
 obtain⟨n,hn⟩:∃n:Nat,n=x.b.length:=⟨_,rfl⟩
 rw[←hn]at hb
 unfold mI
 rw[←hn]
 clear h1 hn
 obtain⟨L1,hL1⟩:∃L,L=dR k 2:=⟨_,rfl⟩
 have hl1:L1.length=2:=by rw[hL1];rfl
 have pK:Hid (∀w':World,Calls Tryz.prog 52 #[.slice none 0 0, .int .i64 k] w' (eO w' L1)):=fun w'=>by rw[hL1];exact je (S:=fun _=>True) none 0 0 [] k w' (ah.nil _ _ _) (by omega) hk (by omega)
 obtain⟨L2,hL2⟩:∃L,L=L1++dR x.kind 1:=⟨_,rfl⟩
 have hl2:L2.length=3:=by rw[hL2,List.length_append,hl1];rfl
 have HS2:Hid (∀(B:Nat) (w':World) (a:Option Addr) (c:Nat),w'.ownsRow B 5 1 (.slice a L1.length c) L1.length (L1.map bv)→Calls Tryz.prog 116 #[.slice a L1.length c, .int .i64 x.kind] w' (eO w' L2)):=fun B w' a c h=>by rw[hL2];exact tV a _ c _ x.kind w' (eT h) (by omega) kd0 (by omega)
 obtain⟨L3,hL3⟩:∃L,L=L2++dR x.links 2:=⟨_,rfl⟩
 have hl3:L3.length=5:=by rw[hL3,List.length_append,hl2];rfl
 have xG:Hid (∀(B:Nat) (w':World) (a:Option Addr) (c:Nat),w'.ownsRow B 5 1 (.slice a L2.length c) L2.length (L2.map bv)→Calls Tryz.prog 52 #[.slice a L2.length c, .int .i64 x.links] w' (eO w' L3)):=fun B w' a c h=>by rw[hL3];exact je a _ c _ x.links w' (eT h) (by omega) l0 (by omega)
 obtain⟨L4,hL4⟩:∃L,L=L3++dR (n:Int) 2:=⟨_,rfl⟩
 have hl4:L4.length=7:=by rw[hL4,List.length_append,hl3];rfl
 have pI:Hid (∀(B:Nat) (w':World) (a:Option Addr) (c:Nat),w'.ownsRow B 5 1 (.slice a L3.length c) L3.length (L3.map bv)→Calls Tryz.prog 52 #[.slice a L3.length c, .int .i64 (n:Int)] w' (eO w' L4)):=fun B w' a c h=>by rw[hL4];exact je a _ c _ (n:Int) w' (eT h) (by omega) (by omega) (by omega)
 obtain⟨L5,hL5⟩:∃L,L=L4++dR x.aP 8:=⟨_,rfl⟩
 have hl5:L5.length=15:=by rw[hL5,List.length_append,hl4];rfl
 have yc:Hid (∀(B:Nat) (w':World) (a:Option Addr) (c:Nat),w'.ownsRow B 5 1 (.slice a L4.length c) L4.length (L4.map bv)→Calls Tryz.prog 118 #[.slice a L4.length c, .int .u64 x.aP] w' (eO w' L5)):=fun B w' a c h=>by rw[hL5];exact Ig a _ c _ x.aP w' (eT h) (by omega) t0 (by omega)
 obtain⟨L6,hL6⟩:∃L,L=L5++nu x.closed:=⟨_,rfl⟩
 have hl6:L6.length=16:=by rw[hL6,List.length_append,hl5];rfl
 have OU:Hid (∀(B:Nat) (w':World) (a:Option Addr) (c:Nat),w'.ownsRow B 5 1 (.slice a L5.length c) L5.length (L5.map bv)→Calls Tryz.prog 117 #[.slice a L5.length c, .bool x.closed] w' (eO w' L6)):=fun B w' a c h=>by rw[hL6];exact Ie a _ c _ x.closed w' (eT h) (by omega)
 rw[←hL1,←hL2,←hL3,←hL4,←hL5,←hL6]
 clear hL6 hL5 hL4 hL3 hL2 hL1
 clear hl1 hl2 hl3 hl4 hl5 hl6
 have HQ:Hid (∀w',Below (w.alloc (.cells #[.int .i64 k, .int .i64 x.kind, .int .i64 x.links, .int .i64 (n:Int), .int .u64 x.aP, .bool x.closed] 101)).heap.size (w.alloc (.cells #[.int .i64 k, .int .i64 x.kind, .int .i64 x.links, .int .i64 (n:Int), .int .u64 x.aP, .bool x.closed] 101)) w'→∀j,w'.cell? ⟨w.heap.size,j,none⟩=(#[.int .i64 k, .int .i64 x.kind, .int .i64 x.links, .int .i64 (n:Int), .int .u64 x.aP, .bool x.closed]:Array Value)[j]?):=fun w' hb j=>by
  rw[hb.cell (p:=⟨w.heap.size,j,none⟩) (by simp)]
  exact bU (MapKept.heap_alloc w _).1 j
 have tH:=Lib.hid (wall w (.cells #[.int .i64 k, .int .i64 x.kind, .int .i64 x.links, .int .i64 (n:Int), .int .u64 x.aP, .bool x.closed] 101))
 go_enter Tryz.func54,Tryz.ntmps54
 go_wp2_with fail
 generalize (w.alloc (.cells #[.int .i64 k, .int .i64 x.kind, .int .i64 x.links, .int .i64 (n:Int), .int .u64 x.aP, .bool x.closed] 101))=wa at*
 have hza:=tH.out.size
 refine Ue ((fun w'=>w'.cell? ⟨w.heap.size,0,none⟩=some (.int .i64 k)∧w'.cell? ⟨w.heap.size,1,none⟩=some (.int .i64 x.kind)∧w'.cell? ⟨w.heap.size,2,none⟩=some (.int .i64 x.links))) ?_ fun hS=> ?_
 ·exact⟨HQ.out _ (Below.refl _ _).drew 0,HQ.out _ (Below.refl _ _).drew 1,HQ.out _ (Below.refl _ _).drew 2⟩
 refine fA 0 hS ?_
 refine fA 1 hS ?_
 refine fA 3 hS ?_
 refine fA 4 hS ?_
 refine fA 6 hS ?_
 refine fA 7 hS ?_
 refine zi 2 fun K hK=> ?_
 go_simp
 (with_reducible refine(pK.out _).mono ?_)
 rintro e w1 ⟨a1,c1,rfl,hown1,hb1'⟩
 have hb1:Below wa.heap.size wa w1:=(Below.refl _ _).drew.trans hb1'
 go_simp
 refine zl hK (⟨HQ.out _ hb1 0,HQ.out _ hb1 1,HQ.out _ hb1 2⟩) fun hS=> ?_
 clear hK K
 refine zi 5 fun K hK=> ?_
 go_simp
 (with_reducible refine(HS2.out _ _ _ _ hown1).mono ?_)
 rintro e w2 ⟨a2,c2,rfl,hown2,hb2'⟩
 have hb2:Below wa.heap.size wa w2:=hb1.trans (hb2'.mono hb1.size)
 go_simp
 refine zl hK (⟨HQ.out _ hb2 0,HQ.out _ hb2 1,HQ.out _ hb2 2⟩) fun hS=> ?_
 clear hK K
 refine zi 8 fun K hK=> ?_
 go_simp
 (with_reducible refine(xG.out _ _ _ _ hown2).mono ?_)
 rintro e w3 ⟨a3,c3,rfl,hown3,hb3'⟩
 have hb3:Below wa.heap.size wa w3:=hb2.trans (hb3'.mono hb2.size)
 go_simp
 refine zl hK (⟨HQ.out _ hb3 0,HQ.out _ hb3 1,HQ.out _ hb3 2⟩) fun hS=> ?_
 clear hK K
 refine zi 9 fun K hK=> ?_
 go_simp
 refine zl hK (⟨HQ.out _ hb3 0,HQ.out _ hb3 1,HQ.out _ hb3 2⟩) fun hS=> ?_
 clear hK K
 refine Ud ?_
 go_wp2_with fail
 have WE:w3.drew.ownsRow w2.heap.size 5 1 (.slice a3 L3.length c3) L3.length (L3.map bv):=hown3
 refine Ue ((fun w'=>w'.cell? ⟨w.heap.size,3,none⟩=some (.int .i64 (n:Int))∧w'.cell? ⟨w.heap.size,4,none⟩=some (.int .u64 x.aP)∧w'.cell? ⟨w.heap.size,5,none⟩=some (.bool x.closed))) ?_ fun hS=> ?_
 ·exact⟨HQ.out _ hb3.drew 3,HQ.out _ hb3.drew 4,HQ.out _ hb3.drew 5⟩
 refine fA 0 hS ?_
 refine fA 1 hS ?_
 refine fA 2 hS ?_
 refine fA 4 hS ?_
 refine fA 5 hS ?_
 refine fA 7 hS ?_
 refine fA 8 hS ?_
 refine zi 3 fun K hK=> ?_
 go_simp
 (with_reducible refine(pI.out _ _ _ _ WE).mono ?_)
 rintro e w4 ⟨a4,c4,rfl,kQ,PG⟩
 have hb4:Below wa.heap.size wa w4:=hb3.drew.trans (PG.mono hb3.size)
 go_simp
 refine zl hK (⟨HQ.out _ hb4 3,HQ.out _ hb4 4,HQ.out _ hb4 5⟩) fun hS=> ?_
 clear hK K
 refine zi 6 fun K hK=> ?_
 go_simp
 (with_reducible refine(yc.out _ _ _ _ kQ).mono ?_)
 rintro e w5 ⟨a5,c5,rfl,hown5,SE⟩
 have hb5:Below wa.heap.size wa w5:=hb4.trans (SE.mono hb4.size)
 go_simp
 refine zl hK (⟨HQ.out _ hb5 3,HQ.out _ hb5 4,HQ.out _ hb5 5⟩) fun hS=> ?_
 clear hK K
 refine zi 9 fun K hK=> ?_
 go_simp
 (with_reducible refine(OU.out _ _ _ _ hown5).mono ?_)
 rintro e w6 ⟨a6,c6,rfl,hown6,SF⟩
 have hb6:Below wa.heap.size wa w6:=hb5.trans (SF.mono hb5.size)
 go_simp
 refine zl hK (⟨HQ.out _ hb6 3,HQ.out _ hb6 4,HQ.out _ hb6 5⟩) fun hS=> ?_
 clear hK K
 refine zi 10 fun K hK=> ?_
 go_simp
 refine zl hK (⟨HQ.out _ hb6 3,HQ.out _ hb6 4,HQ.out _ hb6 5⟩) fun hS=> ?_
 clear hK K
 refine Ud ?_
 go_wp2_with fail
 go_ret
 exact⟨a6,c6,rfl,Aa hown6 (by have:=hb5.size;have:=tH.out.size;omega),tH.out.trans (hb6.mono tH.out.size)⟩
def SG (e:jm):List UInt8:=lF e.2.1++dR e.2.2 2
def mJ (E:List jm) (id:Int) (k:Nat):List UInt8:=((E.take k).filter fun e=>decide (e.1=id)).flatMap SG
def pz (E:List jm) (id:Int) (k:Nat):Nat:=((E.take k).filter fun e=>decide (e.1=id)).length
theorem PI {E:List jm} {id:Int} {k:Nat} {e:jm} (hx:E[k]? =some e) (he:e.1=id):mJ E id (k+1)=mJ E id k++lF e.2.1++dR e.2.2 2∧pz E id (k+1)=pz E id k+1:=by
 obtain⟨hk,h⟩:=List.getElem?_eq_some_iff.1 hx
 unfold mJ pz
 rw[List.take_succ_eq_append_getElem hk,List.filter_append,h]
 simp[he,SG]
theorem SH {E:List jm} {id:Int} {k:Nat} {e:jm} (hx:E[k]? =some e) (he:e.1≠id):mJ E id (k+1)=mJ E id k∧pz E id (k+1)=pz E id k:=by
 obtain⟨hk,h⟩:=List.getElem?_eq_some_iff.1 hx
 unfold mJ pz
 rw[List.take_succ_eq_append_getElem hk,List.filter_append,h]
 simp[he]
theorem PK {T:aA} {id:Int} {x:bq} (hs:aC fQ T) (hx:aj id T=some x) {k:Nat} (hk:(aS T).length≤k):mJ (aS T) id k=x.names.flatMap Ez∧pz (aS T) id k=x.names.length:=by
 unfold mJ pz
 rw[List.take_of_length_le hk,Jv hs hx,List.length_map,List.flatMap_map]
 exact⟨rfl,rfl⟩
theorem LK {E:List jm} (hg:∀e∈E,e.2.1.length≤16) (id:Int) (k:Nat):(mJ E id k).length≤20*k∧pz E id k≤k:=by
 have h2:(E.take k).length≤k:=List.length_take_le _ _
 have h3:=List.length_filter_le (fun e:jm=>decide (e.1=id)) (E.take k)
 refine⟨?_,by unfold pz;omega⟩
 have h1:∀L:List jm,(∀e∈L,e.2.1.length≤16)→(L.flatMap SG).length≤20*L.length:=fun L hL=>by
  induction L with
  |nil=>simp
  |cons e r ih=>
   have h4:=hL e (by simp)
   have h5:=ih fun y hy=>hL y (by simp[hy])
   simp only[List.flatMap_cons,List.length_append,List.length_cons,SG,kL,bO]
   omega
 have h6:=h1 ((E.take k).filter fun e=>decide (e.1=id)) fun e he=>hg e (List.mem_of_mem_take (List.mem_filter.1 he).1)
 unfold mJ
 omega
def qg (T:aA) (k:Nat):List UInt8:=dR T.length 2++(T.take k).flatMap fun q=>iV q.1 q.2
theorem LM {T:aA} {k:Nat} {q:Int×bq} (hx:T[k]? =some q):qg T (k+1)=qg T k++iV q.1 q.2:=by
 obtain⟨hk,h⟩:=List.getElem?_eq_some_iff.1 hx
 unfold qg
 rw[List.take_succ_eq_append_getElem hk,List.flatMap_append,h,List.flatMap_cons,List.flatMap_nil,List.append_nil,List.append_assoc]
theorem PL {T:aA} {k:Nat} (hk:T.length≤k):qg T k=bZ T:=by
 unfold qg bZ
 rw[List.take_of_length_le hk]
theorem PN {T:aA} (hT:eH T) (k:Nat):(qg T k).length≤6000000:=by
 have h1:=rX hT (T.take k) (fun q hq=>List.mem_of_mem_take hq)
 have h2:=hT.len
 have h3:(T.take k).length≤T.length:=by rw[List.length_take];omega
 unfold qg
 rw[List.length_append,bO]
 omega
section
variable {F:Nat→Prop} {r:Nat} {T:aA}
set_option maxRecDepth 100000 in
set_option maxHeartbeats 16000000 in
theorem LP (w:World) (h:kW F w r T) (hT:eH T):Calls Tryz.prog 15 #[ptr r] w (eO w (bZ T)):=by
 obtain⟨aN,cN,aD,cD,aE,cE,h1,h2,h3,h4,hN,hD,hE,-⟩:=h.head
 have hrw:=h.low r h.own
 have hlen:=hT.len
 have hef:=nG hT
 have HT:=Lib.hid hT
 have HG:Hid (∀e∈aS T,e.2.1.length≤16):=fun e he=>by
  obtain⟨q,hq,hk,hm⟩:=Dh he
  exact kg ((hT.each _ _ (aI bH hT.sorted hq)).good _ hm)
 have Sz:Hid (∀k,T.length≤k→qg T k=bZ T):=fun k hk=>PL hk
 have hdl:(T.map fun q=>q.2.b).length=T.length:=List.length_map _
 rw[hdl]at h1 h3
 obtain⟨N,hNe⟩:∃N,N=T.length:=⟨_,rfl⟩
 obtain⟨E,hEe⟩:∃E,E=aS T:=⟨_,rfl⟩
 rw[←hEe]at h1 h4 hE hef HG
 obtain⟨M,hMe⟩:∃M,M=E.length:=⟨_,rfl⟩
 rw[←hNe]at h1 h2 h3 hN hlen
 rw[←hMe]at h1 h4 hE hef
 have iM:=Lib.hid hNe
 have TK:=Lib.hid hMe
 have YB:=Lib.hid hEe
 have XO:=Lib.hid hN
 have PO:=Lib.hid hD
 have BR:=Lib.hid hE
 have HC:Hid (∀w',Below w.heap.size w w'→w'.cell? ⟨r,0,none⟩=some (.slice aN N cN)∧w'.cell? ⟨r,1,none⟩=some (.slice aD N cD)∧w'.cell? ⟨r,2,none⟩=some (.slice aE M cE)):=fun w' hb=>by
  have hh:=(hb.block r hrw).trans h1
  refine⟨?_,?_,?_⟩<;>simp[World.cell?,hh]
 have c0:=(HC.out w (Below.refl _ _)).1
 have HS0:Hid (∀w':World,Calls Tryz.prog 52 #[.slice none 0 0, .int .i64 (N:Int)] w' (eO w' (qg T 0))):=fun w'=>by
  have e1:qg T 0=[]++dR (N:Int) 2:=by unfold qg;rw[hNe];simp
  rw[e1]
  exact je (S:=fun _=>True) none 0 0 [] (N:Int) w' (ah.nil _ _ _) (by omega) (by omega) (by omega)
 clear h hT h1 hN hD hE hdl hNe hMe hEe
 go_enter Tryz.func15,Tryz.ntmps15
 go_wp2_with fail
 (with_reducible refine(HS0.out _).mono ?_)
 rintro e w1 ⟨a1,c1,rfl,hown1,hb1⟩
 have rD:=Lib.hid hown1
 have HB1:=Lib.hid hb1
 clear hown1 hb1 c0
 go_wp2_with fail
 go_loopw [3,4] (fun bvv iv wr=>∃(k:Nat) (a:Option Addr) (c:Nat),k≤N∧iv= .int .i64 k∧bvv= .slice a (qg T k).length c∧wr.ownsRow w.heap.size 5 1 (.slice a (qg T k).length c) (qg T k).length ((qg T k).map bv)∧Below w.heap.size w wr) (fun _ iv _=>N-(intOf iv).toNat)
 case atStart=>exact⟨0,a1,c1,Nat.zero_le _,rfl,rfl,rD.out,HB1.out⟩
 case round=>
  obtain⟨k,a,c,hk,rfl,rfl,hown,hB⟩:=hrel
  have ZQ:=hB.size
  have c0:=(HC.out _ hB).1
  by_cases hlt:k<N
  ·have hd1:decide (k<N)=true:=by simpa using hlt
   have hx:T[k]? =some (T[k]'(by have:=iM.out;omega)):=List.getElem?_eq_getElem _
   obtain⟨q,hq⟩:∃q,q=T[k]'(by have:=iM.out;omega):=⟨_,rfl⟩
   rw[←hq]at hx
   have HX:=Lib.hid hx
   have PS:aj q.1 T=some q.2:=aI bH HT.out.sorted (List.mem_of_getElem? hx)
   have hok:=HT.out.each _ _ PS
   obtain⟨id0,id1⟩:=HT.out.ids _ _ PS
   have hsz:=hok.size
   obtain⟨bN,oN,rfl,-,hbN,-,Ga⟩:=XO.out.wide fB iM.out.symm hx (by omega)
   have HNC:Hid (∀w',Below w.heap.size w w'→w'.cell? ⟨bN,oN+k*6,none⟩=some (.int .i64 q.1)∧w'.cell? ⟨bN,oN+k*6+1,none⟩=some (.int .i64 q.2.kind)∧w'.cell? ⟨bN,oN+k*6+2,none⟩=some (.int .i64 q.2.links)∧w'.cell? ⟨bN,oN+k*6+3,none⟩=some (.int .i64 q.2.b.length)∧w'.cell? ⟨bN,oN+k*6+4,none⟩=some (.int .u64 q.2.aP)∧w'.cell? ⟨bN,oN+k*6+5,none⟩=some (.bool q.2.closed)):=fun w' hb=>by
    have hc:=fun j hj=>(hb.cell (p:=⟨bN,oN+k*6+j,none⟩) hbN).trans (Ga j hj)
    exact⟨hc 0 (by omega),hc 1 (by omega),hc 2 (by omega),hc 3 (by omega),hc 4 (by omega),hc 5 (by omega)⟩
   obtain⟨vs,hvr,hve⟩:=PO.out
   obtain⟨aB,cB,hvk,hcap,hrb⟩:=hve k q.2.b (by rw[List.getElem?_map,hx];rfl)
   obtain⟨bD,oD,rfl,-,hbD,hcD⟩:=hvr.at_ (by rw[List.length_map,←iM.out];omega)
   have HDC:Hid (∀w',Below w.heap.size w w'→w'.cell? ⟨bD,oD+k,none⟩=some (.slice aB q.2.b.length cB)):=fun w' hb=>
    ((hb.cell (p:=⟨bD,oD+k,none⟩) hbD).trans (hcD k (by rw[List.length_map,←iM.out];omega))).trans hvk
   have Fe:Hid (∀w',Below w.heap.size w w'→ah (Off F r) w' aB q.2.b.length (q.2.b.map bv)):=fun w' hb=>hrb.below hb (Nat.le_refl _)
   have hl0:=PN HT.out k
   obtain⟨L0,hL0⟩:∃L,L=qg T k:=⟨_,rfl⟩
   rw[←hL0]at hown hl0⊢
   obtain⟨EN,hEN⟩:∃L,L=oC q.1 q.2:=⟨_,rfl⟩
   have hle:EN.length=16:=by rw[hEN];exact jD _ _
   obtain⟨L1,hL1⟩:∃L,L=L0++lF EN:=⟨_,rfl⟩
   have hl1:L1.length=L0.length+18:=by rw[hL1,List.length_append,kL,hle]
   obtain⟨L2,hL2⟩:∃L,L=L1++lF q.2.b:=⟨_,rfl⟩
   obtain⟨nb,hnb⟩:∃n,n=q.2.b.length:=⟨_,rfl⟩
   rw[←hnb]at hsz HNC HDC Fe
   have hl2:L2.length=L0.length+20+nb:=by rw[hL2,List.length_append,kL,hl1,←hnb];omega
   have GX:Hid (∀w':World,Calls Tryz.prog 54 #[.agg #[.int .i64 q.1, .int .i64 q.2.kind, .int .i64 q.2.links, .int .i64 nb, .int .u64 q.2.aP, .bool q.2.closed]] w' (eO w' EN)):=fun w'=>by
    rw[hEN,hnb]
    exact Il q.1 q.2 hok id0 id1 w'
   have Rt:Hid (∀(B B':Nat) (w':World) (a a':Option Addr) (c c':Nat),w'.ownsRow B 5 1 (.slice a L0.length c) L0.length (L0.map bv)→w'.ownsRow B' 5 1 (.slice a' EN.length c') EN.length (EN.map bv)→Calls Tryz.prog 53 #[.slice a L0.length c, .slice a' EN.length c'] w' (eO w' L1)):=fun B B' w' a a' c c' h h'=>by
    rw[hL1]
    exact rJ a _ c L0 a' _ c' EN w' (eT h) (eT h') (by omega) (by omega)
   have Va:Hid (∀(B:Nat) (w':World) (a:Option Addr) (c:Nat),w'.ownsRow B 5 1 (.slice a L1.length c) L1.length (L1.map bv)→Below w.heap.size w w'→Calls Tryz.prog 53 #[.slice a L1.length c, .slice aB nb cB] w' (eO w' L2)):=fun B w' a c h hb=>by
    rw[hL2]
    have h9:=rJ a _ c L1 aB nb cB q.2.b w' (eT h) (Fe.out w' hb) (by omega) (by omega)
    rw[hnb]at h9⊢
    exact h9
   have HCE:=Lib.hid (PK HT.out.sorted PS (k:=M) (by rw[TK.out,YB.out];exact Nat.le_refl _))
   rw[←YB.out]at HCE
   have YF:=Lib.hid (fun j=>LK HG.out q.1 j)
   obtain⟨cb,hcb⟩:∃L,L=mJ E q.1 M:=⟨_,rfl⟩
   obtain⟨cn,hcn⟩:∃n,n=pz E q.1 M:=⟨_,rfl⟩
   obtain⟨Z6,hcnl⟩:=YF.out M
   rw[←hcb]at Z6
   rw[←hcn]at hcnl
   obtain⟨L3,hL3⟩:∃L,L=L2++dR (cn:Int) 2:=⟨_,rfl⟩
   have hl3:L3.length=L0.length+22+nb:=by rw[hL3,List.length_append,bO,hl2];omega
   have Xw:Hid (∀(B:Nat) (w':World) (a:Option Addr) (c:Nat),w'.ownsRow B 5 1 (.slice a L2.length c) L2.length (L2.map bv)→Calls Tryz.prog 52 #[.slice a L2.length c, .int .i64 (cn:Int)] w' (eO w' L3)):=fun B w' a c h=>by
    rw[hL3]
    exact je a _ c L2 (cn:Int) w' (eT h) (by omega) (by omega) (by omega)
   have xQ:Hid (qg T (k+1)=L3++cb):=by
    show qg T (k+1)=L3++cb
    rw[LM hx,←hL0,hL3,hL2,hL1,hEN,hcb,hcn,HCE.out.1,HCE.out.2]
    unfold iV
    simp only[List.append_assoc]
   have HO:=Lib.hid hown
   have HB:=Lib.hid hB
   have HKL:=Lib.hid hlt
   have HL3:=Lib.hid hl3
   have HL2:=Lib.hid hl2
   have Z7:=Lib.hid hcb
   have HCN:=Lib.hid hcn
   have hk0:(0:Int)≤(k:Int):=by omega
   have hk1:(k:Int)<(N:Int):=by omega
   have hl0':=hl0
   have HH:Hid (∀w',Below w.heap.size w w'→w'.cell? ⟨r,0,none⟩=some (.slice (some ⟨bN,oN,none⟩) N cN)∧w'.cell? ⟨r,1,none⟩=some (.slice (some ⟨bD,oD,none⟩) N cD)∧w'.cell? ⟨bN,oN+k*6,none⟩=some (.int .i64 q.1)∧w'.cell? ⟨bN,oN+k*6+1,none⟩=some (.int .i64 q.2.kind)∧w'.cell? ⟨bN,oN+k*6+2,none⟩=some (.int .i64 q.2.links)∧w'.cell? ⟨bN,oN+k*6+3,none⟩=some (.int .i64 nb)∧w'.cell? ⟨bN,oN+k*6+4,none⟩=some (.int .u64 q.2.aP)∧w'.cell? ⟨bN,oN+k*6+5,none⟩=some (.bool q.2.closed)∧w'.cell? ⟨bD,oD+k,none⟩=some (.slice aB nb cB)):=fun w' hb=>by
    obtain⟨y0,y1,-⟩:=HC.out w' hb
    obtain⟨n0,n1,n2,n3,n4,n5⟩:=HNC.out w' hb
    exact⟨y0,y1,n0,n1,n2,n3,n4,n5,HDC.out w' hb⟩
   clear hx hq PS hok hvr hve hvk hcap hrb hcD Ga hL0 hEN hle hL1 hl1 hL2 hl2 hnb hcb hcn hL3 hl3 hown hB hlt hl0
   go_wp2_with fail
   refine Ue ((fun w'=>w'.cell? ⟨r,0,none⟩=some (.slice (some ⟨bN,oN,none⟩) N cN)∧w'.cell? ⟨r,1,none⟩=some (.slice (some ⟨bD,oD,none⟩) N cD)∧w'.cell? ⟨bN,oN+k*6,none⟩=some (.int .i64 q.1)∧w'.cell? ⟨bN,oN+k*6+1,none⟩=some (.int .i64 q.2.kind)∧w'.cell? ⟨bN,oN+k*6+2,none⟩=some (.int .i64 q.2.links)∧w'.cell? ⟨bN,oN+k*6+3,none⟩=some (.int .i64 nb)∧w'.cell? ⟨bN,oN+k*6+4,none⟩=some (.int .u64 q.2.aP)∧w'.cell? ⟨bN,oN+k*6+5,none⟩=some (.bool q.2.closed)∧w'.cell? ⟨bD,oD+k,none⟩=some (.slice aB nb cB))) ?_ fun hS=> ?_
   ·exact HH.out _ HB.out.drew
   refine fA 0 hS ?_
   refine fA 1 hS ?_
   refine fA 2 hS ?_
   refine fA 3 hS ?_
   refine fA 4 hS ?_
   refine fA 5 hS ?_
   refine fA 6 hS ?_
   refine fA 7 hS ?_
   refine fA 10 hS ?_
   refine fA 11 hS ?_
   refine fA 12 hS ?_
   refine fA 13 hS ?_
   refine fA 14 hS ?_
   refine fA 15 hS ?_
   refine fA 16 hS ?_
   refine zi 8 fun K hK=> ?_
   go_simp
   (with_reducible refine(GX.out _).mono ?_)
   rintro e w4 ⟨a4,c4,rfl,kQ,PG⟩
   have hb4:Below w.heap.size w w4:=HB.out.drew.trans (PG.mono ZQ)
   have Ox:=Lib.hid kQ
   have Sj:=Lib.hid (own_below (w:=wr.drew) (w':=w4) HO.out PG)
   clear kQ
   go_simp
   refine zl hK (HH.out _ hb4) fun hS=> ?_
   clear hK K
   refine zi 9 fun K hK=> ?_
   go_simp
   (with_reducible refine(Rt.out _ _ _ _ _ _ _ Sj.out Ox.out).mono ?_)
   rintro e w5 ⟨a5,c5,rfl,hown5,SE⟩
   have hb5:Below w.heap.size w w5:=hb4.trans (SE.mono hb4.size)
   have Ui:=Lib.hid hown5
   clear hown5
   go_simp
   refine zl hK (HH.out _ hb5) fun hS=> ?_
   clear hK K
   refine zi 17 fun K hK=> ?_
   go_simp
   (with_reducible refine(Va.out _ _ _ _ Ui.out hb5).mono ?_)
   rintro e w6 ⟨a6,c6,rfl,hown6,SF⟩
   have hb6:Below w.heap.size w w6:=hb5.trans (SF.mono hb5.size)
   have YS:=Lib.hid (Aa hown6 (Nat.zero_le _))
   clear hown6
   go_simp
   refine zl hK (HH.out _ hb6) fun hS=> ?_
   clear hK K
   refine zi 18 fun K hK=> ?_
   go_simp
   refine zl hK (HH.out _ hb6) fun hS=> ?_
   clear hK K
   refine Ud ?_
   have DR:=Lib.hid hb6
   have hs6:=hb6.size
   clear PG SE SF hb4 hb5 hb6
   go_wp2_with fail
   obtain⟨wo,rfl⟩:∃wo:World,wo=wr:=⟨_,rfl⟩
   go_loopw [5,6,7] (fun nv lv kv wr=>∃(j:Nat) (a:Option Addr) (c:Nat),j≤M∧kv= .int .i64 j∧nv= .int .i64 (pz E q.1 j)∧lv= .slice a (mJ E q.1 j).length c∧wr.ownsRow w6.heap.size 5 1 (.slice a (mJ E q.1 j).length c) (mJ E q.1 j).length ((mJ E q.1 j).map bv)∧Below w6.heap.size w6 wr) (fun _ _ kv _=>M-(intOf kv).toNat)
   case atStart=>exact⟨0,none,0,Nat.zero_le _,rfl,rfl,rfl,⟨rfl, .inl ⟨rfl,rfl⟩⟩,Below.refl _ _⟩
   case round=>
    obtain⟨j,a7,c7,hj,rfl,rfl,rfl,wY,AJ⟩:=hrel
    have hBs7:=AJ.size
    have hBw:Below w.heap.size w wr:=DR.out.trans (AJ.mono hs6)
    have y2:=(HC.out _ hBw).2.2
    obtain⟨hel,hen⟩:=YF.out j
    by_cases hjm:j<M
    ·have hd2:decide (j<M)=true:=by simpa using hjm
     have hx:E[j]? =some (E[j]'(by have:=TK.out;omega)):=List.getElem?_eq_getElem _
     obtain⟨e,he⟩:∃e,e=E[j]'(by have:=TK.out;omega):=⟨_,rfl⟩
     rw[←he]at hx
     have hnm:=HG.out e (List.mem_of_getElem? hx)
     obtain⟨bE,oE,rfl,-,hbE,-,hcE⟩:=BR.out.wide jE TK.out.symm hx (by omega)
     have HEC:Hid (∀w',Below w.heap.size w w'→w'.cell? ⟨bE,oE+j*3,none⟩=some (.int .i64 e.1)∧w'.cell? ⟨bE,oE+j*3+1,none⟩=some (.string (strOf e.2.1))∧w'.cell? ⟨bE,oE+j*3+2,none⟩=some (.int .i64 e.2.2)):=fun w' hb=>by
      have hc:=fun i hi=>(hb.cell (p:=⟨bE,oE+j*3+i,none⟩) hbE).trans (hcE i hi)
      exact⟨hc 0 (by omega),hc 1 (by omega),hc 2 (by omega)⟩
     have y0:=(HH.out _ hBw).1
     have n0:=(HH.out _ hBw).2.2.1
     have e0:=(HEC.out _ hBw).1
     have HJM:=Lib.hid hjm
     have hj0:(0:Int)≤(j:Int):=by omega
     have hj1:(j:Int)<(M:Int):=by omega
     have Uj:=Lib.hid wY
     have wS:=Lib.hid AJ
     have HX:=Lib.hid hx
     clear wY AJ hx he hcE hjm
     by_cases hp:e.1=q.1
     ·have hpp:(e.1==q.1)=true:=by simpa using hp
      obtain⟨hyb,hyn⟩:=PI HX.out hp
      obtain⟨C0,hC0⟩:∃L,L=mJ E q.1 j:=⟨_,rfl⟩
      obtain⟨C1,Uo⟩:∃L,L=C0++lF e.2.1:=⟨_,rfl⟩
      obtain⟨C2,hC2⟩:∃L,L=C1++dR e.2.2 2:=⟨_,rfl⟩
      rw[←hC0,←Uo,←hC2]at hyb
      rw[←hC0]at hel Uj⊢
      obtain⟨nm,WG⟩:∃nm,nm=e.2.1:=⟨_,rfl⟩
      rw[←WG]at hnm Uo
      have hlc1:C1.length≤20*j+18:=by rw[Uo,List.length_append,kL];omega
      obtain⟨Ux,SI⟩:∃Ux,Ux=e.2.2:=⟨_,rfl⟩
      have TS:0≤Ux∧Ux≤65535:=by
       have hm:e∈aS T:=by rw[←YB.out];exact List.mem_of_getElem? HX.out
       obtain⟨x,hx1,hx2⟩:=(lV HT.out.sorted).1 hm
       obtain⟨y,hy⟩:=Option.isSome_iff_exists.1 (HT.out.leads _ x hx1 e.2 hx2).1
       rw[SI]
       exact HT.out.ids _ _ hy
      obtain⟨hei0,hei1⟩:=TS
      obtain⟨dn,hdn⟩:∃n,n=pz E q.1 j:=⟨_,rfl⟩
      rw[←hdn]at hen hyn⊢
      have HZ2:Hid (∀(B:Nat) (w':World) (a:Option Addr) (c:Nat),w'.ownsRow B 5 1 (.slice a C1.length c) C1.length (C1.map bv)→Calls Tryz.prog 52 #[.slice a C1.length c, .int .i64 Ux] w' (eO w' C2)):=fun B w' a c h=>by
       rw[hC2,←SI]
       exact je a _ c C1 Ux w' (eT h) (by omega) hei0 (by omega)
      have HZ1:Hid (∀(B:Nat) (w':World) (a:Option Addr) (c:Nat) (a':Option Addr) (c':Nat) (S':Nat→Prop),w'.ownsRow B 5 1 (.slice a C0.length c) C0.length (C0.map bv)→ah S' w' a' nm.length (nm.map bv)→Calls Tryz.prog 53 #[.slice a C0.length c, .slice a' nm.length c'] w' (eO w' C1)):=fun B w' a c a' c' S' h h'=>by
       rw[Uo]
       exact rJ a _ c C0 a' _ c' nm w' (eT h) h' (by omega) (by omega)
      have Bd:Hid (∀w',Below w.heap.size w w'→w'.cell? ⟨r,2,none⟩=some (.slice (some ⟨bE,oE,none⟩) M cE)∧w'.cell? ⟨bE,oE+j*3+1,none⟩=some (.string (strOf nm))∧w'.cell? ⟨bE,oE+j*3+2,none⟩=some (.int .i64 Ux)):=fun w' hb=>by
       rw[WG,SI]
       exact⟨(HC.out w' hb).2.2,(HEC.out w' hb).2.1,(HEC.out w' hb).2.2⟩
      have Z8:=Lib.hid hyb
      have HYN:=Lib.hid hyn
      have Jq:=Lib.hid hBw
      clear hp hyb hyn hC0 Uo hC2 WG SI hdn hBw
      go_wp2_with fail
      go_quiet (fail)
      have G7:Hid (Below w.heap.size w (wr.drewN nq)):=Jq.out.trans ⟨rfl,rfl,rfl,Nat.le_refl _,fun _ _=>rfl⟩
      have Z9:Hid (Below w6.heap.size w6 (wr.drewN nq)):=wS.out.trans ⟨rfl,rfl,rfl,Nat.le_refl _,fun _ _=>rfl⟩
      have HO7Q:Hid ((wr.drewN nq).ownsRow w6.heap.size 5 1 (.slice a7 C0.length c7) C0.length (C0.map bv)):=own_below Uj.out ⟨rfl,rfl,rfl,Nat.le_refl _,fun _ _=>rfl⟩
      clear y0 n0 e0 y2 Uj Jq wS hBs7
      generalize wr.drewN nq=wq at*
      have hs7:=Z9.out.size
      go_wp2_with fail
      obtain⟨cn9,wc,hrun,hbc,hltc,Ua,hcells⟩:=EB wq.drew nm (by omega)
      have hrow:ah (fun b=>b=wq.heap.size) wc (some ⟨wq.heap.size,0,none⟩) nm.length (nm.map bv):=hcells
      have lS:=Lib.hid hrow
      have WH:Below w6.heap.size w6 wc:=Z9.out.drew.trans (hbc.mono hs7)
      have JD:Below w.heap.size w wc:=G7.out.drew.trans (hbc.mono G7.out.size)
      have HOC:Hid (wc.ownsRow w6.heap.size 5 1 (.slice a7 C0.length c7) C0.length (C0.map bv)):=own_below (w:=wq.drew) HO7Q.out hbc
      clear hcells hrow
      refine Ue ((fun w'=>w'.cell? ⟨r,2,none⟩=some (.slice (some ⟨bE,oE,none⟩) M cE)∧w'.cell? ⟨bE,oE+j*3+1,none⟩=some (.string (strOf nm))∧w'.cell? ⟨bE,oE+j*3+2,none⟩=some (.int .i64 Ux))) ?_ fun hS=> ?_
      ·exact Bd.out _ G7.out.drew
      refine fA 0 hS ?_
      refine fA 1 hS ?_
      refine fA 2 hS ?_
      refine fA 3 hS ?_
      refine fA 4 hS ?_
      refine fA 5 hS ?_
      refine fA 6 hS ?_
      refine fA 7 hS ?_
      refine fA 8 hS ?_
      refine fA 11 hS ?_
      refine fA 12 hS ?_
      refine fA 13 hS ?_
      refine fA 14 hS ?_
      refine fA 15 hS ?_
      refine fA 16 hS ?_
      refine fA 17 hS ?_
      refine fA 18 hS ?_
      refine zi 9 fun K hK=> ?_
      go_simp
      refine zl hK (Bd.out _ JD) fun hS=> ?_
      clear hK K
      refine zi 10 fun K hK=> ?_
      go_simp
      (with_reducible refine(HZ1.out _ _ _ _ _ _ _ HOC.out lS.out).mono ?_)
      rintro e w8 ⟨a8,c8,rfl,qG,WI⟩
      have Jh:Below w.heap.size w w8:=JD.trans (WI.mono JD.size)
      have SK:Below w6.heap.size w6 w8:=WH.trans (WI.mono WH.size)
      have MP:=Lib.hid qG
      clear qG
      go_simp
      refine zl hK (Bd.out _ Jh) fun hS=> ?_
      clear hK K
      refine zi 19 fun K hK=> ?_
      go_simp
      (with_reducible refine(HZ2.out _ _ _ _ MP.out).mono ?_)
      rintro e w9 ⟨a9,c9,rfl,nD,WJ⟩
      have yg:Below w.heap.size w w9:=Jh.trans (WJ.mono Jh.size)
      have Z_:Below w6.heap.size w6 w9:=SK.trans (WJ.mono SK.size)
      have RG:=Lib.hid (Aa nD SK.size)
      clear nD
      go_simp
      refine zl hK (Bd.out _ yg) fun hS=> ?_
      clear hK K
      refine zi 20 fun K hK=> ?_
      go_simp
      refine zl hK (Bd.out _ yg) fun hS=> ?_
      clear hK K
      refine Ud ?_
      have HB96:=Lib.hid Z_
      clear WI WJ Jh SK yg Z_ hrun hbc WH JD
      go_wp2_with fail
      go_roundw
      case rel=>exact⟨j+1,a9,c9,HJM.out,by go_num,by rw[HYN.out];go_num,by rw[Z8.out],by rw[Z8.out];exact RG.out,HB96.out⟩
      case measure=>have:=HJM.out;simp[intOf];omega
     ·have hpp:(e.1==q.1)=false:=by simpa using hp
      obtain⟨hyb,hyn⟩:=SH HX.out hp
      have Z8:=Lib.hid hyb
      have HYN:=Lib.hid hyn
      clear hp hyb hyn hBw
      go_wp2_with fail
      go_quiet (fail)
      go_wp2_with fail
      go_roundw
      case rel=>exact⟨j+1,a7,c7,HJM.out,by go_num,by rw[HYN.out],by rw[Z8.out],by rw[Z8.out];exact own_below Uj.out ⟨rfl,rfl,rfl,Nat.le_refl _,fun _ _=>rfl⟩,wS.out.trans ⟨rfl,rfl,rfl,Nat.le_refl _,fun _ _=>rfl⟩⟩
      case measure=>have:=HJM.out;simp[intOf];omega
    ·have hd2:decide (j<M)=false:=by simpa using hjm
     obtain rfl:j=M:=by omega
     rw[←Z7.out]at wY⊢
     rw[←HCN.out]
     have Uj:=Lib.hid wY
     have Jq:=Lib.hid hBw
     have HO6B:=Lib.hid (own_below YS.out AJ)
     clear wY AJ hBw hjm hel hen
     go_wp2_with fail
     (with_reducible refine(Xw.out _ _ _ _ HO6B.out).mono ?_)
     rintro e w8 ⟨a8,c8,rfl,qG,Jh⟩
     have WK:Below w.heap.size w w8:=Jq.out.trans (Jh.mono Jq.out.size)
     have SL:=Lib.hid ((eT Uj.out).below Jh (Nat.le_refl _))
     have MP:=Lib.hid (Aa qG Jq.out.size)
     have vK:=Lib.hid WK
     have HG8:Hid (∀b,(Value.slice a8 L3.length c8).ownBlock=some b→w.heap.size≤b):=fun b hb=>Ic (Aa qG Jq.out.size) hb
     obtain⟨i8,hi⟩:∃i,Tryz.prog.info? 5=some i∧i.zero=some (.int .u8 0)∧i.size=1∧i.bytes=1:=info_parts (by kernel_rfl)
     have HI:=Lib.hid hi
     have hl3:=HL3.out
     obtain⟨n3,Rc⟩:∃n,n=L3.length:=⟨_,rfl⟩
     obtain⟨n7,hn7⟩:∃n,n=cb.length:=⟨_,rfl⟩
     rw[←Rc]at hl3 MP HG8⊢
     rw[←hn7]at SL Z6⊢
     have XP:=Lib.hid Rc
     have HN7:=Lib.hid hn7
     have BM:=WK.size
     have hl3i:n3≤L0.length+22+nb:=Nat.le_of_eq hl3
     clear qG Jh WK hi Rc hn7 hl3
     go_wp2_with (at_builtin;go_loud (refine aO rfl _ _ 23 rfl w.heap.size 5 i8 _ 1 Tryz.underlying23 HI.out.1 HI.out.2.1 HI.out.2.2.1 HI.out.2.2.2 rfl _ n3 (L3.map bv) rfl MP.out a7 n7 c7 (cb.map bv) rfl SL.out (dH cb) (by unfold maxLen;omega) (by omega) BM ?_;intro A9 c9 u9 nD Oh _ He;have Vq:=Lib.hid (eU Oh HG8.out vK.out);have RG:=Lib.hid nD;clear nD Oh He))
     go_roundw
     case rel=>
      have e8:(qg T (k+1)).length=n3+n7:=by rw[xQ.out,List.length_append,XP.out,HN7.out]
      refine⟨k+1,A9,c9,HKL.out,by go_num,by rw[e8],?_,Vq.out⟩
      rw[e8,xQ.out,List.map_append]
      exact RG.out
     case measure=>have:=HKL.out;simp only[intOf];omega
  ·have hd1:decide (k<N)=false:=by simpa using hlt
   have HO:=Lib.hid hown
   have HB:=Lib.hid hB
   have hkN:T.length≤k:=by have:=iM.out;omega
   have Ye:=Lib.hid (Sz.out k hkN)
   clear hown hB hkN
   go_wp2_with fail
   go_ret
   have e1:=Ye.out
   rw[←e1]
   exact⟨a,c,rfl,HO.out,HB.out⟩
end
end Go.Proofs.YtjnhnlabpccgjaaGreat
